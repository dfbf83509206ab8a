import Derived.Test.YtpocgkiamgipdaaGreatDoorTac
import Derived.Deep.CutBlock
import Derived.ScopeJumps
set_option maxRecDepth 1000000
set_option maxHeartbeats 0
open Go.Proofs.Tryz
section
namespace Go.Pf
def LV (N PP m:Nat):Nat:=N %10^m*PP/10^m
theorem AU (m:Nat):0<10^m:=oe (by decide)
theorem Tr (N PP:Nat):LV N PP 0=0:=by simp[LV,Nat.mod_one]
theorem Ry (N PP m:Nat) (hp:0<PP):LV N PP m<PP:=by
 unfold LV;rw[mY (AU m)];rw[mR PP];exact mA (mw _ (AU m)) hp
theorem Kb (N m:Nat):N %10^(m+1)=N %10^m+10^m*(N/10^m %10):=by rw[l9,Nat.mod_mul]
theorem Pl (N PP m:Nat):LV N PP m+(N/10^m %10)*PP=N %10^(m+1)*PP/10^m:=by
 rw[Kb,mI,l5,mR (10^m) _,Nat.add_mul_div_right _ _ (AU m)];rfl
theorem O5 (N PP m:Nat):(LV N PP m+(N/10^m %10)*PP)/10=LV N PP (m+1):=by
 rw[Pl,mf,<-l9];rfl
theorem Ta (N PP m:Nat):(LV N PP m+(N/10^m %10)*PP) %10=N*PP/10^m %10:=by
 rw[Pl];have h1:N*PP=N %10^(m+1)*PP+10^m*(10*(N/10^(m+1)*PP)):=by
  have e:=oD N (10^(m+1))
  conv=>lhs;rw[<-e]
  rw[mI,pU,l9];congr 1;rw[l5,l5]
 rw[h1,Nat.add_mul_div_left _ _ (AU m),Nat.add_mul_mod_self_left]
theorem Ya {N nd m:Nat}(h:N<10^nd) (hm:nd<=m) (PP:Nat):LV N PP m=N*PP/10^m/\N/10^m %10=0:=by
 have h1:N<10^m:=lR h (lX (by decide) hm);unfold LV;rw[mv h1,nJ h1];exact⟨rfl,rfl⟩
theorem GN {A:Nat->Nat} :∀n,(∀i,i<n->A i<=57)->num A n<10^n
 |0,_=>by simp[num]
 |n+1,h=>by
  have h1:=GN n (fun i hi=>h i (by omega));have h2:=h n (by omega);rw[num,l9];omega
theorem Et {A:Nat->Nat} :∀n m,(∀i,i<n->A i<=57)->m<n->num A n/10^m %10=A (n-1-m)-48
 |0,m,_,hm=>by omega
 |n+1,0,h,_=>by
  have h2:=h n (by omega);rw[num,nC,Nat.div_one,nx,Nat.sub_zero];omega
 |n+1,m+1,h,hm=>by
  have h2:=h n (by omega);rw[num,l9,mR (10^m) 10,<-mf,show(num A n*10+(A n-48))/10=num A n by omega,Et n m (fun i hi=>h i (by omega)) (by omega)];congr 2;omega
theorem Ev {A:Nat->Nat}(hA:49<=A 0):∀n,10^n<=num A (n+1)
 |0=>by simp[num];omega
 |n+1=>by rw[num,l9];have:=Ev hA n;omega
theorem Xn {A:Nat->Nat} {X T:Nat}(hX:X<10^T):∀p,p<=T->(∀i,i<p->A i=48+X/10^(T-1-i) %10)->num A p=X/10^(T-p)
 |0,_,_=>by rw[num,Nat.sub_zero,nJ hX]
 |p+1,hp,h=>by
  rw[num,Xn hX p (by omega) (fun i hi=>h i (by omega)),h p (by omega)];have e1:T-p=(T-(p+1))+1:=by omega
  have e2:T-1-p=T-(p+1):=by omega
  rw[e1,e2,l9,<-mf];omega
def nT (A:Nat->Nat):Nat->Nat->Nat
 |_,0=>0
 |i,n+1=>(A i-48)*10^n+nT A (i+1) n
theorem KJ (A:Nat->Nat):∀n i,nT A i (n+1)=nT A i n*10+(A (i+n)-48)
 |0,i=>by simp[nT]
 |n+1,i=>by
  rw[nT,KJ A n (i+1),nT,l9,show i+1+n=i+(n+1) by omega,<-l5];omega
theorem Vz (A:Nat->Nat):∀n,nT A 0 n=num A n
 |0=>rfl
 |n+1=>by rw[KJ,Vz A n,num,me]
theorem XM {A:Nat->Nat} :∀n i,(∀j,i<=j->j<i+n->A j<=57)->nT A i n<10^n
 |0,_,_=>by simp[nT]
 |n+1,i,h=>by
  have h1:=XM n (i+1) (fun j a b=>h j (by omega) (by omega));have h2:=h i (nR _) (by omega);rw[nT,l9];have h3:(A i-48)*10^n<=9*10^n:=lV _ (by omega);omega
def vS:List UInt8->Nat
 | []=>0
 |c::r=>(c.toNat-48)*10^r.length+vS r
def dQ:List UInt8->Bool
 | []=>true
 |c::r=>Nat.ble 48 c.toNat&&Nat.ble c.toNat 57&&Nat.blt 0 (vS (c::r))&&dQ r
theorem cS:∀l,dQ l=true->vS l<10^l.length
 | [],_=>by simp[vS]
 |c::r,h=>by
  simp only[dQ,mJ,Nat.ble_eq]at h;have h1:=cS r h.2;rw[vS,nF,l9];have h3:(c.toNat-48)*10^r.length<=9*10^r.length:=lV _ (by omega);omega
theorem MH {d c a s n m:Nat}(h:d<c) (ha:a<10^n):(d*10^n+a)*10^(m+1)<(c*10^m+s)*10^(n+1):=by
 have h1:(d*10^n+a)<c*10^n:=by
  have:(d+1)*10^n<=c*10^n:=lV _ h;rw[mI]at this;omega
 have h2:(d*10^n+a)*10^(m+1)<c*10^n*10^(m+1):=mA h1 (AU _);have h3:c*10^n*10^(m+1)=c*10^m*10^(n+1):=by
  rw[l9,l9,l5,l5,Nat.mul_left_comm (10^n)]
 refine lR h2 ?_;rw[h3];exact lV _ (Nat.le_add_right _ _)
theorem Sg {A:Nat->Nat} {nd:Nat}(hd:∀i,i<nd->48<=A i/\A i<=57):
 ∀(l:List UInt8) (i n:Nat),dQ l=true->i+n=nd->(Qr A nd l i=true↔nT A i n*10^l.length<vS l*10^n)
 | [],i,n,_,_=>by simp[Qr,vS]
 |c::r,i,n,h,hn=>by
  have hk:=h;simp only[dQ,mJ,Nat.ble_eq,Nat.blt_eq]at h;obtain⟨⟨⟨c1,c2⟩,c3⟩,c4⟩:=h;cases n with
  |zero=>
   rw[Qr,lQ (by omega)];simp only[nT,oH,nC,nf];exact⟨fun _=>c3,fun _=>trivial⟩
  |succ n=>
   have hdi:=hd i (by omega);have ha:=XM (A:=A) n (i+1) (fun j a b=>(hd j (by omega)).2);have hs:=cS r c4;rw[Qr,lL (by omega),nT,vS,nF];by_cases e:A i=c.toNat
   ·rw[lQ e,Sg hd r (i+1) n c4 (by omega),e];have e1:((c.toNat-48)*10^n+nT A (i+1) n)*10^(r.length+1)=(c.toNat-48)*10^n*10^(r.length+1)+(nT A (i+1) n*10^r.length)*10:=by rw[mI,l9,l5 (nT A (i+1) n)]
    have e2:((c.toNat-48)*10^r.length+vS r)*10^(n+1)=(c.toNat-48)*10^n*10^(r.length+1)+(vS r*10^n)*10:=by
     rw[mI,l9,l9,l5 (vS r),l5,l5,Nat.mul_left_comm (10^r.length)]
    rw[e1,e2];omega
   ·rw[lL e,decide_eq_true_iff];by_cases hl:A i<c.toNat
    ·exact⟨fun _=>MH (by omega) ha,fun _=>hl⟩
    ·refine⟨fun h=>absurd h hl,fun h=> ?_⟩;have:=MH (d:=c.toNat-48) (c:=A i-48) (a:=vS r) (s:=nT A (i+1) n) (n:=r.length) (m:=n) (by omega) hs;omega
end Go.Pf
end
section
namespace Go.Pf
def FO (k:Nat):Nat:=((Go.Pinned.cheatRows.getD k (0,[])).1)
def OS (k:Nat):List UInt8:=(Go.Pinned.cheatRows.getD k (0,[])).2
def iX (k:Nat):Bool:=
 dQ (OS k)&&Nat.beq (vS (OS k)) (5^k)&&Nat.beq (FO k+(OS k).length) (k+1)&&Nat.ble (10^(FO k-1)) (2^k)&&Nat.blt (2^k) (10^FO k)&&Nat.ble 1 (FO k)&&Nat.ble (FO k) 19
theorem ir:(List.range 60).all (fun k=>iX (k+1))=true:=by kernel_rfl
theorem Vd {k:Nat}(h1:1<=k) (h2:k<=60):dQ (OS k)=true/\vS (OS k)=5^k/\FO k+(OS k).length=k+1/\10^(FO k-1)<=2^k/\2^k<10^FO k/\1<=FO k/\FO k<=19:=by
 have:=nS.1 ir (k-1) (pX.2 (by omega));rw[Nat.sub_add_cancel h1]at this;simp only[iX,mJ,Nat.beq_eq,Nat.ble_eq,Nat.blt_eq]at this;exact⟨this.1.1.1.1.1.1,this.1.1.1.1.1.2,this.1.1.1.1.2,this.1.1.1.2,this.1.1.2,this.1.2,this.2⟩
def Ve (A:Nat->Nat) (nd k:Nat):Nat:=if Qr A nd (OS k) 0=true then FO k-1 else FO k
theorem Te (k:Nat):10^k=5^k*2^k:=by rw[<-Nat.mul_pow]
theorem cA {A:Nat->Nat} {nd k:Nat}(hd:∀i,i<nd->48<=A i/\A i<=57) (hA:49<=A 0) (h0:0<nd) (h1:1<=k) (h2:k<=60):
 10^(nd+Ve A nd k-1)<=num A nd*2^k/\num A nd*2^k<10^(nd+Ve A nd k)/\Ve A nd k<=19:=by
 obtain⟨t1,t2,t3,t4,t5,t6,t7⟩:=Vd h1 h2;have hp:=Sg hd (OS k) 0 nd t1 (by omega);rw[Vz,t2]at hp;obtain⟨L,hL⟩:∃L,L=(OS k).length:=⟨_,rfl⟩;rw[<-hL]at hp t3;have zH:10^(nd-1)<=num A nd:=by
  have:=Ev hA (nd-1)
  rwa [Nat.sub_add_cancel h0]at this
 have hhi:=GN nd (fun i hi=>(hd i hi).2);have p2:=lj k;have e1:5^k*10^nd*2^k=10^(nd+k-L)*10^L:=by
  rw[<-lW,show nd+k-L+L=k+nd by omega,lW,Te k,oR]
 have e2:num A nd*10^L*2^k=num A nd*2^k*10^L:=oR _ _ _;unfold Ve;by_cases hpil:Qr A nd (OS k) 0=true
 ·rw[lQ hpil];have qE:=hp.1 hpil;refine⟨?_,?_,by omega⟩
  ·rw[show nd+(FO k-1)-1=(nd-1)+(FO k-1) by omega,lW];exact pn zH t4
  ·have h3:=mA qE p2;rw[e1,e2]at h3;have h4:=mc h3;rw[show nd+(FO k-1)=nd+k-L by omega];exact h4
 ·rw[lL hpil];have uj:5^k*10^nd<=num A nd*10^L:=Nat.le_of_not_lt (fun h=>hpil (hp.2 h));refine⟨?_,?_,t7⟩
  ·have h3:=lV (2^k) uj;rw[e1,e2]at h3;have h4:=oM h3 (AU L);rw[show nd+FO k-1=nd+k-L by omega];exact h4
  ·rw[lW];exact Nat.mul_lt_mul'' hhi t5
end Go.Pf
end
section
namespace Go.Pf
open Go.RowKit
structure PL (A:Nat->Nat) (nd:Nat) (dp:Int) (tr:Bool) (PP T b B:Nat) (w0:World) (m wc n:Nat) (A':Nat->Nat) (qS:Bool) (wr:World):Prop where
 dec:Eg wr b A' nd dp qS
 Ac:Below B w0 wr
 Dx:wc+m=T
 Pw:n=LV (num A nd) PP m
 JR:∀i,i<wc->i<nd->A' i=A i
 new:∀p,wc<=p->p<T->p<800->A' p=48+num A nd*PP/10^(T-1-p) %10
 eW:qS=(tr||decide (num A nd*PP %10^(min m (T-800))≠0))
theorem PL.Ak {A:Nat->Nat} {nd:Nat} {dp:Int} {tr:Bool} {PP T b B:Nat} {w0:World} {m wc n:Nat} {A':Nat->Nat} {qS:Bool} {wr:World}(h:PL A nd dp tr PP T b B w0 m wc n A' qS wr) (hB:B<=b){p q rem:Nat}(hp:wc=p+1) (h8:p<800)
 (hq:q=(n+num A nd/10^m %10*PP)/10) (hr:rem=(n+num A nd/10^m %10*PP) %10):
 PL A nd dp tr PP T b B w0 (m+1) p q (SP A' p (rem+48)) qS (wr.setCell ⟨b,p,none⟩ (.int .u8 ((rem+48:Nat):Int))):=by
 have hc:=h.Dx;rw[h.Pw]at hq hr;rw[O5]at hq;rw[Ta]at hr;have r9:rem<10:=by rw[hr];exact mw _ (by decide)
 refine⟨h.dec.Nf p (rem+48) h8 nd rfl (fun i hi _=>h.dec.Ca i hi) (fun _=>by omega),h.Ac.setCell (p:=⟨b,p,none⟩) hB _,by omega,hq,?_,?_,?_⟩
 ·intro i h1 h2;rw[Bm (by omega)];exact h.JR i (by omega) h2
 ·intro i h1 h2 h3;by_cases e:i=p
  ·subst e;rw[Cn,hr,show T-1-i=m by omega,pU]
  ·rw[Bm e];exact h.new i (by omega) h2 h3
 ·rw[h.eW,show min (m+1) (T-800)=min m (T-800) by omega]
theorem PL.drop {A:Nat->Nat} {nd:Nat} {dp:Int} {tr:Bool} {PP T b B:Nat} {w0:World} {m wc n:Nat} {A':Nat->Nat} {qS:Bool} {wr wr2:World}(h:PL A nd dp tr PP T b B w0 m wc n A' qS wr){p q rem:Nat}(hp:wc=p+1) (h8:¬p<800)
 (hq:q=(n+num A nd/10^m %10*PP)/10) (hr:rem=(n+num A nd/10^m %10*PP) %10) (hD2:Eg wr2 b A' nd dp (qS||decide (rem≠0))) (qM:Below B w0 wr2):
 PL A nd dp tr PP T b B w0 (m+1) p q A' (qS||decide (rem≠0)) wr2:=by
 have hc:=h.Dx;rw[h.Pw]at hq hr;rw[O5]at hq;rw[Ta]at hr;refine⟨hD2,qM,by omega,hq,fun i h1 h2=>h.JR i (by omega) h2,fun i h1 h2 h3=>h.new i (by omega) h2 h3,?_⟩;rw[h.eW,show min (m+1) (T-800)=m+1 by omega,show min m (T-800)=m by omega,Kb,<-hr];generalize num A nd*PP %10^m=Z;have hpp:=AU m;by_cases h1:rem=0
 ·subst h1;simp
 ·rw[lU h1,lU (show Z+10^m*rem≠0 by
   intro h0;have h2:10^m*rem=0:=by omega
   rcases Nat.mul_eq_zero.1 h2 with h3|h3
   ·omega
   ·exact h1 h3)]
  simp
structure Qv (A:Nat->Nat) (nd:Nat) (dp:Int) (tr:Bool) (k:Nat) (A':Nat->Nat) (W:Nat) (dp':Int) (qS:Bool):Prop where
 ex:∃D:Nat,D<=19/\dp'=dp+D/\W=min (nd+D) 800/\num A' W=num A nd*2^k/10^(nd+D-W)/\qS=(tr||decide (num A nd*2^k %10^(nd+D-W)≠0))/\10^(nd+D-1)<=num A nd*2^k/\num A nd*2^k<10^(nd+D)
 pos:0<W
 lead:49<=A' 0
 Ca:∀i,i<W->48<=A' i/\A' i<=57
theorem PL.done {A:Nat->Nat} {nd:Nat} {dp:Int} {tr:Bool} {k b B D:Nat} {w0:World} {m:Nat} {A':Nat->Nat} {qS:Bool} {wr:World}(h:PL A nd dp tr (2^k) (nd+D) b B w0 m 0 0 A' qS wr) (h0:0<nd) (hD:D<=19) (h1:10^(nd+D-1)<=num A nd*2^k) (h2:num A nd*2^k<10^(nd+D)):
 Qv A nd dp tr k A' (min (nd+D) 800) (dp+D) qS:=by
 have hm:=h.Dx;have EM:∀i,i<min (nd+D) 800->A' i=48+num A nd*2^k/10^(nd+D-1-i) %10:=fun i hi=>h.new i (by omega) (by omega) (by omega);refine⟨⟨D,hD,rfl,rfl,Xn h2 _ (by omega) EM,?_,h1,h2⟩,by omega,?_,?_⟩
 ·rw[h.eW,show min m (nd+D-800)=nd+D-min (nd+D) 800 by omega]
 ·rw[EM 0 (by omega),Nat.sub_zero];have h3:num A nd*2^k/10^(nd+D-1)<10:=by
   rw[mY (AU _),mR 10,<-l9,show(nd+D-1).succ=nd+D by omega];exact h2
  have h4:1<=num A nd*2^k/10^(nd+D-1):=(nY (AU _)).2 (by omega);omega
 ·intro i hi;rw[EM i hi];omega
end Go.Pf
end
section
namespace Go.Pf
def LO (w:World) (B:Nat):Prop:=∃g o c,g<B/\19<B/\w.cell? ⟨19,0,none⟩=some (.slice (some ⟨g,o,none⟩) 61 c)/\∀i,i<61->w.cell? ⟨g,o+i*2,none⟩=some (.int .i64 (FO i:Nat))/\w.cell? ⟨g,o+i*2+1,none⟩=some (.string ⟨(OS i).toArray⟩)
end Go.Pf
namespace Go.Proofs
open Go.RowKit Go.Pf
theorem _root_.Go.Pf.Eg.gJ {w:World} {b:Nat} {A:Nat->Nat} {nd:Nat} {dp:Int} {tr:Bool}(h:Eg w b A nd dp tr) (u:Value) (n:Nat) (hn:n<=800) (hd:∀i,i<n->48<=A i/\A i<=57):
 Eg ((w.setCell ⟨b,800,none⟩ u).setCell ⟨b,800,none⟩ (.int .i64 n)) b A n dp tr:=
 ⟨hn,hd,fun i hi=>other (other (h.cell i hi) (by omega)) (by omega),DO (DO h.MA),other (other h.P5 (by decide)) (by decide),other (other h.Vi (by decide)) (by decide),other (other h.UW (by decide)) (by decide),fun i=>by rw[oY,oY];exact h.fz i⟩
def Mt (w:World) (B b:Nat) (A:Nat->Nat) (nd:Nat) (dp:Int) (tr:Bool) (k:Nat) (e:Ending) (w':World):Prop:=
 e= .returned (.tuple #[])/\∃(A':Nat->Nat) (W:Nat) (dp':Int) (qS:Bool) (n:Nat),Qv A nd dp tr k A' W dp' qS/\0<n/\n<=W/\A' (n-1)≠48/\(∀i,n<=i->i<W->A' i=48)/\Eg w' b A' n dp' qS/\Below B w w'
theorem UH (B b:Nat) (A:Nat->Nat) (nd:Nat) (dp:Int) (tr:Bool) (k:Nat) (w:World) (hB:B<=b) (hT:Hid (LO w B)) (hD:Hid (Eg w b A nd dp tr)) (h0:0<nd) (hA:49<=A 0) (k1:1<=k) (hk:k<=60) (d1: -100000<=dp) (d2:dp<=100000):
 Calls prog 192 #[.pointer (some ⟨b,0,none⟩),.int .u64 k] w (Mt w B b A nd dp tr k):=by
 obtain⟨g,o,c,g1,g2,t0,tt⟩:=hT.o;obtain⟨t1,t2⟩:=tt k (by omega);have k0:=hD.o.MA;have kle:=hD.o.le;obtain⟨pl,qc⟩:∃pl:Bool,pl=Qr A nd (OS k) 0:=⟨_,rfl⟩;obtain⟨x,hx⟩:∃x,x=FO k:=⟨_,rfl⟩;obtain⟨D,hDD⟩:∃D,D=Ve A nd k:=⟨_,rfl⟩;obtain⟨n1,n2,n3⟩:=cA hD.o.Ca hA h0 k1 hk;rw[<-hDD]at n1 n2 n3;obtain⟨_,_,_,_,_,x1,x2⟩:=Vd k1 hk;rw[<-hx]at x1 x2;have hDx:D=if pl=true then x-1 else x:=by rw[hDD,qc,hx];rfl
 rw[<-hx]at t1;have CP:Hid (∀n,Calls prog 195 #[.slice (some ⟨b,0,none⟩) nd 800,.string ⟨(OS k).toArray⟩] (w.drewN n) fun e w'=>e= .returned (.bool pl)/\∃m,w'=w.drewN m):=Hi (fun n=>by
  rw[qc];exact Calls.quiet_of (I6 b nd 800 A ⟨(OS k).toArray⟩ (w.drewN n) kle (by
   have:=(Vd k1 hk).2.2.1;show(OS k).toArray.size<=100;rw[List.size_toArray];omega) (Hi (fun i hi=>(hD.o.same (w':=w.drewN n) rfl).cell i (by omega)))))
 have ki:(k:Int)<61:=by omega
 have ndi:(nd:Int)<=800:=by omega
 have al:Tryz.prog.arrayLen 254=800:=by kernel_rfl
 clear qc hx hDD tt;go_enter func192,ntmps192;go_wp2
 go_quiet ((go_at_call 195;with_reducible exact CP.o _))
 go_upto_if 30 with fail
 go_cut [4] (fun v wx=>w.drewN nq=wx/\v= .int .i64 (D:Int))
 case first=>
  have D1:(x:Int)-1=((x-1:Nat):Int):=by omega
  cases pl with
  |true=>
   rw[lQ rfl]at hDx;go_wp2;go_meet;exact⟨rfl,by rw[hDx]⟩
  |false=>
   rw[lL (by decide)]at hDx;go_wp2;go_meet;exact⟨rfl,by rw[hDx]⟩
 case rest=>
 obtain⟨hw1,rfl⟩:=hcut;have hD1:Eg wc b A nd dp tr:=hD.o.same (by rw[<-hw1];rfl);have qV:Below B w wc:=by rw[<-hw1];exact BG (Below.refl _ _)
 have k1':=hD1.MA;have HD1:=Hi hD1;have sH:=Hi qV;have Di:(D:Int)<=19:=by omega
 obtain⟨T,hTT⟩:∃T,T=nd+D:=⟨_,rfl⟩;have T1:(nd:Int)+(D:Int)=(T:Int):=by omega
 have T2:T<=819:=by omega
 obtain⟨PP,hP⟩:∃PP:Nat,PP=2^k:=⟨_,rfl⟩;have p0:0<PP:=by rw[hP];exact lj k
 have p1:PP<=1152921504606846976:=by rw[hP];exact lg (lX (by decide) hk) (by decide)
 have pc:(2:Int)^k=(PP:Int):=by rw[hP,FR]
 have HP:=Hi hP;have HT:=Hi hTT;have ki2:(k:Int)<=60:=by omega
 have hN:=GN nd (fun i hi=>(hD.o.Ca i hi).2);have HN:=Hi hN;have N1:=Hi n1;have N2:=Hi n2;have S0:PL A nd dp tr PP T b B w 0 T 0 A tr wc:=
  ⟨hD1,qV,by omega,(Tr _ _).symm,fun _ _ _=>rfl,fun p h1 h2=>by omega,by simp[Nat.mod_one]⟩
 have HS0:=Hi S0;clear hw1 t0 t1 t2 k0 hDx CP hD1 qV n1 n2 hP hTT hN S0;go_wp2
 go_loopw [5,6,7] (fun rv wv nv wr=>∃(z:Int) (m wc n:Nat) (A':Nat->Nat) (qS:Bool),rv= .int .i64 z/\wv= .int .i64 wc/\nv= .int .u64 n/\z+m+1=nd/\ -1<=z/\PL A nd dp tr PP T b B w m wc n A' qS wr) (fun rv _ _ _=>(intOf rv+1).toNat)
 case atStart=>exact⟨_,0,T,0,A,tr,rfl,rfl,rfl,by omega,by omega,HS0.o⟩
 case round=>
  obtain⟨z,m,wU,n,A',qS,rfl,rfl,rfl,hz,qg,qc⟩:=hrel;by_cases qX:0<=z
  ·obtain⟨r,rfl⟩:∃r:Nat,z=r:=⟨z.toNat,by omega⟩;have hc:=qc.Dx;have hTo:=HT.o;have r8:r<800:=by omega
   have jr:=qc.dec.cell r r8;rw[qc.JR r (by omega) (by omega)]at jr;have dr:=hD.o.Ca r (by omega);obtain⟨d,hd⟩:∃d,d=num A nd/10^m %10:=⟨_,rfl⟩;have qR:d=A r-48:=by
    rw[hd,Et nd m (fun i hi=>(hD.o.Ca i hi).2) (by omega),show nd-1-m=r by omega]
   have y1:(A r:Int)-48=(d:Int):=by omega
   have y2:(A r:Int)<=57:=by omega
   have y3:(48:Int)<=(A r:Int):=by omega
   have d9:d<=9:=by omega
   obtain⟨e,he⟩:∃e,e=d*PP:=⟨_,rfl⟩;have y4:(d:Int)*(PP:Int)=(e:Int):=by rw[he,oP]
   have e9:e<=9*PP:=by rw[he];exact lV _ d9
   have vX:n<PP:=by rw[qc.Pw];exact Ry _ _ _ p0
   obtain⟨s,hs⟩:∃s,s=n+e:=⟨_,rfl⟩;have y5:(n:Int)+(e:Int)=(s:Int):=by omega
   obtain⟨q,hq⟩:∃q,q=s/10:=⟨_,rfl⟩;have y6:(s:Int)/10=(q:Int):=by omega
   obtain⟨rem,tT⟩:∃rem,rem=s %10:=⟨_,rfl⟩;have y7:(s:Int)-10*(q:Int)=(rem:Int):=by omega
   have y8:(s:Int)<=11529215046068469760:=by omega
   have y9:(e:Int)<=10376293541461622784:=by omega
   have ru:(d:Int)<=9:=by omega
   obtain⟨p,hp⟩:∃p,wU=p+1:=⟨wU-1,by omega⟩;have z1:(wU:Int)-1=(p:Int):=by omega
   have z2:wU-1=p:=by omega
   have z3:(rem:Int)<=9:=by omega
   have qu:q=(n+num A nd/10^m %10*PP)/10:=by rw[<-hd,<-he,<-hs];exact hq
   have rL:rem=(n+num A nd/10^m %10*PP) %10:=by rw[<-hd,<-he,<-hs];exact tT
   have ri:(r:Int)<800:=by omega
   have wi:(wU:Int)<=819:=by omega
   have HZ:=Hi (show(r:Int)-1+((m+1:Nat):Int)+1=nd/\ -1<=(r:Int)-1 by omega);by_cases hp8:p<800
   ·have jw:=qc.dec.cell p hp8;have jz:=qc.dec.fz p;obtain⟨zK,xQ⟩:∃zK,zK=rem+48:=⟨_,rfl⟩;have z4:(rem:Int)+48=(zK:Int):=by omega
    have z5:(zK:Int)<=57:=by omega
    have pi:(p:Int)<800:=by omega
    have NX:=qc.Ak hB hp hp8 qu rL;rw[<-xQ]at NX;have sR:=Hi NX;clear NX hd qR he hs hq tT hp qu rL xQ qc dr d9 e9 vX hc hTo hz qg;go_wp2;go_roundw
    case rel=>exact⟨_,m+1,p,q,_,_,rfl,by go_num,rfl,HZ.o.1,HZ.o.2,sR.o⟩
    case measure=>simp[intOf]
   ·have jt:=qc.dec.UW;have jz:=qc.dec.fz 803;have pi:(800:Int)<=p:=by omega
    by_cases qO:rem=0
    ·have NX:=qc.drop hp hp8 qu rL (wr2:=wr) (by rw[qO];simpa using qc.dec) qc.Ac;have sR:=Hi NX;have z6:((rem:Int)==0)=true:=Pv (n:=0) qO;clear NX hd qR he hs hq tT hp qu rL qc dr d9 e9 vX hc hTo hz qg qO;go_wp2;go_roundw
     case rel=>exact⟨_,m+1,p,q,_,_,rfl,by go_num,rfl,HZ.o.1,HZ.o.2,sR.o⟩
     case measure=>simp[intOf]
    ·have NX:=qc.drop hp hp8 qu rL (wr2:=wr.setCell ⟨b,803,none⟩ (.bool true)) (by rw[lU qO,Bool.or_true];exact qc.dec.Sh true) (qc.Ac.setCell (p:=⟨b,803,none⟩) hB _);have sR:=Hi NX;have z6:((rem:Int)==0)=false:=DC (n:=0) qO;clear NX hd qR he hs hq tT hp qu rL qc dr d9 e9 vX hc hTo hz qg qO;go_wp2;go_roundw
     case rel=>exact⟨_,m+1,p,q,_,_,rfl,by go_num,rfl,HZ.o.1,HZ.o.2,sR.o⟩
     case measure=>simp[intOf]
  ·have hm:m=nd:=by omega
   have HPL:=Hi qc;have HM:=Hi hm;have zn:decide (0<=z)=false:=lO qX;clear qc hm hz;go_wp2
   go_loopw [6,7] (fun wv nv wr=>∃(m wc n:Nat) (A':Nat->Nat) (qS:Bool),wv= .int .i64 wc/\nv= .int .u64 n/\nd<=m/\PL A nd dp tr PP T b B w m wc n A' qS wr) (fun _ nv _=>(intOf nv).toNat)
   case atStart=>exact⟨m,wU,n,A',qS,rfl,rfl,by have:=HM.o;omega,HPL.o⟩
   case round=>
    obtain⟨m,wU,n,A',qS,rfl,rfl,hmd,qc⟩:=hrel;obtain⟨ce1,ce2⟩:=Ya HN.o hmd PP;have vK:=qc.Pw;rw[ce1]at vK;have hc:=qc.Dx;have n1:=N1.o;have n2:=N2.o;rw[<-HP.o,<-HT.o]at n1 n2;by_cases vG:n=0
    ·have hmT:m=T:=by
      apply mM;intro h;have h1:10^m<=num A nd*PP:=lg (lX (by decide) (by omega)) n1;have h2:1<=num A nd*PP/10^m:=(nY (AU m)).2 (by omega);omega
     have hw0:wU=0:=by omega
     subst vG hw0;have DN:=qc;rw[HP.o,HT.o]at DN;have LS:=DN.done h0 n3 N1.o N2.o;rw[<-HT.o]at LS;have vP:=Hi LS;have jn:=qc.dec.MA;have jd:=qc.dec.P5;have f1:=qc.dec.fz 800;have f2:=qc.dec.fz 801;by_cases hT8:800<=T
     ·have x8:min T 800=800:=by omega
      rw[x8]at vP;have hD4:Hid (Eg (((wr.setCell ⟨b,800,none⟩ (.int .i64 (T:Int))).setCell ⟨b,800,none⟩ (.int .i64 800)).setCell ⟨b,801,none⟩ (.int .i64 (dp+(D:Int)))) b A' 800 (dp+(D:Int)) qS):=Hi ((qc.dec.gJ (.int .i64 T) 800 (nR _) vP.o.Ca).F1 (dp+(D:Int)));have xB:=Hi (((qc.Ac.setCell (p:=⟨b,800,none⟩) hB (.int .i64 T)).setCell (p:=⟨b,800,none⟩) hB (.int .i64 800)).setCell (p:=⟨b,801,none⟩) hB (.int .i64 (dp+(D:Int))));have hTi:(800:Int)<=T:=by omega
      clear LS DN qc vK hc n1 n2 x8 ce1 ce2
      go_wp2_with (go_at_call 196;(with_reducible refine(YH B b A' 800 (dp+(D:Int)) qS _ hB hD4).mono ?_))
      rintro e w' ⟨rfl,n,hnw,sC,wL,hd5,hb5⟩;have np:0<n:=by
       apply mM;intro h;have h1:=wL 0 (by omega) vP.o.pos;have h2:=vP.o.lead;omega
      have hl:A' (n-1)≠48:=sC.resolve_left (by omega);have HE:Hid (Mt w B b A nd dp tr k (.returned (.tuple #[])) w'):=Hi ⟨rfl,A',800,dp+D,qS,n,vP.o,np,hnw,hl,wL,by rw[lL (by omega)]at hd5;exact hd5,xB.o.trans hb5⟩;clear sC wL hd5 hb5 hl;go_wp2
      go_end0
      exact HE.o
     ·have x8:min T 800=T:=by omega
      rw[x8]at vP;have hD4:=Hi ((qc.dec.SW T (by omega) vP.o.Ca).F1 (dp+(D:Int)));have xB:=Hi ((qc.Ac.setCell (p:=⟨b,800,none⟩) hB (.int .i64 T)).setCell (p:=⟨b,801,none⟩) hB (.int .i64 (dp+(D:Int))));have hTi:(T:Int)<800:=by omega
      clear LS DN qc vK hc n1 n2 x8 ce1 ce2
      go_wp2_with (go_at_call 196;(with_reducible refine(YH B b A' T (dp+(D:Int)) qS _ hB hD4).mono ?_))
      rintro e w' ⟨rfl,n,hnw,sC,wL,hd5,hb5⟩;have np:0<n:=by
       apply mM;intro h;have h1:=wL 0 (by omega) vP.o.pos;have h2:=vP.o.lead;omega
      have hl:A' (n-1)≠48:=sC.resolve_left (by omega);have HE:Hid (Mt w B b A nd dp tr k (.returned (.tuple #[])) w'):=Hi ⟨rfl,A',T,dp+D,qS,n,vP.o,np,hnw,hl,wL,by rw[lL (by omega)]at hd5;exact hd5,xB.o.trans hb5⟩;clear sC wL hd5 hb5 hl;go_wp2
      go_end0
      exact HE.o
    ·have hmT:m<T:=by
      apply mM;intro h;have hmm:m=T:=by omega
      rw[hmm,nJ n2]at vK;exact vG vK
     have vX:n<PP:=by rw[qc.Pw];exact Ry _ _ _ p0
     obtain⟨q,hq⟩:∃q,q=n/10:=⟨_,rfl⟩;have y6:(n:Int)/10=(q:Int):=by omega
     obtain⟨rem,tT⟩:∃rem,rem=n %10:=⟨_,rfl⟩;have y7:(n:Int)-10*(q:Int)=(rem:Int):=by omega
     have y8:(n:Int)<=1152921504606846976:=by omega
     obtain⟨p,hp⟩:∃p,wU=p+1:=⟨wU-1,by omega⟩;have z1:(wU:Int)-1=(p:Int):=by omega
     have z2:wU-1=p:=by omega
     have z3:(rem:Int)<=9:=by omega
     have np:0<n:=by omega
     have qu:q=(n+num A nd/10^m %10*PP)/10:=by rw[ce2,oH,nK];exact hq
     have rL:rem=(n+num A nd/10^m %10*PP) %10:=by rw[ce2,oH,nK];exact tT
     have wi:(wU:Int)<=819:=by omega
     have HQ:=Hi (show q<n by omega);by_cases hp8:p<800
     ·have jw:=qc.dec.cell p hp8;have jz:=qc.dec.fz p;obtain⟨zK,xQ⟩:∃zK,zK=rem+48:=⟨_,rfl⟩;have z4:(rem:Int)+48=(zK:Int):=by omega
      have z5:(zK:Int)<=57:=by omega
      have pi:(p:Int)<800:=by omega
      have NX:=qc.Ak hB hp hp8 qu rL;rw[<-xQ]at NX;have sR:=Hi NX;clear NX hq tT hp qu rL xQ qc vX hc vK n1 n2 ce1 ce2;go_wp2;go_roundw
      case rel=>exact⟨m+1,p,q,_,_,by go_num,rfl,by omega,sR.o⟩
      case measure=>have:=HQ.o;simp[intOf];omega
     ·have jt:=qc.dec.UW;have jz:=qc.dec.fz 803;have pi:(800:Int)<=p:=by omega
      by_cases qO:rem=0
      ·have NX:=qc.drop hp hp8 qu rL (wr2:=wr) (by rw[qO];simpa using qc.dec) qc.Ac;have sR:=Hi NX;have z6:((rem:Int)==0)=true:=Pv (n:=0) qO;clear NX hq tT hp qu rL qc vX hc vK n1 n2 ce1 ce2 qO;go_wp2;go_roundw
       case rel=>exact⟨m+1,p,q,_,_,by go_num,rfl,by omega,sR.o⟩
       case measure=>have:=HQ.o;simp[intOf];omega
      ·have NX:=qc.drop hp hp8 qu rL (wr2:=wr.setCell ⟨b,803,none⟩ (.bool true)) (by rw[lU qO,Bool.or_true];exact qc.dec.Sh true) (qc.Ac.setCell (p:=⟨b,803,none⟩) hB _);have sR:=Hi NX;have z6:((rem:Int)==0)=false:=DC (n:=0) qO;clear NX hq tT hp qu rL qc vX hc vK n1 n2 ce1 ce2 qO;go_wp2;go_roundw
       case rel=>exact⟨m+1,p,q,_,_,by go_num,rfl,by omega,sR.o⟩
       case measure=>have:=HQ.o;simp[intOf];omega
end Go.Proofs
end
section
namespace Go.Proofs
open Go.RowKit Go.Pf
def Sl (w:World) (B b:Nat) (A:Nat->Nat) (nd:Nat) (dp:Int) (tr:Bool) (k:Nat) (e:Ending) (w':World):Prop:=
 e= .returned (.tuple #[])/\∃(A':Nat->Nat) (W:Nat) (dp':Int) (qS:Bool) (n:Nat),Qj A nd dp tr k A' W dp' qS/\0<n/\n<=W/\A' (n-1)≠48/\(∀i,n<=i->i<W->A' i=48)/\Eg w' b A' n dp' qS/\Below B w w'
theorem RT (B b:Nat) (A:Nat->Nat) (nd:Nat) (dp:Int) (tr:Bool) (k:Nat) (w:World) (hB:B<=b) (hD:Hid (Eg w b A nd dp tr)) (h0:0<nd) (hA:49<=A 0) (k1:1<=k) (hk:k<=60) (d1: -100000<=dp) (d2:dp<=100000):
 Calls prog 193 #[.pointer (some ⟨b,0,none⟩),.int .u64 k] w (Sl w B b A nd dp tr k):=by
 obtain⟨PP,hP⟩:∃PP:Nat,PP=2^k:=⟨_,rfl⟩;have p0:0<PP:=by rw[hP];exact lj k
 have p1:PP<=1152921504606846976:=by rw[hP];exact lg (lX (by decide) hk) (by decide)
 have pc:(2:Int)^k=(PP:Int):=by rw[hP,FR]
 have HP:=Hi hP;have kle:=hD.o.le;have k0:=hD.o.MA;have kz:=hD.o.fz 800;have ki:(k:Int)<=60:=by omega
 have qT:=Ph h0 hA;have HN:=Hi qT;clear hP qT;go_enter func193,ntmps193
 go_upto_block 0 with fail
 go_cut [4,6] (fun rv nv wx=>w=wx/\∃r n:Nat,rv= .int .i64 r/\nv= .int .u64 n/\1<=r/\r<=1000/\n=A8 A nd r/\PP<=n/\n<10*PP/\A8 A nd (r-1)<PP)
 case first=>
  go_wp2_with fail
  go_loop [4,6] (fun rv nv=>∃r n:Nat,rv= .int .i64 r/\nv= .int .u64 n/\n=A8 A nd r/\r<=nd/\(1<=r->A8 A nd (r-1)<PP)) (fun rv _=>nd+1-(intOf rv).toNat)
  case atStart=>exact⟨0,0,rfl,rfl,rfl,by omega,by omega⟩
  case round=>
   obtain⟨r,n,rfl,rfl,hn,hr,qd⟩:=hrel;obtain⟨q,hq⟩:∃q,q=n/PP:=⟨_,rfl⟩;have q1:(n:Int)/(PP:Int)=(q:Int):=by rw[hq];exact(Int.natCast_ediv _ _).symm
   by_cases hnP:n<PP
   ·have q0:q=0:=by rw[hq];exact nJ hnP
    subst q0;by_cases hrn:r<nd
    ·have cr:=hD.o.cell r (by omega);have dr:=hD.o.Ca r hrn;obtain⟨n2,sy⟩:∃n2,n2=n*10+(A r-48):=⟨_,rfl⟩;have x1:(n:Int)*10+(A r:Int)-48=(n2:Int):=by omega
     have x2:(A r:Int)<=57:=by omega
     have x3:(48:Int)<=(A r:Int):=by omega
     have x4:(n:Int)<=1152921504606846976:=by omega
     have ri:(r:Int)<800:=by omega
     have qL:n2=A8 A nd (r+1):=by rw[A8,lQ hrn,<-hn,sy]
     have qE:A8 A nd (r+1-1)<PP:=by rw[nx,<-hn];exact hnP
     have sR:=Hi (And.intro qL qE);clear hn sy hq qL qE qd dr hnP;go_wp2;go_round
     case rel=>exact⟨r+1,n2,by go_num,rfl,sR.o.1,by omega,fun _=>sR.o.2⟩
     case measure=>simp[intOf];omega
    ·have hrd:r=nd:=by omega
     have vG:1<=n:=by
      have:=HN.o (nd-1);rw[Nat.sub_add_cancel h0]at this;rw[hn,hrd];exact this
     have z0:((n:Int)==0)=false:=DC (n:=0) (by omega);have HNN:=Hi hn;have Pu:=Hi (qd (by omega));have HRD:=Hi hrd;have hnrd:¬r<nd:=hrn;clear hn hq qd hrd hrn;go_wp2
     go_loop [4,6] (fun rv nv=>∃r n:Nat,rv= .int .i64 r/\nv= .int .u64 n/\n=A8 A nd r/\nd<=r/\A8 A nd (r-1)<PP/\1<=n/\10^(r-nd)<=n/\n<10*PP) (fun _ nv=>10*PP-(intOf nv).toNat)
     case atStart=>exact⟨r,n,rfl,rfl,HNN.o,by omega,Pu.o,vG,by rw[HRD.o,oj];exact vG,by omega⟩
     case round=>
      obtain⟨r,n,rfl,rfl,hn,hr,qd,tQ,sD,wW⟩:=hrel;obtain⟨q,hq⟩:∃q,q=n/PP:=⟨_,rfl⟩;have q1:(n:Int)/(PP:Int)=(q:Int):=by rw[hq];exact(Int.natCast_ediv _ _).symm
      have hr20:r-nd<20:=by
       apply mM;intro h;have:=lX (n:=10) (by decide) (show 20<=r-nd by omega);omega
      by_cases hnP:n<PP
      ·have q0:q=0:=by rw[hq];exact nJ hnP
       subst q0;have qL:n*10=A8 A nd (r+1):=by rw[A8,lL (by omega),<-hn,nK]
       have qE:A8 A nd (r+1-1)<PP:=by rw[nx,<-hn];exact hnP
       have h10':10^(r+1-nd)<=n*10:=by rw[show r+1-nd=(r-nd)+1 by omega,l9];omega
       have sR:=Hi (And.intro qL (And.intro qE h10'));have x4:(n:Int)<=1152921504606846976:=by omega
       have ri:(r:Int)<=1000:=by omega
       have HL:=Hi (show n<PP/\1<=n/\nd<=r from⟨hnP,tQ,hr⟩);clear hn hq qL qE qd hnP sD h10' wW hr20 tQ;go_wp2;go_round
       case rel=>exact⟨r+1,n*10,by go_num,by go_num,sR.o.1,by omega,sR.o.2.1,by have:=HL.o;omega,sR.o.2.2,by have:=HL.o;omega⟩
       case measure=>have:=HL.o;simp[intOf];omega
      ·have q0:((q:Int)==0)=false:=DC (n:=0) (by
        intro h;rw[hq]at h;have:=(ox p0).1 h;omega)
       have HX:=Hi (show 1<=r/\r<=1000/\n=A8 A nd r/\PP<=n/\n<10*PP/\A8 A nd (r-1)<PP from⟨by omega,by omega,hn,by omega,wW,qd⟩);clear hn hq qd hnP sD wW hr20 tQ;go_wp2;go_meet;exact⟨rfl,r,n,rfl,rfl,HX.o⟩
   ·have vT:1<=r:=by
     apply mM;intro h;have:r=0:=by omega
     subst this;rw[A8]at hn;omega
    have q0:((q:Int)==0)=false:=DC (n:=0) (by
     intro h;rw[hq]at h;have:=(ox p0).1 h;omega)
    have hb:n<10*PP:=by
     have h1:=qd vT;obtain⟨s,rfl⟩:∃s,r=s+1:=⟨r-1,by omega⟩;rw[nx]at h1;have d:=hD.o.Ca s (by omega);rw[A8,lQ (by omega)]at hn;omega
    have HX:=Hi (show 1<=r/\r<=1000/\n=A8 A nd r/\PP<=n/\n<10*PP/\A8 A nd (r-1)<PP from⟨vT,by omega,hn,by omega,hb,qd vT⟩);clear hn hq qd hnP hb;go_wp2;go_meet;exact⟨rfl,r,n,rfl,rfl,HX.o⟩
 case rest=>
 obtain⟨rfl,r1,n1,rfl,rfl,vT,hr1k,tQ,hPn,wW,qd⟩:=hcut;have k8:=hD.o.P5;have kz8:=hD.o.fz 801;have mk1:(1:Int)*(PP:Int)=(PP:Int):=Int.one_mul _;have x4:(PP:Int)<=1152921504606846976:=by omega
 obtain⟨M,hM⟩:∃M:Nat,M=PP-1:=⟨_,rfl⟩;have x5:(PP:Int)-1=(M:Int):=by omega
 have hand:∀n:Nat,n<18446744073709551616->bits .and .u64 (n:Int) (M:Int)=((n %PP:Nat):Int):=by
  intro n h;have:=u64_and_nat n M h (by omega);rw[this,hM,HP.o,oN]
 have HA:=Hi hand;obtain⟨dp1,hdp1⟩:∃d:Int,d=dp-((r1:Int)-1):=⟨_,rfl⟩;have x6:dp-((r1:Int)-1)=dp1:=hdp1.symm;have HDP:=Hi hdp1;have S2:P2 A nd dp1 tr PP r1 b B w r1 0 n1 A (w.setCell ⟨b,801,none⟩ (.int .i64 dp1)):=
  ⟨hD.o.F1 dp1,(Below.refl _ _).setCell (p:=⟨b,801,none⟩) hB _,fun _ _=>rfl,by omega,.inr rfl,by rw[num,tQ];omega,wW,.inl ⟨rfl,hPn⟩,fun i hi=>by omega⟩
 have HS2:=Hi S2;have zx:=Hi qd;have HPN:Hid (PP<=A8 A nd r1):=Hi (by rw[<-tQ];exact hPn);clear hM hand hdp1 S2 qd hPn wW tQ;go_wp2
 go_loopw [4,5,6] (fun rv wv nv wr=>∃(r wc n:Nat) (A':Nat->Nat),rv= .int .i64 r/\wv= .int .i64 wc/\nv= .int .u64 n/\P2 A nd dp1 tr PP r1 b B w r wc n A' wr) (fun rv _ _ _=>2000-(intOf rv).toNat)
 case atStart=>exact⟨r1,0,n1,A,rfl,rfl,rfl,HS2.o⟩
 case round=>
  obtain⟨r,wc,n,A',rfl,rfl,rfl,qj⟩:=hrel;have j0:=qj.dec.MA;by_cases hr:r<nd
  ·have r8:r<800:=by omega
   have wlt:wc<800:=by have:=qj.Dx;omega
   have jr:=qj.dec.cell r r8;rw[qj.JR r (nR _)]at jr;have jw:=qj.dec.cell wc wlt;have jz:=qj.dec.fz wc;have dr:=hD.o.Ca r hr;have vX:=qj.lt;obtain⟨q,hq⟩:∃q,q=n/PP:=⟨_,rfl⟩;have q1:(n:Int)/(PP:Int)=(q:Int):=by rw[hq];exact(Int.natCast_ediv _ _).symm
   obtain⟨m,hm⟩:∃m,m=n %PP:=⟨_,rfl⟩;have q2:bits .and .u64 (n:Int) (M:Int)=(m:Int):=by rw[HA.o n (by omega),hm]
   have q9:q<=9:=by
    have:=(mY p0).2 vX;omega
   obtain⟨zD,yJ⟩:∃zD,zD=q+48:=⟨_,rfl⟩;have q3:(q:Int)+48=(zD:Int):=by omega
   have q4:(zD:Int)<=57:=by omega
   have mlt:m<PP:=by rw[hm];exact mw _ p0
   obtain⟨n2,sy⟩:∃n2,n2=m*10+(A r-48):=⟨_,rfl⟩;have q5:(m:Int)*10+(A r:Int)-48=(n2:Int):=by omega
   have q6:(A r:Int)<=57:=by omega
   have q7:(m:Int)<=1152921504606846976:=by omega
   have NX:=qj.next vT hB p0 hr dr (q:=q) (n2:=n2) hq (by rw[<-hm];exact sy);rw[<-yJ]at NX;have sR:=Hi NX;have wi:(wc:Int)<800:=by omega
   have ri:(r:Int)<800:=by omega
   have HW:=Hi (show(r:Int)<=1999 by omega);clear NX hq hm sy yJ mlt vX dr qj q9;go_wp2;go_roundw
   case rel=>exact⟨r+1,wc+1,n2,_,by go_num,by go_num,rfl,sR.o⟩
   case measure=>have:=HW.o;simp[intOf];omega
  ·have S3:=qj.start vT (by omega);have HS3:=Hi S3;have zg:(nd:Int)<=r:=by omega
   clear S3 qj;go_wp2
   go_loopg [5,6] (k+1) (fun g wv nv wr=>∃(wc n V c:Nat) (A':Nat->Nat) (qS:Bool),wv= .int .i64 wc/\nv= .int .u64 n/\P3 A nd dp1 tr PP r1 b B w wc n V c A' qS wr/\(n=0\/∃h,g=h+1/\2^k∣n*2^h))
   case atStart=>exact⟨wc,n,_,_,_,_,rfl,rfl,HS3.o,.inr ⟨k,rfl,Nat.dvd_mul_left _ _⟩⟩
   case round=>
    obtain⟨wc,n,V,c,A',qS,rfl,rfl,vC,hg⟩:=hrel;have vX:=vC.lt;by_cases hz:n=0
    ·subst hz;have DN:=vC;rw[HP.o]at DN;have RS:=DN.done (dp0:=dp) vT (by rw[HDP.o];omega) (by rw[<-HP.o];exact HPN.o) (by rw[<-HP.o];exact zx.o);obtain⟨m0,wF⟩:=vC.dec;have jn:=wF.MA;have jf:=wF.fz 800;have hw8:wc<=800:=by have:=vC.kept;omega
     have hD4:=Hi (wF.SW wc hw8 vC.Ca);have xB:=Hi (vC.Ac.setCell (p:=⟨b,800,none⟩) hB (.int .i64 wc));have HRS:=Hi RS;clear vC DN RS wF hg vX
     go_wp2_with (go_at_call 196;(with_reducible refine(YH B b A' wc dp1 qS _ hB hD4).mono ?_))
     rintro e w' ⟨rfl,n,hnw,sC,wL,hd5,hb5⟩;have n0:0<n:=by
      apply mM;intro h;have h1:=wL 0 (by omega) HRS.o.pos;have h2:=HRS.o.lead;omega
     have hl:A' (n-1)≠48:=sC.resolve_left (by omega);have HE:Hid (Sl w B b A nd dp tr k (.returned (.tuple #[])) w'):=Hi ⟨rfl,A',wc,dp1,qS,n,HRS.o,n0,hnw,hl,wL,by rw[lL (by omega)]at hd5;exact hd5,xB.o.trans hb5⟩;clear sC wL hd5 hb5 hl;go_wp2
     go_end0
     exact HE.o
    ·obtain⟨h,rfl,hdv⟩:=hg.resolve_left hz;obtain⟨q,hq⟩:∃q,q=n/PP:=⟨_,rfl⟩;have q1:(n:Int)/(PP:Int)=(q:Int):=by rw[hq];exact(Int.natCast_ediv _ _).symm
     obtain⟨m,hm⟩:∃m,m=n %PP:=⟨_,rfl⟩;have q2:bits .and .u64 (n:Int) (M:Int)=(m:Int):=by rw[HA.o n (by omega),hm]
     have q9:q<=9:=by
      have:=(mY p0).2 vX;omega
     have mlt:m<PP:=by rw[hm];exact mw _ p0
     have q7:(m:Int)<=1152921504606846976:=by omega
     have np:0<n:=by omega
     have hgh:m*10=0\/∃h',h=h'+1/\2^k∣m*10*2^h':=by
      rw[hm,HP.o];cases h with
      |zero=>rw[Tq hdv];exact .inl rfl
      |succ h'=>exact .inr ⟨h',rfl,Qe hdv⟩
     have HG:=Hi hgh;obtain⟨m0,wF⟩:=vC.dec;by_cases hw:wc<800
     ·have jw:=wF.cell wc hw;have jz:=wF.fz wc;obtain⟨zD,yJ⟩:∃zD,zD=q+48:=⟨_,rfl⟩;have q3:(q:Int)+48=(zD:Int):=by omega
      have q4:(zD:Int)<=57:=by omega
      have NX:=vC.next hB p0 hw (q:=q) (n2:=m*10) hq (by rw[<-hm]);rw[<-yJ]at NX;have sR:=Hi NX;have wi:(wc:Int)<800:=by omega
      clear NX hq hm yJ mlt vX vC q9 wF hg hgh hdv;go_wp2
      go_roundg h
      case measure=>omega
      case rel=>exact⟨wc+1,m*10,_,_,_,_,by go_num,by go_num,sR.o,HG.o⟩
     ·have jt:=wF.UW;have jz:=wF.fz 803;have wi:(800:Int)<=wc:=by omega
      have yi:=vC.Ac;by_cases wb:q=0
      ·have NX:=vC.drop p0 hw (q:=q) (n2:=m*10) (wr2:=wr) hq (by rw[<-hm]) ⟨m0,by rw[wb];simpa using wF⟩ yi;have sR:=Hi NX;have z0:¬0<q:=by omega
       clear NX hq hm mlt vX vC q9 wF hg hgh hdv yi;go_wp2
       go_roundg h
       case measure=>omega
       case rel=>exact⟨wc,m*10,_,_,_,_,rfl,by go_num,sR.o,HG.o⟩
      ·have NX:=vC.drop p0 hw (q:=q) (n2:=m*10) (wr2:=wr.setCell ⟨b,803,none⟩ (.bool true)) hq (by rw[<-hm]) ⟨m0,by rw[lU wb,Bool.or_true];exact wF.Sh true⟩ (yi.setCell (p:=⟨b,803,none⟩) hB _);have sR:=Hi NX;have z0:0<q:=by omega
       clear NX hq hm mlt vX vC q9 wF hg hgh hdv yi;go_wp2
       go_roundg h
       case measure=>omega
       case rel=>exact⟨wc,m*10,_,_,_,_,rfl,by go_num,sR.o,HG.o⟩
end Go.Proofs
end
section
namespace Go.Pf
open Go.RowKit
structure Cm where
 A:Nat->Nat
 nd:Nat
 dp:Int
 tr:Bool
structure Dp (w:World) (b:Nat) (s:Cm):Prop where
 dec:Eg w b s.A s.nd s.dp s.tr
 pos:0<s.nd
 lead:49<=s.A 0
def DX (k:Nat) (s s':Cm):Prop:=∃W,Qv s.A s.nd s.dp s.tr k s'.A W s'.dp s'.tr/\0<s'.nd/\s'.nd<=W/\s'.A (s'.nd-1)≠48/\(∀i,s'.nd<=i->i<W->s'.A i=48)
def Ec (k:Nat) (s s':Cm):Prop:=∃W,Qj s.A s.nd s.dp s.tr k s'.A W s'.dp s'.tr/\0<s'.nd/\s'.nd<=W/\s'.A (s'.nd-1)≠48/\(∀i,s'.nd<=i->i<W->s'.A i=48)
inductive Mo:Nat->Cm->Cm->Prop
 |last {k:Nat} {s s':Cm}(h:k<=60) (r:Ec k s s'):Mo k s s'
 |more {k:Nat} {s t s':Cm}(h:60<k) (r:Ec 60 s t) (c:Mo (k-60) t s'):Mo k s s'
theorem K8 {A:Nat->Nat} {nd:Nat}(h0:0<nd) (hA:49<=A 0):∀t,10^t<=A8 A nd (t+1)
 |0=>by rw[A8,A8,lQ h0];simp;omega
 |t+1=>by rw[A8,l9];have:=K8 h0 hA t;omega
theorem Ec.dp {k:Nat} {s s':Cm}(h:Ec k s s') (hk:k<=60) (h0:0<s.nd) (hA:49<=s.A 0):s'.dp<=s.dp/\s.dp<=s'.dp+20:=by
 obtain⟨W,hs,_⟩:=h;obtain⟨V,c,r,h1,_,_,hd,_,_,_,_,hp⟩:=hs.ex;have hr:r<=21:=by
  apply mM;intro hh;obtain⟨t,ht⟩:∃t,r-1=t+1:=⟨r-2,by omega⟩;rw[ht]at hp;have h3:=K8 h0 hA t;have h4:(10:Nat)^19<=10^t:=lX (by decide) (by omega);have h5:(2:Nat)^k<=2^60:=lX (by decide) hk;omega
 omega
end Go.Pf
namespace Go.Proofs
open Go.RowKit Go.Pf
theorem iY (B b:Nat) (s:Cm) (k:Nat) (w:World) (hB:B<=b) (hT:Hid (LO w B)) (hD:Hid (Dp w b s)) (k1:1<=k) (hk:k<=60) (d1: -100000<=s.dp) (d2:s.dp<=100000):
 Calls prog 192 #[.pointer (some ⟨b,0,none⟩),.int .u64 k] w fun e w'=>e= .returned (.tuple #[])/\∃s',DX k s s'/\Dp w' b s'/\Below B w w':=by
 refine(UH B b s.A s.nd s.dp s.tr k w hB hT (Hi hD.o.dec) hD.o.pos hD.o.lead k1 hk d1 d2).mono ?_;rintro e w' ⟨rfl,A',W,dp',qS,n,hs,h1,h2,h3,h4,h5,h6⟩;exact⟨rfl,⟨A',n,dp',qS⟩,⟨W,hs,h1,h2,h3,h4⟩,⟨h5,h1,hs.lead⟩,h6⟩
theorem c8 (B b:Nat) (s:Cm) (k:Nat) (w:World) (hB:B<=b) (hD:Hid (Dp w b s)) (k1:1<=k) (hk:k<=60) (d1: -100000<=s.dp) (d2:s.dp<=100000):
 Calls prog 193 #[.pointer (some ⟨b,0,none⟩),.int .u64 k] w fun e w'=>e= .returned (.tuple #[])/\∃s',Ec k s s'/\Dp w' b s'/\Below B w w':=by
 refine(RT B b s.A s.nd s.dp s.tr k w hB (Hi hD.o.dec) hD.o.pos hD.o.lead k1 hk d1 d2).mono ?_;rintro e w' ⟨rfl,A',W,dp',qS,n,hs,h1,h2,h3,h4,h5,h6⟩;exact⟨rfl,⟨A',n,dp',qS⟩,⟨W,hs,h1,h2,h3,h4⟩,⟨h5,h1,hs.lead⟩,h6⟩
theorem WO (B b:Nat) (s:Cm) (k:Nat) (w:World) (hB:B<=b) (hT:Hid (LO w B)) (hD:Hid (Dp w b s)) (k1:1<=k) (hk:k<=60) (d1: -100000<=s.dp) (d2:s.dp<=100000):
 Calls prog 188 #[.pointer (some ⟨b,0,none⟩),.int .i64 k] w fun e w'=>e= .returned (.tuple #[])/\∃s',DX k s s'/\Dp w' b s'/\Below B w w':=by
 have k0:=hD.o.dec.MA;have n0:((s.nd:Int)==0)=false:=DC (n:=0) (by have:=hD.o.pos;omega);have C:=Hi (iY B b s k w hB hT hD k1 hk d1 d2);have k2:(k:Int)<=60:=by omega
 have k3:(1:Int)<=k:=by omega
 have k4:0<k:=by omega
 go_enter func188,ntmps188;go_wp2
 go_loopw [1] (fun kv wr=>kv= .int .i64 k/\wr=w) (fun _ _=>0)
 case atStart=>exact⟨rfl,rfl⟩
 case round=>
  obtain⟨rfl,rfl⟩:=hrel
  go_wp2_with (go_at_call 192;(with_reducible refine C.o.mono ?_))
  rintro e w' ⟨rfl,h⟩;have H:=Hi h;clear h;go_wp2
  go_end0
  exact⟨rfl,H.o⟩
theorem Wq (B b:Nat) (s:Cm) (k:Nat) (w:World) (hB:B<=b) (hD:Hid (Dp w b s)) (k1:1<=k) (hk:k<=90000) (d1: -60000<=s.dp) (d2:s.dp<=60000):
 Calls prog 188 #[.pointer (some ⟨b,0,none⟩),.int .i64 (-(k:Int))] w fun e w'=>e= .returned (.tuple #[])/\∃s',Mo k s s'/\Dp w' b s'/\Below B w w':=by
 have k0:=hD.o.dec.MA;have n0:((s.nd:Int)==0)=false:=DC (n:=0) (by have:=hD.o.pos;omega);have k2:(k:Int)<=90000:=by omega
 have k3:(1:Int)<=k:=by omega
 have kp:0<k:=by omega
 have kq:¬(k:Int)<0:=by omega
 have kr:(0:Int)<=k:=by omega
 go_enter func188,ntmps188;go_wp2
 go_loopg [1] k (fun g kv wr=>∃(j:Nat) (t:Cm),g=j/\kv= .int .i64 (-(j:Int))/\1<=j/\j<=k/\Dp wr b t/\Below B w wr/\(∀s',Mo j t s'->Mo k s s')/\t.dp<=s.dp/\3*(s.dp-t.dp)<=((k:Int)-j))
 case atStart=>exact⟨k,s,rfl,rfl,k1,nR _,hD.o,Below.refl _ _,fun _ h=>h,by omega,by omega⟩
 case round=>
  obtain⟨j,t,hgj,rfl,j1,jk,hd,hb,qd,t1,t2⟩:=hrel;obtain rfl:j=gk:=hgj.symm;have HD:=Hi hd;by_cases hj:60<j
  ·have ji:(60:Int)<j:=by omega
   have C:Hid (Calls prog 193 #[.pointer (some ⟨b,0,none⟩),.int .u64 60] wr fun e w'=>e= .returned (.tuple #[])/\∃s',Ec 60 t s'/\Dp w' b s'/\Below B wr w'):=Hi (c8 B b t 60 wr hB HD (by omega) (by omega) (by omega) (by omega));have HB:=Hi hb;have zx:=Hi qd;clear hd hb qd
   go_wp2_with (go_at_call 193;(with_reducible refine C.o.mono ?_))
   rintro e w' rfl t' hr tF rF;have hdp:=hr.dp (nR _) HD.o.pos HD.o.lead;have H:=Hi (show Dp w' b t'/\Below B w w'/\(∀s',Mo (j-60) t' s'->Mo k s s')/\t'.dp<=s.dp/\3*(s.dp-t'.dp)<=((k:Int)-((j-60:Nat):Int))from⟨tF,HB.o.trans rF,fun s' c=>zx.o s' (.more hj hr c),by omega,by omega⟩);clear hr tF rF hdp;go_wp2
   go_roundg (j-60)
   case measure=>omega
   case rel=>exact⟨j-60,t',rfl,by(refine mQ _ ?_;omega),by omega,by omega,H.o⟩
  ·have ji:(j:Int)<=60:=by omega
   have ji1:(1:Int)<=j:=by omega
   have C:=Hi (c8 B b t j wr hB HD j1 (by omega) (by omega) (by omega));have HB:=Hi hb;have zx:=Hi qd;clear hd hb qd
   go_wp2_with (go_at_call 193;(with_reducible refine C.o.mono ?_))
   rintro e w' rfl t' hr tF rF;have H:=Hi (show∃s',Mo k s s'/\Dp w' b s'/\Below B w w' from⟨t',zx.o t' (.last (by omega) hr),tF,HB.o.trans rF⟩);clear hr tF rF;go_wp2
   go_end0
   exact⟨rfl,H.o⟩
end Go.Proofs
end
section
namespace Go.Pf
theorem Ef {A:Nat->Nat} {n:Nat}(h0:0<n) (hd:∀i,i<n->A i<=57):num A n/10^(n-1)=A 0-48:=by
 have h1:=Et n (n-1) hd (by omega);have h2:=GN n hd;have h3:num A n/10^(n-1)<10:=by
  rw[mY (AU _),mR 10,<-l9,show(n-1).succ=n by omega];exact h2
 rw[mv h3,show n-1-(n-1)=0 by omega]at h1;exact h1
theorem TG {A:Nat->Nat} {nd:Nat}(hd:∀i,i<nd->A i<=57):∀c,A8 A nd (c+1)<(A8 A nd 1+1)*10^c
 |0=>by simp
 |c+1=>by
  have h1:=TG hd c;rw[A8,l9,<-l5];generalize(A8 A nd 1+1)*10^c=Z at*;by_cases h:c+1<nd
  ·have:=hd (c+1) h;rw[lQ h];omega
  ·rw[lL h];omega
theorem Ec.mu {k:Nat} {s s':Cm}(h:Ec k s s') (k1:1<=k) (hd:∀i,i<s.nd->48<=s.A i/\s.A i<=57) (h0:0<s.nd) (hA:49<=s.A 0):10*s'.dp+(s'.A 0-48:Nat)<10*s.dp+(s.A 0-48:Nat):=by
 obtain⟨W,hs,_⟩:=h;obtain⟨V,c,r,h1,h2,h3,h4,h5,h6,_,h8,_⟩:=hs.ex;have hl:=hs.Ca 0 hs.pos;have hw:=hs.pos;by_cases hr:r=1
 ·subst hr;have e1:A8 s.A s.nd 1=s.A 0-48:=by rw[A8,A8,lQ h0];omega
  have hup:=TG (fun i hi=>(hd i hi).2) c;rw[e1]at hup h8;rw[<-h3]at hup;have xu:=Ef hs.pos (fun i hi=>(hs.Ca i hi).2);rw[h6,mf,<-lW,show c-W+(W-1)=c-1 by omega]at xu;have h9:(s'.A 0-48)*10^(c-1)<=V:=by rw[<-xu];exact pj _ _
  have sD:2<=2^k:=by
   have:=lX (n:=2) (by decide) k1;omega
  have h11:V*20<=V*(10*2^k):=mU _ (by omega);have h12:10^c=10^(c-1)*10:=by rw[<-l9,show(c-1).succ=c by omega]
  rw[h12]at hup;have hup2:=mG h11 hup;rw[<-l5]at hup2;clear hup h11 h3;have h13:(s.A 0-48+1)*10^(c-1)<=(s.A 0-48)*2*10^(c-1):=lV _ (by omega);have h14:(s'.A 0-48)*2<(s.A 0-48)*2:=by
   apply mc (a:=10^(c-1));have vZ:(s'.A 0-48)*2*10^(c-1)=(s'.A 0-48)*10^(c-1)*2:=oR _ _ _;rw[vZ];generalize(s'.A 0-48)*10^(c-1)=X at*;generalize(s.A 0-48+1)*10^(c-1)=Y at*;omega
  omega
 ·omega
theorem DX.mu {k:Nat} {s s':Cm}(h:DX k s s') (k1:1<=k) (hd:∀i,i<s.nd->48<=s.A i/\s.A i<=57) (h0:0<s.nd) (hn:s.nd<=800) (hA:49<=s.A 0):
 10*s.dp+(s.A 0-48:Nat)<10*s'.dp+(s'.A 0-48:Nat)/\s.dp<=s'.dp/\s'.dp<=s.dp+19:=by
 obtain⟨W,hs,_⟩:=h;obtain⟨D,hD,h4,h5,h6,_,_,_⟩:=hs.ex;have hl:=hs.Ca 0 hs.pos;have uL:=hs.lead;have hh:=hd 0 h0;by_cases hr:D=0
 ·subst hr;have hW:W=s.nd:=by omega
  subst hW;rw[nK,oj,nC,Nat.div_one]at h6;have e1:=Ef h0 (fun i hi=>(hd i hi).2);have e2:=Ef hs.pos (fun i hi=>(hs.Ca i hi).2);rw[h6]at e2;have h9:num s.A s.nd/10^(s.nd-1)*10^(s.nd-1)<=num s.A s.nd:=pj _ _;have sD:2<=2^k:=by
   have:=lX (n:=2) (by decide) k1;omega
  have h11:num s.A s.nd*2<=num s.A s.nd*2^k:=mU _ sD;have h12:(s.A 0-48)*2<=s'.A 0-48:=by
   rw[<-e2,nY (AU _),<-e1,oR];omega
  omega
 ·omega
end Go.Pf
end
section
namespace Go.Pf
def gz (l0:Nat) (J0:Act->World->Prop) (l1:Nat) (J1:Act->World->Prop) (Q:Exit->Act->World->Prop):Exit->Act->World->Prop
 | .goto l,a,w=>(l=l0/\J0 a w)\/(l=l1/\J1 a w)
 |e,a,w=>Q e a w
section
variable {P:Program} {a:Act} {w:World} {Q:Exit->Act->World->Prop}
theorem E9 {c rest0 rest1:Code}(l0 l1:Nat) (hf0:findLabel c l0=some rest0) (hf1:findLabel c l1=some rest1)
 (h:c.wp P (gz l0 (fun a w=>rest0.wp P (Exit.noGoto Q) a w) l1 (fun a w=>rest1.wp P (Exit.jump l0 (fun a w=>rest0.wp P (Exit.noGoto Q) a w) Q) a w) Q) a w):(Code.scope c).wp P Q a w:=by
 intro b k cs;have hg0:gotoIn l0 (.inScope c::k)=some (.code rest0:: .inScope c::k):=by simp[gotoIn,hf0]
 have uX:gotoIn l1 (.inScope c::k)=some (.code rest1:: .inScope c::k):=by simp[gotoIn,hf1]
 have key0:∀a w,rest0.wp P (Exit.noGoto Q) a w->∃e a' w',Q e a' w'/\Arrives P (lone (b.at a (.code rest0:: .inScope c::k)) cs w) b k cs e a' w':=by
  intro a w h0;obtain⟨e,a₁,w₁,hq,rU⟩:=h0 b (.inScope c::k) cs;cases e with
  |normal=>exact⟨.normal,a₁,w₁,hq,Steps.trans rU (.one step_inScope)⟩
  |exit id=>exact⟨.exit id,a₁,w₁,hq,fun k' hk=>rU k' (by simp[exitTo,hk])⟩
  |goto l'=>exact hq.elim
  |ret=>exact⟨_,a₁,w₁,hq,rU⟩
  |panic ch=>exact⟨_,a₁,w₁,hq,rU⟩
  |outgrown=>exact⟨_,a₁,w₁,hq,rU⟩
 have key1:∀a w,rest1.wp P (Exit.jump l0 (fun a w=>rest0.wp P (Exit.noGoto Q) a w) Q) a w->∃e a' w',Q e a' w'/\Arrives P (lone (b.at a (.code rest1:: .inScope c::k)) cs w) b k cs e a' w':=by
  intro a w h0;obtain⟨e,a₁,w₁,hq,rU⟩:=h0 b (.inScope c::k) cs;cases e with
  |normal=>exact⟨.normal,a₁,w₁,hq,Steps.trans rU (.one step_inScope)⟩
  |exit id=>exact⟨.exit id,a₁,w₁,hq,fun k' hk=>rU k' (by simp[exitTo,hk])⟩
  |goto l'=>
   obtain⟨rfl,hJ'⟩:=hq;obtain⟨e₂,a₂,w₂,hq₂,harr₂⟩:=key0 a₁ w₁ hJ';exact⟨e₂,a₂,w₂,hq₂,.of_steps (rU _ hg0) harr₂⟩
  |ret=>exact⟨_,a₁,w₁,hq,rU⟩
  |panic ch=>exact⟨_,a₁,w₁,hq,rU⟩
  |outgrown=>exact⟨_,a₁,w₁,hq,rU⟩
 obtain⟨e,a₁,w₁,hq,rU⟩:=h b (.inScope c::k) cs;cases e with
 |normal=>exact⟨.normal,a₁,w₁,hq,.head step_scope (Steps.trans rU (.one step_inScope))⟩
 |exit id=>exact⟨.exit id,a₁,w₁,hq,fun k' hk=> .head step_scope (rU k' (by simp[exitTo,hk]))⟩
 |goto l'=>
  rcases hq with⟨rfl,hJ'⟩|⟨rfl,hJ'⟩
  ·obtain⟨e₂,a₂,w₂,hq₂,harr₂⟩:=key0 a₁ w₁ hJ';exact⟨e₂,a₂,w₂,hq₂,.of_steps (.head step_scope (rU _ hg0)) harr₂⟩
  ·obtain⟨e₂,a₂,w₂,hq₂,harr₂⟩:=key1 a₁ w₁ hJ';exact⟨e₂,a₂,w₂,hq₂,.of_steps (.head step_scope (rU _ uX)) harr₂⟩
 |ret=>exact⟨_,a₁,w₁,hq,.of_steps (.one step_scope) rU⟩
 |panic ch=>exact⟨_,a₁,w₁,hq,.of_steps (.one step_scope) rU⟩
 |outgrown=>exact⟨_,a₁,w₁,hq,.of_steps (.one step_scope) rU⟩
end
end Go.Pf
end
section
namespace Go.Pf
open Go.RowKit
def U5:List Nat:= [1,3,6,9,13,16,19,23,26]
def pw (d:Int):Nat:=if 9<=d then 27 else U5.getD d.toNat 1
theorem JE (d:Int):1<=pw d/\pw d<=27:=by
 unfold pw;split
 ·decide
 ·have key:∀n,n<9->1<=U5.getD n 1/\U5.getD n 1<=27:=by decide
  by_cases h:d.toNat<9
  ·exact key _ h
  ·rw[lZ,mr (by simp[U5];omega)];decide
inductive Dn:Cm->Int->Cm->Int->Prop
 |done {s:Cm} {e:Int}(h:s.dp<=0):Dn s e s e
 |step {s t s':Cm} {e e':Int}(h:0<s.dp) (r:Mo (pw s.dp) s t) (c:Dn t (e+pw s.dp) s' e'):Dn s e s' e'
def Da (s:Cm):Prop:=s.dp<0\/s.dp=0/\s.A 0<53
inductive Up:Cm->Int->Cm->Int->Prop
 |done {s:Cm} {e:Int}(h:¬Da s):Up s e s e
 |step {s t s':Cm} {e e':Int}(h:Da s) (r:DX (pw (-s.dp)) s t) (c:Up t (e-pw (-s.dp)) s' e'):Up s e s' e'
def Dg (m:Nat) (e:Int):Nat:=(m&&&4503599627370495)|||((e+1023).toNat*4503599627370496)
def Hq (m:Nat) (e:Int):Nat×Bool:=(Dg m (if m&&&4503599627370496=0 then-1023 else e),false)
def Fw (m:Nat) (e:Int):Nat×Bool:=
 if m=9007199254740992 then(if 2047<=e+1+1023 then(Dg 0 1024,true)else Hq 4503599627370496 (e+1))else Hq m e
def FB (s:Cm) (r:Nat×Bool):Prop:=
 if 310<s.dp then r=(Dg 0 1024,true)
 else if s.dp< -330 then r=(Dg 0 (-1023),false)
 else∃s1 e1 s2 e2 s3 e3,Dn s 0 s1 e1/\Up s1 e1 s2 e2/\(if e2-1< -1022 then Mo (-1022-(e2-1)).toNat s2 s3/\e3= -1022 else s3=s2/\e3=e2-1)/\
  (if 2047<=e3+1023 then r=(Dg 0 1024,true)else∃s4,DX 53 s3 s4/\r=Fw (EG s4.A s4.nd s4.tr s4.dp) e3)
theorem Mo.dp {k:Nat} {s s':Cm}(h:Mo k s s'):0<s.nd->49<=s.A 0->s'.dp<=s.dp/\3*(s.dp-s'.dp)<=k+60:=by
 induction h with
 |last hk r=>
  intro h0 hA;have:=r.dp hk h0 hA;omega
 |more hk r c ih=>
  intro h0 hA;have h1:=r.dp (nR _) h0 hA;obtain⟨W,hs,hp,_⟩:=r;have h2:=ih hp hs.lead;omega
theorem Mo.small {k:Nat} {s s':Cm}(h:Mo k s s') (hk:k<=60):Ec k s s':=by
 cases h with
 |last _ r=>exact r
 |more h2 _ _=>omega
structure Nz (w:World) (B:Nat):Prop where
 gV:21<B
 l:LO w B
 p:∃g o c,g<B/\w.cell? ⟨14,0,none⟩=some (.slice (some ⟨g,o,none⟩) 9 c)/\∀i,i<9->w.cell? ⟨g,o+i,none⟩=some (.int .i64 (U5.getD i 1:Nat))
 i0:w.cell? ⟨12,0,none⟩=some (.int .u64 52)
 i1:w.cell? ⟨12,1,none⟩=some (.int .u64 11)
 i2:w.cell? ⟨12,2,none⟩=some (.int .i64 (-1023))
theorem LO.below {w w':World} {B:Nat}(h:LO w B) (hb:Below B w w'):LO w' B:=by
 obtain⟨g,o,c,h1,h2,h3,h4⟩:=h;exact⟨g,o,c,h1,h2,(hb.cell (p:=⟨19,0,none⟩) h2).trans h3,fun i hi=>⟨(hb.cell (p:=⟨g,o+i*2,none⟩) h1).trans (h4 i hi).1,(hb.cell (p:=⟨g,o+i*2+1,none⟩) h1).trans (h4 i hi).2⟩⟩
theorem Nz.below {w w':World} {B:Nat}(h:Nz w B) (hb:Below B w w'):Nz w' B:=by
 have hl:=h.gV;refine⟨hl,h.l.below hb,?_,(hb.cell (p:=⟨12,0,none⟩) (by show 12<B;omega)).trans h.i0,(hb.cell (p:=⟨12,1,none⟩) (by show 12<B;omega)).trans h.i1,(hb.cell (p:=⟨12,2,none⟩) (by show 12<B;omega)).trans h.i2⟩;obtain⟨g,o,c,h1,h3,h4⟩:=h.p;exact⟨g,o,c,h1,(hb.cell (p:=⟨14,0,none⟩) (by show 14<B;omega)).trans h3,fun i hi=>(hb.cell (p:=⟨g,o+i,none⟩) h1).trans (h4 i hi)⟩
end Go.Pf
end
section
namespace Go.Pf
def iM (t2 s3:Cm) (e2 e3:Int):Prop:=if e2-1< -1022 then Mo (-1022-(e2-1)).toNat t2 s3/\e3= -1022 else s3=t2/\e3=e2-1
theorem Om (x:Nat) (h:x<=2047):bits .and .i64 (x:Int) 2047=(x:Int):=by
 have:=bits_mask .i64 63 (by decide) (fun n h0 h1=>pt n ⟨by omega,by omega⟩) 11 (by decide) (x:Int) (by omega) (by omega);have e:(2:Int)^11-1=2047:=by decide
 rw[e]at this;rw[this];omega
theorem La (m:Nat) (hm:m<18446744073709551616) (e:Int) (h1: -1023<=e) (h2:e<=1023):
 ∃m1 x R:Nat,bits .and .u64 (m:Int) 4503599627370495=(m1:Int)/\e+1023=(x:Int)/\bits .and .i64 (x:Int) 2047=(x:Int)/\bits .or .u64 (m1:Int) ((x:Int)*4503599627370496)=(R:Int)/\R=Dg m e/\x<=2046:=by
 refine⟨m&&&4503599627370495,(e+1023).toNat,Dg m e,u64_and_nat m 4503599627370495 hm (by decide),by omega,Om _ (by omega),?_,rfl,by omega⟩;have hx:(e+1023).toNat<=2046:=by omega
 have h3:=u64_or_nat (m&&&4503599627370495) ((e+1023).toNat*4503599627370496) (mG Nat.and_le_left hm) (by omega);rw[oP]at h3;exact h3
theorem Zd (m:Nat) (hm:m<18446744073709551616):bits .and .u64 (m:Int) 4503599627370496=((m&&&4503599627370496:Nat):Int):=u64_and_nat m 4503599627370496 hm (by decide)
theorem UO (A:Nat->Nat) (nd:Nat) (tr:Bool) (dp:Int):EG A nd tr dp<18446744073709551616:=by
 unfold EG;split
 ·decide
 ·exact mw _ (by decide)
end Go.Pf
end
