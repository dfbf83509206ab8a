import Derived.Test.YtnipmfaikiaipaaGreatDoorTac
import Derived.Deep.CutBlock
set_option maxRecDepth 1000000
set_option maxHeartbeats 40000000
section
namespace Go.Pf
def Lg (N PP m:Nat):Nat:=N %10^m*PP/10^m
theorem A3 (m:Nat):0<10^m:=Nat.pow_pos (by decide)
theorem UM (N PP:Nat):Lg N PP 0=0:=by simp[Lg,Nat.mod_one]
theorem Sw (N PP m:Nat) (hp:0<PP):Lg N PP m<PP:=by
 unfold Lg;rw[ad (A3 m)];rw[So PP];exact c8 (gR _ (A3 m)) hp
theorem Ll (N m:Nat):N %10^(m+1)=N %10^m+10^m*(N/10^m %10):=by rw[gj,Nat.mod_mul]
theorem O5 (N PP m:Nat):Lg N PP m+(N/10^m %10)*PP=N %10^(m+1)*PP/10^m:=by
 rw[Ll,UP,G0,So (10^m) _,Nat.add_mul_div_right _ _ (A3 m)];rfl
theorem Oq (N PP m:Nat):(Lg N PP m+(N/10^m %10)*PP)/10=Lg N PP (m+1):=by
 rw[O5,SO,<-gj];rfl
theorem Rt (N PP m:Nat):(Lg N PP m+(N/10^m %10)*PP) %10=N*PP/10^m %10:=by
 rw[O5];have h1:N*PP=N %10^(m+1)*PP+10^m*(10*(N/10^(m+1)*PP)):=by
  have e:=Nat.div_add_mod N (10^(m+1))
  conv=>lhs;rw[<-e]
  rw[UP,Nat.add_comm,gj];congr 1;rw[G0,G0]
 rw[h1,Nat.add_mul_div_left _ _ (A3 m),Nat.add_mul_mod_self_left]
theorem Ya {N nd m:Nat}(h:N<10^nd) (hm:nd<=m) (PP:Nat):Lg N PP m=N*PP/10^m/\N/10^m %10=0:=by
 have h1:N<10^m:=IN h (AT (by decide) hm);unfold Lg;rw[e8 h1,bh h1];exact⟨rfl,rfl⟩
theorem LL {A:Nat->Nat} :∀n,(∀i,i<n->A i<=57)->num A n<10^n
 |0,_=>by simp[num]
 |n+1,h=>by
  have h1:=LL n (fun i hi=>h i (by omega));have h2:=h n (by omega);rw[num,gj];omega
theorem Mh {A:Nat->Nat} :∀n m,(∀i,i<n->A i<=57)->m<n->num A n/10^m %10=A (n-1-m)-48
 |0,m,_,hm=>by omega
 |n+1,0,h,_=>by
  have h2:=h n (by omega);rw[num,gf,Nat.div_one,Nat.add_sub_cancel,Nat.sub_zero];omega
 |n+1,m+1,h,hm=>by
  have h2:=h n (by omega);rw[num,gj,So (10^m) 10,<-SO,show(num A n*10+(A n-48))/10=num A n by omega,Mh n m (fun i hi=>h i (by omega)) (by omega)];congr 2;omega
theorem Sc {A:Nat->Nat}(hA:49<=A 0):∀n,10^n<=num A (n+1)
 |0=>by simp[num];omega
 |n+1=>by rw[num,gj];have:=Sc hA n;omega
theorem XC {A:Nat->Nat} {X T:Nat}(hX:X<10^T):∀p,p<=T->(∀i,i<p->A i=48+X/10^(T-1-i) %10)->num A p=X/10^(T-p)
 |0,_,_=>by rw[num,Nat.sub_zero,bh hX]
 |p+1,hp,h=>by
  rw[num,XC hX p (by omega) (fun i hi=>h i (by omega)),h p (by omega)];have e1:T-p=(T-(p+1))+1:=by omega
  have e2:T-1-p=T-(p+1):=by omega
  rw[e1,e2,gj,<-SO];omega
def nT (A:Nat->Nat):Nat->Nat->Nat
 |_,0=>0
 |i,n+1=>(A i-48)*10^n+nT A (i+1) n
theorem R4 (A:Nat->Nat):∀n i,nT A i (n+1)=nT A i n*10+(A (i+n)-48)
 |0,i=>by simp[nT]
 |n+1,i=>by
  rw[nT,R4 A n (i+1),nT,gj,show i+1+n=i+(n+1) by omega,<-G0];omega
theorem Wp (A:Nat->Nat):∀n,nT A 0 n=num A n
 |0=>rfl
 |n+1=>by rw[R4,Wp A n,num,gX]
theorem Zy {A:Nat->Nat} :∀n i,(∀j,i<=j->j<i+n->A j<=57)->nT A i n<10^n
 |0,_,_=>by simp[nT]
 |n+1,i,h=>by
  have h1:=Zy n (i+1) (fun j a b=>h j (by omega) (by omega));have h2:=h i (nR _) (by omega);rw[nT,gj];have h3:(A i-48)*10^n<=9*10^n:=FF _ (by omega);omega
def vS:List UInt8->Nat
 | []=>0
 |c::r=>(c.toNat-48)*10^r.length+vS r
def cF:List UInt8->Bool
 | []=>true
 |c::r=>Nat.ble 48 c.toNat&&Nat.ble c.toNat 57&&Nat.blt 0 (vS (c::r))&&cF r
theorem Zs:∀l,cF l=true->vS l<10^l.length
 | [],_=>by simp[vS]
 |c::r,h=>by
  simp only[cF,Bool.and_eq_true,Nat.ble_eq]at h;have h1:=Zs r h.2;rw[vS,List.length_cons,gj];have h3:(c.toNat-48)*10^r.length<=9*10^r.length:=FF _ (by omega);omega
theorem MP {d c a s n m:Nat}(h:d<c) (ha:a<10^n):(d*10^n+a)*10^(m+1)<(c*10^m+s)*10^(n+1):=by
 have h1:(d*10^n+a)<c*10^n:=by
  have:(d+1)*10^n<=c*10^n:=FF _ h;rw[UP]at this;omega
 have h2:(d*10^n+a)*10^(m+1)<c*10^n*10^(m+1):=c8 h1 (A3 _);have h3:c*10^n*10^(m+1)=c*10^m*10^(n+1):=by
  rw[gj,gj,G0,G0,Nat.mul_left_comm (10^n)]
 refine IN h2 ?_;rw[h3];exact FF _ (Nat.le_add_right _ _)
theorem SP {A:Nat->Nat} {nd:Nat}(hd:∀i,i<nd->48<=A i/\A i<=57):
 ∀(l:List UInt8) (i n:Nat),cF l=true->i+n=nd->(Qd A nd l i=true↔nT A i n*10^l.length<vS l*10^n)
 | [],i,n,_,_=>by simp[Qd,vS]
 |c::r,i,n,h,hn=>by
  have hk:=h;simp only[cF,Bool.and_eq_true,Nat.ble_eq,Nat.blt_eq]at h;obtain⟨⟨⟨c1,c2⟩,c3⟩,c4⟩:=h;cases n with
  |zero=>
   rw[Qd,if_pos (by omega)];simp only[nT,Nat.zero_mul,gf,gY];exact⟨fun _=>c3,fun _=>trivial⟩
  |succ n=>
   have hdi:=hd i (by omega);have ha:=Zy (A:=A) n (i+1) (fun j a b=>(hd j (by omega)).2);have hs:=Zs r c4;rw[Qd,if_neg (by omega),nT,vS,List.length_cons];by_cases e:A i=c.toNat
   ·rw[if_pos e,SP hd r (i+1) n c4 (by omega),e];have e1:((c.toNat-48)*10^n+nT A (i+1) n)*10^(r.length+1)=(c.toNat-48)*10^n*10^(r.length+1)+(nT A (i+1) n*10^r.length)*10:=by rw[UP,gj,G0 (nT A (i+1) n)]
    have e2:((c.toNat-48)*10^r.length+vS r)*10^(n+1)=(c.toNat-48)*10^n*10^(r.length+1)+(vS r*10^n)*10:=by
     rw[UP,gj,gj,G0 (vS r),G0,G0,Nat.mul_left_comm (10^r.length)]
    rw[e1,e2];omega
   ·rw[if_neg e,decide_eq_true_iff];by_cases hl:A i<c.toNat
    ·exact⟨fun _=>MP (by omega) ha,fun _=>hl⟩
    ·refine⟨fun h=>absurd h hl,fun h=> ?_⟩;have:=MP (d:=c.toNat-48) (c:=A i-48) (a:=vS r) (s:=nT A (i+1) n) (n:=r.length) (m:=n) (by omega) hs;omega
end Go.Pf
end
section
namespace Go.Pf
def Et (k:Nat):Nat:=((Go.Pinned.cheatRows.getD k (0,[])).1)
def OO (k:Nat):List UInt8:=(Go.Pinned.cheatRows.getD k (0,[])).2
def dP (k:Nat):Bool:=
 cF (OO k)&&Nat.beq (vS (OO k)) (5^k)&&Nat.beq (Et k+(OO k).length) (k+1)&&Nat.ble (10^(Et k-1)) (2^k)&&Nat.blt (2^k) (10^Et k)&&Nat.ble 1 (Et k)&&Nat.ble (Et k) 19
theorem dX:(List.range 60).all (fun k=>dP (k+1))=true:=by kernel_rfl
theorem Ve {k:Nat}(h1:1<=k) (h2:k<=60):cF (OO k)=true/\vS (OO k)=5^k/\Et k+(OO k).length=k+1/\10^(Et k-1)<=2^k/\2^k<10^Et k/\1<=Et k/\Et k<=19:=by
 have:=List.all_eq_true.1 dX (k-1) (List.mem_range.2 (by omega));rw[Nat.sub_add_cancel h1]at this;simp only[dP,Bool.and_eq_true,Nat.beq_eq,Nat.ble_eq,Nat.blt_eq]at this;exact⟨this.1.1.1.1.1.1,this.1.1.1.1.1.2,this.1.1.1.1.2,this.1.1.1.2,this.1.1.2,this.1.2,this.2⟩
def Uw (A:Nat->Nat) (nd k:Nat):Nat:=if Qd A nd (OO k) 0=true then Et k-1 else Et k
theorem Tr (k:Nat):10^k=5^k*2^k:=by rw[<-Nat.mul_pow]
theorem Xt {A:Nat->Nat} {nd k:Nat}(hd:∀i,i<nd->48<=A i/\A i<=57) (hA:49<=A 0) (h0:0<nd) (h1:1<=k) (h2:k<=60):
 10^(nd+Uw A nd k-1)<=num A nd*2^k/\num A nd*2^k<10^(nd+Uw A nd k)/\Uw A nd k<=19:=by
 obtain⟨t1,t2,t3,t4,t5,t6,t7⟩:=Ve h1 h2;have hp:=SP hd (OO k) 0 nd t1 (by omega);rw[Wp,t2]at hp;obtain⟨L,hL⟩:∃L,L=(OO k).length:=⟨_,rfl⟩;rw[<-hL]at hp t3;have hlo:10^(nd-1)<=num A nd:=by
  have:=Sc hA (nd-1)
  rwa [Nat.sub_add_cancel h0]at this
 have hhi:=LL nd (fun i hi=>(hd i hi).2);have p2:=An k;have e1:5^k*10^nd*2^k=10^(nd+k-L)*10^L:=by
  rw[<-E3,show nd+k-L+L=k+nd by omega,E3,Tr k,Nat.mul_right_comm]
 have e2:num A nd*10^L*2^k=num A nd*2^k*10^L:=Nat.mul_right_comm _ _ _;unfold Uw;by_cases hpil:Qd A nd (OO k) 0=true
 ·rw[if_pos hpil];have hlt:=hp.1 hpil;refine⟨?_,?_,by omega⟩
  ·rw[show nd+(Et k-1)-1=(nd-1)+(Et k-1) by omega,E3];exact Nat.mul_le_mul hlo t4
  ·have h3:=c8 hlt p2;rw[e1,e2]at h3;have h4:=cS h3;rw[show nd+(Et k-1)=nd+k-L by omega];exact h4
 ·rw[if_neg hpil];have hge:5^k*10^nd<=num A nd*10^L:=Nat.le_of_not_lt (fun h=>hpil (hp.2 h));refine⟨?_,?_,t7⟩
  ·have h3:=FF (2^k) hge;rw[e1,e2]at h3;have h4:=Nat.le_of_mul_le_mul_right h3 (A3 L);rw[show nd+Et k-1=nd+k-L by omega];exact h4
  ·rw[E3];exact Nat.mul_lt_mul'' hhi t5
end Go.Pf
end
section
namespace Go.Pf
open Go.RowKit
structure PL (A:Nat->Nat) (nd:Nat) (dp:Int) (tr:Bool) (PP T b B:Nat) (w0:World) (m wc n:Nat) (A':Nat->Nat) (tr':Bool) (wr:World):Prop where
 dec:EF wr b A' nd dp tr'
 Ad:Below B w0 wr
 Ln:wc+m=T
 XG:n=Lg (num A nd) PP m
 old:∀i,i<wc->i<nd->A' i=A i
 new:∀p,wc<=p->p<T->p<800->A' p=48+num A nd*PP/10^(T-1-p) %10
 cH:tr'=(tr||decide (num A nd*PP %10^(min m (T-800))≠0))
theorem PL.keep {A:Nat->Nat} {nd:Nat} {dp:Int} {tr:Bool} {PP T b B:Nat} {w0:World} {m wc n:Nat} {A':Nat->Nat} {tr':Bool} {wr:World}(h:PL A nd dp tr PP T b B w0 m wc n A' tr' wr) (hB:B<=b){p q rem:Nat}(hp:wc=p+1) (h8:p<800)
 (hq:q=(n+num A nd/10^m %10*PP)/10) (hr:rem=(n+num A nd/10^m %10*PP) %10):
 PL A nd dp tr PP T b B w0 (m+1) p q (MX A' p (rem+48)) tr' (wr.setCell ⟨b,p,none⟩ (.int .u8 ((rem+48:Nat):Int))):=by
 have hc:=h.Ln;rw[h.XG]at hq hr;rw[Oq]at hq;rw[Rt]at hr;have r9:rem<10:=by rw[hr];exact gR _ (by decide)
 refine⟨h.dec.Nq p (rem+48) h8 nd rfl (fun i hi _=>h.dec.Bq i hi) (fun _=>by omega),h.Ad.setCell (p:=⟨b,p,none⟩) hB _,by omega,hq,?_,?_,?_⟩
 ·intro i h1 h2;rw[BZ (by omega)];exact h.old i (by omega) h2
 ·intro i h1 h2 h3;by_cases e:i=p
  ·subst e;rw[Ci,hr,show T-1-i=m by omega,Nat.add_comm]
  ·rw[BZ e];exact h.new i (by omega) h2 h3
 ·rw[h.cH,show min (m+1) (T-800)=min m (T-800) by omega]
theorem PL.drop {A:Nat->Nat} {nd:Nat} {dp:Int} {tr:Bool} {PP T b B:Nat} {w0:World} {m wc n:Nat} {A':Nat->Nat} {tr':Bool} {wr wr2:World}(h:PL A nd dp tr PP T b B w0 m wc n A' tr' wr){p q rem:Nat}(hp:wc=p+1) (h8:¬p<800)
 (hq:q=(n+num A nd/10^m %10*PP)/10) (hr:rem=(n+num A nd/10^m %10*PP) %10) (hD2:EF wr2 b A' nd dp (tr'||decide (rem≠0))) (hb2:Below B w0 wr2):
 PL A nd dp tr PP T b B w0 (m+1) p q A' (tr'||decide (rem≠0)) wr2:=by
 have hc:=h.Ln;rw[h.XG]at hq hr;rw[Oq]at hq;rw[Rt]at hr;refine⟨hD2,hb2,by omega,hq,fun i h1 h2=>h.old i (by omega) h2,fun i h1 h2 h3=>h.new i (by omega) h2 h3,?_⟩;rw[h.cH,show min (m+1) (T-800)=m+1 by omega,show min m (T-800)=m by omega,Ll,<-hr];generalize num A nd*PP %10^m=Z;have hpp:=A3 m;by_cases h1:rem=0
 ·subst h1;simp
 ·rw[AN h1,AN (show Z+10^m*rem≠0 by
   intro h0;have h2:10^m*rem=0:=by omega
   rcases Nat.mul_eq_zero.1 h2 with h3|h3
   ·omega
   ·exact h1 h3)]
  simp
structure QY (A:Nat->Nat) (nd:Nat) (dp:Int) (tr:Bool) (k:Nat) (A':Nat->Nat) (W:Nat) (dp':Int) (tr':Bool):Prop where
 ex:∃D:Nat,D<=19/\dp'=dp+D/\W=min (nd+D) 800/\num A' W=num A nd*2^k/10^(nd+D-W)/\tr'=(tr||decide (num A nd*2^k %10^(nd+D-W)≠0))/\10^(nd+D-1)<=num A nd*2^k/\num A nd*2^k<10^(nd+D)
 pos:0<W
 lead:49<=A' 0
 Bq:∀i,i<W->48<=A' i/\A' i<=57
theorem PL.done {A:Nat->Nat} {nd:Nat} {dp:Int} {tr:Bool} {k b B D:Nat} {w0:World} {m:Nat} {A':Nat->Nat} {tr':Bool} {wr:World}(h:PL A nd dp tr (2^k) (nd+D) b B w0 m 0 0 A' tr' wr) (h0:0<nd) (hD:D<=19) (h1:10^(nd+D-1)<=num A nd*2^k) (h2:num A nd*2^k<10^(nd+D)):
 QY A nd dp tr k A' (min (nd+D) 800) (dp+D) tr':=by
 have hm:=h.Ln;have Db:∀i,i<min (nd+D) 800->A' i=48+num A nd*2^k/10^(nd+D-1-i) %10:=fun i hi=>h.new i (by omega) (by omega) (by omega);refine⟨⟨D,hD,rfl,rfl,XC h2 _ (by omega) Db,?_,h1,h2⟩,by omega,?_,?_⟩
 ·rw[h.cH,show min m (nd+D-800)=nd+D-min (nd+D) 800 by omega]
 ·rw[Db 0 (by omega),Nat.sub_zero];have h3:num A nd*2^k/10^(nd+D-1)<10:=by
   rw[ad (A3 _),So 10,<-gj,show(nd+D-1).succ=nd+D by omega];exact h2
  have h4:1<=num A nd*2^k/10^(nd+D-1):=(gP (A3 _)).2 (by omega);omega
 ·intro i hi;rw[Db i hi];omega
end Go.Pf
end
section
namespace Go.Pf
def LP (w:World) (B:Nat):Prop:=∃g o c,g<B/\12<B/\w.cell? ⟨12,0,none⟩=some (.slice (some ⟨g,o,none⟩) 61 c)/\∀i,i<61->w.cell? ⟨g,o+i*2,none⟩=some (.int .i64 (Et i:Nat))/\w.cell? ⟨g,o+i*2+1,none⟩=some (.string ⟨(OO i).toArray⟩)
end Go.Pf
namespace Go.Proofs
open Go.RowKit Go.Pf
theorem _root_.Go.Pf.EF.ak {w:World} {b:Nat} {A:Nat->Nat} {nd:Nat} {dp:Int} {tr:Bool}(h:EF w b A nd dp tr) (u:Value) (n:Nat) (hn:n<=800) (hd:∀i,i<n->48<=A i/\A i<=57):
 EF ((w.setCell ⟨b,800,none⟩ u).setCell ⟨b,800,none⟩ (.int .i64 n)) b A n dp tr:=
 ⟨hn,hd,fun i hi=>other (other (h.cell i hi) (by omega)) (by omega),Cy (Cy h.Mc),other (other h.Qh (by decide)) (by decide),other (other h.Wq (by decide)) (by decide),other (other h.TU (by decide)) (by decide),fun i=>by rw[World.frozen?_setCell,World.frozen?_setCell];exact h.fz i⟩
def N5 (w:World) (B b:Nat) (A:Nat->Nat) (nd:Nat) (dp:Int) (tr:Bool) (k:Nat) (e:Ending) (w':World):Prop:=
 e= .returned (.tuple #[])/\∃(A':Nat->Nat) (W:Nat) (dp':Int) (tr':Bool) (n:Nat),QY A nd dp tr k A' W dp' tr'/\0<n/\n<=W/\A' (n-1)≠48/\(∀i,n<=i->i<W->A' i=48)/\EF w' b A' n dp' tr'/\Below B w w'
theorem UX (B b:Nat) (A:Nat->Nat) (nd:Nat) (dp:Int) (tr:Bool) (k:Nat) (w:World) (hB:B<=b) (hT:Hid (LP w B)) (hD:Hid (EF w b A nd dp tr)) (h0:0<nd) (hA:49<=A 0) (k1:1<=k) (hk:k<=60) (d1: -100000<=dp) (d2:dp<=100000):
 Calls Tryz.prog 241 #[.pointer (some ⟨b,0,none⟩),.int .u64 k] w (N5 w B b A nd dp tr k):=by
 obtain⟨g,o,c,g1,g2,t0,tt⟩:=hT.out;obtain⟨t1,t2⟩:=tt k (by omega);have k0:=hD.out.Mc;have kle:=hD.out.le;obtain⟨pl,hpl⟩:∃pl:Bool,pl=Qd A nd (OO k) 0:=⟨_,rfl⟩;obtain⟨x,hx⟩:∃x,x=Et k:=⟨_,rfl⟩;obtain⟨D,hDD⟩:∃D,D=Uw A nd k:=⟨_,rfl⟩;obtain⟨n1,n2,n3⟩:=Xt hD.out.Bq hA h0 k1 hk;rw[<-hDD]at n1 n2 n3;obtain⟨_,_,_,_,_,x1,x2⟩:=Ve k1 hk;rw[<-hx]at x1 x2;have hDx:D=if pl=true then x-1 else x:=by rw[hDD,hpl,hx];rfl
 rw[<-hx]at t1;have CP:Hid (∀n,Calls Tryz.prog 262 #[.slice (some ⟨b,0,none⟩) nd 800,.string ⟨(OO k).toArray⟩] (w.drewN n) fun e w'=>e= .returned (.bool pl)/\∃m,w'=w.drewN m):=Hi (fun n=>by
  rw[hpl];exact Calls.quiet_of (I7 b nd 800 A ⟨(OO k).toArray⟩ (w.drewN n) kle (by
   have:=(Ve k1 hk).2.2.1;show(OO k).toArray.size<=100;rw[List.size_toArray];omega) (Hi (fun i hi=>(hD.out.same (w':=w.drewN n) rfl).cell i (by omega)))))
 have ki:(k:Int)<61:=by omega
 have ndi:(nd:Int)<=800:=by omega
 have al:Tryz.prog.arrayLen 257=800:=by kernel_rfl
 clear hpl hx hDD tt;go_enter Tryz.func241,Tryz.ntmps241;go_wp2
 go_quiet ((go_at_call 262;with_reducible exact CP.out _))
 go_upto_if 30 with fail
 go_cut [4] (fun v wx=>w.drewN nq=wx/\v= .int .i64 (D:Int))
 case first=>
  have D1:(x:Int)-1=((x-1:Nat):Int):=by omega
  cases pl with
  |true=>
   rw[if_pos rfl]at hDx;go_wp2;go_meet;exact⟨rfl,by rw[hDx]⟩
  |false=>
   rw[if_neg (by decide)]at hDx;go_wp2;go_meet;exact⟨rfl,by rw[hDx]⟩
 case rest=>
 obtain⟨hw1,rfl⟩:=hcut;have hD1:EF wc b A nd dp tr:=hD.out.same (by rw[<-hw1];rfl);have hbl:Below B w wc:=by rw[<-hw1];exact Au (AH _ _)
 have k1':=hD1.Mc;have HD1:=Hi hD1;have HBL:=Hi hbl;have Di:(D:Int)<=19:=by omega
 obtain⟨T,hTT⟩:∃T,T=nd+D:=⟨_,rfl⟩;have T1:(nd:Int)+(D:Int)=(T:Int):=by omega
 have T2:T<=819:=by omega
 obtain⟨PP,hP⟩:∃PP:Nat,PP=2^k:=⟨_,rfl⟩;have p0:0<PP:=by rw[hP];exact An k
 have p1:PP<=1152921504606846976:=by rw[hP];exact To (AT (by decide) hk) (by decide)
 have pc:(2:Int)^k=(PP:Int):=by rw[hP,FE]
 have HP:=Hi hP;have HT:=Hi hTT;have ki2:(k:Int)<=60:=by omega
 have hN:=LL nd (fun i hi=>(hD.out.Bq i hi).2);have HN:=Hi hN;have N1:=Hi n1;have N2:=Hi n2;have S0:PL A nd dp tr PP T b B w 0 T 0 A tr wc:=
  ⟨hD1,hbl,by omega,(UM _ _).symm,fun _ _ _=>rfl,fun p h1 h2=>by omega,by simp[Nat.mod_one]⟩
 have HS0:=Hi S0;clear hw1 t0 t1 t2 k0 hDx CP hD1 hbl n1 n2 hP hTT hN S0;go_wp2
 go_loopw [5,6,7] (fun rv wv nv wr=>∃(z:Int) (m wc n:Nat) (A':Nat->Nat) (tr':Bool),rv= .int .i64 z/\wv= .int .i64 wc/\nv= .int .u64 n/\z+m+1=nd/\ -1<=z/\PL A nd dp tr PP T b B w m wc n A' tr' wr) (fun rv _ _ _=>(intOf rv+1).toNat)
 case atStart=>exact⟨_,0,T,0,A,tr,rfl,rfl,rfl,by omega,by omega,HS0.out⟩
 case round=>
  obtain⟨z,m,wc2,n,A',tr',rfl,rfl,rfl,hz,hz1,hpl⟩:=hrel;by_cases hz0:0<=z
  ·obtain⟨r,rfl⟩:∃r:Nat,z=r:=⟨z.toNat,by omega⟩;have hc:=hpl.Ln;have hTo:=HT.out;have r8:r<800:=by omega
   have jr:=hpl.dec.cell r r8;rw[hpl.old r (by omega) (by omega)]at jr;have dr:=hD.out.Bq r (by omega);obtain⟨d,hd⟩:∃d,d=num A nd/10^m %10:=⟨_,rfl⟩;have hd2:d=A r-48:=by
    rw[hd,Mh nd m (fun i hi=>(hD.out.Bq i hi).2) (by omega),show nd-1-m=r by omega]
   have y1:(A r:Int)-48=(d:Int):=by omega
   have y2:(A r:Int)<=57:=by omega
   have y3:(48:Int)<=(A r:Int):=by omega
   have d9:d<=9:=by omega
   obtain⟨e,he⟩:∃e,e=d*PP:=⟨_,rfl⟩;have y4:(d:Int)*(PP:Int)=(e:Int):=by rw[he,Int.natCast_mul]
   have e9:e<=9*PP:=by rw[he];exact FF _ d9
   have nlt:n<PP:=by rw[hpl.XG];exact Sw _ _ _ p0
   obtain⟨s,hs⟩:∃s,s=n+e:=⟨_,rfl⟩;have y5:(n:Int)+(e:Int)=(s:Int):=by omega
   obtain⟨q,hq⟩:∃q,q=s/10:=⟨_,rfl⟩;have y6:(s:Int)/10=(q:Int):=by omega
   obtain⟨rem,hrem⟩:∃rem,rem=s %10:=⟨_,rfl⟩;have y7:(s:Int)-10*(q:Int)=(rem:Int):=by omega
   have y8:(s:Int)<=11529215046068469760:=by omega
   have y9:(e:Int)<=10376293541461622784:=by omega
   have y10:(d:Int)<=9:=by omega
   obtain⟨p,hp⟩:∃p,wc2=p+1:=⟨wc2-1,by omega⟩;have z1:(wc2:Int)-1=(p:Int):=by omega
   have z2:wc2-1=p:=by omega
   have z3:(rem:Int)<=9:=by omega
   have hq2:q=(n+num A nd/10^m %10*PP)/10:=by rw[<-hd,<-he,<-hs];exact hq
   have hr2:rem=(n+num A nd/10^m %10*PP) %10:=by rw[<-hd,<-he,<-hs];exact hrem
   have ri:(r:Int)<800:=by omega
   have wi:(wc2:Int)<=819:=by omega
   have HZ:=Hi (show(r:Int)-1+((m+1:Nat):Int)+1=nd/\ -1<=(r:Int)-1 by omega);by_cases hp8:p<800
   ·have jw:=hpl.dec.cell p hp8;have jz:=hpl.dec.fz p;obtain⟨r48,hr48⟩:∃r48,r48=rem+48:=⟨_,rfl⟩;have z4:(rem:Int)+48=(r48:Int):=by omega
    have z5:(r48:Int)<=57:=by omega
    have pi:(p:Int)<800:=by omega
    have NX:=hpl.keep hB hp hp8 hq2 hr2;rw[<-hr48]at NX;have HNX:=Hi NX;clear NX hd hd2 he hs hq hrem hp hq2 hr2 hr48 hpl dr d9 e9 nlt hc hTo hz hz1;go_wp2;go_roundw
    case rel=>exact⟨_,m+1,p,q,_,_,rfl,by go_num,rfl,HZ.out.1,HZ.out.2,HNX.out⟩
    case measure=>simp[intOf]
   ·have jt:=hpl.dec.TU;have jz:=hpl.dec.fz 803;have pi:(800:Int)<=p:=by omega
    by_cases hr0:rem=0
    ·have NX:=hpl.drop hp hp8 hq2 hr2 (wr2:=wr) (by rw[hr0];simpa using hpl.dec) hpl.Ad;have HNX:=Hi NX;have z6:((rem:Int)==0)=true:=QC (n:=0) hr0;clear NX hd hd2 he hs hq hrem hp hq2 hr2 hpl dr d9 e9 nlt hc hTo hz hz1 hr0;go_wp2;go_roundw
     case rel=>exact⟨_,m+1,p,q,_,_,rfl,by go_num,rfl,HZ.out.1,HZ.out.2,HNX.out⟩
     case measure=>simp[intOf]
    ·have NX:=hpl.drop hp hp8 hq2 hr2 (wr2:=wr.setCell ⟨b,803,none⟩ (.bool true)) (by rw[AN hr0,Bool.or_true];exact hpl.dec.SN true) (hpl.Ad.setCell (p:=⟨b,803,none⟩) hB _);have HNX:=Hi NX;have z6:((rem:Int)==0)=false:=Bn (n:=0) hr0;clear NX hd hd2 he hs hq hrem hp hq2 hr2 hpl dr d9 e9 nlt hc hTo hz hz1 hr0;go_wp2;go_roundw
     case rel=>exact⟨_,m+1,p,q,_,_,rfl,by go_num,rfl,HZ.out.1,HZ.out.2,HNX.out⟩
     case measure=>simp[intOf]
  ·have hm:m=nd:=by omega
   have HPL:=Hi hpl;have HM:=Hi hm;have zn:decide (0<=z)=false:=AS hz0;clear hpl hm hz;go_wp2
   go_loopw [6,7] (fun wv nv wr=>∃(m wc n:Nat) (A':Nat->Nat) (tr':Bool),wv= .int .i64 wc/\nv= .int .u64 n/\nd<=m/\PL A nd dp tr PP T b B w m wc n A' tr' wr) (fun _ nv _=>(intOf nv).toNat)
   case atStart=>exact⟨m,wc2,n,A',tr',rfl,rfl,by have:=HM.out;omega,HPL.out⟩
   case round=>
    obtain⟨m,wc2,n,A',tr',rfl,rfl,hmd,hpl⟩:=hrel;obtain⟨ce1,ce2⟩:=Ya HN.out hmd PP;have hcar:=hpl.XG;rw[ce1]at hcar;have hc:=hpl.Ln;have n1:=N1.out;have n2:=N2.out;rw[<-HP.out,<-HT.out]at n1 n2;by_cases hn0:n=0
    ·have hmT:m=T:=by
      apply No;intro h;have h1:10^m<=num A nd*PP:=To (AT (by decide) (by omega)) n1;have h2:1<=num A nd*PP/10^m:=(gP (A3 m)).2 (by omega);omega
     have hw0:wc2=0:=by omega
     subst hn0 hw0;have DN:=hpl;rw[HP.out,HT.out]at DN;have LS:=DN.done h0 n3 N1.out N2.out;rw[<-HT.out]at LS;have HLS:=Hi LS;have jn:=hpl.dec.Mc;have jd:=hpl.dec.Qh;have f1:=hpl.dec.fz 800;have f2:=hpl.dec.fz 801;by_cases hT8:800<=T
     ·have hmin:min T 800=800:=by omega
      rw[hmin]at HLS;have hD4:Hid (EF (((wr.setCell ⟨b,800,none⟩ (.int .i64 (T:Int))).setCell ⟨b,800,none⟩ (.int .i64 800)).setCell ⟨b,801,none⟩ (.int .i64 (dp+(D:Int)))) b A' 800 (dp+(D:Int)) tr'):=Hi ((hpl.dec.ak (.int .i64 T) 800 (nR _) HLS.out.Bq).F2 (dp+(D:Int)));have hb4:=Hi (((hpl.Ad.setCell (p:=⟨b,800,none⟩) hB (.int .i64 T)).setCell (p:=⟨b,800,none⟩) hB (.int .i64 800)).setCell (p:=⟨b,801,none⟩) hB (.int .i64 (dp+(D:Int))));have hTi:(800:Int)<=T:=by omega
      clear LS DN hpl hcar hc n1 n2 hmin ce1 ce2
      go_wp2_with (go_at_call 240;(with_reducible refine(VC B b A' 800 (dp+(D:Int)) tr' _ hB hD4).mono ?_))
      rintro e w' ⟨rfl,n,hnw,hlast,hzz,hd5,hb5⟩;have np:0<n:=by
       apply No;intro h;have h1:=hzz 0 (by omega) HLS.out.pos;have h2:=HLS.out.lead;omega
      have hl:A' (n-1)≠48:=hlast.resolve_left (by omega);have HE:Hid (N5 w B b A nd dp tr k (.returned (.tuple #[])) w'):=Hi ⟨rfl,A',800,dp+D,tr',n,HLS.out,np,hnw,hl,hzz,by rw[if_neg (by omega)]at hd5;exact hd5,hb4.out.trans hb5⟩;clear hlast hzz hd5 hb5 hl;go_wp2
      go_end0
      exact HE.out
     ·have hmin:min T 800=T:=by omega
      rw[hmin]at HLS;have hD4:=Hi ((hpl.dec.SF T (by omega) HLS.out.Bq).F2 (dp+(D:Int)));have hb4:=Hi ((hpl.Ad.setCell (p:=⟨b,800,none⟩) hB (.int .i64 T)).setCell (p:=⟨b,801,none⟩) hB (.int .i64 (dp+(D:Int))));have hTi:(T:Int)<800:=by omega
      clear LS DN hpl hcar hc n1 n2 hmin ce1 ce2
      go_wp2_with (go_at_call 240;(with_reducible refine(VC B b A' T (dp+(D:Int)) tr' _ hB hD4).mono ?_))
      rintro e w' ⟨rfl,n,hnw,hlast,hzz,hd5,hb5⟩;have np:0<n:=by
       apply No;intro h;have h1:=hzz 0 (by omega) HLS.out.pos;have h2:=HLS.out.lead;omega
      have hl:A' (n-1)≠48:=hlast.resolve_left (by omega);have HE:Hid (N5 w B b A nd dp tr k (.returned (.tuple #[])) w'):=Hi ⟨rfl,A',T,dp+D,tr',n,HLS.out,np,hnw,hl,hzz,by rw[if_neg (by omega)]at hd5;exact hd5,hb4.out.trans hb5⟩;clear hlast hzz hd5 hb5 hl;go_wp2
      go_end0
      exact HE.out
    ·have hmT:m<T:=by
      apply No;intro h;have hmm:m=T:=by omega
      rw[hmm,bh n2]at hcar;exact hn0 hcar
     have nlt:n<PP:=by rw[hpl.XG];exact Sw _ _ _ p0
     obtain⟨q,hq⟩:∃q,q=n/10:=⟨_,rfl⟩;have y6:(n:Int)/10=(q:Int):=by omega
     obtain⟨rem,hrem⟩:∃rem,rem=n %10:=⟨_,rfl⟩;have y7:(n:Int)-10*(q:Int)=(rem:Int):=by omega
     have y8:(n:Int)<=1152921504606846976:=by omega
     obtain⟨p,hp⟩:∃p,wc2=p+1:=⟨wc2-1,by omega⟩;have z1:(wc2:Int)-1=(p:Int):=by omega
     have z2:wc2-1=p:=by omega
     have z3:(rem:Int)<=9:=by omega
     have np:0<n:=by omega
     have hq2:q=(n+num A nd/10^m %10*PP)/10:=by rw[ce2,Nat.zero_mul,gZ];exact hq
     have hr2:rem=(n+num A nd/10^m %10*PP) %10:=by rw[ce2,Nat.zero_mul,gZ];exact hrem
     have wi:(wc2:Int)<=819:=by omega
     have HQ:=Hi (show q<n by omega);by_cases hp8:p<800
     ·have jw:=hpl.dec.cell p hp8;have jz:=hpl.dec.fz p;obtain⟨r48,hr48⟩:∃r48,r48=rem+48:=⟨_,rfl⟩;have z4:(rem:Int)+48=(r48:Int):=by omega
      have z5:(r48:Int)<=57:=by omega
      have pi:(p:Int)<800:=by omega
      have NX:=hpl.keep hB hp hp8 hq2 hr2;rw[<-hr48]at NX;have HNX:=Hi NX;clear NX hq hrem hp hq2 hr2 hr48 hpl nlt hc hcar n1 n2 ce1 ce2;go_wp2;go_roundw
      case rel=>exact⟨m+1,p,q,_,_,by go_num,rfl,by omega,HNX.out⟩
      case measure=>have:=HQ.out;simp[intOf];omega
     ·have jt:=hpl.dec.TU;have jz:=hpl.dec.fz 803;have pi:(800:Int)<=p:=by omega
      by_cases hr0:rem=0
      ·have NX:=hpl.drop hp hp8 hq2 hr2 (wr2:=wr) (by rw[hr0];simpa using hpl.dec) hpl.Ad;have HNX:=Hi NX;have z6:((rem:Int)==0)=true:=QC (n:=0) hr0;clear NX hq hrem hp hq2 hr2 hpl nlt hc hcar n1 n2 ce1 ce2 hr0;go_wp2;go_roundw
       case rel=>exact⟨m+1,p,q,_,_,by go_num,rfl,by omega,HNX.out⟩
       case measure=>have:=HQ.out;simp[intOf];omega
      ·have NX:=hpl.drop hp hp8 hq2 hr2 (wr2:=wr.setCell ⟨b,803,none⟩ (.bool true)) (by rw[AN hr0,Bool.or_true];exact hpl.dec.SN true) (hpl.Ad.setCell (p:=⟨b,803,none⟩) hB _);have HNX:=Hi NX;have z6:((rem:Int)==0)=false:=Bn (n:=0) hr0;clear NX hq hrem hp hq2 hr2 hpl nlt hc hcar n1 n2 ce1 ce2 hr0;go_wp2;go_roundw
       case rel=>exact⟨m+1,p,q,_,_,by go_num,rfl,by omega,HNX.out⟩
       case measure=>have:=HQ.out;simp[intOf];omega
end Go.Proofs
end
