import Derived.Test.YtpocgkiamgipdaaGreatDoorTae
set_option maxRecDepth 1000000
set_option maxHeartbeats 0
open Go.Proofs.Tryz
section
namespace Go.Pf
theorem Li {A:Nat->Nat} {n:Nat} :∀m,(∀i,n<=i->i<n+m->A i=48)->num A (n+m)=num A n*10^m
 |0,_=>by simp
 |m+1,h=>by
  rw[<-oX,num,Li m (fun i h1 h2=>h i h1 (by omega)),h (n+m) (by omega) (by omega),l9,l5,oj,nK]
theorem Mv {A:Nat->Nat} {nd:Nat} :∀m,A8 A nd (nd+m)=num A nd*10^m
 |0=>by rw[nK,M7 nd (nR _),nC,nf]
 |m+1=>by
  rw[<-oX,A8,Mv m,lL (by omega),nK,l9,l5]
def wN (P:Nat) (s:Cm) (e:Int):Nat:=num s.A s.nd*10^(s.dp-s.nd+P).toNat*2^(e+P).toNat
theorem core {X j V g:Nat}(h:X*10^j=V*g) (hg:0<g):V/10^j*g<=X/\X<(V/10^j+1)*g/\(V %10^j=0↔V/10^j*g=X):=by
 have hp:0<10^j:=oe (by decide);have h1:V/10^j*10^j+V %10^j=V:=Nat.div_add_mod' V _;have h2:V %10^j<10^j:=mw _ hp;have e1:X*10^j=V/10^j*g*10^j+V %10^j*g:=by
  rw[h]
  conv=>lhs;rw[<-h1]
  rw[mI,oR]
 have h3:V %10^j*g<10^j*g:=mA h2 hg;refine⟨?_,?_,?_⟩
 ·refine oM ?_ hp;rw[e1];exact Nat.le_add_right _ _
 ·refine mc (a:=10^j) ?_;rw[e1,mI (V/10^j),nE,mI,mR g];exact Nat.add_lt_add_left h3 _
 ·constructor
  ·intro h0;rw[h0,oH,nK]at e1;exact(oo hp e1).symm
  ·intro h0;rw[h0]at e1;have:V %10^j*g=0:=by omega
   rcases Nat.mul_eq_zero.1 this with h|h
   ·exact h
   ·omega
structure F5 (P:Nat) (s:Cm) (e:Int) (s':Cm) (e':Int):Prop where
 le:wN P s' e'<=wN P s e
 tr:s'.tr=(s.tr||decide (wN P s' e'≠wN P s e))
 fl:wN P s' e'=wN P s e\/∃t g,g=10^(s'.dp-800+P).toNat*2^(e'+P).toNat/\wN P s' e'=t*g/\wN P s e<(t+1)*g
theorem F5.mk' {P W j V:Nat} {s s':Cm} {e e':Int}(hn:num s'.A W=V/10^j) (xF:s'.nd<=W) (hz:∀i,s'.nd<=i->i<W->s'.A i=48) (vd:s'.tr=(s.tr||decide (V %10^j≠0)))
 (hj:j=0\/W=800) (hP:0<=s'.dp-W+P) (hx:wN P s e*10^j=V*(10^(s'.dp-W+P).toNat*2^(e'+P).toNat)):F5 P s e s' e':=by
 obtain⟨g,hg⟩:∃g,g=10^(s'.dp-W+P).toNat*2^(e'+P).toNat:=⟨_,rfl⟩;have g0:0<g:=by rw[hg];exact mx (oe (by decide)) (lj _)
 have e1:wN P s' e'=V/10^j*g:=by
  rw[<-hn,hg];obtain⟨m,rfl⟩:∃m,W=s'.nd+m:=⟨W-s'.nd,by omega⟩;rw[Li m hz];unfold wN;rw[show(s'.dp-s'.nd+P).toNat=m+(s'.dp-(s'.nd+m:Nat)+P).toNat by omega,lW]
  ac_rfl
 rw[<-hg]at hx;obtain⟨c1,c2,c3⟩:=core hx g0;rw[<-e1]at c1 c3;refine⟨c1,?_,?_⟩
 ·rw[vd];congr 1;simp only[ne_eq,decide_not,c3]
 ·rcases hj with hj|hj
  ·refine .inl (c3.1 ?_);rw[hj,nC,Nat.mod_one]
  ·subst hj;exact .inr ⟨V/10^j,g,hg,e1,c2⟩
theorem Ec.Bj {P k:Nat} {s s':Cm} {e:Int}(h:Ec k s s') (hk:k<=60) (h0:0<s.nd) (h8:s.nd<=800) (hA:49<=s.A 0) (hP:100000<=P) (d1: -50000<=s.dp) (he:0<=e+P):F5 P s e s' (e+k):=by
 have hd:=h.dp hk h0 hA;obtain⟨W,hs,n0,nW,nz,zz⟩:=h;obtain⟨V,c,r,r1,r2,r3,r4,r5,r6,r7,_,_⟩:=hs.ex;have hr:r<=21:=by omega
 obtain⟨j,hj⟩:∃j,c=W+j:=⟨c-W,by omega⟩;have ej:c-W=j:=by omega
 rw[ej]at r6 r7;refine F5.mk' r6 nW zz r7 (by omega) (by omega) ?_;obtain⟨m,hm⟩:∃m,c+r=s.nd+m:=⟨c+r-s.nd,by omega⟩;rw[hm,Mv]at r3;unfold wN;have x1:(s.dp-s.nd+P).toNat+j=m+(s.dp-r-W+P).toNat:=by omega
 have x2:(s'.dp-W+P).toNat=1+(s.dp-r-W+P).toNat:=by omega
 have x3:(e+k+P).toNat=k+(e+P).toNat:=by omega
 rw[x2,x3,lW 10 1,lW 2 k,Nat.pow_one]
 calc num s.A s.nd*10^(s.dp-s.nd+P).toNat*2^(e+P).toNat*10^j=num s.A s.nd*10^((s.dp-s.nd+P).toNat+j)*2^(e+P).toNat:=by rw[lW];ac_rfl
  _=num s.A s.nd*10^m*(10^(s.dp-r-W+P).toNat*2^(e+P).toNat):=by rw[x1,lW];ac_rfl
  _=V*(10*2^k)*(10^(s.dp-r-W+P).toNat*2^(e+P).toNat):=by rw[r3]
  _=V*(10*10^(s.dp-r-W+P).toNat*(2^k*2^(e+P).toNat)):=by ac_rfl
theorem DX.Bj {P k:Nat} {s s':Cm} {e:Int}(h:DX k s s') (h8:s.nd<=800) (hP:100000<=P) (d1: -50000<=s.dp) (he:0<=e-k+P):F5 P s e s' (e-k)/\∃D:Nat,s'.dp=s.dp+D/\D<=19/\(s.nd+D<=800->wN P s' (e-k)=wN P s e):=by
 obtain⟨W,hs,n0,nW,nz,zz⟩:=h;obtain⟨D,r1,r2,r3,r4,r5,r6,r7⟩:=hs.ex;obtain⟨j,hj⟩:∃j,s.nd+D=W+j:=⟨s.nd+D-W,by omega⟩;have ej:s.nd+D-W=j:=by omega
 rw[ej]at r4 r5;have hx:wN P s e*10^j=num s.A s.nd*2^k*(10^(s'.dp-W+P).toNat*2^(e-k+P).toNat):=by
  unfold wN;have x1:(s.dp-s.nd+P).toNat+j=(s'.dp-W+P).toNat:=by omega
  have x3:(e+P).toNat=k+(e-k+P).toNat:=by omega
  rw[x3,lW 2 k]
  calc num s.A s.nd*10^(s.dp-s.nd+P).toNat*(2^k*2^(e-k+P).toNat)*10^j=num s.A s.nd*10^((s.dp-s.nd+P).toNat+j)*(2^k*2^(e-k+P).toNat):=by rw[lW 10];ac_rfl
   _=num s.A s.nd*2^k*(10^(s'.dp-W+P).toNat*2^(e-k+P).toNat):=by rw[x1];ac_rfl
 have st:F5 P s e s' (e-k):=F5.mk' r4 nW zz r5 (by omega) (by omega) hx;refine⟨st,D,r2,r1,fun hD=> ?_⟩;have j0:j=0:=by omega
 subst j0;have e1:wN P s' (e-k)=num s'.A W*(10^(s'.dp-W+P).toNat*2^(e-k+P).toNat):=by
  obtain⟨m,rfl⟩:∃m,W=s'.nd+m:=⟨W-s'.nd,by omega⟩;rw[Li m zz];unfold wN;rw[show(s'.dp-s'.nd+P).toNat=m+(s'.dp-(s'.nd+m:Nat)+P).toNat by omega,lW]
  ac_rfl
 rw[e1,r4,nC,Nat.div_one,<-hx,nC,nf]
structure Inv (P:Nat) (Q:Int) (v:Nat) (s:Cm) (e:Int):Prop where
 le:wN P s e<=v
 tr:s.tr=decide (wN P s e≠v)
 th:∀n,n*(10^P*2^(Q+P).toNat)<=v->n*(10^P*2^(Q+P).toNat)<=wN P s e
theorem Inv.step {P v:Nat} {Q e e':Int} {s s':Cm}(h:Inv P Q v s e) (hs:F5 P s e s' e') (c1:s'.dp<=800) (c2:s'.dp+e'<=800+Q) (c3: -50000<=s'.dp) (c4:0<=e'+P) (c5:0<=Q+P) (hP:100000<=P):Inv P Q v s' e':=by
 have l1:=h.le;have l2:=hs.le;refine⟨lg l2 l1,?_,?_⟩
 ·rw[hs.tr,h.tr,<-Bool.decide_or];congr 1;rw[eq_iff_iff];omega
 ·intro n hn;have h1:=h.th n hn;rcases hs.fl with hf|⟨t,g,hg,ht,hl⟩
  ·rw[hf];exact h1
  ·have eH:10^P*2^(Q+P).toNat=5^(800-s'.dp).toNat*2^(800-s'.dp+Q-e').toNat*g:=by
    have x1:P=(800-s'.dp).toNat+(s'.dp-800+P).toNat:=by omega
    have x2:(800-s'.dp).toNat+(Q+P).toNat=(800-s'.dp+Q-e').toNat+(e'+P).toNat:=by
     omega
    rw[hg]
    conv=>lhs;arg 1;rw[x1]
    rw[lW,show(10:Nat)^(800-s'.dp).toNat=5^(800-s'.dp).toNat*2^(800-s'.dp).toNat by rw[<-Nat.mul_pow]]
    calc 5^(800-s'.dp).toNat*2^(800-s'.dp).toNat*10^(s'.dp-800+P).toNat*2^(Q+P).toNat
     =5^(800-s'.dp).toNat*10^(s'.dp-800+P).toNat*2^((800-s'.dp).toNat+(Q+P).toNat):=by rw[lW 2];ac_rfl
     _=5^(800-s'.dp).toNat*2^(800-s'.dp+Q-e').toNat*(10^(s'.dp-800+P).toNat*2^(e'+P).toNat):=by rw[x2,lW 2];ac_rfl
   rw[eH,<-l5]at h1⊢;rw[ht];refine lV g ?_;have:=mc (mG h1 hl);omega
end Go.Pf
end
section
namespace Go.Pf
structure Gd (s:Cm):Prop where
 pos:0<s.nd
 le:s.nd<=800
 lead:49<=s.A 0
 Ca:∀i,i<s.nd->48<=s.A i/\s.A i<=57
theorem Ec.gd {k:Nat} {s s':Cm}(h:Ec k s s'):Gd s':=by
 obtain⟨W,hs,n0,nW,nz,zz⟩:=h;obtain⟨V,c,r,r1,r2,r3,r4,r5,r6,r7,_,_⟩:=hs.ex;exact⟨n0,by omega,hs.lead,fun i hi=>hs.Ca i (by omega)⟩
theorem DX.gd {k:Nat} {s s':Cm}(h:DX k s s'):Gd s':=by
 obtain⟨W,hs,n0,nW,nz,zz⟩:=h;obtain⟨D,r1,r2,r3,r4,r5,r6,r7⟩:=hs.ex;exact⟨n0,by omega,hs.lead,fun i hi=>hs.Ca i (by omega)⟩
theorem Mo.inv {P v:Nat} {Q:Int} {k:Nat} {s s':Cm}(h:Mo k s s'):∀{e:Int},Gd s->Inv P Q v s e->s.dp<=800->s.dp+e+k<=800+Q-> -50000+k+60<=s.dp->0<=e+P->0<=Q+P->100000<=P->
 Gd s'/\Inv P Q v s' (e+k)/\s'.dp<=s.dp/\ -50000<=s'.dp:=by
 induction h with
 | @last k s s' hk r=>
  intro e g i c1 c2 c3 c4 c5 hP;have hd:=r.dp hk g.pos g.lead;have st:=r.Bj (P:=P) (e:=e) hk g.pos g.le g.lead hP (by omega) c4;exact⟨r.gd,i.step st (by omega) (by omega) (by omega) (by omega) c5 hP,hd.1,by omega⟩
 | @more k s t s' hk r c ih=>
  intro e g i c1 c2 c3 c4 c5 hP;have hd:=r.dp (nR _) g.pos g.lead;have st:=r.Bj (P:=P) (e:=e) (nR _) g.pos g.le g.lead hP (by omega) c4;have i2:=i.step st (by omega) (by omega) (by omega) (by omega) c5 hP;obtain⟨a1,a2,a3,a4⟩:=ih r.gd i2 (by omega) (by omega) (by omega) (by omega) c5 hP;rw[show e+((60:Nat):Int)+((k-60:Nat):Int)=e+k by omega]at a2;exact⟨a1,a2,by omega,a4⟩
theorem Ec.j6 {k:Nat} {s s':Cm}(h:Ec k s s') (hk:k<=27) (h0:0<s.nd) (hA:49<=s.A 0):s.dp<=s'.dp+9:=by
 obtain⟨W,hs,_⟩:=h;obtain⟨V,c,r,h1,_,_,hd,_,_,_,_,hp⟩:=hs.ex;have hr:r<=10:=by
  apply mM;intro hh;obtain⟨t,ht⟩:∃t,r-1=t+1:=⟨r-2,by omega⟩;rw[ht]at hp;have h3:=K8 h0 hA t;have h4:(10:Nat)^9<=10^t:=lX (by decide) (by omega);have h5:(2:Nat)^k<=2^27:=lX (by decide) hk;omega
 omega
theorem Dn.mono {s s':Cm} {e e':Int}(h:Dn s e s' e'):e<=e':=by
 induction h with
 |done _=>exact Int.le_refl _
 |step _ _ _ ih=>omega
theorem Dn.inv {P v:Nat} {Q:Int} {s s':Cm} {e e':Int}(h:Dn s e s' e'):Gd s->Inv P Q v s e->s.dp<=310-> -8<=s.dp->310+e'<=800+Q->0<=e->0<=Q+P->100000<=P->Gd s'/\Inv P Q v s' e'/\s'.dp<=0/\ -8<=s'.dp:=by
 induction h with
 |done h0=>
  intro g i c1 c2 c3 c4 c5 hP;exact⟨g,i,h0,c2⟩
 | @step s t s' e e' h0 r c ih=>
  intro g i c1 c2 c3 c4 c5 hP;have hm:=c.mono;have pb:=JE s.dp;have hd:=(r.small (by omega)).j6 pb.2 g.pos g.lead;obtain⟨a1,a2,a3,a4⟩:=r.inv g i (by omega) (by omega) (by omega) (by omega) c5 hP;exact ih a1 a2 (by omega) (by omega) c3 (by omega) c5 hP
def dI (s:Cm):Int:=10*s.dp+(s.A 0-48:Nat)
theorem DX.len {k:Nat} {s s':Cm}(h:DX k s s') (g:Gd s):(k:Int)<=4*(dI s'-dI s):=by
 obtain⟨W,hs,n0,nW,nz,zz⟩:=h;obtain⟨D,r1,r2,r3,r4,r5,r6,r7⟩:=hs.ex;have g0:=g.pos;have gl:=g.lead;have gd0:=g.Ca 0 g0;have hl:=hs.lead;have hp:=hs.pos;have sJ:=hs.Ca 0 hp;have e1:=Ef g.pos (fun i hi=>(g.Ca i hi).2);have e2:=Ef hs.pos (fun i hi=>(hs.Ca i hi).2);have x1:s.nd+D-W+(W-1)=s.nd+D-1:=by omega
 rw[r4,mf,<-lW,x1]at e2;obtain⟨N,hN⟩:∃N,N=num s.A s.nd:=⟨_,rfl⟩;obtain⟨l,tX⟩:∃l,l=s.A 0-48:=⟨_,rfl⟩;obtain⟨l',uL⟩:∃l,l=s'.A 0-48:=⟨_,rfl⟩;rw[<-hN,<-tX]at e1;rw[<-hN,<-uL]at e2;rw[<-hN]at r7;have b1:l*10^(s.nd-1)<=N:=by rw[<-e1];exact pj _ _
 have b2:N*2^k<(l'+1)*10^(s.nd+D-1):=by
  have:=Nat.lt_div_mul_add (a:=N*2^k) (AU (s.nd+D-1));rw[e2]at this;rw[mI,nE];exact this
 unfold dI;rw[r2,<-tX,<-uL];by_cases hD:D=0
 ·subst hD;rw[nK]at b2;have b3:l*2^k<l'+1:=by
   apply mc (a:=10^(s.nd-1));refine mG ?_ b2;rw[oR];exact lV _ b1
  have b4:k+1<=2^k:=Nat.lt_two_pow_self;have b5:l*(k+1)<=l*2^k:=mU _ b4;rw[Nat.mul_add,nf]at b5;have b6:1*k<=l*k:=lV _ (by omega);omega
 ·have b3:2^k<10^(D+1):=by
   apply mc (a:=10^(s.nd-1));rw[<-lW,show D+1+(s.nd-1)=s.nd+D by omega,mR];refine mG ?_ r7;refine lV _ (lg ?_ b1);have:=lV (10^(s.nd-1)) (show 1<=l by omega);rw[nE]at this;exact this
  have b4:(10:Nat)^(D+1)<=2^(4*(D+1)):=by
   rw[Nat.pow_mul];exact Nat.pow_le_pow_left (by decide) _
  have b5:k<4*(D+1):=by
   apply mM;intro hh;have:=lX (n:=2) (by decide) (show 4*(D+1)<=k by omega);omega
  omega
theorem gy (d:Nat) (h:1<=d):2^pw d<=10^d:=by
 unfold pw;split
 ·have:(10:Nat)^9<=10^d:=lX (by decide) (by omega);omega
 ·have key:∀n,n<9->1<=n->2^U5.getD n 1<=10^n:=by decide
  exact key d (by omega) h
theorem DX.dp0 {s s':Cm}(h:DX (pw (-s.dp)) s s') (g:Gd s) (h0:s.dp<=0) (yP:Da s):s'.dp<=0:=by
 obtain⟨W,hs,n0,nW,nz,zz⟩:=h;obtain⟨D,r1,r2,r3,r4,r5,r6,r7⟩:=hs.ex;have g0:=g.pos;by_cases hz:s.dp=0
 ·rw[hz]at r6 r2;have:pw (-0)=1:=by decide
  rw[this]at r6;have e1:=Ef g.pos (fun i hi=>(g.Ca i hi).2);have h5:s.A 0<53:=by
   rcases yP with h|h
   ·omega
   ·exact h.2
  have b2:num s.A s.nd<5*10^(s.nd-1):=by
   have:=Nat.lt_div_mul_add (a:=num s.A s.nd) (AU (s.nd-1));rw[e1]at this;have b:=lV (10^(s.nd-1)) (show s.A 0-48<=4 by omega);omega
  have b3:(10:Nat)^(s.nd+D-1)<10^s.nd:=by
   have:(10:Nat)^s.nd=10^(s.nd-1)*10:=by rw[<-l9,show(s.nd-1).succ=s.nd by omega]
   omega
  have b4:=(nP (a:=10) (by decide)).1 b3;omega
 ·obtain⟨d,hd⟩:∃d:Nat,-s.dp=d:=⟨(-s.dp).toNat,by omega⟩;rw[hd]at r6;have p:=gy d (by omega);have b1:=GN s.nd (fun i hi=>(g.Ca i hi).2);have b3:(10:Nat)^(s.nd+D-1)<10^(s.nd+d):=by
   refine mG r6 ?_;rw[lW];exact mG (mU _ p) (mA b1 (AU _))
  have b4:=(nP (a:=10) (by decide)).1 b3;omega
theorem Up.mono {s s':Cm} {e e':Int}(h:Up s e s' e'):e'<=e:=by
 induction h with
 |done _=>exact Int.le_refl _
 |step _ _ _ ih=>omega
theorem Up.dp {s s':Cm} {e e':Int}(h:Up s e s' e'):s.dp<=s'.dp:=by
 induction h with
 |done _=>exact Int.le_refl _
 |step _ r _ ih=>
  obtain⟨W,hs,_⟩:=r;obtain⟨D,r1,r2,_⟩:=hs.ex;omega
theorem Up.len {s s':Cm} {e e':Int}(h:Up s e s' e'):Gd s->s.dp<=0->e-e'<=4*(9-dI s)/\s'.dp<=0/\¬Da s'/\Gd s':=by
 induction h with
 |done h0=>
  intro g h;refine⟨?_,h,h0,g⟩;have:=g.Ca 0 g.pos;unfold dI;omega
 | @step s t s' e e' h0 r c ih=>
  intro g h;have h1:=r.dp0 g h h0;have h2:=r.len g;obtain⟨a1,a2,a3,a4⟩:=ih r.gd h1;exact⟨by omega,a2,a3,a4⟩
theorem Up.inv {P v:Nat} {Q:Int} {s s':Cm} {e e':Int}(h:Up s e s' e'):Gd s->Inv P Q v s e->s.dp<=0-> -50000<=s.dp->e<=800+Q->0<=e'+P->0<=Q+P->100000<=P->Inv P Q v s' e':=by
 induction h with
 |done h0=>
  intro g i c1 c2 c3 c4 c5 hP;exact i
 | @step s t s' e e' h0 r c ih=>
  intro g i c1 c2 c3 c4 c5 hP;have hm:=c.mono;have h1:=r.dp0 g c1 h0;obtain⟨st,D,d1,d2,_⟩:=r.Bj (P:=P) (e:=e) g.le hP c2 (by omega);have i2:=i.step st (by omega) (by omega) (by omega) (by omega) c5 hP;exact ih r.gd i2 h1 (by omega) (by omega) c4 c5 hP
theorem Up.exact {P:Nat} {s s':Cm} {e e':Int}(h:Up s e s' e'):Gd s->s.tr=false->s.dp<=0-> -50000<=s.dp->s.nd-s.dp<=730->0<=e'+P->100000<=P->wN P s' e'=wN P s e/\s'.tr=false:=by
 induction h with
 |done h0=>
  intro g i c1 c2 c3 c4 hP;exact⟨rfl,i⟩
 | @step s t s' e e' h0 r c ih=>
  intro g i c1 c2 c3 c4 hP;have hm:=c.mono;have h1:=r.dp0 g c1 h0;obtain⟨st,D,d1,d2,d3⟩:=r.Bj (P:=P) (e:=e) g.le hP c2 (by omega);have hD:(s.nd:Int)+D<=730:=by omega
  have e1:=d3 (by omega);have t1:t.tr=false:=by rw[st.tr,i,e1];simp
  have xF:(t.nd:Int)<=s.nd+D:=by
   obtain⟨W,hs,n0,nW,nz,zz⟩:=r;obtain⟨D',r1,r2,r3,_⟩:=hs.ex;omega
  obtain⟨a1,a2⟩:=ih r.gd t1 h1 (by omega) (by omega) c4 hP;exact⟨a1.trans e1,a2⟩
theorem Inv.of_eq {P v:Nat} {Q:Int} {s:Cm} {e:Int}(h:wN P s e=v) (ht:s.tr=false):Inv P Q v s e:=
 ⟨pR h,by rw[ht,h];simp,fun n hn=>by rw[h];exact hn⟩
end Go.Pf
end
section
namespace Go.Pf
theorem gY {H M M2 L2:Nat}(h:¬M2+2<=M):(H*18446744073709551616+M)*18446744073709551616<=340282366920938463463374607431768211456*H+(M2*18446744073709551616+L2)+18446744073709551616:=by omega
theorem jT {H M M2 L2:Nat}(h:¬M<M2) (h2:L2<18446744073709551616):340282366920938463463374607431768211456*H+(M2*18446744073709551616+L2)<(H*18446744073709551616+M)*18446744073709551616+18446744073709551616:=by omega
theorem eC (x hi lo s Pn Pd:Nat) (hx:9223372036854775808<=x) (ya:x<18446744073709551616) (hh0:9223372036854775808<=hi) (hh:hi<18446744073709551616) (hl:lo<18446744073709551616) (hs:8<=s)
 (hPd:0<Pd) (h1:hi*18446744073709551616*Pd<Pn+(lo+1)*Pd) (h2:Pn+lo*Pd<=hi*18446744073709551616*Pd) (hF:km hi lo Pn Pd x):
 Jq x hi lo s=(x*Pn/(Pd*2^(128+s)))|||(if x*Pn %(Pd*2^(128+s))=0 then 0 else 1):=by
 obtain⟨H,hH⟩:∃H,H=x*hi/18446744073709551616:=⟨_,rfl⟩;obtain⟨M,hM⟩:∃M,M=x*hi %18446744073709551616:=⟨_,rfl⟩;obtain⟨M2,hM2⟩:∃M,M=x*lo/18446744073709551616:=⟨_,rfl⟩;obtain⟨L2,hL2⟩:∃M,M=x*lo %18446744073709551616:=⟨_,rfl⟩;have e1:x*hi=H*18446744073709551616+M:=by omega
 have e2:x*lo=M2*18446744073709551616+L2:=by omega
 have bM:M<18446744073709551616:=by omega
 have bL:L2<18446744073709551616:=by omega
 have bxl:x*lo<=18446744073709551615*18446744073709551615:=pn (by omega) (by omega);have bM2:M2<=18446744073709551614:=by omega
 have bxh:9223372036854775808*9223372036854775808<=x*hi:=pn hx hh0;have bxh2:x*hi<=18446744073709551615*18446744073709551615:=pn (by omega) (by omega);have H0:0<H:=by omega
 have HT:H<18446744073709551615:=by omega
 obtain⟨Y,hY⟩:∃Y,Y=x*Pn:=⟨_,rfl⟩;have g1:x*(hi*18446744073709551616*Pd)<x*(Pn+(lo+1)*Pd):=Nat.mul_lt_mul_of_pos_left h1 (by omega);have g2:x*(Pn+lo*Pd)<=x*(hi*18446744073709551616*Pd):=mU x h2;have f1:x*(hi*18446744073709551616*Pd)=18446744073709551616*(18446744073709551616*(H*Pd)+M*Pd):=by
  calc x*(hi*18446744073709551616*Pd)=18446744073709551616*((x*hi)*Pd):=by ac_rfl
   _=18446744073709551616*(18446744073709551616*(H*Pd)+M*Pd):=by rw[e1,mI];congr 2;ac_rfl
 have f2:x*(Pn+lo*Pd)=Y+(18446744073709551616*(M2*Pd)+L2*Pd):=by
  calc x*(Pn+lo*Pd)=x*Pn+(x*lo)*Pd:=by rw[Nat.mul_add,l5]
   _=Y+(18446744073709551616*(M2*Pd)+L2*Pd):=by rw[e2,mI,<-hY];congr 2;ac_rfl
 have f3:x*(Pn+(lo+1)*Pd)=Y+(18446744073709551616*(M2*Pd)+L2*Pd)+x*Pd:=by
  rw[<-f2,<-Nat.mul_add,mI,nE,<-oX]
 rw[f1,f3]at g1;rw[f2,f1]at g2;obtain⟨S,hS⟩:∃S,S=2^s:=⟨_,rfl⟩;have eB:Pd*2^(128+s)=340282366920938463463374607431768211456*(S*Pd):=by
  rw[lW,<-hS];have:(2:Nat)^128=340282366920938463463374607431768211456:=by decide
  rw[this];ac_rfl
 have S256:256<=S:=by
  rw[hS];have:(2:Nat)^8<=2^s:=lX (by decide) hs;omega
 have c1:M*Pd<=18446744073709551615*Pd:=lV Pd (by omega);have c2:M2*Pd<=18446744073709551614*Pd:=lV Pd bM2;have c3:L2*Pd<=18446744073709551615*Pd:=lV Pd (by omega);have c4:x*Pd<=18446744073709551615*Pd:=lV Pd (by omega);obtain⟨Q,hQ⟩:∃Q,Q=H/S:=⟨_,rfl⟩;rw[eB,<-hY];unfold Jq;rw[<-hS,<-hH,<-hM,<-hM2,<-hQ];have q1:H=Q*S+H %S:=by rw[hQ];exact(Nat.div_add_mod' H S).symm
 have q2:H %S<S:=mw _ (by omega);by_cases hz:H %S=0
 ·have q3:Q*S=H:=by omega
  rw[lQ q3];have Q0:0<Q:=by
   rcases mh Q with h|h
   ·rw[h,oH]at q3;omega
   ·exact h
  have q4:Q*(340282366920938463463374607431768211456*(S*Pd))=340282366920938463463374607431768211456*(H*Pd):=by rw[<-q3];ac_rfl
  have sP:256*Pd<=S*Pd:=lV Pd S256;by_cases qE:M<M2
  ·have c5:(M+1)*Pd<=M2*Pd:=lV Pd qE;rw[mI,nE]at c5;have w1:(H+18446744073709551616-1) %18446744073709551616=H-1:=by omega
   have w2:1<(M+18446744073709551616-M2) %18446744073709551616:=by omega
   obtain⟨Q',rfl⟩:∃Q',Q=Q'+1:=⟨Q-1,by omega⟩;have w3:(H-1)/S=Q':=by
    refine pQ ?_ ?_
    ·rw[mI]at q3;omega
    ·omega
   have w4:Q'*(340282366920938463463374607431768211456*(S*Pd))+340282366920938463463374607431768211456*(S*Pd)=340282366920938463463374607431768211456*(H*Pd):=by rw[<-q4,mI,nE]
   obtain⟨d1,d2⟩:=Ft (Y:=Y) (B:=340282366920938463463374607431768211456*(S*Pd)) (Q:=Q') (by omega) (by rw[mI,nE,w4];omega);have d3:Y %(340282366920938463463374607431768211456*(S*Pd))≠0:=fun h=>by have:=d2.1 h;omega
   rw[lQ qE,w1,lQ w2,w3,d1,lL d3]
  ·have w1:(H+18446744073709551616-0) %18446744073709551616=H:=by omega
   rw[lL qE,w1,<-hQ];have up:Y<(Q+1)*(340282366920938463463374607431768211456*(S*Pd)):=by
    rw[mI,nE,q4];omega
   by_cases h2':M2+2<=M
   ·have c5:(M2+2)*Pd<=M*Pd:=lV Pd h2';rw[mI]at c5;have w2:1<(M+18446744073709551616-M2) %18446744073709551616:=by omega
    obtain⟨d1,d2⟩:=Ft (Y:=Y) (B:=340282366920938463463374607431768211456*(S*Pd)) (Q:=Q) (by rw[q4];omega) up;have d3:Y %(340282366920938463463374607431768211456*(S*Pd))≠0:=fun h=>by have:=d2.1 h;rw[q4]at this;omega
    rw[lQ w2,d1,lL d3]
   ·have w2:¬1<(M+18446744073709551616-M2) %18446744073709551616:=by omega
    obtain⟨k,hk⟩:∃k,s=8+k:=⟨s-8,by omega⟩;have eS:S=256*2^k:=by rw[hS,hk,lW]
    have q5:Q*2^k*87112285931760246646623899502532662132736=340282366920938463463374607431768211456*H:=by
     rw[<-q3,eS];have:(87112285931760246646623899502532662132736:Nat)=340282366920938463463374607431768211456*256:=by decide
     rw[this];ac_rfl
    have hY2:=hF (Q*2^k) (by rw[q5,e1,e2];exact gY h2') (by rw[q5,e1,e2];exact jT qE bL);rw[q5,<-hY,l5]at hY2;obtain⟨d1,d2⟩:=Ft (Y:=Y) (B:=340282366920938463463374607431768211456*(S*Pd)) (Q:=Q) (by rw[q4,hY2];exact nR _) up;rw[lL w2,d1,lQ (d2.2 (by rw[q4,hY2]))]
 ·have q3:Q*S≠H:=by omega
  rw[lL q3];have c5:(Q*S+1)*Pd<=H*Pd:=lV Pd (by omega);have c6:(H+1)*Pd<=(Q*S+S)*Pd:=lV Pd (by omega);rw[mI,nE]at c5;rw[mI,mI,nE]at c6;have q4:Q*(340282366920938463463374607431768211456*(S*Pd))=340282366920938463463374607431768211456*(Q*S*Pd):=by ac_rfl
  obtain⟨d1,d2⟩:=Ft (Y:=Y) (B:=340282366920938463463374607431768211456*(S*Pd)) (Q:=Q) (by rw[q4];omega) (by rw[mI,nE,q4];omega);have d3:Y %(340282366920938463463374607431768211456*(S*Pd))≠0:=fun h=>by have:=d2.1 h;rw[q4]at this;omega
  rw[d1,lL d3]
end Go.Pf
end
section
namespace Go.Pf
noncomputable def cert (n:Nat):Nat->Nat->Nat->Nat->Nat×Nat:=Nat.rec (fun q _ p _=>(q,p)) (fun _ f q r p s=>bif Nat.ble 18446744073709551616 (q+p)then(q,p)else bif Nat.ble s r then(fun k=>f (q+k*p) (r-k*s) p s) (bif Nat.beq p 0 then(r-1)/s else Nat.min ((r-1)/s) ((18446744073709551616-q-1)/p))else(fun k=>f q r (p+k*q) (s-k*r)) (Nat.min ((s-1)/r) ((18446744073709551616-p-1)/q))) n
noncomputable def TP:List (Nat×Nat):=((Go.Pinned.pow10Rows.drop 3).take 656).map fun r=>cert 200 1 ((r.1*18446744073709551616-r.2)%87112285931760246646623899502532662132736) 0 87112285931760246646623899502532662132736
theorem NY:MR MF (Go.Pinned.pow10Rows.drop 3) TP 0=true:=by kernel_rfl
theorem UE:TP.length=656:=by kernel_rfl
theorem Mu (i:Nat) (h:i<656):MF i (FG (i+3)) (FY (i+3)) (TP.getD i (0,0)).1 (TP.getD i (0,0)).2=true:=by
 have k:=Mj MF _ _ 0 i NY (by rw[UE];exact h);unfold FG FY;rw[lZ,qA,<-lZ,me,pU 3 i]at k;exact k
structure CJ (i hi lo:Nat):Prop where
 up:hi*18446744073709551616*He i<Jk i+(lo+1)*He i
 le:Jk i+lo*He i<=hi*18446744073709551616*He i
 kD:9223372036854775808<=hi
 kV:hi<18446744073709551616
 ju:lo<18446744073709551616
 low:170141183460469231731687303715884105728*He i<=Jk i
 high:Jk i<340240828546070184842346363461134450688*He i
theorem Wz (i:Nat) (h:i<656):CJ i (FG (i+3)) (FY (i+3)):=by
 have k:=Mu i h;unfold MF at k;simp only[mJ,Nat.blt_eq,Nat.ble_eq]at k;obtain⟨⟨⟨⟨⟨⟨h1,h2⟩,h3⟩,h4⟩,h5⟩,h6,h7⟩,_⟩:=k;exact⟨h1,h2,h3,h4,h5,h6,h7⟩
theorem O4 (i:Nat):0<He i:=mx (oe (by decide)) (lj _)
def qs (a b:Nat):Nat:=(a/b)|||(if a %b=0 then 0 else 1)
theorem Wn {a b a' b':Nat}(hb:0<b) (rF:0<b') (h4:a*b'=a'*b):qs a b=qs a' b':=by
 obtain⟨h1,h2⟩:=Mn hb rF h4;have h3:a %b=0↔a' %b'=0:=by
  constructor
  ·intro e;rw[e,oH]at h2;rcases Nat.mul_eq_zero.1 h2.symm with h|h
   ·exact h
   ·omega
  ·intro e;rw[e,oH]at h2;rcases Nat.mul_eq_zero.1 h2 with h|h
   ·exact h
   ·omega
 unfold qs;rw[h1];simp only[h3]
theorem aJ (i x s:Nat) (hi:i<656) (hx:9223372036854775808<=x) (ya:x<18446744073709551616) (hs:8<=s):
 Jq x (FG (i+3)) (FY (i+3)) s=qs (x*Jk i) (He i*2^(128+s)):=by
 have r:=Wz i hi;exact eC x _ _ s (Jk i) (He i) hx ya r.kD r.kV r.ju hs (O4 i) r.up r.le (Zn (Mu i hi) hx ya)
theorem H7 {m j:Nat}(h:m<2^j) (c:Nat):m&&&2^j*c=0:=by
 apply Nat.eq_of_testBit_eq;intro i;rw[Nat.testBit_and,Nat.zero_testBit];by_cases hj:i<j
 ·rw[Nat.testBit_two_pow_mul,lO (by omega),Bool.false_and,Bool.and_false]
 ·rw[Nat.testBit_lt_two_pow (lR h (lX (by decide) (by omega))),Bool.false_and]
theorem bT (m:Nat) (h:m<4503599627370496):(4503599627370496+m)&&&18442240474082181119=m:=by
 have e:4503599627370496+m=2^52*1|||m:=(oh (i:=52) (by omega) 1);have e1:(2:Nat)^52*1&&&18442240474082181119=0:=by decide
 rw[e,Nat.and_or_distrib_right,e1,Nat.zero_or];have e2:(18442240474082181119:Nat)=2^53*2047|||(2^52-1):=by decide
 rw[e2,Nat.and_or_distrib_left,oN,mv (by omega)];have e3:m&&&2^53*2047=0:=H7 (by omega) 2047;rw[e3,Nat.zero_or]
theorem SU (m:Nat) (h:m<9007199254740992):(m&&&4503599627370496=0)↔m<4503599627370496:=by
 have e:(4503599627370496:Nat)=2^52*1:=by decide
 by_cases hm:m<4503599627370496
 ·have:=H7 (m:=m) (j:=52) (by omega) 1;rw[<-e]at this;simp[hm,this]
 ·obtain⟨k,rfl⟩:∃k,m=4503599627370496+k:=⟨m-4503599627370496,by omega⟩;have e2:4503599627370496+k=2^52*1|||k:=oh (i:=52) (by omega) 1;have e3:(4503599627370496+k)&&&4503599627370496=4503599627370496:=by
   rw[e2,Nat.and_or_distrib_right,e,H7 (m:=k) (j:=52) (by omega) 1,Nat.or_zero,Nat.and_self]
  rw[e3];simp
theorem Mb (m:Nat) (hm:m<9007199254740992) (x:Int):(D7 m x).1=if m<4503599627370496 then m else if 972<=x then AW else(1075+x).toNat*4503599627370496+(m-4503599627370496):=by
 unfold D7;by_cases h:m<4503599627370496
 ·rw[lQ ((SU m hm).2 h),lQ h]
 ·rw[lL (fun e=>h ((SU m hm).1 e)),lL h];by_cases hx:972<=x
  ·rw[lQ hx,lQ hx];have e:m&&&9223372036854775808=0:=by
    have e1:(9223372036854775808:Nat)=2^63*1:=by decide
    rw[e1];exact H7 (by omega) 1
   show(m&&&9223372036854775808)|||9218868437227405312=AW;rw[e];decide
  ·rw[lL hx,lL hx];show(m&&&18442240474082181119)|||((1075+x).toNat*4503599627370496)=_;obtain⟨k,rfl⟩:∃k,m=4503599627370496+k:=⟨m-4503599627370496,by omega⟩;rw[bT k (by omega),Nat.or_comm];have e:=oh (i:=52) (b:=k) (by omega) (1075+x).toNat;have e1:(2:Nat)^52=4503599627370496:=by decide
   rw[e1,mR]at e;rw[<-e];omega
theorem lG {w w2 m:Nat}(hs:36028797018963966<=w) (hm:w2=w/2\/w2=w/2/2*2+1) (h:(w2+1+w2/4 %2)/4=m):4503599627370496<=m:=by
 have:18014398509481983<=w2:=by omega
 clear hm hs;omega
theorem kI {w w2 m t:Nat}(ht:t<72048797944905728) (hw:w=t\/w=t/2*2+1) (hm:w2=w/2\/w2=w/2/2*2+1) (h:(w2+1+w2/4 %2)/4=m):m<9007199254740992:=by
 have h1:w<72048797944905729:=by omega
 have h2:w2<=36024398972452865:=by omega
 clear hm hw;omega
theorem jj {w r:Nat}(h1:36028797018963966<=w) (h2:w<36028797018963968) (h:(w+1+w/4 %2)/4=r):r=9007199254740992:=by
 have:w=36028797018963966\/w=36028797018963967:=by omega
 clear h1 h2;rcases this with rfl|rfl<;>omega
theorem kC {w w2 m:Nat}(h1:36028797018963966<=w) (h2:w<36028797018963968) (hm:w2=w/2\/w2=w/2/2*2+1) (h:(w2+1+w2/4 %2)/4=m):m=4503599627370496:=by
 have:w2=18014398509481983:=by omega
 clear h1 h2 hm;subst this;omega
theorem jx {w m:Nat}(hs:w<36028797018963966) (h:(w+1+w/4 %2)/4=m):m<9007199254740992:=by omega
theorem jl {w m:Nat}(hs:18014398509481984<=w) (h:(w+1+w/4 %2)/4=m):4503599627370496<=m:=by omega
theorem kM {m u:Nat}(h1:4503599627370496<=m) (h2:m<9007199254740992):(if(972:Int)<= -(1074-(u:Int)-1)then AW else(1075+ -(1074-(u:Int)-1)).toNat*4503599627370496+(m-4503599627370496))=min ((u+1)*4503599627370496+m) AW:=by
 unfold AW;split
 ·have h:2045<=u:=by omega
  rw[Nat.min_eq_right (by omega)]
 ·have h:u<=2044:=by omega
  have h3:(1075+ -(1074-(u:Int)-1)).toNat=u+2:=by omega
  rw[pM (by omega),h3];omega
theorem kF {m u:Nat}(h1:4503599627370496<=m) (h2:m<9007199254740992):(if(972:Int)<= -(1074-(u:Int))then AW else(1075+ -(1074-(u:Int))).toNat*4503599627370496+(m-4503599627370496))=min (u*4503599627370496+m) AW:=by
 unfold AW;split
 ·have h:2046<=u:=by omega
  rw[Nat.min_eq_right (by omega)]
 ·have h:u<=2045:=by omega
  have h3:(1075+ -(1074-(u:Int))).toNat=u+1:=by omega
  rw[pM (by omega),h3];omega
theorem ib {w t:Nat}(hw:w=t\/w=t/2*2+1):t<=w/\w<=t+1/\(t %2=1->w=t):=by omega
theorem dC (V U u:Nat) (hU:0<U) (hl:u=0\/4503599627370496*U<=V) (hh:V<18012199486226432*U):
 ∃b,(∃v T,(v=u/\T=U\/v=u+1/\T=2*U)/\(v=0\/4503599627370496*T<=V)/\V<9007199254740992*T/\b=v*4503599627370496+FI V T)/\(ec (OQ V U) (1074-(u:Int))).1=min b AW:=by
 have h3:U*(4*V/U)+4*V %U=4*V:=oD (4*V) U;have h4:4*V %U<U:=mw _ hU;have hw:=Qf V U;obtain⟨t,ht⟩:∃t,t=4*V/U:=⟨_,rfl⟩;rw[<-ht]at hw h3;have hwt:OQ V U=t\/OQ V U=t/2*2+1:=by
  rw[hw];split
  ·exact .inl rfl
  ·exact .inr rfl
 have qw:=SL V U hU;have si:=SL V (2*U) (by omega);rw[VG]at si;have hh2:t<72048797944905728:=by rw[ht,mY hU];omega
 unfold ec;have mo:∀w:Nat,w/2|||(w&&&1)=w/2\/w/2|||(w&&&1)=w/2/2*2+1:=fun w=>by
  rw[Nat.and_one_is_mod];rcases Nat.mod_two_eq_zero_or_one w with e|e
  ·rw[e,Nat.or_zero];exact .inl rfl
  ·rw[e,Qx];exact .inr rfl
 have xL:=mo (OQ V U);obtain⟨w,hwd⟩:∃w,w=OQ V U:=⟨_,rfl⟩;obtain⟨w2,xh⟩:∃w2,w2=w/2|||(w&&&1):=⟨_,rfl⟩;rw[br];rw[<-hwd]at qw si hwt xL⊢;rw[<-xh]at si xL⊢;by_cases hs:36028797018963966<=w
 ·rw[lQ hs,si];obtain⟨m,hm⟩:∃m,m=FI V (2*U):=⟨_,rfl⟩;rw[<-hm]at si⊢;have m1:4503599627370496<=m:=lG hs xL si;have m2:m<9007199254740992:=kI hh2 hwt xL si;have pk:=Mb m m2 (-(1074-(u:Int)-1));rw[lL (by omega)]at pk;have fin:(D7 m (-(1074-(u:Int)-1))).1=min ((u+1)*4503599627370496+m) AW:=by
   rw[pk];exact kM m1 m2
  rw[fin];by_cases hV:V<9007199254740992*U
  ·have t2:t<36028797018963968:=by rw[ht,mY hU];omega
   have w7:=ib hwt;have w8:w<36028797018963968:=by clear qw si xL h3 h4;omega
   have r1:FI V U=9007199254740992:=jj hs w8 qw;have r2:m=4503599627370496:=kC hs w8 xL si;refine⟨_,⟨u,U,.inl ⟨rfl,rfl⟩,?_,hV,rfl⟩,?_⟩
   ·refine .inr ?_;have t3:36028797018963965<=t:=by clear qw si xL h3 h4;omega
    have:=mU U t3;clear qw si xL w7 hwt;omega
   ·rw[r1,r2,show(u+1)*4503599627370496+4503599627370496=u*4503599627370496+9007199254740992 by clear qw si xL h3 h4;omega]
  ·refine⟨_,⟨u+1,2*U,.inr ⟨rfl,rfl⟩,.inr (by omega),by omega,rfl⟩,?_⟩;rw[<-hm]
 ·rw[lL hs,qw];obtain⟨m,hm⟩:∃m,m=FI V U:=⟨_,rfl⟩;rw[<-hm]at qw⊢;have m2:m<9007199254740992:=jx (by omega) qw;have w7:=ib hwt;have t3:t+1<=36028797018963966:=by clear qw si xL h3 h4;omega
  have hV:V<9007199254740992*U:=by
   have:=mU U t3;rw[Nat.mul_add]at this;clear qw si xL w7 hwt;omega
  have pk:=Mb m m2 (-(1074-(u:Int)));refine⟨_,⟨u,U,.inl ⟨rfl,rfl⟩,hl,hV,rfl⟩,?_⟩;rw[pk,<-hm];by_cases hml:m<4503599627370496
  ·rw[lQ hml];rcases hl with h|h
   ·subst h;rw[oH,me];exact(pM (show m<=AW by unfold AW;clear qw si xL h3 h4 w7 hwt t3 ht hw;omega)).symm
   ·exfalso;have t4:18014398509481984<=t:=by rw[ht,nY hU];omega
    exact absurd (jl (show 18014398509481984<=w by omega) qw) (by omega)
  ·rw[lL hml];exact kF (by omega) m2
theorem Vr (d:Nat) (p:Int) (h0:d≠0) (hd:d<18446744073709551616) (hp: -345<=p) (qj:p<=310):Fl (d*10^p.toNat) (10^(-p).toNat) (cY d p).1:=by
 obtain⟨b,hb⟩:∃b,b=Lib.bitLen d:=⟨_,rfl⟩;obtain⟨lp,vl⟩:∃lp,lp=p*108853/32768:=⟨_,rfl⟩;obtain⟨e,he⟩:∃e,e=gH b lp:=⟨_,rfl⟩;obtain⟨ss,zI⟩:∃ss,ss=jY b lp:=⟨_,rfl⟩;obtain⟨i,hi⟩:∃i:Nat,i=(p+345).toNat:=⟨_,rfl⟩;have B:=Gz h0 hd;have B2:=Lib.bitLenAux_bounds 64 d hd h0;obtain⟨b1,b64,bx⟩:=B;have b2:2^(b-1)<=d:=by rw[hb];exact B2.2.1
 have b3:d<2^b:=by rw[hb];exact B2.2.2
 rw[<-hb]at b1 b64 bx;clear B2;have hr:cY d p=if 64<=ss then(0,false)else ec (Jq (d*2^(64-b)) (FG (i+3)) (FY (i+3)) ss.toNat) e:=by
  unfold cY kK;rw[<-hb,<-vl,<-zI,<-he,show(p+348).toNat=i+3 by omega]
 rw[hr];have i656:i<656:=by omega
 have l1: -1147<=lp:=by omega
 have l2:lp<=1030:=by omega
 have q6:e=min (1074:Int) (53-(b:Int)-lp):=by rw[he];rfl
 have q1:ss= -(e-(64-(b:Int))+lp+3):=by rw[zI,he];rfl
 have ri:=Wz i i656;have hw:dN i=lp:=by unfold dN;rw[vl];congr 2;omega
 have nA:p.toNat=i-345:=by omega
 have nB:(-p).toNat=345-i:=by omega
 obtain⟨A,hA⟩:∃A,A=10^(i-345):=⟨_,rfl⟩;obtain⟨D,hD⟩:∃D,D=10^(345-i):=⟨_,rfl⟩;have D0:0<D:=by rw[hD];exact oe (by decide)
 obtain⟨k,hk⟩:∃k:Nat,k=(2127-lp).toNat:=⟨_,rfl⟩;have eN:Jk i=A*2^k:=by unfold Jk;rw[hw,<-hA,<-hk]
 have eD:He i=D*2^PZ:=by unfold He;rw[<-hD]
 rw[nA,nB,<-hA,<-hD];have lo:=ri.low;have hiB:=ri.high;rw[eN,eD]at lo hiB;have p127:(170141183460469231731687303715884105728:Nat)=2^127:=by decide
 have p128:(340240828546070184842346363461134450688:Nat)=8191*2^115:=by decide
 rw[p127]at lo;rw[p128]at hiB;clear hA hD vl zI he hb hr nA nB hw p127 p128 ri;have tJ:KZ=2^KE:=rfl;have hKE:=LM;have hPZ:=jN;unfold Fl Jv;generalize KZ=K at*;generalize KE=ke at*;generalize PZ=pz at*;by_cases h64:64<=ss
 ·rw[lQ h64];have e1074:e=1074:=by omega
  refine⟨0,⟨0,.inl rfl,?_,?_⟩,rfl⟩
  all_goals
   have key:2*(d*A*K)<D:=by
    refine mc (a:=2^(128+pz)) ?_;have s1:A*2^(2+ke+128+pz+b)<=A*2^k:=mU A (lX (by decide) (by omega));have s2:8191*2^115*(D*2^pz)<=D*2^(128+pz):=by
     have:D*2^(128+pz)=8192*2^115*(D*2^pz):=by
      rw[show(8192:Nat)*2^115=2^128 by decide,lW];generalize(2:Nat)^128=Z
      ac_rfl
     rw[this];exact lV _ (by decide)
    have s3:2*(d*A*K)*2^(128+pz)<=A*2^(2+ke+128+pz+b):=by
     have e1:2*(d*A*K)*2^(128+pz)=d*(A*2^(1+ke+(128+pz))):=by
      rw[tJ,lW 2 (1+ke),lW 2 1,Nat.pow_one];generalize(2:Nat)^(128+pz)=Z
      ac_rfl
     have e2:A*2^(2+ke+128+pz+b)=2^b*(A*2^(2+ke+128+pz)):=by
      rw[lW 2 (2+ke+128+pz) b];generalize(2:Nat)^(2+ke+128+pz)=Z
      ac_rfl
     rw[e1,e2];exact pn (mW b3) (mU A (lX (by decide) (by omega)))
    exact mG (lg s3 s1) (lR hiB s2)
  ·rw[nC,nf];omega
  ·rw[nC,nf,oH,me];unfold FI;rw[mv (by omega),nJ (by omega),lL (by omega)]
 ·rw[lL h64];obtain⟨s,hs⟩:∃s:Nat,s=ss.toNat:=⟨_,rfl⟩;obtain⟨u,hu⟩:∃u:Nat,u=(1074-e).toNat:=⟨_,rfl⟩;have eu:e=1074-(u:Int):=by omega
  have s8:8<=s:=by omega
  have xb:9223372036854775808<=d*2^(64-b):=by
   have:2^(b-1)*2^(64-b)<=d*2^(64-b):=lV _ b2;rw[<-lW,show b-1+(64-b)=63 by omega]at this;exact this
  rw[<-hs,aJ i _ s i656 xb bx s8];have U0:0<D*2^u:=mx D0 (lj _);have eq:qs (d*2^(64-b)*Jk i) (He i*2^(128+s))=OQ (d*A*K) (D*2^u):=by
   refine Wn (mx (O4 i) (lj _)) U0 ?_;rw[eN,eD,tJ];have x1:d*2^(64-b)*(A*2^k)*(D*2^u)=d*A*D*2^(64-b+k+u):=by
    rw[lW,lW];generalize(2:Nat)^(64-b)=Z
    ac_rfl
   have x2:4*(d*A*2^ke)*(D*2^pz*2^(128+s))=d*A*D*2^(2+ke+pz+(128+s)):=by
    rw[lW 2 _ (128+s),lW 2 (2+ke),lW 2 2];generalize(2:Nat)^(128+s)=Z;have:(4:Nat)=2^2:=by decide
    rw[this];generalize(2:Nat)^2=Z2
    ac_rfl
   rw[x1,x2,show 64-b+k+u=2+ke+pz+(128+s) by omega]
  rw[eq,eu];have vk:∀n,d*A*K*2^k=n->d*2^ke*(A*2^k)=n:=fun n h=>by rw[<-h,tJ];ac_rfl
  have hl:u=0\/4503599627370496*(D*2^u)<=d*A*K:=by
   by_cases h:u=0
   ·exact .inl h
   ·refine .inr (oM ?_ (lj k));rw[<-vk _ rfl];have a1:2^(b-1)*2^ke*(2^127*(D*2^pz))<=d*2^ke*(A*2^k):=pn (lV _ b2) lo;refine lg (pR ?_) a1;have:(4503599627370496:Nat)=2^52:=by decide
    rw[this];have y1:2^52*(D*2^u)*2^k=D*2^(52+u+k):=by
     rw[lW,lW];generalize(2:Nat)^52=Z
     ac_rfl
    have y2:2^(b-1)*2^ke*(2^127*(D*2^pz))=D*2^(b-1+ke+127+pz):=by
     rw[lW,lW,lW];generalize(2:Nat)^127=Z
     ac_rfl
    rw[y1,y2,show 52+u+k=b-1+ke+127+pz by omega]
  have hh:d*A*K<18012199486226432*(D*2^u):=by
   refine mc (a:=2^k) ?_;rw[<-vk _ rfl];have a1:d*2^ke*(A*2^k)<d*2^ke*(8191*2^115*(D*2^pz)):=Nat.mul_lt_mul_of_pos_left hiB (mx (by omega) (lj _));have a2:d*2^ke*(8191*2^115*(D*2^pz))<=2^b*2^ke*(8191*2^115*(D*2^pz)):=lV _ (lV _ (mW b3));refine lR a1 (lg a2 ?_);have c1:(18012199486226432:Nat)=8191*2^41:=by decide
   rw[c1];have c2:8191*2^41*(D*2^u)*2^k=8191*D*2^(41+u+k):=by
    rw[lW,lW];generalize(2:Nat)^41=Z
    ac_rfl
   have c3:2^b*2^ke*(8191*2^115*(D*2^pz))=8191*D*2^(b+ke+115+pz):=by
    rw[lW,lW,lW];generalize(2:Nat)^115=Z
    ac_rfl
   rw[c2,c3];exact mU _ (lX (by decide) (by omega))
  obtain⟨r,⟨v,T,hT,g1,g2,g3⟩,g4⟩:=dC (d*A*K) (D*2^u) u U0 hl hh;refine⟨r,⟨v,?_,?_,?_⟩,g4⟩
  all_goals
   have eT:T=D*2^v:=by
    rcases hT with⟨rfl,rfl⟩|⟨rfl,rfl⟩
    ·rfl
    ·rw[l9];ac_rfl
   rw[<-eT];assumption
end Go.Pf
end
