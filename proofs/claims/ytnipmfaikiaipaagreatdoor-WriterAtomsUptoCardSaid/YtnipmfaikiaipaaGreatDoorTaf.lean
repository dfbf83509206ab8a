import Derived.Test.YtnipmfaikiaipaaGreatDoorTae
import Derived.Test.YtnipmfaikiaipaaGreatDoorTab
set_option maxRecDepth 1000000
set_option maxHeartbeats 40000000
section
namespace Go.Pf
theorem K8 {A:Nat->Nat} {n:Nat} :∀m,(∀i,n<=i->i<n+m->A i=48)->num A (n+m)=num A n*10^m
 |0,_=>by simp
 |m+1,h=>by
  rw[<-Nat.add_assoc,num,K8 m (fun i h1 h2=>h i h1 (by omega)),h (n+m) (by omega) (by omega),gj,G0,Nat.sub_self,gZ]
theorem SQ {A:Nat->Nat} {nd:Nat} :∀m,Ax A nd (nd+m)=num A nd*10^m
 |0=>by rw[gZ,Ry nd (nR _),gf,gY]
 |m+1=>by
  rw[<-Nat.add_assoc,Ax,SQ m,if_neg (by omega),gZ,gj,G0]
def wN (P:Nat) (s:Cm) (e:Int):Nat:=num s.A s.nd*10^(s.dp-s.nd+P).toNat*2^(e+P).toNat
theorem core {X j V g:Nat}(h:X*10^j=V*g) (hg:0<g):V/10^j*g<=X/\X<(V/10^j+1)*g/\(V %10^j=0↔V/10^j*g=X):=by
 have hp:0<10^j:=Nat.pow_pos (by decide);have h1:V/10^j*10^j+V %10^j=V:=Nat.div_add_mod' V _;have h2:V %10^j<10^j:=gR _ hp;have e1:X*10^j=V/10^j*g*10^j+V %10^j*g:=by
  rw[h]
  conv=>lhs;rw[<-h1]
  rw[UP,Nat.mul_right_comm]
 have h3:V %10^j*g<10^j*g:=c8 h2 hg;refine⟨?_,?_,?_⟩
 ·refine Nat.le_of_mul_le_mul_right ?_ hp;rw[e1];exact Nat.le_add_right _ _
 ·refine cS (a:=10^j) ?_;rw[e1,UP (V/10^j),Nat.one_mul,UP,So g];exact Nat.add_lt_add_left h3 _
 ·constructor
  ·intro h0;rw[h0,Nat.zero_mul,gZ]at e1;exact(Nat.eq_of_mul_eq_mul_right hp e1).symm
  ·intro h0;rw[h0]at e1;have:V %10^j*g=0:=by omega
   rcases Nat.mul_eq_zero.1 this with h|h
   ·exact h
   ·omega
structure Zr (P:Nat) (s:Cm) (e:Int) (s':Cm) (e':Int):Prop where
 le:wN P s' e'<=wN P s e
 tr:s'.tr=(s.tr||decide (wN P s' e'≠wN P s e))
 fl:wN P s' e'=wN P s e\/∃t g,g=10^(s'.dp-800+P).toNat*2^(e'+P).toNat/\wN P s' e'=t*g/\wN P s e<(t+1)*g
theorem Zr.mk' {P W j V:Nat} {s s':Cm} {e e':Int}(hn:num s'.A W=V/10^j) (hnd:s'.nd<=W) (hz:∀i,s'.nd<=i->i<W->s'.A i=48) (htr:s'.tr=(s.tr||decide (V %10^j≠0)))
 (hj:j=0\/W=800) (hP:0<=s'.dp-W+P) (hx:wN P s e*10^j=V*(10^(s'.dp-W+P).toNat*2^(e'+P).toNat)):Zr P s e s' e':=by
 obtain⟨g,hg⟩:∃g,g=10^(s'.dp-W+P).toNat*2^(e'+P).toNat:=⟨_,rfl⟩;have g0:0<g:=by rw[hg];exact Nat.mul_pos (Nat.pow_pos (by decide)) (An _)
 have e1:wN P s' e'=V/10^j*g:=by
  rw[<-hn,hg];obtain⟨m,rfl⟩:∃m,W=s'.nd+m:=⟨W-s'.nd,by omega⟩;rw[K8 m hz];unfold wN;rw[show(s'.dp-s'.nd+P).toNat=m+(s'.dp-(s'.nd+m:Nat)+P).toNat by omega,E3]
  ac_rfl
 rw[<-hg]at hx;obtain⟨c1,c2,c3⟩:=core hx g0;rw[<-e1]at c1 c3;refine⟨c1,?_,?_⟩
 ·rw[htr];congr 1;simp only[ne_eq,decide_not,c3]
 ·rcases hj with hj|hj
  ·refine .inl (c3.1 ?_);rw[hj,gf,Nat.mod_one]
  ·subst hj;exact .inr ⟨V/10^j,g,hg,e1,c2⟩
theorem FD.gG {P k:Nat} {s s':Cm} {e:Int}(h:FD k s s') (hk:k<=60) (h0:0<s.nd) (h8:s.nd<=800) (hA:49<=s.A 0) (hP:100000<=P) (d1: -50000<=s.dp) (he:0<=e+P):Zr P s e s' (e+k):=by
 have hd:=h.dp hk h0 hA;obtain⟨W,hs,n0,nW,nz,zz⟩:=h;obtain⟨V,c,r,r1,r2,r3,r4,r5,r6,r7,_,_⟩:=hs.ex;have hr:r<=21:=by omega
 obtain⟨j,hj⟩:∃j,c=W+j:=⟨c-W,by omega⟩;have ej:c-W=j:=by omega
 rw[ej]at r6 r7;refine Zr.mk' r6 nW zz r7 (by omega) (by omega) ?_;obtain⟨m,hm⟩:∃m,c+r=s.nd+m:=⟨c+r-s.nd,by omega⟩;rw[hm,SQ]at r3;unfold wN;have x1:(s.dp-s.nd+P).toNat+j=m+(s.dp-r-W+P).toNat:=by omega
 have x2:(s'.dp-W+P).toNat=1+(s.dp-r-W+P).toNat:=by omega
 have x3:(e+k+P).toNat=k+(e+P).toNat:=by omega
 rw[x2,x3,E3 10 1,E3 2 k,Nat.pow_one]
 calc num s.A s.nd*10^(s.dp-s.nd+P).toNat*2^(e+P).toNat*10^j=num s.A s.nd*10^((s.dp-s.nd+P).toNat+j)*2^(e+P).toNat:=by rw[E3];ac_rfl
  _=num s.A s.nd*10^m*(10^(s.dp-r-W+P).toNat*2^(e+P).toNat):=by rw[x1,E3];ac_rfl
  _=V*(10*2^k)*(10^(s.dp-r-W+P).toNat*2^(e+P).toNat):=by rw[r3]
  _=V*(10*10^(s.dp-r-W+P).toNat*(2^k*2^(e+P).toNat)):=by ac_rfl
theorem DD.gG {P k:Nat} {s s':Cm} {e:Int}(h:DD k s s') (h8:s.nd<=800) (hP:100000<=P) (d1: -50000<=s.dp) (he:0<=e-k+P):Zr P s e s' (e-k)/\∃D:Nat,s'.dp=s.dp+D/\D<=19/\(s.nd+D<=800->wN P s' (e-k)=wN P s e):=by
 obtain⟨W,hs,n0,nW,nz,zz⟩:=h;obtain⟨D,r1,r2,r3,r4,r5,r6,r7⟩:=hs.ex;obtain⟨j,hj⟩:∃j,s.nd+D=W+j:=⟨s.nd+D-W,by omega⟩;have ej:s.nd+D-W=j:=by omega
 rw[ej]at r4 r5;have hx:wN P s e*10^j=num s.A s.nd*2^k*(10^(s'.dp-W+P).toNat*2^(e-k+P).toNat):=by
  unfold wN;have x1:(s.dp-s.nd+P).toNat+j=(s'.dp-W+P).toNat:=by omega
  have x3:(e+P).toNat=k+(e-k+P).toNat:=by omega
  rw[x3,E3 2 k]
  calc num s.A s.nd*10^(s.dp-s.nd+P).toNat*(2^k*2^(e-k+P).toNat)*10^j=num s.A s.nd*10^((s.dp-s.nd+P).toNat+j)*(2^k*2^(e-k+P).toNat):=by rw[E3 10];ac_rfl
   _=num s.A s.nd*2^k*(10^(s'.dp-W+P).toNat*2^(e-k+P).toNat):=by rw[x1];ac_rfl
 have st:Zr P s e s' (e-k):=Zr.mk' r4 nW zz r5 (by omega) (by omega) hx;refine⟨st,D,r2,r1,fun hD=> ?_⟩;have j0:j=0:=by omega
 subst j0;have e1:wN P s' (e-k)=num s'.A W*(10^(s'.dp-W+P).toNat*2^(e-k+P).toNat):=by
  obtain⟨m,rfl⟩:∃m,W=s'.nd+m:=⟨W-s'.nd,by omega⟩;rw[K8 m zz];unfold wN;rw[show(s'.dp-s'.nd+P).toNat=m+(s'.dp-(s'.nd+m:Nat)+P).toNat by omega,E3]
  ac_rfl
 rw[e1,r4,gf,Nat.div_one,<-hx,gf,gY]
structure Inv (P:Nat) (Q:Int) (v:Nat) (s:Cm) (e:Int):Prop where
 le:wN P s e<=v
 tr:s.tr=decide (wN P s e≠v)
 th:∀n,n*(10^P*2^(Q+P).toNat)<=v->n*(10^P*2^(Q+P).toNat)<=wN P s e
theorem Inv.step {P v:Nat} {Q e e':Int} {s s':Cm}(h:Inv P Q v s e) (hs:Zr P s e s' e') (c1:s'.dp<=800) (c2:s'.dp+e'<=800+Q) (c3: -50000<=s'.dp) (c4:0<=e'+P) (c5:0<=Q+P) (hP:100000<=P):Inv P Q v s' e':=by
 have l1:=h.le;have l2:=hs.le;refine⟨To l2 l1,?_,?_⟩
 ·rw[hs.tr,h.tr,<-Bool.decide_or];congr 1;rw[eq_iff_iff];omega
 ·intro n hn;have h1:=h.th n hn;rcases hs.fl with hf|⟨t,g,hg,ht,hl⟩
  ·rw[hf];exact h1
  ·have eH:10^P*2^(Q+P).toNat=5^(800-s'.dp).toNat*2^(800-s'.dp+Q-e').toNat*g:=by
    have x1:P=(800-s'.dp).toNat+(s'.dp-800+P).toNat:=by omega
    have x2:(800-s'.dp).toNat+(Q+P).toNat=(800-s'.dp+Q-e').toNat+(e'+P).toNat:=by
     omega
    rw[hg]
    conv=>lhs;arg 1;rw[x1]
    rw[E3,show(10:Nat)^(800-s'.dp).toNat=5^(800-s'.dp).toNat*2^(800-s'.dp).toNat by rw[<-Nat.mul_pow]]
    calc 5^(800-s'.dp).toNat*2^(800-s'.dp).toNat*10^(s'.dp-800+P).toNat*2^(Q+P).toNat
     =5^(800-s'.dp).toNat*10^(s'.dp-800+P).toNat*2^((800-s'.dp).toNat+(Q+P).toNat):=by rw[E3 2];ac_rfl
     _=5^(800-s'.dp).toNat*2^(800-s'.dp+Q-e').toNat*(10^(s'.dp-800+P).toNat*2^(e'+P).toNat):=by rw[x2,E3 2];ac_rfl
   rw[eH,<-G0]at h1⊢;rw[ht];refine FF g ?_;have:=cS (IS h1 hl);omega
end Go.Pf
end
section
namespace Go.Pf
structure Gd (s:Cm):Prop where
 pos:0<s.nd
 le:s.nd<=800
 lead:49<=s.A 0
 Bq:∀i,i<s.nd->48<=s.A i/\s.A i<=57
theorem FD.gd {k:Nat} {s s':Cm}(h:FD k s s'):Gd s':=by
 obtain⟨W,hs,n0,nW,nz,zz⟩:=h;obtain⟨V,c,r,r1,r2,r3,r4,r5,r6,r7,_,_⟩:=hs.ex;exact⟨n0,by omega,hs.lead,fun i hi=>hs.Bq i (by omega)⟩
theorem DD.gd {k:Nat} {s s':Cm}(h:DD k s s'):Gd s':=by
 obtain⟨W,hs,n0,nW,nz,zz⟩:=h;obtain⟨D,r1,r2,r3,r4,r5,r6,r7⟩:=hs.ex;exact⟨n0,by omega,hs.lead,fun i hi=>hs.Bq i (by omega)⟩
theorem Dn.mono {s s':Cm} {e e':Int}(h:Dn s e s' e'):e<=e':=by
 induction h with
 |done _=>exact Int.le_refl _
 |step _ _ _ ih=>omega
def dZ (s:Cm):Int:=10*s.dp+(s.A 0-48:Nat)
theorem DD.len {k:Nat} {s s':Cm}(h:DD k s s') (g:Gd s):(k:Int)<=4*(dZ s'-dZ s):=by
 obtain⟨W,hs,n0,nW,nz,zz⟩:=h;obtain⟨D,r1,r2,r3,r4,r5,r6,r7⟩:=hs.ex;have g0:=g.pos;have gl:=g.lead;have gd0:=g.Bq 0 g0;have hl:=hs.lead;have hp:=hs.pos;have hd0:=hs.Bq 0 hp;have e1:=E9 g.pos (fun i hi=>(g.Bq i hi).2);have e2:=E9 hs.pos (fun i hi=>(hs.Bq i hi).2);have x1:s.nd+D-W+(W-1)=s.nd+D-1:=by omega
 rw[r4,SO,<-E3,x1]at e2;obtain⟨N,hN⟩:∃N,N=num s.A s.nd:=⟨_,rfl⟩;obtain⟨l,hl1⟩:∃l,l=s.A 0-48:=⟨_,rfl⟩;obtain⟨l',hl2⟩:∃l,l=s'.A 0-48:=⟨_,rfl⟩;rw[<-hN,<-hl1]at e1;rw[<-hN,<-hl2]at e2;rw[<-hN]at r7;have b1:l*10^(s.nd-1)<=N:=by rw[<-e1];exact Nat.div_mul_le_self _ _
 have b2:N*2^k<(l'+1)*10^(s.nd+D-1):=by
  have:=Nat.lt_div_mul_add (a:=N*2^k) (A3 (s.nd+D-1));rw[e2]at this;rw[UP,Nat.one_mul];exact this
 unfold dZ;rw[r2,<-hl1,<-hl2];by_cases hD:D=0
 ·subst hD;rw[gZ]at b2;have b3:l*2^k<l'+1:=by
   apply cS (a:=10^(s.nd-1));refine IS ?_ b2;rw[Nat.mul_right_comm];exact FF _ b1
  have b4:k+1<=2^k:=Nat.lt_two_pow_self;have b5:l*(k+1)<=l*2^k:=dg _ b4;rw[Nat.mul_add,gY]at b5;have b6:1*k<=l*k:=FF _ (by omega);omega
 ·have b3:2^k<10^(D+1):=by
   apply cS (a:=10^(s.nd-1));rw[<-E3,show D+1+(s.nd-1)=s.nd+D by omega,So];refine IS ?_ r7;refine FF _ (To ?_ b1);have:=FF (10^(s.nd-1)) (show 1<=l by omega);rw[Nat.one_mul]at this;exact this
  have b4:(10:Nat)^(D+1)<=2^(4*(D+1)):=by
   rw[Nat.pow_mul];exact Nat.pow_le_pow_left (by decide) _
  have b5:k<4*(D+1):=by
   apply No;intro hh;have:=AT (n:=2) (by decide) (show 4*(D+1)<=k by omega);omega
  omega
theorem eK (d:Nat) (h:1<=d):2^pw d<=10^d:=by
 unfold pw;split
 ·have:(10:Nat)^9<=10^d:=AT (by decide) (by omega);omega
 ·have key:∀n,n<9->1<=n->2^Ub.getD n 1<=10^n:=by decide
  exact key d (by omega) h
theorem DD.dp0 {s s':Cm}(h:DD (pw (-s.dp)) s s') (g:Gd s) (h0:s.dp<=0) (hs2:Dt s):s'.dp<=0:=by
 obtain⟨W,hs,n0,nW,nz,zz⟩:=h;obtain⟨D,r1,r2,r3,r4,r5,r6,r7⟩:=hs.ex;have g0:=g.pos;by_cases hz:s.dp=0
 ·rw[hz]at r6 r2;have:pw (-0)=1:=by decide
  rw[this]at r6;have e1:=E9 g.pos (fun i hi=>(g.Bq i hi).2);have h5:s.A 0<53:=by
   rcases hs2 with h|h
   ·omega
   ·exact h.2
  have b2:num s.A s.nd<5*10^(s.nd-1):=by
   have:=Nat.lt_div_mul_add (a:=num s.A s.nd) (A3 (s.nd-1));rw[e1]at this;have b:=FF (10^(s.nd-1)) (show s.A 0-48<=4 by omega);omega
  have b3:(10:Nat)^(s.nd+D-1)<10^s.nd:=by
   have:(10:Nat)^s.nd=10^(s.nd-1)*10:=by rw[<-gj,show(s.nd-1).succ=s.nd by omega]
   omega
  have b4:=(Nat.pow_lt_pow_iff_right (a:=10) (by decide)).1 b3;omega
 ·obtain⟨d,hd⟩:∃d:Nat,-s.dp=d:=⟨(-s.dp).toNat,by omega⟩;rw[hd]at r6;have p:=eK d (by omega);have b1:=LL s.nd (fun i hi=>(g.Bq i hi).2);have b3:(10:Nat)^(s.nd+D-1)<10^(s.nd+d):=by
   refine IS r6 ?_;rw[E3];exact IS (dg _ p) (c8 b1 (A3 _))
  have b4:=(Nat.pow_lt_pow_iff_right (a:=10) (by decide)).1 b3;omega
theorem Up.mono {s s':Cm} {e e':Int}(h:Up s e s' e'):e'<=e:=by
 induction h with
 |done _=>exact Int.le_refl _
 |step _ _ _ ih=>omega
theorem Up.dp {s s':Cm} {e e':Int}(h:Up s e s' e'):s.dp<=s'.dp:=by
 induction h with
 |done _=>exact Int.le_refl _
 |step _ r _ ih=>
  obtain⟨W,hs,_⟩:=r;obtain⟨D,r1,r2,_⟩:=hs.ex;omega
theorem Up.len {s s':Cm} {e e':Int}(h:Up s e s' e'):Gd s->s.dp<=0->e-e'<=4*(9-dZ s)/\s'.dp<=0/\¬Dt s'/\Gd s':=by
 induction h with
 |done h0=>
  intro g h;refine⟨?_,h,h0,g⟩;have:=g.Bq 0 g.pos;unfold dZ;omega
 | @step s t s' e e' h0 r c ih=>
  intro g h;have h1:=r.dp0 g h h0;have h2:=r.len g;obtain⟨a1,a2,a3,a4⟩:=ih r.gd h1;exact⟨by omega,a2,a3,a4⟩
theorem Up.exact {P:Nat} {s s':Cm} {e e':Int}(h:Up s e s' e'):Gd s->s.tr=false->s.dp<=0-> -50000<=s.dp->s.nd-s.dp<=730->0<=e'+P->100000<=P->wN P s' e'=wN P s e/\s'.tr=false:=by
 induction h with
 |done h0=>
  intro g i c1 c2 c3 c4 hP;exact⟨rfl,i⟩
 | @step s t s' e e' h0 r c ih=>
  intro g i c1 c2 c3 c4 hP;have hm:=c.mono;have h1:=r.dp0 g c1 h0;obtain⟨st,D,d1,d2,d3⟩:=r.gG (P:=P) (e:=e) g.le hP c2 (by omega);have hD:(s.nd:Int)+D<=730:=by omega
  have e1:=d3 (by omega);have t1:t.tr=false:=by rw[st.tr,i,e1];simp
  have hnd:(t.nd:Int)<=s.nd+D:=by
   obtain⟨W,hs,n0,nW,nz,zz⟩:=r;obtain⟨D',r1,r2,r3,_⟩:=hs.ex;omega
  obtain⟨a1,a2⟩:=ih r.gd t1 h1 (by omega) (by omega) c4 hP;exact⟨a1.trans e1,a2⟩
end Go.Pf
end
section
namespace Go.Pf
structure BS (i hi lo:Nat):Prop where
 up:hi*18446744073709551616*TP i<ZF i+(lo+1)*TP i
 le:ZF i+lo*TP i<=hi*18446744073709551616*TP i
 gK:9223372036854775808<=hi
 gL:hi<18446744073709551616
 gM:lo<18446744073709551616
 low:170141183460469231731687303715884105728*TP i<=ZF i
 high:ZF i<340240828546070184842346363461134450688*TP i
def qs (a b:Nat):Nat:=(a/b)|||(if a %b=0 then 0 else 1)
end Go.Pf
end
