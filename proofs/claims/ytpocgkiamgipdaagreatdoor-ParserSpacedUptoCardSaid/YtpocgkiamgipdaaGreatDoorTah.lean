import Derived.Test.YtpocgkiamgipdaaGreatDoorTaf
import Derived.Laws.FloatArith
set_option maxRecDepth 1000000
set_option maxHeartbeats 0
open Go.Proofs.Tryz
section
namespace Go.Pf
theorem Jv.ex (N D:Nat) (hD:0<D):∃b,Jv N D b:=by
 unfold Jv;generalize KZ=K;have hk:∀n,N*K<9007199254740992*(D*2^n)->∃u,N*K<9007199254740992*(D*2^u)/\(u=0\/4503599627370496*(D*2^u)<=N*K):=by
  intro n
  induction n with
  |zero=>exact fun h=>⟨0,h,.inl rfl⟩
  |succ n ih=>
   intro h;by_cases h2:N*K<9007199254740992*(D*2^n)
   ·exact ih h2
   ·refine⟨n+1,h,.inr ?_⟩;rw[l9,mR (2^n) 2,Nat.mul_left_comm D 2];omega
 have h0:N*K<9007199254740992*(D*2^(N*K)):=by
  have h1:N*K<2^(N*K):=Nat.lt_two_pow_self;have h2:1*2^(N*K)<=D*2^(N*K):=lV _ hD;omega
 obtain⟨u,a,b⟩:=hk _ h0;exact⟨_,u,b,a,rfl⟩
def TA:Nat:=1024
theorem RD (a b q:Nat) (hb:0<b) (h:q*b<=a):q<=FI a b:=by
 have:q<=a/b:=(nY hb).2 h;unfold FI;split<;>omega
theorem Fl.inf {N D:Nat}(hD:0<D) (h:2^TA*D<=N):Fl N D AW:=by
 obtain⟨b,hr⟩:=Jv.ex N D hD;refine⟨b,hr,(Nat.min_eq_right ?_).symm⟩;obtain⟨u,h1,h2,h3⟩:=hr;have tJ:KZ=2^KE:=rfl;have hKE:=LM;have hTA:TA=1024:=rfl;generalize KZ=K at*;generalize KE=ke at*;generalize TA=ta at*;have xY:(9007199254740992:Nat)=2^53:=by decide
 have k1:2^(ta+ke)*D<2^(53+u)*D:=by
  have a1:2^ta*D*2^ke<=N*K:=by rw[tJ];exact lV _ h
  have a2:2^(ta+ke)*D=2^ta*D*2^ke:=by rw[lW];ac_rfl
  have a3:2^(53+u)*D=9007199254740992*(D*2^u):=by rw[xY,lW];generalize(2:Nat)^53=Z;ac_rfl
  rw[a2,a3];exact mG a1 h2
 have k2:=(nP (a:=2) (by decide)).1 (mc k1);have u1:2046<=u:=by omega
 have h4:4503599627370496*(D*2^u)<=N*K:=by
  rcases h1 with h|h
  ·omega
  ·exact h
 have h5:=RD _ _ 4503599627370496 (mx hD (lj u)) h4;rw[h3];unfold AW;omega
theorem Fl.Mw {N D:Nat}(h:2*(N*KZ)<D):Fl N D 0:=by
 refine⟨0,⟨0,.inl rfl,?_,?_⟩,rfl⟩
 ·rw[nC,nf];omega
 ·rw[nC,nf,oH,me];unfold FI;rw[mv (by omega),nJ (by omega),lL (by omega)]
theorem GG (m:Nat) (e:Int):Dg m e=m %4503599627370496+(e+1023).toNat*4503599627370496:=by
 unfold Dg;have e1:(4503599627370495:Nat)=2^52-1:=by decide
 have e2:(4503599627370496:Nat)=2^52:=by decide
 rw[e1,e2,oN,Nat.or_comm,mR,<-oh (mw _ (by decide)),pU]
theorem QL (m:Nat) (e:Int) (hm:m<=9007199254740992) (h1: -1022<=e) (h2:e<=1023) (h3:4503599627370496<=m\/e= -1022):(Fw m e).1=min ((e+1022).toNat*4503599627370496+m) AW:=by
 obtain⟨u,rfl⟩:∃u:Nat,e=(u:Int)-1022:=⟨(e+1022).toNat,by omega⟩;have hu:((u:Int)-1022+1022).toNat=u:=by omega
 rw[hu];unfold Fw;by_cases hq:m=9007199254740992
 ·rw[lQ hq,hq];by_cases ho:(2047:Int)<=(u:Int)-1022+1+1023
  ·rw[lQ ho];have:u=2045:=by omega
   subst this;show Dg 0 1024=_;rw[GG];unfold AW;rw[Nat.min_eq_right (by omega)];have:(1024+1023:Int).toNat=2047:=by decide
   rw[this,Nat.zero_mod,me]
  ·rw[lL ho];unfold Hq;rw[lL (by decide)];show Dg 4503599627370496 ((u:Int)-1022+1)=_;rw[GG,show((u:Int)-1022+1+1023).toNat=u+2 by omega,pM (by unfold AW;omega)];omega
 ·rw[lL hq];unfold Hq;show Dg m _=_;rw[GG];by_cases hs:m<4503599627370496
  ·rw[lQ ((SU m (by omega)).2 hs)];have:u=0:=by omega
   subst this;rw[mv hs,pM (by unfold AW;omega)];have:(-1023+1023:Int).toNat=0:=by decide
   rw[this,oH,me,nK]
  ·rw[lL (fun h=>hs ((SU m (by omega)).1 h))];have e1:m %4503599627370496=m-4503599627370496:=by omega
   rw[e1,show((u:Int)-1022+1023).toNat=u+1 by omega,pM (by unfold AW;omega)];omega
theorem Vl {v H f:Nat}(h0:0<H) (h1:f*H<=v) (h2:v<(f+1)*H):FI v (2*H)=if f %2=1/\(v≠f*H\/f/2 %2=1)then f/2+1 else f/2:=by
 obtain⟨q,c,hf,hc⟩:∃q c,f=2*q+c/\c<2:=⟨f/2,f %2,by omega,by omega⟩;subst hf;have e1:(2*q+c)*H=q*(2*H)+c*H:=by rw[mI];congr 1;ac_rfl
 rw[mI,nE]at h2;rw[e1]at h1 h2⊢;have uB:c=0\/c=1:=by omega
 have dv:v/(2*H)=q:=by
  refine pQ ?_ ?_
  ·exact lg (Nat.le_add_right _ _) h1
  ·rw[mI,nE];rcases uB with rfl|rfl<;>omega
 have dm:v %(2*H)=v-q*(2*H):=by
  have:=Nat.div_add_mod' v (2*H);rw[dv]at this;omega
 unfold FI;rw[dv,dm];generalize q*(2*H)=Z at*;rw[show(2*q+c)/2=q by omega,show(2*q+c) %2=c by omega];rcases uB with rfl|rfl
 ·rw[lL (by omega),lL (by omega)]
 ·rw[nE]at h1 h2⊢;by_cases hv:v=Z+H
  ·by_cases hq:q %2=1
   ·rw[lQ (by omega),lQ ⟨rfl,.inr hq⟩]
   ·rw[lL (by omega),lL (by omega)]
  ·rw[lQ (by omega),lQ ⟨rfl,.inl hv⟩]
theorem MI {A:Nat->Nat} :∀m n,num A (n+m)=num A n*10^m+nT A n m
 |0,n=>by simp[nT]
 |m+1,n=>by
  rw[<-oX,num,MI m n,KJ,mI,l9,l5,oX]
theorem MQ {A:Nat->Nat} :∀n i,nT A i n=0->∀j,j<n->A (i+j)<=48
 |0,_,_,j,hj=>by omega
 |n+1,i,h,j,hj=>by
  rw[KJ]at h;have h1:nT A i n=0:=by omega
  by_cases e:j=n
  ·subst e;omega
  ·exact MQ n i h1 j (by omega)
theorem gO {P v:Nat} {Q:Int} {s:Cm}(g:Gd s) (sC:s.A (s.nd-1)≠48) (hi:Inv P Q v s (Q+1)) (hP:100000<=P) (c1: -50000<=s.dp) (c2:s.dp<=20) (hQ:0<=Q+P) (hv:v<=9007199254740992*(2*(10^P*2^(Q+P).toNat))):
 EG s.A s.nd s.tr s.dp=FI v (2*(10^P*2^(Q+P).toNat)):=by
 obtain⟨H,hH⟩:∃H,H=10^P*2^(Q+P).toNat:=⟨_,rfl⟩;have hth:=hi.th;have hle:=hi.le;have vd:=hi.tr;have H0:0<H:=by rw[hH];exact mx (oe (by decide)) (lj _)
 obtain⟨w,hw⟩:∃w,w=wN P s (Q+1):=⟨_,rfl⟩;rw[<-hw]at hth hle vd;rw[<-hH]at hth hv⊢;have b1:=GN s.nd (fun i hi=>(g.Ca i hi).2);have g0:=g.pos;have gle:=g.le;have ew:w=num s.A s.nd*10^(s.dp-s.nd+P).toNat*(2*2^(Q+P).toNat):=by
  rw[hw];unfold wN;rw[show(Q+1+P).toNat=(Q+P).toNat+1 by omega,l9,mR 2]
 have key:∃f,f*H<=w/\w<(f+1)*H/\f/2=A8 s.A s.nd s.dp.toNat/\
  E7 s.A s.nd s.tr s.dp=decide (f %2=1/\(w≠f*H\/s.tr=true\/f/2 %2=1)):=by
  by_cases hneg:s.dp<0
  ·refine⟨0,by omega,?_,?_,?_⟩
   ·rw[me,nE,ew,hH];have x1:10^P=10^(-s.dp).toNat*(10^s.nd*10^(s.dp-s.nd+P).toNat):=by rw[<-lW,<-lW];congr 1;omega
    have x2:10<=10^(-s.dp).toNat:=by
     have:=lX (n:=10) (by decide) (show 1<=(-s.dp).toNat by omega);omega
    rw[x1];generalize 10^(s.dp-s.nd+P).toNat=Z at*;generalize 2^(Q+P).toNat=Y at*;rcases mh Z with hz|hz
    ·rw[hz]at x1;have:=oe (n:=P) (show 0<10 by decide);omega
    have hY:0<Y:=by
     rcases mh Y with h|h
     ·rw[h,Nat.mul_zero]at hH;omega
     ·exact h
    calc num s.A s.nd*Z*(2*Y)<10^s.nd*Z*(2*Y):=mA (mA b1 hz) (by omega)
     _=2*(10^s.nd*Z)*Y:=by ac_rfl
     _<=10^(-s.dp).toNat*(10^s.nd*Z)*Y:=lV _ (lV _ (by omega))
   ·rw[show s.dp.toNat=0 by omega];rfl
   ·unfold E7;rw[lQ (.inl hneg)];simp
  ·obtain⟨d,hd⟩:∃d:Nat,s.dp=d:=⟨s.dp.toNat,by omega⟩;rw[hd];rw[hd]at ew;by_cases uj:s.nd<=d
   ·obtain⟨m,rfl⟩:∃m,d=s.nd+m:=⟨d-s.nd,by omega⟩;have ew2:w=2*(num s.A s.nd*10^m)*H:=by
     rw[ew,hH,show((((s.nd+m:Nat):Int)-s.nd)+P).toNat=m+P by omega,lW];generalize(10:Nat)^P=Z
     ac_rfl
    refine⟨2*(num s.A s.nd*10^m),pR ew2.symm,?_,?_,?_⟩
    ·rw[ew2,mI];omega
    ·rw[mB,Mv];omega
    ·unfold E7;rw[lQ (.inr (by omega))];simp
   ·obtain⟨m,hm⟩:∃m,s.nd=d+1+m:=⟨s.nd-d-1,by omega⟩;have rr:d<s.nd:=by omega
    have dd:=g.Ca d rr;obtain⟨F,hF⟩:∃F,F=num s.A d:=⟨_,rfl⟩;obtain⟨R,hR⟩:∃R,R=nT s.A (d+1) m:=⟨_,rfl⟩;have hRl:R<10^m:=by rw[hR];exact XM m (d+1) (fun j h1 h2=>(g.Ca j (by omega)).2)
    obtain⟨a,ha⟩:∃a,s.A d=48+a:=⟨s.A d-48,by omega⟩;have zM:num s.A s.nd=(F*10+a)*10^m+R:=by
     rw[hm,MI,num,<-hF,<-hR,ha];congr 2;omega
    have hX:H*2=10*10^m*(10^(((d:Nat):Int)-s.nd+P).toNat*(2*2^(Q+P).toNat)):=by
     have x1:10^P=10*10^m*10^(((d:Nat):Int)-s.nd+P).toNat:=by
      rw[mR 10 (10^m),<-l9,<-lW];congr 1;omega
     rw[hH,x1]
     ac_rfl
    obtain⟨Z,hZ⟩:∃Z,Z=10^(((d:Nat):Int)-s.nd+P).toNat*(2*2^(Q+P).toNat):=⟨_,rfl⟩;rw[<-hZ]at hX;have Z0:0<Z:=by
     rcases mh Z with h|h
     ·rw[h,Nat.mul_zero]at hX;omega
     ·exact h
    have ew3:w=num s.A s.nd*Z:=by rw[ew,hZ];ac_rfl
    have xj:H=5*(10^m*Z):=by
     have:10*10^m*Z=10*(10^m*Z):=by ac_rfl
     omega
    have hRZ:R*Z<10^m*Z:=mA hRl Z0;have ew4:w=F*(2*H)+(a*(10^m*Z)+R*Z):=by
     rw[ew3,zM,xj,mI,mI,mI,oX];congr 1
     ·have:F*(2*(5*(10^m*Z)))=F*10*(10^m*Z):=by
       rw[<-l5 2,l5 F]
      rw[this,l5]
     ·rw[l5]
    have e2:(2*F)*H=F*(2*H):=by ac_rfl
    have hsr:E7 s.A s.nd s.tr d=if a=5/\d+1=s.nd then(s.tr||decide (F %2=1))else decide (5<=a):=by
     unfold E7;rw[lL (by omega),mB];have q1:(s.A d=53/\d+1=s.nd)↔(a=5/\d+1=s.nd):=by rw[ha];omega
     have q2:decide (53<=s.A d)=decide (5<=a):=by rw[ha];congr 1;rw[eq_iff_iff];omega
     have q3:(decide (0<d)&&decide ((s.A (d-1)-48) %2≠0))=decide (F %2=1):=by
      rcases mh d with h|h
      ·subst h;rw[hF];simp[num]
      ·obtain⟨d',rfl⟩:∃d',d=d'+1:=⟨d-1,by omega⟩;rw[hF,num,nx,<-Bool.decide_and];congr 1;rw[eq_iff_iff];omega
     rw[q2,q3];simp only[q1]
    have hR0:R=0↔m=0:=by
     constructor
     ·intro h;rcases mh m with h2|h2
      ·exact h2
      ·exfalso;rw[hR]at h;have:=MQ m (d+1) h (m-1) (by omega);have dl:=g.Ca (s.nd-1) (by omega);rw[show d+1+(m-1)=s.nd-1 by omega]at this;omega
     ·intro h;rw[h]at hRl;omega
    rw[mB,M7 d (by omega),<-hF,hsr];generalize 10^m*Z=T at*;by_cases h5:5<=a
    ·refine⟨2*F+1,?_,?_,by omega,?_⟩
     ·rw[mI,e2,nE,ew4,xj];have:=lV T h5;omega
     ·have:=lV T (show a<=9 by omega);rw[show 2*F+1+1=2*F+2 by omega,mI,e2,ew4];omega
     ·have eH:w=(2*F+1)*H↔(a=5/\d+1=s.nd):=by
       rw[mI,e2,nE,ew4];constructor
       ·intro h;have h6:a*T+R*Z=H:=by omega
        have ha5:a=5:=by
         apply mM;intro qP;have:=lV T (show 6<=a by omega);omega
        subst ha5;have:R*Z=0:=by omega
        rcases Nat.mul_eq_zero.1 this with h|h
        ·have:=hR0.1 h;exact⟨rfl,by omega⟩
        ·omega
       ·rintro⟨rfl,h⟩;have:R=0:=hR0.2 (by omega);rw[this,oH];omega
      rw[show(2*F+1) %2=1 by omega,show(2*F+1)/2=F by omega];by_cases hx:a=5/\d+1=s.nd
      ·rw[lQ hx];have:=eH.2 hx;simp only[this,ne_eq,not_true_eq_false,false_or,true_and];cases s.tr<;>simp
      ·rw[lL hx,lU h5];have:w≠(2*F+1)*H:=fun h=>hx (eH.1 h);simp[this]
    ·refine⟨2*F,?_,?_,by omega,?_⟩
     ·rw[e2,ew4];omega
     ·rw[mI,e2,nE,ew4,xj];have:=lV T (show a<=4 by omega);omega
     ·rw[lL (by omega),lO h5];simp
 obtain⟨f,f1,f2,f3,f4⟩:=key;have v1:f*H<=v:=lg f1 hle;have v2:v<(f+1)*H:=by
  apply mM;intro h;have:=hth (f+1) (by omega);omega
 have hb:(v≠f*H)↔(w≠f*H\/s.tr=true):=by
  rw[vd];simp only[mL];omega
 have hs:(E7 s.A s.nd s.tr s.dp=true)↔(f %2=1/\(v≠f*H\/f/2 %2=1)):=by
  rw[f4,mL,hb,or_assoc]
 have fin:(A8 s.A s.nd s.dp.toNat+(if E7 s.A s.nd s.tr s.dp then 1 else 0))=FI v (2*H):=by
  rw[Vl H0 v1 v2,<-f3];by_cases h:E7 s.A s.nd s.tr s.dp=true
  ·rw[lQ h,lQ (hs.1 h)]
  ·rw[lL h,lL (fun h2=>h (hs.2 h2)),nK]
 have hr:FI v (2*H)<18446744073709551616:=by
  have:v/(2*H)<=9007199254740992:=by
   rw[<-Nat.lt_succ_iff,mY (by omega)];exact mG hv (by omega)
  unfold FI;split<;>omega
 unfold EG;rw[lL (by omega),fin,mv hr]
end Go.Pf
end
section
namespace Go.Pf
theorem WI {a b q:Nat}(hb:0<b) (h:a<q*b):FI a b<=q:=by
 have:a/b<q:=(mY hb).2 h;unfold FI;split<;>omega
theorem cl:Dg 0 1024=AW:=by
 rw[GG];have:(1024+1023:Int).toNat=2047:=by decide
 rw[this,Nat.zero_mod,me];rfl
theorem iD:Dg 0 (-1023)=0:=by
 rw[GG];have:(-1023+1023:Int).toNat=0:=by decide
 rw[this,Nat.zero_mod,me,oH]
def TB:Nat:=310
theorem cy:2^TA<=10^TB:=n7 (by kernel_rfl)
def TC:Nat:=331
theorem ad:2^(1+KE)<=10^TC:=n7 (by kernel_rfl)
theorem Yh {s:Cm}(g:Gd s):10^(s.nd-1)<=num s.A s.nd:=by
 have:=Ev g.lead (s.nd-1);rw[show s.nd-1+1=s.nd by have:=g.pos;omega]at this;exact this
theorem Fl.scaled {P v:Nat} {e3:Int}(h0:0<=e3-53+P) (h1: -1022<=e3) (hl:e3= -1022\/4503599627370496*(2*(10^P*2^(e3-53+P).toNat))<=v) (hh:v<9007199254740992*(2*(10^P*2^(e3-53+P).toNat))):
 Jv v (10^P*2^P) ((e3+1022).toNat*4503599627370496+FI v (2*(10^P*2^(e3-53+P).toNat))):=by
 obtain⟨U,hU⟩:∃U,U=2*(10^P*2^(e3-53+P).toNat):=⟨_,rfl⟩;have U0:0<U:=by rw[hU];exact mx (by decide) (mx (oe (by decide)) (lj _))
 rw[<-hU]at hl hh⊢;have hK:=Vg;have e1:10^P*2^P*2^(e3+1022).toNat=U*KZ:=by
  have tJ:KZ=2^KE:=rfl;have hKE:=LM;rw[tJ,hU];generalize KE=ke at*;have x:P+(e3+1022).toNat=1+(e3-53+P).toNat+ke:=by omega
  rw[l5,<-lW,x,lW,lW,Nat.pow_one]
  ac_rfl
 unfold Jv;generalize KZ=K at*;refine⟨(e3+1022).toNat,?_,?_,?_⟩
 ·rw[e1];rcases hl with h|h
  ·left;omega
  ·right;rw[<-l5];exact lV _ h
 ·rw[e1,<-l5];exact mA hh hK
 ·rw[e1,ER U0 (mx U0 hK) (show v*(U*K)=v*K*U by ac_rfl)]
theorem fU {s:Cm}(g:Gd s) (h:s.dp<=0){P:Nat}(hP:100000<=P) (h2: -50000<=s.dp):num s.A s.nd*10^(s.dp-s.nd+P).toNat<10^P:=by
 have b1:=GN s.nd (fun i hi=>(g.Ca i hi).2);have gle:=g.le;have h3:10^s.nd*10^(s.dp-s.nd+P).toNat<=10^P:=by
  rw[<-lW];exact lX (by decide) (by omega)
 exact lR (mA b1 (AU _)) h3
theorem YN {s:Cm}(g:Gd s) (h:s.dp=0) (h5:¬s.A 0<53){P:Nat}(hP:100000<=P):10^P<=2*(num s.A s.nd*10^(s.dp-s.nd+P).toNat):=by
 have gle:=g.le;have gp:=g.pos;have e1:=Ef g.pos (fun i hi=>(g.Ca i hi).2);have b:5*10^(s.nd-1)<=num s.A s.nd:=by
  have:=pj (num s.A s.nd) (10^(s.nd-1));rw[e1]at this;have b:=lV (10^(s.nd-1)) (show 5<=s.A 0-48 by omega);omega
 have x:P=s.nd-1+(s.dp-s.nd+P).toNat+1:=by omega
 have e2:10^P=2*(5*10^(s.nd-1)*10^(s.dp-s.nd+P).toNat):=by
  conv=>lhs;rw[x]
  rw[l9,lW,l5 5];omega
 rw[e2];exact mU _ (lV _ b)
theorem gb {s:Cm} {r:Nat×Bool}(g:Gd s) (h4:s.nd<=400) (ht:s.tr=false) (h:FB s r):Fl (num s.A s.nd*10^(s.dp-s.nd).toNat) (10^(s.nd-s.dp).toNat) r.1:=by
 have gp:=g.pos;have nl:=Yh g;have nh:=GN s.nd (fun i hi=>(g.Ca i hi).2);unfold FB at h;by_cases hb:310<s.dp
 ·rw[lQ hb]at h;rw[h];show Fl _ _ (Dg 0 1024);rw[cl];refine Fl.inf (AU _) ?_;refine lg (lV _ cy) ?_;refine lg ?_ (lV _ nl);rw[<-lW,<-lW];exact lX (by decide) (by unfold TB;omega)
 rw[lL hb]at h;by_cases hs:s.dp< -330
 ·rw[lQ hs]at h;rw[h];show Fl _ _ (Dg 0 (-1023));rw[iD];refine Fl.Mw ?_;rw[show(s.dp-s.nd).toNat=0 by omega,nC,nf];have tJ:KZ=2^KE:=rfl;have s10:=ad;rw[lW,Nat.pow_one,<-tJ]at s10;clear tJ;generalize KZ=K at*;have x1:2*(num s.A s.nd*K)=num s.A s.nd*(2*K):=by ac_rfl
  have x2:10^s.nd*10^TC<=10^(s.nd-s.dp).toNat:=by
   rw[<-lW];exact lX (by decide) (by unfold TC;omega)
  rw[x1];refine lR ?_ x2;exact mG (mU _ s10) (mA nh (AU _))
 rw[lL hs]at h;obtain⟨s1,e1,s2,e2,s3,e3,hDn,zy,yy,sV⟩:=h;obtain⟨P,hP⟩:∃P,P=100000:=⟨_,rfl⟩;have yh:100000<=P:=by omega
 obtain⟨v,hv⟩:∃v,v=wN P s 0:=⟨_,rfl⟩;have start:∀Q,Inv P Q v s 0:=fun Q=>Inv.of_eq hv.symm ht
 have he3:e2-1<=e3/\ -1022<=e3:=by
  split at yy
  ·omega
  ·omega
 have mid:Inv P (e3-53) v s2 e2/\Gd s2/\s2.dp<=0/\ -330<=s2.dp/\¬Da s2/\ -20000<=e2/\e2<=e1/\0<=e1:=by
  cases hDn with
  |done h0=>
   have hd:=zy.dp;obtain⟨u1,u2,u3,u4⟩:=zy.len g h0;have hm:=zy.mono;unfold dI at u1;obtain⟨x1,x2⟩:=zy.exact (P:=P) g ht h0 (by omega) (by omega) (by omega) yh;exact⟨Inv.of_eq (x1.trans hv.symm) x2,u4,u2,by omega,u3,by omega,hm,by omega⟩
  |step h0 r c=>
   have hDn:Dn s 0 s1 e1:= .step h0 r c;have rK:=hDn.mono;obtain⟨g1,_,p1,p2⟩:=hDn.inv g (start (e1+1000)) (by omega) (by omega) (by omega) (by omega) (by omega) yh;have hd:=zy.dp;obtain⟨u1,u2,u3,u4⟩:=zy.len g1 p1;have hm:=zy.mono;unfold dI at u1;have c3:310+e1<=800+(e3-53):=by omega
   obtain⟨_,i1,_,_⟩:=hDn.inv g (start (e3-53)) (by omega) (by omega) c3 (by omega) (by omega) yh;have i2:=zy.inv g1 i1 p1 (by omega) (by omega) (by omega) (by omega) yh;exact⟨i2,u4,u2,by omega,u3,by omega,hm,rK⟩
 obtain⟨i2,g2,d2,d2',ns,e2l,e21,ym⟩:=mid;have low:Inv P (e3-53) v s3 (e3+1)/\Gd s3/\s3.dp<=0/\ -50000<=s3.dp/\(e3= -1022\/4503599627370496*(2*(10^P*2^(e3-53+P).toNat))<=v):=by
  split at yy
  ·obtain⟨c,rfl⟩:=yy;obtain⟨a1,a2,a3,a4⟩:=c.inv g2 i2 (by omega) (by omega) (by omega) (by omega) (by omega) yh;rw[show e2+((-1022-(e2-1)).toNat:Nat)= -1022+1 by omega]at a2;exact⟨a2,a1,by omega,a4,.inl rfl⟩
  ·obtain⟨rfl,rfl⟩:=yy;rw[show e2-1+1=e2 by omega];refine⟨i2,g2,d2,by omega,.inr (lg ?_ i2.le)⟩;unfold Da at ns;have hz:s3.dp=0:=by omega
   have h5:¬s3.A 0<53:=fun h=>ns (.inr ⟨hz,h⟩);have vh:=YN g2 hz h5 yh;unfold wN;have x:(e2+P).toNat=54+(e2-1-53+P).toNat:=by omega
   rw[x,lW];have p:(4503599627370496:Nat)=2^52:=by decide
   have p2:(2:Nat)^54=2^52*2*2:=by decide
   rw[p,p2];generalize(2:Nat)^52=Z;have e:num s3.A s3.nd*10^(s3.dp-s3.nd+P).toNat*(Z*2*2*2^(e2-1-53+P).toNat)=2*(num s3.A s3.nd*10^(s3.dp-s3.nd+P).toNat)*(Z*(2*2^(e2-1-53+P).toNat)):=by ac_rfl
   rw[e];refine lg (pR ?_) (lV _ vh)
   ac_rfl
 obtain⟨i3,g3,d3,d3',zH⟩:=low;have hhi:v<9007199254740992*(2*(10^P*2^(e3-53+P).toNat)):=by
  apply mM;intro hn;have:=i3.th 18014398509481984 (by omega);have vu:=fU g3 d3 yh d3';unfold wN at this;have x:(e3+1+P).toNat=54+(e3-53+P).toNat:=by omega
  rw[x,lW]at this;have p:(18014398509481984:Nat)=2^54:=by decide
  rw[p]at this;have hz:0<2^54*2^(e3-53+P).toNat:=mx (lj _) (lj _);have:=mG this (mA vu hz);generalize(2:Nat)^54=Z at this;have e:10^P*(Z*2^(e3-53+P).toNat)=Z*(10^P*2^(e3-53+P).toNat):=by ac_rfl
  omega
 have hR:=Fl.scaled (by omega) he3.2 zH hhi;have U0:0<2*(10^P*2^(e3-53+P).toNat):=mx (by decide) (mx (AU _) (lj _));have fin:r.1=min ((e3+1022).toNat*4503599627370496+FI v (2*(10^P*2^(e3-53+P).toNat))) AW:=by
  have m1:=WI U0 hhi;have m2:4503599627370496<=FI v (2*(10^P*2^(e3-53+P).toNat))\/e3= -1022:=by
   rcases zH with h|h
   ·exact .inr h
   ·exact .inl (RD _ _ _ U0 h)
  by_cases ho:2047<=e3+1023
  ·rw[lQ ho]at sV;rw[sV];show Dg 0 1024=_;rw[cl,Nat.min_eq_right];unfold AW;omega
  ·rw[lL ho]at sV;obtain⟨s4,l4,hr4⟩:=sV;obtain⟨st,D,q1,q2,_⟩:=l4.Bj (P:=P) (e:=e3+1) g3.le yh d3' (by omega);have i4:=i3.step st (by omega) (by omega) (by omega) (by omega) (by omega) yh;have sC:s4.A (s4.nd-1)≠48:=by obtain⟨W,_,_,_,h,_⟩:=l4;exact h
   rw[show e3+1-((53:Nat):Int)=e3-53+1 by omega]at i4;have rk:=gO l4.gd sC i4 yh (by omega) (by omega) (by omega) (mW hhi);rw[hr4,rk];exact QL _ _ m1 he3.2 (by omega) m2
 rw[fin];refine Fl.ratio (N:=v) (D:=10^P*2^P) (mx (AU _) (lj _)) (AU _) ?_ ⟨_,hR,rfl⟩;rw[hv];unfold wN;have x:(s.dp-s.nd+P).toNat+(s.nd-s.dp).toNat=(s.dp-s.nd).toNat+P:=by omega
 rw[show((0:Int)+P).toNat=P by omega]
 calc num s.A s.nd*10^(s.dp-s.nd+P).toNat*2^P*10^(s.nd-s.dp).toNat=num s.A s.nd*10^((s.dp-s.nd+P).toNat+(s.nd-s.dp).toNat)*2^P:=by rw[lW];ac_rfl
  _=num s.A s.nd*10^(s.dp-s.nd).toNat*(10^P*2^P):=by rw[x,lW];ac_rfl
end Go.Pf
end
section
namespace Go.Pf
def DY (t:Cm) (c:Nat):Cm:=
 if c=46 then {t with dp:=t.nd}
 else if c=48/\t.nd=0 then {t with dp:=t.dp-1}
 else if t.nd<800 then {t with A:=SP t.A t.nd c,nd:=t.nd+1}
 else {t with tr:=t.tr||(c !=48)}
def By (s:ByteArray):Nat->Cm
 |0=>⟨fun _=>0,0,0,false⟩
 |k+1=>DY (By s k) (byte s k)
structure Km (t:Cm) (k:Nat):Prop where
 n8:t.nd<=800
 nk:t.nd<=k
 Ca:∀i,i<t.nd->48<=t.A i/\t.A i<=57
 lead:0<t.nd->49<=t.A 0
 lo: -(k:Int)<=t.dp
 hi:t.dp<=800
 b8:∀i,t.A i<256
theorem Km.zero:Km ⟨fun _=>0,0,0,false⟩ 0:=⟨by decide,by decide,fun i h=>absurd h (by simp),fun h=>absurd h (by simp),by decide,by decide,fun _=>by simp⟩
theorem Km.step {t:Cm} {k:Nat}(h:Km t k){c:Nat}(hc:c=46\/(48<=c/\c<=57)):Km (DY t c) (k+1):=by
 have a1:=h.n8;have a2:=h.nk;have a5:=h.lo;have a6:=h.hi;unfold DY;split
 ·exact⟨a1,by simp only;omega,h.Ca,h.lead,by simp only;omega,by simp only;omega,h.b8⟩
 split
 ·exact⟨a1,by simp only;omega,h.Ca,h.lead,by simp only;omega,by simp only;omega,h.b8⟩
 split
 ·rename_i h1 h2 h3;refine⟨by simp only;omega,by simp only;omega,?_,?_,by simp only;omega,by simp only;omega,?_⟩
  ·intro i hi;simp only at hi⊢;by_cases e:i=t.nd
   ·subst e;rw[Cn];omega
   ·rw[Bm e];exact h.Ca i (by omega)
  ·intro _;simp only;by_cases e:t.nd=0
   ·rw[e,Cn];omega
   ·rw[Bm (by omega)];exact h.lead (by omega)
  ·intro i;simp only;by_cases e:i=t.nd
   ·subst e;rw[Cn];omega
   ·rw[Bm e];exact h.b8 i
 ·exact⟨a1,by simp only;omega,h.Ca,h.lead,by simp only;omega,by simp only;omega,h.b8⟩
theorem DW.YM {s:ByteArray} {p q f:Nat} {sg:Int}(h:DW s p q f sg):∀k,k<=q->Km (By s k) k
 |0,_=>Km.zero
 |k+1,hk=>by
  refine(h.YM k (by omega)).step ?_;by_cases hp:k=p
  ·subst hp;exact .inl h.dot
  ·exact .inr (h.Ca k (by omega) hp)
end Go.Pf
end
section
namespace Go.Pf
def Fb (s:ByteArray):Nat->Nat
 |0=>0
 |k+1=>if byte s k=46 then Fb s k else Fb s k*10+(byte s k-48)
structure lH (s:ByteArray) (p:Nat) (r:RF) (k:Nat):Prop where
 Dx:r.N0=min r.nd 19
 val:∃rest,Fb s k=r.DT*10^(r.nd-r.N0)+rest/\rest<10^(r.nd-r.N0)/\(r.GV=false->rest=0)
 low:r.nd=0->Fb s k=0
 pos:0<r.nd->0<r.DT
 dp:p<k->r.dp=r.nd-((k:Int)-p-1)
 dp0:k<=p->r.dp<=0
theorem DW.j5 {s:ByteArray} {p q f:Nat} {sg:Int}(h:DW s p q f sg):∀k,k<=q->lH s p (rf s k) k
 |0,_=>⟨by simp[rf],⟨0,by simp[rf,Fb]⟩,fun _=>rfl,fun h=>absurd h (by simp[rf]),fun h=>by omega,fun _=>by simp[rf]⟩
 |k+1,hk=>by
  have ih:=h.j5 k (by omega);have EM:=h.Ca k (by omega);have xg:=h.dot;obtain⟨i1,⟨rest,v1,v2,v3⟩,i3,i4,i5,i6⟩:=ih;rw[rf];obtain⟨r,hr⟩:∃r,r=rf s k:=⟨_,rfl⟩;rw[<-hr]at i1 v1 v2 v3 i3 i4 i5 i6⊢;clear hr;by_cases hp:k=p
  ·subst hp;unfold Ed;rw[lQ xg];have e:Fb s (k+1)=Fb s k:=by rw[Fb,lQ xg]
   exact⟨i1,⟨rest,by rw[e];exact v1,v2,v3⟩,fun h=>by rw[e];exact i3 h,i4,fun _=>by simp only;omega,fun h=>by omega⟩
  ·have hd:=EM hp;have qP:byte s k≠46:=by omega
   have e:Fb s (k+1)=Fb s k*10+(byte s k-48):=by rw[Fb,lL qP]
   unfold Ed;rw[lL qP];by_cases hz:byte s k=48/\r.nd=0
   ·rw[lQ hz];have e0:Fb s (k+1)=0:=by rw[e,i3 hz.2,hz.1]
    have hm:r.nd-r.N0=0:=by omega
    refine⟨i1,⟨rest,?_,v2,v3⟩,fun _=>e0,i4,fun hk=> ?_,fun hk=> ?_⟩
    ·have:=i3 hz.2;rw[e0];rw[this]at v1;exact v1
    ·simp only;have:=i5 (by omega);omega
    ·simp only;have:=i6 (by omega);omega
   ·rw[lL hz];by_cases hn:r.N0<19
    ·rw[lQ hn];have hm:r.nd-r.N0=0:=by omega
     rw[hm]at v1 v2;have r0:rest=0:=by simpa using v2
     subst r0;refine⟨by simp only;omega,⟨0,?_,?_,fun _=>rfl⟩,fun h=>by simp at h,fun _=> ?_,fun hk=> ?_,fun hk=> ?_⟩
     ·simp only;rw[show r.nd+1-(r.N0+1)=0 by omega,e,v1];simp
     ·exact oe (by decide)
     ·simp only;rcases mh r.nd with h0|h0
      ·have:byte s k≠48:=fun h=>hz ⟨h,h0⟩;omega
      ·have:=i4 h0;omega
     ·simp only;have:=i5 (by omega);omega
     ·simp only;exact i6 (by omega)
    ·rw[lL hn];have hx:r.nd+1-r.N0=r.nd-r.N0+1:=by omega
     refine⟨by simp only;omega,⟨rest*10+(byte s k-48),?_,?_,?_⟩,fun h=>by simp at h,fun _=>i4 (by omega),fun hk=> ?_,fun hk=> ?_⟩
     ·simp only;rw[e,v1,hx,l9,<-l5];omega
     ·simp only;rw[hx,l9];omega
     ·simp only;intro ht;have t1:r.GV=false:=by cases h:r.GV<;>rw[h]at ht<;>simp at ht⊢
      have t2:byte s k=48:=by rw[t1]at ht;simpa using ht
      rw[v3 t1,t2]
     ·simp only;have:=i5 (by omega);omega
     ·simp only;exact i6 (by omega)
structure lB (s:ByteArray) (p:Nat) (t:Cm) (k:Nat):Prop where
 tr:t.tr=false
 nd:t.nd<=k-(if p<k then 1 else 0)
 val:num t.A t.nd=Fb s k
 low:t.nd=0->Fb s k=0
 dp:p<k->t.dp=t.nd-((k:Int)-p-1)
theorem DW.kX {s:ByteArray} {p q f:Nat} {sg:Int}(h:DW s p q f sg) (hq:q<=801):∀k,k<=q->lB s p (By s k) k
 |0,_=>⟨rfl,by simp[By],by simp[By,num,Fb],fun _=>rfl,fun h=>by omega⟩
 |k+1,hk=>by
  have ih:=h.kX hq k (by omega);have EM:=h.Ca k (by omega);have xg:=h.dot;obtain⟨i1,i2,i3,i4,i5⟩:=ih;have pq:=h.pq;rw[By];obtain⟨t,ht⟩:∃t,t=By s k:=⟨_,rfl⟩;rw[<-ht]at i1 i2 i3 i4 i5⊢;clear ht;by_cases hp:k=p
  ·subst hp;unfold DY;rw[lQ xg];have e:Fb s (k+1)=Fb s k:=by rw[Fb,lQ xg]
   rw[lL (by omega)]at i2;exact⟨i1,by simp only;rw[lQ (by omega)];omega,by rw[e];exact i3,fun h=>by rw[e];exact i4 h,fun _=>by simp only;omega⟩
  ·have hd:=EM hp;have qP:byte s k≠46:=by omega
   have e:Fb s (k+1)=Fb s k*10+(byte s k-48):=by rw[Fb,lL qP]
   unfold DY;rw[lL qP];have i2':t.nd+(if p<k+1 then 1 else 0)<=k:=by
    by_cases hh:p<k
    ·rw[lQ hh]at i2;rw[lQ (by omega)];omega
    ·rw[lL hh]at i2;rw[lL (by omega)];omega
   by_cases hz:byte s k=48/\t.nd=0
   ·rw[lQ hz];have e0:Fb s (k+1)=0:=by rw[e,i4 hz.2,hz.1]
    refine⟨i1,by simp only;omega,?_,fun _=>e0,fun hk=> ?_⟩
    ·simp only;rw[i3,e0,i4 hz.2]
    ·simp only;have:=i5 (by omega);omega
   ·rw[lL hz];have qE:t.nd<800:=by
     by_cases hh:p<k
     ·rw[lQ (by omega)]at i2';omega
     ·have:k<p:=by omega
      omega
    rw[lQ qE];refine⟨i1,by simp only;omega,?_,fun h=>by simp at h,fun hk=> ?_⟩
    ·simp only;rw[num,Cn,JQ (A':=t.A) t.nd (fun i hi=>Bm (by omega)),i3,e]
    ·simp only;have:=i5 (by omega);omega
theorem DW.je {s:ByteArray} {p q f:Nat} {sg:Int}(h:DW s p q f sg):∀k,k<=q->((By s k).nd=min (rf s k).nd 800/\((By s k).dp=(rf s k).dp\/(By s k).dp=800/\800<=(rf s k).nd))
 |0,_=>⟨by simp[By,rf],.inl rfl⟩
 |k+1,hk=>by
  obtain⟨i1,i2⟩:=h.je k (by omega);have EM:=h.Ca k (by omega);rw[By,rf];obtain⟨t,ht⟩:∃t,t=By s k:=⟨_,rfl⟩;obtain⟨r,hr⟩:∃r,r=rf s k:=⟨_,rfl⟩;rw[<-ht,<-hr]at i1 i2⊢;clear ht hr;unfold DY Ed;by_cases rZ:byte s k=46
  ·rw[lQ rZ,lQ rZ];refine⟨i1,?_⟩;simp only;omega
  ·rw[lL rZ,lL rZ];by_cases hz:byte s k=48/\r.nd=0
   ·rw[lQ hz,lQ ⟨hz.1,by omega⟩];refine⟨i1,?_⟩;simp only;omega
   ·rw[lL hz,lL (fun hh=>hz ⟨hh.1,by omega⟩)];by_cases h8:t.nd<800
    ·rw[lQ h8];split<;>exact⟨by simp only;omega,by simp only;omega⟩
    ·rw[lL h8];split<;>exact⟨by simp only;omega,by simp only;omega⟩
end Go.Pf
end
section
namespace Go.Pf
open Ieee
def mg (b:Nat):Nat:=if b<4503599627370496 then b else 4503599627370496+b %4503599627370496
def pe (b:Nat):Nat:=b/4503599627370496-1
def bv (b:Nat):Nat:=mg b*2^pe b
theorem Fu:double.binade=4503599627370496:=by decide
theorem IK:double.infRung=9218868437227405312:=by decide
theorem XA:double.signWeight=9223372036854775808:=by decide
theorem Gc:double.leastPlace= -1074:=by decide
theorem Kj:double.fractionBits=52:=rfl
theorem Bk (b:Nat) (h:b<AW):double.read b= .number false (mg b) (-1074+(pe b:Nat)):=by
 unfold AW at h;unfold Format.read;have e1:b %9223372036854775808=b:=mv (by omega);have e2:b/9223372036854775808=0:=nJ (by omega);simp only[Fu,IK,XA,Gc,e1,e2];unfold mg pe;by_cases hs:b<4503599627370496
 ·rw[lQ hs,lQ hs,nJ hs];rfl
 ·rw[lL hs,lL hs,lQ h];rfl
theorem GM:double.read AW= .infinity false:=by decide
theorem Sv (b:Nat):mg b<9007199254740992:=by unfold mg;split<;>omega
theorem So {a b:Nat}(h:a<b):bv a<bv b:=by
 unfold bv mg pe;obtain⟨qa,ra,ha,hra⟩:∃q r,a=q*4503599627370496+r/\r<4503599627370496:=⟨a/4503599627370496,a %4503599627370496,by omega,by omega⟩;obtain⟨qb,rb,hb,hrb⟩:∃q r,b=q*4503599627370496+r/\r<4503599627370496:=⟨b/4503599627370496,b %4503599627370496,by omega,by omega⟩;have e1:a/4503599627370496=qa:=by omega
 have e2:a %4503599627370496=ra:=by omega
 have e3:b/4503599627370496=qb:=by omega
 have e4:b %4503599627370496=rb:=by omega
 rw[e1,e2,e3,e4];by_cases h1:b<4503599627370496
 ·rw[lQ h1,lQ (by omega)];have z1:qa=0:=by omega
  have z2:qb=0:=by omega
  rw[z1,z2,Nat.zero_sub,nC,nf,nf];exact h
 ·rw[lL h1];by_cases h2:a<4503599627370496
  ·rw[lQ h2];have z1:qa=0:=by omega
   rw[z1];have:1<=2^(qb-1):=lj _;have:=mU (4503599627370496+rb) this;rw[Nat.zero_sub,nC];omega
  ·rw[lL h2];by_cases h3:qa=qb
   ·subst h3;exact mA (by omega) (lj _)
   ·have h4:(2:Nat)^(qa-1)*2<=2^(qb-1):=by rw[<-l9];exact lX (by decide) (by omega)
    have h5:=mU (4503599627370496+rb) h4;have h6:(4503599627370496+ra)*2^(qa-1)<(4503599627370496+rb)*(2^(qa-1)*2):=by
     rw[mR (2^(qa-1)) 2,<-l5];exact mA (by omega) (lj _)
    omega
theorem JC {a b:Nat}(ha:a<AW) (hb:b<AW):double.order a b=some (compare a b):=by
 unfold Format.order;rw[Bk a ha,Bk b hb];show some (compare _ _)=_;congr 1;obtain⟨k,hk⟩:∃k:Nat,min (-1074+((pe a:Nat):Int)) (-1074+((pe b:Nat):Int))= -1074+(k:Int)/\k<=pe a/\k<=pe b:=⟨min (pe a) (pe b),by omega,by omega,by omega⟩;obtain⟨hk,k1,k2⟩:=hk;rw[hk];have e1:(-1074+((pe a:Nat):Int)-(-1074+(k:Int))).toNat=pe a-k:=by omega
 have e2:(-1074+((pe b:Nat):Int)-(-1074+(k:Int))).toNat=pe b-k:=by omega
 rw[e1,e2];unfold signed;simp only[Bool.false_eq_true,if_false,Nat.shiftLeft_eq];have f1:mg a*2^(pe a-k)*2^k=bv a:=by unfold bv;rw[l5,<-lW];congr 2;omega
 have f2:mg b*2^(pe b-k)*2^k=bv b:=by unfold bv;rw[l5,<-lW];congr 2;omega
 have p:=lj k;rcases Nat.lt_trichotomy a b with h|h|h
 ·have h1:=So h;rw[<-f1,<-f2]at h1;have h2:=mc h1;rw[Nat.compare_eq_lt.2 h,Int.compare_eq_lt.2 (by omega)]
 ·subst h;rw[Nat.compare_eq_eq.2 rfl,Int.compare_eq_eq.2 rfl]
 ·have h1:=So h;rw[<-f1,<-f2]at h1;have h2:=mc h1;rw[Nat.compare_eq_gt.2 h,Int.compare_eq_gt.2 (by omega)]
theorem XI {a b:Nat}(ha:a<=AW) (hb:b<=AW):(double.order a b==some .eq)=decide (a=b):=by
 by_cases h1:a<AW
 ·by_cases h2:b<AW
  ·rw[JC h1 h2];by_cases h:a=b
   ·subst h;rw[Nat.compare_eq_eq.2 rfl];simp
   ·rcases Nat.lt_or_gt_of_ne h with h'|h'
    ·rw[Nat.compare_eq_lt.2 h'];simp[h]
    ·rw[Nat.compare_eq_gt.2 h'];simp[h]
  ·obtain rfl:b=AW:=by omega
   unfold Format.order;rw[Bk a h1,GM];rw[lO (by omega)];rfl
 ·obtain rfl:a=AW:=by omega
  by_cases h2:b<AW
  ·unfold Format.order;rw[Bk b h2,GM];rw[lO (by omega)];rfl
  ·obtain rfl:b=AW:=by omega
   unfold Format.order;rw[GM];rw[lU rfl];rfl
theorem Pm (neg:Bool) (n k:Nat) (h:k<=n.log2+2):Toward.even.cut neg n k=FI n (2^k):=by
 unfold Toward.cut;simp only[pM h,Nat.one_shiftLeft];unfold FI;by_cases h1:2^k<2*(n %2^k)\/(2*(n %2^k)=2^k/\n/2^k %2=1)
 ·rw[lQ h1];have:(decide (2^k<2*(n %2^k))||(2^k==2*(n %2^k)&&n/2^k %2==1))=true:=by
   rcases h1 with h|⟨h,h'⟩
   ·simp[h]
   ·simp[h,h']
  rw[this];rfl
 ·rw[lL h1];have:(decide (2^k<2*(n %2^k))||(2^k==2*(n %2^k)&&n/2^k %2==1))=false:=by
   rw[nD];intro hh;simp only[Bool.or_eq_true,mL,mJ,nH]at hh;omega
  rw[this];rfl
theorem Fe (x:Nat):double.word false x=x:=by unfold Format.word;simp
theorem G9 {mag:Nat} {place:Int}(h0:mag≠0) (hn: -1074<=place+mag.log2-52):Fl (mag*2^place.toNat) (2^(-place).toNat) (double.nearest false mag place):=by
 have l1:2^mag.log2<=mag:=Nat.log2_self_le h0;have l2:mag<2^(mag.log2+1):=Nat.lt_log2_self;obtain⟨L,hL⟩:∃L,L=mag.log2:=⟨_,rfl⟩;rw[<-hL]at l1 l2 hn;obtain⟨u,hu⟩:∃u:Nat,place+L-52= -1074+(u:Int):=⟨(place+L-52+1074).toNat,by omega⟩;unfold Format.nearest;rw[lL h0];simp only[Kj,Gc,IK,Fu,<-hL];rw[show max (place+(L:Int)-((52:Nat):Int)) (-1074)= -1074+(u:Int) by omega,show(-1074+(u:Int)- -1074).toNat=u by omega];rw[Fe];obtain⟨a,ha⟩:∃a,a=(place-(-1074+(u:Int))).toNat:=⟨_,rfl⟩;obtain⟨c,hc⟩:∃c,c=(-1074+(u:Int)-place).toNat:=⟨_,rfl⟩;rw[<-ha,<-hc,Nat.shiftLeft_eq];have hac:(a=0/\(c:Int)=L-52)\/(c=0/\(a:Int)=52-L):=by omega
 have hcut:Toward.even.cut false (mag*2^a) c=FI (mag*2^a) (2^c):=by
  refine Pm _ _ _ ?_;rcases hac with⟨h,h'⟩|⟨h,h'⟩
  ·rw[h,nC,nf,<-hL];omega
  ·omega
 rw[hcut];have tJ:KZ=2^KE:=rfl;have hKE:=LM;have eq1:mag*2^place.toNat*KZ*2^c=mag*2^a*(2^(-place).toNat*2^u):=by
  rw[tJ];generalize KE=ke at*;have x:place.toNat+ke+c=a+((-place).toNat+u):=by omega
  calc mag*2^place.toNat*2^ke*2^c=mag*2^(place.toNat+ke+c):=by rw[lW,lW];ac_rfl
   _=mag*2^a*(2^(-place).toNat*2^u):=by rw[x,lW,lW];ac_rfl
 clear tJ;have pc:=lj c;have q1:4503599627370496*2^c<=mag*2^a:=by
  have z7:(4503599627370496:Nat)=2^52:=by decide
  rw[z7,<-lW];refine lg ?_ (lV _ l1);rw[<-lW];exact lX (by decide) (by omega)
 have q2:mag*2^a<9007199254740992*2^c:=by
  have xY:(9007199254740992:Nat)=2^53:=by decide
  rw[xY,<-lW];refine lR (mA l2 (lj a)) ?_;rw[<-lW];exact lX (by decide) (by omega)
 refine⟨_,⟨u,.inr ?_,?_,rfl⟩,?_⟩
 ·refine oM ?_ pc;rw[eq1,oR];exact lV _ q1
 ·refine mc (a:=2^c) ?_;rw[eq1,oR 9007199254740992];exact mA q2 (mx (lj _) (lj _))
 ·rw[ER pc (mx (lj _) (lj _)) eq1.symm];unfold AW
  with_reducible rfl
theorem US {a b q:Nat}(hb:0<b) (h:a=q*b):FI a b=q:=by
 subst h;unfold FI;rw[Nat.mul_mod_left,Nat.mul_div_cancel _ hb,lL (by omega)]
theorem Oi {N r:Nat}(h0:0<N) (h:N<9007199254740992) (hr:Fl N 1 r):r<AW/\bv r=N*KZ/\4503599627370496<=mg r:=by
 obtain⟨b,⟨u,h1,h2,h3⟩,h4⟩:=hr;rw[nE]at h1 h2 h3;have tJ:KZ=2^KE:=rfl;have hKE:=LM;generalize KZ=K at*;generalize KE=ke at*;have xY:(9007199254740992:Nat)=2^53:=by decide
 have z7:(4503599627370496:Nat)=2^52:=by decide
 have k1:1*2^ke<2^(53+u):=by
  rw[lW,<-xY];exact mG (by rw[tJ];exact lV _ h0) h2
 rw[nE]at k1;have k2:=(nP (a:=2) (by decide)).1 k1;have h1':4503599627370496*2^u<=N*K:=by
  rcases h1 with h|h
  ·omega
  ·exact h
 have k3:2^(52+u)<2^(53+ke):=by
  rw[lW,lW,<-xY,<-z7,<-tJ];exact mG h1' (mA h (by rw[tJ];exact lj _))
 have k4:=(nP (a:=2) (by decide)).1 k3;obtain⟨j,hj⟩:∃j,ke=u+j:=⟨ke-u,by omega⟩;have e1:N*K=N*2^j*2^u:=by rw[tJ,hj,lW];ac_rfl
 have e2:=US (lj u) e1;rw[e1]at h2 h1';have m1:=oM h1' (lj u);have m2:=mc h2;rw[e2]at h3;generalize N*2^j=M at*;have hb:b<AW:=by unfold AW;omega
 have hrb:r=b:=by rw[h4];exact pM (mW hb)
 have d1:b/4503599627370496=u+1:=by omega
 have d2:b %4503599627370496=M-4503599627370496:=by omega
 have d3:¬b<4503599627370496:=by omega
 subst hrb;refine⟨hb,?_,?_⟩
 ·unfold bv mg pe;rw[lL d3,d1,d2,e1,show 4503599627370496+(M-4503599627370496)=M by omega,show u+1-1=u by omega]
 ·unfold mg;rw[lL d3];omega
theorem UX {A B k:Nat} {x:Int}(hx:0<=x+k) (h:A*2^(x+k).toNat=B*2^k):A*2^x.toNat=B*2^(-x).toNat:=by
 rcases Int.le_total 0 x with h0|h0
 ·rw[show(-x).toNat=0 by omega,nC,nf];rw[show(x+k).toNat=x.toNat+k by omega,lW,<-l5]at h;exact oo (lj k) h
 ·rw[show x.toNat=0 by omega,nC,nf];have e:2^k=2^(-x).toNat*2^(x+k).toNat:=by rw[<-lW];congr 1;omega
  rw[e,<-l5]at h;exact oo (lj _) h
end Go.Pf
end
section
namespace Go.Pf
open Ieee
theorem Wk {a b a' b':Nat}(hb:0<b) (rF:0<b') (h:a*b'<=a'*b):FI a b<=FI a' b':=by
 have key:∀x y c,0<c->x<=y->FI x c<=FI y c:=by
  intro x y c hc yW;have h1:c*(x/c)+x %c=x:=oD x c;have h2:c*(y/c)+y %c=y:=oD y c;have h3:x/c<=y/c:=Nat.div_le_div_right yW;unfold FI;by_cases e:x/c=y/c
  ·rw[e]at h1⊢;have:x %c<=y %c:=by omega
   split
   ·split
    ·omega
    ·omega
   ·split<;>omega
  ·split<;>split<;>omega
 rw[ER (a':=a*b') (b':=b*b') hb (mx hb rF) (by ac_rfl),ER (a:=a') (a':=a'*b) (b':=b*b') rF (mx hb rF) (by ac_rfl)];exact key _ _ _ (mx hb rF) h
theorem Jv.mono {N D N' D' b b':Nat}(hD:0<D) (hD':0<D') (h:N*D'<=N'*D) (hr:Jv N D b) (hr':Jv N' D' b'):b<=b':=by
 unfold Jv at hr hr';generalize KZ=K at*;obtain⟨u,h1,h2,h3⟩:=hr;obtain⟨v,k1,k2,k3⟩:=hr';have hU:∀w,0<D*2^w:=fun w=>mx hD (lj w);have hU':∀w,0<D'*2^w:=fun w=>mx hD' (lj w);have hx:∀w,N*K*(D'*2^w)<=N'*K*(D*2^w):=fun w=>by
  have e1:N*K*(D'*2^w)=N*D'*(K*2^w):=by ac_rfl
  have e2:N'*K*(D*2^w)=N'*D*(K*2^w):=by ac_rfl
  rw[e1,e2];exact lV _ h
 have huv:u<=v:=by
  rcases h1 with h1|h1
  ·omega
  ·refine Jv.unit (N:=N') (D:=D') (K:=K) k2 (.inr ?_);refine oM ?_ hD;have a1:=lV D' h1;have e1:4503599627370496*(D'*2^u)*D=4503599627370496*(D*2^u)*D':=by ac_rfl
   rw[e1];refine lg a1 ?_;have e2:N*K*D'=N*D'*K:=by ac_rfl
   have e3:N'*K*D=N'*D*K:=by ac_rfl
   rw[e2,e3];exact lV _ h
 by_cases e:u=v
 ·subst e;rw[h3,k3];have:=Wk (hU u) (hU' u) (hx u);omega
 ·have a1:=WI (hU u) h2;have a2:4503599627370496<=FI (N'*K) (D'*2^v):=by
   rcases k1 with k1|k1
   ·omega
   ·exact RD _ _ _ (hU' v) k1
  rw[h3,k3];omega
theorem Fl.mono {N D N' D' b b':Nat}(hD:0<D) (hD':0<D') (h:N*D'<=N'*D) (hr:Fl N D b) (hr':Fl N' D' b'):b<=b':=by
 obtain⟨c,h1,h2⟩:=hr;obtain⟨c',k1,k2⟩:=hr';have:=h1.mono hD hD' h k1;omega
theorem Fl.SE {N1 D1 N D N2 D2 b:Nat}(h1:0<D1) (h:0<D) (h2:0<D2) (l1:N1*D<=N*D1) (l2:N*D2<=N2*D) (f1:Fl N1 D1 b) (f2:Fl N2 D2 b):Fl N D b:=by
 obtain⟨c,hc⟩:=Jv.ex N D h;have f:Fl N D (min c AW):=⟨c,hc,rfl⟩;have a1:=f1.mono h1 h l1 f;have a2:=f.mono h h2 l2 f2;rw[Nat.le_antisymm a1 a2];exact f
theorem Fl.le {N D b:Nat}(h:Fl N D b):b<=AW:=by
 obtain⟨c,h1,h2⟩:=h;omega
theorem QP (d n c:Nat) (hn:0<n) (hc:0<c):FI (2*(d/n)+(if d %n=0 then 0 else 1)) (4*c)=FI (2*d) (n*(4*c)):=by
 have h1:n*(d/n)+d %n=d:=oD d n;have h2:d %n<n:=mw _ hn;obtain⟨st,qk⟩:∃st,st=if d %n=0 then 0 else 1:=⟨_,rfl⟩;rw[<-qk];have hs:(d %n=0/\st=0)\/(0<d %n/\st=1):=by
  rw[qk];split
  ·exact .inl ⟨‹_›,rfl⟩
  ·exact .inr ⟨by omega,rfl⟩
 obtain⟨Q,q,hQ,hq⟩:∃Q q,d/n=Q*(2*c)+q/\q<2*c:=⟨d/n/(2*c),d/n %(2*c),(Nat.div_add_mod' _ _).symm,mw _ (by omega)⟩;obtain⟨f,hf⟩:∃f,f=d %n:=⟨_,rfl⟩;rw[<-hf]at h1 h2 hs;rw[hQ]at h1⊢;clear qk hf hQ;have e0:Q*(2*c)=2*(Q*c):=by ac_rfl
 have e1:2*(Q*(2*c)+q)+st=Q*(4*c)+(2*q+st):=by
  have:Q*(4*c)=4*(Q*c):=by ac_rfl
  omega
 have a1:(2*(Q*(2*c)+q)+st)/(4*c)=Q:=by
  rw[e1];refine pQ (by omega) ?_;rw[mI];omega
 have a2:(2*(Q*(2*c)+q)+st) %(4*c)=2*q+st:=by
  rw[e1,pU,Nat.add_mul_mod_self_right,mv (by omega)]
 have qn:(q+1)*n<=2*c*n:=lV n hq;rw[mI,nE]at qn;have e2:2*d=Q*(n*(4*c))+(2*(q*n)+2*f):=by
  rw[<-h1];have x1:Q*(n*(4*c))=4*(n*(Q*c)):=by ac_rfl
  have x2:n*(Q*(2*c)+q)=2*(n*(Q*c))+q*n:=by
   rw[Nat.mul_add,e0,mR n q];congr 1;ac_rfl
  omega
 have e3:n*(4*c)=4*(c*n):=by ac_rfl
 have e4:2*c*n=2*(c*n):=by ac_rfl
 have b1:2*d/(n*(4*c))=Q:=by
  rw[e2];refine pQ (by omega) ?_;rw[mI];omega
 have b2:2*d %(n*(4*c))=2*(q*n)+2*f:=by
  rw[e2,pU,Nat.add_mul_mod_self_right,mv (by omega)]
 unfold FI;rw[a1,a2,b1,b2,e3];have cmp:(q<c/\q*n+n<=c*n)\/(q=c/\q*n=c*n)\/(c<q/\c*n+n<=q*n):=by
  rcases Nat.lt_trichotomy q c with h|h|h
  ·have:=lV n h;rw[Nat.succ_mul]at this;exact .inl ⟨h,this⟩
  ·subst h;exact .inr (.inl ⟨rfl,rfl⟩)
  ·have:=lV n h;rw[Nat.succ_mul]at this;exact .inr (.inr ⟨h,this⟩)
 have p1:(4*c<2*(2*q+st))↔(4*(c*n)<2*(2*(q*n)+2*f)):=by
  clear e2 b1 b2 a1 a2 e1 h1;omega
 have p2:(2*(2*q+st)=4*c)↔(2*(2*(q*n)+2*f)=4*(c*n)):=by
  clear e2 b1 b2 a1 a2 e1 h1;omega
 simp only[p1,p2]
def Wh (r N:Nat):Prop:=r<AW/\bv r=N*KZ
def Ky (a b:Nat):Nat:=(double.mul a b).getD 0
def QZ (a b:Nat):Nat:=(double.div a b).getD 0
theorem Kw {a b:Nat}(ha:a<AW) (hb:b<AW):floatBits .mul .f64 a b=some (Ky a b):=by
 unfold Ky;show double.mul a b=some _;unfold Format.mul;rw[Bk a ha,Bk b hb];rfl
theorem Uk {M E k:Nat}(_hM:M≠0) (h:2^k<=M*2^E):k<=M.log2+E:=by
 have l2:M<2^(M.log2+1):=Nat.lt_log2_self;have:2^k<2^(M.log2+1+E):=by
  refine mG h ?_;rw[lW];exact mA l2 (lj _)
 have:=(nP (a:=2) (by decide)).1 this;omega
theorem Vs {a b m n:Nat}(ha:Wh a m) (hb:Wh b n) (hm:0<m) (hn:0<n):Fl (m*n) 1 (Ky a b):=by
 obtain⟨a1,a2⟩:=ha;obtain⟨b1,b2⟩:=hb;unfold Ky Format.mul;rw[Bk a a1,Bk b b1];show Fl (m*n) 1 (double.nearest (false^^false) (mg a*mg b) (-1074+(pe a:Nat)+(-1074+(pe b:Nat))));have tJ:KZ=2^KE:=rfl;have hKE:=LM;unfold bv at a2 b2;have eq:mg a*mg b*2^(pe a+pe b)=m*n*2^(KE+KE):=by
  rw[lW,lW,<-tJ]
  calc mg a*mg b*(2^pe a*2^pe b)=(mg a*2^pe a)*(mg b*2^pe b):=by ac_rfl
   _=m*KZ*(n*KZ):=by rw[a2,b2]
   _=m*n*(KZ*KZ):=by generalize KZ=K;ac_rfl
 have mn:0<m*n:=mx hm hn;have h0:mg a*mg b≠0:=by
  intro h;rw[h,oH]at eq;have:0<m*n*2^(KE+KE):=mx mn (lj _);omega
 have hl:=Uk (k:=KE+KE) h0 (by rw[eq];exact Nat.le_mul_of_pos_left _ mn);have ok:=G9 (mag:=mg a*mg b) (place:= -1074+(pe a:Nat)+(-1074+(pe b:Nat))) h0 (by omega);refine Fl.ratio (lj _) (by decide) ?_ ok;rw[nf];refine UX (k:=KE+KE) (by omega) ?_;rw[show(-1074+(pe a:Nat)+(-1074+(pe b:Nat))+((KE+KE:Nat):Int)).toNat=pe a+pe b by omega];exact eq
theorem YE {a b:Nat}(ha:a<AW) (hb:b<AW) (hz:mg b≠0):floatBits .quo .f64 a b=some (QZ a b):=by
 unfold QZ;show double.div a b=some _;unfold Format.div;rw[Bk a ha,Bk b hb];unfold Datum.quotient;simp only[lL hz];rfl
theorem Pc {mag u:Nat} {place:Int}(hL:52<=mag.log2) (hu:place+mag.log2-52= -1074+(u:Int)):double.nearest false mag place=min (u*4503599627370496+FI mag (2^(mag.log2-52))) AW:=by
 have h0:mag≠0:=by
  intro h;rw[h]at hL;have:Nat.log2 0=0:=by decide
  omega
 obtain⟨L,hL2⟩:∃L,L=mag.log2:=⟨_,rfl⟩;unfold Format.nearest;rw[lL h0];simp only[Kj,Gc,IK,Fu,<-hL2];rw[<-hL2]at hL hu;rw[show max (place+(L:Int)-((52:Nat):Int)) (-1074)= -1074+(u:Int) by omega,show(-1074+(u:Int)- -1074).toNat=u by omega,Fe,
  show(place-(-1074+(u:Int))).toNat=0 by omega,show(-1074+(u:Int)-place).toNat=L-52 by omega,Nat.shiftLeft_zero,Pm _ _ _ (by omega)]
 unfold AW
 with_reducible rfl
theorem Rr {n k:Nat}(h1:2^k<=n) (h2:n<2^(k+1)):n.log2=k:=by
 have h0:n≠0:=by have:=lj k;omega
 exact(Nat.log2_eq_iff h0).2 ⟨h1,h2⟩
theorem Tx (m:Nat) (p:Int):double.write (.number false m p)=double.nearest false m p:=rfl
theorem Lw (x:Datum):((some x).map double.write).getD 0=double.write x:=rfl
theorem div_eq {a b:Nat}(ha:a<AW) (hb:b<AW) (la:(mg a).log2=52) (lb:(mg b).log2=52) (hz:mg b≠0):
 QZ a b=double.nearest false (2*(mg a*18014398509481984/mg b)+(if mg a*18014398509481984 %mg b=0 then 0 else 1)) ((pe a:Int)-pe b-55):=by
 unfold QZ Format.div;rw[Bk a ha,Bk b hb];unfold Datum.quotient;simp only[lL hz,la,lb,Kj];rw[Lw];have e0:52+2+52-52=54:=by decide
 have e54:(2:Nat)^54=18014398509481984:=by decide
 rw[e0,Nat.shiftLeft_eq,e54];have est:(mg a*18014398509481984 %mg b !=0).toNat=if mg a*18014398509481984 %mg b=0 then 0 else 1:=by
  generalize mg a*18014398509481984 %mg b=z;by_cases h:z=0
  ·rw[h];rfl
  ·rw[lL h];simp[h]
 rw[est,Bool.false_xor,Tx];congr 1;omega
theorem dU {a b m n:Nat}(ha:Wh a m) (hb:Wh b n) (hm:0<m) (hn:0<n) (sy:n<2^74) (g1:4503599627370496<=mg a) (g2:4503599627370496<=mg b):Fl m n (QZ a b):=by
 obtain⟨a1,a2⟩:=ha;obtain⟨b1,b2⟩:=hb;have z7:(4503599627370496:Nat)=2^52:=by decide
 have xY:(9007199254740992:Nat)=2^53:=by decide
 have la:(mg a).log2=52:=Rr (by rw[<-z7];exact g1) (by have:=Sv a;rw[xY]at this;exact this);have lb:(mg b).log2=52:=Rr (by rw[<-z7];exact g2) (by have:=Sv b;rw[xY]at this;exact this);have ma:=Sv a;have mb:=Sv b;rw[div_eq a1 b1 la lb (by omega)];clear la lb;obtain⟨d,hd⟩:∃d,d=mg a*18014398509481984:=⟨_,rfl⟩;rw[<-hd];obtain⟨st,qk⟩:∃st,st=if d %mg b=0 then 0 else 1:=⟨_,rfl⟩;have st1:st<=1:=by rw[qk];split<;>omega
 have tO:9007199254740992<=d/mg b:=by rw[nY (by omega)];omega
 obtain⟨M,hM⟩:∃M,M=2*(d/mg b)+st:=⟨_,rfl⟩;have M0:M≠0:=by omega
 have k1:2^M.log2<=M:=Nat.log2_self_le M0;have k2:M<2^(M.log2+1):=Nat.lt_log2_self;obtain⟨L,hL⟩:∃L,L=M.log2:=⟨_,rfl⟩;rw[<-hL]at k1 k2;have L54:54<=L:=by
  have:(2:Nat)^54<2^(L+1):=by
   refine mG ?_ k2;have:(2:Nat)^54=18014398509481984:=by decide
   omega
  have:=(nP (a:=2) (by decide)).1 this;omega
 have tJ:KZ=2^KE:=rfl;have hKE:=LM;unfold bv at a2 b2
 have pa:1022<=pe a:=by
  have:2^KE<2^(53+pe a):=by
   refine mG (Nat.le_mul_of_pos_left (2^KE) hm) ?_;rw[<-tJ,<-a2,lW,<-xY];exact mA ma (lj _)
  have:=(nP (a:=2) (by decide)).1 this;omega
 have pb:pe b<=1096:=by
  have:2^(52+pe b)<2^(74+KE):=by
   rw[lW,lW,<-z7];refine mG (lV _ g2) ?_;rw[b2,tJ];exact mA sy (lj _)
  have:=(nP (a:=2) (by decide)).1 this;omega
 rw[<-qk,<-hM];obtain⟨place,qj⟩:∃place:Int,place=(pe a:Int)-pe b-55:=⟨_,rfl⟩;rw[<-qj];obtain⟨u,hu⟩:∃u:Nat,place+L-52= -1074+(u:Int):=⟨(place+L-52+1074).toNat,by omega⟩;rw[Pc (u:=u) (by omega) (by rw[<-hL];exact hu),<-hL];obtain⟨c,hc⟩:∃c,L-52=c+2:=⟨L-54,by omega⟩;have e2c:(2:Nat)^(L-52)=4*2^c:=by rw[hc,lW,mR]
 have hsk:=QP d (mg b) (2^c) (by omega) (lj c);rw[<-qk,<-hM,<-e2c]at hsk;rw[hsk]
 have B0:0<mg b:=by omega
 have x1:4503599627370496*(mg b*2^(L-52))<=2*d:=by
  have y1:2^L<=2*(d/mg b):=by
   obtain⟨L',rfl⟩:∃L',L=L'+1:=⟨L-1,by omega⟩;rw[l9]at k1⊢;omega
  have y2:d/mg b*mg b<=d:=pj _ _;have y3:4503599627370496*(mg b*2^(L-52))=2^L*mg b:=by
   rw[z7,show L=52+(L-52) by omega,lW,show 52+(L-52)-52=L-52 by omega];generalize(2:Nat)^52=Z
   ac_rfl
  rw[y3];have:=lV (mg b) y1;rw[l5]at this;omega
 have x2:2*d<9007199254740992*(mg b*2^(L-52)):=by
  have y1:2*(d/mg b+1)<=2^(L+1):=by
   rw[l9]at k2⊢;omega
  have y2:d<(d/mg b+1)*mg b:=by
   have:=Nat.lt_div_mul_add (a:=d) B0;rw[mI,nE];exact this
  have y3:9007199254740992*(mg b*2^(L-52))=2^(L+1)*mg b:=by
   rw[xY,show L+1=53+(L-52) by omega,lW];generalize(2:Nat)^53=Z
   ac_rfl
  rw[y3];have:=lV (mg b) y1;rw[l5]at this;omega
 have eq1:2*d*2^place.toNat*KZ*(mg b*2^(L-52))=2*d*(mg b*2^(-place).toNat*2^u):=by
  rw[tJ];have x:place.toNat+KE+(L-52)=(-place).toNat+u:=by omega
  generalize KE=ke at*
  calc 2*d*2^place.toNat*2^ke*(mg b*2^(L-52))=2*d*(mg b*2^(place.toNat+ke+(L-52))):=by rw[lW,lW];ac_rfl
   _=2*d*(mg b*2^(-place).toNat*2^u):=by rw[x,lW];ac_rfl
 have hD0:0<mg b*2^(-place).toNat:=mx B0 (lj _);have hU0:0<mg b*2^(-place).toNat*2^u:=mx hD0 (lj _);have hC0:0<mg b*2^(L-52):=mx B0 (lj _);have big:Fl (2*d*2^place.toNat) (mg b*2^(-place).toNat) (min (u*4503599627370496+FI (2*d) (mg b*2^(L-52))) AW):=by
  unfold Fl Jv;generalize KZ=K at*;refine⟨_,⟨u,.inr ?_,?_,rfl⟩,?_⟩
  ·refine oM ?_ hC0;rw[eq1];have:4503599627370496*(mg b*2^(-place).toNat*2^u)*(mg b*2^(L-52))=4503599627370496*(mg b*2^(L-52))*(mg b*2^(-place).toNat*2^u):=by ac_rfl
   rw[this];exact lV _ x1
  ·refine mc (a:=mg b*2^(L-52)) ?_;rw[eq1];have:9007199254740992*(mg b*2^(-place).toNat*2^u)*(mg b*2^(L-52))=9007199254740992*(mg b*2^(L-52))*(mg b*2^(-place).toNat*2^u):=by ac_rfl
   rw[this];exact mA x2 hU0
  ·rw[ER hC0 hU0 eq1.symm]
 refine Fl.ratio hD0 hn ?_ big;have k3:mg a*2^pe a*n=m*(mg b*2^pe b):=by
  rw[a2,b2];generalize KZ=K;ac_rfl
 refine oo (lj (pe b)) ?_;rw[hd];have x:55+place.toNat+pe b=pe a+(-place).toNat:=by omega
 have e55:2*(mg a*18014398509481984)=mg a*2^55:=by
  have:(2:Nat)^55=36028797018963968:=by decide
  omega
 rw[e55]
 calc mg a*2^55*2^place.toNat*n*2^pe b=mg a*n*2^(55+place.toNat+pe b):=by rw[lW,lW];generalize(2:Nat)^55=Z;ac_rfl
  _=mg a*2^pe a*n*2^(-place).toNat:=by rw[x,lW];ac_rfl
  _=m*(mg b*2^pe b)*2^(-place).toNat:=by rw[k3]
  _=m*(mg b*2^(-place).toNat)*2^pe b:=by ac_rfl
end Go.Pf
end
section
namespace Go.Pf
open Ieee
def ik:List Nat:= [4607182418800017408,4621819117588971520,4636737291354636288,4652007308841189376,4666723172467343360,4681608360884174848,4696837146684686336,4711630319722168320,4726483295884279808,4741671816366391296,4756540486875873280,4771362005757984768,4786511204640096256,4801453603149578240,4816244402031689728,4831355200913801216,4846369599423283200,4861130398305394688,4876203697187506176,4891288408196988160,4906019910204099648,4921056587992461136,4936209963552724370]
def Gu (k:Nat):Nat:=ik.getD k 0
def cX (k:Nat):Bool:=Nat.blt (Gu k) AW&&Nat.beq (bv (Gu k)) (10^k*KZ)&&Nat.ble 4503599627370496 (mg (Gu k))
theorem Y7:(List.range 23).all cX=true:=by kernel_rfl
theorem Ho (k:Nat) (h:k<=22):Wh (Gu k) (10^k)/\4503599627370496<=mg (Gu k):=by
 have h1:=nS.1 Y7 k (pX.2 (by omega));unfold cX at h1;simp only[mJ,Nat.blt_eq,Nat.beq_eq,Nat.ble_eq]at h1;exact⟨⟨h1.1.1,h1.1.2⟩,h1.2⟩
def Lu:Nat:=4831355200913801216
theorem kP:Fl 9007199254740992 1 4845873199050653696:=by
 have h:=G9 (mag:=9007199254740992) (place:=0) (by decide) (by decide);have e:double.nearest false 9007199254740992 0=4845873199050653696:=by decide
 rw[e]at h;exact h
def YQ (m:Nat):Nat:=floatOfInt .f64 (m:Int)
theorem gQ (m:Nat):YQ m=double.nearest false m 0:=by
 unfold YQ floatOfInt FloatKind.nearest FloatKind.encode;have e:decide ((m:Int)<0)=false:=Ej;rw[e,Int.natAbs_natCast];rfl
theorem V4 {m:Nat}(h:0<m):Fl m 1 (YQ m):=by
 rw[gQ];have h1:=G9 (mag:=m) (place:=0) (by omega) (by omega);have e:m*2^(0:Int).toNat=m:=by simp
 rw[e]at h1;exact h1
theorem OO {m:Nat}(h:0<m) (h2:m<9007199254740992):Wh (YQ m) m/\4503599627370496<=mg (YQ m):=by
 obtain⟨a,b,c⟩:=Oi h h2 (V4 h);exact⟨⟨a,b⟩,c⟩
def YP (m:Nat) (x:Int):Nat:=if 22<x then Ky (YQ m) (Gu (x-22).toNat)else YQ m
def Lq (m:Nat) (x:Int):Option Nat:=
 if 4503599627370496<=m then none
 else if x=0 then some (YQ m)
 else if 0<x/\x<=37 then(if Lu<YP m x then none else some (Ky (YP m x) (Gu (min x 22).toNat)))
 else if x<0/\ -22<=x then some (QZ (YQ m) (Gu (-x).toNat))
 else none
theorem Vb {m:Nat} {x:Int}(h0:0<m) (h1:m<4503599627370496) (hx:0<x) (ya:x<=37) (h:¬Lu<YP m x):Wh (YP m x) (m*10^(x-22).toNat):=by
 unfold YP at h⊢;by_cases h22:22<x
 ·rw[lQ h22]at h⊢;obtain⟨f1,f2⟩:=OO h0 (by omega);obtain⟨g1,g2⟩:=Ho (x-22).toNat (by omega);have fl:=Vs f1 g1 h0 (oe (by decide));have hN:m*10^(x-22).toNat<9007199254740992:=by
   apply mM;intro hh;have:=Fl.mono (N:=9007199254740992) (D:=1) (by decide) (by decide) (by omega) kP fl;unfold Lu at h;omega
  obtain⟨a,b,c⟩:=Oi (mx h0 (oe (by decide))) hN fl;exact⟨a,b⟩
 ·rw[lL h22]at h⊢;obtain⟨f1,f2⟩:=OO h0 (by omega);rw[show(x-22).toNat=0 by omega,nC,nf];exact f1
theorem fB {m r:Nat} {x:Int}(h0:0<m) (h:Lq m x=some r):Fl (m*10^x.toNat) (10^(-x).toNat) r:=by
 unfold Lq at h;by_cases h1:4503599627370496<=m
 ·rw[lQ h1]at h;cases h
 rw[lL h1]at h;by_cases h2:x=0
 ·rw[lQ h2]at h;cases h;subst h2;have:=V4 h0;simpa using this
 rw[lL h2]at h;by_cases h3:0<x/\x<=37
 ·rw[lQ h3]at h;by_cases h4:Lu<YP m x
  ·rw[lQ h4]at h;cases h
  rw[lL h4]at h;cases h;have w:=Vb h0 (by omega) h3.1 h3.2 h4;obtain⟨g1,g2⟩:=Ho (min x 22).toNat (by omega);have fl:=Vs w g1 (mx h0 (oe (by decide))) (oe (by decide));rw[l5,<-lW,show(x-22).toNat+(min x 22).toNat=x.toNat by omega]at fl;rw[show(-x).toNat=0 by omega,nC];exact fl
 rw[lL h3]at h;by_cases h4:x<0/\ -22<=x
 ·rw[lQ h4]at h;cases h;obtain⟨f1,f2⟩:=OO h0 (by omega);obtain⟨g1,g2⟩:=Ho (-x).toNat (by omega);have p22:(10:Nat)^(-x).toNat<=10^22:=lX (by decide) (by omega);have fl:=dU f1 g1 h0 (oe (by decide)) (mG p22 (by decide)) f2 g2;rw[show x.toNat=0 by omega,nC,nf];exact fl
 ·rw[lL h4]at h;cases h
theorem Ip {a b:Nat}(ha:a<=AW) (hb:b<AW):(double.order a b==some .gt)=decide (b<a):=by
 by_cases h1:a<AW
 ·rw[JC h1 hb];rcases Nat.lt_trichotomy a b with h|h|h
  ·rw[Nat.compare_eq_lt.2 h,lO (by omega)];rfl
  ·subst h;rw[Nat.compare_eq_eq.2 rfl,lO (by omega)];rfl
  ·rw[Nat.compare_eq_gt.2 h,lU h];rfl
 ·obtain rfl:a=AW:=by omega
  unfold Format.order;rw[Bk b hb,GM,lU hb];rfl
theorem RQ (m k:Nat):0<=signed false m k:=by unfold signed;rw[lL (by decide)];exact Int.natCast_nonneg _
theorem RI (m k:Nat):signed true m k<=0:=by unfold signed;rw[lQ rfl];have:=Int.natCast_nonneg (m<<<k);omega
theorem MZ {a:Nat}(ha:a<=AW):(double.order a 14054727237768577024==some .lt)=false:=by
 have hr:double.read 14054727237768577024= .number true 8000000000000000 (-3):=by decide
 unfold Format.order;rw[hr];by_cases h1:a<AW
 ·rw[Bk a h1];show(some (compare _ _)==some .lt)=false;have a1:=RQ (mg a) (-1074+((pe a:Nat):Int)-min (-1074+((pe a:Nat):Int)) (-3)).toNat;have a2:=RI 8000000000000000 ((-3)-min (-1074+((pe a:Nat):Int)) (-3)).toNat;generalize signed false _ _=u at*;generalize signed true _ _=v at*;rw[nD];intro hh;have h3:compare u v= .lt:=by simpa using hh
  have:=Int.compare_eq_lt.1 h3;omega
 ·obtain rfl:a=AW:=by omega
  rw[GM];rfl
end Go.Pf
end
section
namespace Go.Pf
def fx (s:ByteArray) (p q f:Nat) (sg:Int):Int:=ef s f (s.size-f)*sg-((q:Int)-p-1)
def Po (s:ByteArray) (p q f:Nat) (sg:Int) (b:Nat):Prop:=Fl (Fb s q*10^(fx s p q f sg).toNat) (10^(-fx s p q f sg).toNat) b
def TD:Nat:=327
theorem VC:2^(1+KE)<=10^TD:=n7 (by kernel_rfl)
structure lA (s:ByteArray) (p q f:Nat) (sg:Int) (j:Nat):Prop where
 ex:(rf s q).DT≠0->Co s q f sg=fx s p q f sg+j
 lo:(rf s q).DT*10^j<=Fb s q
 hi:Fb s q<((rf s q).DT+1)*10^j
 eq:(rf s q).GV=false->Fb s q=(rf s q).DT*10^j
 nil:(rf s q).DT=0->Fb s q=0
theorem DW.jA {s:ByteArray} {p q f:Nat} {sg:Int}(h:DW s p q f sg):∃j,lA s p q f sg j:=by
 obtain⟨i1,⟨rest,v1,v2,v3⟩,i3,i4,i5,_⟩:=h.j5 q (nR _);have pq:=h.pq;have dp:=i5 (by omega);refine⟨(rf s q).nd-(rf s q).N0,⟨fun hm=> ?_,by omega,?_,fun ht=> ?_,fun hm=> ?_⟩⟩
 ·unfold Co fx;rw[lL hm,dp];omega
 ·rw[mI,nE];omega
 ·rw[v3 ht]at v1;exact v1
 ·rcases mh (rf s q).nd with h0|h0
  ·exact i3 h0
  ·have:=i4 h0;omega
theorem gD {s:ByteArray} {p q f:Nat} {sg:Int}(h:DW s p q f sg) (hm:(rf s q).DT=0):Po s p q f sg 0:=by
 obtain⟨j,a⟩:=h.jA;unfold Po;rw[a.nil hm,oH];refine Fl.Mw ?_;rw[oH];exact AU _
theorem IU {x:Int} {j:Nat} :x.toNat+(j-x).toNat=(x-j).toNat+(-x).toNat+j:=by omega
theorem fH {s:ByteArray} {p q f:Nat} {sg:Int}(h:DW s p q f sg) (hm:(rf s q).DT≠0) (hx:310<Co s q f sg):Po s p q f sg AW:=by
 obtain⟨j,a⟩:=h.jA;have ex:=a.ex hm;have lo:=a.lo;unfold Po;refine Fl.inf (AU _) ?_;refine lg (lV _ cy) ?_;have l1:10^j<=Fb s q:=lg (Nat.le_mul_of_pos_left _ (by omega)) lo;refine lg ?_ (lV _ l1);rw[<-lW,<-lW];refine lX (by decide) ?_;unfold TB;omega
theorem ei {s:ByteArray} {p q f:Nat} {sg:Int}(h:DW s p q f sg) (hm:(rf s q).DT≠0) (hx:Co s q f sg< -345):Po s p q f sg 0:=by
 obtain⟨j,a⟩:=h.jA;have ex:=a.ex hm;have hi:=a.hi;have ml:=Su (h.ok q (nR _));unfold Po;refine Fl.Mw ?_;rw[show(fx s p q f sg).toNat=0 by omega,nC,nf];have s10:=VC;have tJ:KZ=2^KE:=rfl;rw[lW,Nat.pow_one,<-tJ]at s10;clear tJ;have K0:=Vg;generalize KZ=K at*;have h1:Fb s q<10^19*10^j:=lR hi (lV _ ml);have h2:2*(Fb s q*K)=Fb s q*(2*K):=by ac_rfl
 rw[h2];refine lR (mA h1 (by omega)) ?_;refine lg (mU _ s10) ?_;rw[<-lW,<-lW];refine lX (by decide) ?_;unfold TD;omega
theorem cu {s:ByteArray} {p q f:Nat} {sg:Int} {b:Nat}(h:DW s p q f sg) (hm:(rf s q).DT≠0) (ht:(rf s q).GV=false)
 (hf:Fl ((rf s q).DT*10^(Co s q f sg).toNat) (10^(-Co s q f sg).toNat) b):Po s p q f sg b:=by
 obtain⟨j,a⟩:=h.jA;have ex:=a.ex hm;have eq:=a.eq ht;refine Fl.ratio (AU _) (AU _) ?_ hf;rw[eq];generalize Co s q f sg=x at*;generalize fx s p q f sg=y at*;have e:=IU (x:=x) (j:=j);have y1:y=x-j:=by omega
 have y2: -y=j-x:=by omega
 rw[y2,y1,l5,<-lW,e,l5,l5,<-lW,<-lW];congr 2;omega
theorem RC {s:ByteArray} {p q f:Nat} {sg:Int} {b:Nat}(h:DW s p q f sg) (hm:(rf s q).DT≠0)
 (hf:Fl ((rf s q).DT*10^(Co s q f sg).toNat) (10^(-Co s q f sg).toNat) b) (hf2:Fl (((rf s q).DT+1)*10^(Co s q f sg).toNat) (10^(-Co s q f sg).toNat) b):Po s p q f sg b:=by
 obtain⟨j,a⟩:=h.jA;have ex:=a.ex hm;have lo:=a.lo;have hi:=a.hi;have key:∀m,m*10^(Co s q f sg).toNat*10^(-fx s p q f sg).toNat=m*10^j*(10^(fx s p q f sg).toNat*10^(-Co s q f sg).toNat):=by
  intro m;generalize Co s q f sg=x at*;generalize fx s p q f sg=y at*;have e:=IU (x:=x) (j:=j);have y1:y=x-j:=by omega
  have y2: -y=j-x:=by omega
  rw[y2,y1,l5,<-lW,e,l5,<-lW,<-lW];congr 2;omega
 refine Fl.SE (AU _) (AU _) (AU _) ?_ ?_ hf hf2
 ·rw[key,l5 (Fb s q)];exact lV _ lo
 ·rw[key,l5 (Fb s q)];exact lV _ (mW hi)
def GI (s:ByteArray) (q f:Nat) (sg:Int):Cm:=⟨(By s q).A,(By s q).nd,(By s q).dp+ef s f (s.size-f)*sg,(By s q).tr⟩
theorem SI {s:ByteArray} {p q f:Nat} {sg:Int}(h:DW s p q f sg) (hm:(rf s q).DT≠0):Gd (GI s q f sg):=by
 have ok:=h.YM q (nR _);have d:=(h.je q (nR _)).1;obtain⟨i1,⟨rest,v1,v2,v3⟩,i3,i4,i5,_⟩:=h.j5 q (nR _);have:0<(rf s q).nd:=by
  rcases mh (rf s q).nd with h0|h0
  ·exfalso;have:=i3 h0;rw[this]at v1;rw[show(rf s q).nd-(rf s q).N0=0 by omega]at v1;simp at v1;omega
  ·exact h0
 have hp:0<(By s q).nd:=by omega
 exact⟨hp,ok.n8,ok.lead hp,ok.Ca⟩
theorem Yf {s:ByteArray} {p q f:Nat} {sg:Int}(h:DW s p q f sg) (hm:(rf s q).DT≠0) (h1: -345<=Co s q f sg) (h2:Co s q f sg<=310): -100000<=(GI s q f sg).dp/\(GI s q f sg).dp<=100000:=by
 have d:=(h.je q (nR _)).2;have ok:=h.ok q (nR _);have m19:=ok.m19;have he:ef s f (s.size-f)<10^4:=by
  rcases h.tail with⟨t1,t2,t3⟩|⟨t1,t2,t3,t4,t5,t6⟩
  ·rw[t2,oj,ef];decide
  ·exact lR (Em s f (s.size-f) (fun i hi=>(t6 (f+i) (by omega) (by omega)).2)) (lX (by decide) (by omega))
 have hs:sg=1\/sg= -1:=by
  rcases h.tail with⟨t1,t2,t3⟩|⟨t1,t2,t3,_⟩
  ·exact .inl t3
  ·rcases t3 with⟨_,h⟩|⟨_,h,_⟩|⟨_,h,_⟩
   ·exact .inl h
   ·exact .inl h
   ·exact .inr h
 unfold Co at h1 h2;rw[lL hm]at h1 h2;unfold GI;simp only;generalize ef s f (s.size-f)=E at*;rcases hs with rfl|rfl
 ·rw[Int.mul_one]at*;omega
 ·omega
theorem gS {s:ByteArray} {p q f:Nat} {sg:Int} {r:Nat×Bool}(h:DW s p q f sg) (hm:(rf s q).DT≠0) (hq:q<=401) (hr:FB (GI s q f sg) r):Po s p q f sg r.1:=by
 have st:=h.kX (by omega) q (nR _);have pq:=h.pq;have nd:=st.nd;rw[lQ (by omega)]at nd;have fl:=gb (SI h hm) (by show(By s q).nd<=400;omega) st.tr hr;have e1:num (GI s q f sg).A (GI s q f sg).nd=Fb s q:=st.val;have e2:(GI s q f sg).dp-((GI s q f sg).nd:Int)=fx s p q f sg:=by
  have:=st.dp (by omega);unfold GI fx;simp only;omega
 have e3:((GI s q f sg).nd:Int)-(GI s q f sg).dp= -fx s p q f sg:=by omega
 rw[e1,e2,e3]at fl;exact fl
end Go.Pf
end
