import Derived.Test.YtnipmfaikiaipaaGreatDoorTaf
import Derived.Test.YtnipmfaikiaipaaGreatDoorTae
import Derived.Laws.FloatArith
import Derived.Test.YtnipmfaikiaipaaGreatDoorTaa
set_option maxRecDepth 1000000
set_option maxHeartbeats 40000000
section
namespace Go.Pf
theorem Rnd.ex (N D:Nat) (hD:0<D):∃b,Rnd N D b:=by
 unfold Rnd
 generalize KZ=K
 have hk:∀n,N*K<9007199254740992*(D*2^n)→∃u,N*K<9007199254740992*(D*2^u)∧(u=0∨4503599627370496*(D*2^u)≤N*K):=by
  intro n
  induction n with
  |zero=>exact fun h=>⟨0,h,.inl rfl⟩
  |succ n ih=>
   intro h
   by_cases h2:N*K<9007199254740992*(D*2^n)
   ·exact ih h2
   ·refine⟨n+1,h,.inr ?_⟩
    rw[Nat.pow_succ,Nat.mul_comm (2^n) 2,Nat.mul_left_comm D 2]
    omega
 have h0:N*K<9007199254740992*(D*2^(N*K)):=by
  have h1:N*K<2^(N*K):=Nat.lt_two_pow_self
  have h2:1*2^(N*K)≤D*2^(N*K):=Nat.mul_le_mul_right _ hD
  omega
 obtain⟨u,a,b⟩:=hk _ h0
 exact⟨_,u,b,a,rfl⟩
def TA:Nat:=1024
theorem rne_le (a b q:Nat) (hb:0<b) (h:q*b≤a):q≤rne a b:=by
 have:q≤a/b:=(Nat.le_div_iff_mul_le hb).2 h
 unfold rne
 split<;>omega
theorem Fl.inf {N D:Nat}(hD:0<D) (h:2^TA*D≤N):Fl N D infB:=by
 obtain⟨b,hr⟩:=Rnd.ex N D hD
 refine⟨b,hr,(Nat.min_eq_right ?_).symm⟩
 obtain⟨u,h1,h2,h3⟩:=hr
 have hKZ:KZ=2^KE:=rfl
 have hKE:=KE_eq
 have hTA:TA=1024:=rfl
 generalize KZ=K at*
 generalize KE=ke at*
 generalize TA=ta at*
 have p53:(9007199254740992:Nat)=2^53:=by decide
 have k1:2^(ta+ke)*D<2^(53+u)*D:=by
  have a1:2^ta*D*2^ke≤N*K:=by rw[hKZ];exact Nat.mul_le_mul_right _ h
  have a2:2^(ta+ke)*D=2^ta*D*2^ke:=by rw[Nat.pow_add];ac_rfl
  have a3:2^(53+u)*D=9007199254740992*(D*2^u):=by rw[p53,Nat.pow_add];generalize(2:Nat)^53=Z;ac_rfl
  rw[a2,a3]
  exact Nat.lt_of_le_of_lt a1 h2
 have k2:=(Nat.pow_lt_pow_iff_right (a:=2) (by decide)).1 (Nat.lt_of_mul_lt_mul_right k1)
 have u1:2046≤u:=by omega
 have h4:4503599627370496*(D*2^u)≤N*K:=by
  rcases h1 with h|h
  ·omega
  ·exact h
 have h5:=rne_le _ _ 4503599627370496 (Nat.mul_pos hD (Nat.two_pow_pos u)) h4
 rw[h3]
 unfold infB
 omega
theorem Fl.nought {N D:Nat}(h:2*(N*KZ)<D):Fl N D 0:=by
 refine⟨0,⟨0,.inl rfl,?_,?_⟩,rfl⟩
 ·rw[Nat.pow_zero,Nat.mul_one]
  omega
 ·rw[Nat.pow_zero,Nat.mul_one,Nat.zero_mul,Nat.zero_add]
  unfold rne
  rw[Nat.mod_eq_of_lt (by omega),Nat.div_eq_of_lt (by omega),if_neg (by omega)]
theorem fbOut_eq (m:Nat) (e:Int):fbOut m e=m %4503599627370496+(e+1023).toNat*4503599627370496:=by
 unfold fbOut
 have e1:(4503599627370495:Nat)=2^52-1:=by decide
 have e2:(4503599627370496:Nat)=2^52:=by decide
 rw[e1,e2,Nat.and_two_pow_sub_one_eq_mod,Nat.or_comm,Nat.mul_comm,←Nat.two_pow_add_eq_or_of_lt (Nat.mod_lt _ (by decide)),Nat.add_comm]
theorem fbPost_fst (m:Nat) (e:Int) (hm:m≤9007199254740992) (h1: -1022≤e) (h2:e≤1023) (h3:4503599627370496≤m∨e= -1022):(fbPost m e).1=min ((e+1022).toNat*4503599627370496+m) infB:=by
 obtain⟨u,rfl⟩:∃u:Nat,e=(u:Int)-1022:=⟨(e+1022).toNat,by omega⟩
 have hu:((u:Int)-1022+1022).toNat=u:=by omega
 rw[hu]
 unfold fbPost
 by_cases hq:m=9007199254740992
 ·rw[if_pos hq,hq]
  by_cases ho:(2047:Int)≤(u:Int)-1022+1+1023
  ·rw[if_pos ho]
   have:u=2045:=by omega
   subst this
   show fbOut 0 1024=_
   rw[fbOut_eq]
   unfold infB
   rw[Nat.min_eq_right (by omega)]
   have:(1024+1023:Int).toNat=2047:=by decide
   rw[this,Nat.zero_mod,Nat.zero_add]
  ·rw[if_neg ho]
   unfold fbTail
   rw[if_neg (by decide)]
   show fbOut 4503599627370496 ((u:Int)-1022+1)=_
   rw[fbOut_eq,show((u:Int)-1022+1+1023).toNat=u+2 by omega,Nat.min_eq_left (by unfold infB;omega)]
   omega
 ·rw[if_neg hq]
  unfold fbTail
  show fbOut m _=_
  rw[fbOut_eq]
  by_cases hs:m<4503599627370496
  ·rw[if_pos ((and52 m (by omega)).2 hs)]
   have:u=0:=by omega
   subst this
   rw[Nat.mod_eq_of_lt hs,Nat.min_eq_left (by unfold infB;omega)]
   have:(-1023+1023:Int).toNat=0:=by decide
   rw[this,Nat.zero_mul,Nat.zero_add,Nat.add_zero]
  ·rw[if_neg (fun h=>hs ((and52 m (by omega)).1 h))]
   have e1:m %4503599627370496=m-4503599627370496:=by omega
   rw[e1,show((u:Int)-1022+1023).toNat=u+1 by omega,Nat.min_eq_left (by unfold infB;omega)]
   omega
theorem rne_half {v H f:Nat}(h0:0<H) (h1:f*H≤v) (h2:v<(f+1)*H):rne v (2*H)=if f %2=1∧(v≠f*H∨f/2 %2=1)then f/2+1 else f/2:=by
 obtain⟨q,c,hf,hc⟩:∃q c,f=2*q+c∧c<2:=⟨f/2,f %2,by omega,by omega⟩
 subst hf
 have e1:(2*q+c)*H=q*(2*H)+c*H:=by rw[Nat.add_mul];congr 1;ac_rfl
 rw[Nat.add_mul,Nat.one_mul]at h2
 rw[e1]at h1 h2⊢
 have hc2:c=0∨c=1:=by omega
 have dv:v/(2*H)=q:=by
  refine Nat.div_eq_of_lt_le ?_ ?_
  ·exact Nat.le_trans (Nat.le_add_right _ _) h1
  ·rw[Nat.add_mul,Nat.one_mul]
   rcases hc2 with rfl|rfl<;>omega
 have dm:v %(2*H)=v-q*(2*H):=by
  have:=Nat.div_add_mod' v (2*H)
  rw[dv]at this
  omega
 unfold rne
 rw[dv,dm]
 generalize q*(2*H)=Z at*
 rw[show(2*q+c)/2=q by omega,show(2*q+c) %2=c by omega]
 rcases hc2 with rfl|rfl
 ·rw[if_neg (by omega),if_neg (by omega)]
 ·rw[Nat.one_mul]at h1 h2⊢
  by_cases hv:v=Z+H
  ·by_cases hq:q %2=1
   ·rw[if_pos (by omega),if_pos ⟨rfl,.inr hq⟩]
   ·rw[if_neg (by omega),if_neg (by omega)]
  ·rw[if_pos (by omega),if_pos ⟨rfl,.inl hv⟩]
theorem num_split {A:Nat→Nat} :∀m n,num A (n+m)=num A n*10^m+nT A n m
 |0,n=>by simp[nT]
 |m+1,n=>by
  rw[←Nat.add_assoc,num,num_split m n,nT_snoc,Nat.add_mul,Nat.pow_succ,Nat.mul_assoc,Nat.add_assoc]
theorem nT_nought {A:Nat→Nat} :∀n i,nT A i n=0→∀j,j<n→A (i+j)≤48
 |0,_,_,j,hj=>by omega
 |n+1,i,h,j,hj=>by
  rw[nT_snoc]at h
  have h1:nT A i n=0:=by omega
  by_cases e:j=n
  ·subst e;omega
  ·exact nT_nought n i h1 j (by omega)
theorem rnd_ok {P v:Nat} {Q:Int} {s:DSt}(g:Gd s) (hlast:s.A (s.nd-1)≠48) (hi:Inv P Q v s (Q+1)) (hP:100000≤P) (c1: -50000≤s.dp) (c2:s.dp≤20) (hQ:0≤Q+P) (hv:v≤9007199254740992*(2*(10^P*2^(Q+P).toNat))):
 rndInt s.A s.nd s.tr s.dp=rne v (2*(10^P*2^(Q+P).toNat)):=by
 obtain⟨H,hH⟩:∃H,H=10^P*2^(Q+P).toNat:=⟨_,rfl⟩
 have hth:=hi.th
 have hle:=hi.le
 have htr:=hi.tr
 have H0:0<H:=by rw[hH];exact Nat.mul_pos (Nat.pow_pos (by decide)) (Nat.two_pow_pos _)
 obtain⟨w,hw⟩:∃w,w=wN P s (Q+1):=⟨_,rfl⟩
 rw[←hw]at hth hle htr
 rw[←hH]at hth hv⊢
 have b1:=num_lt s.nd (fun i hi=>(g.dig i hi).2)
 have g0:=g.pos
 have gle:=g.le
 have ew:w=num s.A s.nd*10^(s.dp-s.nd+P).toNat*(2*2^(Q+P).toNat):=by
  rw[hw]
  unfold wN
  rw[show(Q+1+P).toNat=(Q+P).toNat+1 by omega,Nat.pow_succ,Nat.mul_comm 2]
 -- the halves of the number that is there
 have key:∃f,f*H≤w∧w<(f+1)*H∧f/2=numz s.A s.nd s.dp.toNat∧
  srup s.A s.nd s.tr s.dp=decide (f %2=1∧(w≠f*H∨s.tr=true∨f/2 %2=1)):=by
  by_cases hneg:s.dp<0
  ·refine⟨0,by omega,?_,?_,?_⟩
   ·rw[Nat.zero_add,Nat.one_mul,ew,hH]
    have x1:10^P=10^(-s.dp).toNat*(10^s.nd*10^(s.dp-s.nd+P).toNat):=by rw[←Nat.pow_add,←Nat.pow_add];congr 1;omega
    have x2:10≤10^(-s.dp).toNat:=by
     have:=Nat.pow_le_pow_right (n:=10) (by decide) (show 1≤(-s.dp).toNat by omega)
     omega
    rw[x1]
    generalize 10^(s.dp-s.nd+P).toNat=Z at*
    generalize 2^(Q+P).toNat=Y at*
    rcases Nat.eq_zero_or_pos Z with hz|hz
    ·rw[hz]at x1
     have:=Nat.pow_pos (n:=P) (show 0<10 by decide)
     omega
    have hY:0<Y:=by
     rcases Nat.eq_zero_or_pos Y with h|h
     ·rw[h,Nat.mul_zero]at hH;omega
     ·exact h
    calc num s.A s.nd*Z*(2*Y)<10^s.nd*Z*(2*Y):=Nat.mul_lt_mul_of_pos_right (Nat.mul_lt_mul_of_pos_right b1 hz) (by omega)
     _=2*(10^s.nd*Z)*Y:=by ac_rfl
     _≤10^(-s.dp).toNat*(10^s.nd*Z)*Y:=Nat.mul_le_mul_right _ (Nat.mul_le_mul_right _ (by omega))
   ·rw[show s.dp.toNat=0 by omega];rfl
   ·unfold srup
    rw[if_pos (.inl hneg)]
    simp
  ·obtain⟨d,hd⟩:∃d:Nat,s.dp=d:=⟨s.dp.toNat,by omega⟩
   rw[hd]
   rw[hd]at ew
   by_cases hge:s.nd≤d
   ·obtain⟨m,rfl⟩:∃m,d=s.nd+m:=⟨d-s.nd,by omega⟩
    have ew2:w=2*(num s.A s.nd*10^m)*H:=by
     rw[ew,hH,show((((s.nd+m:Nat):Int)-s.nd)+P).toNat=m+P by omega,Nat.pow_add]
     generalize(10:Nat)^P=Z
     ac_rfl
    refine⟨2*(num s.A s.nd*10^m),Nat.le_of_eq ew2.symm,?_,?_,?_⟩
    ·rw[ew2,Nat.add_mul];omega
    ·rw[Int.toNat_natCast,numz_ge];omega
    ·unfold srup
     rw[if_pos (.inr (by omega))]
     simp
   ·obtain⟨m,hm⟩:∃m,s.nd=d+1+m:=⟨s.nd-d-1,by omega⟩
    have hdd:d<s.nd:=by omega
    have dd:=g.dig d hdd
    obtain⟨F,hF⟩:∃F,F=num s.A d:=⟨_,rfl⟩
    obtain⟨R,hR⟩:∃R,R=nT s.A (d+1) m:=⟨_,rfl⟩
    have hRl:R<10^m:=by rw[hR];exact nT_lt m (d+1) (fun j h1 h2=>(g.dig j (by omega)).2)
    obtain⟨a,ha⟩:∃a,s.A d=48+a:=⟨s.A d-48,by omega⟩
    have hnum:num s.A s.nd=(F*10+a)*10^m+R:=by
     rw[hm,num_split,num,←hF,←hR,ha]
     congr 2;omega
    -- w on a finer scale
    have hX:H*2=10*10^m*(10^(((d:Nat):Int)-s.nd+P).toNat*(2*2^(Q+P).toNat)):=by
     have x1:10^P=10*10^m*10^(((d:Nat):Int)-s.nd+P).toNat:=by
      rw[Nat.mul_comm 10 (10^m),←Nat.pow_succ,←Nat.pow_add];congr 1;omega
     rw[hH,x1]
     ac_rfl
    obtain⟨Z,hZ⟩:∃Z,Z=10^(((d:Nat):Int)-s.nd+P).toNat*(2*2^(Q+P).toNat):=⟨_,rfl⟩
    rw[←hZ]at hX
    have Z0:0<Z:=by
     rcases Nat.eq_zero_or_pos Z with h|h
     ·rw[h,Nat.mul_zero]at hX;omega
     ·exact h
    have ew3:w=num s.A s.nd*Z:=by rw[ew,hZ];ac_rfl
    have hX5:H=5*(10^m*Z):=by
     have:10*10^m*Z=10*(10^m*Z):=by ac_rfl
     omega
    have hRZ:R*Z<10^m*Z:=Nat.mul_lt_mul_of_pos_right hRl Z0
    have ew4:w=F*(2*H)+(a*(10^m*Z)+R*Z):=by
     rw[ew3,hnum,hX5,Nat.add_mul,Nat.add_mul,Nat.add_mul,Nat.add_assoc]
     congr 1
     ·have:F*(2*(5*(10^m*Z)))=F*10*(10^m*Z):=by
       rw[←Nat.mul_assoc 2,Nat.mul_assoc F]
      rw[this,Nat.mul_assoc]
     ·rw[Nat.mul_assoc]
    have e2:(2*F)*H=F*(2*H):=by ac_rfl
    have hsr:srup s.A s.nd s.tr d=if a=5∧d+1=s.nd then(s.tr||decide (F %2=1))else decide (5≤a):=by
     unfold srup
     rw[if_neg (by omega),Int.toNat_natCast]
     have q1:(s.A d=53∧d+1=s.nd)↔(a=5∧d+1=s.nd):=by rw[ha];omega
     have q2:decide (53≤s.A d)=decide (5≤a):=by rw[ha];congr 1;rw[eq_iff_iff];omega
     have q3:(decide (0<d)&&decide ((s.A (d-1)-48) %2≠0))=decide (F %2=1):=by
      rcases Nat.eq_zero_or_pos d with h|h
      ·subst h;rw[hF];simp[num]
      ·obtain⟨d',rfl⟩:∃d',d=d'+1:=⟨d-1,by omega⟩
       rw[hF,num,Nat.add_sub_cancel,←Bool.decide_and]
       congr 1
       rw[eq_iff_iff]
       omega
     rw[q2,q3]
     simp only[q1]
    have hR0:R=0↔m=0:=by
     constructor
     ·intro h
      rcases Nat.eq_zero_or_pos m with h2|h2
      ·exact h2
      ·exfalso
       rw[hR]at h
       have:=nT_nought m (d+1) h (m-1) (by omega)
       have dl:=g.dig (s.nd-1) (by omega)
       rw[show d+1+(m-1)=s.nd-1 by omega]at this
       omega
     ·intro h
      rw[h]at hRl
      omega
    rw[Int.toNat_natCast,numz_le d (by omega),←hF,hsr]
    generalize 10^m*Z=T at*
    by_cases h5:5≤a
    ·refine⟨2*F+1,?_,?_,by omega,?_⟩
     ·rw[Nat.add_mul,e2,Nat.one_mul,ew4,hX5]
      have:=Nat.mul_le_mul_right T h5
      omega
     ·have:=Nat.mul_le_mul_right T (show a≤9 by omega)
      rw[show 2*F+1+1=2*F+2 by omega,Nat.add_mul,e2,ew4]
      omega
     ·have eH:w=(2*F+1)*H↔(a=5∧d+1=s.nd):=by
       rw[Nat.add_mul,e2,Nat.one_mul,ew4]
       constructor
       ·intro h
        have h6:a*T+R*Z=H:=by omega
        have ha5:a=5:=by
         apply Classical.byContradiction
         intro hne
         have:=Nat.mul_le_mul_right T (show 6≤a by omega)
         omega
        subst ha5
        have:R*Z=0:=by omega
        rcases Nat.mul_eq_zero.1 this with h|h
        ·have:=hR0.1 h
         exact⟨rfl,by omega⟩
        ·omega
       ·rintro⟨rfl,h⟩
        have:R=0:=hR0.2 (by omega)
        rw[this,Nat.zero_mul]
        omega
      rw[show(2*F+1) %2=1 by omega,show(2*F+1)/2=F by omega]
      by_cases hx:a=5∧d+1=s.nd
      ·rw[if_pos hx]
       have:=eH.2 hx
       simp only[this,ne_eq,not_true_eq_false,false_or,true_and]
       cases s.tr<;>simp
      ·rw[if_neg hx,decide_eq_true h5]
       have:w≠(2*F+1)*H:=fun h=>hx (eH.1 h)
       simp[this]
    ·refine⟨2*F,?_,?_,by omega,?_⟩
     ·rw[e2,ew4];omega
     ·rw[Nat.add_mul,e2,Nat.one_mul,ew4,hX5]
      have:=Nat.mul_le_mul_right T (show a≤4 by omega)
      omega
     ·rw[if_neg (by omega),decide_eq_false h5]
      simp
 obtain⟨f,f1,f2,f3,f4⟩:=key
 have v1:f*H≤v:=Nat.le_trans f1 hle
 have v2:v<(f+1)*H:=by
  apply Classical.byContradiction
  intro h
  have:=hth (f+1) (by omega)
  omega
 have hb:(v≠f*H)↔(w≠f*H∨s.tr=true):=by
  rw[htr]
  simp only[decide_eq_true_eq]
  omega
 have hs:(srup s.A s.nd s.tr s.dp=true)↔(f %2=1∧(v≠f*H∨f/2 %2=1)):=by
  rw[f4,decide_eq_true_eq,hb,or_assoc]
 have fin:(numz s.A s.nd s.dp.toNat+(if srup s.A s.nd s.tr s.dp then 1 else 0))=rne v (2*H):=by
  rw[rne_half H0 v1 v2,←f3]
  by_cases h:srup s.A s.nd s.tr s.dp=true
  ·rw[if_pos h,if_pos (hs.1 h)]
  ·rw[if_neg h,if_neg (fun h2=>h (hs.2 h2)),Nat.add_zero]
 have hr:rne v (2*H)<18446744073709551616:=by
  have:v/(2*H)≤9007199254740992:=by
   rw[←Nat.lt_succ_iff,Nat.div_lt_iff_lt_mul (by omega)]
   exact Nat.lt_of_le_of_lt hv (by omega)
  unfold rne
  split<;>omega
 unfold rndInt
 rw[if_neg (by omega),fin,Nat.mod_eq_of_lt hr]
end Go.Pf
end
section
namespace Go.Pf
theorem rne_lt {a b q:Nat}(hb:0<b) (h:a<q*b):rne a b≤q:=by
 have:a/b<q:=(Nat.div_lt_iff_lt_mul hb).2 h
 unfold rne
 split<;>omega
theorem fbInf:fbOut 0 1024=infB:=by
 rw[fbOut_eq]
 have:(1024+1023:Int).toNat=2047:=by decide
 rw[this,Nat.zero_mod,Nat.zero_add]
 rfl
theorem fbNil:fbOut 0 (-1023)=0:=by
 rw[fbOut_eq]
 have:(-1023+1023:Int).toNat=0:=by decide
 rw[this,Nat.zero_mod,Nat.zero_add,Nat.zero_mul]
def TB:Nat:=310
theorem big10:2^TA≤10^TB:=Nat.le_of_ble_eq_true (by kernel_rfl)
def TC:Nat:=331
theorem small10:2^(1+KE)≤10^TC:=Nat.le_of_ble_eq_true (by kernel_rfl)
theorem num_low {s:DSt}(g:Gd s):10^(s.nd-1)≤num s.A s.nd:=by
 have:=num_pos g.lead (s.nd-1)
 rw[show s.nd-1+1=s.nd by have:=g.pos;omega]at this
 exact this
theorem Fl.scaled {P v:Nat} {e3:Int}(h0:0≤e3-53+P) (h1: -1022≤e3) (hl:e3= -1022∨4503599627370496*(2*(10^P*2^(e3-53+P).toNat))≤v) (hh:v<9007199254740992*(2*(10^P*2^(e3-53+P).toNat))):
 Rnd v (10^P*2^P) ((e3+1022).toNat*4503599627370496+rne v (2*(10^P*2^(e3-53+P).toNat))):=by
 obtain⟨U,hU⟩:∃U,U=2*(10^P*2^(e3-53+P).toNat):=⟨_,rfl⟩
 have U0:0<U:=by rw[hU];exact Nat.mul_pos (by decide) (Nat.mul_pos (Nat.pow_pos (by decide)) (Nat.two_pow_pos _))
 rw[←hU]at hl hh⊢
 have hK:=KZ_pos
 have e1:10^P*2^P*2^(e3+1022).toNat=U*KZ:=by
  have hKZ:KZ=2^KE:=rfl
  have hKE:=KE_eq
  rw[hKZ,hU]
  generalize KE=ke at*
  have x:P+(e3+1022).toNat=1+(e3-53+P).toNat+ke:=by omega
  rw[Nat.mul_assoc,←Nat.pow_add,x,Nat.pow_add,Nat.pow_add,Nat.pow_one]
  ac_rfl
 unfold Rnd
 generalize KZ=K at*
 refine⟨(e3+1022).toNat,?_,?_,?_⟩
 ·rw[e1]
  rcases hl with h|h
  ·left;omega
  ·right
   rw[←Nat.mul_assoc]
   exact Nat.mul_le_mul_right _ h
 ·rw[e1,←Nat.mul_assoc]
  exact Nat.mul_lt_mul_of_pos_right hh hK
 ·rw[e1,rne_ratio U0 (Nat.mul_pos U0 hK) (show v*(U*K)=v*K*U by ac_rfl)]
theorem val_up {s:DSt}(g:Gd s) (h:s.dp≤0){P:Nat}(hP:100000≤P) (h2: -50000≤s.dp):num s.A s.nd*10^(s.dp-s.nd+P).toNat<10^P:=by
 have b1:=num_lt s.nd (fun i hi=>(g.dig i hi).2)
 have gle:=g.le
 have h3:10^s.nd*10^(s.dp-s.nd+P).toNat≤10^P:=by
  rw[←Nat.pow_add]
  exact Nat.pow_le_pow_right (by decide) (by omega)
 exact Nat.lt_of_lt_of_le (Nat.mul_lt_mul_of_pos_right b1 (pow_pos10 _)) h3
theorem val_half {s:DSt}(g:Gd s) (h:s.dp=0) (h5:¬s.A 0<53){P:Nat}(hP:100000≤P):10^P≤2*(num s.A s.nd*10^(s.dp-s.nd+P).toNat):=by
 have gle:=g.le
 have gp:=g.pos
 have e1:=lead_num g.pos (fun i hi=>(g.dig i hi).2)
 have b:5*10^(s.nd-1)≤num s.A s.nd:=by
  have:=Nat.div_mul_le_self (num s.A s.nd) (10^(s.nd-1))
  rw[e1]at this
  have b:=Nat.mul_le_mul_right (10^(s.nd-1)) (show 5≤s.A 0-48 by omega)
  omega
 have x:P=s.nd-1+(s.dp-s.nd+P).toNat+1:=by omega
 have e2:10^P=2*(5*10^(s.nd-1)*10^(s.dp-s.nd+P).toNat):=by
  conv=>lhs;rw[x]
  rw[Nat.pow_succ,Nat.pow_add,Nat.mul_assoc 5]
  omega
 rw[e2]
 exact Nat.mul_le_mul_left _ (Nat.mul_le_mul_right _ b)
theorem FB_ok {s:DSt} {r:Nat×Bool}(g:Gd s) (h4:s.nd≤400) (ht:s.tr=false) (h:FB s r):Fl (num s.A s.nd*10^(s.dp-s.nd).toNat) (10^(s.nd-s.dp).toNat) r.1:=by
 have gp:=g.pos
 have nl:=num_low g
 have nh:=num_lt s.nd (fun i hi=>(g.dig i hi).2)
 unfold FB at h
 by_cases hb:310<s.dp
 ·rw[if_pos hb]at h
  rw[h]
  show Fl _ _ (fbOut 0 1024)
  rw[fbInf]
  refine Fl.inf (pow_pos10 _) ?_
  refine Nat.le_trans (Nat.mul_le_mul_right _ big10) ?_
  refine Nat.le_trans ?_ (Nat.mul_le_mul_right _ nl)
  rw[←Nat.pow_add,←Nat.pow_add]
  exact Nat.pow_le_pow_right (by decide) (by unfold TB;omega)
 rw[if_neg hb]at h
 by_cases hs:s.dp< -330
 ·rw[if_pos hs]at h
  rw[h]
  show Fl _ _ (fbOut 0 (-1023))
  rw[fbNil]
  refine Fl.nought ?_
  rw[show(s.dp-s.nd).toNat=0 by omega,Nat.pow_zero,Nat.mul_one]
  have hKZ:KZ=2^KE:=rfl
  have s10:=small10
  rw[Nat.pow_add,Nat.pow_one,←hKZ]at s10
  clear hKZ
  generalize KZ=K at*
  have x1:2*(num s.A s.nd*K)=num s.A s.nd*(2*K):=by ac_rfl
  have x2:10^s.nd*10^TC≤10^(s.nd-s.dp).toNat:=by
   rw[←Nat.pow_add]
   exact Nat.pow_le_pow_right (by decide) (by unfold TC;omega)
  rw[x1]
  refine Nat.lt_of_lt_of_le ?_ x2
  exact Nat.lt_of_le_of_lt (Nat.mul_le_mul_left _ s10) (Nat.mul_lt_mul_of_pos_right nh (pow_pos10 _))
 rw[if_neg hs]at h
 obtain⟨s1,e1,s2,e2,s3,e3,hDn,hUp,hLow,hres⟩:=h
 obtain⟨P,hP⟩:∃P,P=100000:=⟨_,rfl⟩
 have hP':100000≤P:=by omega
 obtain⟨v,hv⟩:∃v,v=wN P s 0:=⟨_,rfl⟩
 have start:∀Q,Inv P Q v s 0:=fun Q=>Inv.of_eq hv.symm ht
 -- behind the way up
 have he3:e2-1≤e3∧ -1022≤e3:=by
  split at hLow
  ·omega
  ·omega
 have mid:Inv P (e3-53) v s2 e2∧Gd s2∧s2.dp≤0∧ -330≤s2.dp∧¬small2 s2∧ -20000≤e2∧e2≤e1∧0≤e1:=by
  cases hDn with
  |done h0=>
   have hd:=hUp.dp
   obtain⟨u1,u2,u3,u4⟩:=hUp.len g h0
   have hm:=hUp.mono
   unfold muD at u1
   obtain⟨x1,x2⟩:=hUp.exact (P:=P) g ht h0 (by omega) (by omega) (by omega) hP'
   exact⟨Inv.of_eq (x1.trans hv.symm) x2,u4,u2,by omega,u3,by omega,hm,by omega⟩
  |step h0 r c=>
   have hDn:Dn s 0 s1 e1:= .step h0 r c
   have hm0:=hDn.mono
   obtain⟨g1,_,p1,p2⟩:=hDn.inv g (start (e1+1000)) (by omega) (by omega) (by omega) (by omega) (by omega) hP'
   have hd:=hUp.dp
   obtain⟨u1,u2,u3,u4⟩:=hUp.len g1 p1
   have hm:=hUp.mono
   unfold muD at u1
   have c3:310+e1≤800+(e3-53):=by omega
   obtain⟨_,i1,_,_⟩:=hDn.inv g (start (e3-53)) (by omega) (by omega) c3 (by omega) (by omega) hP'
   have i2:=hUp.inv g1 i1 p1 (by omega) (by omega) (by omega) (by omega) hP'
   exact⟨i2,u4,u2,by omega,u3,by omega,hm,hm0⟩
 obtain⟨i2,g2,d2,d2',ns,e2l,e21,e10⟩:=mid
 have low:Inv P (e3-53) v s3 (e3+1)∧Gd s3∧s3.dp≤0∧ -50000≤s3.dp∧(e3= -1022∨4503599627370496*(2*(10^P*2^(e3-53+P).toNat))≤v):=by
  split at hLow
  ·obtain⟨c,rfl⟩:=hLow
   obtain⟨a1,a2,a3,a4⟩:=c.inv g2 i2 (by omega) (by omega) (by omega) (by omega) (by omega) hP'
   rw[show e2+((-1022-(e2-1)).toNat:Nat)= -1022+1 by omega]at a2
   exact⟨a2,a1,by omega,a4,.inl rfl⟩
  ·obtain⟨rfl,rfl⟩:=hLow
   rw[show e2-1+1=e2 by omega]
   refine⟨i2,g2,d2,by omega,.inr (Nat.le_trans ?_ i2.le)⟩
   unfold small2 at ns
   have hz:s3.dp=0:=by omega
   have h5:¬s3.A 0<53:=fun h=>ns (.inr ⟨hz,h⟩)
   have vh:=val_half g2 hz h5 hP'
   unfold wN
   have x:(e2+P).toNat=54+(e2-1-53+P).toNat:=by omega
   rw[x,Nat.pow_add]
   have p:(4503599627370496:Nat)=2^52:=by decide
   have p2:(2:Nat)^54=2^52*2*2:=by decide
   rw[p,p2]
   generalize(2:Nat)^52=Z
   have e:num s3.A s3.nd*10^(s3.dp-s3.nd+P).toNat*(Z*2*2*2^(e2-1-53+P).toNat)=2*(num s3.A s3.nd*10^(s3.dp-s3.nd+P).toNat)*(Z*(2*2^(e2-1-53+P).toNat)):=by ac_rfl
   rw[e]
   refine Nat.le_trans (Nat.le_of_eq ?_) (Nat.mul_le_mul_right _ vh)
   ac_rfl
 obtain⟨i3,g3,d3,d3',hlo⟩:=low
 have hhi:v<9007199254740992*(2*(10^P*2^(e3-53+P).toNat)):=by
  apply Classical.byContradiction
  intro hn
  have:=i3.th 18014398509481984 (by omega)
  have vu:=val_up g3 d3 hP' d3'
  unfold wN at this
  have x:(e3+1+P).toNat=54+(e3-53+P).toNat:=by omega
  rw[x,Nat.pow_add]at this
  have p:(18014398509481984:Nat)=2^54:=by decide
  rw[p]at this
  have hz:0<2^54*2^(e3-53+P).toNat:=Nat.mul_pos (Nat.two_pow_pos _) (Nat.two_pow_pos _)
  have:=Nat.lt_of_le_of_lt this (Nat.mul_lt_mul_of_pos_right vu hz)
  generalize(2:Nat)^54=Z at this
  have e:10^P*(Z*2^(e3-53+P).toNat)=Z*(10^P*2^(e3-53+P).toNat):=by ac_rfl
  omega
 have hR:=Fl.scaled (by omega) he3.2 hlo hhi
 have U0:0<2*(10^P*2^(e3-53+P).toNat):=Nat.mul_pos (by decide) (Nat.mul_pos (pow_pos10 _) (Nat.two_pow_pos _))
 have fin:r.1=min ((e3+1022).toNat*4503599627370496+rne v (2*(10^P*2^(e3-53+P).toNat))) infB:=by
  have m1:=rne_lt U0 hhi
  have m2:4503599627370496≤rne v (2*(10^P*2^(e3-53+P).toNat))∨e3= -1022:=by
   rcases hlo with h|h
   ·exact .inr h
   ·exact .inl (rne_le _ _ _ U0 h)
  by_cases ho:2047≤e3+1023
  ·rw[if_pos ho]at hres
   rw[hres]
   show fbOut 0 1024=_
   rw[fbInf,Nat.min_eq_right]
   unfold infB
   omega
  ·rw[if_neg ho]at hres
   obtain⟨s4,l4,hr4⟩:=hres
   obtain⟨st,D,q1,q2,_⟩:=l4.stp (P:=P) (e:=e3+1) g3.le hP' d3' (by omega)
   have i4:=i3.step st (by omega) (by omega) (by omega) (by omega) (by omega) hP'
   have hlast:s4.A (s4.nd-1)≠48:=by obtain⟨W,_,_,_,h,_⟩:=l4;exact h
   rw[show e3+1-((53:Nat):Int)=e3-53+1 by omega]at i4
   have rk:=rnd_ok l4.gd hlast i4 hP' (by omega) (by omega) (by omega) (Nat.le_of_lt hhi)
   rw[hr4,rk]
   exact fbPost_fst _ _ m1 he3.2 (by omega) m2
 rw[fin]
 refine Fl.ratio (N:=v) (D:=10^P*2^P) (Nat.mul_pos (pow_pos10 _) (Nat.two_pow_pos _)) (pow_pos10 _) ?_ ⟨_,hR,rfl⟩
 rw[hv]
 unfold wN
 have x:(s.dp-s.nd+P).toNat+(s.nd-s.dp).toNat=(s.dp-s.nd).toNat+P:=by omega
 rw[show((0:Int)+P).toNat=P by omega]
 calc num s.A s.nd*10^(s.dp-s.nd+P).toNat*2^P*10^(s.nd-s.dp).toNat=num s.A s.nd*10^((s.dp-s.nd+P).toNat+(s.nd-s.dp).toNat)*2^P:=by rw[Nat.pow_add];ac_rfl
  _=num s.A s.nd*10^(s.dp-s.nd).toNat*(10^P*2^P):=by rw[x,Nat.pow_add];ac_rfl
end Go.Pf
end
section
namespace Go.Pf
def setStep (t:DSt) (c:Nat):DSt:=
 if c=46 then {t with dp:=t.nd}
 else if c=48∧t.nd=0 then {t with dp:=t.dp-1}
 else if t.nd<800 then {t with A:=upd t.A t.nd c,nd:=t.nd+1}
 else {t with tr:=t.tr||(c !=48)}
def setF (s:ByteArray):Nat→DSt
 |0=>⟨fun _=>0,0,0,false⟩
 |k+1=>setStep (setF s k) (byte s k)
structure SetOk (t:DSt) (k:Nat):Prop where
 n8:t.nd≤800
 nk:t.nd≤k
 dig:∀i,i<t.nd→48≤t.A i∧t.A i≤57
 lead:0<t.nd→49≤t.A 0
 lo: -(k:Int)≤t.dp
 hi:t.dp≤800
 b8:∀i,t.A i<256
theorem SetOk.zero:SetOk ⟨fun _=>0,0,0,false⟩ 0:=⟨by decide,by decide,fun i h=>absurd h (by simp),fun h=>absurd h (by simp),by decide,by decide,fun _=>by simp⟩
theorem SetOk.step {t:DSt} {k:Nat}(h:SetOk t k){c:Nat}(hc:c=46∨(48≤c∧c≤57)):SetOk (setStep t c) (k+1):=by
 have a1:=h.n8;have a2:=h.nk;have a5:=h.lo;have a6:=h.hi
 unfold setStep
 split
 ·exact⟨a1,by simp only;omega,h.dig,h.lead,by simp only;omega,by simp only;omega,h.b8⟩
 split
 ·exact⟨a1,by simp only;omega,h.dig,h.lead,by simp only;omega,by simp only;omega,h.b8⟩
 split
 ·rename_i h1 h2 h3
  refine⟨by simp only;omega,by simp only;omega,?_,?_,by simp only;omega,by simp only;omega,?_⟩
  ·intro i hi
   simp only at hi⊢
   by_cases e:i=t.nd
   ·subst e;rw[upd_same];omega
   ·rw[upd_other e];exact h.dig i (by omega)
  ·intro _
   simp only
   by_cases e:t.nd=0
   ·rw[e,upd_same];omega
   ·rw[upd_other (by omega)];exact h.lead (by omega)
  ·intro i
   simp only
   by_cases e:i=t.nd
   ·subst e;rw[upd_same];omega
   ·rw[upd_other e];exact h.b8 i
 ·exact⟨a1,by simp only;omega,h.dig,h.lead,by simp only;omega,by simp only;omega,h.b8⟩
theorem FTxt.setOk {s:ByteArray} {p q f:Nat} {sg:Int}(h:FTxt s p q f sg):∀k,k≤q→SetOk (setF s k) k
 |0,_=>SetOk.zero
 |k+1,hk=>by
  refine(h.setOk k (by omega)).step ?_
  by_cases hp:k=p
  ·subst hp;exact .inl h.dot
  ·exact .inr (h.dig k (by omega) hp)
end Go.Pf
end
section
namespace Go.Pf
def dgN (s:ByteArray):Nat→Nat
 |0=>0
 |k+1=>if byte s k=46 then dgN s k else dgN s k*10+(byte s k-48)
structure RFv (s:ByteArray) (p:Nat) (r:RF) (k:Nat):Prop where
 cnt:r.ndm=min r.nd 19
 val:∃rest,dgN s k=r.mant*10^(r.nd-r.ndm)+rest∧rest<10^(r.nd-r.ndm)∧(r.trunc=false→rest=0)
 low:r.nd=0→dgN s k=0
 pos:0<r.nd→0<r.mant
 dp:p<k→r.dp=r.nd-((k:Int)-p-1)
 dp0:k≤p→r.dp≤0
theorem FTxt.rfv {s:ByteArray} {p q f:Nat} {sg:Int}(h:FTxt s p q f sg):∀k,k≤q→RFv s p (rf s k) k
 |0,_=>⟨by simp[rf],⟨0,by simp[rf,dgN]⟩,fun _=>rfl,fun h=>absurd h (by simp[rf]),fun h=>by omega,fun _=>by simp[rf]⟩
 |k+1,hk=>by
  have ih:=h.rfv k (by omega)
  have hdig:=h.dig k (by omega)
  have hdot:=h.dot
  obtain⟨i1,⟨rest,v1,v2,v3⟩,i3,i4,i5,i6⟩:=ih
  rw[rf]
  obtain⟨r,hr⟩:∃r,r=rf s k:=⟨_,rfl⟩
  rw[←hr]at i1 v1 v2 v3 i3 i4 i5 i6⊢
  clear hr
  by_cases hp:k=p
  ·subst hp
   unfold rfStep
   rw[if_pos hdot]
   have e:dgN s (k+1)=dgN s k:=by rw[dgN,if_pos hdot]
   exact⟨i1,⟨rest,by rw[e];exact v1,v2,v3⟩,fun h=>by rw[e];exact i3 h,i4,fun _=>by simp only;omega,fun h=>by omega⟩
  ·have hd:=hdig hp
   have hne:byte s k≠46:=by omega
   have e:dgN s (k+1)=dgN s k*10+(byte s k-48):=by rw[dgN,if_neg hne]
   unfold rfStep
   rw[if_neg hne]
   by_cases hz:byte s k=48∧r.nd=0
   ·rw[if_pos hz]
    have e0:dgN s (k+1)=0:=by rw[e,i3 hz.2,hz.1]
    have hm:r.nd-r.ndm=0:=by omega
    refine⟨i1,⟨rest,?_,v2,v3⟩,fun _=>e0,i4,fun hk=> ?_,fun hk=> ?_⟩
    ·have:=i3 hz.2
     rw[e0];rw[this]at v1;exact v1
    ·simp only;have:=i5 (by omega);omega
    ·simp only;have:=i6 (by omega);omega
   ·rw[if_neg hz]
    by_cases hn:r.ndm<19
    ·rw[if_pos hn]
     have hm:r.nd-r.ndm=0:=by omega
     rw[hm]at v1 v2
     have r0:rest=0:=by simpa using v2
     subst r0
     refine⟨by simp only;omega,⟨0,?_,?_,fun _=>rfl⟩,fun h=>by simp at h,fun _=> ?_,fun hk=> ?_,fun hk=> ?_⟩
     ·simp only
      rw[show r.nd+1-(r.ndm+1)=0 by omega,e,v1]
      simp
     ·exact Nat.pow_pos (by decide)
     ·simp only
      rcases Nat.eq_zero_or_pos r.nd with h0|h0
      ·have:byte s k≠48:=fun h=>hz ⟨h,h0⟩
       omega
      ·have:=i4 h0;omega
     ·simp only;have:=i5 (by omega);omega
     ·simp only;exact i6 (by omega)
    ·rw[if_neg hn]
     have hx:r.nd+1-r.ndm=r.nd-r.ndm+1:=by omega
     refine⟨by simp only;omega,⟨rest*10+(byte s k-48),?_,?_,?_⟩,fun h=>by simp at h,fun _=>i4 (by omega),fun hk=> ?_,fun hk=> ?_⟩
     ·simp only
      rw[e,v1,hx,Nat.pow_succ,←Nat.mul_assoc]
      omega
     ·simp only
      rw[hx,Nat.pow_succ]
      omega
     ·simp only
      intro ht
      have t1:r.trunc=false:=by cases h:r.trunc<;>rw[h]at ht<;>simp at ht⊢
      have t2:byte s k=48:=by rw[t1]at ht;simpa using ht
      rw[v3 t1,t2]
     ·simp only;have:=i5 (by omega);omega
     ·simp only;exact i6 (by omega)
structure STv (s:ByteArray) (p:Nat) (t:DSt) (k:Nat):Prop where
 tr:t.tr=false
 nd:t.nd≤k-(if p<k then 1 else 0)
 val:num t.A t.nd=dgN s k
 low:t.nd=0→dgN s k=0
 dp:p<k→t.dp=t.nd-((k:Int)-p-1)
theorem FTxt.stv {s:ByteArray} {p q f:Nat} {sg:Int}(h:FTxt s p q f sg) (hq:q≤801):∀k,k≤q→STv s p (setF s k) k
 |0,_=>⟨rfl,by simp[setF],by simp[setF,num,dgN],fun _=>rfl,fun h=>by omega⟩
 |k+1,hk=>by
  have ih:=h.stv hq k (by omega)
  have hdig:=h.dig k (by omega)
  have hdot:=h.dot
  obtain⟨i1,i2,i3,i4,i5⟩:=ih
  have pq:=h.pq
  rw[setF]
  obtain⟨t,ht⟩:∃t,t=setF s k:=⟨_,rfl⟩
  rw[←ht]at i1 i2 i3 i4 i5⊢
  clear ht
  by_cases hp:k=p
  ·subst hp
   unfold setStep
   rw[if_pos hdot]
   have e:dgN s (k+1)=dgN s k:=by rw[dgN,if_pos hdot]
   rw[if_neg (by omega)]at i2
   exact⟨i1,by simp only;rw[if_pos (by omega)];omega,by rw[e];exact i3,fun h=>by rw[e];exact i4 h,fun _=>by simp only;omega⟩
  ·have hd:=hdig hp
   have hne:byte s k≠46:=by omega
   have e:dgN s (k+1)=dgN s k*10+(byte s k-48):=by rw[dgN,if_neg hne]
   unfold setStep
   rw[if_neg hne]
   have i2':t.nd+(if p<k+1 then 1 else 0)≤k:=by
    by_cases hh:p<k
    ·rw[if_pos hh]at i2;rw[if_pos (by omega)];omega
    ·rw[if_neg hh]at i2;rw[if_neg (by omega)];omega
   by_cases hz:byte s k=48∧t.nd=0
   ·rw[if_pos hz]
    have e0:dgN s (k+1)=0:=by rw[e,i4 hz.2,hz.1]
    refine⟨i1,by simp only;omega,?_,fun _=>e0,fun hk=> ?_⟩
    ·simp only
     rw[i3,e0,i4 hz.2]
    ·simp only;have:=i5 (by omega);omega
   ·rw[if_neg hz]
    have hlt:t.nd<800:=by
     by_cases hh:p<k
     ·rw[if_pos (by omega)]at i2';omega
     ·have:k<p:=by omega
      omega
    rw[if_pos hlt]
    refine⟨i1,by simp only;omega,?_,fun h=>by simp at h,fun hk=> ?_⟩
    ·simp only
     rw[num,upd_same,num_congr (A':=t.A) t.nd (fun i hi=>upd_other (by omega)),i3,e]
    ·simp only;have:=i5 (by omega);omega
theorem FTxt.dps {s:ByteArray} {p q f:Nat} {sg:Int}(h:FTxt s p q f sg):∀k,k≤q→((setF s k).nd=min (rf s k).nd 800∧((setF s k).dp=(rf s k).dp∨(setF s k).dp=800∧800≤(rf s k).nd))
 |0,_=>⟨by simp[setF,rf],.inl rfl⟩
 |k+1,hk=>by
  obtain⟨i1,i2⟩:=h.dps k (by omega)
  have hdig:=h.dig k (by omega)
  rw[setF,rf]
  obtain⟨t,ht⟩:∃t,t=setF s k:=⟨_,rfl⟩
  obtain⟨r,hr⟩:∃r,r=rf s k:=⟨_,rfl⟩
  rw[←ht,←hr]at i1 i2⊢
  clear ht hr
  unfold setStep rfStep
  by_cases h46:byte s k=46
  ·rw[if_pos h46,if_pos h46]
   refine⟨i1,?_⟩
   simp only
   omega
  ·rw[if_neg h46,if_neg h46]
   by_cases hz:byte s k=48∧r.nd=0
   ·rw[if_pos hz,if_pos ⟨hz.1,by omega⟩]
    refine⟨i1,?_⟩
    simp only
    omega
   ·rw[if_neg hz,if_neg (fun hh=>hz ⟨hh.1,by omega⟩)]
    by_cases h8:t.nd<800
    ·rw[if_pos h8]
     split<;>exact⟨by simp only;omega,by simp only;omega⟩
    ·rw[if_neg h8]
     split<;>exact⟨by simp only;omega,by simp only;omega⟩
end Go.Pf
end
section
namespace Go.Pf
open Ieee
def mg (b:Nat):Nat:=if b<4503599627370496 then b else 4503599627370496+b %4503599627370496
def pe (b:Nat):Nat:=b/4503599627370496-1
def bv (b:Nat):Nat:=mg b*2^pe b
theorem dbl_binade:double.binade=4503599627370496:=by decide
theorem dbl_inf:double.infRung=9218868437227405312:=by decide
theorem dbl_sw:double.signWeight=9223372036854775808:=by decide
theorem dbl_least:double.leastPlace= -1074:=by decide
theorem dbl_frac:double.fractionBits=52:=rfl
theorem read_fin (b:Nat) (h:b<infB):double.read b= .number false (mg b) (-1074+(pe b:Nat)):=by
 unfold infB at h
 unfold Format.read
 have e1:b %9223372036854775808=b:=Nat.mod_eq_of_lt (by omega)
 have e2:b/9223372036854775808=0:=Nat.div_eq_of_lt (by omega)
 simp only[dbl_binade,dbl_inf,dbl_sw,dbl_least,e1,e2]
 unfold mg pe
 by_cases hs:b<4503599627370496
 ·rw[if_pos hs,if_pos hs,Nat.div_eq_of_lt hs]
  rfl
 ·rw[if_neg hs,if_neg hs,if_pos h]
  rfl
theorem read_inf:double.read infB= .infinity false:=by decide
theorem mg_lt (b:Nat):mg b<9007199254740992:=by unfold mg;split<;>omega
theorem bv_mono {a b:Nat}(h:a<b):bv a<bv b:=by
 unfold bv mg pe
 obtain⟨qa,ra,ha,hra⟩:∃q r,a=q*4503599627370496+r∧r<4503599627370496:=⟨a/4503599627370496,a %4503599627370496,by omega,by omega⟩
 obtain⟨qb,rb,hb,hrb⟩:∃q r,b=q*4503599627370496+r∧r<4503599627370496:=⟨b/4503599627370496,b %4503599627370496,by omega,by omega⟩
 have e1:a/4503599627370496=qa:=by omega
 have e2:a %4503599627370496=ra:=by omega
 have e3:b/4503599627370496=qb:=by omega
 have e4:b %4503599627370496=rb:=by omega
 rw[e1,e2,e3,e4]
 by_cases h1:b<4503599627370496
 ·rw[if_pos h1,if_pos (by omega)]
  have z1:qa=0:=by omega
  have z2:qb=0:=by omega
  rw[z1,z2,Nat.zero_sub,Nat.pow_zero,Nat.mul_one,Nat.mul_one]
  exact h
 ·rw[if_neg h1]
  by_cases h2:a<4503599627370496
  ·rw[if_pos h2]
   have z1:qa=0:=by omega
   rw[z1]
   have:1≤2^(qb-1):=Nat.two_pow_pos _
   have:=Nat.mul_le_mul_left (4503599627370496+rb) this
   rw[Nat.zero_sub,Nat.pow_zero]
   omega
  ·rw[if_neg h2]
   by_cases h3:qa=qb
   ·subst h3
    exact Nat.mul_lt_mul_of_pos_right (by omega) (Nat.two_pow_pos _)
   ·have h4:(2:Nat)^(qa-1)*2≤2^(qb-1):=by rw[←Nat.pow_succ];exact Nat.pow_le_pow_right (by decide) (by omega)
    have h5:=Nat.mul_le_mul_left (4503599627370496+rb) h4
    have h6:(4503599627370496+ra)*2^(qa-1)<(4503599627370496+rb)*(2^(qa-1)*2):=by
     rw[Nat.mul_comm (2^(qa-1)) 2,←Nat.mul_assoc]
     exact Nat.mul_lt_mul_of_pos_right (by omega) (Nat.two_pow_pos _)
    omega
theorem order_fin {a b:Nat}(ha:a<infB) (hb:b<infB):double.order a b=some (compare a b):=by
 unfold Format.order
 rw[read_fin a ha,read_fin b hb]
 show some (compare _ _)=_
 congr 1
 obtain⟨k,hk⟩:∃k:Nat,min (-1074+((pe a:Nat):Int)) (-1074+((pe b:Nat):Int))= -1074+(k:Int)∧k≤pe a∧k≤pe b:=⟨min (pe a) (pe b),by omega,by omega,by omega⟩
 obtain⟨hk,k1,k2⟩:=hk
 rw[hk]
 have e1:(-1074+((pe a:Nat):Int)-(-1074+(k:Int))).toNat=pe a-k:=by omega
 have e2:(-1074+((pe b:Nat):Int)-(-1074+(k:Int))).toNat=pe b-k:=by omega
 rw[e1,e2]
 unfold signed
 simp only[Bool.false_eq_true,if_false,Nat.shiftLeft_eq]
 have f1:mg a*2^(pe a-k)*2^k=bv a:=by unfold bv;rw[Nat.mul_assoc,←Nat.pow_add];congr 2;omega
 have f2:mg b*2^(pe b-k)*2^k=bv b:=by unfold bv;rw[Nat.mul_assoc,←Nat.pow_add];congr 2;omega
 have p:=Nat.two_pow_pos k
 rcases Nat.lt_trichotomy a b with h|h|h
 ·have h1:=bv_mono h
  rw[←f1,←f2]at h1
  have h2:=Nat.lt_of_mul_lt_mul_right h1
  rw[Nat.compare_eq_lt.2 h,Int.compare_eq_lt.2 (by omega)]
 ·subst h
  rw[Nat.compare_eq_eq.2 rfl,Int.compare_eq_eq.2 rfl]
 ·have h1:=bv_mono h
  rw[←f1,←f2]at h1
  have h2:=Nat.lt_of_mul_lt_mul_right h1
  rw[Nat.compare_eq_gt.2 h,Int.compare_eq_gt.2 (by omega)]
theorem order_eq {a b:Nat}(ha:a≤infB) (hb:b≤infB):(double.order a b==some .eq)=decide (a=b):=by
 by_cases h1:a<infB
 ·by_cases h2:b<infB
  ·rw[order_fin h1 h2]
   by_cases h:a=b
   ·subst h;rw[Nat.compare_eq_eq.2 rfl];simp
   ·rcases Nat.lt_or_gt_of_ne h with h'|h'
    ·rw[Nat.compare_eq_lt.2 h'];simp[h]
    ·rw[Nat.compare_eq_gt.2 h'];simp[h]
  ·obtain rfl:b=infB:=by omega
   unfold Format.order
   rw[read_fin a h1,read_inf]
   rw[decide_eq_false (by omega)]
   rfl
 ·obtain rfl:a=infB:=by omega
  by_cases h2:b<infB
  ·unfold Format.order
   rw[read_fin b h2,read_inf]
   rw[decide_eq_false (by omega)]
   rfl
  ·obtain rfl:b=infB:=by omega
   unfold Format.order
   rw[read_inf]
   rw[decide_eq_true rfl]
   rfl
theorem cut_even (neg:Bool) (n k:Nat) (h:k≤n.log2+2):Toward.even.cut neg n k=rne n (2^k):=by
 unfold Toward.cut
 simp only[Nat.min_eq_left h,Nat.one_shiftLeft]
 unfold rne
 by_cases h1:2^k<2*(n %2^k)∨(2*(n %2^k)=2^k∧n/2^k %2=1)
 ·rw[if_pos h1]
  have:(decide (2^k<2*(n %2^k))||(2^k==2*(n %2^k)&&n/2^k %2==1))=true:=by
   rcases h1 with h|⟨h,h'⟩
   ·simp[h]
   ·simp[h,h']
  rw[this];rfl
 ·rw[if_neg h1]
  have:(decide (2^k<2*(n %2^k))||(2^k==2*(n %2^k)&&n/2^k %2==1))=false:=by
   rw[Bool.eq_false_iff]
   intro hh
   simp only[Bool.or_eq_true,decide_eq_true_eq,Bool.and_eq_true,beq_iff_eq]at hh
   omega
  rw[this];rfl
theorem word_false (x:Nat):double.word false x=x:=by unfold Format.word;simp
theorem nearest_ok {mag:Nat} {place:Int}(h0:mag≠0) (hn: -1074≤place+mag.log2-52):Fl (mag*2^place.toNat) (2^(-place).toNat) (double.nearest false mag place):=by
 have l1:2^mag.log2≤mag:=Nat.log2_self_le h0
 have l2:mag<2^(mag.log2+1):=Nat.lt_log2_self
 obtain⟨L,hL⟩:∃L,L=mag.log2:=⟨_,rfl⟩
 rw[←hL]at l1 l2 hn
 obtain⟨u,hu⟩:∃u:Nat,place+L-52= -1074+(u:Int):=⟨(place+L-52+1074).toNat,by omega⟩
 unfold Format.nearest
 rw[if_neg h0]
 simp only[dbl_frac,dbl_least,dbl_inf,dbl_binade,←hL]
 rw[show max (place+(L:Int)-((52:Nat):Int)) (-1074)= -1074+(u:Int) by omega,show(-1074+(u:Int)- -1074).toNat=u by omega]
 rw[word_false]
 obtain⟨a,ha⟩:∃a,a=(place-(-1074+(u:Int))).toNat:=⟨_,rfl⟩
 obtain⟨c,hc⟩:∃c,c=(-1074+(u:Int)-place).toNat:=⟨_,rfl⟩
 rw[←ha,←hc,Nat.shiftLeft_eq]
 have hac:(a=0∧(c:Int)=L-52)∨(c=0∧(a:Int)=52-L):=by omega
 have hcut:Toward.even.cut false (mag*2^a) c=rne (mag*2^a) (2^c):=by
  refine cut_even _ _ _ ?_
  rcases hac with⟨h,h'⟩|⟨h,h'⟩
  ·rw[h,Nat.pow_zero,Nat.mul_one,←hL];omega
  ·omega
 rw[hcut]
 have hKZ:KZ=2^KE:=rfl
 have hKE:=KE_eq
 have eq1:mag*2^place.toNat*KZ*2^c=mag*2^a*(2^(-place).toNat*2^u):=by
  rw[hKZ]
  generalize KE=ke at*
  have x:place.toNat+ke+c=a+((-place).toNat+u):=by omega
  calc mag*2^place.toNat*2^ke*2^c=mag*2^(place.toNat+ke+c):=by rw[Nat.pow_add,Nat.pow_add];ac_rfl
   _=mag*2^a*(2^(-place).toNat*2^u):=by rw[x,Nat.pow_add,Nat.pow_add];ac_rfl
 clear hKZ
 have pc:=Nat.two_pow_pos c
 have q1:4503599627370496*2^c≤mag*2^a:=by
  have p52:(4503599627370496:Nat)=2^52:=by decide
  rw[p52,←Nat.pow_add]
  refine Nat.le_trans ?_ (Nat.mul_le_mul_right _ l1)
  rw[←Nat.pow_add]
  exact Nat.pow_le_pow_right (by decide) (by omega)
 have q2:mag*2^a<9007199254740992*2^c:=by
  have p53:(9007199254740992:Nat)=2^53:=by decide
  rw[p53,←Nat.pow_add]
  refine Nat.lt_of_lt_of_le (Nat.mul_lt_mul_of_pos_right l2 (Nat.two_pow_pos a)) ?_
  rw[←Nat.pow_add]
  exact Nat.pow_le_pow_right (by decide) (by omega)
 refine⟨_,⟨u,.inr ?_,?_,rfl⟩,?_⟩
 ·refine Nat.le_of_mul_le_mul_right ?_ pc
  rw[eq1,Nat.mul_right_comm]
  exact Nat.mul_le_mul_right _ q1
 ·refine Nat.lt_of_mul_lt_mul_right (a:=2^c) ?_
  rw[eq1,Nat.mul_right_comm 9007199254740992]
  exact Nat.mul_lt_mul_of_pos_right q2 (Nat.mul_pos (Nat.two_pow_pos _) (Nat.two_pow_pos _))
 ·rw[rne_ratio pc (Nat.mul_pos (Nat.two_pow_pos _) (Nat.two_pow_pos _)) eq1.symm]
  unfold infB
  with_reducible rfl
theorem rne_exact {a b q:Nat}(hb:0<b) (h:a=q*b):rne a b=q:=by
 subst h
 unfold rne
 rw[Nat.mul_mod_left,Nat.mul_div_cancel _ hb,if_neg (by omega)]
theorem fl_whole {N r:Nat}(h0:0<N) (h:N<9007199254740992) (hr:Fl N 1 r):r<infB∧bv r=N*KZ∧4503599627370496≤mg r:=by
 obtain⟨b,⟨u,h1,h2,h3⟩,h4⟩:=hr
 rw[Nat.one_mul]at h1 h2 h3
 have hKZ:KZ=2^KE:=rfl
 have hKE:=KE_eq
 generalize KZ=K at*
 generalize KE=ke at*
 have p53:(9007199254740992:Nat)=2^53:=by decide
 have p52:(4503599627370496:Nat)=2^52:=by decide
 have k1:1*2^ke<2^(53+u):=by
  rw[Nat.pow_add,←p53]
  exact Nat.lt_of_le_of_lt (by rw[hKZ];exact Nat.mul_le_mul_right _ h0) h2
 rw[Nat.one_mul]at k1
 have k2:=(Nat.pow_lt_pow_iff_right (a:=2) (by decide)).1 k1
 have h1':4503599627370496*2^u≤N*K:=by
  rcases h1 with h|h
  ·omega
  ·exact h
 have k3:2^(52+u)<2^(53+ke):=by
  rw[Nat.pow_add,Nat.pow_add,←p53,←p52,←hKZ]
  exact Nat.lt_of_le_of_lt h1' (Nat.mul_lt_mul_of_pos_right h (by rw[hKZ];exact Nat.two_pow_pos _))
 have k4:=(Nat.pow_lt_pow_iff_right (a:=2) (by decide)).1 k3
 obtain⟨j,hj⟩:∃j,ke=u+j:=⟨ke-u,by omega⟩
 have e1:N*K=N*2^j*2^u:=by rw[hKZ,hj,Nat.pow_add];ac_rfl
 have e2:=rne_exact (Nat.two_pow_pos u) e1
 rw[e1]at h2 h1'
 have m1:=Nat.le_of_mul_le_mul_right h1' (Nat.two_pow_pos u)
 have m2:=Nat.lt_of_mul_lt_mul_right h2
 rw[e2]at h3
 generalize N*2^j=M at*
 have hb:b<infB:=by unfold infB;omega
 have hrb:r=b:=by rw[h4];exact Nat.min_eq_left (Nat.le_of_lt hb)
 have d1:b/4503599627370496=u+1:=by omega
 have d2:b %4503599627370496=M-4503599627370496:=by omega
 have d3:¬b<4503599627370496:=by omega
 subst hrb
 refine⟨hb,?_,?_⟩
 ·unfold bv mg pe
  rw[if_neg d3,d1,d2,e1,show 4503599627370496+(M-4503599627370496)=M by omega,show u+1-1=u by omega]
 ·unfold mg
  rw[if_neg d3];omega
theorem pow_ratio {A B k:Nat} {x:Int}(hx:0≤x+k) (h:A*2^(x+k).toNat=B*2^k):A*2^x.toNat=B*2^(-x).toNat:=by
 rcases Int.le_total 0 x with h0|h0
 ·rw[show(-x).toNat=0 by omega,Nat.pow_zero,Nat.mul_one]
  rw[show(x+k).toNat=x.toNat+k by omega,Nat.pow_add,←Nat.mul_assoc]at h
  exact Nat.eq_of_mul_eq_mul_right (Nat.two_pow_pos k) h
 ·rw[show x.toNat=0 by omega,Nat.pow_zero,Nat.mul_one]
  have e:2^k=2^(-x).toNat*2^(x+k).toNat:=by rw[←Nat.pow_add];congr 1;omega
  rw[e,←Nat.mul_assoc]at h
  exact Nat.eq_of_mul_eq_mul_right (Nat.two_pow_pos _) h
end Go.Pf
end
