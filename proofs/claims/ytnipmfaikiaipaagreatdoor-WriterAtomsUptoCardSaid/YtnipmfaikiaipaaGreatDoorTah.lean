import Derived.Test.YtnipmfaikiaipaaGreatDoorTag
set_option maxRecDepth 1000000
set_option maxHeartbeats 40000000
section
namespace Go.Pf
open Ieee
theorem Wx {a b a' b':Nat}(hb:0<b) (hb':0<b') (h:a*b'<=a'*b):JS a b<=JS a' b':=by
 have key:∀x y c,0<c->x<=y->JS x c<=JS y c:=by
  intro x y c hc hxy;have h1:c*(x/c)+x %c=x:=Nat.div_add_mod x c;have h2:c*(y/c)+y %c=y:=Nat.div_add_mod y c;have h3:x/c<=y/c:=Nat.div_le_div_right hxy;unfold JS;by_cases e:x/c=y/c
  ·rw[e]at h1⊢;have:x %c<=y %c:=by omega
   split
   ·split
    ·omega
    ·omega
   ·split<;>omega
  ·split<;>split<;>omega
 rw[Gf (a':=a*b') (b':=b*b') hb (Nat.mul_pos hb hb') (by ac_rfl),Gf (a:=a') (a':=a'*b) (b':=b*b') hb' (Nat.mul_pos hb hb') (by ac_rfl)];exact key _ _ _ (Nat.mul_pos hb hb') h
theorem PM.mono {N D N' D' b b':Nat}(hD:0<D) (hD':0<D') (h:N*D'<=N'*D) (hr:PM N D b) (hr':PM N' D' b'):b<=b':=by
 unfold PM at hr hr';generalize KZ=K at*;obtain⟨u,h1,h2,h3⟩:=hr;obtain⟨v,k1,k2,k3⟩:=hr';have hU:∀w,0<D*2^w:=fun w=>Nat.mul_pos hD (An w);have hU':∀w,0<D'*2^w:=fun w=>Nat.mul_pos hD' (An w);have hx:∀w,N*K*(D'*2^w)<=N'*K*(D*2^w):=fun w=>by
  have e1:N*K*(D'*2^w)=N*D'*(K*2^w):=by ac_rfl
  have e2:N'*K*(D*2^w)=N'*D*(K*2^w):=by ac_rfl
  rw[e1,e2];exact FF _ h
 have huv:u<=v:=by
  rcases h1 with h1|h1
  ·omega
  ·refine PM.unit (N:=N') (D:=D') (K:=K) k2 (.inr ?_);refine Nat.le_of_mul_le_mul_right ?_ hD;have a1:=FF D' h1;have e1:4503599627370496*(D'*2^u)*D=4503599627370496*(D*2^u)*D':=by ac_rfl
   rw[e1];refine To a1 ?_;have e2:N*K*D'=N*D'*K:=by ac_rfl
   have e3:N'*K*D=N'*D*K:=by ac_rfl
   rw[e2,e3];exact FF _ h
 by_cases e:u=v
 ·subst e;rw[h3,k3];have:=Wx (hU u) (hU' u) (hx u);omega
 ·have a1:=Vs (hU u) h2;have a2:4503599627370496<=JS (N'*K) (D'*2^v):=by
   rcases k1 with k1|k1
   ·omega
   ·exact RM _ _ _ (hU' v) k1
  rw[h3,k3];omega
theorem Fl.mono {N D N' D' b b':Nat}(hD:0<D) (hD':0<D') (h:N*D'<=N'*D) (hr:Fl N D b) (hr':Fl N' D' b'):b<=b':=by
 obtain⟨c,h1,h2⟩:=hr;obtain⟨c',k1,k2⟩:=hr';have:=h1.mono hD hD' h k1;omega
theorem Fl.le {N D b:Nat}(h:Fl N D b):b<=BR:=by
 obtain⟨c,h1,h2⟩:=h;omega
def Wh (r N:Nat):Prop:=r<BR/\bv r=N*KZ
def My (a b:Nat):Nat:=(double.mul a b).getD 0
def ZY (a b:Nat):Nat:=(double.div a b).getD 0
theorem Kl {a b:Nat}(ha:a<BR) (hb:b<BR):floatBits .mul .f64 a b=some (My a b):=by
 unfold My;show double.mul a b=some _;unfold Format.mul;rw[Cj a ha,Cj b hb];rfl
theorem Vi {a b:Nat}(ha:a<BR) (hb:b<BR) (hz:mg b≠0):floatBits .quo .f64 a b=some (ZY a b):=by
 unfold ZY;show double.div a b=some _;unfold Format.div;rw[Cj a ha,Cj b hb];unfold Datum.quotient;simp only[if_neg hz];rfl
end Go.Pf
end
section
namespace Go.Pf
open Ieee
def dF:List Nat:= [4607182418800017408,4621819117588971520,4636737291354636288,4652007308841189376,4666723172467343360,4681608360884174848,4696837146684686336,4711630319722168320,4726483295884279808,4741671816366391296,4756540486875873280,4771362005757984768,4786511204640096256,4801453603149578240,4816244402031689728,4831355200913801216,4846369599423283200,4861130398305394688,4876203697187506176,4891288408196988160,4906019910204099648,4921056587992461136,4936209963552724370]
def Gu (k:Nat):Nat:=dF.getD k 0
def Zd (k:Nat):Bool:=Nat.blt (Gu k) BR&&Nat.beq (bv (Gu k)) (10^k*KZ)&&Nat.ble 4503599627370496 (mg (Gu k))
theorem Yk:(List.range 23).all Zd=true:=by kernel_rfl
theorem Nj (k:Nat) (h:k<=22):Wh (Gu k) (10^k)/\4503599627370496<=mg (Gu k):=by
 have h1:=List.all_eq_true.1 Yk k (List.mem_range.2 (by omega));unfold Zd at h1;simp only[Bool.and_eq_true,Nat.blt_eq,Nat.beq_eq,Nat.ble_eq]at h1;exact⟨⟨h1.1.1,h1.1.2⟩,h1.2⟩
def Pv:Nat:=4831355200913801216
def XO (m:Nat):Nat:=floatOfInt .f64 (m:Int)
theorem aS (m:Nat):XO m=double.nearest false m 0:=by
 unfold XO floatOfInt FloatKind.nearest FloatKind.encode;have e:decide ((m:Int)<0)=false:=BC;rw[e,Int.natAbs_natCast];rfl
theorem Z2 {m:Nat}(h:0<m):Fl m 1 (XO m):=by
 rw[aS];have h1:=RZ (mag:=m) (place:=0) (by omega) (by omega);have e:m*2^(0:Int).toNat=m:=by simp
 rw[e]at h1;exact h1
theorem bX {m:Nat}(h:0<m) (h2:m<9007199254740992):Wh (XO m) m/\4503599627370496<=mg (XO m):=by
 obtain⟨a,b,c⟩:=Vq h h2 (Z2 h);exact⟨⟨a,b⟩,c⟩
def cQ (m:Nat) (x:Int):Nat:=if 22<x then My (XO m) (Gu (x-22).toNat)else XO m
def NU (m:Nat) (x:Int):Option Nat:=
 if 4503599627370496<=m then none
 else if x=0 then some (XO m)
 else if 0<x/\x<=37 then(if Pv<cQ m x then none else some (My (cQ m x) (Gu (min x 22).toNat)))
 else if x<0/\ -22<=x then some (ZY (XO m) (Gu (-x).toNat))
 else none
theorem Iq {a b:Nat}(ha:a<=BR) (hb:b<BR):(double.order a b==some .gt)=decide (b<a):=by
 by_cases h1:a<BR
 ·rw[Sy h1 hb];rcases Nat.lt_trichotomy a b with h|h|h
  ·rw[Nat.compare_eq_lt.2 h,AS (by omega)];rfl
  ·subst h;rw[Nat.compare_eq_eq.2 rfl,AS (by omega)];rfl
  ·rw[Nat.compare_eq_gt.2 h,AN h];rfl
 ·obtain rfl:a=BR:=by omega
  unfold Format.order;rw[Cj b hb,O3,AN hb];rfl
theorem RE (m k:Nat):0<=signed false m k:=by unfold signed;rw[if_neg (by decide)];exact Int.natCast_nonneg _
theorem RY (m k:Nat):signed true m k<=0:=by unfold signed;rw[if_pos rfl];have:=Int.natCast_nonneg (m<<<k);omega
theorem ME {a:Nat}(ha:a<=BR):(double.order a 14054727237768577024==some .lt)=false:=by
 have hr:double.read 14054727237768577024= .number true 8000000000000000 (-3):=by decide
 unfold Format.order;rw[hr];by_cases h1:a<BR
 ·rw[Cj a h1];show(some (compare _ _)==some .lt)=false;have a1:=RE (mg a) (-1074+((pe a:Nat):Int)-min (-1074+((pe a:Nat):Int)) (-3)).toNat;have a2:=RY 8000000000000000 ((-3)-min (-1074+((pe a:Nat):Int)) (-3)).toNat;generalize signed false _ _=u at*;generalize signed true _ _=v at*;rw[Lq];intro hh;have h3:compare u v= .lt:=by simpa using hh
  have:=Int.compare_eq_lt.1 h3;omega
 ·obtain rfl:a=BR:=by omega
  rw[O3];rfl
end Go.Pf
end
section
namespace Go.Pf
def TD:Nat:=327
theorem U8:2^(1+KE)<=10^TD:=Nat.le_of_ble_eq_true (by kernel_rfl)
def NR (s:ByteArray) (q f:Nat) (sg:Int):Cm:=⟨(Bp s q).A,(Bp s q).nd,(Bp s q).dp+ef s f (s.size-f)*sg,(Bp s q).tr⟩
theorem X4 {s:ByteArray} {p q f:Nat} {sg:Int}(h:Fc s p q f sg) (hm:(rf s q).Hx≠0):Gd (NR s q f sg):=by
 have ok:=h.Vv q (nR _);have d:=(h.fX q (nR _)).1;obtain⟨i1,⟨rest,v1,v2,v3⟩,i3,i4,i5,_⟩:=h.gH q (nR _);have:0<(rf s q).nd:=by
  rcases dT (rf s q).nd with h0|h0
  ·exfalso;have:=i3 h0;rw[this]at v1;rw[show(rf s q).nd-(rf s q).OL=0 by omega]at v1;simp at v1;omega
  ·exact h0
 have hp:0<(Bp s q).nd:=by omega
 exact⟨hp,ok.n8,ok.lead hp,ok.Bq⟩
theorem YO {s:ByteArray} {p q f:Nat} {sg:Int}(h:Fc s p q f sg) (hm:(rf s q).Hx≠0) (h1: -345<=ID s q f sg) (h2:ID s q f sg<=310): -100000<=(NR s q f sg).dp/\(NR s q f sg).dp<=100000:=by
 have d:=(h.fX q (nR _)).2;have ok:=h.ok q (nR _);have m19:=ok.m19;have he:ef s f (s.size-f)<10^4:=by
  rcases h.tail with⟨t1,t2,t3⟩|⟨t1,t2,t3,t4,t5,t6⟩
  ·rw[t2,Nat.sub_self,ef];decide
  ·exact IN (EM s f (s.size-f) (fun i hi=>(t6 (f+i) (by omega) (by omega)).2)) (AT (by decide) (by omega))
 have hs:sg=1\/sg= -1:=by
  rcases h.tail with⟨t1,t2,t3⟩|⟨t1,t2,t3,_⟩
  ·exact .inl t3
  ·rcases t3 with⟨_,h⟩|⟨_,h,_⟩|⟨_,h,_⟩
   ·exact .inl h
   ·exact .inl h
   ·exact .inr h
 unfold ID at h1 h2;rw[if_neg hm]at h1 h2;unfold NR;simp only;generalize ef s f (s.size-f)=E at*;rcases hs with rfl|rfl
 ·rw[Int.mul_one]at*;omega
 ·omega
end Go.Pf
end
