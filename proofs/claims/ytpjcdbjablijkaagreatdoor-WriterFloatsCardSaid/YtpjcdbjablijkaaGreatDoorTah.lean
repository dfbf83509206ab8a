import Derived.Test.YtpjcdbjablijkaaGreatDoorTag
import Derived.Test.YtpjcdbjablijkaaGreatDoorTaa
set_option maxRecDepth 1000000
set_option maxHeartbeats 40000000
section
namespace Go.Pf
open Ieee
theorem rne_mono {a b a' b':Nat}(hb:0<b) (hb':0<b') (h:a*b'≤a'*b):rne a b≤rne a' b':=by
 have key:∀x y c,0<c→x≤y→rne x c≤rne y c:=by
  intro x y c hc hxy
  have h1:c*(x/c)+x %c=x:=Nat.div_add_mod x c
  have h2:c*(y/c)+y %c=y:=Nat.div_add_mod y c
  have h3:x/c≤y/c:=Nat.div_le_div_right hxy
  unfold rne
  by_cases e:x/c=y/c
  ·rw[e]at h1⊢
   have:x %c≤y %c:=by omega
   split
   ·split
    ·omega
    ·omega
   ·split<;>omega
  ·split<;>split<;>omega
 rw[rne_ratio (a':=a*b') (b':=b*b') hb (Nat.mul_pos hb hb') (by ac_rfl),rne_ratio (a:=a') (a':=a'*b) (b':=b*b') hb' (Nat.mul_pos hb hb') (by ac_rfl)]
 exact key _ _ _ (Nat.mul_pos hb hb') h
theorem Rnd.mono {N D N' D' b b':Nat}(hD:0<D) (hD':0<D') (h:N*D'≤N'*D) (hr:Rnd N D b) (hr':Rnd N' D' b'):b≤b':=by
 unfold Rnd at hr hr'
 generalize KZ=K at*
 obtain⟨u,h1,h2,h3⟩:=hr
 obtain⟨v,k1,k2,k3⟩:=hr'
 have hU:∀w,0<D*2^w:=fun w=>Nat.mul_pos hD (Nat.two_pow_pos w)
 have hU':∀w,0<D'*2^w:=fun w=>Nat.mul_pos hD' (Nat.two_pow_pos w)
 have hx:∀w,N*K*(D'*2^w)≤N'*K*(D*2^w):=fun w=>by
  have e1:N*K*(D'*2^w)=N*D'*(K*2^w):=by ac_rfl
  have e2:N'*K*(D*2^w)=N'*D*(K*2^w):=by ac_rfl
  rw[e1,e2]
  exact Nat.mul_le_mul_right _ h
 have huv:u≤v:=by
  rcases h1 with h1|h1
  ·omega
  ·refine Rnd.unit (N:=N') (D:=D') (K:=K) k2 (.inr ?_)
   refine Nat.le_of_mul_le_mul_right ?_ hD
   have a1:=Nat.mul_le_mul_right D' h1
   have e1:4503599627370496*(D'*2^u)*D=4503599627370496*(D*2^u)*D':=by ac_rfl
   rw[e1]
   refine Nat.le_trans a1 ?_
   have e2:N*K*D'=N*D'*K:=by ac_rfl
   have e3:N'*K*D=N'*D*K:=by ac_rfl
   rw[e2,e3]
   exact Nat.mul_le_mul_right _ h
 by_cases e:u=v
 ·subst e
  rw[h3,k3]
  have:=rne_mono (hU u) (hU' u) (hx u)
  omega
 ·have a1:=rne_lt (hU u) h2
  have a2:4503599627370496≤rne (N'*K) (D'*2^v):=by
   rcases k1 with k1|k1
   ·omega
   ·exact rne_le _ _ _ (hU' v) k1
  rw[h3,k3]
  omega
theorem Fl.mono {N D N' D' b b':Nat}(hD:0<D) (hD':0<D') (h:N*D'≤N'*D) (hr:Fl N D b) (hr':Fl N' D' b'):b≤b':=by
 obtain⟨c,h1,h2⟩:=hr
 obtain⟨c',k1,k2⟩:=hr'
 have:=h1.mono hD hD' h k1
 omega
theorem Fl.le {N D b:Nat}(h:Fl N D b):b≤infB:=by
 obtain⟨c,h1,h2⟩:=h
 omega
theorem rne_sticky (d n c:Nat) (hn:0<n) (hc:0<c):rne (2*(d/n)+(if d %n=0 then 0 else 1)) (4*c)=rne (2*d) (n*(4*c)):=by
 have h1:n*(d/n)+d %n=d:=Nat.div_add_mod d n
 have h2:d %n<n:=Nat.mod_lt _ hn
 obtain⟨st,hst⟩:∃st,st=if d %n=0 then 0 else 1:=⟨_,rfl⟩
 rw[←hst]
 have hs:(d %n=0∧st=0)∨(0<d %n∧st=1):=by
  rw[hst];split
  ·exact .inl ⟨‹_›,rfl⟩
  ·exact .inr ⟨by omega,rfl⟩
 obtain⟨Q,q,hQ,hq⟩:∃Q q,d/n=Q*(2*c)+q∧q<2*c:=⟨d/n/(2*c),d/n %(2*c),(Nat.div_add_mod' _ _).symm,Nat.mod_lt _ (by omega)⟩
 obtain⟨f,hf⟩:∃f,f=d %n:=⟨_,rfl⟩
 rw[←hf]at h1 h2 hs
 rw[hQ]at h1⊢
 clear hst hf hQ
 have e0:Q*(2*c)=2*(Q*c):=by ac_rfl
 have e1:2*(Q*(2*c)+q)+st=Q*(4*c)+(2*q+st):=by
  have:Q*(4*c)=4*(Q*c):=by ac_rfl
  omega
 have a1:(2*(Q*(2*c)+q)+st)/(4*c)=Q:=by
  rw[e1]
  refine Nat.div_eq_of_lt_le (by omega) ?_
  rw[Nat.add_mul];omega
 have a2:(2*(Q*(2*c)+q)+st) %(4*c)=2*q+st:=by
  rw[e1,Nat.add_comm,Nat.add_mul_mod_self_right,Nat.mod_eq_of_lt (by omega)]
 have qn:(q+1)*n≤2*c*n:=Nat.mul_le_mul_right n hq
 rw[Nat.add_mul,Nat.one_mul]at qn
 have e2:2*d=Q*(n*(4*c))+(2*(q*n)+2*f):=by
  rw[←h1]
  have x1:Q*(n*(4*c))=4*(n*(Q*c)):=by ac_rfl
  have x2:n*(Q*(2*c)+q)=2*(n*(Q*c))+q*n:=by
   rw[Nat.mul_add,e0,Nat.mul_comm n q];congr 1;ac_rfl
  omega
 have e3:n*(4*c)=4*(c*n):=by ac_rfl
 have e4:2*c*n=2*(c*n):=by ac_rfl
 have b1:2*d/(n*(4*c))=Q:=by
  rw[e2]
  refine Nat.div_eq_of_lt_le (by omega) ?_
  rw[Nat.add_mul];omega
 have b2:2*d %(n*(4*c))=2*(q*n)+2*f:=by
  rw[e2,Nat.add_comm,Nat.add_mul_mod_self_right,Nat.mod_eq_of_lt (by omega)]
 unfold rne
 rw[a1,a2,b1,b2,e3]
 have cmp:(q<c∧q*n+n≤c*n)∨(q=c∧q*n=c*n)∨(c<q∧c*n+n≤q*n):=by
  rcases Nat.lt_trichotomy q c with h|h|h
  ·have:=Nat.mul_le_mul_right n h
   rw[Nat.succ_mul]at this
   exact .inl ⟨h,this⟩
  ·subst h;exact .inr (.inl ⟨rfl,rfl⟩)
  ·have:=Nat.mul_le_mul_right n h
   rw[Nat.succ_mul]at this
   exact .inr (.inr ⟨h,this⟩)
 have p1:(4*c<2*(2*q+st))↔(4*(c*n)<2*(2*(q*n)+2*f)):=by
  clear e2 b1 b2 a1 a2 e1 h1
  omega
 have p2:(2*(2*q+st)=4*c)↔(2*(2*(q*n)+2*f)=4*(c*n)):=by
  clear e2 b1 b2 a1 a2 e1 h1
  omega
 simp only[p1,p2]
def Wh (r N:Nat):Prop:=r<infB∧bv r=N*KZ
def mulB (a b:Nat):Nat:=(double.mul a b).getD 0
def divB (a b:Nat):Nat:=(double.div a b).getD 0
theorem mul_some {a b:Nat}(ha:a<infB) (hb:b<infB):floatBits .mul .f64 a b=some (mulB a b):=by
 unfold mulB
 show double.mul a b=some _
 unfold Format.mul
 rw[read_fin a ha,read_fin b hb]
 rfl
theorem log_bound {M E k:Nat}(_hM:M≠0) (h:2^k≤M*2^E):k≤M.log2+E:=by
 have l2:M<2^(M.log2+1):=Nat.lt_log2_self
 have:2^k<2^(M.log2+1+E):=by
  refine Nat.lt_of_le_of_lt h ?_
  rw[Nat.pow_add]
  exact Nat.mul_lt_mul_of_pos_right l2 (Nat.two_pow_pos _)
 have:=(Nat.pow_lt_pow_iff_right (a:=2) (by decide)).1 this
 omega
theorem mul_fl {a b m n:Nat}(ha:Wh a m) (hb:Wh b n) (hm:0<m) (hn:0<n):Fl (m*n) 1 (mulB a b):=by
 obtain⟨a1,a2⟩:=ha
 obtain⟨b1,b2⟩:=hb
 unfold mulB Format.mul
 rw[read_fin a a1,read_fin b b1]
 show Fl (m*n) 1 (double.nearest (false^^false) (mg a*mg b) (-1074+(pe a:Nat)+(-1074+(pe b:Nat))))
 have hKZ:KZ=2^KE:=rfl
 have hKE:=KE_eq
 unfold bv at a2 b2
 have eq:mg a*mg b*2^(pe a+pe b)=m*n*2^(KE+KE):=by
  rw[Nat.pow_add,Nat.pow_add,←hKZ]
  calc mg a*mg b*(2^pe a*2^pe b)=(mg a*2^pe a)*(mg b*2^pe b):=by ac_rfl
   _=m*KZ*(n*KZ):=by rw[a2,b2]
   _=m*n*(KZ*KZ):=by generalize KZ=K;ac_rfl
 have mn:0<m*n:=Nat.mul_pos hm hn
 have h0:mg a*mg b≠0:=by
  intro h
  rw[h,Nat.zero_mul]at eq
  have:0<m*n*2^(KE+KE):=Nat.mul_pos mn (Nat.two_pow_pos _)
  omega
 have hl:=log_bound (k:=KE+KE) h0 (by rw[eq];exact Nat.le_mul_of_pos_left _ mn)
 have ok:=nearest_ok (mag:=mg a*mg b) (place:= -1074+(pe a:Nat)+(-1074+(pe b:Nat))) h0 (by omega)
 refine Fl.ratio (Nat.two_pow_pos _) (by decide) ?_ ok
 rw[Nat.mul_one]
 refine pow_ratio (k:=KE+KE) (by omega) ?_
 rw[show(-1074+(pe a:Nat)+(-1074+(pe b:Nat))+((KE+KE:Nat):Int)).toNat=pe a+pe b by omega]
 exact eq
theorem div_some {a b:Nat}(ha:a<infB) (hb:b<infB) (hz:mg b≠0):floatBits .quo .f64 a b=some (divB a b):=by
 unfold divB
 show double.div a b=some _
 unfold Format.div
 rw[read_fin a ha,read_fin b hb]
 unfold Datum.quotient
 simp only[if_neg hz]
 rfl
theorem nearest_val {mag u:Nat} {place:Int}(hL:52≤mag.log2) (hu:place+mag.log2-52= -1074+(u:Int)):double.nearest false mag place=min (u*4503599627370496+rne mag (2^(mag.log2-52))) infB:=by
 have h0:mag≠0:=by
  intro h
  rw[h]at hL
  have:Nat.log2 0=0:=by decide
  omega
 obtain⟨L,hL2⟩:∃L,L=mag.log2:=⟨_,rfl⟩
 unfold Format.nearest
 rw[if_neg h0]
 simp only[dbl_frac,dbl_least,dbl_inf,dbl_binade,←hL2]
 rw[←hL2]at hL hu
 rw[show max (place+(L:Int)-((52:Nat):Int)) (-1074)= -1074+(u:Int) by omega,show(-1074+(u:Int)- -1074).toNat=u by omega,word_false,
  show(place-(-1074+(u:Int))).toNat=0 by omega,show(-1074+(u:Int)-place).toNat=L-52 by omega,Nat.shiftLeft_zero,cut_even _ _ _ (by omega)]
 unfold infB
 with_reducible rfl
theorem log2_of {n k:Nat}(h1:2^k≤n) (h2:n<2^(k+1)):n.log2=k:=by
 have h0:n≠0:=by have:=Nat.two_pow_pos k;omega
 exact(Nat.log2_eq_iff h0).2 ⟨h1,h2⟩
theorem write_num (m:Nat) (p:Int):double.write (.number false m p)=double.nearest false m p:=rfl
theorem getD_map_some (x:Datum):((some x).map double.write).getD 0=double.write x:=rfl
theorem div_eq {a b:Nat}(ha:a<infB) (hb:b<infB) (la:(mg a).log2=52) (lb:(mg b).log2=52) (hz:mg b≠0):
 divB a b=double.nearest false (2*(mg a*18014398509481984/mg b)+(if mg a*18014398509481984 %mg b=0 then 0 else 1)) ((pe a:Int)-pe b-55):=by
 unfold divB Format.div
 rw[read_fin a ha,read_fin b hb]
 unfold Datum.quotient
 simp only[if_neg hz,la,lb,dbl_frac]
 rw[getD_map_some]
 have e0:52+2+52-52=54:=by decide
 have e54:(2:Nat)^54=18014398509481984:=by decide
 rw[e0,Nat.shiftLeft_eq,e54]
 have est:(mg a*18014398509481984 %mg b !=0).toNat=if mg a*18014398509481984 %mg b=0 then 0 else 1:=by
  generalize mg a*18014398509481984 %mg b=z
  by_cases h:z=0
  ·rw[h];rfl
  ·rw[if_neg h];simp[h]
 rw[est,Bool.false_xor,write_num]
 congr 1
 omega
theorem div_fl {a b m n:Nat}(ha:Wh a m) (hb:Wh b n) (hm:0<m) (hn:0<n) (hn2:n<2^74) (g1:4503599627370496≤mg a) (g2:4503599627370496≤mg b):Fl m n (divB a b):=by
 obtain⟨a1,a2⟩:=ha
 obtain⟨b1,b2⟩:=hb
 have p52:(4503599627370496:Nat)=2^52:=by decide
 have p53:(9007199254740992:Nat)=2^53:=by decide
 have la:(mg a).log2=52:=log2_of (by rw[←p52];exact g1) (by have:=mg_lt a;rw[p53]at this;exact this)
 have lb:(mg b).log2=52:=log2_of (by rw[←p52];exact g2) (by have:=mg_lt b;rw[p53]at this;exact this)
 have ma:=mg_lt a
 have mb:=mg_lt b
 rw[div_eq a1 b1 la lb (by omega)]
 clear la lb
 obtain⟨d,hd⟩:∃d,d=mg a*18014398509481984:=⟨_,rfl⟩
 rw[←hd]
 obtain⟨st,hst⟩:∃st,st=if d %mg b=0 then 0 else 1:=⟨_,rfl⟩
 have st1:st≤1:=by rw[hst];split<;>omega
 have hq1:9007199254740992≤d/mg b:=by rw[Nat.le_div_iff_mul_le (by omega)];omega
 obtain⟨M,hM⟩:∃M,M=2*(d/mg b)+st:=⟨_,rfl⟩
 have M0:M≠0:=by omega
 have k1:2^M.log2≤M:=Nat.log2_self_le M0
 have k2:M<2^(M.log2+1):=Nat.lt_log2_self
 obtain⟨L,hL⟩:∃L,L=M.log2:=⟨_,rfl⟩
 rw[←hL]at k1 k2
 have L54:54≤L:=by
  have:(2:Nat)^54<2^(L+1):=by
   refine Nat.lt_of_le_of_lt ?_ k2
   have:(2:Nat)^54=18014398509481984:=by decide
   omega
  have:=(Nat.pow_lt_pow_iff_right (a:=2) (by decide)).1 this
  omega
 have hKZ:KZ=2^KE:=rfl
 have hKE:=KE_eq
 unfold bv at a2 b2
 -- places
 have pa:1022≤pe a:=by
  have:2^KE<2^(53+pe a):=by
   refine Nat.lt_of_le_of_lt (Nat.le_mul_of_pos_left (2^KE) hm) ?_
   rw[←hKZ,←a2,Nat.pow_add,←p53]
   exact Nat.mul_lt_mul_of_pos_right ma (Nat.two_pow_pos _)
  have:=(Nat.pow_lt_pow_iff_right (a:=2) (by decide)).1 this
  omega
 have pb:pe b≤1096:=by
  have:2^(52+pe b)<2^(74+KE):=by
   rw[Nat.pow_add,Nat.pow_add,←p52]
   refine Nat.lt_of_le_of_lt (Nat.mul_le_mul_right _ g2) ?_
   rw[b2,hKZ]
   exact Nat.mul_lt_mul_of_pos_right hn2 (Nat.two_pow_pos _)
  have:=(Nat.pow_lt_pow_iff_right (a:=2) (by decide)).1 this
  omega
 rw[←hst,←hM]
 obtain⟨place,hp2⟩:∃place:Int,place=(pe a:Int)-pe b-55:=⟨_,rfl⟩
 rw[←hp2]
 obtain⟨u,hu⟩:∃u:Nat,place+L-52= -1074+(u:Int):=⟨(place+L-52+1074).toNat,by omega⟩
 rw[nearest_val (u:=u) (by omega) (by rw[←hL];exact hu),←hL]
 obtain⟨c,hc⟩:∃c,L-52=c+2:=⟨L-54,by omega⟩
 have e2c:(2:Nat)^(L-52)=4*2^c:=by rw[hc,Nat.pow_add,Nat.mul_comm]
 have hsk:=rne_sticky d (mg b) (2^c) (by omega) (Nat.two_pow_pos c)
 rw[←hst,←hM,←e2c]at hsk
 rw[hsk]
 -- the fraction
 have B0:0<mg b:=by omega
 have x1:4503599627370496*(mg b*2^(L-52))≤2*d:=by
  have y1:2^L≤2*(d/mg b):=by
   obtain⟨L',rfl⟩:∃L',L=L'+1:=⟨L-1,by omega⟩
   rw[Nat.pow_succ]at k1⊢
   omega
  have y2:d/mg b*mg b≤d:=Nat.div_mul_le_self _ _
  have y3:4503599627370496*(mg b*2^(L-52))=2^L*mg b:=by
   rw[p52,show L=52+(L-52) by omega,Nat.pow_add,show 52+(L-52)-52=L-52 by omega]
   generalize(2:Nat)^52=Z
   ac_rfl
  rw[y3]
  have:=Nat.mul_le_mul_right (mg b) y1
  rw[Nat.mul_assoc]at this
  omega
 have x2:2*d<9007199254740992*(mg b*2^(L-52)):=by
  have y1:2*(d/mg b+1)≤2^(L+1):=by
   rw[Nat.pow_succ]at k2⊢
   omega
  have y2:d<(d/mg b+1)*mg b:=by
   have:=Nat.lt_div_mul_add (a:=d) B0
   rw[Nat.add_mul,Nat.one_mul];exact this
  have y3:9007199254740992*(mg b*2^(L-52))=2^(L+1)*mg b:=by
   rw[p53,show L+1=53+(L-52) by omega,Nat.pow_add]
   generalize(2:Nat)^53=Z
   ac_rfl
  rw[y3]
  have:=Nat.mul_le_mul_right (mg b) y1
  rw[Nat.mul_assoc]at this
  omega
 have eq1:2*d*2^place.toNat*KZ*(mg b*2^(L-52))=2*d*(mg b*2^(-place).toNat*2^u):=by
  rw[hKZ]
  have x:place.toNat+KE+(L-52)=(-place).toNat+u:=by omega
  generalize KE=ke at*
  calc 2*d*2^place.toNat*2^ke*(mg b*2^(L-52))=2*d*(mg b*2^(place.toNat+ke+(L-52))):=by rw[Nat.pow_add,Nat.pow_add];ac_rfl
   _=2*d*(mg b*2^(-place).toNat*2^u):=by rw[x,Nat.pow_add];ac_rfl
 have hD0:0<mg b*2^(-place).toNat:=Nat.mul_pos B0 (Nat.two_pow_pos _)
 have hU0:0<mg b*2^(-place).toNat*2^u:=Nat.mul_pos hD0 (Nat.two_pow_pos _)
 have hC0:0<mg b*2^(L-52):=Nat.mul_pos B0 (Nat.two_pow_pos _)
 have big:Fl (2*d*2^place.toNat) (mg b*2^(-place).toNat) (min (u*4503599627370496+rne (2*d) (mg b*2^(L-52))) infB):=by
  unfold Fl Rnd
  generalize KZ=K at*
  refine⟨_,⟨u,.inr ?_,?_,rfl⟩,?_⟩
  ·refine Nat.le_of_mul_le_mul_right ?_ hC0
   rw[eq1]
   have:4503599627370496*(mg b*2^(-place).toNat*2^u)*(mg b*2^(L-52))=4503599627370496*(mg b*2^(L-52))*(mg b*2^(-place).toNat*2^u):=by ac_rfl
   rw[this]
   exact Nat.mul_le_mul_right _ x1
  ·refine Nat.lt_of_mul_lt_mul_right (a:=mg b*2^(L-52)) ?_
   rw[eq1]
   have:9007199254740992*(mg b*2^(-place).toNat*2^u)*(mg b*2^(L-52))=9007199254740992*(mg b*2^(L-52))*(mg b*2^(-place).toNat*2^u):=by ac_rfl
   rw[this]
   exact Nat.mul_lt_mul_of_pos_right x2 hU0
  ·rw[rne_ratio hC0 hU0 eq1.symm]
 refine Fl.ratio hD0 hn ?_ big
 have k3:mg a*2^pe a*n=m*(mg b*2^pe b):=by
  rw[a2,b2];generalize KZ=K;ac_rfl
 refine Nat.eq_of_mul_eq_mul_right (Nat.two_pow_pos (pe b)) ?_
 rw[hd]
 have x:55+place.toNat+pe b=pe a+(-place).toNat:=by omega
 have e55:2*(mg a*18014398509481984)=mg a*2^55:=by
  have:(2:Nat)^55=36028797018963968:=by decide
  omega
 rw[e55]
 calc mg a*2^55*2^place.toNat*n*2^pe b=mg a*n*2^(55+place.toNat+pe b):=by rw[Nat.pow_add,Nat.pow_add];generalize(2:Nat)^55=Z;ac_rfl
  _=mg a*2^pe a*n*2^(-place).toNat:=by rw[x,Nat.pow_add];ac_rfl
  _=m*(mg b*2^pe b)*2^(-place).toNat:=by rw[k3]
  _=m*(mg b*2^(-place).toNat)*2^pe b:=by ac_rfl
end Go.Pf
end
section
namespace Go.Pf
open Ieee
def pt10L:List Nat:= [4607182418800017408,4621819117588971520,4636737291354636288,4652007308841189376,4666723172467343360,4681608360884174848,4696837146684686336,4711630319722168320,4726483295884279808,4741671816366391296,4756540486875873280,4771362005757984768,4786511204640096256,4801453603149578240,4816244402031689728,4831355200913801216,4846369599423283200,4861130398305394688,4876203697187506176,4891288408196988160,4906019910204099648,4921056587992461136,4936209963552724370]
def pt10 (k:Nat):Nat:=pt10L.getD k 0
def t10ok (k:Nat):Bool:=Nat.blt (pt10 k) infB&&Nat.beq (bv (pt10 k)) (10^k*KZ)&&Nat.ble 4503599627370496 (mg (pt10 k))
theorem t10_all:(List.range 23).all t10ok=true:=by kernel_rfl
theorem t10_wh (k:Nat) (h:k≤22):Wh (pt10 k) (10^k)∧4503599627370496≤mg (pt10 k):=by
 have h1:=List.all_eq_true.1 t10_all k (List.mem_range.2 (by omega))
 unfold t10ok at h1
 simp only[Bool.and_eq_true,Nat.blt_eq,Nat.beq_eq,Nat.ble_eq]at h1
 exact⟨⟨h1.1.1,h1.1.2⟩,h1.2⟩
def pt15:Nat:=4831355200913801216
theorem fl53:Fl 9007199254740992 1 4845873199050653696:=by
 have h:=nearest_ok (mag:=9007199254740992) (place:=0) (by decide) (by decide)
 have e:double.nearest false 9007199254740992 0=4845873199050653696:=by decide
 rw[e]at h
 exact h
def foi (m:Nat):Nat:=floatOfInt .f64 (m:Int)
theorem foi_eq (m:Nat):foi m=double.nearest false m 0:=by
 unfold foi floatOfInt FloatKind.nearest FloatKind.encode
 have e:decide ((m:Int)<0)=false:=dFo
 rw[e,Int.natAbs_natCast]
 rfl
theorem foi_fl {m:Nat}(h:0<m):Fl m 1 (foi m):=by
 rw[foi_eq]
 have h1:=nearest_ok (mag:=m) (place:=0) (by omega) (by omega)
 have e:m*2^(0:Int).toNat=m:=by simp
 rw[e]at h1
 exact h1
theorem foi_wh {m:Nat}(h:0<m) (h2:m<9007199254740992):Wh (foi m) m∧4503599627370496≤mg (foi m):=by
 obtain⟨a,b,c⟩:=fl_whole h h2 (foi_fl h)
 exact⟨⟨a,b⟩,c⟩
def axF (m:Nat) (x:Int):Nat:=if 22<x then mulB (foi m) (pt10 (x-22).toNat)else foi m
def axN (m:Nat) (x:Int):Option Nat:=
 if 4503599627370496≤m then none
 else if x=0 then some (foi m)
 else if 0<x∧x≤37 then(if pt15<axF m x then none else some (mulB (axF m x) (pt10 (min x 22).toNat)))
 else if x<0∧ -22≤x then some (divB (foi m) (pt10 (-x).toNat))
 else none
theorem axF_wh {m:Nat} {x:Int}(h0:0<m) (h1:m<4503599627370496) (hx:0<x) (hx2:x≤37) (h:¬pt15<axF m x):Wh (axF m x) (m*10^(x-22).toNat):=by
 unfold axF at h⊢
 by_cases h22:22<x
 ·rw[if_pos h22]at h⊢
  obtain⟨f1,f2⟩:=foi_wh h0 (by omega)
  obtain⟨g1,g2⟩:=t10_wh (x-22).toNat (by omega)
  have fl:=mul_fl f1 g1 h0 (Nat.pow_pos (by decide))
  have hN:m*10^(x-22).toNat<9007199254740992:=by
   apply Classical.byContradiction
   intro hh
   have:=Fl.mono (N:=9007199254740992) (D:=1) (by decide) (by decide) (by omega) fl53 fl
   unfold pt15 at h
   omega
  obtain⟨a,b,c⟩:=fl_whole (Nat.mul_pos h0 (Nat.pow_pos (by decide))) hN fl
  exact⟨a,b⟩
 ·rw[if_neg h22]at h⊢
  obtain⟨f1,f2⟩:=foi_wh h0 (by omega)
  rw[show(x-22).toNat=0 by omega,Nat.pow_zero,Nat.mul_one]
  exact f1
theorem axN_ok {m r:Nat} {x:Int}(h0:0<m) (h:axN m x=some r):Fl (m*10^x.toNat) (10^(-x).toNat) r:=by
 unfold axN at h
 by_cases h1:4503599627370496≤m
 ·rw[if_pos h1]at h;cases h
 rw[if_neg h1]at h
 by_cases h2:x=0
 ·rw[if_pos h2]at h
  cases h
  subst h2
  have:=foi_fl h0
  simpa using this
 rw[if_neg h2]at h
 by_cases h3:0<x∧x≤37
 ·rw[if_pos h3]at h
  by_cases h4:pt15<axF m x
  ·rw[if_pos h4]at h;cases h
  rw[if_neg h4]at h
  cases h
  have w:=axF_wh h0 (by omega) h3.1 h3.2 h4
  obtain⟨g1,g2⟩:=t10_wh (min x 22).toNat (by omega)
  have fl:=mul_fl w g1 (Nat.mul_pos h0 (Nat.pow_pos (by decide))) (Nat.pow_pos (by decide))
  rw[Nat.mul_assoc,←Nat.pow_add,show(x-22).toNat+(min x 22).toNat=x.toNat by omega]at fl
  rw[show(-x).toNat=0 by omega,Nat.pow_zero]
  exact fl
 rw[if_neg h3]at h
 by_cases h4:x<0∧ -22≤x
 ·rw[if_pos h4]at h
  cases h
  obtain⟨f1,f2⟩:=foi_wh h0 (by omega)
  obtain⟨g1,g2⟩:=t10_wh (-x).toNat (by omega)
  have p22:(10:Nat)^(-x).toNat≤10^22:=Nat.pow_le_pow_right (by decide) (by omega)
  have fl:=div_fl f1 g1 h0 (Nat.pow_pos (by decide)) (Nat.lt_of_le_of_lt p22 (by decide)) f2 g2
  rw[show x.toNat=0 by omega,Nat.pow_zero,Nat.mul_one]
  exact fl
 ·rw[if_neg h4]at h;cases h
theorem order_gt {a b:Nat}(ha:a≤infB) (hb:b<infB):(double.order a b==some .gt)=decide (b<a):=by
 by_cases h1:a<infB
 ·rw[order_fin h1 hb]
  rcases Nat.lt_trichotomy a b with h|h|h
  ·rw[Nat.compare_eq_lt.2 h,decide_eq_false (by omega)];rfl
  ·subst h;rw[Nat.compare_eq_eq.2 rfl,decide_eq_false (by omega)];rfl
  ·rw[Nat.compare_eq_gt.2 h,decide_eq_true h];rfl
 ·obtain rfl:a=infB:=by omega
  unfold Format.order
  rw[read_fin b hb,read_inf,decide_eq_true hb]
  rfl
theorem signed_pos (m k:Nat):0≤signed false m k:=by unfold signed;rw[if_neg (by decide)];exact Int.natCast_nonneg _
theorem signed_neg (m k:Nat):signed true m k≤0:=by unfold signed;rw[if_pos rfl];have:=Int.natCast_nonneg (m<<<k);omega
theorem order_neg {a:Nat}(ha:a≤infB):(double.order a 14054727237768577024==some .lt)=false:=by
 have hr:double.read 14054727237768577024= .number true 8000000000000000 (-3):=by decide
 unfold Format.order
 rw[hr]
 by_cases h1:a<infB
 ·rw[read_fin a h1]
  show(some (compare _ _)==some .lt)=false
  have a1:=signed_pos (mg a) (-1074+((pe a:Nat):Int)-min (-1074+((pe a:Nat):Int)) (-3)).toNat
  have a2:=signed_neg 8000000000000000 ((-3)-min (-1074+((pe a:Nat):Int)) (-3)).toNat
  generalize signed false _ _=u at*
  generalize signed true _ _=v at*
  rw[Bool.eq_false_iff]
  intro hh
  have h3:compare u v= .lt:=by simpa using hh
  have:=Int.compare_eq_lt.1 h3
  omega
 ·obtain rfl:a=infB:=by omega
  rw[read_inf]
  rfl
end Go.Pf
end
section
namespace Go.Pf
def fx (s:ByteArray) (p q f:Nat) (sg:Int):Int:=ef s f (s.size-f)*sg-((q:Int)-p-1)
def FlT (s:ByteArray) (p q f:Nat) (sg:Int) (b:Nat):Prop:=Fl (dgN s q*10^(fx s p q f sg).toNat) (10^(-fx s p q f sg).toNat) b
def TD:Nat:=327
theorem small10':2^(1+KE)≤10^TD:=Nat.le_of_ble_eq_true (by kernel_rfl)
structure AtF (s:ByteArray) (p q f:Nat) (sg:Int) (j:Nat):Prop where
 ex:(rf s q).mant≠0→rfExp s q f sg=fx s p q f sg+j
 lo:(rf s q).mant*10^j≤dgN s q
 hi:dgN s q<((rf s q).mant+1)*10^j
 eq:(rf s q).trunc=false→dgN s q=(rf s q).mant*10^j
 nil:(rf s q).mant=0→dgN s q=0
theorem FTxt.atF {s:ByteArray} {p q f:Nat} {sg:Int}(h:FTxt s p q f sg):∃j,AtF s p q f sg j:=by
 obtain⟨i1,⟨rest,v1,v2,v3⟩,i3,i4,i5,_⟩:=h.rfv q (nR _)
 have pq:=h.pq
 have dp:=i5 (by omega)
 refine⟨(rf s q).nd-(rf s q).ndm,⟨fun hm=> ?_,by omega,?_,fun ht=> ?_,fun hm=> ?_⟩⟩
 ·unfold rfExp fx
  rw[if_neg hm,dp]
  omega
 ·rw[Nat.add_mul,Nat.one_mul];omega
 ·rw[v3 ht]at v1;exact v1
 ·rcases Nat.eq_zero_or_pos (rf s q).nd with h0|h0
  ·exact i3 h0
  ·have:=i4 h0;omega
theorem at_nil {s:ByteArray} {p q f:Nat} {sg:Int}(h:FTxt s p q f sg) (hm:(rf s q).mant=0):FlT s p q f sg 0:=by
 obtain⟨j,a⟩:=h.atF
 unfold FlT
 rw[a.nil hm,Nat.zero_mul]
 refine Fl.nought ?_
 rw[Nat.zero_mul]
 exact pow_pos10 _
theorem pow_le_cross {x:Int} {j:Nat} :x.toNat+(j-x).toNat=(x-j).toNat+(-x).toNat+j:=by omega
theorem at_inf {s:ByteArray} {p q f:Nat} {sg:Int}(h:FTxt s p q f sg) (hm:(rf s q).mant≠0) (hx:310<rfExp s q f sg):FlT s p q f sg infB:=by
 obtain⟨j,a⟩:=h.atF
 have ex:=a.ex hm
 have lo:=a.lo
 unfold FlT
 refine Fl.inf (pow_pos10 _) ?_
 refine Nat.le_trans (Nat.mul_le_mul_right _ big10) ?_
 have l1:10^j≤dgN s q:=Nat.le_trans (Nat.le_mul_of_pos_left _ (by omega)) lo
 refine Nat.le_trans ?_ (Nat.mul_le_mul_right _ l1)
 rw[←Nat.pow_add,←Nat.pow_add]
 refine Nat.pow_le_pow_right (by decide) ?_
 unfold TB
 omega
theorem at_low {s:ByteArray} {p q f:Nat} {sg:Int}(h:FTxt s p q f sg) (hm:(rf s q).mant≠0) (hx:rfExp s q f sg< -345):FlT s p q f sg 0:=by
 obtain⟨j,a⟩:=h.atF
 have ex:=a.ex hm
 have hi:=a.hi
 have ml:=mant_lt (h.ok q (nR _))
 unfold FlT
 refine Fl.nought ?_
 rw[show(fx s p q f sg).toNat=0 by omega,Nat.pow_zero,Nat.mul_one]
 have s10:=small10'
 have hKZ:KZ=2^KE:=rfl
 rw[Nat.pow_add,Nat.pow_one,←hKZ]at s10
 clear hKZ
 have K0:=KZ_pos
 generalize KZ=K at*
 have h1:dgN s q<10^19*10^j:=Nat.lt_of_lt_of_le hi (Nat.mul_le_mul_right _ ml)
 have h2:2*(dgN s q*K)=dgN s q*(2*K):=by ac_rfl
 rw[h2]
 refine Nat.lt_of_lt_of_le (Nat.mul_lt_mul_of_pos_right h1 (by omega)) ?_
 refine Nat.le_trans (Nat.mul_le_mul_left _ s10) ?_
 rw[←Nat.pow_add,←Nat.pow_add]
 refine Nat.pow_le_pow_right (by decide) ?_
 unfold TD
 omega
theorem at_eq {s:ByteArray} {p q f:Nat} {sg:Int} {b:Nat}(h:FTxt s p q f sg) (hm:(rf s q).mant≠0) (ht:(rf s q).trunc=false)
 (hf:Fl ((rf s q).mant*10^(rfExp s q f sg).toNat) (10^(-rfExp s q f sg).toNat) b):FlT s p q f sg b:=by
 obtain⟨j,a⟩:=h.atF
 have ex:=a.ex hm
 have eq:=a.eq ht
 refine Fl.ratio (pow_pos10 _) (pow_pos10 _) ?_ hf
 rw[eq]
 generalize rfExp s q f sg=x at*
 generalize fx s p q f sg=y at*
 have e:=pow_le_cross (x:=x) (j:=j)
 have y1:y=x-j:=by omega
 have y2: -y=j-x:=by omega
 rw[y2,y1,Nat.mul_assoc,←Nat.pow_add,e,Nat.mul_assoc,Nat.mul_assoc,←Nat.pow_add,←Nat.pow_add]
 congr 2
 omega
end Go.Pf
end
