import Derived.Test.YtpjcdbjablijkaaGreatDoorTaf
import Derived.Test.YtpjcdbjablijkaaGreatDoorTae
import Derived.Laws.FloatArith
import Derived.Test.YtpjcdbjablijkaaGreatDoorTaa
set_option maxRecDepth 1000000
set_option maxHeartbeats 40000000
section
namespace Go.Pf
theorem Rnd.ex (N D:Nat) (hD:0<D):∃b,Rnd N D b:=by
 unfold Rnd
 generalize KZ=K
 have hk:∀n,N*K<9007199254740992*(D*2^n)→∃u,N*K<9007199254740992*(D*2^u)∧(u=0∨4503599627370496*(D*2^u)≤N*K):=by
  intro n
  induction n with
  |zero=>exact fun h=>⟨0,h,.inl rfl⟩
  |succ n ih=>
   intro h
   by_cases h2:N*K<9007199254740992*(D*2^n)
   ·exact ih h2
   ·refine⟨n+1,h,.inr ?_⟩
    rw[Nat.pow_succ,Nat.mul_comm (2^n) 2,Nat.mul_left_comm D 2]
    omega
 have h0:N*K<9007199254740992*(D*2^(N*K)):=by
  have h1:N*K<2^(N*K):=Nat.lt_two_pow_self
  have h2:1*2^(N*K)≤D*2^(N*K):=Nat.mul_le_mul_right _ hD
  omega
 obtain⟨u,a,b⟩:=hk _ h0
 exact⟨_,u,b,a,rfl⟩
def TA:Nat:=1024
theorem rne_le (a b q:Nat) (hb:0<b) (h:q*b≤a):q≤rne a b:=by
 have:q≤a/b:=(Nat.le_div_iff_mul_le hb).2 h
 unfold rne
 split<;>omega
theorem Fl.inf {N D:Nat}(hD:0<D) (h:2^TA*D≤N):Fl N D infB:=by
 obtain⟨b,hr⟩:=Rnd.ex N D hD
 refine⟨b,hr,(Nat.min_eq_right ?_).symm⟩
 obtain⟨u,h1,h2,h3⟩:=hr
 have hKZ:KZ=2^KE:=rfl
 have hKE:=KE_eq
 have hTA:TA=1024:=rfl
 generalize KZ=K at*
 generalize KE=ke at*
 generalize TA=ta at*
 have p53:(9007199254740992:Nat)=2^53:=by decide
 have k1:2^(ta+ke)*D<2^(53+u)*D:=by
  have a1:2^ta*D*2^ke≤N*K:=by rw[hKZ];exact Nat.mul_le_mul_right _ h
  have a2:2^(ta+ke)*D=2^ta*D*2^ke:=by rw[Nat.pow_add];ac_rfl
  have a3:2^(53+u)*D=9007199254740992*(D*2^u):=by rw[p53,Nat.pow_add];generalize(2:Nat)^53=Z;ac_rfl
  rw[a2,a3]
  exact Nat.lt_of_le_of_lt a1 h2
 have k2:=(Nat.pow_lt_pow_iff_right (a:=2) (by decide)).1 (Nat.lt_of_mul_lt_mul_right k1)
 have u1:2046≤u:=by omega
 have h4:4503599627370496*(D*2^u)≤N*K:=by
  rcases h1 with h|h
  ·omega
  ·exact h
 have h5:=rne_le _ _ 4503599627370496 (Nat.mul_pos hD (Nat.two_pow_pos u)) h4
 rw[h3]
 unfold infB
 omega
theorem Fl.nought {N D:Nat}(h:2*(N*KZ)<D):Fl N D 0:=by
 refine⟨0,⟨0,.inl rfl,?_,?_⟩,rfl⟩
 ·rw[Nat.pow_zero,Nat.mul_one]
  omega
 ·rw[Nat.pow_zero,Nat.mul_one,Nat.zero_mul,Nat.zero_add]
  unfold rne
  rw[Nat.mod_eq_of_lt (by omega),Nat.div_eq_of_lt (by omega),if_neg (by omega)]
end Go.Pf
end
section
namespace Go.Pf
theorem rne_lt {a b q:Nat}(hb:0<b) (h:a<q*b):rne a b≤q:=by
 have:a/b<q:=(Nat.div_lt_iff_lt_mul hb).2 h
 unfold rne
 split<;>omega
def TB:Nat:=310
theorem big10:2^TA≤10^TB:=Nat.le_of_ble_eq_true (by kernel_rfl)
end Go.Pf
end
section
namespace Go.Pf
def setStep (t:DSt) (c:Nat):DSt:=
 if c=46 then {t with dp:=t.nd}
 else if c=48∧t.nd=0 then {t with dp:=t.dp-1}
 else if t.nd<800 then {t with A:=upd t.A t.nd c,nd:=t.nd+1}
 else {t with tr:=t.tr||(c !=48)}
structure SetOk (t:DSt) (k:Nat):Prop where
 n8:t.nd≤800
 nk:t.nd≤k
 dig:∀i,i<t.nd→48≤t.A i∧t.A i≤57
 lead:0<t.nd→49≤t.A 0
 lo: -(k:Int)≤t.dp
 hi:t.dp≤800
 b8:∀i,t.A i<256
theorem SetOk.zero:SetOk ⟨fun _=>0,0,0,false⟩ 0:=⟨by decide,by decide,fun i h=>absurd h (by simp),fun h=>absurd h (by simp),by decide,by decide,fun _=>by simp⟩
theorem SetOk.step {t:DSt} {k:Nat}(h:SetOk t k){c:Nat}(hc:c=46∨(48≤c∧c≤57)):SetOk (setStep t c) (k+1):=by
 have a1:=h.n8;have a2:=h.nk;have a5:=h.lo;have a6:=h.hi
 unfold setStep
 split
 ·exact⟨a1,by simp only;omega,h.dig,h.lead,by simp only;omega,by simp only;omega,h.b8⟩
 split
 ·exact⟨a1,by simp only;omega,h.dig,h.lead,by simp only;omega,by simp only;omega,h.b8⟩
 split
 ·rename_i h1 h2 h3
  refine⟨by simp only;omega,by simp only;omega,?_,?_,by simp only;omega,by simp only;omega,?_⟩
  ·intro i hi
   simp only at hi⊢
   by_cases e:i=t.nd
   ·subst e;rw[upd_same];omega
   ·rw[upd_other e];exact h.dig i (by omega)
  ·intro _
   simp only
   by_cases e:t.nd=0
   ·rw[e,upd_same];omega
   ·rw[upd_other (by omega)];exact h.lead (by omega)
  ·intro i
   simp only
   by_cases e:i=t.nd
   ·subst e;rw[upd_same];omega
   ·rw[upd_other e];exact h.b8 i
 ·exact⟨a1,by simp only;omega,h.dig,h.lead,by simp only;omega,by simp only;omega,h.b8⟩
end Go.Pf
end
section
namespace Go.Pf
def dgN (s:ByteArray):Nat→Nat
 |0=>0
 |k+1=>if byte s k=46 then dgN s k else dgN s k*10+(byte s k-48)
structure RFv (s:ByteArray) (p:Nat) (r:RF) (k:Nat):Prop where
 cnt:r.ndm=min r.nd 19
 val:∃rest,dgN s k=r.mant*10^(r.nd-r.ndm)+rest∧rest<10^(r.nd-r.ndm)∧(r.trunc=false→rest=0)
 low:r.nd=0→dgN s k=0
 pos:0<r.nd→0<r.mant
 dp:p<k→r.dp=r.nd-((k:Int)-p-1)
 dp0:k≤p→r.dp≤0
theorem FTxt.rfv {s:ByteArray} {p q f:Nat} {sg:Int}(h:FTxt s p q f sg):∀k,k≤q→RFv s p (rf s k) k
 |0,_=>⟨by simp[rf],⟨0,by simp[rf,dgN]⟩,fun _=>rfl,fun h=>absurd h (by simp[rf]),fun h=>by omega,fun _=>by simp[rf]⟩
 |k+1,hk=>by
  have ih:=h.rfv k (by omega)
  have hdig:=h.dig k (by omega)
  have hdot:=h.dot
  obtain⟨i1,⟨rest,v1,v2,v3⟩,i3,i4,i5,i6⟩:=ih
  rw[rf]
  obtain⟨r,hr⟩:∃r,r=rf s k:=⟨_,rfl⟩
  rw[←hr]at i1 v1 v2 v3 i3 i4 i5 i6⊢
  clear hr
  by_cases hp:k=p
  ·subst hp
   unfold rfStep
   rw[if_pos hdot]
   have e:dgN s (k+1)=dgN s k:=by rw[dgN,if_pos hdot]
   exact⟨i1,⟨rest,by rw[e];exact v1,v2,v3⟩,fun h=>by rw[e];exact i3 h,i4,fun _=>by simp only;omega,fun h=>by omega⟩
  ·have hd:=hdig hp
   have hne:byte s k≠46:=by omega
   have e:dgN s (k+1)=dgN s k*10+(byte s k-48):=by rw[dgN,if_neg hne]
   unfold rfStep
   rw[if_neg hne]
   by_cases hz:byte s k=48∧r.nd=0
   ·rw[if_pos hz]
    have e0:dgN s (k+1)=0:=by rw[e,i3 hz.2,hz.1]
    have hm:r.nd-r.ndm=0:=by omega
    refine⟨i1,⟨rest,?_,v2,v3⟩,fun _=>e0,i4,fun hk=> ?_,fun hk=> ?_⟩
    ·have:=i3 hz.2
     rw[e0];rw[this]at v1;exact v1
    ·simp only;have:=i5 (by omega);omega
    ·simp only;have:=i6 (by omega);omega
   ·rw[if_neg hz]
    by_cases hn:r.ndm<19
    ·rw[if_pos hn]
     have hm:r.nd-r.ndm=0:=by omega
     rw[hm]at v1 v2
     have r0:rest=0:=by simpa using v2
     subst r0
     refine⟨by simp only;omega,⟨0,?_,?_,fun _=>rfl⟩,fun h=>by simp at h,fun _=> ?_,fun hk=> ?_,fun hk=> ?_⟩
     ·simp only
      rw[show r.nd+1-(r.ndm+1)=0 by omega,e,v1]
      simp
     ·exact Nat.pow_pos (by decide)
     ·simp only
      rcases Nat.eq_zero_or_pos r.nd with h0|h0
      ·have:byte s k≠48:=fun h=>hz ⟨h,h0⟩
       omega
      ·have:=i4 h0;omega
     ·simp only;have:=i5 (by omega);omega
     ·simp only;exact i6 (by omega)
    ·rw[if_neg hn]
     have hx:r.nd+1-r.ndm=r.nd-r.ndm+1:=by omega
     refine⟨by simp only;omega,⟨rest*10+(byte s k-48),?_,?_,?_⟩,fun h=>by simp at h,fun _=>i4 (by omega),fun hk=> ?_,fun hk=> ?_⟩
     ·simp only
      rw[e,v1,hx,Nat.pow_succ,←Nat.mul_assoc]
      omega
     ·simp only
      rw[hx,Nat.pow_succ]
      omega
     ·simp only
      intro ht
      have t1:r.trunc=false:=by cases h:r.trunc<;>rw[h]at ht<;>simp at ht⊢
      have t2:byte s k=48:=by rw[t1]at ht;simpa using ht
      rw[v3 t1,t2]
     ·simp only;have:=i5 (by omega);omega
     ·simp only;exact i6 (by omega)
end Go.Pf
end
section
namespace Go.Pf
open Ieee
def mg (b:Nat):Nat:=if b<4503599627370496 then b else 4503599627370496+b %4503599627370496
def pe (b:Nat):Nat:=b/4503599627370496-1
def bv (b:Nat):Nat:=mg b*2^pe b
theorem dbl_binade:double.binade=4503599627370496:=by decide
theorem dbl_inf:double.infRung=9218868437227405312:=by decide
theorem dbl_sw:double.signWeight=9223372036854775808:=by decide
theorem dbl_least:double.leastPlace= -1074:=by decide
theorem dbl_frac:double.fractionBits=52:=rfl
theorem read_fin (b:Nat) (h:b<infB):double.read b= .number false (mg b) (-1074+(pe b:Nat)):=by
 unfold infB at h
 unfold Format.read
 have e1:b %9223372036854775808=b:=Nat.mod_eq_of_lt (by omega)
 have e2:b/9223372036854775808=0:=Nat.div_eq_of_lt (by omega)
 simp only[dbl_binade,dbl_inf,dbl_sw,dbl_least,e1,e2]
 unfold mg pe
 by_cases hs:b<4503599627370496
 ·rw[if_pos hs,if_pos hs,Nat.div_eq_of_lt hs]
  rfl
 ·rw[if_neg hs,if_neg hs,if_pos h]
  rfl
theorem read_inf:double.read infB= .infinity false:=by decide
theorem mg_lt (b:Nat):mg b<9007199254740992:=by unfold mg;split<;>omega
theorem bv_mono {a b:Nat}(h:a<b):bv a<bv b:=by
 unfold bv mg pe
 obtain⟨qa,ra,ha,hra⟩:∃q r,a=q*4503599627370496+r∧r<4503599627370496:=⟨a/4503599627370496,a %4503599627370496,by omega,by omega⟩
 obtain⟨qb,rb,hb,hrb⟩:∃q r,b=q*4503599627370496+r∧r<4503599627370496:=⟨b/4503599627370496,b %4503599627370496,by omega,by omega⟩
 have e1:a/4503599627370496=qa:=by omega
 have e2:a %4503599627370496=ra:=by omega
 have e3:b/4503599627370496=qb:=by omega
 have e4:b %4503599627370496=rb:=by omega
 rw[e1,e2,e3,e4]
 by_cases h1:b<4503599627370496
 ·rw[if_pos h1,if_pos (by omega)]
  have z1:qa=0:=by omega
  have z2:qb=0:=by omega
  rw[z1,z2,Nat.zero_sub,Nat.pow_zero,Nat.mul_one,Nat.mul_one]
  exact h
 ·rw[if_neg h1]
  by_cases h2:a<4503599627370496
  ·rw[if_pos h2]
   have z1:qa=0:=by omega
   rw[z1]
   have:1≤2^(qb-1):=Nat.two_pow_pos _
   have:=Nat.mul_le_mul_left (4503599627370496+rb) this
   rw[Nat.zero_sub,Nat.pow_zero]
   omega
  ·rw[if_neg h2]
   by_cases h3:qa=qb
   ·subst h3
    exact Nat.mul_lt_mul_of_pos_right (by omega) (Nat.two_pow_pos _)
   ·have h4:(2:Nat)^(qa-1)*2≤2^(qb-1):=by rw[←Nat.pow_succ];exact Nat.pow_le_pow_right (by decide) (by omega)
    have h5:=Nat.mul_le_mul_left (4503599627370496+rb) h4
    have h6:(4503599627370496+ra)*2^(qa-1)<(4503599627370496+rb)*(2^(qa-1)*2):=by
     rw[Nat.mul_comm (2^(qa-1)) 2,←Nat.mul_assoc]
     exact Nat.mul_lt_mul_of_pos_right (by omega) (Nat.two_pow_pos _)
    omega
theorem order_fin {a b:Nat}(ha:a<infB) (hb:b<infB):double.order a b=some (compare a b):=by
 unfold Format.order
 rw[read_fin a ha,read_fin b hb]
 show some (compare _ _)=_
 congr 1
 obtain⟨k,hk⟩:∃k:Nat,min (-1074+((pe a:Nat):Int)) (-1074+((pe b:Nat):Int))= -1074+(k:Int)∧k≤pe a∧k≤pe b:=⟨min (pe a) (pe b),by omega,by omega,by omega⟩
 obtain⟨hk,k1,k2⟩:=hk
 rw[hk]
 have e1:(-1074+((pe a:Nat):Int)-(-1074+(k:Int))).toNat=pe a-k:=by omega
 have e2:(-1074+((pe b:Nat):Int)-(-1074+(k:Int))).toNat=pe b-k:=by omega
 rw[e1,e2]
 unfold signed
 simp only[Bool.false_eq_true,if_false,Nat.shiftLeft_eq]
 have f1:mg a*2^(pe a-k)*2^k=bv a:=by unfold bv;rw[Nat.mul_assoc,←Nat.pow_add];congr 2;omega
 have f2:mg b*2^(pe b-k)*2^k=bv b:=by unfold bv;rw[Nat.mul_assoc,←Nat.pow_add];congr 2;omega
 have p:=Nat.two_pow_pos k
 rcases Nat.lt_trichotomy a b with h|h|h
 ·have h1:=bv_mono h
  rw[←f1,←f2]at h1
  have h2:=Nat.lt_of_mul_lt_mul_right h1
  rw[Nat.compare_eq_lt.2 h,Int.compare_eq_lt.2 (by omega)]
 ·subst h
  rw[Nat.compare_eq_eq.2 rfl,Int.compare_eq_eq.2 rfl]
 ·have h1:=bv_mono h
  rw[←f1,←f2]at h1
  have h2:=Nat.lt_of_mul_lt_mul_right h1
  rw[Nat.compare_eq_gt.2 h,Int.compare_eq_gt.2 (by omega)]
theorem cut_even (neg:Bool) (n k:Nat) (h:k≤n.log2+2):Toward.even.cut neg n k=rne n (2^k):=by
 unfold Toward.cut
 simp only[Nat.min_eq_left h,Nat.one_shiftLeft]
 unfold rne
 by_cases h1:2^k<2*(n %2^k)∨(2*(n %2^k)=2^k∧n/2^k %2=1)
 ·rw[if_pos h1]
  have:(decide (2^k<2*(n %2^k))||(2^k==2*(n %2^k)&&n/2^k %2==1))=true:=by
   rcases h1 with h|⟨h,h'⟩
   ·simp[h]
   ·simp[h,h']
  rw[this];rfl
 ·rw[if_neg h1]
  have:(decide (2^k<2*(n %2^k))||(2^k==2*(n %2^k)&&n/2^k %2==1))=false:=by
   rw[Bool.eq_false_iff]
   intro hh
   simp only[Bool.or_eq_true,decide_eq_true_eq,Bool.and_eq_true,beq_iff_eq]at hh
   omega
  rw[this];rfl
theorem word_false (x:Nat):double.word false x=x:=by unfold Format.word;simp
theorem nearest_ok {mag:Nat} {place:Int}(h0:mag≠0) (hn: -1074≤place+mag.log2-52):Fl (mag*2^place.toNat) (2^(-place).toNat) (double.nearest false mag place):=by
 have l1:2^mag.log2≤mag:=Nat.log2_self_le h0
 have l2:mag<2^(mag.log2+1):=Nat.lt_log2_self
 obtain⟨L,hL⟩:∃L,L=mag.log2:=⟨_,rfl⟩
 rw[←hL]at l1 l2 hn
 obtain⟨u,hu⟩:∃u:Nat,place+L-52= -1074+(u:Int):=⟨(place+L-52+1074).toNat,by omega⟩
 unfold Format.nearest
 rw[if_neg h0]
 simp only[dbl_frac,dbl_least,dbl_inf,dbl_binade,←hL]
 rw[show max (place+(L:Int)-((52:Nat):Int)) (-1074)= -1074+(u:Int) by omega,show(-1074+(u:Int)- -1074).toNat=u by omega]
 rw[word_false]
 obtain⟨a,ha⟩:∃a,a=(place-(-1074+(u:Int))).toNat:=⟨_,rfl⟩
 obtain⟨c,hc⟩:∃c,c=(-1074+(u:Int)-place).toNat:=⟨_,rfl⟩
 rw[←ha,←hc,Nat.shiftLeft_eq]
 have hac:(a=0∧(c:Int)=L-52)∨(c=0∧(a:Int)=52-L):=by omega
 have hcut:Toward.even.cut false (mag*2^a) c=rne (mag*2^a) (2^c):=by
  refine cut_even _ _ _ ?_
  rcases hac with⟨h,h'⟩|⟨h,h'⟩
  ·rw[h,Nat.pow_zero,Nat.mul_one,←hL];omega
  ·omega
 rw[hcut]
 have hKZ:KZ=2^KE:=rfl
 have hKE:=KE_eq
 have eq1:mag*2^place.toNat*KZ*2^c=mag*2^a*(2^(-place).toNat*2^u):=by
  rw[hKZ]
  generalize KE=ke at*
  have x:place.toNat+ke+c=a+((-place).toNat+u):=by omega
  calc mag*2^place.toNat*2^ke*2^c=mag*2^(place.toNat+ke+c):=by rw[Nat.pow_add,Nat.pow_add];ac_rfl
   _=mag*2^a*(2^(-place).toNat*2^u):=by rw[x,Nat.pow_add,Nat.pow_add];ac_rfl
 clear hKZ
 have pc:=Nat.two_pow_pos c
 have q1:4503599627370496*2^c≤mag*2^a:=by
  have p52:(4503599627370496:Nat)=2^52:=by decide
  rw[p52,←Nat.pow_add]
  refine Nat.le_trans ?_ (Nat.mul_le_mul_right _ l1)
  rw[←Nat.pow_add]
  exact Nat.pow_le_pow_right (by decide) (by omega)
 have q2:mag*2^a<9007199254740992*2^c:=by
  have p53:(9007199254740992:Nat)=2^53:=by decide
  rw[p53,←Nat.pow_add]
  refine Nat.lt_of_lt_of_le (Nat.mul_lt_mul_of_pos_right l2 (Nat.two_pow_pos a)) ?_
  rw[←Nat.pow_add]
  exact Nat.pow_le_pow_right (by decide) (by omega)
 refine⟨_,⟨u,.inr ?_,?_,rfl⟩,?_⟩
 ·refine Nat.le_of_mul_le_mul_right ?_ pc
  rw[eq1,Nat.mul_right_comm]
  exact Nat.mul_le_mul_right _ q1
 ·refine Nat.lt_of_mul_lt_mul_right (a:=2^c) ?_
  rw[eq1,Nat.mul_right_comm 9007199254740992]
  exact Nat.mul_lt_mul_of_pos_right q2 (Nat.mul_pos (Nat.two_pow_pos _) (Nat.two_pow_pos _))
 ·rw[rne_ratio pc (Nat.mul_pos (Nat.two_pow_pos _) (Nat.two_pow_pos _)) eq1.symm]
  unfold infB
  with_reducible rfl
theorem rne_exact {a b q:Nat}(hb:0<b) (h:a=q*b):rne a b=q:=by
 subst h
 unfold rne
 rw[Nat.mul_mod_left,Nat.mul_div_cancel _ hb,if_neg (by omega)]
theorem fl_whole {N r:Nat}(h0:0<N) (h:N<9007199254740992) (hr:Fl N 1 r):r<infB∧bv r=N*KZ∧4503599627370496≤mg r:=by
 obtain⟨b,⟨u,h1,h2,h3⟩,h4⟩:=hr
 rw[Nat.one_mul]at h1 h2 h3
 have hKZ:KZ=2^KE:=rfl
 have hKE:=KE_eq
 generalize KZ=K at*
 generalize KE=ke at*
 have p53:(9007199254740992:Nat)=2^53:=by decide
 have p52:(4503599627370496:Nat)=2^52:=by decide
 have k1:1*2^ke<2^(53+u):=by
  rw[Nat.pow_add,←p53]
  exact Nat.lt_of_le_of_lt (by rw[hKZ];exact Nat.mul_le_mul_right _ h0) h2
 rw[Nat.one_mul]at k1
 have k2:=(Nat.pow_lt_pow_iff_right (a:=2) (by decide)).1 k1
 have h1':4503599627370496*2^u≤N*K:=by
  rcases h1 with h|h
  ·omega
  ·exact h
 have k3:2^(52+u)<2^(53+ke):=by
  rw[Nat.pow_add,Nat.pow_add,←p53,←p52,←hKZ]
  exact Nat.lt_of_le_of_lt h1' (Nat.mul_lt_mul_of_pos_right h (by rw[hKZ];exact Nat.two_pow_pos _))
 have k4:=(Nat.pow_lt_pow_iff_right (a:=2) (by decide)).1 k3
 obtain⟨j,hj⟩:∃j,ke=u+j:=⟨ke-u,by omega⟩
 have e1:N*K=N*2^j*2^u:=by rw[hKZ,hj,Nat.pow_add];ac_rfl
 have e2:=rne_exact (Nat.two_pow_pos u) e1
 rw[e1]at h2 h1'
 have m1:=Nat.le_of_mul_le_mul_right h1' (Nat.two_pow_pos u)
 have m2:=Nat.lt_of_mul_lt_mul_right h2
 rw[e2]at h3
 generalize N*2^j=M at*
 have hb:b<infB:=by unfold infB;omega
 have hrb:r=b:=by rw[h4];exact Nat.min_eq_left (Nat.le_of_lt hb)
 have d1:b/4503599627370496=u+1:=by omega
 have d2:b %4503599627370496=M-4503599627370496:=by omega
 have d3:¬b<4503599627370496:=by omega
 subst hrb
 refine⟨hb,?_,?_⟩
 ·unfold bv mg pe
  rw[if_neg d3,d1,d2,e1,show 4503599627370496+(M-4503599627370496)=M by omega,show u+1-1=u by omega]
 ·unfold mg
  rw[if_neg d3];omega
theorem pow_ratio {A B k:Nat} {x:Int}(hx:0≤x+k) (h:A*2^(x+k).toNat=B*2^k):A*2^x.toNat=B*2^(-x).toNat:=by
 rcases Int.le_total 0 x with h0|h0
 ·rw[show(-x).toNat=0 by omega,Nat.pow_zero,Nat.mul_one]
  rw[show(x+k).toNat=x.toNat+k by omega,Nat.pow_add,←Nat.mul_assoc]at h
  exact Nat.eq_of_mul_eq_mul_right (Nat.two_pow_pos k) h
 ·rw[show x.toNat=0 by omega,Nat.pow_zero,Nat.mul_one]
  have e:2^k=2^(-x).toNat*2^(x+k).toNat:=by rw[←Nat.pow_add];congr 1;omega
  rw[e,←Nat.mul_assoc]at h
  exact Nat.eq_of_mul_eq_mul_right (Nat.two_pow_pos _) h
end Go.Pf
end
