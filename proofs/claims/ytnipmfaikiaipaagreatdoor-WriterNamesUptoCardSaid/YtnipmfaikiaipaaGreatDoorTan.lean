import Derived.Test.YtnipmfaikiaipaaGreatDoorTam
import Derived.Deep.AppendLies
import Derived.Test.YtnipmfaikiaipaaGreatDoorTaa
set_option maxRecDepth 1000000
set_option maxHeartbeats 40000000
section
namespace Go.Proofs
open Go.RowKit Go.Pf Go.Rb
theorem bit2_mix {h l i:Nat}(hl:l<2^i) (t:Nat):bit2 (2^i*h+l) t=if t<i then bit2 l t else bit2 h (t-i):=by
 unfold bit2
 by_cases ht:t<i
 ·rw[if_pos ht]
  have e:2^i*h=2^t*(2*(2^(i-t-1)*h)):=by
   rw[←Nat.mul_assoc,←Nat.mul_assoc,←Nat.pow_succ,←Nat.pow_add]
   congr 2
   omega
  rw[e,Nat.mul_add_div (Nat.two_pow_pos t)]
  omega
 ·rw[if_neg ht]
  have e:2^t=2^i*2^(t-i):=by rw[←Nat.pow_add];congr 1;omega
  rw[e,←Nat.div_div_eq_div_mul,Nat.mul_add_div (Nat.two_pow_pos i),Nat.div_eq_of_lt hl,Nat.add_zero]
structure DI (a b k q R:Nat):Prop where
 eq:(2^k*q)*b+R=a
 lt:R<b*2^k
theorem DI.start {a b k:Nat}(h:a<2^k) (hb:0<b):DI a b k 0 a:=⟨by simp,Nat.lt_of_lt_of_le h (Nat.le_mul_of_pos_left _ hb)⟩
theorem DI.more {a b i q R:Nat}(h:DI a b (i+1) q R) (hl:b≤R/2^i):DI a b i (2*q+1) (R-b*2^i)∧b*2^i≤R:=by
 have h1:b*2^i≤R:=(Nat.le_div_iff_mul_le (Nat.two_pow_pos i)).1 hl
 have h2:=h.lt
 have h3:=h.eq
 rw[Nat.pow_succ]at h2 h3
 refine⟨⟨?_,?_⟩,h1⟩
 ·have e:2^i*(2*q+1)*b=2^i*2*q*b+b*2^i:=by
   rw[Nat.mul_add,Nat.add_mul,Nat.mul_one,Nat.mul_assoc (2^i) 2 q,Nat.mul_comm b]
  rw[e]
  omega
 ·have e:b*(2^i*2)=b*2^i+b*2^i:=by rw[←Nat.mul_assoc,Nat.mul_two]
  omega
theorem DI.last {a b q R:Nat}(h:DI a b 0 q R):q=a/b∧R=a %b:=by
 have h1:=h.eq
 have h2:=h.lt
 rw[Nat.pow_zero,Nat.one_mul]at h1
 rw[Nat.pow_zero,Nat.mul_one]at h2
 have hb:0<b:=by omega
 refine⟨?_,?_⟩
 ·rw[←h1,Nat.mul_comm q b,Nat.mul_add_div hb,Nat.div_eq_of_lt h2,Nat.add_zero]
 ·rw[←h1,Nat.mul_comm q b,Nat.mul_add_mod,Nat.mod_eq_of_lt h2]
def BitsOf (S:List Nat) (x:Nat):Prop:=∀t,t<S.length→S.getD t 0=bit2 x t
theorem BitsOf.cells {S:List Nat} {x:Nat}(h:BitsOf S x):nCells S=bitCells x S.length:=by
 apply List.ext_getElem?
 intro j
 by_cases hj:j<S.length
 ·rw[nCells_get S j hj,bitCells_get _ _ _ hj,h j hj]
 ·rw[List.getElem?_eq_none (by simp[nCells];omega),List.getElem?_eq_none (by rw[bitCells_length];omega)]
theorem BitsOf.zero (n:Nat):BitsOf (List.replicate n 0) 0:=by
 intro t ht
 have e:bit2 0 t=0:=by simp[bit2]
 rw[e,List.getD_eq_getElem?_getD,List.getElem?_replicate]
 split<;>simp
theorem BitsOf.double {S:List Nat} {q i:Nat}(h:BitsOf S (2^(i+1)*q)):BitsOf S (2^i*(2*q)):=by
 rw[←Nat.mul_assoc,←Nat.pow_succ];exact h
theorem BitsOf.one {S:List Nat} {q i:Nat}(h:BitsOf S (2^(i+1)*q)) (hi:i<S.length):BitsOf (S.set i 1) (2^i*(2*q+1)):=by
 have h:=h.double
 intro t ht
 rw[List.length_set]at ht
 have e1:=bit2_mix (h:=2*q+1) (l:=0) (Nat.two_pow_pos i) t
 have e2:=bit2_mix (h:=2*q) (l:=0) (Nat.two_pow_pos i) t
 rw[Nat.add_zero]at e1 e2
 rw[e1]
 by_cases hti:t=i
 ·subst hti
  rw[getD_set_same S t 1 hi,if_neg (Nat.lt_irrefl _),Nat.sub_self,bit2_zero]
  omega
 ·rw[getD_set_other S i t 1 hti,h t ht,e2]
  split
  ·rfl
  ·obtain⟨u,hu⟩:∃u,t-i=u+1:=⟨t-i-1,by omega⟩
   rw[hu,bit2_succ,bit2_succ]
   congr 1
   omega
structure SubI (S:List Nat) (R b i j:Nat):Prop where
 cell:∀t,t<S.length→S.getD t 0=if t<i then bit2 R t else if t<i+j then bit2 (R/2^i-b) (t-i)else bit2 R t
theorem SubI.start {S:List Nat} {R b i:Nat}(h:BitsOf S R):SubI S R b i 0:=⟨fun t ht=>by
 rw[h t ht,Nat.add_zero]
 split
 ·rfl
 ·rfl⟩
theorem SubI.at {S:List Nat} {R b i j:Nat}(h:SubI S R b i j) (hj:i+j<S.length):S.getD (i+j) 0=bit2 (R/2^i) j:=by
 rw[h.cell (i+j) hj,if_neg (by omega),if_neg (by omega)]
 unfold bit2
 rw[Nat.div_div_eq_div_mul,←Nat.pow_add]
theorem SubI.next {S:List Nat} {R b i j:Nat}(h:SubI S R b i j) (hj:i+j<S.length):SubI (S.set (i+j) (bit2 (R/2^i-b) j)) R b i (j+1):=by
 refine⟨fun t ht=> ?_⟩
 rw[List.length_set]at ht
 by_cases e:t=i+j
 ·subst e
  rw[getD_set_same S _ _ hj,if_neg (by omega),if_pos (by omega)]
  congr 1
  omega
 ·rw[getD_set_other S _ _ _ e,h.cell t ht]
  by_cases h1:t<i
  ·rw[if_pos h1,if_pos h1]
  ·rw[if_neg h1,if_neg h1]
   by_cases h2:t<i+j
   ·rw[if_pos h2,if_pos (by omega)]
   ·rw[if_neg h2,if_neg (by omega)]
theorem SubI.last {S:List Nat} {R b i n:Nat}(h:SubI S R b i n) (hR:R<2^(i+n)) (hb:b*2^i≤R):BitsOf S (R-b*2^i):=by
 intro t ht
 have e:R-b*2^i=2^i*(R/2^i-b)+R %2^i:=by
  have h1:=Nat.div_add_mod R (2^i)
  have h2:b≤R/2^i:=(Nat.le_div_iff_mul_le (Nat.two_pow_pos i)).2 hb
  have h3:2^i*(R/2^i-b)=2^i*(R/2^i)-b*2^i:=by rw[Nat.mul_sub,Nat.mul_comm (2^i) b]
  have h4:b*2^i≤2^i*(R/2^i):=by rw[Nat.mul_comm b];exact Nat.mul_le_mul_left _ h2
  have h5:R-b*2^i=(2^i*(R/2^i)+R %2^i)-b*2^i:=by rw[h1]
  rw[h5,h3]
  exact Nat.sub_add_comm h4
 have em:=bit2_mix (h:=R/2^i) (l:=R %2^i) (Nat.mod_lt _ (Nat.two_pow_pos i)) t
 rw[Nat.div_add_mod]at em
 rw[e,bit2_mix (Nat.mod_lt _ (Nat.two_pow_pos i)),h.cell t ht]
 by_cases h1:t<i
 ·rw[if_pos h1,if_pos h1,em,if_pos h1]
 ·rw[if_neg h1,if_neg h1]
  by_cases h2:t<i+n
  ·rw[if_pos h2]
  ·rw[if_neg h2,bit2_beyond hR (by omega)]
   have h3:R/2^i-b<2^n:=by
    have:R/2^i<2^n:=(Nat.div_lt_iff_lt_mul (Nat.two_pow_pos i)).2 (by rw[←Nat.pow_add,Nat.add_comm n i];exact hR)
    exact Nat.lt_of_le_of_lt (Nat.sub_le _ _) this
   rw[bit2_beyond h3 (by omega)]
end Go.Proofs
end
section
namespace Go.Proofs
open Go.RowKit Go.Pf Go.Rb
structure DS (B:Nat) (W1:World) (bq g L cap:Nat) (Sq Sa:List Nat) (wr:World):Prop where
 qown:wr.ownsRow B 3 1 (.slice (some ⟨bq,0,none⟩) L L) L (nCells Sq)
 aown:wr.ownsRow B 3 1 (.slice (some ⟨g,0,none⟩) L cap) L (nCells Sa)
 bel:Below B W1 wr
 lq:Sq.length=L
 la:Sa.length=L
 ne:bq≠g
theorem DS.heap {B:Nat} {W1:World} {bq g L cap:Nat} {Sq Sa:List Nat} {wr w':World}(h:DS B W1 bq g L cap Sq Sa wr) (p:Hp wr w'):DS B W1 bq g L cap Sq Sa w':=by
 refine⟨⟨h.qown.1,?_⟩,⟨h.aown.1,?_⟩,Below.hp h.bel p,h.lq,h.la,h.ne⟩
 ·rw[p.heap];exact h.qown.2
 ·rw[p.heap];exact h.aown.2
structure DL (B:Nat) (W1:World) (bq g L cap a b k top:Nat) (wr:World):Prop where
 ex:∃q R Sq Sa,DI a b k q R∧DS B W1 bq g L cap Sq Sa wr∧BitsOf Sq (2^k*q)∧BitsOf Sa R∧R<2^top
theorem DL.heap {B:Nat} {W1:World} {bq g L cap a b k top:Nat} {wr w':World}(h:DL B W1 bq g L cap a b k top wr) (p:Hp wr w'):DL B W1 bq g L cap a b k top w':=by
 obtain⟨q,R,Sq,Sa,h1,h2,h3,h4,h5⟩:=h.ex
 exact⟨q,R,Sq,Sa,h1,h2.heap p,h3,h4,h5⟩
theorem BitsOf.range (x m:Nat):BitsOf ((List.range m).map (bit2 x)) x:=by
 intro t ht
 rw[List.length_map,List.length_range]at ht
 simp[List.getD_eq_getElem?_getD,ht]
end Go.Proofs
end
