import Derived.Test.YtpjcdbjablijkaaGreatDoorTam
import Derived.Deep.AppendLies
import Derived.Test.YtpjcdbjablijkaaGreatDoorTaa
set_option maxRecDepth 1000000
set_option maxHeartbeats 40000000
section
namespace Go.Proofs
open Go.RowKit Go.Pf Go.Rb
theorem bit2_mix {h l i:Nat}(hl:l<2^i) (t:Nat):bit2 (2^i*h+l) t=if t<i then bit2 l t else bit2 h (t-i):=by
 unfold bit2
 by_cases ht:t<i
 ·rw[if_pos ht]
  have e:2^i*h=2^t*(2*(2^(i-t-1)*h)):=by
   rw[←Nat.mul_assoc,←Nat.mul_assoc,←Nat.pow_succ,←Nat.pow_add]
   congr 2
   omega
  rw[e,Nat.mul_add_div (Nat.two_pow_pos t)]
  omega
 ·rw[if_neg ht]
  have e:2^t=2^i*2^(t-i):=by rw[←Nat.pow_add];congr 1;omega
  rw[e,←Nat.div_div_eq_div_mul,Nat.mul_add_div (Nat.two_pow_pos i),Nat.div_eq_of_lt hl,Nat.add_zero]
structure DI (a b k q R:Nat):Prop where
 eq:(2^k*q)*b+R=a
 lt:R<b*2^k
theorem DI.start {a b k:Nat}(h:a<2^k) (hb:0<b):DI a b k 0 a:=⟨by simp,Nat.lt_of_lt_of_le h (Nat.le_mul_of_pos_left _ hb)⟩
theorem DI.less {a b i q R:Nat}(h:DI a b (i+1) q R) (hl:R/2^i<b):DI a b i (2*q) R:=by
 refine⟨?_,?_⟩
 ·rw[←Nat.mul_assoc,←Nat.pow_succ];exact h.eq
 ·have:=(Nat.div_lt_iff_lt_mul (Nat.two_pow_pos i)).1 hl
  exact this
theorem DI.more {a b i q R:Nat}(h:DI a b (i+1) q R) (hl:b≤R/2^i):DI a b i (2*q+1) (R-b*2^i)∧b*2^i≤R:=by
 have h1:b*2^i≤R:=(Nat.le_div_iff_mul_le (Nat.two_pow_pos i)).1 hl
 have h2:=h.lt
 have h3:=h.eq
 rw[Nat.pow_succ]at h2 h3
 refine⟨⟨?_,?_⟩,h1⟩
 ·have e:2^i*(2*q+1)*b=2^i*2*q*b+b*2^i:=by
   rw[Nat.mul_add,Nat.add_mul,Nat.mul_one,Nat.mul_assoc (2^i) 2 q,Nat.mul_comm b]
  rw[e]
  omega
 ·have e:b*(2^i*2)=b*2^i+b*2^i:=by rw[←Nat.mul_assoc,Nat.mul_two]
  omega
theorem DI.last {a b q R:Nat}(h:DI a b 0 q R):q=a/b∧R=a %b:=by
 have h1:=h.eq
 have h2:=h.lt
 rw[Nat.pow_zero,Nat.one_mul]at h1
 rw[Nat.pow_zero,Nat.mul_one]at h2
 have hb:0<b:=by omega
 refine⟨?_,?_⟩
 ·rw[←h1,Nat.mul_comm q b,Nat.mul_add_div hb,Nat.div_eq_of_lt h2,Nat.add_zero]
 ·rw[←h1,Nat.mul_comm q b,Nat.mul_add_mod,Nat.mod_eq_of_lt h2]
def BitsOf (S:List Nat) (x:Nat):Prop:=∀t,t<S.length→S.getD t 0=bit2 x t
theorem BitsOf.cells {S:List Nat} {x:Nat}(h:BitsOf S x):nCells S=bitCells x S.length:=by
 apply List.ext_getElem?
 intro j
 by_cases hj:j<S.length
 ·rw[nCells_get S j hj,bitCells_get _ _ _ hj,h j hj]
 ·rw[List.getElem?_eq_none (by simp[nCells];omega),List.getElem?_eq_none (by rw[bitCells_length];omega)]
theorem BitsOf.zero (n:Nat):BitsOf (List.replicate n 0) 0:=by
 intro t ht
 have e:bit2 0 t=0:=by simp[bit2]
 rw[e,List.getD_eq_getElem?_getD,List.getElem?_replicate]
 split<;>simp
theorem BitsOf.double {S:List Nat} {q i:Nat}(h:BitsOf S (2^(i+1)*q)):BitsOf S (2^i*(2*q)):=by
 rw[←Nat.mul_assoc,←Nat.pow_succ];exact h
theorem BitsOf.one {S:List Nat} {q i:Nat}(h:BitsOf S (2^(i+1)*q)) (hi:i<S.length):BitsOf (S.set i 1) (2^i*(2*q+1)):=by
 have h:=h.double
 intro t ht
 rw[List.length_set]at ht
 have e1:=bit2_mix (h:=2*q+1) (l:=0) (Nat.two_pow_pos i) t
 have e2:=bit2_mix (h:=2*q) (l:=0) (Nat.two_pow_pos i) t
 rw[Nat.add_zero]at e1 e2
 rw[e1]
 by_cases hti:t=i
 ·subst hti
  rw[getD_set_same S t 1 hi,if_neg (Nat.lt_irrefl _),Nat.sub_self,bit2_zero]
  omega
 ·rw[getD_set_other S i t 1 hti,h t ht,e2]
  split
  ·rfl
  ·obtain⟨u,hu⟩:∃u,t-i=u+1:=⟨t-i-1,by omega⟩
   rw[hu,bit2_succ,bit2_succ]
   congr 1
   omega
structure SubI (S:List Nat) (R b i j:Nat):Prop where
 cell:∀t,t<S.length→S.getD t 0=if t<i then bit2 R t else if t<i+j then bit2 (R/2^i-b) (t-i)else bit2 R t
theorem SubI.start {S:List Nat} {R b i:Nat}(h:BitsOf S R):SubI S R b i 0:=⟨fun t ht=>by
 rw[h t ht,Nat.add_zero]
 split
 ·rfl
 ·rfl⟩
theorem SubI.at {S:List Nat} {R b i j:Nat}(h:SubI S R b i j) (hj:i+j<S.length):S.getD (i+j) 0=bit2 (R/2^i) j:=by
 rw[h.cell (i+j) hj,if_neg (by omega),if_neg (by omega)]
 unfold bit2
 rw[Nat.div_div_eq_div_mul,←Nat.pow_add]
theorem SubI.next {S:List Nat} {R b i j:Nat}(h:SubI S R b i j) (hj:i+j<S.length):SubI (S.set (i+j) (bit2 (R/2^i-b) j)) R b i (j+1):=by
 refine⟨fun t ht=> ?_⟩
 rw[List.length_set]at ht
 by_cases e:t=i+j
 ·subst e
  rw[getD_set_same S _ _ hj,if_neg (by omega),if_pos (by omega)]
  congr 1
  omega
 ·rw[getD_set_other S _ _ _ e,h.cell t ht]
  by_cases h1:t<i
  ·rw[if_pos h1,if_pos h1]
  ·rw[if_neg h1,if_neg h1]
   by_cases h2:t<i+j
   ·rw[if_pos h2,if_pos (by omega)]
   ·rw[if_neg h2,if_neg (by omega)]
theorem SubI.last {S:List Nat} {R b i n:Nat}(h:SubI S R b i n) (hR:R<2^(i+n)) (hb:b*2^i≤R):BitsOf S (R-b*2^i):=by
 intro t ht
 have e:R-b*2^i=2^i*(R/2^i-b)+R %2^i:=by
  have h1:=Nat.div_add_mod R (2^i)
  have h2:b≤R/2^i:=(Nat.le_div_iff_mul_le (Nat.two_pow_pos i)).2 hb
  have h3:2^i*(R/2^i-b)=2^i*(R/2^i)-b*2^i:=by rw[Nat.mul_sub,Nat.mul_comm (2^i) b]
  have h4:b*2^i≤2^i*(R/2^i):=by rw[Nat.mul_comm b];exact Nat.mul_le_mul_left _ h2
  have h5:R-b*2^i=(2^i*(R/2^i)+R %2^i)-b*2^i:=by rw[h1]
  rw[h5,h3]
  exact Nat.sub_add_comm h4
 have em:=bit2_mix (h:=R/2^i) (l:=R %2^i) (Nat.mod_lt _ (Nat.two_pow_pos i)) t
 rw[Nat.div_add_mod]at em
 rw[e,bit2_mix (Nat.mod_lt _ (Nat.two_pow_pos i)),h.cell t ht]
 by_cases h1:t<i
 ·rw[if_pos h1,if_pos h1,em,if_pos h1]
 ·rw[if_neg h1,if_neg h1]
  by_cases h2:t<i+n
  ·rw[if_pos h2]
  ·rw[if_neg h2,bit2_beyond hR (by omega)]
   have h3:R/2^i-b<2^n:=by
    have:R/2^i<2^n:=(Nat.div_lt_iff_lt_mul (Nat.two_pow_pos i)).2 (by rw[←Nat.pow_add,Nat.add_comm n i];exact hR)
    exact Nat.lt_of_le_of_lt (Nat.sub_le _ _) this
   rw[bit2_beyond h3 (by omega)]
theorem div_pow_lt {R i n:Nat}(h:R<2^(i+n)):R/2^i<2^n:=(Nat.div_lt_iff_lt_mul (Nat.two_pow_pos i)).2 (by rw[←Nat.pow_add,Nat.add_comm n i];exact h)
theorem top_T2 {R i n:Nat}(h:R<2^(i+n)) (h1:n=0∨bit2 R (i+n-1)≠0):T2 (R/2^i) n:=by
 refine⟨div_pow_lt h,?_⟩
 rcases h1 with h1|h1
 ·exact .inl h1
 ·rcases Nat.eq_zero_or_pos n with h2|h2
  ·exact .inl h2
  ·right
   have h3:=ge_step h1
   rw[Nat.le_div_iff_mul_le (Nat.two_pow_pos i),←Nat.pow_add]
   have e:n-1+i=i+n-1:=by omega
   rw[e]
   exact h3
end Go.Proofs
end
section
namespace Go.Proofs
open Go.RowKit Go.Pf Go.Rb
structure DS (B:Nat) (W1:World) (bq g L cap:Nat) (Sq Sa:List Nat) (wr:World):Prop where
 qown:wr.ownsRow B 3 1 (.slice (some ⟨bq,0,none⟩) L L) L (nCells Sq)
 aown:wr.ownsRow B 3 1 (.slice (some ⟨g,0,none⟩) L cap) L (nCells Sa)
 bel:Below B W1 wr
 lq:Sq.length=L
 la:Sa.length=L
 ne:bq≠g
theorem DS.setq {B:Nat} {W1:World} {bq g L cap:Nat} {Sq Sa:List Nat} {wr:World}(h:DS B W1 bq g L cap Sq Sa wr) (j n:Nat):DS B W1 bq g L cap (Sq.set j n) Sa (wr.setCell ⟨bq,j,none⟩ (.int .i64 (n:Nat))):=by
 have hb:=(World.ownsRow.lt h.qown bq rfl).1
 obtain⟨h1,h2⟩:=World.ownsRow.stored h.qown j (.int .i64 (n:Nat))
 refine⟨?_,h.aown.kept h2 (.inr ?_),h.bel.setCell hb _,by rw[List.length_set];exact h.lq,h.la,h.ne⟩
 ·rw[←nCells_set];exact h1
 ·intro e
  exact h.ne (by simpa[Value.ownBlock]using e.symm)
theorem DS.seta {B:Nat} {W1:World} {bq g L cap:Nat} {Sq Sa:List Nat} {wr:World}(h:DS B W1 bq g L cap Sq Sa wr) (j n:Nat):DS B W1 bq g L cap Sq (Sa.set j n) (wr.setCell ⟨g,j,none⟩ (.int .i64 (n:Nat))):=by
 have hb:=(World.ownsRow.lt h.aown g rfl).1
 obtain⟨h1,h2⟩:=World.ownsRow.stored h.aown j (.int .i64 (n:Nat))
 refine⟨h.qown.kept h2 (.inr ?_),?_,h.bel.setCell hb _,h.lq,by rw[List.length_set];exact h.la,h.ne⟩
 ·intro e
  exact h.ne (by simpa[Value.ownBlock]using e)
 ·rw[←nCells_set];exact h1
theorem DS.acell {B:Nat} {W1:World} {bq g L cap:Nat} {Sq Sa:List Nat} {wr:World}(h:DS B W1 bq g L cap Sq Sa wr) (j:Nat) (hj:j<L):wr.cell? ⟨g,j,none⟩=some (.int .i64 (Sa.getD j 0:Nat)):=by
 rw[World.ownsRow.cellAt h.aown j (by omega),nCells_get Sa j (by rw[h.la];exact hj)]
theorem DS.afrozen {B:Nat} {W1:World} {bq g L cap:Nat} {Sq Sa:List Nat} {wr:World}(h:DS B W1 bq g L cap Sq Sa wr) (j:Nat):wr.frozen? ⟨g,j,none⟩=false:=World.ownsRow.frozenAt h.aown j
theorem DS.qcell {B:Nat} {W1:World} {bq g L cap:Nat} {Sq Sa:List Nat} {wr:World}(h:DS B W1 bq g L cap Sq Sa wr) (j:Nat) (hj:j<L):wr.cell? ⟨bq,j,none⟩=some (.int .i64 (Sq.getD j 0:Nat)):=by
 rw[World.ownsRow.cellAt h.qown j (by omega),nCells_get Sq j (by rw[h.lq];exact hj)]
theorem DS.qfrozen {B:Nat} {W1:World} {bq g L cap:Nat} {Sq Sa:List Nat} {wr:World}(h:DS B W1 bq g L cap Sq Sa wr) (j:Nat):wr.frozen? ⟨bq,j,none⟩=false:=World.ownsRow.frozenAt h.qown j
theorem DS.heap {B:Nat} {W1:World} {bq g L cap:Nat} {Sq Sa:List Nat} {wr w':World}(h:DS B W1 bq g L cap Sq Sa wr) (p:Hp wr w'):DS B W1 bq g L cap Sq Sa w':=by
 refine⟨⟨h.qown.1,?_⟩,⟨h.aown.1,?_⟩,Below.hp h.bel p,h.lq,h.la,h.ne⟩
 ·rw[p.heap];exact h.qown.2
 ·rw[p.heap];exact h.aown.2
theorem DS.caps {B:Nat} {W1:World} {bq g L cap:Nat} {Sq Sa:List Nat} {wr:World}(h:DS B W1 bq g L cap Sq Sa wr):L≤cap∧cap≤9223372036854775807∧g<wr.heap.size:=by
 rcases h.aown.2 with⟨h1,_⟩|⟨g',cap',cur,h1,h2,h3,h4,h5,_⟩
 ·cases h1
 ·cases h1
  refine⟨h4,by unfold maxLen at h5;omega,?_⟩
  exact(Array.getElem?_eq_some_iff.1 h3).1
theorem BtV.of_own' {w:World} {B g m c n x:Nat} {S:List Nat}(h:w.ownsRow B 3 1 (.slice (some ⟨g,0,none⟩) n c) n (nCells S)) (hS:S.length=n) (hb:BitsOf S x) (hx:x<2^m) (hm:m=n):BtV w (.slice (some ⟨g,0,none⟩) n c) x n:=by
 subst hm
 rw[hb.cells,hS]at h
 exact BtV.of_own h hx
theorem DS.part {B:Nat} {W1:World} {bq g L cap:Nat} {Sq Sa:List Nat} {wr:World}(h:DS B W1 bq g L cap Sq Sa wr){R i n:Nat}(hb:BitsOf Sa R) (hn:i+n≤L) (hlt:R<2^(i+n)):BtV wr (.slice (some ⟨g,i,none⟩) n (cap-i)) (R/2^i) n:=by
 obtain⟨h1,h2,h3⟩:=h.caps
 refine .inr ⟨g,i,cap-i,rfl,by omega,by omega,h3,div_pow_lt hlt,fun j hj=> ?_⟩
 rw[h.acell (i+j) (by omega),hb (i+j) (by rw[h.la];omega)]
 unfold bit2
 rw[Nat.div_div_eq_div_mul,←Nat.pow_add]
def RDivSays (a b:Nat) (w:World) (e:Ending) (w':World):Prop:=∃qa qm qc ra rm rc,e= .returned (.tuple #[.slice qa qm qc,.slice ra rm rc])∧T2 (a/b) qm∧BtV w' (.slice qa qm qc) (a/b) qm∧T2 (a %b) rm∧BtV w' (.slice ra rm rc) (a %b) rm∧Below w.heap.size w w'
structure DL (B:Nat) (W1:World) (bq g L cap a b k top:Nat) (wr:World):Prop where
 ex:∃q R Sq Sa,DI a b k q R∧DS B W1 bq g L cap Sq Sa wr∧BitsOf Sq (2^k*q)∧BitsOf Sa R∧R<2^top
theorem DL.heap {B:Nat} {W1:World} {bq g L cap a b k top:Nat} {wr w':World}(h:DL B W1 bq g L cap a b k top wr) (p:Hp wr w'):DL B W1 bq g L cap a b k top w':=by
 obtain⟨q,R,Sq,Sa,h1,h2,h3,h4,h5⟩:=h.ex
 exact⟨q,R,Sq,Sa,h1,h2.heap p,h3,h4,h5⟩
theorem bitCells_nCells (x m:Nat):bitCells x m=nCells ((List.range m).map (bit2 x)):=by simp[bitCells,nCells]
theorem BitsOf.range (x m:Nat):BitsOf ((List.range m).map (bit2 x)) x:=by
 intro t ht
 rw[List.length_map,List.length_range]at ht
 simp[List.getD_eq_getElem?_getD,ht]
theorem Tryz.rdivided (va vb:Value) (a b la lb:Nat) (w:World) (ha:Hid (BtV w va a la)) (hb:Hid (BtV w vb b lb)) (tb:T2 b lb) (ha0:0<la) (hb0:0<b) (hla:la≤1000000) (hlb:lb≤1000000):
 Calls Tryz.prog 153 #[va,vb] w (RDivSays a b w):=by
 obtain⟨aa,ac,rfl⟩:=ha.out.slice
 obtain⟨ba,bc,rfl⟩:=hb.out.slice
 obtain⟨i0,hi,hz0,hz1,hz2⟩:=info_parts Tryz.infoInt
 obtain⟨ab,ao,rfl,hac,hac2,hab,hcell⟩:=ha.out.row ha0
 have MK:=Tryz.make105 la (by omega)
 have TB:=Hi tb
 clear tb
 go_enter Tryz.func153,Tryz.ntmps153
 go_wp2_with (at_builtin;refine wpList_append_lies _ rfl _ _ 63 rfl w.heap.size 3 i0 (.int .i64 0) 1 8 Tryz.underlying63 hi hz0 hz1 hz2 rfl (by decide) _ 0 [] rfl ?c0 ⟨ab,ao,none⟩ la ac (bitCells a la) rfl ?c1 ?c2 ?c3 ?c4 ?c5 ?c6 ?c7 _ rfl ?_)
 case c0=>
  have h:=World.ownsRow_lit (base:=w.heap.size) (e:=3) (size:=1) (w.alloc (zrow la)) #[] 0 (by simp) (by unfold maxLen;omega) rfl
  rw[World.size_alloc]at h
  exact h
 case c1=>rw[bitCells_length,Nat.mul_one]
 case c2=>
  intro j u hu
  have hj:j<la:=by
   have:=(List.getElem?_eq_some_iff.1 hu).1
   rwa [bitCells_length]at this
  rw[bitCells_get a la j hj]at hu
  have e:(⟨ab,ao,none⟩:Addr).add j=⟨ab,ao+j,none⟩:=by unfold Addr.add;split<;>simp_all
  have h2:Below w.heap.size w ((w.alloc (zrow la)).alloc (.cells #[] 3)):=((Below.refl _ _).alloc (nR _) _).alloc (by simp) _
  rw[e,h2.cell (by exact hab),hcell j hj,hu]
 case c3=>
  intro u hu
  obtain⟨j,-,rfl⟩:=List.mem_map.1 hu
  rfl
 case c4=>exact ha0
 case c5=>unfold maxLen;omega
 case c6=>omega
 case c7=>simp;omega
 intro g cap w1 hown hgrow hat hlt
 rw[bitCells_nCells]at hown
 have hg:g≠w.heap.size:=by
  rcases hat with h|h
  ·simp[Value.ownBlock]at h
   omega
  ·rw[h];simp;omega
 have D0:Hid (DL w.heap.size w w.heap.size g la cap a b la la w1):=Hi (by
  have hq:=World.ownsRow_lit (base:=w.heap.size) (e:=3) (size:=1) w (madeCells #[.int .i64 0] (la*1)) la (nR _) (by unfold maxLen;omega) (by simp[madeCells])
  have e:(madeCells #[.int .i64 0] (la*1)).toList=List.replicate la (.int .i64 0):=by rw[Nat.mul_one,toList_madeCells_one]
  rw[e,nCells_zero]at hq
  have hq2:=(hq.alloc (.cells #[] 3)).kept hgrow (.inr (by simp[Value.ownBlock]))
  refine⟨0,a,_,_,DI.start ha.out.lt hb0,⟨hq2,hown,?_,by simp,by simp,fun h=>hg h.symm⟩,?_,BitsOf.range a la,ha.out.lt⟩
  ·exact(((Below.refl _ _).alloc (nR _) _).alloc (by simp) _).grown hgrow (by simp;omega) (fun x hx=>by simp[Value.ownBlock]at hx;omega)
  ·rw[Nat.mul_zero];exact BitsOf.zero la)
 clear hown hgrow hat hlt hcell
 go_wp2
 go_loopw [8,9,10,11,12,13] (fun tv iv _ _ _ _ wr=>∃k top,k≤la∧k≤top∧top≤la∧tv= .int .i64 (top:Nat)∧iv= .int .i64 ((k:Int)-1)∧DL w.heap.size w w.heap.size g la cap a b k top wr) (fun _ iv _ _ _ _ _=>(intOf iv+1).toNat)
 case atStart=>exact⟨la,la,nR _,nR _,nR _,rfl,rfl,D0.out⟩
 case round=>
  obtain⟨k,top,hk,hkt,htl,rfl,rfl,hd⟩:=hrel
  cases k with
  |zero=>
   obtain⟨q,R,Sq,Sa,h1,h2,h3,h4,h5⟩:=hd.ex
   obtain⟨rfl,rfl⟩:=h1.last
   have hq1:a/b<2^la:=Nat.lt_of_le_of_lt (Nat.div_le_self _ _) ha.out.lt
   have hq2:a %b<2^la:=Nat.lt_of_le_of_lt (Nat.mod_le _ _) ha.out.lt
   rw[Nat.pow_zero,Nat.one_mul]at h3
   have VQ:=Hi (BtV.of_own' h2.qown h2.lq h3 hq1 rfl)
   have VA:=Hi (BtV.of_own' h2.aown h2.la h4 hq2 rfl)
   have CQ:Hid (Calls Tryz.prog 57 #[.slice (some ⟨w.heap.size,0,none⟩) la la] wr fun e w'=>∃m',T2 (a/b) m'∧e= .returned (.slice (some ⟨w.heap.size,0,none⟩) m' la)∧wr=w'):=Hi (Tryz.rcut _ _ _ _ VQ.out)
   have CA:Hid (Calls Tryz.prog 57 #[.slice (some ⟨g,0,none⟩) la cap] wr fun e w'=>∃m',T2 (a %b) m'∧e= .returned (.slice (some ⟨g,0,none⟩) m' cap)∧wr=w'):=Hi (Tryz.rcut _ _ _ _ VA.out)
   have BEL:=Hi h2.bel
   have Q1:=Hi hq1
   have Q2:=Hi hq2
   clear h1 h2 h3 h4 h5 hd hq1 hq2
   go_wp2_with (first|(go_at_call 57;(with_reducible refine CQ.out.mono ?_);rintro e w' ⟨mq,hmq,rfl,rfl⟩)|(go_at_call 57;(with_reducible refine CA.out.mono ?_);rintro e w' ⟨mr,hmr,rfl,rfl⟩))
   go_ret2
   exact⟨_,_,_,_,_,_,rfl,hmq,VQ.out.cut (T2.le hmq Q1.out (nR _)) hmq.1,hmr,VA.out.cut (T2.le hmr Q2.out (nR _)) hmr.1,BEL.out⟩
  |succ i=>
   have hil:i<la:=by omega
   have k1:((i+1:Nat):Int)-1=i:=by omega
   rw[k1]
   have k0:decide ((0:Int)≤(i:Int))=true:=dTo
   obtain⟨q,R,Sq,Sa,h1,h2,h3,h4,h5⟩:=hd.ex
   have HD:=Hi hd
   have DIH:=Hi h1
   have DSH:=Hi h2
   have BQ:=Hi h3
   have BA:=Hi h4
   have HT:=Hi h5
   obtain⟨hc1,hc2,hc3⟩:=h2.caps
   clear hd h1 h2 h3 h4 h5
   go_wp2
   go_loop [8] (fun tv=>∃t,i≤t∧t≤la∧tv= .int .i64 (t:Nat)∧R<2^t) (fun tv=>(intOf tv).toNat)
   case atStart=>exact⟨top,by omega,htl,rfl,HT.out⟩
   case round=>
    obtain⟨t,hit,htl2,rfl,hRt⟩:=hrel
    have key:(i<t∧bit2 R (t-1)=0)∨((i<t∧bit2 R (t-1)≠0)∨t=i):=by omega
    rcases key with⟨ht,hz⟩|key
    ·obtain⟨p,hp⟩:∃p,t=p+1:=⟨t-1,by omega⟩
     subst hp
     have ep:((p+1:Nat):Int)-1=p:=by omega
     have hc:=DSH.out.acell p (by omega)
     rw[BA.out p (by rw[DSH.out.la];omega)]at hc
     rw[Nat.add_sub_cancel]at hz
     rw[hz]at hc
     have HN:=Hi (lt_step hRt hz)
     clear hRt hz
     go_wp2
     go_round
     case rel=>exact⟨p,by omega,by omega,by go_num,HN.out⟩
     case measure=>simp[intOf]
    ·obtain⟨n,hn⟩:∃n,t=i+n:=⟨t-i,by omega⟩
     have hT2:T2 (R/2^i) n:=top_T2 (by rw[←hn];exact hRt) (by
      rcases key with⟨h1,h2⟩|h1
      ·right;rw[←hn];exact h2
      ·left;omega)
     have en:(t:Int)-(i:Int)=(n:Int):=by omega
     have en2:t-i=n:=by omega
     have PART:=Hi (DSH.out.part BA.out (by omega:i+n≤la) (by rw[←hn];exact hRt))
     have ci:cap≠i:=by omega
     have kc:(i<t∧∃p1 z:Nat,(t:Int)-1=(p1:Int)∧p1<la∧wr.cell? ⟨g,p1,none⟩=some (.int .i64 (z:Nat))∧((z:Int)==0)=false)∨t=i:=by
      rcases key with⟨h1,h2⟩|h1
      ·refine .inl ⟨h1,t-1,bit2 R (t-1),by omega,by omega,?_,eqf (n:=0) h2⟩
       rw[DSH.out.acell (t-1) (by omega),BA.out (t-1) (by rw[DSH.out.la];omega)]
      ·exact .inr h1
     have HN:=Hi hn
     clear key hn
     rcases Nat.lt_or_ge (R/2^i) b with hl|hl
     ·have CLS:Hid (Calls Tryz.prog 151 #[.slice (some ⟨g,i,none⟩) n (cap-i),.slice ba lb bc] wr fun e w'=>e= .returned (.bool true)∧∃dn,w'=wr.drewN dn):=Hi (by
       have h:=Tryz.rless _ _ (R/2^i) b n lb wr PART (Hi (hb.out.below DSH.out.bel)) hT2 TB.out (by omega)
       rw[decide_eq_true hl]at h
       exact h)
      have HL:Hid (DL w.heap.size w w.heap.size g la cap a b i t wr):=Hi ⟨2*q,R,Sq,Sa,DIH.out.less hl,DSH.out,BQ.out.double,BA.out,hRt⟩
      have nl:n<lb∨n=lb:=by
       rcases Nat.lt_or_ge lb n with h|h
       ·have:=TB.out.lt_of_lt hT2 h
        omega
       ·omega
      clear hl hRt hT2
      rcases kc with⟨ht,p1,z,ep,hp1,hc,hz⟩|ht
      ·rcases nl with hnl|hnl
       ·go_wp2
        go_roundw
        case rel=>exact⟨i,t,by omega,by omega,by omega,rfl,by go_num,HL.out⟩
        case measure=>simp[intOf]
       ·subst hnl
        have nn:((n:Int)==(n:Int))=true:=beq_self_eq_true _
        go_wp2_with (go_at_call 151;(with_reducible refine CLS.out.mono ?_);rintro e w' ⟨rfl,dn,rfl⟩)
        go_roundw
        case rel=>exact⟨i,t,by omega,by omega,by omega,rfl,by go_num,HL.out.heap (hp_drewN _ _)⟩
        case measure=>simp[intOf]
      ·have hlb0:0<lb:=by
        rcases Nat.eq_zero_or_pos lb with h|h
        ·have:=TB.out.1
         rw[h]at this
         omega
        ·exact h
       subst ht
       clear en en2 nl
       go_wp2
       go_roundw
       case rel=>exact⟨t,t,by omega,by omega,by omega,rfl,by go_num,HL.out⟩
       case measure=>simp[intOf]
     ·obtain⟨ht,p1,z,ep,hp1,hc,hz⟩:i<t∧∃p1 z:Nat,(t:Int)-1=(p1:Int)∧p1<la∧wr.cell? ⟨g,p1,none⟩=some (.int .i64 (z:Nat))∧((z:Int)==0)=false:=by
       rcases kc with h|h
       ·exact h
       ·have h1:=hT2.1
        have h2:n=0:=by have:=HN.out;omega
        rw[h2,Nat.pow_zero]at h1
        omega
      have CLS:Hid (Calls Tryz.prog 151 #[.slice (some ⟨g,i,none⟩) n (cap-i),.slice ba lb bc] wr fun e w'=>e= .returned (.bool false)∧∃dn,w'=wr.drewN dn):=Hi (by
       have h:=Tryz.rless _ _ (R/2^i) b n lb wr PART (Hi (hb.out.below DSH.out.bel)) hT2 TB.out (by omega)
       rw[decide_eq_false (by omega)]at h
       exact h)
      have nl:n=lb∨lb<n:=by
       rcases Nat.lt_or_ge n lb with h|h
       ·have:=hT2.lt_of_lt TB.out h
        omega
       ·omega
      have HL:=Hi hl
      have RT:=Hi hRt
      have qc:=DSH.out.qcell i hil
      have qf:=DSH.out.qfrozen i
      have CBG:Hid (∀(W:World) (j:Nat),Below w.heap.size w W→Calls Tryz.prog 201 #[.slice ba lb bc,.int .i64 j] W fun e w'=>e= .returned (.int .i64 (bit2 b j))∧w'=W):=Hi (fun W j h=>Tryz.rbit' _ b lb j W (Hi (hb.out.below h)))
      have D1:Hid (∀W:World,Hp wr W→DS w.heap.size w w.heap.size g la cap (Sq.set i 1) Sa (W.setCell ⟨w.heap.size,i,none⟩ (.int .i64 1))):=Hi (fun W h=>(DSH.out.heap h).setq i 1)
      clear hl hRt hT2 kc
      rcases nl with hnl|hnl
      ·subst hnl
       have nn:((n:Int)==(n:Int))=true:=beq_self_eq_true _
       go_wp2_with (go_at_call 151;(with_reducible refine CLS.out.mono ?_);rintro e w' ⟨rfl,dn,rfl⟩)
       have DX:=Hi (D1.out _ (hp_drewN wr dn))
       clear qc qf hc hz ep
       go_loopw [11,12,13] (fun bv kv _ wr=>∃(j:Nat) (Sa2:List Nat),j≤n∧bv= .int .i64 (sbw (R/2^i) b j:Nat)∧kv= .int .i64 ((i+j:Nat):Int)∧DS w.heap.size w w.heap.size g la cap (Sq.set i 1) Sa2 wr∧SubI Sa2 R b i j) (fun _ kv _ _=>t-(intOf kv).toNat)
       case atStart=>exact⟨0,Sa,Nat.zero_le _,by rw[sbw_zero];rfl,by simp,DX.out,SubI.start BA.out⟩
       case round=>
        obtain⟨j,Sa2,hj,rfl,rfl,hds,hsub⟩:=hrel
        have etn:=HN.out
        by_cases hjn:j<n
        ·obtain⟨r,hr⟩:∃r,r=i+j:=⟨_,rfl⟩
         have hrl:r<la:=by omega
         have hrt:r<t:=by omega
         have ac:=hds.acell r hrl
         have af:=hds.afrozen r
         have ev:Sa2.getD r 0=bit2 (R/2^i) j:=by rw[hr];exact hsub.at (by rw[hds.la];omega)
         rw[ev]at ac
         have er:(r:Int)-(i:Int)=(j:Int):=by omega
         obtain⟨c,hc⟩:∃c,c=sbw (R/2^i) b j:=⟨_,rfl⟩
         obtain⟨c2,hc2⟩:∃c,c=sbw (R/2^i) b (j+1):=⟨_,rfl⟩
         obtain⟨p,hp⟩:∃c,c=bit2 (R/2^i) j:=⟨_,rfl⟩
         obtain⟨u,hu⟩:∃c,c=bit2 b j:=⟨_,rfl⟩
         obtain⟨t1,ht1⟩:∃c,c=bit2 (R/2^i-b) j:=⟨_,rfl⟩
         have hp2:=bit2_lt (R/2^i) j
         have hu2:=bit2_lt b j
         have ht2:=bit2_lt (R/2^i-b) j
         have hs1:=sbw_le (R/2^i) b j
         have sb:=sub_bit HL.out j
         have CB:=Hi (fun m=>CBG.out (wr.drewN m) j (Below.hp hds.bel (hp_drewN _ _)))
         rw[←hp]at ac hp2 sb
         rw[←hu]at hu2 sb CB
         rw[←hc]at hs1 sb
         rw[←hc2,←ht1]at sb
         rw[←ht1]at ht2
         rw[←hr,←hc]
         have NXT:Hid (∀W:World,Hp wr W→DS w.heap.size w w.heap.size g la cap (Sq.set i 1) (Sa2.set r t1) (W.setCell ⟨g,r,none⟩ (.int .i64 (t1:Nat)))∧SubI (Sa2.set r t1) R b i (j+1)):=Hi (fun W h=>⟨(hds.heap h).seta r t1,by rw[ht1,hr];exact hsub.next (by rw[hds.la];omega)⟩)
         have HC2:Hid (sbw (R/2^i) b (j+1)=c2):=Hi hc2.symm
         have hr1:Hid (r+1=i+(j+1)):=Hi (by omega)
         have pb:(p:Int)≤1:=by omega
         have qb:(u:Int)≤1:=by omega
         have cb:(c:Int)≤1:=by omega
         have tb:(t1:Int)≤1:=by omega
         clear hds hsub ev hr hp hu hc hc2 ht1 etn hp2 hu2 ht2 hs1
         rcases sb with⟨s1,s2,s3⟩|⟨s1,s2,s3⟩
         ·have d1:(p:Int)-u-c=t1:=by omega
          have d2:decide ((t1:Int)<0)=false:=dFo
          have E2:Hid (c2=0):=Hi s3
          clear s1 s2 s3
          go_wp2
          go_quiet ((go_at_call 201;exact Calls.quiet_of_same (CB.out _)))
          go_wp2
          go_roundw
          case rel=>
           obtain⟨n1,n2⟩:=NXT.out (wr.drewN nq) (hp_drewN _ _)
           exact⟨j+1,_,by omega,by rw[HC2.out,E2.out];rfl,by rw[←hr1.out];go_num,n1,n2⟩
          case measure=>simp[intOf];omega
         ·have d1:(p:Int)-u-c=(t1:Int)-2:=by omega
          have d2:decide ((t1:Int)-2<0)=true:=dTo
          have d3:(t1:Int)-2+2=t1:=by omega
          have E2:Hid (c2=1):=Hi s3
          clear s1 s2 s3
          go_wp2
          go_quiet ((go_at_call 201;exact Calls.quiet_of_same (CB.out _)))
          go_wp2
          go_roundw
          case rel=>
           obtain⟨n1,n2⟩:=NXT.out (wr.drewN nq) (hp_drewN _ _)
           exact⟨j+1,_,by omega,by rw[HC2.out,E2.out];rfl,by rw[←hr1.out];go_num,n1,n2⟩
          case measure=>simp[intOf];omega
        ·obtain rfl:j=n:=by omega
         obtain⟨dm,dle⟩:=DIH.out.more HL.out
         have FIN:Hid (DL w.heap.size w w.heap.size g la cap a b i t wr):=Hi ⟨_,_,_,_,dm,hds,BQ.out.one (by rw[DSH.out.lq];exact hil),hsub.last (by rw[←etn];exact RT.out) dle,Nat.lt_of_le_of_lt (Nat.sub_le _ _) RT.out⟩
         rw[←etn]
         clear hds hsub etn dm dle
         go_wp2
         go_roundw
         case rel=>exact⟨i,t,by omega,by omega,by omega,rfl,by go_num,FIN.out⟩
         case measure=>simp[intOf]
      ·have nn:((n:Int)==(lb:Int))=false:=eqf (by omega)
       go_wp2
       have DX:=Hi (D1.out wr ⟨rfl,rfl,rfl,rfl⟩)
       clear qc qf hc hz ep
       go_loopw [11,12,13] (fun bv kv _ wr=>∃(j:Nat) (Sa2:List Nat),j≤n∧bv= .int .i64 (sbw (R/2^i) b j:Nat)∧kv= .int .i64 ((i+j:Nat):Int)∧DS w.heap.size w w.heap.size g la cap (Sq.set i 1) Sa2 wr∧SubI Sa2 R b i j) (fun _ kv _ _=>t-(intOf kv).toNat)
       case atStart=>exact⟨0,Sa,Nat.zero_le _,by rw[sbw_zero];rfl,by simp,DX.out,SubI.start BA.out⟩
       case round=>
        obtain⟨j,Sa2,hj,rfl,rfl,hds,hsub⟩:=hrel
        have etn:=HN.out
        by_cases hjn:j<n
        ·obtain⟨r,hr⟩:∃r,r=i+j:=⟨_,rfl⟩
         have hrl:r<la:=by omega
         have hrt:r<t:=by omega
         have ac:=hds.acell r hrl
         have af:=hds.afrozen r
         have ev:Sa2.getD r 0=bit2 (R/2^i) j:=by rw[hr];exact hsub.at (by rw[hds.la];omega)
         rw[ev]at ac
         have er:(r:Int)-(i:Int)=(j:Int):=by omega
         obtain⟨c,hc⟩:∃c,c=sbw (R/2^i) b j:=⟨_,rfl⟩
         obtain⟨c2,hc2⟩:∃c,c=sbw (R/2^i) b (j+1):=⟨_,rfl⟩
         obtain⟨p,hp⟩:∃c,c=bit2 (R/2^i) j:=⟨_,rfl⟩
         obtain⟨u,hu⟩:∃c,c=bit2 b j:=⟨_,rfl⟩
         obtain⟨t1,ht1⟩:∃c,c=bit2 (R/2^i-b) j:=⟨_,rfl⟩
         have hp2:=bit2_lt (R/2^i) j
         have hu2:=bit2_lt b j
         have ht2:=bit2_lt (R/2^i-b) j
         have hs1:=sbw_le (R/2^i) b j
         have sb:=sub_bit HL.out j
         have CB:=Hi (fun m=>CBG.out (wr.drewN m) j (Below.hp hds.bel (hp_drewN _ _)))
         rw[←hp]at ac hp2 sb
         rw[←hu]at hu2 sb CB
         rw[←hc]at hs1 sb
         rw[←hc2,←ht1]at sb
         rw[←ht1]at ht2
         rw[←hr,←hc]
         have NXT:Hid (∀W:World,Hp wr W→DS w.heap.size w w.heap.size g la cap (Sq.set i 1) (Sa2.set r t1) (W.setCell ⟨g,r,none⟩ (.int .i64 (t1:Nat)))∧SubI (Sa2.set r t1) R b i (j+1)):=Hi (fun W h=>⟨(hds.heap h).seta r t1,by rw[ht1,hr];exact hsub.next (by rw[hds.la];omega)⟩)
         have HC2:Hid (sbw (R/2^i) b (j+1)=c2):=Hi hc2.symm
         have hr1:Hid (r+1=i+(j+1)):=Hi (by omega)
         have pb:(p:Int)≤1:=by omega
         have qb:(u:Int)≤1:=by omega
         have cb:(c:Int)≤1:=by omega
         have tb:(t1:Int)≤1:=by omega
         clear hds hsub ev hr hp hu hc hc2 ht1 etn hp2 hu2 ht2 hs1
         rcases sb with⟨s1,s2,s3⟩|⟨s1,s2,s3⟩
         ·have d1:(p:Int)-u-c=t1:=by omega
          have d2:decide ((t1:Int)<0)=false:=dFo
          have E2:Hid (c2=0):=Hi s3
          clear s1 s2 s3
          go_wp2
          go_quiet ((go_at_call 201;exact Calls.quiet_of_same (CB.out _)))
          go_wp2
          go_roundw
          case rel=>
           obtain⟨n1,n2⟩:=NXT.out (wr.drewN nq) (hp_drewN _ _)
           exact⟨j+1,_,by omega,by rw[HC2.out,E2.out];rfl,by rw[←hr1.out];go_num,n1,n2⟩
          case measure=>simp[intOf];omega
         ·have d1:(p:Int)-u-c=(t1:Int)-2:=by omega
          have d2:decide ((t1:Int)-2<0)=true:=dTo
          have d3:(t1:Int)-2+2=t1:=by omega
          have E2:Hid (c2=1):=Hi s3
          clear s1 s2 s3
          go_wp2
          go_quiet ((go_at_call 201;exact Calls.quiet_of_same (CB.out _)))
          go_wp2
          go_roundw
          case rel=>
           obtain⟨n1,n2⟩:=NXT.out (wr.drewN nq) (hp_drewN _ _)
           exact⟨j+1,_,by omega,by rw[HC2.out,E2.out];rfl,by rw[←hr1.out];go_num,n1,n2⟩
          case measure=>simp[intOf];omega
        ·obtain rfl:j=n:=by omega
         obtain⟨dm,dle⟩:=DIH.out.more HL.out
         have FIN:Hid (DL w.heap.size w w.heap.size g la cap a b i t wr):=Hi ⟨_,_,_,_,dm,hds,BQ.out.one (by rw[DSH.out.lq];exact hil),hsub.last (by rw[←etn];exact RT.out) dle,Nat.lt_of_le_of_lt (Nat.sub_le _ _) RT.out⟩
         rw[←etn]
         clear hds hsub etn dm dle
         go_wp2
         go_roundw
         case rel=>exact⟨i,t,by omega,by omega,by omega,rfl,by go_num,FIN.out⟩
         case measure=>simp[intOf]
end Go.Proofs
end
section
namespace Go.Proofs
open Go.RowKit Go.Pf Go.Rb
theorem Tok.other {w:World} {b:Nat}(h:Tok w b){a:Addr}(hne:b≠a.block) (u:Value):Tok (w.setCell a u) b:=⟨(heap_setCell_other w a b u hne).trans h.h⟩
theorem Tok.new4 (w:World) (o o2 o3:Obj):Tok ((((w.alloc o).alloc o2).alloc o3).alloc (.cells #[.bool false,.slice none 0 0] 65)) (w.heap.size+3):=by
 have h:=Tok.new1 (((w.alloc o).alloc o2).alloc o3)
 simpa using h
def QuoSays (x y:Nat) (w:World) (e:Ending) (w':World):Prop:=∃qa qm qc ra rm rc,e= .returned (.tuple #[.agg #[.bool false,.slice qa qm qc],.agg #[.bool false,.slice ra rm rc]])∧T2 (x/y) qm∧BtV w' (.slice qa qm qc) (x/y) qm∧T2 (x %y) rm∧BtV w' (.slice ra rm rc) (x %y) rm∧Below w.heap.size w w'
theorem Tryz.rquo (va vb:Value) (x y la lb:Nat) (w:World) (ha:Hid (BtV w va x la)) (hb:Hid (BtV w vb y lb)) (tb:T2 y lb) (ha0:0<la) (hb0:0<y) (hla:la≤1000000) (hlb:lb≤1000000):
 Calls Tryz.prog 104 #[.agg #[.bool false,va],.agg #[.bool false,vb]] w (QuoSays x y w):=by
 go_enter Tryz.func104,Tryz.ntmps104
 go_wp2_with fail
 generalize hW:(((w.alloc _).alloc _).alloc _).alloc _=W1
 have bl:Below w.heap.size w W1:=by subst hW;exact((((Below.refl _ _).alloc (nR _) _).alloc (by simp) _).alloc (by simp;omega) _).alloc (by simp;omega) _
 have c0:W1.cell? ⟨w.heap.size,0,none⟩=some (.bool false):=by subst hW;go_simp
 have d0:W1.cell? ⟨w.heap.size+1,0,none⟩=some (.bool false):=by subst hW;go_simp
 have t4:Tok W1 (w.heap.size+1+1):=by
  subst hW
  exact(Tok.new3 w _ _).below ((Below.refl _ _).alloc (nR _) _)
 have t5:Tok W1 (w.heap.size+1+1+1):=by subst hW;exact Tok.new4 w _ _ _
 have sz:W1.heap.size=w.heap.size+4:=by subst hW;simp
 have CD:=Hi (Tryz.rdivided va vb x y la lb W1 (Hi (ha.out.below bl)) (Hi (hb.out.below bl)) tb ha0 hb0 hla hlb)
 have BL:=Hi bl
 clear hW bl ha hb tb
 refine CD.out.mono ?_
 clear CD
 rintro e W2 ⟨qa,qm,qc,ra,rm,rc,rfl,hq1,hq2,hr1,hr2,b12⟩
 obtain⟨S,hS⟩:∃S,S=W2.heap.size:=⟨_,rfl⟩
 have hb12:Below w.heap.size w W2:=BL.out.trans (b12.mono BL.out.size)
 have hs2:w.heap.size+4≤S:=by rw[hS,←sz];exact b12.size
 have B2:Hid (Below w.heap.size w W2):=Hi hb12
 have u4:=t4.below b12
 have u5:=t5.below b12
 have e0:=(b12.cell (p:=⟨w.heap.size,0,none⟩) (by rw[sz];simp only;omega)).trans c0
 have f0:=(b12.cell (p:=⟨w.heap.size+1,0,none⟩) (by rw[sz];simp only;omega)).trans d0
 have Q2:=Hi hq2
 have R2:=Hi hr2
 have U4:=Hi u4
 have U5:=Hi u5
 have CQ:Hid (∀W,Hp W2 W→Calls Tryz.prog 58 #[.bool false,.slice qa qm qc] W fun e W'=>∃a m c,e= .returned (.agg #[.bool false,.slice a m c])∧T2 (x/y) m∧BtV W' (.slice a m c) (x/y) m∧Below S W2 W'∧W'.cell? ⟨w.heap.size,0,none⟩=some (.bool false)∧W'.cell? ⟨w.heap.size+1,0,none⟩=some (.bool false)):=Hi (fun W h=>by
  refine(Tryz.rlaid false (.slice qa qm qc) (x/y) qm W (Hi (Q2.out.heap h.heap))).mono ?_
  rintro e W' ⟨sl,m,rfl,h1,h2,h3⟩
  obtain⟨a,c,rfl⟩:=h2.slice
  have h4:Below S W2 W':=by rw[hS];exact h.below.trans (h3.mono h.below.size)
  exact⟨a,m,c,rfl,h1,h2,h4,(h4.cell (by simp only;omega)).trans e0,(h4.cell (by simp only;omega)).trans f0⟩)
 have CR:Hid (∀W qa m qc,Below S W2 W→BtV W (.slice qa m qc) (x/y) m→Calls Tryz.prog 58 #[.bool false,.slice ra rm rc] W fun e W'=>∃a m' c,e= .returned (.agg #[.bool false,.slice a m' c])∧T2 (x %y) m'∧BtV W' (.slice a m' c) (x %y) m'∧BtV W' (.slice qa m qc) (x/y) m∧Below S W2 W'∧Tok W' (w.heap.size+1+1)∧Tok W' (w.heap.size+1+1+1)):=Hi (fun W qa m qc h hq=>by
  rw[hS]at h
  refine(Tryz.rlaid false (.slice ra rm rc) (x %y) rm W (Hi (R2.out.below h))).mono ?_
  rintro e W' ⟨sl,m',rfl,h1,h2,h3⟩
  obtain⟨a,c,rfl⟩:=h2.slice
  have h4:Below S W2 W':=by rw[hS];exact h.trans (h3.mono h.size)
  rw[hS]at h4
  rw[hS]
  exact⟨a,m',c,rfl,h1,h2,hq.below h3,h4,U4.out.below h4,U5.out.below h4⟩)
 have HS:=Hi hS
 have SZ:=Hi sz
 clear hS hq1 hq2 hr1 hr2 b12 hb12 u4 u5 t4 t5 c0 d0 sz
 go_wp2_with fail
 go_region_law (first
  | (refine step_call (by rfl) 58 _ _ (by rfl) _ (by rfl) Tryz.enter58 ((CQ.out _ (by first|exact hp_drewN _ _|exact hp_drew _|exact⟨rfl,rfl,rfl,rfl⟩)).mono ?_);rintro e W3 ⟨a3,m3,c3,rfl,ht3,hv3,b3,k0,k1⟩;refine⟨_,rfl,?_⟩)
  | (refine step_call (by rfl) 58 _ _ (by rfl) _ (by rfl) Tryz.enter58 ((CR.out _ _ _ _ b3 hv3).mono ?_);rintro e W4 ⟨a4,m4,c4,rfl,ht4,hv4,hv5,b4,v4,v5⟩;refine⟨_,rfl,?_⟩;have y0:=v4.c0;have y1:=v4.c1;have z0:=v5.c0;have z1:=v5.c1;have g0:=v4.f 0;have g1:=v4.f 1;have g2:=v5.f 0;have g3:=v5.f 1))
 all_goals
  have H4:=Hi hv4
  have H5:=Hi hv5
  have B4:=Hi b4
  have V4:=Hi v4
  have V5:=Hi v5
  clear hv4 hv5 b4 v4 v5 hv3 b3 CQ CR
  go_wp2
  refine bodyPost_ret (v:= .tuple #[.agg #[.bool false,.slice a3 m3 c3],.agg #[.bool false,.slice a4 m4 c4]]) ?_ rfl ⟨_,m3,_,_,m4,_,rfl,ht3,?_,ht4,?_,?_⟩
  ·simp only[results,Tryz.results104]
   go_simp
  ·exact(H5.out.tok V4.out _ _).tok ((V5.out.other (by simp only;omega) _).other (by simp only;omega) _) _ _
  ·exact(H4.out.tok V4.out _ _).tok ((V5.out.other (by simp only;omega) _).other (by simp only;omega) _) _ _
  ·iterate 4 refine Below.setCell ?_ (by simp only;omega) _
   exact B2.out.trans (B4.out.mono (by omega))
end Go.Proofs
end
