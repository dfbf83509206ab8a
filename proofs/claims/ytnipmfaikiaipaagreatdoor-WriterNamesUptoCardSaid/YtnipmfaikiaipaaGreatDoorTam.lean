import Derived.Test.YtnipmfaikiaipaaGreatDoorTal
import Derived.Deep.RegionHeldLaw
import Derived.Test.YtnipmfaikiaipaaGreatDoorTaa
set_option maxRecDepth 1000000
set_option maxHeartbeats 40000000
section
namespace Go.Proofs
open Go.RowKit Go.Pf Go.Rb
structure Hp (w w':World):Prop where
 heap:w'.heap=w.heap
 os:w'.os=w.os
 tape:w'.tape=w.tape
 output:w'.output=w.output
theorem BtV.heap {w w':World} {v:Value} {x m:Nat}(h:BtV w v x m) (e:w'.heap=w.heap):BtV w' v x m:=by
 rcases h with h|⟨b,o,c,rfl,h2,h3,h4,h5,h6⟩
 ·exact .inl h
 ·exact .inr ⟨b,o,c,rfl,h2,h3,by rw[e];exact h4,h5,fun j hj=>(World.cell?_of_block (by rw[e])).trans (h6 j hj)⟩
theorem Tok.heap {w w':World} {b:Nat}(h:Tok w b) (e:w'.heap=w.heap):Tok w' b:=⟨by rw[e];exact h.h⟩
theorem Hp.below {w w':World}(h:Hp w w'):Below w.heap.size w w':=⟨h.os,h.tape,h.output,by rw[h.heap];exact nR _,fun _ _=>by rw[h.heap]⟩
structure RowAt (x:Nat) (w0:World) (e:Ending) (w':World):Prop where
 ex:∃a m c,e= .returned (.slice a m c)∧T2 x m∧BtV w' (.slice a m c) x m∧Below w0.heap.size w0 w'
theorem RowSays.at {x:Nat} {w0 w:World} {e:Ending} {w':World}(h:RowSays x w e w') (hb:Below w0.heap.size w0 w):RowAt x w0 e w':=by
 obtain⟨sl,m,rfl,ht,hv,b2⟩:=h
 obtain⟨a,c,rfl⟩:=hv.slice
 exact⟨a,m,c,rfl,ht,hv,hb.trans (b2.mono hb.size)⟩
end Go.Proofs
end
section
namespace Go.Proofs
open Go.RowKit Go.Pf Go.Rb
theorem Below.hp {B:Nat} {w W W':World}(h:Below B w W) (p:Hp W W'):Below B w W':=⟨p.os.trans h.os,p.tape.trans h.tape,p.output.trans h.output,by rw[p.heap];exact h.size,fun b hb=>by rw[p.heap];exact h.block b hb⟩
end Go.Proofs
end
section
namespace Go.Proofs
open Go.RowKit Go.Pf Go.Rb
def zrow (n:Nat):Obj:= .cells (madeCells #[.int .i64 0] (n*1)) 3
end Go.Proofs
end
section
namespace Go.Proofs
open Go.RowKit Go.Pf Go.Rb
def sv:List Nat→Nat
 | []=>0
 |a::l=>a+2*sv l
theorem sv_drop (l:List Nat) (i:Nat) (h:i<l.length):sv (l.drop i)=l.getD i 0+2*sv (l.drop (i+1)):=by
 rw[List.drop_eq_getElem_cons h]
 simp[sv,h]
def nCells (S:List Nat):List Value:=S.map fun n=>Value.int .i64 (n:Nat)
theorem nCells_get (S:List Nat) (j:Nat) (h:j<S.length):(nCells S)[j]? =some (.int .i64 (S.getD j 0:Nat)):=by simp[nCells,h]
theorem nCells_set (S:List Nat) (j n:Nat):(nCells S).set j (.int .i64 (n:Nat))=nCells (S.set j n):=by simp[nCells,List.map_set]
theorem nCells_zero (n:Nat):List.replicate n (Value.int .i64 0)=nCells (List.replicate n 0):=by simp[nCells]
structure TS (W1:World) (b L:Nat) (S:List Nat) (wr:World):Prop where
 own:wr.ownsRow b 3 1 (.slice (some ⟨b,0,none⟩) L L) L (nCells S)
 bel:Below b W1 wr
 len:S.length=L
theorem TS.cell {W1:World} {b L:Nat} {S:List Nat} {wr:World}(h:TS W1 b L S wr) (j:Nat) (hj:j<L):wr.cell? ⟨b,j,none⟩=some (.int .i64 (S.getD j 0:Nat)):=by
 rw[World.ownsRow.cellAt h.own j (by omega),nCells_get S j (by rw[h.len];exact hj)]
theorem TS.frozen {W1:World} {b L:Nat} {S:List Nat} {wr:World}(h:TS W1 b L S wr) (j:Nat):wr.frozen? ⟨b,j,none⟩=false:=World.ownsRow.frozenAt h.own j
theorem TS.set {W1:World} {b L:Nat} {S:List Nat} {wr:World}(h:TS W1 b L S wr) (j n:Nat):TS W1 b L (S.set j n) (wr.setCell ⟨b,j,none⟩ (.int .i64 (n:Nat))):=by
 refine⟨?_,h.bel.setCell (nR _) _,by rw[List.length_set];exact h.len⟩
 rw[←nCells_set]
 exact(World.ownsRow.stored h.own j _).1
theorem TS.heap {W1:World} {b L:Nat} {S:List Nat} {wr w':World}(h:TS W1 b L S wr) (p:Hp wr w'):TS W1 b L S w':=by
 refine⟨⟨h.own.1,?_⟩,Below.hp h.bel p,h.len⟩
 rw[p.heap]
 exact h.own.2
def AllLe (S:List Nat) (N:Nat):Prop:=∀j,S.getD j 0≤N
theorem AllLe.set {S:List Nat} {N:Nat}(h:AllLe S N) (j n:Nat) (hn:n≤N):AllLe (S.set j n) N:=by
 intro t
 have:=h t
 rw[List.getD_eq_getElem?_getD]at this⊢
 rw[List.getElem?_set]
 split
 ·split
  ·exact hn
  ·exact Nat.zero_le _
 ·exact this
theorem AllLe.mono {S:List Nat} {N M:Nat}(h:AllLe S N) (hm:N≤M):AllLe S M:=fun j=>Nat.le_trans (h j) hm
theorem AllLe.zero (n:Nat):AllLe (List.replicate n 0) 0:=by
 intro j
 rw[List.getD_eq_getElem?_getD,List.getElem?_replicate]
 split<;>simp
theorem getD_set_other (S:List Nat) (j t n:Nat) (h:t≠j):(S.set j n).getD t 0=S.getD t 0:=by
 rw[List.getD_eq_getElem?_getD,List.getD_eq_getElem?_getD,List.getElem?_set_ne (by omega)]
theorem getD_set_same (S:List Nat) (j n:Nat) (h:j<S.length):(S.set j n).getD j 0=n:=by
 rw[List.getD_eq_getElem?_getD,List.getElem?_set_self h];rfl
structure Car (S:List Nat) (p i c N:Nat):Prop where
 bits:∀j,j<i→S.getD j 0=bit2 p j
 rest:c+sv (S.drop i)=p/2^i
 le:c≤N
 all:∀j,i≤j→S.getD j 0≤N
theorem Car.start {S:List Nat} {p N:Nat}(h:sv S=p) (ha:AllLe S N):Car S p 0 0 N:=⟨fun j hj=>absurd hj (by omega),by simp[h],Nat.zero_le _,fun j _=>ha j⟩
theorem Car.next {S:List Nat} {p i c N t:Nat}(h:Car S p i c N) (hi:i<S.length) (ht:t=S.getD i 0+c):Car (S.set i (t %2)) p (i+1) (t/2) N∧t≤2*N:=by
 have h1:=h.rest
 rw[sv_drop S i hi]at h1
 have h2:=h.all i (nR _)
 have h3:=h.le
 refine⟨⟨?_,?_,by omega,?_⟩,by omega⟩
 ·intro j hj
  by_cases e:j=i
  ·subst e
   rw[getD_set_same S j _ hi,bit2,←h1]
   omega
  ·rw[getD_set_other S i j _ e]
   exact h.bits j (by omega)
 ·rw[List.drop_set_of_lt (by omega),Nat.pow_succ,←Nat.div_div_eq_div_mul,←h1]
  omega
 ·intro j hj
  rw[getD_set_other S i j _ (by omega)]
  exact h.all j (by omega)
theorem Car.last {S:List Nat} {p c N:Nat}(h:Car S p S.length c N):nCells S=bitCells p S.length:=by
 apply List.ext_getElem?
 intro j
 by_cases hj:j<S.length
 ·rw[nCells_get S j hj,bitCells_get _ _ _ hj,h.bits j hj]
 ·rw[List.getElem?_eq_none (by simp[nCells];omega),List.getElem?_eq_none (by rw[bitCells_length];omega)]
end Go.Proofs
end
section
namespace Go.Proofs
open Go.RowKit Go.Pf Go.Rb
theorem TS.start (W1:World) (L:Nat) (h:L≤4000000000):TS W1 W1.heap.size L (List.replicate L 0) (W1.alloc (zrow L)):=by
 have h1:=World.ownsRow_lit (base:=W1.heap.size) (e:=3) (size:=1) W1 (madeCells #[.int .i64 0] (L*1)) L (nR _) (by unfold maxLen;omega) (by simp[madeCells])
 have e:(madeCells #[.int .i64 0] (L*1)).toList=List.replicate L (.int .i64 0):=by rw[Nat.mul_one,toList_madeCells_one]
 rw[e,nCells_zero]at h1
 refine⟨h1,(Below.refl _ _).alloc (nR _) _,by simp⟩
theorem BtV.row {w:World} {a:Option Addr} {c x m:Nat}(h:BtV w (.slice a m c) x m){i:Nat}(hi:i<m):∃b o,a=some ⟨b,o,none⟩∧m≤c∧c≤9223372036854775807∧b<w.heap.size∧∀j,j<m→w.cell? ⟨b,o+j,none⟩=some (.int .i64 (bit2 x j:Nat)):=by
 rcases h with⟨h1,h2,h3⟩|⟨b,o,c',h1,h2,h3,h4,h5,h6⟩
 ·omega
 ·cases h1
  exact⟨b,o,rfl,h2,h3,h4,h6⟩
end Go.Proofs
end
