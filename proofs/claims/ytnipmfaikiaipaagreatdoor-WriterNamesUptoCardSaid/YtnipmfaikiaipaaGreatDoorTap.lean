import Derived.Test.YtnipmfaikiaipaaGreatDoorTan
import Derived.Test.YtnipmfaikiaipaaGreatDoorTah
import Derived.Test.YtnipmfaikiaipaaGreatDoorTaa
set_option linter.unusedSimpArgs false
set_option maxRecDepth 1000000
set_option maxHeartbeats 40000000
section
namespace Go.Proofs
open Go.RowKit Go.Pf Go.Rb
structure Ce (w:World) (b:Nat) (u v:Value):Prop where
 h:w.heap[b]? =some (.cells #[u,v] 135 (0,0))
theorem Ce.below {w w':World} {b:Nat} {u v:Value}(h:Ce w b u v) (hb:Below w.heap.size w w'):Ce w' b u v:=⟨(hb.block b (Array.getElem?_eq_some_iff.1 h.h).1).trans h.h⟩
theorem Ce.c0 {w:World} {b:Nat} {u v:Value}(h:Ce w b u v):w.cell? ⟨b,0,none⟩=some u:=by rw[Lib.cell_of_heap h.h];rfl
theorem Ce.c1 {w:World} {b:Nat} {u v:Value}(h:Ce w b u v):w.cell? ⟨b,1,none⟩=some v:=by rw[Lib.cell_of_heap h.h];rfl
theorem Ce.f {w:World} {b:Nat} {u v:Value}(h:Ce w b u v) (i:Nat):w.frozen? ⟨b,i,none⟩=false:=Lib.frozen_of_heap h.h i
theorem Ce.lt {w:World} {b:Nat} {u v:Value}(h:Ce w b u v):b<w.heap.size:=(Array.getElem?_eq_some_iff.1 h.h).1
theorem Ce.new (w:World) (u v:Value):Ce (w.alloc (.cells #[u,v] 135)) w.heap.size u v:=⟨heap_alloc_new w _⟩
theorem Ce.set {w:World} {b:Nat} {u v:Value}(h:Ce w b u v) (u' v':Value):Ce ((w.setCell ⟨b,0,none⟩ u').setCell ⟨b,1,none⟩ v') b u' v':=by
 have h1:=heap_setCell_same w b 0 _ 135 u' h.h
 have h2:=heap_setCell_same _ b 1 _ 135 v' h1
 exact⟨h2⟩
structure Big1 (z:Nat) (w:World) (e:Ending) (w':World):Prop where
 ex:∃a m c,e= .returned (.agg #[.bool false,.slice a m c])∧T2 z m∧BtV w' (.slice a m c) z m∧Below w.heap.size w w'
theorem BigSays.one {z:Nat} {w:World} {e:Ending} {w':World}(h:BigSays false z w e w'):Big1 z w e w':=by
 obtain⟨sl,m,rfl,h1,h2,h3⟩:=h
 obtain⟨a,c,rfl⟩:=h2.slice
 exact⟨a,m,c,rfl,h1,h2,h3⟩
end Go.Proofs
end
