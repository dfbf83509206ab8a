import Derived.Test.YtpjcdbjablijkaaGreatDoorAbD
import Derived.Test.YtpjcdbjablijkaaGreatDoorTax
import Derived.Test.YtpjcdbjablijkaaGreatDoorTas
import Derived.Test.YtpjcdbjablijkaaGreatDoorTaa
import Derived.Test.YtpjcdbjablijkaaGreatDoorTar
import Derived.ChangeStays
import Derived.ChangeSame
import Derived.ProofKit
import Derived.OpenShut
import Derived.Deep.DeepHandedRow
import Derived.Lay
import Derived.ChangeBears2
import Derived.Shelf.Small.Utf8
import Derived.Shelf.Strings.BuilderK
import Derived.Shelf.Strings.BuilderRune
import Derived.Shelf.Strings.Prefix
import Derived.Test.YtpjcdbjablijkaaGreatDoorProg
import Derived.Test.YtpjcdbjablijkaaGreatDoorChecked
import Derived.WalkKit
import Derived.BigCall
import Derived.Test.YtpjcdbjablijkaaGreatDoorTak
import Derived.Deep.QuietTactic
import Derived.BigQuiet
import Derived.Test.YtpjcdbjablijkaaGreatDoorRows
import Derived.KernelRfl
set_option maxRecDepth 1000000
set_option maxHeartbeats 40000000
section
namespace Go.Lx
theorem Lay.le {s:ByteArray} {p k e:Nat}(h:Lay s p k e):p≤s.size→e=0→k≤s.size:=by
 induction h with
 |done _=>exact fun h _=>h
 |stop _ _=>exact fun h _=>h
 |opn _ _=>exact fun _ h=>by cases h
 |bad _ _ _=>exact fun _ h=>by cases h
 |step h1 h2 _ _ ih=>exact fun _ h=>ih (layTo_bound h1 h2).2 h
end Go.Lx
namespace Go.Proofs
open Go.RowKit Go.Pf Go.Lx Go.Hb Go.Rb Go.Bg
def TR.tokL (R:TR) (ly:Bool):Value:=match R with
 | .ok k tx nu bits a en=>tokV k tx nu bits a en ly
 | .err p _=>badV p
def NextEnd (R:TR) (ly:Bool) (w:World) (e:Ending) (w':World):Prop:=e= .returned (.tuple #[TR.tokL R ly,.int .i64 (TR.er R:Nat)])∧Below w.heap.size w w'
theorem NextEnd.ok {R:TR} {ly:Bool} {w w':World} {k bits a E:Nat} {tx nu:ByteArray}(h:R= .ok k tx nu bits a E) (hb:Below w.heap.size w w'):NextEnd R ly w (.returned (.tuple #[tokV k tx nu bits a E ly,.int .i64 0])) w':=by subst h;exact⟨rfl,hb⟩
end Go.Proofs
end
section
set_option linter.unusedVariables false
end
section
namespace Go.Proofs
open Go.RowKit Go.Hb
open Go.Proofs.YtpjcdbjablijkaaGreatDoor
def Laid0 (W:World):Prop:=∃W0:World,laidMet Tryz.prog Rows.writerFloatsRow.laid W0∧W0.ShapedOpen Tryz.prog∧(∀g,g<Tryz.prog.globals.size→W.heap[g]? =W0.heap[g]?)∧Tryz.prog.globals.size≤W.heap.size
theorem Laid0.below {W W':World}(h:Laid0 W) (hb:Below W.heap.size W W'):Laid0 W':=by
 obtain⟨W0,h1,h2,h3,h4⟩:=h
 refine⟨W0,h1,h2,fun g hg=> ?_,?_⟩
 ·rw[hb.block g (by omega),h3 g hg]
 ·have:=hb.size;omega
theorem heap_more0 {P:Program} {W0:World}(h:W0.ShapedOpen P){k:Nat}(h1:Nat.ble P.globals.size k=true) (h2:Nat.ble (k+1) (begin P (fun _ _=>0) default).world.heap.size=true):k<W0.heap.size:=by
 obtain⟨o,_,ho,_⟩:=h.2 k (Nat.le_of_ble_eq_true h1) (Nat.le_of_ble_eq_true h2)
 exact(Array.getElem?_eq_some_iff.1 ho).1
theorem heap_more {W0:World}(h:W0.ShapedOpen Tryz.prog){k:Nat}(h1:Nat.ble Tryz.prog.globals.size k=true) (h2:Nat.ble (k+1) (begin Tryz.prog (fun _ _=>0) default).world.heap.size=true):k<W0.heap.size:=heap_more0 h h1 h2
theorem Laid0.of {W:World}(h1:laidMet Tryz.prog Rows.writerFloatsRow.laid W) (h2:W.ShapedOpen Tryz.prog):Laid0 W:=by
 have h3:21<W.heap.size:=heap_more h2 (k:=21) (by kernel_rfl) (by kernel_rfl)
 have h4:Tryz.prog.globals.size≤21:=Nat.le_of_ble_eq_true (by kernel_rfl)
 exact⟨W,h1,h2,fun _ _=>rfl,by omega⟩
theorem isB_below {T e:TypeId} {B b:Nat} {bs:List Value} {W W':World}(h:Lib.IsBuilderF T e B b bs W) (hb:Below W.heap.size W W'):Lib.IsBuilderF T e B b bs W':=by
 have key:∀{p:Value},Lib.BuilderAtF T e B b p bs W→Lib.BuilderAtF T e B b p bs W':=by
  intro p h
  have hlt:=h.lt
  obtain⟨hB,v,hv,hown,hne⟩:=h
  exact⟨hB,v,(hb.block b hlt).trans hv,hown.kept (row:=none) ⟨hb.os,hb.tape,hb.output,hb.size,fun k hk _=>hb.block k hk⟩ (Classical.em _),hne⟩
 exact h.elim (fun x=> .inl (key x)) (fun x=> .inr (key x))
end Go.Proofs
end
