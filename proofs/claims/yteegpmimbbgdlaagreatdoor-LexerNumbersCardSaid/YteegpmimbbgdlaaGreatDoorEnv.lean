/- The environment of the reading for this seat: functions without a body, variables; and that it fits the program. -/
import Derived.Test.YteegpmimbbgdlaaGreatDoorSeed
import Derived.Test.YteegpmimbbgdlaaGreatDoorProg
import Derived.Test.YteegpmimbbgdlaaGreatDoorChecked
namespace Go.Proofs.YteegpmimbbgdlaaGreatDoor
open Go Go.Proofs.YteegpmimbbgdlaaGreatDoor.Ab
def extFind (l : List (Nat × Ext)) (f : Nat) : Option Ext := match l with
  | [] => none
  | x :: r => match Nat.beq x.1 f with
    | true => some x.2
    | false => extFind r f
theorem extFind_mem {f : Nat} {e : Ext} : ∀ {l : List (Nat × Ext)}, extFind l f = some e → (f, e) ∈ l
  | [], h => by cases h
  | x :: r, h => by
    unfold extFind at h
    split at h
    · rename_i hx
      have hx := beq_true hx
      cases h
      subst hx
      exact .head _
    · exact .tail _ (extFind_mem h)
def exts : List (Nat × Ext) := [(87, .indexByte), (88, .indexStr), (96, .f64bits), (129, .f64of), (162, .f64of), (156, .f32of), (117, .same)]
noncomputable def env : Env := { P := Tryz.prog, ext := extFind exts, ro := Tryz.prog.globals.size, mx := 1, gl := Tryz.prog.globals.size, fast := fun _ => none }
theorem rows_ok : rowsOk Tryz.prog = true := by kernel_rfl
def noGoroutines (P : Program) : Bool := P.funcs.toList.all fun fn => (fn.body.isNone || !(fn.name == "runtime.NumGoroutine"))
theorem no_goroutines : noGoroutines Tryz.prog = true := by kernel_rfl
theorem xf87 : XF env 87 (.indexByte) := ⟨⟨Tryz.f87, by kernel_rfl, by kernel_rfl, by kernel_rfl, by kernel_rfl, by kernel_rfl, fun _ h => by cases h⟩, fun h => by cases h⟩
theorem xf88 : XF env 88 (.indexStr) := ⟨⟨Tryz.f88, by kernel_rfl, by kernel_rfl, by kernel_rfl, by kernel_rfl, by kernel_rfl, fun _ h => by cases h⟩, fun _ => ⟨of_decide_eq_true (by kernel_rfl), by kernel_rfl⟩⟩
theorem xf96 : XF env 96 (.f64bits) := ⟨⟨Tryz.f96, by kernel_rfl, by kernel_rfl, by kernel_rfl, by kernel_rfl, by kernel_rfl, fun _ h => by cases h⟩, fun h => by cases h⟩
theorem xf129 : XF env 129 (.f64of) := ⟨⟨Tryz.f129, by kernel_rfl, by kernel_rfl, by kernel_rfl, by kernel_rfl, by kernel_rfl, fun _ h => by cases h⟩, fun h => by cases h⟩
theorem xf162 : XF env 162 (.f64of) := ⟨⟨Tryz.f162, by kernel_rfl, by kernel_rfl, by kernel_rfl, by kernel_rfl, by kernel_rfl, fun _ h => by cases h⟩, fun h => by cases h⟩
theorem xf156 : XF env 156 (.f32of) := ⟨⟨Tryz.f156, by kernel_rfl, by kernel_rfl, by kernel_rfl, by kernel_rfl, by kernel_rfl, fun _ h => by cases h⟩, fun h => by cases h⟩
theorem xf117 : XF env 117 (.same) := ⟨⟨Tryz.f117, by kernel_rfl, by kernel_rfl, by kernel_rfl, by kernel_rfl, by kernel_rfl, fun _ h => by cases h⟩, fun h => by cases h⟩
theorem fits : Fit env := by
  refine Fit.of (by kernel_rfl) (fun f e h => ?_) (fun f fn h1 h2 => ?_) (fun f F h => by cases h)
  · have := extFind_mem (l := exts) h
    simp only [exts, List.mem_cons, List.mem_nil_iff, or_false, Prod.mk.injEq] at this
    rcases this with ⟨rfl, rfl⟩ | ⟨rfl, rfl⟩ | ⟨rfl, rfl⟩ | ⟨rfl, rfl⟩ | ⟨rfl, rfl⟩ | ⟨rfl, rfl⟩ | ⟨rfl, rfl⟩
    · exact xf87
    · exact xf88
    · exact xf96
    · exact xf129
    · exact xf162
    · exact xf156
    · exact xf117
  · have h3 := List.all_eq_true.1 no_goroutines fn (by
      have := Array.mem_of_getElem? h1
      exact Array.mem_toList_iff.2 this)
    cases hb : fn.body with
    | none => rw [hb] at h2; cases h2
    | some c => rw [hb] at h3; simpa using h3
end Go.Proofs.YteegpmimbbgdlaaGreatDoor
