/- The environment of the reading for this seat: functions without a body, variables; that it fits the program but for the functions that stand by values. -/
import Derived.Test.YtjifnmilimdfdaaGreatDoorSrtD
import Derived.Test.YtjifnmilimdfdaaGreatDoorProg
import Derived.Test.YtjifnmilimdfdaaGreatDoorChecked
namespace Go.Proofs.YtjifnmilimdfdaaGreatDoor
open Go Go.Proofs.YtjifnmilimdfdaaGreatDoor.Ab
def extFind (l : List (Nat × Ext)) (f : Nat) : Option Ext := match l with
  | [] => none
  | x :: r => match Nat.beq x.1 f with
    | true => some x.2
    | false => extFind r f
theorem extFind_mem {f : Nat} {e : Ext} : ∀ {l : List (Nat × Ext)}, extFind l f = some e → (f, e) ∈ l
  | [], h => by cases h
  | x :: r, h => by
    unfold extFind at h
    split at h
    · rename_i hx
      have hx := beq_true hx
      cases h
      subst hx
      exact .head _
    · exact .tail _ (extFind_mem h)
def exts : List (Nat × Ext) := [(230, .f64bits), (194, .f64of), (164, .clone)]
noncomputable def env : Env := { P := Tryz.prog, ext := extFind exts, ro := Tryz.prog.globals.size, mx := 0, gl := Tryz.prog.globals.size, fast := fun f => match Nat.beq f 64 with
  | true => some fun _ args st => sortedF 136 3 st args
  | false => none }
theorem rows_ok : rowsOk Tryz.prog = true := by kernel_rfl
def noGoroutines (P : Program) : Bool := P.funcs.toList.all fun fn => (fn.body.isNone || !(fn.name == "runtime.NumGoroutine"))
theorem no_goroutines : noGoroutines Tryz.prog = true := by kernel_rfl
theorem xf230 : XF env 230 (.f64bits) := ⟨⟨Tryz.f230, by kernel_rfl, by kernel_rfl, by kernel_rfl, by kernel_rfl, by kernel_rfl, fun _ h => by cases h⟩, fun h => by cases h⟩
theorem xf194 : XF env 194 (.f64of) := ⟨⟨Tryz.f194, by kernel_rfl, by kernel_rfl, by kernel_rfl, by kernel_rfl, by kernel_rfl, fun _ h => by cases h⟩, fun h => by cases h⟩
theorem xf164 : XF env 164 (.clone) := ⟨⟨Tryz.f164, by kernel_rfl, by kernel_rfl, by kernel_rfl, by kernel_rfl, by kernel_rfl, fun _ h => by cases h⟩, fun h => by cases h⟩
end Go.Proofs.YtjifnmilimdfdaaGreatDoor
