/- The environment of the reading for this seat: functions without a body, variables; and that it fits the program. -/
import Derived.Test.YtnipmfaikiaipaaGreatDoorAbC
import Derived.Test.YtnipmfaikiaipaaGreatDoorProg
import Derived.Test.YtnipmfaikiaipaaGreatDoorChecked
namespace Go.Proofs.YtnipmfaikiaipaaGreatDoor
open Go Go.Proofs.YtnipmfaikiaipaaGreatDoor.Ab
def extFind (l : List (Nat × Ext)) (f : Nat) : Option Ext := match l with
  | [] => none
  | x :: r => match Nat.beq x.1 f with
    | true => some x.2
    | false => extFind r f
theorem extFind_mem {f : Nat} {e : Ext} : ∀ {l : List (Nat × Ext)}, extFind l f = some e → (f, e) ∈ l
  | [], h => by cases h
  | x :: r, h => by
    unfold extFind at h
    split at h
    · rename_i hx
      have hx := beq_true hx
      cases h
      subst hx
      exact .head _
    · exact .tail _ (extFind_mem h)
def exts : List (Nat × Ext) := [(165, .indexByte), (166, .indexStr), (142, .count), (138, .f64bits), (48, .f64of), (187, .f64bits), (282, .f64of), (186, .f32bits), (277, .f32of), (133, .same), (200, .noZero 5)]
noncomputable def env : Env := { P := Tryz.prog, ext := extFind exts, ro := Tryz.prog.globals.size, mx := 5, gl := Tryz.prog.globals.size, fast := fun _ => none }
theorem rows_ok : rowsOk Tryz.prog = true := by kernel_rfl
def noGoroutines (P : Program) : Bool := P.funcs.toList.all fun fn => (fn.body.isNone || !(fn.name == "runtime.NumGoroutine"))
theorem no_goroutines : noGoroutines Tryz.prog = true := by kernel_rfl
theorem xf165 : XF env 165 (.indexByte) := ⟨⟨Tryz.f165, by kernel_rfl, by kernel_rfl, by kernel_rfl, by kernel_rfl, by kernel_rfl, fun _ h => by cases h⟩, fun h => by cases h⟩
theorem xf166 : XF env 166 (.indexStr) := ⟨⟨Tryz.f166, by kernel_rfl, by kernel_rfl, by kernel_rfl, by kernel_rfl, by kernel_rfl, fun _ h => by cases h⟩, fun _ => ⟨of_decide_eq_true (by kernel_rfl), by kernel_rfl⟩⟩
theorem xf142 : XF env 142 (.count) := ⟨⟨Tryz.f142, by kernel_rfl, by kernel_rfl, by kernel_rfl, by kernel_rfl, by kernel_rfl, fun _ h => by cases h⟩, fun h => by cases h⟩
theorem xf138 : XF env 138 (.f64bits) := ⟨⟨Tryz.f138, by kernel_rfl, by kernel_rfl, by kernel_rfl, by kernel_rfl, by kernel_rfl, fun _ h => by cases h⟩, fun h => by cases h⟩
theorem xf48 : XF env 48 (.f64of) := ⟨⟨Tryz.f48, by kernel_rfl, by kernel_rfl, by kernel_rfl, by kernel_rfl, by kernel_rfl, fun _ h => by cases h⟩, fun h => by cases h⟩
theorem xf187 : XF env 187 (.f64bits) := ⟨⟨Tryz.f187, by kernel_rfl, by kernel_rfl, by kernel_rfl, by kernel_rfl, by kernel_rfl, fun _ h => by cases h⟩, fun h => by cases h⟩
theorem xf282 : XF env 282 (.f64of) := ⟨⟨Tryz.f282, by kernel_rfl, by kernel_rfl, by kernel_rfl, by kernel_rfl, by kernel_rfl, fun _ h => by cases h⟩, fun h => by cases h⟩
theorem xf186 : XF env 186 (.f32bits) := ⟨⟨Tryz.f186, by kernel_rfl, by kernel_rfl, by kernel_rfl, by kernel_rfl, by kernel_rfl, fun _ h => by cases h⟩, fun h => by cases h⟩
theorem xf277 : XF env 277 (.f32of) := ⟨⟨Tryz.f277, by kernel_rfl, by kernel_rfl, by kernel_rfl, by kernel_rfl, by kernel_rfl, fun _ h => by cases h⟩, fun h => by cases h⟩
theorem xf133 : XF env 133 (.same) := ⟨⟨Tryz.f133, by kernel_rfl, by kernel_rfl, by kernel_rfl, by kernel_rfl, by kernel_rfl, fun _ h => by cases h⟩, fun h => by cases h⟩
theorem xf200 : XF env 200 (.noZero 5) := ⟨⟨Tryz.f200, by kernel_rfl, by kernel_rfl, by kernel_rfl, by kernel_rfl, by kernel_rfl, fun _ h => by cases h; exact ⟨_, rfl, by kernel_rfl⟩⟩, fun h => by cases h⟩
theorem fits : Fit env := by
  refine Fit.of (by kernel_rfl) (fun f e h => ?_) (fun f fn h1 h2 => ?_) (fun f F h => by cases h)
  · have := extFind_mem (l := exts) h
    simp only [exts, List.mem_cons, List.mem_nil_iff, or_false, Prod.mk.injEq] at this
    rcases this with ⟨rfl, rfl⟩ | ⟨rfl, rfl⟩ | ⟨rfl, rfl⟩ | ⟨rfl, rfl⟩ | ⟨rfl, rfl⟩ | ⟨rfl, rfl⟩ | ⟨rfl, rfl⟩ | ⟨rfl, rfl⟩ | ⟨rfl, rfl⟩ | ⟨rfl, rfl⟩ | ⟨rfl, rfl⟩
    · exact xf165
    · exact xf166
    · exact xf142
    · exact xf138
    · exact xf48
    · exact xf187
    · exact xf282
    · exact xf186
    · exact xf277
    · exact xf133
    · exact xf200
  · have h3 := List.all_eq_true.1 no_goroutines fn (by
      have := Array.mem_of_getElem? h1
      exact Array.mem_toList_iff.2 this)
    cases hb : fn.body with
    | none => rw [hb] at h2; cases h2
    | some c => rw [hb] at h3; simpa using h3
end Go.Proofs.YtnipmfaikiaipaaGreatDoor
