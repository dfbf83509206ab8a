/- The environment of the reading for this seat: functions without a body, variables; and that it fits the program. -/
import Derived.Test.YtmglkdekjkgflaaGreatDoorSeed
import Derived.Test.YtmglkdekjkgflaaGreatDoorProg
import Derived.Test.YtmglkdekjkgflaaGreatDoorChecked
namespace Go.Proofs.YtmglkdekjkgflaaGreatDoor
open Go Go.Proofs.YtmglkdekjkgflaaGreatDoor.Ab
def extFind (l : List (Nat × Ext)) (f : Nat) : Option Ext := match l with
  | [] => none
  | x :: r => match Nat.beq x.1 f with
    | true => some x.2
    | false => extFind r f
theorem extFind_mem {f : Nat} {e : Ext} : ∀ {l : List (Nat × Ext)}, extFind l f = some e → (f, e) ∈ l
  | [], h => by cases h
  | x :: r, h => by
    unfold extFind at h
    split at h
    · rename_i hx
      have hx := beq_true hx
      cases h
      subst hx
      exact .head _
    · exact .tail _ (extFind_mem h)
def exts : List (Nat × Ext) := [(150, .indexByte), (151, .indexStr), (132, .count), (128, .f64bits), (52, .f64of), (161, .f64bits), (239, .f64of), (160, .f32bits), (234, .f32of), (105, .same), (175, .noZero 5)]
noncomputable def env : Env := { P := Tryz.prog, ext := extFind exts, ro := Tryz.prog.globals.size, mx := 3, gl := Tryz.prog.globals.size }
theorem rows_ok : rowsOk Tryz.prog = true := by kernel_rfl
def noGoroutines (P : Program) : Bool := P.funcs.toList.all fun fn => (fn.body.isNone || !(fn.name == "runtime.NumGoroutine"))
theorem no_goroutines : noGoroutines Tryz.prog = true := by kernel_rfl
theorem xf150 : XF env 150 (.indexByte) := ⟨⟨Tryz.f150, by kernel_rfl, by kernel_rfl, by kernel_rfl, by kernel_rfl, by kernel_rfl, fun _ h => by cases h⟩, fun h => by cases h⟩
theorem xf151 : XF env 151 (.indexStr) := ⟨⟨Tryz.f151, by kernel_rfl, by kernel_rfl, by kernel_rfl, by kernel_rfl, by kernel_rfl, fun _ h => by cases h⟩, fun _ => ⟨of_decide_eq_true (by kernel_rfl), by kernel_rfl⟩⟩
theorem xf132 : XF env 132 (.count) := ⟨⟨Tryz.f132, by kernel_rfl, by kernel_rfl, by kernel_rfl, by kernel_rfl, by kernel_rfl, fun _ h => by cases h⟩, fun h => by cases h⟩
theorem xf128 : XF env 128 (.f64bits) := ⟨⟨Tryz.f128, by kernel_rfl, by kernel_rfl, by kernel_rfl, by kernel_rfl, by kernel_rfl, fun _ h => by cases h⟩, fun h => by cases h⟩
theorem xf52 : XF env 52 (.f64of) := ⟨⟨Tryz.f52, by kernel_rfl, by kernel_rfl, by kernel_rfl, by kernel_rfl, by kernel_rfl, fun _ h => by cases h⟩, fun h => by cases h⟩
theorem xf161 : XF env 161 (.f64bits) := ⟨⟨Tryz.f161, by kernel_rfl, by kernel_rfl, by kernel_rfl, by kernel_rfl, by kernel_rfl, fun _ h => by cases h⟩, fun h => by cases h⟩
theorem xf239 : XF env 239 (.f64of) := ⟨⟨Tryz.f239, by kernel_rfl, by kernel_rfl, by kernel_rfl, by kernel_rfl, by kernel_rfl, fun _ h => by cases h⟩, fun h => by cases h⟩
theorem xf160 : XF env 160 (.f32bits) := ⟨⟨Tryz.f160, by kernel_rfl, by kernel_rfl, by kernel_rfl, by kernel_rfl, by kernel_rfl, fun _ h => by cases h⟩, fun h => by cases h⟩
theorem xf234 : XF env 234 (.f32of) := ⟨⟨Tryz.f234, by kernel_rfl, by kernel_rfl, by kernel_rfl, by kernel_rfl, by kernel_rfl, fun _ h => by cases h⟩, fun h => by cases h⟩
theorem xf105 : XF env 105 (.same) := ⟨⟨Tryz.f105, by kernel_rfl, by kernel_rfl, by kernel_rfl, by kernel_rfl, by kernel_rfl, fun _ h => by cases h⟩, fun h => by cases h⟩
theorem xf175 : XF env 175 (.noZero 5) := ⟨⟨Tryz.f175, by kernel_rfl, by kernel_rfl, by kernel_rfl, by kernel_rfl, by kernel_rfl, fun _ h => by cases h; exact ⟨_, rfl, by kernel_rfl⟩⟩, fun h => by cases h⟩
theorem fits : Fit env := by
  refine Fit.of (by kernel_rfl) (fun f e h => ?_) (fun f fn h1 h2 => ?_)
  · have := extFind_mem (l := exts) h
    simp only [exts, List.mem_cons, List.mem_nil_iff, or_false, Prod.mk.injEq] at this
    rcases this with ⟨rfl, rfl⟩ | ⟨rfl, rfl⟩ | ⟨rfl, rfl⟩ | ⟨rfl, rfl⟩ | ⟨rfl, rfl⟩ | ⟨rfl, rfl⟩ | ⟨rfl, rfl⟩ | ⟨rfl, rfl⟩ | ⟨rfl, rfl⟩ | ⟨rfl, rfl⟩ | ⟨rfl, rfl⟩
    · exact xf150
    · exact xf151
    · exact xf132
    · exact xf128
    · exact xf52
    · exact xf161
    · exact xf239
    · exact xf160
    · exact xf234
    · exact xf105
    · exact xf175
  · have h3 := List.all_eq_true.1 no_goroutines fn (by
      have := Array.mem_of_getElem? h1
      exact Array.mem_toList_iff.2 this)
    cases hb : fn.body with
    | none => rw [hb] at h2; cases h2
    | some c => rw [hb] at h3; simpa using h3
end Go.Proofs.YtmglkdekjkgflaaGreatDoor
