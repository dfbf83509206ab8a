import Derived.Test.YtpjcdbjablijkaaGreatDoorAbD
import Derived.Test.YtpjcdbjablijkaaGreatDoorProg
import Derived.Test.YtpjcdbjablijkaaGreatDoorChecked
import Derived.Test.YtpjcdbjablijkaaGreatDoorRows
import Derived.Test.YtpjcdbjablijkaaGreatDoorTaz
import Derived.Test.YtpjcdbjablijkaaGreatDoorTax
/- The environment of the reading for this seat: functions without a body, variables; and that it fits the program. -/
namespace Go.Proofs.YtpjcdbjablijkaaGreatDoor
open Go Go.Proofs.YtpjcdbjablijkaaGreatDoor.Ab
def extFind (l : List (Nat × Ext)) (f : Nat) : Option Ext := match l with
  | [] => none
  | x :: r => match Nat.beq x.1 f with
    | true => some x.2
    | false => extFind r f
theorem extFind_mem {f : Nat} {e : Ext} : ∀ {l : List (Nat × Ext)}, extFind l f = some e → (f, e) ∈ l
  | [], h => by cases h
  | x :: r, h => by
    unfold extFind at h
    split at h
    · rename_i hx
      have hx := beq_true hx
      cases h
      subst hx
      exact .head _
    · exact .tail _ (extFind_mem h)
def exts : List (Nat × Ext) := [(156, .indexByte), (125, .indexStr), (86, .count), (81, .f64bits), (14, .f64of), (129, .f64bits), (235, .f64of), (128, .f32bits), (230, .f32of), (118, .same), (143, .noZero 5)]
noncomputable def env : Env := { P := Tryz.prog, ext := extFind exts, ro := Tryz.prog.globals.size, mx := 3, gl := Tryz.prog.globals.size }
theorem rows_ok : rowsOk Tryz.prog = true := by kernel_rfl
def noGoroutines (P : Program) : Bool := P.funcs.toList.all fun fn => (fn.body.isNone || !(fn.name == "runtime.NumGoroutine"))
theorem no_goroutines : noGoroutines Tryz.prog = true := by kernel_rfl
theorem xf156 : XF env 156 (.indexByte) := ⟨⟨Tryz.f156, by kernel_rfl, by kernel_rfl, by kernel_rfl, by kernel_rfl, by kernel_rfl, fun _ h => by cases h⟩, fun h => by cases h⟩
theorem xf125 : XF env 125 (.indexStr) := ⟨⟨Tryz.f125, by kernel_rfl, by kernel_rfl, by kernel_rfl, by kernel_rfl, by kernel_rfl, fun _ h => by cases h⟩, fun _ => ⟨of_decide_eq_true (by kernel_rfl), by kernel_rfl⟩⟩
theorem xf86 : XF env 86 (.count) := ⟨⟨Tryz.f86, by kernel_rfl, by kernel_rfl, by kernel_rfl, by kernel_rfl, by kernel_rfl, fun _ h => by cases h⟩, fun h => by cases h⟩
theorem xf81 : XF env 81 (.f64bits) := ⟨⟨Tryz.f81, by kernel_rfl, by kernel_rfl, by kernel_rfl, by kernel_rfl, by kernel_rfl, fun _ h => by cases h⟩, fun h => by cases h⟩
theorem xf14 : XF env 14 (.f64of) := ⟨⟨Tryz.f14, by kernel_rfl, by kernel_rfl, by kernel_rfl, by kernel_rfl, by kernel_rfl, fun _ h => by cases h⟩, fun h => by cases h⟩
theorem xf129 : XF env 129 (.f64bits) := ⟨⟨Tryz.f129, by kernel_rfl, by kernel_rfl, by kernel_rfl, by kernel_rfl, by kernel_rfl, fun _ h => by cases h⟩, fun h => by cases h⟩
theorem xf235 : XF env 235 (.f64of) := ⟨⟨Tryz.f235, by kernel_rfl, by kernel_rfl, by kernel_rfl, by kernel_rfl, by kernel_rfl, fun _ h => by cases h⟩, fun h => by cases h⟩
theorem xf128 : XF env 128 (.f32bits) := ⟨⟨Tryz.f128, by kernel_rfl, by kernel_rfl, by kernel_rfl, by kernel_rfl, by kernel_rfl, fun _ h => by cases h⟩, fun h => by cases h⟩
theorem xf230 : XF env 230 (.f32of) := ⟨⟨Tryz.f230, by kernel_rfl, by kernel_rfl, by kernel_rfl, by kernel_rfl, by kernel_rfl, fun _ h => by cases h⟩, fun h => by cases h⟩
theorem xf118 : XF env 118 (.same) := ⟨⟨Tryz.f118, by kernel_rfl, by kernel_rfl, by kernel_rfl, by kernel_rfl, by kernel_rfl, fun _ h => by cases h⟩, fun h => by cases h⟩
theorem xf143 : XF env 143 (.noZero 5) := ⟨⟨Tryz.f143, by kernel_rfl, by kernel_rfl, by kernel_rfl, by kernel_rfl, by kernel_rfl, fun _ h => by cases h; exact ⟨_, rfl, by kernel_rfl⟩⟩, fun h => by cases h⟩
theorem fits : Fit env := by
  refine Fit.of (by kernel_rfl) (fun f e h => ?_) (fun f fn h1 h2 => ?_)
  · have := extFind_mem (l := exts) h
    simp only [exts, List.mem_cons, List.mem_nil_iff, or_false, Prod.mk.injEq] at this
    rcases this with ⟨rfl, rfl⟩ | ⟨rfl, rfl⟩ | ⟨rfl, rfl⟩ | ⟨rfl, rfl⟩ | ⟨rfl, rfl⟩ | ⟨rfl, rfl⟩ | ⟨rfl, rfl⟩ | ⟨rfl, rfl⟩ | ⟨rfl, rfl⟩ | ⟨rfl, rfl⟩ | ⟨rfl, rfl⟩
    · exact xf156
    · exact xf125
    · exact xf86
    · exact xf81
    · exact xf14
    · exact xf129
    · exact xf235
    · exact xf128
    · exact xf230
    · exact xf118
    · exact xf143
  · have h3 := List.all_eq_true.1 no_goroutines fn (by
      have := Array.mem_of_getElem? h1
      exact Array.mem_toList_iff.2 this)
    cases hb : fn.body with
    | none => rw [hb] at h2; cases h2
    | some c => rw [hb] at h3; simpa using h3
end Go.Proofs.YtpjcdbjablijkaaGreatDoor
set_option linter.unusedVariables false
set_option linter.unusedSimpArgs false
namespace Go.Proofs.YtpjcdbjablijkaaGreatDoor
open Go Go.Proofs.YtpjcdbjablijkaaGreatDoor.Ab Go.RowKit
set_option maxRecDepth 1000000 in
theorem awake6_run : saysTrue ((ev env 100000).call 4 [] (seed env.P Rows.writerFloatsRow.laid env.ro)) = true := by kernel_rfl
theorem awake6_calls {W : World} (hL : laidMet Tryz.prog Rows.writerFloatsRow.laid W) (hsh : W.ShapedOpen Tryz.prog) : Calls Tryz.prog 4 #[] W fun e W' => e = .returned (.bool true) ∧ Below W.heap.size W W' := by
  obtain ⟨st', h⟩ := saysTrue_spec awake6_run
  obtain ⟨c, hc⟩ : ∃ c, Tryz.f4.body = some c := ⟨_, rfl⟩
  refine (ev_calls (E := env) fits rfl (Nat.le_refl _) rows_ok Tryz.func4 hc h hL hsh .nil).mono fun e W' ⟨q, ρ, h1, h2, h3⟩ => ?_
  cases h2
  exact ⟨h1, h3⟩
end Go.Proofs.YtpjcdbjablijkaaGreatDoor
set_option linter.unusedVariables false
set_option linter.unusedSimpArgs false
/- What the functions answer at nought and at the infinite. -/
namespace Go.Proofs.YtpjcdbjablijkaaGreatDoor
open Go Go.Proofs.YtpjcdbjablijkaaGreatDoor.Ab Go.RowKit
noncomputable def retOf (r : Rs (En × Ab.St)) : Option AV := match r with
  | .ok (.ret v, _) => some v
  | _ => none
theorem retOf_spec {r : Rs (En × Ab.St)} {v : AV} (h : retOf r = some v) : ∃ st', r = .ok (.ret v, st') := by
  unfold retOf at h
  split at h
  · cases h
    exact ⟨_, rfl⟩
  · cases h
set_option maxRecDepth 1000000 in
theorem run5_0 : retOf ((ev env 100000).call 5 [.int .u64 0] (seed env.P Rows.writerFloatsRow.laid env.ro)) = some (.tup [.str [48, 46, 48], .int .i64 0]) := by kernel_rfl
set_option maxRecDepth 1000000 in
theorem run5_1 : retOf ((ev env 100000).call 5 [.int .u64 9223372036854775808] (seed env.P Rows.writerFloatsRow.laid env.ro)) = some (.tup [.str [45, 48, 46, 48], .int .i64 0]) := by kernel_rfl
set_option maxRecDepth 1000000 in
theorem run6_0 : retOf ((ev env 100000).call 6 [.int .u64 0] (seed env.P Rows.writerFloatsRow.laid env.ro)) = some (.tup [.str [48, 46, 48], .int .i64 0]) := by kernel_rfl
set_option maxRecDepth 1000000 in
theorem run6_1 : retOf ((ev env 100000).call 6 [.int .u64 9223372036854775808] (seed env.P Rows.writerFloatsRow.laid env.ro)) = some (.tup [.str [45, 48, 46, 48], .int .i64 0]) := by kernel_rfl
set_option maxRecDepth 1000000 in
theorem run5_2 : retOf ((ev env 100000).call 5 [.int .u64 9218868437227405312] (seed env.P Rows.writerFloatsRow.laid env.ro)) = some (.tup [.str [], .int .i64 14]) := by kernel_rfl
set_option maxRecDepth 1000000 in
theorem run5_3 : retOf ((ev env 100000).call 5 [.int .u64 18442240474082181120] (seed env.P Rows.writerFloatsRow.laid env.ro)) = some (.tup [.str [], .int .i64 14]) := by kernel_rfl
set_option maxRecDepth 1000000 in
theorem run7_0 : retOf ((ev env 100000).call 7 [.str [48, 46, 48], .int .i64 0] (seed env.P Rows.writerFloatsRow.laid env.ro)) = some (.tup [.agg [.int .i64 5, .str [], .str [], .int .u64 0, .int .i64 0, .int .i64 3, .bool false], .int .i64 0]) := by kernel_rfl
end Go.Proofs.YtpjcdbjablijkaaGreatDoor
