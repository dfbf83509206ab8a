/- Small callees of quoted: odd at the replacement character (by the reading), escape at a backslash and at an n. -/
import Derived.Test.YteegpmimbbgdlaaGreatDoorAwRun
import Derived.Test.YteegpmimbbgdlaaGreatDoorQtLex
import Derived.Test.YteegpmimbbgdlaaGreatDoorQtPure3
namespace Go.Proofs
open Go.RowKit Go.Hb
open Go.Proofs.YteegpmimbbgdlaaGreatDoor Go.Proofs.YteegpmimbbgdlaaGreatDoor.Ab
/-- The package-level variables are as at the call's beginning. -/
def Laid0 (W : World) : Prop := ∃ W0 : World, laidMet Tryz.prog Rows.lexerQuotesRow.laid W0 ∧ W0.ShapedOpen Tryz.prog ∧ (∀ g, g < Tryz.prog.globals.size → W.heap[g]? = W0.heap[g]?) ∧ Tryz.prog.globals.size ≤ W.heap.size
theorem Laid0.below {W W' : World} (h : Laid0 W) (hb : Below W.heap.size W W') : Laid0 W' := by
  obtain ⟨W0, h1, h2, h3, h4⟩ := h
  refine ⟨W0, h1, h2, fun g hg => ?_, ?_⟩
  · rw [hb.block g (by omega), h3 g hg]
  · have := hb.size; omega
theorem Laid0.of {W : World} (h1 : laidMet Tryz.prog Rows.lexerQuotesRow.laid W) (h2 : W.ShapedOpen Tryz.prog) : Laid0 W := by
  refine ⟨W, h1, h2, fun _ _ => rfl, ?_⟩
  rcases Nat.lt_or_ge W.heap.size Tryz.prog.globals.size with h | h
  · have hr := List.all_eq_true.1 rows_ok W.heap.size (List.mem_range.2 h)
    split at hr
    · rename_i z t x h3 h4
      obtain ⟨cs, h5, _⟩ := h2.1 W.heap.size z t h h3
      rw [Array.getElem?_eq_none (Nat.le_refl _)] at h5
      cases h5
    · cases hr
  · exact h
def isMinus1 (r : Rs (En × St)) : Bool := match r with
  | .ok (.ret (.int .i64 (-1)), _) => true
  | _ => false
theorem isMinus1_spec {r : Rs (En × St)} (h : isMinus1 r = true) : ∃ st', r = .ok (.ret (.int .i64 (-1)), st') := by
  unfold isMinus1 at h
  split at h
  · exact ⟨_, rfl⟩
  · cases h
set_option maxRecDepth 1000000 in
theorem odd3_run : isMinus1 ((ev env 100000).call 44 [.str [239, 191, 189]] (seed env.P Rows.lexerQuotesRow.laid env.ro [])) = true := by kernel_rfl
theorem odd3 {W : World} (h : Laid0 W) : Calls Tryz.prog 44 #[.string ⟨#[239, 191, 189]⟩] W fun e W' => e = .returned (.int .i64 (-1)) ∧ Below W.heap.size W W' := by
  obtain ⟨W0, h1, h2, h3, _⟩ := h
  obtain ⟨st', hr⟩ := isMinus1_spec odd3_run
  obtain ⟨c, hc⟩ : ∃ c, Tryz.f44.body = some c := ⟨_, rfl⟩
  refine (ev_calls_at (E := env) (σ := Rho.no.sg) fits rfl (Nat.le_refl _) rows_ok Tryz.func44 hc (fx := []) (fun p hp => by cases hp) hr h3 h1 h2 (.cons _ _ _ _ (.str _) .nil)).mono fun e W' ⟨q, ρ, h1, h2, h3⟩ => ?_
  cases h2
  exact ⟨h1, h3⟩
theorem isB_below {T e : TypeId} {B b : Nat} {bs : List Value} {W W' : World} (h : Lib.IsBuilderF T e B b bs W) (hb : Below W.heap.size W W') : Lib.IsBuilderF T e B b bs W' := by
  have key : ∀ {p : Value}, Lib.BuilderAtF T e B b p bs W → Lib.BuilderAtF T e B b p bs W' := by
    intro p h
    have hlt := h.lt
    obtain ⟨hB, v, hv, hown, hne⟩ := h
    exact ⟨hB, v, (hb.block b hlt).trans hv, hown.kept (row := none) ⟨hb.os, hb.tape, hb.output, hb.size, fun k hk _ => hb.block k hk⟩ (Classical.em _), hne⟩
  exact h.elim (fun x => .inl (key x)) (fun x => .inr (key x))
set_option maxHeartbeats 1000000 in
theorem Tryz.plain92 (c : Int) (h : Hid (c = 92)) (w : World) : Calls Tryz.prog 98 #[.int .u8 c] w fun e w' => e = .returned (.tuple #[.int .i32 92, .bool true]) ∧ w' = w := by
  obtain rfl := h.out
  clear h
  go_enter Tryz.func98, Tryz.ntmps98
  go_wp2
  go_ret2
  exact ⟨rfl, rfl⟩
set_option maxHeartbeats 1000000 in
theorem Tryz.plain110 (c : Int) (h : Hid (c = 110)) (w : World) : Calls Tryz.prog 98 #[.int .u8 c] w fun e w' => e = .returned (.tuple #[.int .i32 10, .bool true]) ∧ w' = w := by
  obtain rfl := h.out
  clear h
  go_enter Tryz.func98, Tryz.ntmps98
  go_wp2
  go_ret2
  exact ⟨rfl, rfl⟩
set_option maxRecDepth 100000 in
set_option maxHeartbeats 1000000 in
theorem Tryz.escape92 (s : ByteArray) (k : Nat) (h : k < s.size) (hs : s.size ≤ 5000) (hc : Hid ((s[k].toNat : Int) = 92)) (w : World) :
    Calls Tryz.prog 78 #[.string s, .int .i64 k] w fun e w' => e = .returned (.tuple #[.int .i32 92, .int .i64 ((k : Int) + 1), .bool true]) ∧ w' = w := by
  go_enter Tryz.func78, Tryz.ntmps78
  go_wp2_with (go_at_call 98; refine (Tryz.plain92 _ hc _).mono ?_; rintro e w' ⟨rfl, rfl⟩)
  go_ret3
  exact ⟨rfl, rfl⟩
set_option maxRecDepth 100000 in
set_option maxHeartbeats 1000000 in
theorem Tryz.escape110 (s : ByteArray) (k : Nat) (h : k < s.size) (hs : s.size ≤ 5000) (hc : Hid ((s[k].toNat : Int) = 110)) (w : World) :
    Calls Tryz.prog 78 #[.string s, .int .i64 k] w fun e w' => e = .returned (.tuple #[.int .i32 10, .int .i64 ((k : Int) + 1), .bool true]) ∧ w' = w := by
  go_enter Tryz.func78, Tryz.ntmps78
  go_wp2_with (go_at_call 98; refine (Tryz.plain110 _ hc _).mono ?_; rintro e w' ⟨rfl, rfl⟩)
  go_ret3
  exact ⟨rfl, rfl⟩
end Go.Proofs
