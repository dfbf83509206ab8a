/- The walks of bigint.size, own. -/
import Derived.Test.YteegpmimbbgdlaaGreatDoorBgTrim
import Derived.Test.YteegpmimbbgdlaaGreatDoorBgLay
namespace Go.Proofs
open Go.RowKit Go.Bg
def sz (x m : Nat) : Nat := if m = 0 then 0 else 32 * (m - 1) + Lib.bitLen (limb x (m - 1))
theorem sz_ge (x m : Nat) : 32 * (m - 1) ≤ sz x m := by
  unfold sz
  split <;> omega
def SizeSays (w : World) (x : Nat) (e : Ending) (w' : World) : Prop := ∃ m', Tight x m' ∧ e = .returned (.int .i64 (sz x m')) ∧ w = w'
theorem Tryz.len32 (x : Nat) (w : World) (h : x < 4294967296) : Calls Tryz.prog 64 #[.int .u32 x] w fun e w' => e = .returned (.int .i64 (Lib.bitLen x)) ∧ w = w' :=
  (Tryz.bits_Len32 x w (by omega) (by omega)).mono fun _ _ ⟨h1, h2⟩ => ⟨h1, h2.symm⟩
theorem bitLen_le64 (x : Nat) : Lib.bitLen x ≤ 64 := by
  have : ∀ f x, Lib.bitLenAux f x ≤ f := by
    intro f
    induction f with
    | zero => intro x; simp [Lib.bitLenAux]
    | succ f ih => intro x; unfold Lib.bitLenAux; split
                   · omega
                   · have := ih (x / 2); omega
  exact this 64 x
set_option maxRecDepth 100000 in
set_option maxHeartbeats 2000000 in
theorem Tryz.size (v : Value) (x m : Nat) (w : World) (hm : m ≤ 70368744177664) (hv : Hid (LimV w v x m)) : Calls Tryz.prog 37 #[v] w (SizeSays w x) := by
  rcases hv.out with ⟨rfl, rfl, rfl⟩ | ⟨b, o, c, rfl, h1, h2, h3⟩
  · clear hv
    go_enter Tryz.func37, Tryz.ntmps37
    go_wp2_with (go_at_call 35; (with_reducible refine (Tryz.trim_nil _).mono ?_))
    rintro e w' ⟨m', ht, rfl, rfl⟩
    have hm0 : m' = 0 := ht.zero_iff.2 rfl
    subst hm0
    go_wp2
    go_ret
    exact ⟨0, ht, rfl, rfl⟩
  · have H3 := Lib.hid h3
    have hc9 : c ≤ 9223372036854775807 := by unfold maxLen at h2; exact h2
    clear h3 h2
    go_enter Tryz.func37, Tryz.ntmps37
    go_wp2_with (go_at_call 35; (with_reducible refine (Tryz.trim _ x m _ hv.out).mono ?_))
    rintro e w' ⟨m', ht, rfl, rfl⟩
    have hle : m' ≤ m := by
      rcases ht.2 with h | h
      · omega
      · rcases Nat.lt_or_ge m (m' ) with h4 | h4
        · have : B ^ m ≤ B ^ (m' - 1) := Nat.pow_le_pow_right B_pos (by omega)
          have := H3.out.1
          omega
        · exact h4
    cases m' with
    | zero =>
      go_wp2
      go_ret
      exact ⟨0, ht, rfl, rfl⟩
    | succ k =>
      have hcell : w.cell? ⟨b, o + k, none⟩ = some (.int .u32 (limb x k)) := H3.out.2 k (by omega)
      have hb := bitLen_le64 (limb x k)
      have hlt : limb x k < 4294967296 := limb_lt x k
      go_wp2_with (go_at_call 64; (with_reducible refine (Tryz.len32 (limb x k) _ hlt).mono ?_); rintro e w' ⟨rfl, rfl⟩)
      go_ret
      refine ⟨k + 1, ht, ?_, rfl⟩
      have e : ((sz x (k + 1) : Nat) : Int) = 32 * (k : Int) + (Lib.bitLen (limb x k) : Int) := by
        unfold sz
        rw [if_neg (by omega)]
        simp
      rw [e]
      rfl
theorem Lim.below {w w' : World} {b o x m : Nat} (h : Lim w b o x m) (hb : Below w.heap.size w w') : Lim w' b o x m := by
  refine ⟨h.1, fun j hj => ?_⟩
  have h1 := h.2 j hj
  have hlt : b < w.heap.size := by
    rcases Nat.lt_or_ge b w.heap.size with h2 | h2
    · exact h2
    · simp [World.cell?, Array.getElem?_eq_none h2] at h1
  rw [hb.cell (p := ⟨b, o + j, none⟩) hlt, h1]
theorem LimV.below {w w' : World} {v : Value} {x m : Nat} (h : LimV w v x m) (hb : Below w.heap.size w w') : LimV w' v x m := by
  rcases h with h | ⟨b, o, c, h1, h2, h3, h4⟩
  · exact .inl h
  · exact .inr ⟨b, o, c, h1, h2, h3, h4.below hb⟩
theorem LimV.slice {w : World} {v : Value} {x m : Nat} (h : LimV w v x m) : ∃ a c, v = .slice a m c := by
  rcases h with ⟨rfl, _, rfl⟩ | ⟨b, o, c, rfl, _⟩
  · exact ⟨_, _, rfl⟩
  · exact ⟨_, _, rfl⟩
def LongSays (w : World) (x : Nat) (e : Ending) (w' : World) : Prop := ∃ m', Tight x m' ∧ e = .returned (.bool (decide ((4096 : Int) < (sz x m' : Nat)))) ∧ Below w.heap.size w w'
set_option maxRecDepth 100000 in
set_option maxHeartbeats 2000000 in
theorem Tryz.long (g : Nat) (neg : Bool) (v : Value) (x m : Nat) (w : World) (hm : m ≤ 70368744177664) (hv : Hid (LimV w v x m)) (c0 : w.cell? ⟨g, 0, none⟩ = some (.bool neg)) (c1 : w.cell? ⟨g, 1, none⟩ = some v) :
    Calls Tryz.prog 33 #[.slice (some ⟨g, 0, none⟩) 1 1] w (LongSays w x) := by
  obtain ⟨a, c, rfl⟩ := hv.out.slice
  go_enter Tryz.func33, Tryz.ntmps33
  go_wp2
  refine wp_loop_rounds 2 ?_
  rw [rounds_succ]
  go_wp2_with fail
  have HV : Hid (∀ o, LimV (w.alloc o) (.slice a m c) x m) := Lib.hid fun o => hv.out.below ((Below.refl _ _).alloc (Nat.le_refl _) o)
  go_wp2_with (go_at_call 37; (with_reducible refine (Tryz.size _ x m _ hm (Lib.hid (HV.out _))).mono ?_))
  rintro e w' ⟨m', ht, rfl, rfl⟩
  go_wp2
  all_goals try rw [rounds_succ]
  all_goals try go_wp2
  all_goals
    go_ret
    refine ⟨m', ht, ?_, (Below.refl _ _).alloc (Nat.le_refl _) _⟩
    first
      | exact congrArg (fun b => Ending.returned (.bool b)) (decide_eq_true (by assumption)).symm
      | exact congrArg (fun b => Ending.returned (.bool b)) (decide_eq_false (by omega)).symm
/-- Bits: so many as size tells. -/
theorem Tryz.bigBits (neg : Bool) (v : Value) (x m : Nat) (w : World) (hm : m ≤ 70368744177664) (hv : Hid (LimV w v x m)) :
    Calls Tryz.prog 21 #[.agg #[.bool neg, v]] w fun e w' => ∃ m', Tight x m' ∧ e = .returned (.int .i64 (sz x m')) ∧ Below w.heap.size w w' := by
  obtain ⟨a, c, rfl⟩ := hv.out.slice
  have HV : Hid (∀ o, LimV (w.alloc o) (.slice a m c) x m) := Lib.hid fun o => hv.out.below ((Below.refl _ _).alloc (Nat.le_refl _) o)
  go_enter Tryz.func21, Tryz.ntmps21
  go_wp2_with (go_at_call 37; (with_reducible refine (Tryz.size _ x m _ hm (Lib.hid (HV.out _))).mono ?_))
  rintro e w' ⟨m', ht, rfl, rfl⟩
  go_wp2
  go_ret
  exact ⟨m', ht, rfl, (Below.refl _ _).alloc (Nat.le_refl _) _⟩
end Go.Proofs
