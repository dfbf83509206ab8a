import Derived.Test.YteegpmimbbgdlaaGreatDoorChecked
import Derived.WalkKit
import Derived.BigCall
import Derived.LoopTactic
import Derived.Lib.Hide
import Derived.Outline
/- Limbs and digits (plain law). No model's run in this text. -/
namespace Go.Bg
def B : Nat := 4294967296
/-- The j-th limb of a number. -/
def limb (x j : Nat) : Nat := x / B ^ j % B
theorem B_pos : 0 < B := by decide
theorem pow_pos' (j : Nat) : 0 < B ^ j := Nat.pow_pos B_pos
theorem limb_lt (x j : Nat) : limb x j < B := Nat.mod_lt _ B_pos
theorem limb_zero {x j : Nat} (h : x < B ^ j) : limb x j = 0 := by unfold limb; rw [Nat.div_eq_of_lt h]; rfl
theorem lt_step {x m : Nat} (h : x < B ^ (m + 1)) (h0 : limb x m = 0) : x < B ^ m := by
  unfold limb at h0
  rw [Nat.pow_succ] at h
  have h1 : x / B ^ m < B := Nat.div_lt_of_lt_mul h
  rw [Nat.mod_eq_of_lt h1] at h0
  exact (Nat.div_eq_zero_iff_lt (pow_pos' m)).1 h0
theorem ge_step {x m : Nat} (h0 : limb x m ≠ 0) : B ^ m ≤ x := by
  rcases Nat.lt_or_ge x (B ^ m) with h1 | h1
  · exact absurd (limb_zero h1) h0
  · exact h1
/-- So many limbs, the highest of them not zero. -/
def Tight (x m : Nat) : Prop := x < B ^ m ∧ (m = 0 ∨ B ^ (m - 1) ≤ x)
theorem Tight.zero_iff {x m : Nat} (h : Tight x m) : m = 0 ↔ x = 0 := by
  obtain ⟨h1, h2⟩ := h
  constructor
  · rintro rfl; simpa using h1
  · rintro rfl
    rcases h2 with h2 | h2
    · exact h2
    · have := pow_pos' (m - 1); omega
theorem Tight.inj {x m n : Nat} (h : Tight x m) (h' : Tight x n) : m = n := by
  have key : ∀ {a b : Nat}, Tight x a → Tight x b → ¬ a < b := by
    intro a b ha hb hab
    rcases hb.2 with h2 | h2
    · omega
    · have h3 : B ^ a ≤ B ^ (b - 1) := Nat.pow_le_pow_right B_pos (by omega)
      have := ha.1
      omega
  have h1 := key h h'
  have h2 := key h' h
  omega
theorem limb_top (x k : Nat) : x / B ^ k = x / B ^ (k + 1) * B + limb x k := by
  unfold limb
  rw [Nat.pow_succ, ← Nat.div_div_eq_div_mul]
  have := Nat.div_add_mod (x / B ^ k) B
  rw [Nat.mul_comm] at this
  exact this.symm
/-- Division from the highest limb down: what lies at a place. -/
theorem div_step (x r k : Nat) (hr : 0 < r) : ((x / B ^ (k + 1)) % r * B + limb x k) / r = limb (x / r) k ∧ ((x / B ^ (k + 1)) % r * B + limb x k) % r = (x / B ^ k) % r := by
  obtain ⟨y, hy⟩ : ∃ y, y = x / B ^ (k + 1) := ⟨_, rfl⟩
  have e := limb_top x k
  have hlim := limb_lt x k
  have e2 : limb (x / r) k = x / B ^ k / r % B := by
    unfold limb
    rw [Nat.div_div_eq_div_mul, Nat.div_div_eq_div_mul, Nat.mul_comm]
  rw [e2, e, ← hy]
  clear e e2 hy
  obtain ⟨l, hl⟩ : ∃ l, l = limb x k := ⟨_, rfl⟩
  rw [← hl] at hlim ⊢
  clear hl
  have hm : r * (y / r) + y % r = y := Nat.div_add_mod y r
  have hrem : y % r < r := Nat.mod_lt _ hr
  obtain ⟨q, hq⟩ : ∃ q, q = y / r := ⟨_, rfl⟩
  obtain ⟨m, hm2⟩ : ∃ m, m = y % r := ⟨_, rfl⟩
  rw [← hq, ← hm2] at hm
  rw [← hm2] at hrem ⊢
  have h1 : y * B + l = r * (q * B) + (m * B + l) := by
    rw [← hm, Nat.add_mul, Nat.mul_assoc, Nat.add_assoc]
  rw [h1, Nat.mul_add_div hr, Nat.mul_add_mod]
  have h2 : m * B + l < r * B := by
    have : (m + 1) * B ≤ r * B := Nat.mul_le_mul_right B hrem
    rw [Nat.add_mul] at this
    omega
  have h3 : (m * B + l) / r < B := Nat.div_lt_of_lt_mul h2
  refine ⟨?_, rfl⟩
  rw [Nat.mul_comm q B, Nat.mul_add_mod, Nat.mod_eq_of_lt h3]
/-- The digits, the last one first. -/
def dgl (r : Nat) : Nat → Nat → List Nat
  | 0, _ => []
  | f + 1, n => if n = 0 then [] else n % r :: dgl r f (n / r)
def digs (r n : Nat) : List Nat := dgl r n n
theorem dgl_more {r : Nat} (hr : 2 ≤ r) : ∀ (f n : Nat), n ≤ f → dgl r f n = dgl r n n := by
  intro f
  induction f using Nat.strongRecOn with
  | _ f ih =>
    intro n hn
    match f, n, hn with
    | 0, 0, _ => rfl
    | f + 1, 0, _ => rfl
    | f + 1, n + 1, hn =>
      have hd : (n + 1) / r ≤ n := by
        have : (n + 1) / r < n + 1 := Nat.div_lt_self (by omega) (by omega)
        omega
      unfold dgl
      rw [if_neg (by omega), if_neg (by omega), ih f (by omega) _ (by omega)]
      rcases Nat.lt_or_ge n (f + 1) with h | h
      · rw [ih n (by omega) _ hd]
      · omega
theorem digs_zero (r : Nat) : digs r 0 = [] := rfl
theorem digs_pos {r n : Nat} (hr : 2 ≤ r) (hn : n ≠ 0) : digs r n = n % r :: digs r (n / r) := by
  obtain ⟨m, rfl⟩ : ∃ m, n = m + 1 := ⟨n - 1, by omega⟩
  have hd : (m + 1) / r ≤ m := by
    have : (m + 1) / r < m + 1 := Nat.div_lt_self (by omega) (by omega)
    omega
  unfold digs
  conv => lhs; unfold dgl
  rw [if_neg (by omega), dgl_more hr m _ hd]
theorem digs_lt {r : Nat} (hr : 2 ≤ r) : ∀ (n : Nat), ∀ d ∈ digs r n, d < r := by
  intro n
  induction n using Nat.strongRecOn with
  | _ n ih =>
    intro d hd
    by_cases h : n = 0
    · subst h; cases hd
    · rw [digs_pos hr h] at hd
      rcases List.mem_cons.1 hd with rfl | hd
      · exact Nat.mod_lt _ (by omega)
      · exact ih (n / r) (Nat.div_lt_self (by omega) (by omega)) d hd
/-- A digit's sign. -/
def sgn (d : Nat) : UInt8 := if d < 10 then (48 + d).toUInt8 else (87 + d).toUInt8
/-- A number in a radix, as it is written. -/
def numL (r n : Nat) : List UInt8 := if n = 0 then [48] else ((digs r n).map sgn).reverse
/-- What digits mean. -/
def valL (r : Nat) (ds : List Nat) : Nat := ds.foldl (fun a d => a * r + d) 0
theorem valL_snoc (r : Nat) (ds : List Nat) (d : Nat) : valL r (ds ++ [d]) = valL r ds * r + d := by simp [valL]
theorem val_digs {r : Nat} (hr : 2 ≤ r) : ∀ n, valL r (digs r n).reverse = n := by
  intro n
  induction n using Nat.strongRecOn with
  | _ n ih =>
    by_cases h : n = 0
    · subst h; rfl
    · rw [digs_pos hr h, List.reverse_cons, valL_snoc, ih (n / r) (Nat.div_lt_self (by omega) (by omega))]
      have := Nat.div_add_mod n r
      rw [Nat.mul_comm] at this
      exact this
end Go.Bg
/- The walks of bigint.trim, size, own. -/
namespace Go.Proofs
open Go.RowKit Go.Bg
/-- A number's limbs lie there. -/
def Lim (w : World) (b o x m : Nat) : Prop := x < B ^ m ∧ ∀ j, j < m → w.cell? ⟨b, o + j, none⟩ = some (.int .u32 (limb x j))
/-- A slice that a number's limbs lie in; nil serves for none. -/
def LimV (w : World) (v : Value) (x m : Nat) : Prop := (v = .slice none 0 0 ∧ x = 0 ∧ m = 0) ∨ ∃ b o c, v = .slice (some ⟨b, o, none⟩) m c ∧ m ≤ c ∧ c ≤ maxLen ∧ Lim w b o x m
def TrimSays (v : Value) (w : World) (x : Nat) (e : Ending) (w' : World) : Prop :=
  ∃ m', Tight x m' ∧ e = .returned (match v with | .slice a _ c => .slice a m' c | v => v) ∧ w = w'
set_option maxRecDepth 100000 in
set_option maxHeartbeats 1000000 in
theorem Tryz.trim_nil (w : World) : Calls Tryz.prog 35 #[.slice none 0 0] w (TrimSays (.slice none 0 0) w 0) := by
  go_enter Tryz.func35, Tryz.ntmps35
  go_wp2
  refine wp_loop_rounds 1 ?_
  rw [rounds_succ]
  go_wp2
  go_ret
  exact ⟨0, ⟨by decide, .inl rfl⟩, rfl, rfl⟩
set_option maxRecDepth 100000 in
set_option maxHeartbeats 2000000 in
theorem Tryz.trim_row (b o c x m : Nat) (w : World) (hc : m ≤ c) (hmax : c ≤ 9223372036854775807) (hl : Hid (Lim w b o x m)) : Calls Tryz.prog 35 #[.slice (some ⟨b, o, none⟩) m c] w (TrimSays (.slice (some ⟨b, o, none⟩) m c) w x) := by
  go_enter Tryz.func35, Tryz.ntmps35
  go_wp2
  go_loop [0] (fun v => ∃ k : Nat, k ≤ m ∧ x < B ^ k ∧ v = .slice (some ⟨b, o, none⟩) k c) (fun v => match v with | .slice _ k _ => k | _ => 0)
  case atStart => exact ⟨m, Nat.le_refl _, hl.out.1, rfl⟩
  case round =>
    obtain ⟨k, hk, hx, rfl⟩ := hrel
    have HX := Lib.hid hx
    clear hx
    cases k with
    | zero =>
      go_wp2
      go_ret
      exact ⟨0, ⟨HX.out, .inl rfl⟩, rfl, rfl⟩
    | succ k =>
      have hcell : w.cell? ⟨b, o + k, none⟩ = some (.int .u32 (limb x k)) := hl.out.2 k (by omega)
      by_cases h0 : limb x k = 0
      · have t0 : ((limb x k : Int) == 0) = true := by rw [h0]; rfl
        have H0 := Lib.hid h0
        clear h0
        go_wp2
        go_round
        case rel => exact ⟨k, by omega, lt_step HX.out H0.out, rfl⟩
        case measure => simp
      · have t0 : ((limb x k : Int) == 0) = false := by rw [Bool.eq_false_iff]; intro h; have := eq_of_beq h; omega
        have H0 := Lib.hid h0
        clear h0
        go_wp2
        go_ret
        exact ⟨k + 1, ⟨HX.out, .inr (ge_step H0.out)⟩, rfl, rfl⟩
theorem Tryz.trim (v : Value) (x m : Nat) (w : World) (hv : LimV w v x m) : Calls Tryz.prog 35 #[v] w (TrimSays v w x) := by
  rcases hv with ⟨rfl, rfl, rfl⟩ | ⟨b, o, c, rfl, h1, h2, h3⟩
  · exact Tryz.trim_nil w
  · unfold maxLen at h2
    exact Tryz.trim_row b o c x m w h1 h2 (Lib.hid h3)
end Go.Proofs
