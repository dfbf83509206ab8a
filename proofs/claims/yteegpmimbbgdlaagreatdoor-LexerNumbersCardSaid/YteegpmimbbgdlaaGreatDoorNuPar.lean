import Derived.Test.YteegpmimbbgdlaaGreatDoorBgSize
import Derived.Test.YteegpmimbbgdlaaGreatDoorBgFrom
import Derived.Test.YteegpmimbbgdlaaGreatDoorChEsc
import Derived.OwnWalk
/- Bits and the multiplication by limbs (plain law). -/
namespace Go.Bg
open Go Go.Proofs
theorem bitAux_spec : ∀ (f x : Nat), x < 2 ^ f → x < 2 ^ Lib.bitLenAux f x ∧ (x ≠ 0 → 1 ≤ Lib.bitLenAux f x ∧ 2 ^ (Lib.bitLenAux f x - 1) ≤ x)
  | 0, x, h => by
    have : x = 0 := by simpa using h
    subst this
    exact ⟨by simp [Lib.bitLenAux], fun h => absurd rfl h⟩
  | f + 1, x, h => by
    unfold Lib.bitLenAux
    by_cases h0 : x = 0
    · subst h0; exact ⟨by simp, fun h => absurd rfl h⟩
    · rw [if_neg h0]
      have h1 : x / 2 < 2 ^ f := by rw [Nat.pow_succ] at h; omega
      obtain ⟨a, b⟩ := bitAux_spec f (x / 2) h1
      refine ⟨?_, fun _ => ⟨by omega, ?_⟩⟩
      · rw [Nat.add_comm, Nat.pow_succ]; omega
      · rw [Nat.add_comm, Nat.add_sub_cancel]
        by_cases h2 : x / 2 = 0
        · rw [h2]
          have e : Lib.bitLenAux f 0 = 0 := by cases f <;> simp [Lib.bitLenAux]
          rw [e]; simp; omega
        · obtain ⟨c, d⟩ := b h2
          obtain ⟨k, hk⟩ : ∃ k, Lib.bitLenAux f (x / 2) = k + 1 := ⟨Lib.bitLenAux f (x / 2) - 1, by omega⟩
          rw [hk] at d ⊢
          rw [Nat.add_sub_cancel] at d
          rw [Nat.pow_succ]; omega
theorem bitLen_spec {x : Nat} (h : x < 4294967296) (h0 : x ≠ 0) : 1 ≤ Lib.bitLen x ∧ 2 ^ (Lib.bitLen x - 1) ≤ x ∧ x < 2 ^ Lib.bitLen x := by
  obtain ⟨a, b⟩ := bitAux_spec 64 x (by omega)
  exact ⟨(b h0).1, (b h0).2, a⟩
/-- So many bits. -/
theorem sz_spec {x m : Nat} (h : Tight x m) (h0 : x ≠ 0) : 1 ≤ sz x m ∧ 2 ^ (sz x m - 1) ≤ x ∧ x < 2 ^ sz x m := by
  have hm : m ≠ 0 := fun e => h0 (h.zero_iff.1 e)
  obtain ⟨k, rfl⟩ : ∃ k, m = k + 1 := ⟨m - 1, by omega⟩
  have ht : limb x k = x / B ^ k := by
    unfold limb
    refine Nat.mod_eq_of_lt (Nat.div_lt_of_lt_mul ?_)
    have := h.1
    rwa [Nat.pow_succ] at this
  have hge : B ^ k ≤ x := by
    rcases h.2 with h1 | h1
    · omega
    · simpa using h1
  have htn : limb x k ≠ 0 := by
    rw [ht]
    have := (Nat.le_div_iff_mul_le (pow_pos' k)).2 (by rw [Nat.one_mul]; exact hge)
    omega
  obtain ⟨b1, b2, b3⟩ := bitLen_spec (limb_lt x k) htn
  have hB : B ^ k = 2 ^ (32 * k) := by rw [show B = 2 ^ 32 from rfl, ← Nat.pow_mul]
  unfold sz
  rw [if_neg hm, Nat.add_sub_cancel]
  generalize hb : Lib.bitLen (limb x k) = b at *
  rw [ht] at b2 b3
  refine ⟨by omega, ?_, ?_⟩
  · rw [show 32 * k + b - 1 = 32 * k + (b - 1) by omega, Nat.pow_add, ← hB]
    exact Nat.le_trans (Nat.mul_le_mul_left _ b2) (Nat.mul_div_le x (B ^ k))
  · rw [Nat.pow_add, ← hB]
    have := (Nat.div_lt_iff_lt_mul (pow_pos' k)).1 b3
    rwa [Nat.mul_comm] at this
/-- The greater number has no fewer bits. -/
theorem sz_mono {x y m n : Nat} (hx : Tight x m) (hy : Tight y n) (h : x ≤ y) : sz x m ≤ sz y n := by
  by_cases h0 : x = 0
  · have : m = 0 := hx.zero_iff.2 h0
    unfold sz; rw [if_pos this]; exact Nat.zero_le _
  · obtain ⟨a1, a2, _⟩ := sz_spec hx h0
    obtain ⟨_, _, b3⟩ := sz_spec hy (by omega)
    rcases Nat.lt_or_ge (sz y n) (sz x m) with h1 | h1
    · have : 2 ^ sz y n ≤ 2 ^ (sz x m - 1) := Nat.pow_le_pow_right (by omega) (by omega)
      omega
    · exact h1
/-- The carry from the places below k, when x is multiplied by r and d added. -/
def carry (x r d k : Nat) : Nat := (x % B ^ k * r + d) / B ^ k
theorem carry_zero (x r d : Nat) : carry x r d 0 = d := by unfold carry; simp [Nat.mod_one]
theorem carry_lt {x r d k : Nat} (hd : d < r) : carry x r d k < r := by
  unfold carry
  refine Nat.div_lt_of_lt_mul ?_
  have h1 : x % B ^ k < B ^ k := Nat.mod_lt _ (pow_pos' k)
  have h2 : (x % B ^ k + 1) * r ≤ B ^ k * r := Nat.mul_le_mul_right r h1
  rw [Nat.add_mul, Nat.one_mul] at h2
  omega
theorem mod_top (x k : Nat) : x % B ^ (k + 1) = limb x k * B ^ k + x % B ^ k := by
  unfold limb
  rw [Nat.pow_succ, Nat.mod_mul, Nat.mul_comm (x / B ^ k % B)]
  omega
theorem carry_eq (x r d k : Nat) : (x % B ^ (k + 1) * r + d) / B ^ k = limb x k * r + carry x r d k := by
  unfold carry
  rw [mod_top, Nat.add_mul, Nat.add_assoc, Nat.mul_right_comm, Nat.mul_comm (limb x k * r), Nat.mul_add_div (pow_pos' k)]
theorem carry_next (x r d k : Nat) : carry x r d (k + 1) = (limb x k * r + carry x r d k) / B := by
  rw [← carry_eq]
  unfold carry
  rw [Nat.pow_succ, Nat.div_div_eq_div_mul]
theorem limb_next (x r d k : Nat) : limb (x * r + d) k = (limb x k * r + carry x r d k) % B := by
  rw [← carry_eq]
  unfold limb
  have e : x * r + d = B ^ k * (x / B ^ (k + 1) * r * B) + (x % B ^ (k + 1) * r + d) := by
    have h := Nat.div_add_mod x (B ^ (k + 1))
    conv => lhs; rw [← h]
    rw [Nat.add_mul, Nat.add_assoc, Nat.pow_succ]
    congr 1
    rw [Nat.mul_assoc (B ^ k), Nat.mul_assoc (B ^ k)]
    congr 1
    rw [Nat.mul_comm B, Nat.mul_right_comm]
  rw [e, Nat.mul_add_div (pow_pos' k), Nat.add_comm, Nat.add_mul_mod_self_right]
theorem carry_top {x r d m : Nat} (h : x < B ^ m) : carry x r d m = (x * r + d) / B ^ m := by unfold carry; rw [Nat.mod_eq_of_lt h]
end Go.Bg
/- The walk of bigint.Parse. -/
namespace Go.Proofs
open Go.RowKit Go.Bg
theorem Tryz.value_at (d : Nat) (hd : d < 16) (w : World) : Calls Tryz.prog 113 #[.int .u8 ((sgn d).toNat : Nat)] w fun e w' => e = .returned (.int .i64 d) ∧ w = w' := by
  obtain ⟨c, hc⟩ : ∃ c, c = (sgn d).toNat := ⟨_, rfl⟩
  rw [← hc]
  rcases sgn_cases hd with ⟨h1, h2⟩ | ⟨h1, h2⟩
  · have c0 : (c : Int) - 48 = d := by omega
    have dm : (d : Int) % 256 = d := by omega
    have c1 : decide ((48 : Int) ≤ (c : Int)) = true := decide_eq_true (by omega)
    have c2 : decide ((c : Int) ≤ 57) = true := decide_eq_true (by omega)
    clear hc h1 h2 hd
    go_enter Tryz.func113, Tryz.ntmps113
    go_wp2
    go_ret
    exact ⟨rfl, rfl⟩
  · have c0 : (c : Int) - 97 + 10 = d := by omega
    have c1 : decide ((48 : Int) ≤ (c : Int)) = true := decide_eq_true (by omega)
    have c2 : decide ((c : Int) ≤ 57) = false := decide_eq_false (by omega)
    have c3 : decide ((97 : Int) ≤ (c : Int)) = true := decide_eq_true (by omega)
    have c4 : decide ((c : Int) ≤ 122) = true := decide_eq_true (by omega)
    have c5 : (97 : Int) ≤ (c : Int) := by omega
    have c6 : (c : Int) ≤ 102 := by omega
    clear hc h1 h2 hd
    go_enter Tryz.func113, Tryz.ntmps113
    go_wp2
    go_ret
    exact ⟨rfl, rfl⟩
theorem Tryz.value_of (c d : Nat) (hd : d < 16) (h : Hid (c = (sgn d).toNat)) (w : World) : Calls Tryz.prog 113 #[.int .u8 c] w fun e w' => e = .returned (.int .i64 d) ∧ w = w' := by
  rw [h.out]; exact Tryz.value_at d hd w
/-- The limbs while x is multiplied by r and d added: places below j are done. -/
def mulCells (x r d j m : Nat) : List Value := (List.range m).map fun i => Value.int .u32 ((if i < j then limb (x * r + d) i else limb x i : Nat) : Int)
theorem mulCells_length (x r d j m : Nat) : (mulCells x r d j m).length = m := by simp [mulCells]
theorem mulCells_zero (x r d m : Nat) : mulCells x r d 0 m = limbCells x m := by simp [mulCells, limbCells]
theorem mulCells_end (x r d m : Nat) : mulCells x r d m m = limbCells (x * r + d) m := by
  unfold mulCells limbCells
  apply List.map_congr_left
  intro i hi
  rw [if_pos (List.mem_range.1 hi)]
theorem mulCells_get (x r d j m : Nat) (h : j < m) : (mulCells x r d j m)[j]? = some (.int .u32 (limb x j : Nat)) := by simp [mulCells, h]
theorem mulCells_set (x r d j m : Nat) (_h : j < m) : (mulCells x r d j m).set j (.int .u32 (limb (x * r + d) j : Nat)) = mulCells x r d (j + 1) m := by
  apply List.ext_getElem?
  intro i
  rw [List.getElem?_set]
  by_cases e : j = i
  · subst e
    rw [if_pos rfl]
    simp [mulCells, _h]
  · rw [if_neg e]
    unfold mulCells
    by_cases hi : i < m
    · simp only [List.getElem?_map, List.getElem?_range hi, Option.map_some]
      by_cases h1 : i < j
      · rw [if_pos h1, if_pos (by omega)]
      · rw [if_neg h1, if_neg (by omega)]
    · rw [List.getElem?_eq_none (by simpa using hi), List.getElem?_eq_none (by simpa using hi)]
theorem limbCells_succ (x m : Nat) (c : Nat) (h : limb x m = c) : limbCells x (m + 1) = limbCells x m ++ [.int .u32 (c : Nat)] := by
  unfold limbCells
  rw [List.range_succ, List.map_append, ← h]
  rfl
theorem LimV.of_own {w : World} {b : Nat} {v : Value} {x m : Nat} (h : w.ownsRow b 67 1 v m (limbCells x m)) (hx : x < B ^ m) : LimV w v x m := by
  rcases h.2 with ⟨rfl, rfl⟩ | ⟨g, cap, cur, rfl, _, hg, hnc, hcm, hcs, htake⟩
  · refine .inl ⟨rfl, by simpa using hx, rfl⟩
  · refine .inr ⟨g, 0, cap, rfl, hnc, hcm, hx, fun j hj => ?_⟩
    have h1 := World.ownsRow.cellAt h j (by omega)
    rw [Nat.zero_add, h1, limbCells_get x m j hj]
theorem own_slice67 {w : World} {b : Nat} {v : Value} {n : Nat} {xs : List Value} (h : w.ownsRow b 67 1 v n xs) : ∃ a c, v = .slice a n c := by
  rcases h.2 with ⟨rfl, rfl⟩ | ⟨g, cap, cur, rfl, _⟩
  · exact ⟨_, _, rfl⟩
  · exact ⟨_, _, rfl⟩
theorem tight_exists : ∀ x : Nat, ∃ m, Tight x m := by
  intro x
  induction x using Nat.strongRecOn with
  | _ x ih =>
    by_cases h : x = 0
    · subst h; exact ⟨0, by simp, .inl rfl⟩
    · have hlt : x / B < x := Nat.div_lt_self (by omega) (by decide)
      obtain ⟨m, h1, h2⟩ := ih (x / B) hlt
      refine ⟨m + 1, ?_, .inr ?_⟩
      · rw [Nat.pow_succ]; exact (Nat.div_lt_iff_lt_mul B_pos).1 h1
      · rw [Nat.add_sub_cancel]
        cases m with
        | zero => simp; omega
        | succ m =>
          have h3 : B ^ m ≤ x / B := by simpa using h2
          rw [Nat.pow_succ]
          exact (Nat.le_div_iff_mul_le B_pos).1 h3
def ParseSays (X : Nat) (w : World) (e : Ending) (w' : World) : Prop := ∃ (sl : Value) (m : Nat), e = .returned (.tuple #[.agg #[.bool false, sl], .int .i64 0]) ∧ Tight X m ∧ LimV w' sl X m ∧ Below w.heap.size w w'
/-- The number that has been read so far lies there. -/
structure PQ (r : Nat) (B1 : Nat) (W1 : World) (X m : Nat) (l : Value) (wr : World) : Prop where
  tight : Tight X m
  own : wr.ownsRow B1 67 1 l m (limbCells X m)
  bel : Below B1 W1 wr
/-- Within one digit. -/
structure PI (r d : Nat) (B1 : Nat) (W1 : World) (X m : Nat) (l : Value) (j c : Nat) (wr : World) : Prop where
  le : j ≤ m
  car : c = carry X r d j
  own : wr.ownsRow B1 67 1 l m (mulCells X r d j m)
  bel : Below B1 W1 wr
theorem PI.next {r d B1 : Nat} {W1 : World} {x m g lc j q lq cq : Nat} {wr : World} (h : PI r d B1 W1 x m (.slice (some ⟨g, 0, none⟩) m lc) j q wr) (hlq : lq = limb (x * r + d) j) (hcq : cq = carry x r d (j + 1)) (hj : j < m) :
    PI r d B1 W1 x m (.slice (some ⟨g, 0, none⟩) m lc) (j + 1) cq (wr.setCell ⟨g, j, none⟩ (.int .u32 (lq : Nat))) := by
  obtain ⟨h1, h2⟩ := World.ownsRow.stored h.own j (.int .u32 (lq : Nat))
  have hb := (h.own.lt g rfl).1
  refine ⟨by omega, hcq, ?_, h.bel.setCell (p := ⟨g, j, none⟩) hb _⟩
  rw [← mulCells_set x r d j m hj, ← hlq]
  exact h1
set_option maxRecDepth 100000 in
set_option maxHeartbeats 8000000 in
theorem Tryz.parse (s : ByteArray) (ds : List Nat) (r X : Nat) (w : World) (hs : Hid (s.data.toList = ds.map sgn)) (hl : ds.length = s.size) (hpos : 0 < s.size) (h5 : s.size ≤ 5000) (hr : 2 ≤ r) (hr2 : r ≤ 16) (hd : Hid (∀ d ∈ ds, d < r)) (hX : Hid (valL r ds = X)) (hsz : Hid (∀ m, Tight X m → sz X m ≤ 4096)) :
    Calls Tryz.prog 93 #[.string s, .int .i64 r] w (ParseSays X w) := by
  obtain ⟨i0, hi, hz0, hz1, hz2⟩ := info_parts Tryz.infoU32
  have HL := Lib.hid hl
  have hne : s.toList.isEmpty = false := by
    rw [ByteArray.toList_eq]
    have h1 : s.data.toList.length = s.size := by simp
    cases h : s.data.toList with
    | nil => rw [h] at h1; simp at h1; omega
    | cons a b => rfl
  have R1 : decide ((r : Int) < 2) = false := decide_eq_false (by omega)
  have R2 : decide ((36 : Int) < r) = false := decide_eq_false (by omega)
  have h45 : ((s[0].toNat : Int) == 45) = false := by
    obtain ⟨d, c, _, e2, e3, e4⟩ := dig_at hs.out hl hpos
    have h1 : s[0].toNat = (sgn d).toNat := by
      rw [← e3, List.getD_eq_getElem?_getD, List.getElem?_eq_getElem (by simpa using hpos)]; rfl
    have h2 := hd.out d e4
    refine ne_fact (n := 45) ?_
    rcases sgn_cases (show d < 16 by omega) with ⟨_, h3⟩ | ⟨_, h3⟩ <;> omega
  clear hl
  go_enter Tryz.func93, Tryz.ntmps93
  go_wp2
  generalize hW1 : w.alloc _ = W1
  have tok : W1.heap[w.heap.size]? = some (.cells #[.bool false, .slice none 0 0] 41 (0, 0)) := by subst hW1; exact heap_alloc_new w _
  have bl : Below w.heap.size w W1 := by subst hW1; exact (Below.refl _ _).alloc (Nat.le_refl _) _
  have hlt0 : w.heap.size < W1.heap.size := by subst hW1; simp
  have HW := Lib.hid hW1
  clear hW1
  go_loop [33] (fun i => ∃ k : Nat, k ≤ s.size ∧ i = .int .i64 k) (fun i => s.size - (intOf i).toNat)
  case atStart => exact ⟨0, by omega, rfl⟩
  case round =>
    obtain ⟨k, hk, rfl⟩ := hrel
    by_cases hlt : k < s.size
    · obtain ⟨d, c, e1, e2, e3, e4⟩ := dig_at hs.out HL.out hlt
      have hdr := hd.out d e4
      have b6 : decide (r ≤ d) = false := decide_eq_false (by omega)
      have HC : Hid (s[k].toNat = (sgn d).toNat) := Lib.hid (by rw [← e3, List.getD_eq_getElem?_getD, List.getElem?_eq_getElem (by simpa using hlt)]; rfl)
      have hd16 : d < 16 := by omega
      clear e1 e2 e3 e4 hdr
      go_wp2_with (go_at_call 113; (with_reducible refine (Tryz.value_of _ d hd16 HC _).mono ?_); rintro e w' ⟨rfl, rfl⟩)
      go_round
      case rel => exact ⟨k + 1, by omega, by go_num⟩
      case measure => simp [intOf]; omega
    · go_wp2
      obtain ⟨mX, htX⟩ := tight_exists X
      have hszX := hsz.out mX htX
      clear hlt hk
      go_loopw [8, 49] (fun l i wr => ∃ (k m : Nat), k ≤ s.size ∧ i = .int .i64 k ∧ PQ r W1.heap.size W1 (valL r (ds.take k)) m l wr) (fun _ i _ => s.size - (intOf i).toNat)
      case atStart => exact ⟨0, 0, by omega, rfl, ⟨⟨by simp [valL], .inl rfl⟩, World.ownsRow_nil _ _ _ _, Below.refl _ _⟩⟩
      case round =>
        obtain ⟨k, m, hk, rfl, hq⟩ := hrel
        obtain ⟨la, lc, hll⟩ := own_slice67 hq.own
        subst hll
        have hm : m ≤ 129 := by
          have h1 : valL r (ds.take k) ≤ X := by rw [← hX.out]; exact valL_take_le r (by omega) ds k
          have h2 := sz_mono hq.tight htX h1
          have h3 := sz_ge (valL r (ds.take k)) m
          omega
        by_cases hlt : k < s.size
        · obtain ⟨d, c, e1, e2, e3, e4⟩ := dig_at hs.out HL.out hlt
          have hdr := hd.out d e4
          obtain ⟨x, hx⟩ : ∃ x, x = valL r (ds.take k) := ⟨_, rfl⟩
          rw [← hx] at hq
          have hx1 : valL r (ds.take (k + 1)) = x * r + d := by rw [e1, valL_snoc, ← hx]
          have hle : x * r + d ≤ X := by rw [← hx1, ← hX.out]; exact valL_take_le r (by omega) ds (k + 1)
          have HX1 := Lib.hid hx1
          have HDR := Lib.hid hdr
          have HQT := Lib.hid hq.tight
          have HLE := Lib.hid hle
          have HC : Hid (s[k].toNat = (sgn d).toNat) := Lib.hid (by rw [← e3, List.getD_eq_getElem?_getD, List.getElem?_eq_getElem (by simpa using hlt)]; rfl)
          have hd16 : d < 16 := by omega
          have hd15 : (d : Int) ≤ 15 := by omega
          have I0 : PI r d W1.heap.size W1 x m (.slice la m lc) 0 d wr := ⟨by omega, (carry_zero x r d).symm, by rw [mulCells_zero]; exact hq.own, hq.bel⟩
          clear e1 e2 e3 e4 hx hx1 hle hdr
          obtain ⟨wo, rfl⟩ : ∃ wo : World, wo = wr := ⟨_, rfl⟩
          go_wp2_with (go_at_call 113; (with_reducible refine (Tryz.value_of _ d hd16 HC _).mono ?_); rintro e w' ⟨rfl, rfl⟩)
          go_loopw [10, 59] (fun cc i wr => ∃ (j q : Nat), cc = .int .u64 q ∧ i = .int .i64 j ∧ PI r d W1.heap.size W1 x m (.slice la m lc) j q wr) (fun _ i _ => m - (intOf i).toNat)
          case atStart => exact ⟨0, d, rfl, rfl, I0⟩
          case round =>
            obtain ⟨j, q, rfl, rfl, hi2⟩ := hrel
            by_cases hj : j < m
            · obtain ⟨g, rfl⟩ : ∃ g, la = some ⟨g, 0, none⟩ := by
                rcases hi2.own.2 with ⟨_, h⟩ | ⟨g, cap, cur, h, _⟩
                · omega
                · simp only [Value.slice.injEq] at h; exact ⟨g, h.1⟩
              obtain ⟨lx, hlx⟩ : ∃ lx, lx = limb x j := ⟨_, rfl⟩
              obtain ⟨lq, hlq⟩ : ∃ lq, lq = limb (x * r + d) j := ⟨_, rfl⟩
              obtain ⟨cq, hcq⟩ : ∃ cq, cq = carry x r d (j + 1) := ⟨_, rfl⟩
              obtain ⟨t, ht⟩ : ∃ t, t = lx * r + q := ⟨_, rfl⟩
              have hcell : wr.cell? ⟨g, j, none⟩ = some (.int .u32 (lx : Nat)) := by rw [World.ownsRow.cellAt hi2.own j (by omega), mulCells_get x r d j m hj, hlx]
              have hfz := World.ownsRow.frozenAt hi2.own j
              have hlb : lx < 4294967296 := by rw [hlx]; exact limb_lt x j
              have hqb : q < r := by rw [hi2.car]; exact carry_lt HDR.out
              have t1 : lq = t % 4294967296 := by rw [hlq, limb_next, ht, hlx, hi2.car]; rfl
              have t2 : cq = t / 4294967296 := by rw [hcq, carry_next, ht, hlx, hi2.car]; rfl
              have HN := Lib.hid (hi2.next hlq hcq hj)
              have e1 : (lx : Int) * (r : Int) + (q : Int) = (t : Int) := by rw [ht]; push_cast; rfl
              have e2 : (t : Int) % 4294967296 = (lq : Int) := by omega
              have e3 : (t : Int) / 4294967296 = (cq : Int) := by omega
              have e4 : (lx : Int) * (r : Int) ≤ 68719476720 := by
                have h1 : lx * r ≤ 4294967295 * 16 := Nat.mul_le_mul (by omega) hr2
                have h2 : (((lx * r : Nat)) : Int) = (lx : Int) * (r : Int) := by push_cast; rfl
                omega
              have e5 : 0 ≤ (lx : Int) * (r : Int) := by
                have h2 : (((lx * r : Nat)) : Int) = (lx : Int) * (r : Int) := by push_cast; rfl
                omega
              have hji : (j : Int) < (m : Int) := by omega
              clear hlx hlq hcq ht t1 t2 hi2
              go_wp2
              go_roundw
              case rel => exact ⟨j + 1, cq, rfl, by go_num, HN.out⟩
              case measure => simp [intOf]; omega
            · have hjm : j = m := by have := hi2.le; omega
              subst hjm
              have hqc : q = (x * r + d) / B ^ j := by rw [hi2.car, carry_top HQT.out.1]
              have hown := hi2.own
              rw [mulCells_end] at hown
              have hbel := hi2.bel
              obtain ⟨y, hy⟩ : ∃ y, y = x * r + d := ⟨_, rfl⟩
              have hxy : x ≤ y := by
                rw [hy]
                have : x * 1 ≤ x * r := Nat.mul_le_mul_left x (by omega)
                omega
              rw [← hy] at hown hqc HLE
              have HX2 : Hid (valL r (ds.take (k + 1)) = y) := Lib.hid (by rw [HX1.out, hy])
              have hqb : q < r := by rw [hi2.car]; exact carry_lt HDR.out
              have hszy : ∀ m', Tight y m' → sz y m' ≤ 4096 := fun m' h => Nat.le_trans (sz_mono h htX HLE.out) hszX
              have HSY := Lib.hid hszy
              clear hi2 hy hszy HX1
              by_cases hq0 : q = 0
              · subst hq0
                have hty : Tight y j := by
                  refine ⟨(Nat.div_eq_zero_iff_lt (pow_pos' j)).1 hqc.symm, ?_⟩
                  rcases HQT.out.2 with h | h
                  · exact .inl h
                  · exact .inr (Nat.le_trans h hxy)
                have HP : Hid (PQ r W1.heap.size W1 y j (.slice la j lc) wr) := Lib.hid ⟨hty, hown, hbel⟩
                have HLV := Lib.hid (LimV.of_own hown hty.1)
                have hj6 : j ≤ 70368744177664 := by omega
                clear hqc hown hbel hty hj
                go_wp2_with (go_at_call 37; (with_reducible refine (Tryz.size _ y j _ hj6 HLV).mono ?_))
                rintro e w' ⟨m', ht', rfl, rfl⟩
                have hs4 : decide ((4096 : Int) < (sz y m' : Nat)) = false := decide_eq_false (by have := HSY.out m' ht'; omega)
                go_wp2
                go_roundw
                case rel => exact ⟨k + 1, j, by omega, by go_num, by rw [HX2.out]; exact HP.out⟩
                case measure => simp [intOf]; omega
              · have hqB : q < 4294967296 := by omega
                have hq1 : limb y j = q := by
                  unfold limb
                  rw [← hqc]
                  exact Nat.mod_eq_of_lt hqB
                have hty : Tight y (j + 1) := by
                  refine ⟨?_, .inr ?_⟩
                  · have h1 : y / B ^ j < B := by rw [← hqc]; exact hqB
                    have h2 := (Nat.div_lt_iff_lt_mul (pow_pos' j)).1 h1
                    rw [Nat.pow_succ, Nat.mul_comm]; exact h2
                  · rw [Nat.add_sub_cancel]
                    have h1 : 1 ≤ y / B ^ j := by omega
                    have h2 := (Nat.le_div_iff_mul_le (pow_pos' j)).1 h1
                    omega
                have HTY := Lib.hid hty
                have HQ1 := Lib.hid hq1
                have hqi : (q : Int) ≤ 16 := by omega
                have hqp : 0 < q := by omega
                clear hqc hty hj hq1 hqB
                go_wp2_with (at_builtin; refine wpList_append_own _ rfl _ _ 39 rfl W1.heap.size 67 i0 (.int .u32 0) 1 4 Tryz.underlying39 hi hz0 hz1 hz2 rfl (by decide) _ _ _ rfl (hown.alloc _) ⟨wr.heap.size, 0, none⟩ 1 1 [.int .u32 (q : Nat)] rfl rfl ?c1 ?c2 ?c3 ?c4 ?c5 ?_)
                case c1 =>
                  intro j u hj
                  match j, hj with
                  | 0, hj => simp at hj; subst hj; simp [Addr.add]
                case c2 => intro u hu; simp at hu; subst hu; rfl
                case c3 => unfold maxLen; omega
                case c4 => omega
                case c5 => have := hbel.size; simp; omega
                intro v' w2 hown' hgrow _
                obtain ⟨va, vc, hv'⟩ := own_slice67 hown'
                subst hv'
                rw [← limbCells_succ y j q HQ1.out] at hown'
                have HP : Hid (PQ r W1.heap.size W1 y (j + 1) (.slice va (j + 1) vc) w2) := Lib.hid ⟨HTY.out, hown', (hbel.alloc (by have := hbel.size; omega) _).grown hgrow (by have := hbel.size; simp; omega) (fun b hb => by have := (hown.lt b hb).1; omega)⟩
                have HLV := Lib.hid (LimV.of_own hown' HTY.out.1)
                have hj6 : j + 1 ≤ 70368744177664 := by omega
                clear hown hbel hown' hgrow
                go_wp2_with (go_at_call 37; (with_reducible refine (Tryz.size _ y (j + 1) _ hj6 HLV).mono ?_))
                rintro e w' ⟨m', ht', rfl, rfl⟩
                have hs4 : decide ((4096 : Int) < (sz y m' : Nat)) = false := decide_eq_false (by have := HSY.out m' ht'; omega)
                go_wp2
                go_roundw
                case rel => exact ⟨k + 1, j + 1, by omega, by go_num, by rw [HX2.out]; exact HP.out⟩
                case measure => simp [intOf]; omega
        · have hks : k = s.size := by omega
          subst hks
          have e1 : valL r (ds.take s.size) = X := by rw [← HL.out, List.take_length]; exact hX.out
          rw [e1] at hq
          have HLV := Lib.hid (LimV.of_own hq.own hq.tight.1)
          have hbel := Lib.hid hq.bel
          clear hq e1
          go_wp2_with (go_at_call 38; (with_reducible refine (Tryz.laid _ X m _ HLV).mono ?_))
          rintro e W2 ⟨sl, m', rfl, ht, hl, b2⟩
          obtain ⟨a, c, rfl⟩ := hl.slice
          have hws := hbel.out.size
          have T := (b2.block w.heap.size (by omega)).trans ((hbel.out.block w.heap.size hlt0).trans tok)
          have x0 : W2.cell? ⟨w.heap.size, 0, none⟩ = some (.bool false) := by rw [Lib.cell_of_heap T]; rfl
          have x1 : W2.cell? ⟨w.heap.size, 1, none⟩ = some (.slice none 0 0) := by rw [Lib.cell_of_heap T]; rfl
          have y0 : W2.frozen? ⟨w.heap.size, 0, none⟩ = false := Lib.frozen_of_heap T 0
          have y1 : W2.frozen? ⟨w.heap.size, 1, none⟩ = false := Lib.frozen_of_heap T 1
          have HL2 := Lib.hid hl
          have BL := Lib.hid (bl.trans ((hbel.out.mono (by omega)).trans (b2.mono (by omega))))
          clear hl b2 tok T bl
          go_wp2
          refine bodyPost_ret (v := .tuple #[.agg #[.bool false, .slice a m' c], .int .i64 0]) ?_ rfl ⟨_, m', rfl, ht, ?_, ?_⟩
          · simp only [results, Tryz.results93]
            go_simp
          · refine (HL2.out.setCell x0 (fun _ _ h => by cases h) _).setCell (u0 := .slice none 0 0) ?_ (fun _ _ h => by cases h) _
            rw [World.cell?_setCell_other, x1]
            simp
          · iterate 2 refine Below.setCell ?_ (by simp) _
            exact BL.out
end Go.Proofs
