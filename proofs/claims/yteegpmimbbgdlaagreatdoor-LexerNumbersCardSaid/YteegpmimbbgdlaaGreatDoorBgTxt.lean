/- The walk of bigint.Text. -/
import Derived.Test.YteegpmimbbgdlaaGreatDoorBgDiv
import Derived.Test.YteegpmimbbgdlaaGreatDoorQtQuo
import Derived.Lib.Builder
import Derived.Lib.FrozenHead
import Derived.RegionTactic
import Derived.ChangeAlike
namespace Go.Proofs
open Go.RowKit Go.Bg
theorem heap_setCell_row {w : World} {g q : Nat} {arr : Array Value} {t : TypeId} {fz : Nat × Nat} (h : w.heap[g]? = some (.cells arr t fz)) (v : Value) : (w.setCell ⟨g, q, none⟩ v).heap[g]? = some (.cells (arr.setIfInBounds q v) t fz) := by
  unfold World.setCell
  simp [Array.getElem?_modify, h]
/-- A row of its own, by its first cells. -/
def RowIs (w : World) (g n : Nat) (t : TypeId) (f : Nat → Value) : Prop := ∃ cur : Array Value, w.heap[g]? = some (.cells cur t (0, 0)) ∧ n ≤ cur.size ∧ ∀ j, j < n → cur[j]? = some (f j)
theorem RowIs.cell {w : World} {g n : Nat} {t : TypeId} {f : Nat → Value} (h : RowIs w g n t f) {j : Nat} (hj : j < n) : w.cell? ⟨g, j, none⟩ = some (f j) := by
  obtain ⟨cur, h1, _, h3⟩ := h
  rw [Lib.cell_of_heap h1]
  simpa using h3 j hj
theorem RowIs.frozen {w : World} {g n : Nat} {t : TypeId} {f : Nat → Value} (h : RowIs w g n t f) (j : Nat) : w.frozen? ⟨g, j, none⟩ = false := by
  obtain ⟨cur, h1, _, _⟩ := h
  exact Lib.frozen_of_heap h1 j
theorem RowIs.set {w : World} {g n q : Nat} {t : TypeId} {f f' : Nat → Value} (h : RowIs w g n t f) (v : Value) (hq : q < n) (hf : ∀ j, j < n → f' j = if j = q then v else f j) : RowIs (w.setCell ⟨g, q, none⟩ v) g n t f' := by
  obtain ⟨cur, h1, h2, h3⟩ := h
  refine ⟨_, heap_setCell_row h1 v, by simpa using h2, fun j hj => ?_⟩
  rw [hf j hj, Array.getElem?_setIfInBounds]
  by_cases e : q = j
  · subst e; simp; omega
  · rw [if_neg e, if_neg (Ne.symm e), h3 j hj]
theorem RowIs.drewN {w : World} {g n : Nat} {t : TypeId} {f : Nat → Value} (h : RowIs w g n t f) (k : Nat) : RowIs (w.drewN k) g n t f := h
theorem RowIs.block {w w' : World} {g n : Nat} {t : TypeId} {f : Nat → Value} (h : RowIs w g n t f) (hb : w'.heap[g]? = w.heap[g]?) : RowIs w' g n t f := by
  obtain ⟨cur, h1, h2, h3⟩ := h
  exact ⟨cur, hb.trans h1, h2, h3⟩
theorem RowIs.lt {w : World} {g n : Nat} {t : TypeId} {f : Nat → Value} (h : RowIs w g n t f) : g < w.heap.size := by
  obtain ⟨cur, h1, _⟩ := h
  exact (Array.getElem?_eq_some_iff.1 h1).1
theorem LimV.cut {w : World} {a : Option Addr} {c x m m1 : Nat} (h : LimV w (.slice a m c) x m) (hle : m1 ≤ m) (hx : x < B ^ m1) : LimV w (.slice a m1 c) x m1 := by
  rcases h with ⟨h1, h2, h3⟩ | ⟨b, o, c', h1, h2, h3, h4⟩
  · subst h2 h3
    obtain rfl : m1 = 0 := by omega
    exact .inl ⟨h1, rfl, rfl⟩
  · simp only [Value.slice.injEq] at h1
    obtain ⟨rfl, _, rfl⟩ := h1
    exact .inr ⟨b, o, c, rfl, by omega, h3, hx, fun j hj => h4.2 j (by omega)⟩
/-- What the division has come to: limbs from place q on are the quotient's. -/
def mix (x r q : Nat) (j : Nat) : Value := .int .u32 ((if j < q then limb x j else limb (x / r) j : Nat) : Int)
/-- The outer loop: X is left, of k limbs; the digits ds have been written. -/
structure TQ (r x g : Nat) (W3 : World) (X k : Nat) (ds : List Nat) (o : Value) (wr : World) : Prop where
  tight : Tight X k
  dig : digs r x = ds ++ digs r X
  row : RowIs wr g k 67 (fun j => .int .u32 (limb X j : Nat))
  own : wr.ownsRow (g + 1) 5 1 o ds.length (Lib.byteCells (ds.map sgn))
  bel : Below g W3 wr
/-- The inner loop: places from q on have been divided, n is the rest. -/
structure IQ (r X g : Nat) (W3 : World) (k : Nat) (ds : List Nat) (o : Value) (q n : Nat) (wr : World) : Prop where
  le : q ≤ k
  rest : n = X / B ^ q % r
  row : RowIs wr g k 67 (mix X r q)
  own : wr.ownsRow (g + 1) 5 1 o ds.length (Lib.byteCells (ds.map sgn))
  bel : Below g W3 wr
theorem TQ.start {r x g : Nat} {W3 : World} {X k : Nat} {ds : List Nat} {o : Value} {wr : World} (h : TQ r x g W3 X k ds o wr) : IQ r X g W3 k ds o k 0 wr := by
  refine ⟨Nat.le_refl _, ?_, ?_, h.own, h.bel⟩
  · rw [Nat.div_eq_of_lt h.tight.1]; simp
  · obtain ⟨cur, h1, h2, h3⟩ := h.row
    exact ⟨cur, h1, h2, fun j hj => by rw [h3 j hj]; simp [mix, hj]⟩
/-- One digit more. -/
theorem TQ.next {r x g : Nat} {W3 : World} {X k k2 n : Nat} {ds : List Nat} {o v' : Value} {wo wr w2 : World} {ob : Obj} (h : TQ r x g W3 X k ds o wo) (hr : 2 ≤ r) (hx : X ≠ 0) (hi : IQ r X g W3 k ds o 0 n wr) (hn : n = X % r) (ht : Tight (X / r) k2)
    (hown : w2.ownsRow (g + 1) 5 1 v' (ds.length + 1) (Lib.byteCells (ds.map sgn) ++ [.int .u8 ((sgn n).toNat : Nat)])) (hg : (wr.alloc ob).grownBy w2 o.ownBlock) : TQ r x g W3 (X / r) k2 (ds ++ [n]) v' w2 := by
  have hgl := hi.row.lt
  have hle : k2 ≤ k := by
    rcases ht.2 with h1 | h1
    · omega
    · rcases Nat.lt_or_ge k k2 with h4 | h4
      · have h5 : B ^ k ≤ B ^ (k2 - 1) := Nat.pow_le_pow_right B_pos (by omega)
        have h6 : X / r ≤ X := Nat.div_le_self _ _
        have := h.tight.1
        omega
      · exact h4
  have hno : some g ≠ o.ownBlock := fun e => by have := (hi.own.lt g e.symm).1; omega
  have hb : w2.heap[g]? = wr.heap[g]? := by
    rw [hg.block g (by simp; omega) hno]
    exact Lib.alloc_old wr _ g hgl
  refine ⟨ht, ?_, ?_, ?_, ?_⟩
  · rw [h.dig, digs_pos hr hx, ← hn, List.append_assoc]; rfl
  · obtain ⟨cur, h1, h2, h3⟩ := hi.row.block hb
    exact ⟨cur, h1, by omega, fun j hj => by rw [h3 j (by omega)]; simp [mix]⟩
  · have e : Lib.byteCells ((ds ++ [n]).map sgn) = Lib.byteCells (ds.map sgn) ++ [.int .u8 ((sgn n).toNat : Nat)] := by simp [Lib.byteCells]
    rw [e, List.length_append, List.length_singleton]
    exact hown
  · exact (hi.bel.alloc (by omega) _).grown hg (by simp; omega) (fun b hb => by have := (hi.own.lt b hb).1; omega)
theorem Tryz.div32_at (X r p : Nat) (hr : 2 ≤ r) (hr2 : r ≤ 36) {n lp dq dr : Nat} (hn : n = X / B ^ (p + 1) % r) (hl : lp = limb X p) (hdq : dq = limb (X / r) p) (hdr : dr = X / B ^ p % r) (w : World) :
    Calls Tryz.prog 36 #[.int .u32 n, .int .u32 lp, .int .u32 r] w fun e w' => e = .returned (.tuple #[.int .u32 dq, .int .u32 dr]) ∧ ∃ q, w' = w.drewN q := by
  obtain ⟨h1, h2⟩ := div_step X r p (by omega)
  rw [← hn, ← hl, ← hdq] at h1
  rw [← hn, ← hl, ← hdr] at h2
  have h3 : n < r := by rw [hn]; exact Nat.mod_lt _ (by omega)
  have h4 : lp < 4294967296 := by rw [hl]; exact limb_lt X p
  refine (Tryz.div32 n lp r w h3 h4 hr2).mono fun e w' ⟨h5, h6⟩ => ⟨?_, h6⟩
  rw [h5, h1, h2]
/-- A place more is divided. -/
theorem IQ.next {r X g : Nat} {W3 : World} {k p n dq dr : Nat} {ds : List Nat} {o : Value} {wr : World} (h : IQ r X g W3 k ds o (p + 1) n wr) (hdq : dq = limb (X / r) p) (hdr : dr = X / B ^ p % r) (q : Nat) :
    IQ r X g W3 k ds o p dr ((wr.drewN q).setCell ⟨g, p, none⟩ (.int .u32 (dq : Nat))) := by
  have hno : o.ownBlock = none ∨ o.ownBlock ≠ some g := by
    refine .inr fun e => ?_
    have := (h.own.lt g e).1; omega
  refine ⟨by have := h.le; omega, hdr, ?_, ?_, ?_⟩
  · refine (h.row.drewN q).set _ (by have := h.le; omega) fun j hj => ?_
    unfold mix
    by_cases e : j = p
    · subst e; rw [if_pos rfl, if_neg (by omega), hdq]
    · rw [if_neg e]
      by_cases e2 : j < p
      · rw [if_pos e2, if_pos (by omega)]
      · rw [if_neg e2, if_neg (by omega)]
  · exact World.ownsRow.kept (row := some g) h.own ⟨rfl, rfl, rfl, by simp [World.setCell, World.drewN], fun b hb hne => Below.heap_setCell _ _ _ _ (fun e => hne (by rw [e]))⟩ hno
  · exact (h.bel.trans (⟨rfl, rfl, rfl, Nat.le_refl _, fun _ _ => rfl⟩ : Below g wr (wr.drewN q))).setCell (p := ⟨g, p, none⟩) (Nat.le_refl _) _
theorem own_slice {w : World} {b : Nat} {v : Value} {n : Nat} {xs : List Value} (h : w.ownsRow b 5 1 v n xs) : ∃ a c, v = .slice a n c := by
  rcases h.2 with ⟨rfl, rfl⟩ | ⟨g, cap, cur, rfl, _⟩
  · exact ⟨_, _, rfl⟩
  · exact ⟨_, _, rfl⟩
theorem digs_len {r : Nat} (hr : 2 ≤ r) : ∀ (n x : Nat), x < 2 ^ n → (digs r x).length ≤ n := by
  intro n
  induction n with
  | zero => intro x hx; have : x = 0 := by simpa using hx
            subst this; simp [digs_zero]
  | succ n ih =>
    intro x hx
    by_cases h : x = 0
    · subst h; simp [digs_zero]
    · rw [digs_pos hr h, List.length_cons]
      have h1 : x / r ≤ x / 2 := Nat.div_le_div_left hr (by omega)
      have h2 : x / 2 < 2 ^ n := by rw [Nat.pow_succ] at hx; omega
      have := ih (x / r) (by omega)
      omega
theorem TQ.lens {r x g : Nat} {W3 : World} {X k : Nat} {ds : List Nat} {o : Value} {wr : World} (h : TQ r x g W3 X k ds o wr) (hr : 2 ≤ r) (hX : X ≠ 0) : ds.length < (digs r x).length := by
  rw [h.dig, List.length_append, digs_pos hr hX, List.length_cons]; omega
theorem Tight.le {x y m k : Nat} (h : Tight y k) (hx : x < B ^ m) (hy : y ≤ x) : k ≤ m := by
  rcases h.2 with h1 | h1
  · omega
  · rcases Nat.lt_or_ge m k with h4 | h4
    · have h5 : B ^ m ≤ B ^ (k - 1) := Nat.pow_le_pow_right B_pos (by omega)
      omega
    · exact h4
theorem own_row {w : World} {b : Nat} {oa : Option Addr} {oc : Nat} {ds : List Nat} {L : List UInt8} (h : w.ownsRow b 5 1 (.slice oa ds.length oc) ds.length (Lib.byteCells (ds.map sgn))) (hL : L = ds.map sgn) (hp : 0 < L.length) :
    ∃ g, oa = some ⟨g, 0, none⟩ ∧ b ≤ g ∧ RowIs w g L.length 5 (fun j => .int .u8 ((L.getD j 0).toNat : Nat)) := by
  have hl : L.length = ds.length := by rw [hL, List.length_map]
  rcases h.2 with ⟨h1, h2⟩ | ⟨g, cap, cur, h1, h2, h3, h4, h5, h6, h7⟩
  · omega
  · simp only [Value.slice.injEq] at h1
    obtain ⟨rfl, _, rfl⟩ := h1
    refine ⟨g, rfl, h2, cur, h3, by omega, fun j hj => ?_⟩
    have h8 : cur.toList[j]? = (Lib.byteCells (ds.map sgn))[j]? := by rw [← h7, List.getElem?_take, if_pos (by omega)]
    rw [← Array.getElem?_toList, h8, ← hL]
    simp [Lib.byteCells, List.getD, List.getElem?_eq_getElem hj]
/-- Where the turning round has come to. -/
def swp (L : List UInt8) (q j : Nat) : Value := .int .u8 (((if j < q ∨ L.length - 1 - j < q then L.getD (L.length - 1 - j) 0 else L.getD j 0).toNat : Nat) : Int)
theorem swp_end (L : List UInt8) (q e j : Nat) (h : q + e + 1 = L.length) (hqe : e ≤ q) (hj : j < L.length) : swp L q j = .int .u8 ((L.getD (L.length - 1 - j) 0).toNat : Nat) := by
  unfold swp
  by_cases h1 : j < q ∨ L.length - 1 - j < q
  · rw [if_pos h1]
  · rw [if_neg h1]
    have : L.length - 1 - j = j := by omega
    rw [this]
theorem RowIs.swap {w : World} {h q e : Nat} {L : List UInt8} (hr : RowIs w h L.length 5 (swp L q)) (hqe : q < e) (hn : q + e + 1 = L.length) (k : Nat) :
    RowIs (((w.drewN k).setCell ⟨h, q, none⟩ (swp L q e)).setCell ⟨h, e, none⟩ (swp L q q)) h L.length 5 (swp L (q + 1)) := by
  refine ((hr.drewN k).set (f' := fun j => if j = q then swp L q e else swp L q j) _ (by omega) (fun j _ => rfl)).set _ (by omega) fun j hj => ?_
  by_cases h1 : j = e
  · subst h1
    rw [if_pos rfl]
    unfold swp
    rw [if_pos (by omega), if_neg (by omega)]
    have : L.length - 1 - j = q := by omega
    rw [this]
  · rw [if_neg h1]
    by_cases h2 : j = q
    · subst h2
      show _ = if j = j then swp L j e else swp L j j
      rw [if_pos rfl]
      unfold swp
      rw [if_pos (by omega), if_neg (by omega)]
      have : L.length - 1 - j = e := by omega
      rw [this]
    · show _ = if j = q then swp L q e else swp L q j
      rw [if_neg h2]
      unfold swp
      by_cases h3 : j < q ∨ L.length - 1 - j < q
      · rw [if_pos h3, if_pos (by omega)]
      · rw [if_neg h3, if_neg (by omega)]
/-- What has been turned round, as a text. -/
theorem rev_text {w : World} {h q e : Nat} {L : List UInt8} (hr : RowIs w h L.length 5 (swp L q)) (hn : q + e + 1 = L.length) (hle : e ≤ q) (cap : Nat) :
    ∃ t : ByteArray, t.data.toList = L.reverse ∧ (convert 48 9 (.slice (some ⟨h, 0, none⟩) L.length cap)).run Tryz.prog w = .ok (.string t) w := by
  refine ⟨⟨L.reverse.toArray⟩, rfl, ?_⟩
  have hc : ∀ i, i < L.length → w.cell? ⟨h, 0 + i, none⟩ = some (.int .u8 ((L.reverse.map fun x => (x.toNat : Int)).getD i 0)) := by
    intro i hi
    rw [Nat.zero_add, hr.cell hi, swp_end L q e i hn hle hi]
    have h1 : L.length - 1 - i < L.length := by omega
    rw [List.getD_eq_getElem?_getD, List.getD_eq_getElem?_getD, List.getElem?_map, List.getElem?_reverse hi, List.getElem?_eq_getElem h1]
    rfl
  rw [run_convert_bytes_arg w 48 5 Tryz.underlying48 Tryz.underlying5 h 0 L.length cap (L.reverse.map fun x => (x.toNat : Int)) (by simp) hc 9 Tryz.underlying9]
  congr 2
  apply ByteArray.ext
  apply Array.toList_inj.1
  rw [strOfNums_data, List.map_map]
  show _ = L.reverse
  conv => rhs; rw [← List.map_id L.reverse]
  apply List.map_congr_left
  intro x _
  simp
theorem alpha_size : (⟨#[48, 49, 50, 51, 52, 53, 54, 55, 56, 57, 97, 98, 99, 100, 101, 102, 103, 104, 105, 106, 107, 108, 109, 110, 111, 112, 113, 114, 115, 116, 117, 118, 119, 120, 121, 122]⟩ : ByteArray).size = 36 := rfl
theorem alpha_at (n : Nat) (h : n < 36) : ((⟨#[48, 49, 50, 51, 52, 53, 54, 55, 56, 57, 97, 98, 99, 100, 101, 102, 103, 104, 105, 106, 107, 108, 109, 110, 111, 112, 113, 114, 115, 116, 117, 118, 119, 120, 121, 122]⟩ : ByteArray)[n]'h).toNat = (sgn n).toNat := by
  have key : ∀ k : Fin 36, ((⟨#[48, 49, 50, 51, 52, 53, 54, 55, 56, 57, 97, 98, 99, 100, 101, 102, 103, 104, 105, 106, 107, 108, 109, 110, 111, 112, 113, 114, 115, 116, 117, 118, 119, 120, 121, 122]⟩ : ByteArray)[k.val]'k.isLt).toNat = (sgn k.val).toNat := by decide
  exact key ⟨n, h⟩
def TextSays (r x : Nat) (w : World) (e : Ending) (w' : World) : Prop := ∃ t : ByteArray, e = .returned (.tuple #[.string t, .int .i64 0]) ∧ t.data.toList = numL r x ∧ Below w.heap.size w w'
set_option maxRecDepth 100000 in
set_option maxHeartbeats 8000000 in
theorem Tryz.text (v : Value) (x m r : Nat) (w : World) (hm : m ≤ 70368744177664) (hr : 2 ≤ r) (hr2 : r ≤ 36) (hv : Hid (LimV w v x m)) (hsz : Hid (∀ m', Tight x m' → sz x m' ≤ 4096)) :
    Calls Tryz.prog 20 #[.agg #[.bool false, v], .int .i64 r] w (TextSays r x w) := by
  obtain ⟨a, c, rfl⟩ := hv.out.slice
  have R1 : decide ((r : Int) < 2) = false := decide_eq_false (by omega)
  have R2 : decide ((36 : Int) < r) = false := decide_eq_false (by omega)
  obtain ⟨i0, hi, hz0, hz1, hz2⟩ := info_parts Tryz.infoU8
  go_enter Tryz.func20, Tryz.ntmps20
  go_wp2_with fail
  generalize hW1 : (w.alloc _).alloc _ = W1
  have C0 : W1.cell? ⟨w.heap.size, 0, none⟩ = some (.bool false) := by subst hW1; go_simp
  have C1 : W1.cell? ⟨w.heap.size, 1, none⟩ = some (.slice a m c) := by subst hW1; go_simp
  have C2 : W1.cell? ⟨w.heap.size + 1, 0, none⟩ = some (.bool false) := by subst hW1; go_simp
  have C3 : W1.cell? ⟨w.heap.size + 1, 1, none⟩ = some (.slice a m c) := by subst hW1; go_simp
  have bl : Below w.heap.size w W1 := by subst hW1; exact ((Below.refl _ _).alloc (Nat.le_refl _) _).alloc (by simp) _
  have sz1 : W1.heap.size = w.heap.size + 2 := by subst hW1; simp
  have hv1 := Lib.hid (hv.out.below bl)
  clear hW1
  go_wp2_with (go_at_call 33; (with_reducible refine (Tryz.long (w.heap.size + 1) false (.slice a m c) x m _ hm hv1 C2 C3).mono ?_))
  rintro e W2 ⟨m1, ht1, rfl, bl2⟩
  have hd : decide ((4096 : Int) < (sz x m1 : Nat)) = false := decide_eq_false (by have := hsz.out m1 ht1; omega)
  have sz2 : w.heap.size + 2 ≤ W2.heap.size := by have := bl2.size; omega
  have D0 : W2.cell? ⟨w.heap.size, 0, none⟩ = some (.bool false) := (bl2.cell (p := ⟨w.heap.size, 0, none⟩) (by show w.heap.size < W1.heap.size; omega)).trans C0
  have D1 : W2.cell? ⟨w.heap.size, 1, none⟩ = some (.slice a m c) := (bl2.cell (p := ⟨w.heap.size, 1, none⟩) (by show w.heap.size < W1.heap.size; omega)).trans C1
  have hv2 := Lib.hid (hv1.out.below bl2)
  have BL2 := Lib.hid (bl.trans (bl2.mono (by omega)))
  clear C0 C1 C2 C3 bl bl2 hv1 sz1
  rw [hd]
  clear hd
  go_wp2_with (go_at_call 35; (with_reducible refine (Tryz.trim _ x m _ hv2.out).mono ?_))
  rintro e w' ⟨m2, ht2, rfl, rfl⟩
  obtain rfl : m1 = m2 := ht1.inj ht2
  have hle : m1 ≤ m := by
    rcases ht1.2 with h | h
    · omega
    · rcases Nat.lt_or_ge m m1 with h4 | h4
      · have h5 : B ^ m ≤ B ^ (m1 - 1) := Nat.pow_le_pow_right B_pos (by omega)
        have h6 : x < B ^ m := by
          rcases hv.out with ⟨_, h7, _⟩ | ⟨_, _, _, _, _, _, h7⟩
          · rw [h7]; exact pow_pos' m
          · exact h7.1
        omega
      · exact h4
  have hm129 : m1 ≤ 129 := by
    have h1 := hsz.out m1 ht1
    have h2 := sz_ge x m1
    omega
  have hv3 : Hid (LimV W2 (.slice a m1 c) x m1) := Lib.hid (hv2.out.cut hle ht1.1)
  clear hv2
  go_wp2_with (go_at_call 34; (with_reducible refine (Tryz.own _ x m1 _ (by omega) hv3).mono ?_))
  rintro e W3 ⟨rfl, hg3, bl3⟩
  have BL3 := Lib.hid (BL2.out.trans (bl3.mono (by omega)))
  have sz3 : W2.heap.size < W3.heap.size := (Array.getElem?_eq_some_iff.1 hg3).1
  have E0 : W3.cell? ⟨w.heap.size, 0, none⟩ = some (.bool false) := (bl3.cell (p := ⟨w.heap.size, 0, none⟩) (by show w.heap.size < W2.heap.size; omega)).trans D0
  have G3 := Lib.hid hg3
  clear hg3 bl3 D0 D1 BL2
  by_cases h0 : m1 = 0
  · subst h0
    have hx0 : x = 0 := ht1.zero_iff.1 rfl
    go_wp2
    go_ret2
    subst hx0
    exact ⟨⟨#[48]⟩, rfl, rfl, BL3.out⟩
  · have h0' : ((m1 : Int) == 0) = false := by rw [Bool.eq_false_iff]; intro h; have := eq_of_beq h; omega
    have HDL : Hid ((digs r x).length ≤ 32000) := Lib.hid (by
      have h1 : x < 2 ^ (32 * m1) := by
        have := ht1.1
        rw [show B = 2 ^ 32 from rfl, ← Nat.pow_mul] at this
        exact this
      have := digs_len hr (32 * m1) x h1
      omega)
    have hx0 : x ≠ 0 := fun h => h0 (ht1.zero_iff.2 h)
    obtain ⟨g, hg⟩ : ∃ g, g = W2.heap.size := ⟨_, rfl⟩
    rw [← hg]
    have hgw : w.heap.size < g := by omega
    have T0 : TQ r x g W3 x m1 [] (.slice none 0 0) W3 := ⟨ht1, by simp, ⟨_, by rw [hg]; exact G3.out, by simp [limbCells_length], fun j hj => by simpa using limbCells_get x m1 j hj⟩, World.ownsRow_nil _ _ _ _, Below.refl _ _⟩
    clear hg
    go_wp2
    go_loopw [6, 7] (fun l out wr => ∃ (X k : Nat) (ds : List Nat), l = .slice (some ⟨g, 0, none⟩) k m1 ∧ k ≤ m1 ∧ TQ r x g W3 X k ds out wr) (fun _ out _ => match out with | .slice _ n _ => (digs r x).length - n | _ => 0)
    case atStart => exact ⟨x, m1, [], rfl, Nat.le_refl _, T0⟩
    case round =>
      obtain ⟨X, k, ds, rfl, hk, hq⟩ := hrel
      obtain ⟨oa, oc, ho⟩ := own_slice hq.own
      subst ho
      cases k with
      | zero =>
        have E1 : wr.cell? ⟨w.heap.size, 0, none⟩ = some (.bool false) := (hq.bel.cell (p := ⟨w.heap.size, 0, none⟩) hgw).trans E0
        have hX : X = 0 := hq.tight.zero_iff.1 rfl
        subst hX
        have hds : digs r x = ds := by have := hq.dig; rwa [digs_zero, List.append_nil] at this
        obtain ⟨L, hL⟩ : ∃ L, L = ds.map sgn := ⟨_, rfl⟩
        have hLl : L.length = ds.length := by rw [hL, List.length_map]
        have hpos : 0 < L.length := by rw [hLl, ← hds, digs_pos hr hx0, List.length_cons]; omega
        have hL32 : L.length ≤ 32000 := by rw [hLl, ← hds]; exact HDL.out
        obtain ⟨h, rfl, hgh, hrow⟩ := own_row hq.own hL hpos
        rw [← hLl]
        have NL : Hid (numL r x = L.reverse) := Lib.hid (by unfold numL; rw [if_neg hx0, hds, hL])
        have BLW := Lib.hid (BL3.out.trans (hq.bel.mono (by omega)))
        have R0 : RowIs wr h L.length 5 (swp L 0) := hrow
        obtain ⟨n, hn⟩ : ∃ n, L.length = n + 1 := ⟨L.length - 1, by omega⟩
        have HLN := Lib.hid hn
        clear hds hL hLl hpos hq hrow T0 ht1 ht2 h0 hx0 HDL hv hsz G3
        go_wp2
        clear hn
        obtain ⟨wo, rfl⟩ : ∃ wo : World, wo = wr := ⟨_, rfl⟩
        go_loopw [10, 11] (fun i k wr => ∃ q e : Nat, i = .int .i64 q ∧ k = .int .i64 e ∧ q + e + 1 = L.length ∧ RowIs wr h L.length 5 (swp L q) ∧ Below g wo wr) (fun _ k _ => (intOf k).toNat)
        case atStart => exact ⟨0, n, rfl, rfl, by have := HLN.out; omega, R0, Below.refl _ _⟩
        case round =>
          obtain ⟨q, e, rfl, rfl, hqe, hrow, hbw⟩ := hrel
          have hqi : (q : Int) < (L.length : Int) := by omega
          have hei : (e : Int) < (L.length : Int) := by omega
          have hLi : (L.length : Int) ≤ 32000 := by omega
          by_cases hlt : q < e
          · obtain ⟨e, rfl⟩ : ∃ e', e = e' + 1 := ⟨e - 1, by omega⟩
            have hc1 := hrow.cell (j := q) (by omega)
            have hc2 := hrow.cell (j := e + 1) (by omega)
            have hf1 := hrow.frozen q
            have hf2 := hrow.frozen (e + 1)
            have hne : ¬ q = e + 1 := by omega
            have hne2 : ¬ e + 1 = q := by omega
            obtain ⟨va, hva⟩ : ∃ va : Nat, swp L q q = .int .u8 va := ⟨_, rfl⟩
            obtain ⟨vb, hvb⟩ : ∃ vb : Nat, swp L q (e + 1) = .int .u8 vb := ⟨_, rfl⟩
            have hsw := hrow.swap hlt hqe 1
            rw [hva] at hc1 hsw
            rw [hvb] at hc2 hsw
            have HR := Lib.hid hsw
            have hei2 : (e : Int) + 1 < (L.length : Int) := by omega
            have hei3 : 0 ≤ (e : Int) + 1 := by omega
            have HQ := Lib.hid hqe
            have hlti : (q : Int) < (e : Int) + 1 := by omega
            clear hrow hqe hsw hva hvb hei
            go_wp2
            go_region
            go_wp2
            go_roundw
            case rel => exact ⟨q + 1, e, by go_num, rfl, by have := HQ.out; omega, HR.out, ((hbw.setCell (p := ⟨h, q, none⟩) (by show g ≤ h; omega) _).setCell (p := ⟨h, e + 1, none⟩) (by show g ≤ h; omega) _).drew⟩
            case measure => simp [intOf]
          · obtain ⟨t, ht, hconv⟩ := rev_text hrow hqe (by omega) oc
            go_wp2
            go_ret2
            exact ⟨t, rfl, by rw [ht, NL.out], BLW.out.trans (hbw.mono (by omega))⟩
      | succ k =>
        obtain ⟨wo, rfl⟩ : ∃ wo : World, wo = wr := ⟨_, rfl⟩
        have hk1 : k ≤ 1000 := by omega
        have I0 := hq.start
        have hx0 : X ≠ 0 := fun h => by have := hq.tight.zero_iff.2 h; omega
        go_wp2
        go_loopw [8, 9] (fun rm i wr => ∃ (q n : Nat), rm = .int .u32 n ∧ ((q = 0 ∧ i = .int .i64 (-1)) ∨ ∃ p : Nat, q = p + 1 ∧ i = .int .i64 p) ∧ IQ r X g W3 (k + 1) ds (.slice oa ds.length oc) q n wr) (fun _ i _ => match i with | .int _ z => (z + 1).toNat | _ => 0)
        case atStart => exact ⟨k + 1, 0, rfl, .inr ⟨k, rfl, rfl⟩, I0⟩
        case round =>
          obtain ⟨q, n, rfl, hi, hiq⟩ := hrel
          rcases hi with ⟨rfl, rfl⟩ | ⟨p, rfl, rfl⟩
          · have hxr : X / r < B ^ (k + 1) := Nat.lt_of_le_of_lt (Nat.div_le_self _ _) hq.tight.1
            have hlv : Hid (LimV wr (.slice (some ⟨g, 0, none⟩) (k + 1) m1) (X / r) (k + 1)) := Lib.hid (.inr ⟨g, 0, m1, rfl, hk, by unfold maxLen; omega, hxr, fun j hj => by rw [Nat.zero_add]; simpa [mix] using hiq.row.cell hj⟩)
            go_wp2_with (go_at_call 35; (with_reducible refine (Tryz.trim _ (X / r) (k + 1) _ hlv.out).mono ?_))
            rintro e w' ⟨k2, ht, rfl, rfl⟩
            have hn : n = X % r := by rw [hiq.rest]; simp
            have hn36 : n < 36 := by rw [hn]; have := Nat.mod_lt X (show 0 < r by omega); omega
            have HN := Lib.hid hn
            clear hn hxr
            have hal := alpha_at n hn36
            have hdl : ds.length ≤ 32000 := by have := hq.lens hr hx0; have := HDL.out; omega
            have hln := Lib.hid (hq.lens hr hx0)
            have hk2 : k2 ≤ m1 := by have := Tight.le ht hq.tight.1 (Nat.div_le_self _ _); omega
            go_wp2_with (at_builtin; refine wpList_append_own _ rfl _ _ 48 rfl (g + 1) 5 i0 (.int .u8 0) 1 1 Tryz.underlying48 hi hz0 hz1 hz2 rfl (by decide) _ _ _ rfl (hiq.own.alloc _) ⟨wr.heap.size, 0, none⟩ 1 1 [.int .u8 ((sgn n).toNat : Nat)] rfl rfl ?c1 ?c2 ?c3 ?c4 ?c5 ?_)
            case c1 =>
              intro j u hj
              match j, hj with
              | 0, hj => simp at hj; subst hj; simp [Addr.add]
            case c2 => intro u hu; simp at hu; subst hu; rfl
            case c3 => unfold maxLen; omega
            case c4 => omega
            case c5 => have := hiq.row.lt; simp; omega
            intro v' w2 hown' hgrow _
            obtain ⟨va, vc, hv'⟩ := own_slice hown'
            subst hv'
            have hq2 : TQ r x g W3 (X / r) k2 (ds ++ [n]) (.slice va (ds.length + 1) vc) w2 := hq.next hr hx0 hiq HN.out ht hown' hgrow
            go_wp2
            go_roundw
            case rel => exact ⟨X / r, k2, ds ++ [n], rfl, hk2, hq2⟩
            case measure => have := hln.out; simp; omega
          · have hpk : p < k + 1 := by have := hiq.le; omega
            obtain ⟨lp, hlp⟩ : ∃ lp, lp = limb X p := ⟨_, rfl⟩
            obtain ⟨dq, hdq⟩ : ∃ dq, dq = limb (X / r) p := ⟨_, rfl⟩
            obtain ⟨dr, hdr⟩ : ∃ dr, dr = X / B ^ p % r := ⟨_, rfl⟩
            have hcell : wr.cell? ⟨g, p, none⟩ = some (.int .u32 (lp : Nat)) := by rw [hiq.row.cell hpk, hlp]; simp [mix]
            have hfz := hiq.row.frozen p
            have hpi : (p : Int) < (k : Int) + 1 := by omega
            have HD := Lib.hid (Tryz.div32_at X r p hr hr2 (n := n) hiq.rest hlp hdq hdr)
            have HN : Hid (∀ q, IQ r X g W3 (k + 1) ds (.slice oa ds.length oc) p dr ((wr.drewN q).setCell ⟨g, p, none⟩ (.int .u32 (dq : Nat)))) := Lib.hid fun q => hiq.next hdq hdr q
            clear hlp hdq hdr
            go_wp2_with (go_at_call 36; (with_reducible refine (HD.out _).mono ?_))
            rintro e w' ⟨rfl, q, rfl⟩
            have hcell2 : (wr.drewN q).cell? ⟨g, p, none⟩ = some (.int .u32 (lp : Nat)) := hcell
            have hfz2 : (wr.drewN q).frozen? ⟨g, p, none⟩ = false := hfz
            go_wp2
            cases p with
            | zero =>
              go_roundw
              case rel => exact ⟨0, dr, rfl, .inl ⟨rfl, rfl⟩, HN.out q⟩
              case measure => simp
            | succ p =>
              go_roundw
              case rel => exact ⟨p + 1, dr, rfl, .inr ⟨p, rfl, by go_num⟩, HN.out q⟩
              case measure => simp; omega
set_option maxRecDepth 100000 in
set_option maxHeartbeats 4000000 in
/-- Text of an integer that is too long. -/
theorem Tryz.textBig (v : Value) (x m : Nat) (r : Int) (w : World) (hm : m ≤ 70368744177664) (hv : Hid (LimV w v x m)) (hsz : Hid (∀ m', Tight x m' → 4096 < sz x m')) :
    Calls Tryz.prog 20 #[.agg #[.bool false, v], .int .i64 r] w fun e w' => e = .returned (.tuple #[.string ⟨#[]⟩, .int .i64 10]) ∧ Below w.heap.size w w' := by
  obtain ⟨a, c, rfl⟩ := hv.out.slice
  go_enter Tryz.func20, Tryz.ntmps20
  go_wp2_with fail
  generalize hW1 : (w.alloc _).alloc _ = W1
  have C2 : W1.cell? ⟨w.heap.size + 1, 0, none⟩ = some (.bool false) := by subst hW1; go_simp
  have C3 : W1.cell? ⟨w.heap.size + 1, 1, none⟩ = some (.slice a m c) := by subst hW1; go_simp
  have bl : Below w.heap.size w W1 := by subst hW1; exact ((Below.refl _ _).alloc (Nat.le_refl _) _).alloc (by simp) _
  have hv1 := Lib.hid (hv.out.below bl)
  have HB := Lib.hid bl
  clear hW1
  go_wp2_with (go_at_call 33; (with_reducible refine (Tryz.long (w.heap.size + 1) false (.slice a m c) x m _ hm hv1 C2 C3).mono ?_))
  rintro e W2 ⟨m1, ht1, rfl, bl2⟩
  have hd : decide ((4096 : Int) < (sz x m1 : Nat)) = true := decide_eq_true (by have := hsz.out m1 ht1; omega)
  rw [hd]
  clear hd
  have HB2 := Lib.hid (bl.trans (bl2.mono bl.size))
  clear bl bl2 C2 C3
  go_wp2
  go_ret2
  exact ⟨rfl, HB2.out⟩
end Go.Proofs
