/- The walk of hornbeamlaw03.quote. -/
import Derived.Test.YteegpmimbbgdlaaGreatDoorQtOdd
import Derived.Laws.AppendOwn
import Derived.Laws.OwnMore
import Derived.Lib.UnsafeStr
import Derived.Laws.BytesArg
namespace Go.Proofs
open Go.RowKit Go.Hb
theorem Tryz.infoU8 : (Tryz.prog.info? 5).map (fun i => (i.zero, i.size, i.bytes)) = some (some (.int .u8 0), 1, 1) := by kernel_rfl
def QuoteSays (s : ByteArray) (w : World) (e : Ending) (w' : World) : Prop := ∃ t : ByteArray, e = .returned (.string t) ∧ t.data.toList = quote s.data.toList ∧ Below w.heap.size w w'
def qAt (s : ByteArray) (B : Nat) (w : World) (v : Value) (k : Nat) (wr : World) : Prop :=
  wr.ownsRow B 5 1 v (1 + (qb (s.data.toList.take k)).length) (Lib.byteCells (39 :: qb (s.data.toList.take k))) ∧ Below B w wr ∧ B ≤ wr.heap.size
theorem take_snoc (s : ByteArray) (k : Nat) (h : k < s.size) : s.data.toList.take (k + 1) = s.data.toList.take k ++ [s[k]] := by
  rw [List.take_succ_eq_append_getElem (by simpa using h)]; rfl
theorem q_next {s : ByteArray} {B k m : Nat} {w2 : World} {v' : Value} {news : List Value} (h : k < s.size) (hm : m = (qc s[k]).length) (hn : news = Lib.byteCells (qc s[k]))
    (hown : w2.ownsRow B 5 1 v' (1 + (qb (s.data.toList.take k)).length + m) (Lib.byteCells (39 :: qb (s.data.toList.take k)) ++ news)) :
    w2.ownsRow B 5 1 v' (1 + (qb (s.data.toList.take (k + 1))).length) (Lib.byteCells (39 :: qb (s.data.toList.take (k + 1)))) := by
  have e : qb (s.data.toList.take (k + 1)) = qb (s.data.toList.take k) ++ qc s[k] := by rw [take_snoc s k h, qb_app, qb_cons, qb_nil, List.append_nil]
  subst hm hn
  rw [e, List.length_append, ← Nat.add_assoc]
  have e2 : Lib.byteCells (39 :: (qb (s.data.toList.take k) ++ qc s[k])) = Lib.byteCells (39 :: qb (s.data.toList.take k)) ++ Lib.byteCells (qc s[k]) := by simp [Lib.byteCells]
  rw [e2]
  exact hown
theorem q_len (s : ByteArray) (k : Nat) (hs : s.size ≤ 1000) : (qb (s.data.toList.take k)).length ≤ 2000 := by
  have h1 := (qb_len (s.data.toList.take k)).2
  have h2 : (s.data.toList.take k).length ≤ s.size := by simp; omega
  omega
theorem u8_eq {c : UInt8} {n : Nat} (hn : n < 256) (h : c.toNat = n) : c = n.toUInt8 := by
  apply UInt8.toNat_inj.1; rw [h, toU n hn]
theorem qc_39 {c : UInt8} (h : c.toNat = 39) : qc c = [39, 39] := by have := u8_eq (n := 39) (by omega) h; subst this; rfl
theorem qc_92 {c : UInt8} (h : c.toNat = 92) : qc c = [92, 92] := by have := u8_eq (n := 92) (by omega) h; subst this; rfl
theorem qc_10 {c : UInt8} (h : c.toNat = 10) : qc c = [92, 110] := by have := u8_eq (n := 10) (by omega) h; subst this; rfl
theorem qc_else {c : UInt8} (h1 : ¬ c.toNat = 39) (h2 : ¬ c.toNat = 92) (h3 : ¬ c.toNat = 10) : qc c = [c] :=
  qc_self (u8_ne (n := 39) (by omega) h1) (u8_ne (n := 92) (by omega) h2) (u8_ne (n := 10) (by omega) h3)
/-- What lies in a row of the call's own, as a text. -/
theorem q_text {w2 : World} {B n : Nat} {v' : Value} {l : List UInt8} (hown : w2.ownsRow B 5 1 v' (n + 1) (Lib.byteCells l)) :
    ∃ (t : ByteArray) (g cap : Nat), v' = .slice (some ⟨g, 0, none⟩) (n + 1) cap ∧ t.data.toList = l ∧ (convert 48 9 v').run Tryz.prog w2 = .ok (.string t) w2 := by
  rcases hown.2 with ⟨_, h0⟩ | ⟨g, cap, cur, hv, hb, hg, hnc, hcm, hcs, htake⟩
  · omega
  · have hl : l.length = n + 1 := by have := hown.1; rw [Lib.byteCells_length] at this; omega
    refine ⟨⟨l.toArray⟩, g, cap, hv, rfl, ?_⟩
    subst hv
    have hc : ∀ i, i < n + 1 → w2.cell? ⟨g, 0 + i, none⟩ = some (.int .u8 ((l.map fun x => (x.toNat : Int)).getD i 0)) := by
      intro i hi
      have h1 := World.ownsRow.cellAt hown i (by omega)
      rw [Nat.zero_add, h1]
      have hi2 : i < l.length := by omega
      simp [Lib.byteCells, List.getD, List.getElem?_map, List.getElem?_eq_getElem hi2]
    rw [run_convert_bytes_arg w2 48 5 Tryz.underlying48 Tryz.underlying5 g 0 (n + 1) cap (l.map fun x => (x.toNat : Int)) (by simp [hl]) hc 9 Tryz.underlying9]
    congr 2
    apply ByteArray.ext
    apply Array.toList_inj.1
    rw [strOfNums_data, List.map_map]
    show _ = l
    conv => rhs; rw [← List.map_id l]
    apply List.map_congr_left
    intro x _
    simp
set_option maxRecDepth 100000 in
set_option maxHeartbeats 4000000 in
theorem Tryz.quote (s : ByteArray) (w : World) (hs : s.size ≤ 1000) :
    Calls Tryz.prog 19 #[.string s] w (QuoteSays s w) := by
  obtain ⟨i0, hi, hz0, hz1, hz2⟩ := info_parts Tryz.infoU8
  go_enter Tryz.func19, Tryz.ntmps19
  go_wp2
  go_loopw [3, 4] (fun v i wr => ∃ k : Nat, k ≤ s.size ∧ i = .int .i64 k ∧ qAt s w.heap.size w v k wr) (fun _ i _ => s.size - (intOf i).toNat)
  case atStart =>
    refine ⟨0, by omega, rfl, ?_, (Below.refl _ _).alloc (Nat.le_refl _) _, by simp⟩
    exact World.ownsRow_lit w #[.int .u8 39] 1 (Nat.le_refl _) (by unfold maxLen; omega) rfl
  case round =>
    obtain ⟨k, hk, rfl, hown, hbw, hsz⟩ := hrel
    have hq := q_len s k hs
    by_cases hlt : k < s.size
    · by_cases t1 : s[k].toNat = 39
      · have T1 : ((s[k].toNat : Int) == 39) = true := by rw [t1]; rfl
        have Q := Lib.hid (qc_39 t1)
        clear t1
        go_wp2_with (at_builtin; refine wpList_append_own _ rfl _ _ 48 rfl w.heap.size 5 i0 (.int .u8 0) 1 1 Tryz.underlying48 hi hz0 hz1 hz2 rfl (by decide) _ _ _ rfl (hown.alloc _) ⟨wr.heap.size, 0, none⟩ 2 2 [.int .u8 39, .int .u8 39] rfl rfl ?c1 ?c2 ?c3 ?c4 ?c5 ?_)
        case c1 =>
          intro j u hj
          match j, hj with
          | 0, hj => simp at hj; subst hj; simp [Addr.add]
          | 1, hj => simp at hj; subst hj; simp [Addr.add]
        case c2 => intro u hu; simp at hu; first | (subst hu; rfl) | (rcases hu with rfl | rfl <;> rfl)
        case c3 => unfold maxLen; omega
        case c4 => omega
        case c5 => simp; omega
        intro v' w2 hown' hgrow _
        have hn := q_next hlt (by rw [Q.out]; rfl) (by rw [Q.out]; rfl) hown'
        have hb2 := (hbw.alloc (o := .cells #[.int .u8 39, .int .u8 39] 5) hsz).grown hgrow (by simp; omega) (fun k hk => (hown.lt k hk).1)
        go_wp2
        go_roundw
        case rel => exact ⟨k + 1, by omega, by go_num, hn, hb2, by have := hb2.size; omega⟩
        case measure => simp [intOf]; omega
      by_cases t2 : s[k].toNat = 92
      · have T1 : ((s[k].toNat : Int) == 39) = false := by rw [Bool.eq_false_iff]; intro h; have := eq_of_beq h; omega
        have T2 : ((s[k].toNat : Int) == 92) = true := by rw [t2]; rfl
        have Q := Lib.hid (qc_92 t2)
        clear t1 t2
        go_wp2_with (at_builtin; refine wpList_append_own _ rfl _ _ 48 rfl w.heap.size 5 i0 (.int .u8 0) 1 1 Tryz.underlying48 hi hz0 hz1 hz2 rfl (by decide) _ _ _ rfl (hown.alloc _) ⟨wr.heap.size, 0, none⟩ 2 2 [.int .u8 92, .int .u8 92] rfl rfl ?c1 ?c2 ?c3 ?c4 ?c5 ?_)
        case c1 =>
          intro j u hj
          match j, hj with
          | 0, hj => simp at hj; subst hj; simp [Addr.add]
          | 1, hj => simp at hj; subst hj; simp [Addr.add]
        case c2 => intro u hu; simp at hu; first | (subst hu; rfl) | (rcases hu with rfl | rfl <;> rfl)
        case c3 => unfold maxLen; omega
        case c4 => omega
        case c5 => simp; omega
        intro v' w2 hown' hgrow _
        have hn := q_next hlt (by rw [Q.out]; rfl) (by rw [Q.out]; rfl) hown'
        have hb2 := (hbw.alloc (o := .cells #[.int .u8 92, .int .u8 92] 5) hsz).grown hgrow (by simp; omega) (fun k hk => (hown.lt k hk).1)
        go_wp2
        go_roundw
        case rel => exact ⟨k + 1, by omega, by go_num, hn, hb2, by have := hb2.size; omega⟩
        case measure => simp [intOf]; omega
      by_cases t3 : s[k].toNat = 10
      · have T1 : ((s[k].toNat : Int) == 39) = false := by rw [Bool.eq_false_iff]; intro h; have := eq_of_beq h; omega
        have T2 : ((s[k].toNat : Int) == 92) = false := by rw [Bool.eq_false_iff]; intro h; have := eq_of_beq h; omega
        have T3 : ((s[k].toNat : Int) == 10) = true := by rw [t3]; rfl
        have Q := Lib.hid (qc_10 t3)
        clear t1 t2 t3
        go_wp2_with (at_builtin; refine wpList_append_own _ rfl _ _ 48 rfl w.heap.size 5 i0 (.int .u8 0) 1 1 Tryz.underlying48 hi hz0 hz1 hz2 rfl (by decide) _ _ _ rfl (hown.alloc _) ⟨wr.heap.size, 0, none⟩ 2 2 [.int .u8 92, .int .u8 110] rfl rfl ?c1 ?c2 ?c3 ?c4 ?c5 ?_)
        case c1 =>
          intro j u hj
          match j, hj with
          | 0, hj => simp at hj; subst hj; simp [Addr.add]
          | 1, hj => simp at hj; subst hj; simp [Addr.add]
        case c2 => intro u hu; simp at hu; first | (subst hu; rfl) | (rcases hu with rfl | rfl <;> rfl)
        case c3 => unfold maxLen; omega
        case c4 => omega
        case c5 => simp; omega
        intro v' w2 hown' hgrow _
        have hn := q_next hlt (by rw [Q.out]; rfl) (by rw [Q.out]; rfl) hown'
        have hb2 := (hbw.alloc (o := .cells #[.int .u8 92, .int .u8 110] 5) hsz).grown hgrow (by simp; omega) (fun k hk => (hown.lt k hk).1)
        go_wp2
        go_roundw
        case rel => exact ⟨k + 1, by omega, by go_num, hn, hb2, by have := hb2.size; omega⟩
        case measure => simp [intOf]; omega
      · have T1 : ((s[k].toNat : Int) == 39) = false := by rw [Bool.eq_false_iff]; intro h; have := eq_of_beq h; omega
        have T2 : ((s[k].toNat : Int) == 92) = false := by rw [Bool.eq_false_iff]; intro h; have := eq_of_beq h; omega
        have T3 : ((s[k].toNat : Int) == 10) = false := by rw [Bool.eq_false_iff]; intro h; have := eq_of_beq h; omega
        have Q := Lib.hid (qc_else t1 t2 t3)
        clear t1 t2 t3
        go_wp2_with (at_builtin; refine wpList_append_own _ rfl _ _ 48 rfl w.heap.size 5 i0 (.int .u8 0) 1 1 Tryz.underlying48 hi hz0 hz1 hz2 rfl (by decide) _ _ _ rfl (hown.alloc _) ⟨wr.heap.size, 0, none⟩ 1 1 [.int .u8 (s[k].toNat : Int)] rfl rfl ?c1 ?c2 ?c3 ?c4 ?c5 ?_)
        case c1 =>
          intro j u hj
          match j, hj with
          | 0, hj => simp at hj; subst hj; simp [Addr.add]
        case c2 => intro u hu; simp at hu; first | (subst hu; rfl) | (rcases hu with rfl | rfl <;> rfl)
        case c3 => unfold maxLen; omega
        case c4 => omega
        case c5 => simp; omega
        intro v' w2 hown' hgrow _
        have hn := q_next hlt (by rw [Q.out]; rfl) (by rw [Q.out]; rfl) hown'
        have hb2 := (hbw.alloc (o := .cells #[.int .u8 (s[k].toNat : Int)] 5) hsz).grown hgrow (by simp; omega) (fun k hk => (hown.lt k hk).1)
        go_wp2
        go_roundw
        case rel => exact ⟨k + 1, by omega, by go_num, hn, hb2, by have := hb2.size; omega⟩
        case measure => simp [intOf]; omega
    · obtain rfl : k = s.size := by omega
      have e0 : s.data.toList.take s.size = s.data.toList := List.take_of_length_le (by simp)
      rw [e0] at hown hq
      clear e0
      go_wp2_with (at_builtin; refine wpList_append_own _ rfl _ _ 48 rfl w.heap.size 5 i0 (.int .u8 0) 1 1 Tryz.underlying48 hi hz0 hz1 hz2 rfl (by decide) _ _ _ rfl (hown.alloc _) ⟨wr.heap.size, 0, none⟩ 1 1 [.int .u8 39] rfl rfl ?c1 ?c2 ?c3 ?c4 ?c5 ?_)
      case c1 =>
        intro j u hj
        match j, hj with
        | 0, hj => simp at hj; subst hj; simp [Addr.add]
      case c2 => intro u hu; simp at hu; first | (subst hu; rfl) | (rcases hu with rfl | rfl <;> rfl)
      case c3 => unfold maxLen; omega
      case c4 => omega
      case c5 => simp; omega
      intro v' w2 hown' hgrow _
      have hb2 := (hbw.alloc (o := .cells #[.int .u8 39] 5) hsz).grown hgrow (by simp; omega) (fun k hk => (hown.lt k hk).1)
      have hown2 : w2.ownsRow w.heap.size 5 1 v' (1 + (qb s.data.toList).length + 1) (Lib.byteCells (39 :: (qb s.data.toList ++ [39]))) := by
        have e2 : Lib.byteCells (39 :: (qb s.data.toList ++ [39])) = Lib.byteCells (39 :: qb s.data.toList) ++ [.int .u8 39] := by simp [Lib.byteCells]
        rw [e2]
        exact hown'
      obtain ⟨t, g, cap, rfl, hl, hconv⟩ := q_text hown2
      go_wp2
      go_ret
      exact ⟨t, rfl, hl, hb2⟩
end Go.Proofs
