/- The walk of lexer.scan.quoted at a text that 'quote' has made. -/
import Derived.Test.YteegpmimbbgdlaaGreatDoorQtSmall
import Derived.StillTailTactics
import Derived.IntWalk
namespace Go.Proofs
open Go.RowKit Go.Hb
def emptyTok (k : Int) : Array Value := #[.int .i64 k, .string ⟨#[]⟩, .string ⟨#[]⟩, .int .u64 0, .int .i64 0, .int .i64 0, .bool false]
def QuotedSays (name : List UInt8) (s : ByteArray) (w : World) (e : Ending) (w' : World) : Prop :=
  e = .returned (.tuple #[.agg #[.int .i64 2, .string ⟨name.toArray⟩, .string ⟨#[]⟩, .int .u64 0, .int .i64 0, .int .i64 s.size, .bool false], .int .i64 0, .int .i64 0]) ∧ Below w.heap.size w w'
/-- What stands at the head of a round, beside the place. -/
structure QR (t : ByteArray) (B : Nat) (W3 : World) (acc : List UInt8) (pos : Nat) (wr : World) : Prop where
  bld : Lib.IsBuilderF 95 5 (B + 1 + 1) (B + 1 + 1) (Lib.byteCells acc) wr
  it : wr.heap[B + 3]? = some (.stringIter t pos)
  bel : Below (B + 1 + 1) W3 wr
/-- Behind 'next'. -/
theorem QR.next {t : ByteArray} {B : Nat} {W3 : World} {acc : List UInt8} {pos : Nat} {wr : World} (h : QR t B W3 acc pos wr) (hp : pos < t.size) (n c : Nat) (hd : Utf8.decode t pos = (c, n)) :
    ∃ wn, (∀ ty, (Instr.next (.pointer (some ⟨B + 3, 0, none⟩)) true ty).run Tryz.prog wr = .ok (.tuple #[.bool true, .int .i64 pos, .int .i32 c]) wn) ∧ QR t B W3 acc (pos + n) wn := by
  refine ⟨_, fun ty => ?_, h.bld.iterAt h.it (pos + n), Lib.iterAt_heap wr (B + 3) t pos _ h.it, Lib.below_iterAt h.bel (k := B + 3) (by omega) t _⟩
  have := Lib.run_next_any_at (P := Tryz.prog) wr (B + 3) t pos ty h.it hp
  rw [hd] at this
  exact this
/-- Behind a writer. -/
theorem QR.write {t : ByteArray} {B : Nat} {W3 : World} {acc x : List UInt8} {cells : List Value} (hx : Lib.byteCells x = cells) {pos n : Nat} {wn W1 : World} (h : QR t B W3 acc pos wn)
    (b0 : Lib.BuilderAtF 95 5 (B + 1 + 1) (B + 1 + 1) (.pointer (some ⟨B + 1 + 1, 0, none⟩)) (Lib.byteCells acc ++ cells) W1) (b1 : Below (B + 1 + 1) (wn.drewN n) W1) (b2 : Lib.OthersKept 5 (some (B + 1 + 1)) (wn.drewN n) W1) : QR t B W3 (acc ++ x) pos W1 := by
  subst hx
  refine ⟨.inr ?_, ?_, h.bel.trans (⟨b1.os, b1.tape, b1.output, b1.size, b1.block⟩ : Below _ wn W1)⟩
  · rw [Lib.byteCells_append]; exact b0
  · exact b2.iter (show (wn.drewN n).heap[B + 3]? = _ from h.it) (by omega)
theorem tail_get {s t : ByteArray} (hc : s.data.toList = 39 :: t.data.toList) (k : Nat) (h : k + 1 < s.size) (h' : k < t.size) : s[k + 1] = t[k] := by
  have h1 : s.data.toList[k + 1]'(by simpa using h) = t.data.toList[k]'(by simpa using h') := by simp [hc]
  exact (by simpa using h1 : s.data[k + 1] = t.data[k])
theorem Tryz.esc92 (s : ByteArray) (p : Nat) (h : p + 1 + 1 < s.size) (hs : s.size ≤ 5000) (hc : Hid ((s[p + 1 + 1].toNat : Int) = 92)) (w : World) :
    Calls Tryz.prog 78 #[.string s, .int .i64 ((p : Int) + 1 + 1)] w fun e w' => e = .returned (.tuple #[.int .i32 92, .int .i64 ((p : Int) + 1 + 1 + 1), .bool true]) ∧ w = w' :=
  (Tryz.escape92 s (p + 1 + 1) h hs hc w).mono fun _ _ ⟨h1, h2⟩ => ⟨h1, h2.symm⟩
theorem Tryz.esc110 (s : ByteArray) (p : Nat) (h : p + 1 + 1 < s.size) (hs : s.size ≤ 5000) (hc : Hid ((s[p + 1 + 1].toNat : Int) = 110)) (w : World) :
    Calls Tryz.prog 78 #[.string s, .int .i64 ((p : Int) + 1 + 1)] w fun e w' => e = .returned (.tuple #[.int .i32 10, .int .i64 ((p : Int) + 1 + 1 + 1), .bool true]) ∧ w = w' :=
  (Tryz.escape110 s (p + 1 + 1) h hs hc w).mono fun _ _ ⟨h1, h2⟩ => ⟨h1, h2.symm⟩
theorem iterPos_at {w : World} {k : Nat} {s : ByteArray} {pos : Nat} (h : w.heap[k]? = some (.stringIter s pos)) : w.iterPos k = pos := by simp [World.iterPos, h]
theorem enc65533 : Lib.encodeRune 65533 = [239, 191, 189] := by decide
theorem odd3' {W : World} {u : ByteArray} (hu : Hid (u = ⟨#[239, 191, 189]⟩)) (h : Laid0 W) : Calls Tryz.prog 44 #[.string u] W fun e W' => e = .returned (.int .i64 (-1)) ∧ Below W.heap.size W W' := by
  obtain rfl := hu.out
  exact odd3 h
/-- Behind a call that turns nothing that was there. -/
theorem QR.call {t : ByteArray} {B : Nat} {W3 : World} {acc : List UInt8} {pos : Nat} {wn W1 : World} (h : QR t B W3 acc pos wn) (hb : Below wn.drew.heap.size wn.drew W1) : QR t B W3 acc pos W1 := by
  have hb' : Below wn.heap.size wn W1 := ⟨hb.os, hb.tape, hb.output, hb.size, hb.block⟩
  have hlt : B + 3 < wn.heap.size := (Array.getElem?_eq_some_iff.1 h.it).1
  exact ⟨isB_below h.bld hb', (hb'.block _ hlt).trans h.it, h.bel.trans (hb'.mono (by omega))⟩
theorem Tryz.runeLen_at (v : Int) (n : Nat) (h : Hid (Lib.runeLen v = n)) (w : World) : Calls Tryz.prog 75 #[.int .i32 v] w fun e w' => e = .returned (.int .i64 n) ∧ w = w' := by
  have := Tryz.utf8_RuneLen v w
  rw [h.out] at this
  exact this.mono fun _ _ ⟨h1, h2⟩ => ⟨h1, h2.symm⟩
set_option maxRecDepth 100000 in
set_option maxHeartbeats 20000000 in
theorem Tryz.quoted (b : Nat) (s t : ByteArray) (name : List UInt8) (w : World) (hb : b < w.heap.size) (hs : s.size ≤ 5000) (ht : s.extract 1 s.size = t) (hc : s.data.toList = 39 :: t.data.toList) (htl : t.data.toList = qb name ++ [39]) (hch : Chars name) (hnl : name.length ≤ 1000) (hL : Laid0 w)
    (c0 : w.cell? ⟨b, 0, none⟩ = some (.string s)) (c1 : w.cell? ⟨b, 1, none⟩ = some (.int .i64 0)) :
    Calls Tryz.prog 47 #[.pointer (some ⟨b, 0, none⟩), .int .u8 39] w (QuotedSays name s w) := by
  have k1 : b < w.heap.size + 1 := by omega
  have k2 : b < w.heap.size + 1 + 1 := by omega
  have k3 : b < w.heap.size + 1 + 1 + 1 := by omega
  have hst : s.size = t.size + 1 := by
    have h1 : s.data.toList.length = s.size := by simp
    have h2 : t.data.toList.length = t.size := by simp
    rw [hc, List.length_cons] at h1; omega
  have HT := Lib.hid ht
  have HC := Lib.hid hc
  have HTL := Lib.hid htl
  have HST := Lib.hid hst
  have hl2 : 1 ≤ s.size := by omega
  clear ht hc htl hst
  go_enter Tryz.func47, Tryz.ntmps47
  go_wp2
  generalize hW3 : ((w.alloc _).alloc _).alloc _ = W3
  have C0 : W3.cell? ⟨b, 0, none⟩ = some (.string s) := by subst hW3; go_simp
  have C1 : W3.cell? ⟨b, 1, none⟩ = some (.int .i64 0) := by subst hW3; go_simp
  have sz : W3.heap.size = w.heap.size + 3 := by subst hW3; simp
  have bl : Below w.heap.size w W3 := by subst hW3; exact (((Below.refl _ _).alloc (Nat.le_refl _) _).alloc (by simp) _).alloc (by simp; omega) _
  have tok0 : W3.heap[w.heap.size]? = some (.cells (emptyTok 0) 25 (0, 0)) := by
    subst hW3
    rw [Lib.alloc_old _ _ _ (by simp; omega), Lib.alloc_old _ _ _ (by simp)]
    exact heap_alloc_new w _
  have tok1 : W3.heap[w.heap.size + 1]? = some (.cells (emptyTok 2) 25 (0, 0)) := by
    subst hW3
    rw [Lib.alloc_old _ _ _ (by simp)]
    have := heap_alloc_new (w.alloc (.cells (emptyTok 0) 25)) (.cells (emptyTok 2) 25)
    rw [show (w.alloc (.cells (emptyTok 0) 25)).heap.size = w.heap.size + 1 by simp] at this
    exact this
  have bld : Lib.IsBuilderF 95 5 (w.heap.size + 1 + 1) (w.heap.size + 1 + 1) (Lib.byteCells []) W3 := by
    subst hW3
    have := Lib.IsBuilderF.of (Lib.fresh_isBuilder 95 5 ((w.alloc (.cells (emptyTok 0) 25)).alloc (.cells (emptyTok 2) 25)))
    rw [show ((w.alloc (.cells (emptyTok 0) 25)).alloc (.cells (emptyTok 2) 25)).heap.size = w.heap.size + 1 + 1 by simp] at this
    exact this
  have HW := Lib.hid hW3
  clear hW3 c0 c1
  have hw : IntKind.i64.wrap 1 = 1 := rfl
  have hl : (1 : Int) ≤ (s.size : Int) := by omega
  refine wp_region_still_tail 10 (by kernel_rfl) (by kernel_rfl) ?_
  simp only [List.take_succ_cons, List.take_zero, List.drop_succ_cons, List.drop_zero]
  change wpStill _ _ W3.drew _ _ _
  repeat still_step
  clear hw
  refine wpStill_nil ?_
  change wpList _ _ _ _ _ W3.drew
  have ht := HT.out
  rw [ht]
  clear ht
  have SZ := Lib.hid sz
  go_wp2
  clear sz
  go_loopw [9] (fun skip wr => ∃ (k pos : Nat) (acc rest : List UInt8), skip = .int .i64 k ∧ ((AtA name t acc pos rest ∧ k = pos + 1) ∨ (AtB name t acc pos rest ∧ k = pos + 2)) ∧ QR t w.heap.size W3 acc pos wr) (fun _ wr => t.size - wr.iterPos (w.heap.size + 3))
  case atStart =>
    have hi : (W3.drew.iter t 0).heap[w.heap.size + 3]? = some (.stringIter t 0) := by
      have := World.iter_heap W3.drew t 0
      rw [← SZ.out]
      simpa using this
    exact ⟨1, 0, [], name, rfl, .inl ⟨⟨hch, rfl, by rw [HTL.out]; rfl⟩, rfl⟩, bld.alloc _, hi, ((Below.refl (w.heap.size + 1 + 1) W3).drew).alloc (by have := SZ.out; show w.heap.size + 1 + 1 ≤ W3.heap.size; omega) _⟩
  case round =>
    obtain ⟨k, pos, acc, rest, rfl, hAB, hq⟩ := hrel
    have HS := HST.out
    rcases hAB with ⟨hA, rfl⟩ | ⟨hB, rfl⟩
    · rcases chars_cases hA.1 with rfl | ⟨v, l, hv, hl, rfl⟩
      · obtain ⟨hacc, hd, hsz⟩ := hA.end
        obtain ⟨wn, hnx, hq2⟩ := hq.next (by omega) 1 39 hd
        have cn0 : wn.cell? ⟨b, 0, none⟩ = some (.string s) := (hq2.bel.cell (p := ⟨b, 0, none⟩) k2).trans C0
        have cn1 : wn.cell? ⟨b, 1, none⟩ = some (.int .i64 0) := (hq2.bel.cell (p := ⟨b, 1, none⟩) k2).trans C1
        have RL : Hid (Lib.runeLen 39 = (1 : Nat)) := Lib.hid rfl
        obtain rfl := hacc
        have TS := Lib.hid (show s.size = pos + 2 by omega)
        have hp5 : pos ≤ 5000 := by omega
        have hle : (s.size : Int) ≤ (pos : Int) + 1 + 1 := by omega
        clear HS hd hsz
        go_wp2_with (go_at_call 75; refine (Tryz.runeLen_at _ 1 RL _).mono ?_; rintro e w' ⟨rfl, rfl⟩)
        have HB : Hid (∀ n, Lib.IsBuilderF 95 5 (w.heap.size + 1 + 1) (w.heap.size + 1 + 1) (Lib.byteCells acc) (wn.drewN n)) := Lib.hid fun _ => hq2.bld
        have HN : Hid (∀ n, w.heap.size + 1 + 1 ≤ (wn.drewN n).heap.size) := Lib.hid fun n => by have := hq2.bel.size; have := SZ.out; show w.heap.size + 1 + 1 ≤ wn.heap.size; omega
        go_quiet (fail)
        go_wp2_with (go_at_call 77; refine (Tryz.Builder_String_any_k (w.heap.size + 1 + 1) (w.heap.size + 1 + 1) acc _ (HB.out _) (HN.out _)).mono ?_)
        rintro e W1 rfl b0 b1 b2
        have bt : Below (w.heap.size + 1 + 1) W3 W1 := hq2.bel.trans (⟨b1.os, b1.tape, b1.output, b1.size, b1.block⟩ : Below _ wn W1)
        have T0 := (bt.block w.heap.size (by omega)).trans tok0
        have T1 := (bt.block (w.heap.size + 1) (by omega)).trans tok1
        have x00 : W1.cell? ⟨w.heap.size, 0, none⟩ = some (.int .i64 0) := by rw [Lib.cell_of_heap T0]; rfl
        have y00 : W1.frozen? ⟨w.heap.size, 0, none⟩ = false := Lib.frozen_of_heap T0 0
        have x01 : W1.cell? ⟨w.heap.size, 1, none⟩ = some (.string ⟨#[]⟩) := by rw [Lib.cell_of_heap T0]; rfl
        have y01 : W1.frozen? ⟨w.heap.size, 1, none⟩ = false := Lib.frozen_of_heap T0 1
        have x02 : W1.cell? ⟨w.heap.size, 2, none⟩ = some (.string ⟨#[]⟩) := by rw [Lib.cell_of_heap T0]; rfl
        have y02 : W1.frozen? ⟨w.heap.size, 2, none⟩ = false := Lib.frozen_of_heap T0 2
        have x03 : W1.cell? ⟨w.heap.size, 3, none⟩ = some (.int .u64 0) := by rw [Lib.cell_of_heap T0]; rfl
        have y03 : W1.frozen? ⟨w.heap.size, 3, none⟩ = false := Lib.frozen_of_heap T0 3
        have x04 : W1.cell? ⟨w.heap.size, 4, none⟩ = some (.int .i64 0) := by rw [Lib.cell_of_heap T0]; rfl
        have y04 : W1.frozen? ⟨w.heap.size, 4, none⟩ = false := Lib.frozen_of_heap T0 4
        have x05 : W1.cell? ⟨w.heap.size, 5, none⟩ = some (.int .i64 0) := by rw [Lib.cell_of_heap T0]; rfl
        have y05 : W1.frozen? ⟨w.heap.size, 5, none⟩ = false := Lib.frozen_of_heap T0 5
        have x06 : W1.cell? ⟨w.heap.size, 6, none⟩ = some (.bool false) := by rw [Lib.cell_of_heap T0]; rfl
        have y06 : W1.frozen? ⟨w.heap.size, 6, none⟩ = false := Lib.frozen_of_heap T0 6
        have x10 : W1.cell? ⟨w.heap.size + 1, 0, none⟩ = some (.int .i64 2) := by rw [Lib.cell_of_heap T1]; rfl
        have y10 : W1.frozen? ⟨w.heap.size + 1, 0, none⟩ = false := Lib.frozen_of_heap T1 0
        have x11 : W1.cell? ⟨w.heap.size + 1, 1, none⟩ = some (.string ⟨#[]⟩) := by rw [Lib.cell_of_heap T1]; rfl
        have y11 : W1.frozen? ⟨w.heap.size + 1, 1, none⟩ = false := Lib.frozen_of_heap T1 1
        have x12 : W1.cell? ⟨w.heap.size + 1, 2, none⟩ = some (.string ⟨#[]⟩) := by rw [Lib.cell_of_heap T1]; rfl
        have y12 : W1.frozen? ⟨w.heap.size + 1, 2, none⟩ = false := Lib.frozen_of_heap T1 2
        have x13 : W1.cell? ⟨w.heap.size + 1, 3, none⟩ = some (.int .u64 0) := by rw [Lib.cell_of_heap T1]; rfl
        have y13 : W1.frozen? ⟨w.heap.size + 1, 3, none⟩ = false := Lib.frozen_of_heap T1 3
        have x14 : W1.cell? ⟨w.heap.size + 1, 4, none⟩ = some (.int .i64 0) := by rw [Lib.cell_of_heap T1]; rfl
        have y14 : W1.frozen? ⟨w.heap.size + 1, 4, none⟩ = false := Lib.frozen_of_heap T1 4
        have x15 : W1.cell? ⟨w.heap.size + 1, 5, none⟩ = some (.int .i64 0) := by rw [Lib.cell_of_heap T1]; rfl
        have y15 : W1.frozen? ⟨w.heap.size + 1, 5, none⟩ = false := Lib.frozen_of_heap T1 5
        have x16 : W1.cell? ⟨w.heap.size + 1, 6, none⟩ = some (.bool false) := by rw [Lib.cell_of_heap T1]; rfl
        have y16 : W1.frozen? ⟨w.heap.size + 1, 6, none⟩ = false := Lib.frozen_of_heap T1 6
        have BT := Lib.hid bt
        clear bt b1 b0 b2 T0 T1
        go_wp2_with fail
        refine bodyPost_ret (v := .tuple #[.agg #[.int .i64 2, .string ⟨acc.toArray⟩, .string ⟨#[]⟩, .int .u64 0, .int .i64 0, .int .i64 ((pos : Int) + 1 + 1), .bool false], .int .i64 0, .int .i64 0]) ?_ rfl ⟨?_, ?_⟩
        · simp only [results, Tryz.results47]
          go_simp
        · have e : ((s.size : Nat) : Int) = (pos : Int) + 1 + 1 := by have := TS.out; omega
          rw [e]
        · repeat refine Below.setCell ?_ (by simp) _
          exact bl.trans (BT.out.mono (by omega))
      · by_cases e39 : v = 39
        · subst e39
          obtain ⟨hd, h2, hx, hB⟩ := AtA.pair (c := 39) (a := 39) (b := 39) rfl enc39 (by decide) (by decide) hl hA
          obtain ⟨wn, hnx, hq2⟩ := hq.next (by omega) 1 39 hd
          have cn0 : wn.cell? ⟨b, 0, none⟩ = some (.string s) := (hq2.bel.cell (p := ⟨b, 0, none⟩) k2).trans C0
          have cn1 : wn.cell? ⟨b, 1, none⟩ = some (.int .i64 0) := (hq2.bel.cell (p := ⟨b, 1, none⟩) k2).trans C1
          have RL : Hid (Lib.runeLen 39 = (1 : Nat)) := Lib.hid rfl
          have hp5 : pos ≤ 5000 := by omega
          have hp6 : pos + 1 + 1 < s.size := by omega
          have hp7 : (pos : Int) + 1 + 1 < s.size := by omega
          have hix : ((s[pos + 1 + 1].toNat : Int) == 39) = true := by rw [tail_get HC.out (pos + 1) hp6 (by omega), hx]; rfl
          have HB : Hid (∀ n, Lib.IsBuilderF 95 5 (w.heap.size + 1 + 1) (w.heap.size + 1 + 1) (Lib.byteCells acc) (wn.drewN n)) := Lib.hid fun _ => hq2.bld
          have HN : Hid (∀ n, w.heap.size + 1 + 1 ≤ (wn.drewN n).heap.size) := Lib.hid fun n => by have := hq2.bel.size; have := SZ.out; show w.heap.size + 1 + 1 ≤ wn.heap.size; omega
          have hal : acc.length ≤ 1000 := by have := acc_le hA.2.1; omega
          have i1 := iterPos_at hq.it
          have hpt : pos + 2 < t.size := h2
          have HPT := Lib.hid hpt
          clear HS hd hx h2 hpt
          go_wp2_with (go_at_call 75; refine (Tryz.runeLen_at _ 1 RL _).mono ?_; rintro e w' ⟨rfl, rfl⟩)
          go_quiet (fail)
          go_wp2_with (go_at_call 76; refine (Tryz.WriteByte_k (w.heap.size + 1 + 1) (w.heap.size + 1 + 1) (Lib.byteCells acc) 39 _ (HB.out _) (by rw [Lib.byteCells_length]; omega) (HN.out _)).mono ?_)
          rintro e W1 ⟨rfl, b0, b1, b2⟩
          have hq3 := hq2.write (x := [39]) rfl b0 b1 b2
          clear b0 b1 b2
          go_wp2
          go_roundw
          case rel => exact ⟨pos + 1 + 2, pos + 1, acc ++ [39], l, by go_num, .inr ⟨hB, rfl⟩, hq3⟩
          case measure => rw [iterPos_at hq3.it, i1]; have := HPT.out; omega
        by_cases e92 : v = 92
        · subst e92
          obtain ⟨hd, h2, hx, hB⟩ := AtA.pair (c := 92) (a := 92) (b := 92) rfl enc92 (by decide) (by decide) hl hA
          obtain ⟨wn, hnx, hq2⟩ := hq.next (by omega) 1 92 hd
          have cn0 : wn.cell? ⟨b, 0, none⟩ = some (.string s) := (hq2.bel.cell (p := ⟨b, 0, none⟩) k2).trans C0
          have cn1 : wn.cell? ⟨b, 1, none⟩ = some (.int .i64 0) := (hq2.bel.cell (p := ⟨b, 1, none⟩) k2).trans C1
          have RL : Hid (Lib.runeLen 92 = (1 : Nat)) := Lib.hid rfl
          have hp5 : pos ≤ 5000 := by omega
          have hp6 : pos + 1 + 1 < s.size := by omega
          have hp7 : (pos : Int) + 1 + 1 < s.size := by omega
          have hix : ((s[pos + 1 + 1].toNat : Int) == 10) = false := by rw [tail_get HC.out (pos + 1) hp6 (by omega), hx]; rfl
          have HE : Hid ((s[pos + 1 + 1].toNat : Int) = 92) := Lib.hid (by rw [tail_get HC.out (pos + 1) hp6 (by omega), hx]; rfl)
          have HB : Hid (∀ n, Lib.IsBuilderF 95 5 (w.heap.size + 1 + 1) (w.heap.size + 1 + 1) (Lib.byteCells acc) (wn.drewN n)) := Lib.hid fun _ => hq2.bld
          have HN : Hid (∀ n, w.heap.size + 1 + 1 ≤ (wn.drewN n).heap.size) := Lib.hid fun n => by have := hq2.bel.size; have := SZ.out; show w.heap.size + 1 + 1 ≤ wn.heap.size; omega
          have hal : acc.length ≤ 1000 := by have := acc_le hA.2.1; omega
          have i1 := iterPos_at hq.it
          have hpt : pos + 2 < t.size := h2
          have HPT := Lib.hid hpt
          clear HS hd hx h2 hpt
          go_wp2_with (go_at_call 75; refine (Tryz.runeLen_at _ 1 RL _).mono ?_; rintro e w' ⟨rfl, rfl⟩)
          go_quiet (fail)
          go_wp2_with (first
            | (go_at_call 78; refine (Tryz.esc92 s pos hp6 hs HE _).mono ?_; rintro e w' ⟨rfl, rfl⟩)
            | (go_at_call 79; refine (Tryz.WriteRune_k (w.heap.size + 1 + 1) (w.heap.size + 1 + 1) (Lib.byteCells acc) 92 (by omega) (by omega) _ (HB.out _) (by rw [Lib.byteCells_length]; omega) (HN.out _)).mono ?_))
          rintro e W1 ⟨rfl, b0, b1, b2⟩
          have hq3 := hq2.write (x := [92]) (by rw [← enc92]; exact Lib.byteCells_encodeRune 92) b0 b1 b2
          clear b0 b1 b2
          go_wp2
          go_roundw
          case rel => exact ⟨pos + 1 + 2, pos + 1, acc ++ [92], l, by go_num, .inr ⟨hB, rfl⟩, hq3⟩
          case measure => rw [iterPos_at hq3.it, i1]; have := HPT.out; omega
        by_cases e10 : v = 10
        · subst e10
          obtain ⟨hd, h2, hx, hB⟩ := AtA.pair (c := 10) (a := 92) (b := 110) rfl enc10 (by decide) (by decide) hl hA
          obtain ⟨wn, hnx, hq2⟩ := hq.next (by omega) 1 92 hd
          have cn0 : wn.cell? ⟨b, 0, none⟩ = some (.string s) := (hq2.bel.cell (p := ⟨b, 0, none⟩) k2).trans C0
          have cn1 : wn.cell? ⟨b, 1, none⟩ = some (.int .i64 0) := (hq2.bel.cell (p := ⟨b, 1, none⟩) k2).trans C1
          have RL : Hid (Lib.runeLen 92 = (1 : Nat)) := Lib.hid rfl
          have hp5 : pos ≤ 5000 := by omega
          have hp6 : pos + 1 + 1 < s.size := by omega
          have hp7 : (pos : Int) + 1 + 1 < s.size := by omega
          have hix : ((s[pos + 1 + 1].toNat : Int) == 10) = false := by rw [tail_get HC.out (pos + 1) hp6 (by omega), hx]; rfl
          have HE : Hid ((s[pos + 1 + 1].toNat : Int) = 110) := Lib.hid (by rw [tail_get HC.out (pos + 1) hp6 (by omega), hx]; rfl)
          have HB : Hid (∀ n, Lib.IsBuilderF 95 5 (w.heap.size + 1 + 1) (w.heap.size + 1 + 1) (Lib.byteCells acc) (wn.drewN n)) := Lib.hid fun _ => hq2.bld
          have HN : Hid (∀ n, w.heap.size + 1 + 1 ≤ (wn.drewN n).heap.size) := Lib.hid fun n => by have := hq2.bel.size; have := SZ.out; show w.heap.size + 1 + 1 ≤ wn.heap.size; omega
          have hal : acc.length ≤ 1000 := by have := acc_le hA.2.1; omega
          have i1 := iterPos_at hq.it
          have hpt : pos + 2 < t.size := h2
          have HPT := Lib.hid hpt
          clear HS hd hx h2 hpt
          go_wp2_with (go_at_call 75; refine (Tryz.runeLen_at _ 1 RL _).mono ?_; rintro e w' ⟨rfl, rfl⟩)
          go_quiet (fail)
          go_wp2_with (first
            | (go_at_call 78; refine (Tryz.esc110 s pos hp6 hs HE _).mono ?_; rintro e w' ⟨rfl, rfl⟩)
            | (go_at_call 79; refine (Tryz.WriteRune_k (w.heap.size + 1 + 1) (w.heap.size + 1 + 1) (Lib.byteCells acc) 10 (by omega) (by omega) _ (HB.out _) (by rw [Lib.byteCells_length]; omega) (HN.out _)).mono ?_))
          rintro e W1 ⟨rfl, b0, b1, b2⟩
          have hq3 := hq2.write (x := [10]) (by rw [← enc10]; exact Lib.byteCells_encodeRune 10) b0 b1 b2
          clear b0 b1 b2
          go_wp2
          go_roundw
          case rel => exact ⟨pos + 1 + 2, pos + 1, acc ++ [10], l, by go_num, .inr ⟨hB, rfl⟩, hq3⟩
          case measure => rw [iterPos_at hq3.it, i1]; have := HPT.out; omega
        by_cases e65 : v = 65533
        · subst e65
          obtain ⟨hd, h2, hA2⟩ := hA.other hv e39 e92 e10 hl
          have h3 := hA.replacement
          rw [enc65533] at hd h2
          rw [show Lib.encodeRune 65533 = [239, 191, 189] from enc65533] at hA2
          obtain ⟨wn, hnx, hq2⟩ := hq.next (by omega) 3 65533 hd
          have RL : Hid (Lib.runeLen 65533 = (3 : Nat)) := Lib.hid rfl
          have cn0 : wn.cell? ⟨b, 0, none⟩ = some (.string s) := (hq2.bel.cell (p := ⟨b, 0, none⟩) k2).trans C0
          have cn1 : wn.cell? ⟨b, 1, none⟩ = some (.int .i64 0) := (hq2.bel.cell (p := ⟨b, 1, none⟩) k2).trans C1
          have hp5 : pos ≤ 5000 := by omega
          have HB : Hid (∀ n, Lib.IsBuilderF 95 5 (w.heap.size + 1 + 1) (w.heap.size + 1 + 1) (Lib.byteCells acc) (wn.drewN n)) := Lib.hid fun _ => hq2.bld
          have HN : Hid (∀ n, w.heap.size + 1 + 1 ≤ (wn.drewN n).heap.size) := Lib.hid fun n => by have := hq2.bel.size; have := SZ.out; show w.heap.size + 1 + 1 ≤ wn.heap.size; omega
          have hal : acc.length ≤ 1000 := by have := acc_le hA.2.1; omega
          have i1 := iterPos_at hq.it
          have hex : s.extract (pos + 1) (pos + 1 + 3) = ⟨#[239, 191, 189]⟩ := by
            apply ByteArray.ext
            apply Array.toList_inj.1
            rw [Lib.extract_data, HC.out, List.drop_succ_cons, show pos + 1 + 3 - (pos + 1) = 3 by omega, h3]
          have HX := Lib.hid hex
          have HPT := Lib.hid h2
          clear hex
          have hp6 : pos + 1 + 3 < s.size := by have : pos + 3 < t.size := h2; omega
          have hp7 : (pos : Int) + 1 + 3 < s.size := by omega
          clear HS hd h2 h3
          go_wp2_with (go_at_call 75; refine (Tryz.runeLen_at _ 3 RL _).mono ?_; rintro e w' ⟨rfl, rfl⟩)
          have w1 : IntKind.i64.wrap ((pos : Int) + 1 + 3) = (pos : Int) + 1 + 3 := IntWalk.i64_in _ (by omega)
          have w2 : ((pos : Int) + 1).toNat = pos + 1 := by omega
          have w3 : ((pos : Int) + 1 + 3).toNat = pos + 1 + 3 := by omega
          have w4 : (0 : Int) ≤ (pos : Int) + 1 := by omega
          have w5 : (0 : Int) ≤ (pos : Int) + 1 + 3 := by omega
          have w6 : min (s.size : Int) ((pos : Int) + 1 + 3) = (pos : Int) + 1 + 3 := by omega
          have w7 : (pos : Int) + 1 ≤ (pos : Int) + 1 + 3 := by omega
          have w8 : (pos : Int) + 1 + 3 ≤ (s.size : Int) := by omega
          have w9 : (Instr.slice 9 (.string s) (some (.int .i64 ((pos : Int) + 1))) (some (.int .i64 ((pos : Int) + 1 + 3))) none).run Tryz.prog wn.drew = .ok (.string (s.extract (pos + 1) (pos + 1 + 3))) wn.drew := by
            have := run_slice_string (P := Tryz.prog) (w := wn.drew) 9 s .i64 .i64 ((pos : Int) + 1) ((pos : Int) + 1 + 3) Tryz.underlying9 w4 w7 w8
            rw [w2, w3] at this
            exact this
          clear w2 w3
          refine wp_region_still_tail 17 (by kernel_rfl) (by kernel_rfl) ?_
          simp only [List.take_succ_cons, List.take_zero, List.drop_succ_cons, List.drop_zero]
          change wpStill _ _ wn.drew _ _ _
          repeat still_step
          clear w1 w4 w5 w6 w7 w8 w9
          refine wpStill_nil ?_
          change wpList _ _ _ _ _ wn.drew
          have LD : Laid0 wn.drew := (hL.below (bl.trans (hq2.bel.mono (by omega)))).below (Below.refl _ _).drew
          go_wp2_with (go_at_call 44; (with_reducible refine (odd3' HX LD).mono ?_))
          rintro e W2 ⟨rfl, b3⟩
          have hq5 := hq2.call b3
          have cm0 : W2.cell? ⟨b, 0, none⟩ = some (.string s) := (hq5.bel.cell (p := ⟨b, 0, none⟩) k2).trans C0
          have cm1 : W2.cell? ⟨b, 1, none⟩ = some (.int .i64 0) := (hq5.bel.cell (p := ⟨b, 1, none⟩) k2).trans C1
          have HB2 : Lib.IsBuilderF 95 5 (w.heap.size + 1 + 1) (w.heap.size + 1 + 1) (Lib.byteCells acc) W2 := hq5.bld
          have HN2 : w.heap.size + 1 + 1 ≤ W2.heap.size := by have := hq5.bel.size; have := SZ.out; omega
          clear b3 LD HB HN
          go_wp2_with (go_at_call 79; refine (Tryz.WriteRune_k (w.heap.size + 1 + 1) (w.heap.size + 1 + 1) (Lib.byteCells acc) 65533 (by omega) (by omega) _ HB2 (by rw [Lib.byteCells_length]; omega) HN2).mono ?_)
          rintro e W1 ⟨rfl, b0, b1, b2⟩
          have hq3 := hq5.write (n := 0) (x := [239, 191, 189]) (by rw [← enc65533]; exact Lib.byteCells_encodeRune 65533) b0 b1 b2
          clear b0 b1 b2
          go_wp2
          go_roundw
          case rel => exact ⟨pos + 3 + 1, pos + 3, acc ++ [239, 191, 189], l, by go_num, .inl ⟨hA2, rfl⟩, hq3⟩
          case measure => rw [iterPos_at hq3.it, i1]; have : pos + 3 < t.size := HPT.out; omega
        · obtain ⟨hd, h2, hA2⟩ := hA.other hv e39 e92 e10 hl
          obtain ⟨n, rfl⟩ : ∃ n : Nat, v = (n : Int) := ⟨v.toNat, by have := hv.1; omega⟩
          rw [Int.toNat_natCast] at hd
          have hrl := runeLen_ok hv
          have hel := enc_len n
          have hv2 := hv.2.1
          obtain ⟨m, hm⟩ : ∃ m, m = (Lib.encodeRune n).length := ⟨_, rfl⟩
          rw [← hm] at hd h2 hA2 hrl hel
          clear hm
          obtain ⟨wn, hnx, hq2⟩ := hq.next (by omega) m n hd
          have RL : Hid (Lib.runeLen n = (m : Nat)) := Lib.hid hrl
          have cn0 : wn.cell? ⟨b, 0, none⟩ = some (.string s) := (hq2.bel.cell (p := ⟨b, 0, none⟩) k2).trans C0
          have cn1 : wn.cell? ⟨b, 1, none⟩ = some (.int .i64 0) := (hq2.bel.cell (p := ⟨b, 1, none⟩) k2).trans C1
          have hp5 : pos ≤ 5000 := by omega
          have HB : Hid (∀ n, Lib.IsBuilderF 95 5 (w.heap.size + 1 + 1) (w.heap.size + 1 + 1) (Lib.byteCells acc) (wn.drewN n)) := Lib.hid fun _ => hq2.bld
          have HN : Hid (∀ n, w.heap.size + 1 + 1 ≤ (wn.drewN n).heap.size) := Lib.hid fun n => by have := hq2.bel.size; have := SZ.out; show w.heap.size + 1 + 1 ≤ wn.heap.size; omega
          have hal : acc.length ≤ 1000 := by have := acc_le hA.2.1; omega
          have i1 := iterPos_at hq.it
          have hn : n ≤ 1114111 := by omega
          have hm4 : m ≤ 4 := hel.2
          have hm1 : 1 ≤ m := hel.1
          have f1 : ((n : Int) == 65533) = false := by rw [Bool.eq_false_iff]; intro h; exact e65 (eq_of_beq h)
          have f2 : ((n : Int) == 10) = false := by rw [Bool.eq_false_iff]; intro h; exact e10 (eq_of_beq h)
          have f3 : ((n : Int) == 39) = false := by rw [Bool.eq_false_iff]; intro h; exact e39 (eq_of_beq h)
          have f4 : ((n : Int) == 92) = false := by rw [Bool.eq_false_iff]; intro h; exact e92 (eq_of_beq h)
          have HPT := Lib.hid h2
          clear HS hd h2 hrl hel hv2 e10 e39 e65 e92
          go_wp2_with (go_at_call 75; refine (Tryz.runeLen_at _ m RL _).mono ?_; rintro e w' ⟨rfl, rfl⟩)
          go_quiet (fail)
          go_wp2_with (go_at_call 79; refine (Tryz.WriteRune_k (w.heap.size + 1 + 1) (w.heap.size + 1 + 1) (Lib.byteCells acc) n (by omega) (by omega) _ (HB.out _) (by rw [Lib.byteCells_length]; omega) (HN.out _)).mono ?_)
          rintro e W1 ⟨rfl, b0, b1, b2⟩
          have hq3 := hq2.write (x := Lib.encodeRune n) (Lib.byteCells_encodeRune n) b0 b1 b2
          clear b0 b1 b2
          go_wp2
          go_roundw
          case rel => exact ⟨pos + m + 1, pos + m, acc ++ Lib.encodeRune n, l, by go_num, .inl ⟨hA2, rfl⟩, hq3⟩
          case measure => rw [iterPos_at hq3.it, i1]; have := HPT.out; omega
    · obtain ⟨c, hc, hd, hlt, hA⟩ := hB.step
      obtain ⟨wn, hnx, hq2⟩ := hq.next (by omega) 1 c hd
      have cn0 : wn.cell? ⟨b, 0, none⟩ = some (.string s) := (hq2.bel.cell (p := ⟨b, 0, none⟩) k2).trans C0
      have cn1 : wn.cell? ⟨b, 1, none⟩ = some (.int .i64 0) := (hq2.bel.cell (p := ⟨b, 1, none⟩) k2).trans C1
      have i1 := iterPos_at hq.it
      have i2 := iterPos_at hq2.it
      have I := Lib.hid (show t.size - wn.iterPos (w.heap.size + 3) < t.size - wr.iterPos (w.heap.size + 3) by rw [i1, i2]; omega)
      have hp5 : pos ≤ 5000 := by omega
      clear i1 i2 HS hd
      go_wp2
      go_roundw
      case rel => exact ⟨pos + 2, pos + 1, acc, rest, rfl, .inl ⟨hA, rfl⟩, hq2⟩
      case measure => exact I.out
end Go.Proofs
