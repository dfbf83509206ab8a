/- The walk of lexer.scan.quoted at one number's escape. -/
import Derived.Test.YteegpmimbbgdlaaGreatDoorChNext
namespace Go.Proofs
open Go.RowKit Go.Bg Go.Hb
theorem Tryz.escOct2 (s : ByteArray) (e v : Nat) (ds : List Nat) (w : World) (hp : 2 < s.size) (hpe : 2 < e) (he : e < s.size) (hs : s.size ≤ 5000) (hx : Hid (octc s[2].toNat)) (hh : Hid (∀ j (h : j < s.size), 2 ≤ j → j < e → octc s[j].toNat)) (h92 : Hid (s[e].toNat = 92))
    (hd : Hid ((s.extract 2 e).data.toList = ds.map sgn)) (hl : e - 2 ≤ 10) (hd8 : Hid (∀ d ∈ ds, d < 8)) (hv : Hid (valL 8 ds = v)) (hok : okRune v) :
    Calls Tryz.prog 78 #[.string s, .int .i64 2] w (EscSays v e w) := Tryz.escOct s 2 e v ds w hp hpe he hs hx hh h92 hd hl hd8 hv hok
theorem QR.callN {t : ByteArray} {B : Nat} {W3 : World} {acc : List UInt8} {pos n : Nat} {wn W1 : World} (h : QR t B W3 acc pos wn) (hb : Below (wn.drewN n).heap.size (wn.drewN n) W1) : QR t B W3 acc pos W1 := by
  have hb' : Below wn.heap.size wn W1 := ⟨hb.os, hb.tape, hb.output, hb.size, hb.block⟩
  have hlt : B + 3 < wn.heap.size := (Array.getElem?_eq_some_iff.1 h.it).1
  exact ⟨isB_below h.bld hb', (hb'.block _ hlt).trans h.it, h.bel.trans (hb'.mono (by omega))⟩
set_option maxRecDepth 100000 in
set_option maxHeartbeats 8000000 in
theorem Tryz.quotedEsc (b : Nat) (s t : ByteArray) (v e : Nat) (ds : List Nat) (w : World) (hb : b < w.heap.size) (hs : s.size = e + 2) (hs5 : s.size ≤ 5000) (ht : s.extract 1 s.size = t) (htz : t.size = e + 1) (d0 : Hid (Utf8.decode t 0 = (92, 1))) (d1 : Hid (∀ pos, 1 ≤ pos → pos < e → ∃ c, c < 128 ∧ Utf8.decode t pos = (c, 1))) (d2 : Hid (Utf8.decode t e = (39, 1)))
    (hp : 2 < s.size) (hpe : 2 < e) (he : e < s.size) (hx : Hid (octc s[2].toNat)) (hh : Hid (∀ j (h : j < s.size), 2 ≤ j → j < e → octc s[j].toNat)) (h92 : Hid (s[e].toNat = 92))
    (hd : Hid ((s.extract 2 e).data.toList = ds.map sgn)) (hl8 : e - 2 ≤ 10) (hd8 : Hid (∀ d ∈ ds, d < 8)) (hv : Hid (valL 8 ds = v)) (hok : Hid (okRune v)) (hvm : v ≤ 1114111)
    (c0 : w.cell? ⟨b, 0, none⟩ = some (.string s)) (c1 : w.cell? ⟨b, 1, none⟩ = some (.int .i64 0)) :
    Calls Tryz.prog 47 #[.pointer (some ⟨b, 0, none⟩), .int .u8 39] w (TkSays 2 ⟨(Lib.encodeRune v).toArray⟩ ⟨#[]⟩ s.size w) := by
  have k1 : b < w.heap.size + 1 := by omega
  have k2 : b < w.heap.size + 1 + 1 := by omega
  have k3 : b < w.heap.size + 1 + 1 + 1 := by omega
  have HT := Lib.hid ht
  have HST := Lib.hid hs
  have HTZ := Lib.hid htz
  have hl2 : 1 ≤ s.size := by omega
  clear ht hs htz
  go_enter Tryz.func47, Tryz.ntmps47
  go_wp2
  generalize hW3 : ((w.alloc _).alloc _).alloc _ = W3
  have C0 : W3.cell? ⟨b, 0, none⟩ = some (.string s) := by subst hW3; go_simp
  have C1 : W3.cell? ⟨b, 1, none⟩ = some (.int .i64 0) := by subst hW3; go_simp
  have sz : W3.heap.size = w.heap.size + 3 := by subst hW3; simp
  have bl : Below w.heap.size w W3 := by subst hW3; exact (((Below.refl _ _).alloc (Nat.le_refl _) _).alloc (by simp) _).alloc (by simp; omega) _
  have tok0 : W3.heap[w.heap.size]? = some (.cells (emptyTok 0) 25 (0, 0)) := by
    subst hW3
    rw [Lib.alloc_old _ _ _ (by simp; omega), Lib.alloc_old _ _ _ (by simp)]
    exact heap_alloc_new w _
  have tok1 : W3.heap[w.heap.size + 1]? = some (.cells (emptyTok 2) 25 (0, 0)) := by
    subst hW3
    rw [Lib.alloc_old _ _ _ (by simp)]
    have := heap_alloc_new (w.alloc (.cells (emptyTok 0) 25)) (.cells (emptyTok 2) 25)
    rw [show (w.alloc (.cells (emptyTok 0) 25)).heap.size = w.heap.size + 1 by simp] at this
    exact this
  have bld : Lib.IsBuilderF 95 5 (w.heap.size + 1 + 1) (w.heap.size + 1 + 1) (Lib.byteCells []) W3 := by
    subst hW3
    have := Lib.IsBuilderF.of (Lib.fresh_isBuilder 95 5 ((w.alloc (.cells (emptyTok 0) 25)).alloc (.cells (emptyTok 2) 25)))
    rw [show ((w.alloc (.cells (emptyTok 0) 25)).alloc (.cells (emptyTok 2) 25)).heap.size = w.heap.size + 1 + 1 by simp] at this
    exact this
  have HW := Lib.hid hW3
  clear hW3 c0 c1
  have hw : IntKind.i64.wrap 1 = 1 := rfl
  have hl : (1 : Int) ≤ (s.size : Int) := by omega
  refine wp_region_still_tail 10 (by kernel_rfl) (by kernel_rfl) ?_
  simp only [List.take_succ_cons, List.take_zero, List.drop_succ_cons, List.drop_zero]
  change wpStill _ _ W3.drew _ _ _
  repeat still_step
  clear hw
  refine wpStill_nil ?_
  change wpList _ _ _ _ _ W3.drew
  have ht := HT.out
  rw [ht]
  clear ht
  have SZ := Lib.hid sz
  go_wp2
  clear sz
  go_loopw [9] (fun skip wr => ∃ (k pos : Nat) (acc : List UInt8), skip = .int .i64 k ∧ ((pos = 0 ∧ k = 1 ∧ acc = []) ∨ ((1 ≤ pos ∧ pos ≤ e) ∧ k = e + 1 ∧ acc = Lib.encodeRune v)) ∧ QR t w.heap.size W3 acc pos wr) (fun _ wr => t.size - wr.iterPos (w.heap.size + 3))
  case atStart =>
    have hi : (W3.drew.iter t 0).heap[w.heap.size + 3]? = some (.stringIter t 0) := by
      have := World.iter_heap W3.drew t 0
      rw [← SZ.out]
      simpa using this
    exact ⟨1, 0, [], rfl, .inl ⟨rfl, rfl, rfl⟩, bld.alloc _, hi, ((Below.refl (w.heap.size + 1 + 1) W3).drew).alloc (by have := SZ.out; show w.heap.size + 1 + 1 ≤ W3.heap.size; omega) _⟩
  case round =>
    obtain ⟨k, pos, acc, rfl, hAB, hq⟩ := hrel
    have HS := HST.out
    have HZ := HTZ.out
    rcases hAB with ⟨rfl, rfl, rfl⟩ | ⟨⟨hp1, hp2⟩, rfl, rfl⟩
    · obtain ⟨wn, hnx, hq2⟩ := hq.next (by omega) 1 92 d0.out
      have cn0 : wn.cell? ⟨b, 0, none⟩ = some (.string s) := (hq2.bel.cell (p := ⟨b, 0, none⟩) k2).trans C0
      have cn1 : wn.cell? ⟨b, 1, none⟩ = some (.int .i64 0) := (hq2.bel.cell (p := ⟨b, 1, none⟩) k2).trans C1
      have RL : Hid (Lib.runeLen 92 = (1 : Nat)) := Lib.hid rfl
      have hp7 : (2 : Int) < s.size := by omega
      have hx2 := hx.out
      unfold octc at hx2
      have hix : ((s[2].toNat : Int) == 10) = false := ne_fact (n := 10) (by omega)
      have i1 := iterPos_at hq.it
      clear HS HZ hx2
      go_wp2_with (go_at_call 75; refine (Tryz.runeLen_at _ 1 RL _).mono ?_; rintro e w' ⟨rfl, rfl⟩)
      go_quiet (fail)
      go_wp2_with (go_at_call 78; (with_reducible refine (Tryz.escOct2 s e v ds _ hp hpe he hs5 hx hh h92 hd hl8 hd8 hv hok.out).mono ?_))
      rintro e' W2 ⟨rfl, b3⟩
      have hq5 := hq2.callN b3
      have HB2 : Lib.IsBuilderF 95 5 (w.heap.size + 1 + 1) (w.heap.size + 1 + 1) (Lib.byteCells []) W2 := hq5.bld
      have HN2 : w.heap.size + 1 + 1 ≤ W2.heap.size := by have := hq5.bel.size; have := SZ.out; omega
      clear b3
      go_wp2_with (go_at_call 79; (with_reducible refine (Tryz.WriteRune_k (w.heap.size + 1 + 1) (w.heap.size + 1 + 1) (Lib.byteCells []) v (by omega) (by omega) _ HB2 (by simp [Lib.byteCells]) HN2).mono ?_))
      rintro e' W1 ⟨rfl, b0, b1, b2⟩
      have hq3 := hq5.write (n := 0) (x := Lib.encodeRune v) (Lib.byteCells_encodeRune v) b0 b1 b2
      clear b0 b1 b2
      go_wp2
      go_roundw
      case rel => exact ⟨e + 1, 1, Lib.encodeRune v, by go_num, .inr ⟨⟨by omega, by omega⟩, rfl, rfl⟩, hq3⟩
      case measure => rw [iterPos_at hq3.it, i1]; have := HTZ.out; omega
    · by_cases hpl : pos < e
      · obtain ⟨c, hc, hd⟩ := d1.out pos hp1 hpl
        obtain ⟨wn, hnx, hq2⟩ := hq.next (by omega) 1 c hd
        have cn0 : wn.cell? ⟨b, 0, none⟩ = some (.string s) := (hq2.bel.cell (p := ⟨b, 0, none⟩) k2).trans C0
        have cn1 : wn.cell? ⟨b, 1, none⟩ = some (.int .i64 0) := (hq2.bel.cell (p := ⟨b, 1, none⟩) k2).trans C1
        have i1 := iterPos_at hq.it
        have i2 := iterPos_at hq2.it
        have I := Lib.hid (show t.size - wn.iterPos (w.heap.size + 3) < t.size - wr.iterPos (w.heap.size + 3) by rw [i1, i2]; omega)
        have hp5 : pos ≤ 5000 := by omega
        have hp6 : e ≤ 5000 := by omega
        have hp7 : (pos : Int) + 1 < (e : Int) + 1 := by omega
        clear i1 i2 HS HZ hd
        go_wp2
        go_roundw
        case rel => exact ⟨e + 1, pos + 1, Lib.encodeRune v, rfl, .inr ⟨⟨by omega, by omega⟩, rfl, rfl⟩, hq2⟩
        case measure => exact I.out
      · have hpe2 : e = pos := by omega
        subst hpe2
        have hnl : (Lib.encodeRune v).length ≤ 1000 := by have := enc_len v; omega
        obtain ⟨wn, hnx, hq2⟩ := hq.next (by omega) 1 39 d2.out
        have cn0 : wn.cell? ⟨b, 0, none⟩ = some (.string s) := (hq2.bel.cell (p := ⟨b, 0, none⟩) k2).trans C0
        have cn1 : wn.cell? ⟨b, 1, none⟩ = some (.int .i64 0) := (hq2.bel.cell (p := ⟨b, 1, none⟩) k2).trans C1
        have RL : Hid (Lib.runeLen 39 = (1 : Nat)) := Lib.hid rfl
        have TS := Lib.hid (show s.size = e + 2 by omega)
        have hp5 : e ≤ 5000 := by omega
        have hle : (s.size : Int) ≤ (e : Int) + 1 + 1 := by omega
        clear HS HZ
        go_wp2_with (go_at_call 75; refine (Tryz.runeLen_at _ 1 RL _).mono ?_; rintro e w' ⟨rfl, rfl⟩)
        have HB : Hid (∀ n, Lib.IsBuilderF 95 5 (w.heap.size + 1 + 1) (w.heap.size + 1 + 1) (Lib.byteCells (Lib.encodeRune v)) (wn.drewN n)) := Lib.hid fun _ => hq2.bld
        have HN : Hid (∀ n, w.heap.size + 1 + 1 ≤ (wn.drewN n).heap.size) := Lib.hid fun n => by have := hq2.bel.size; have := SZ.out; show w.heap.size + 1 + 1 ≤ wn.heap.size; omega
        go_quiet (fail)
        go_wp2_with (go_at_call 77; refine (Tryz.Builder_String_any_k (w.heap.size + 1 + 1) (w.heap.size + 1 + 1) (Lib.encodeRune v) _ (HB.out _) (HN.out _)).mono ?_)
        rintro e' W1 rfl b0 b1 b2
        have bt : Below (w.heap.size + 1 + 1) W3 W1 := hq2.bel.trans (⟨b1.os, b1.tape, b1.output, b1.size, b1.block⟩ : Below _ wn W1)
        have T0 := (bt.block w.heap.size (by omega)).trans tok0
        have T1 := (bt.block (w.heap.size + 1) (by omega)).trans tok1
        have x00 : W1.cell? ⟨w.heap.size, 0, none⟩ = some (.int .i64 0) := by rw [Lib.cell_of_heap T0]; rfl
        have y00 : W1.frozen? ⟨w.heap.size, 0, none⟩ = false := Lib.frozen_of_heap T0 0
        have x01 : W1.cell? ⟨w.heap.size, 1, none⟩ = some (.string ⟨#[]⟩) := by rw [Lib.cell_of_heap T0]; rfl
        have y01 : W1.frozen? ⟨w.heap.size, 1, none⟩ = false := Lib.frozen_of_heap T0 1
        have x02 : W1.cell? ⟨w.heap.size, 2, none⟩ = some (.string ⟨#[]⟩) := by rw [Lib.cell_of_heap T0]; rfl
        have y02 : W1.frozen? ⟨w.heap.size, 2, none⟩ = false := Lib.frozen_of_heap T0 2
        have x03 : W1.cell? ⟨w.heap.size, 3, none⟩ = some (.int .u64 0) := by rw [Lib.cell_of_heap T0]; rfl
        have y03 : W1.frozen? ⟨w.heap.size, 3, none⟩ = false := Lib.frozen_of_heap T0 3
        have x04 : W1.cell? ⟨w.heap.size, 4, none⟩ = some (.int .i64 0) := by rw [Lib.cell_of_heap T0]; rfl
        have y04 : W1.frozen? ⟨w.heap.size, 4, none⟩ = false := Lib.frozen_of_heap T0 4
        have x05 : W1.cell? ⟨w.heap.size, 5, none⟩ = some (.int .i64 0) := by rw [Lib.cell_of_heap T0]; rfl
        have y05 : W1.frozen? ⟨w.heap.size, 5, none⟩ = false := Lib.frozen_of_heap T0 5
        have x06 : W1.cell? ⟨w.heap.size, 6, none⟩ = some (.bool false) := by rw [Lib.cell_of_heap T0]; rfl
        have y06 : W1.frozen? ⟨w.heap.size, 6, none⟩ = false := Lib.frozen_of_heap T0 6
        have x10 : W1.cell? ⟨w.heap.size + 1, 0, none⟩ = some (.int .i64 2) := by rw [Lib.cell_of_heap T1]; rfl
        have y10 : W1.frozen? ⟨w.heap.size + 1, 0, none⟩ = false := Lib.frozen_of_heap T1 0
        have x11 : W1.cell? ⟨w.heap.size + 1, 1, none⟩ = some (.string ⟨#[]⟩) := by rw [Lib.cell_of_heap T1]; rfl
        have y11 : W1.frozen? ⟨w.heap.size + 1, 1, none⟩ = false := Lib.frozen_of_heap T1 1
        have x12 : W1.cell? ⟨w.heap.size + 1, 2, none⟩ = some (.string ⟨#[]⟩) := by rw [Lib.cell_of_heap T1]; rfl
        have y12 : W1.frozen? ⟨w.heap.size + 1, 2, none⟩ = false := Lib.frozen_of_heap T1 2
        have x13 : W1.cell? ⟨w.heap.size + 1, 3, none⟩ = some (.int .u64 0) := by rw [Lib.cell_of_heap T1]; rfl
        have y13 : W1.frozen? ⟨w.heap.size + 1, 3, none⟩ = false := Lib.frozen_of_heap T1 3
        have x14 : W1.cell? ⟨w.heap.size + 1, 4, none⟩ = some (.int .i64 0) := by rw [Lib.cell_of_heap T1]; rfl
        have y14 : W1.frozen? ⟨w.heap.size + 1, 4, none⟩ = false := Lib.frozen_of_heap T1 4
        have x15 : W1.cell? ⟨w.heap.size + 1, 5, none⟩ = some (.int .i64 0) := by rw [Lib.cell_of_heap T1]; rfl
        have y15 : W1.frozen? ⟨w.heap.size + 1, 5, none⟩ = false := Lib.frozen_of_heap T1 5
        have x16 : W1.cell? ⟨w.heap.size + 1, 6, none⟩ = some (.bool false) := by rw [Lib.cell_of_heap T1]; rfl
        have y16 : W1.frozen? ⟨w.heap.size + 1, 6, none⟩ = false := Lib.frozen_of_heap T1 6
        have BT := Lib.hid bt
        clear bt b1 b0 b2 T0 T1
        go_wp2_with fail
        refine bodyPost_ret (v := .tuple #[.agg #[.int .i64 2, .string ⟨(Lib.encodeRune v).toArray⟩, .string ⟨#[]⟩, .int .u64 0, .int .i64 0, .int .i64 ((e : Int) + 1 + 1), .bool false], .int .i64 0, .int .i64 0]) ?_ rfl ⟨?_, ?_⟩
        · simp only [results, Tryz.results47]
          go_simp
        · have e2 : ((s.size : Nat) : Int) = (e : Int) + 1 + 1 := by have := TS.out; omega
          rw [e2]
        · repeat refine Below.setCell ?_ (by simp) _
          exact bl.trans (BT.out.mono (by omega))
end Go.Proofs
