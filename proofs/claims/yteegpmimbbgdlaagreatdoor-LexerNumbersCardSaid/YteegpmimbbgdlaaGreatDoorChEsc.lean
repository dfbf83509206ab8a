/- The walk of lexer.escape at a number. -/
import Derived.Test.YteegpmimbbgdlaaGreatDoorChRow
namespace Go.Proofs
open Go.RowKit Go.Bg Go.Hb
theorem ne_fact {c : Nat} {n : Nat} (h : c ≠ n) : ((c : Int) == (n : Int)) = false := by rw [Bool.eq_false_iff]; intro e; have := eq_of_beq e; omega
set_option maxRecDepth 100000 in
set_option maxHeartbeats 1000000 in
theorem Tryz.plain_no (c : Nat) (h : c = 120 ∨ (48 ≤ c ∧ c ≤ 57)) (w : World) : Calls Tryz.prog 98 #[.int .u8 c] w fun e w' => e = .returned (.tuple #[.int .i32 0, .bool false]) ∧ w = w' := by
  have h1 : ((c : Int) == 97) = false := ne_fact (n := 97) (by omega)
  have h2 : ((c : Int) == 98) = false := ne_fact (n := 98) (by omega)
  have h3 : ((c : Int) == 102) = false := ne_fact (n := 102) (by omega)
  have h4 : ((c : Int) == 110) = false := ne_fact (n := 110) (by omega)
  have h5 : ((c : Int) == 114) = false := ne_fact (n := 114) (by omega)
  have h6 : ((c : Int) == 116) = false := ne_fact (n := 116) (by omega)
  have h7 : ((c : Int) == 118) = false := ne_fact (n := 118) (by omega)
  have h8 : ((c : Int) == 92) = false := ne_fact (n := 92) (by omega)
  have h9 : ((c : Int) == 39) = false := ne_fact (n := 39) (by omega)
  have h10 : ((c : Int) == 34) = false := ne_fact (n := 34) (by omega)
  have h11 : ((c : Int) == 96) = false := ne_fact (n := 96) (by omega)
  clear h
  go_enter Tryz.func98, Tryz.ntmps98
  go_wp2
  go_ret2
  exact ⟨rfl, rfl⟩
def EscSays (v e : Nat) (w : World) (r : Ending) (w' : World) : Prop := r = .returned (.tuple #[.int .i32 v, .int .i64 ((e : Int) + 1), .bool true]) ∧ Below w.heap.size w w'
theorem valid_ok {v : Nat} (h : okRune v) : Lib.validRune v = true := by
  unfold Lib.validRune okRune at *
  exact decide_eq_true (by omega)
theorem ext_size {s : ByteArray} {a e : Nat} {ds : List Nat} (he : e < s.size) (hd : (s.extract a e).data.toList = ds.map sgn) : ds.length = e - a ∧ (s.extract a e).size = e - a := by
  have h1 := congrArg List.length hd
  rw [List.length_map] at h1
  have h2 : (s.extract a e).size = e - a := by rw [ByteArray.size_extract]; omega
  exact ⟨by rw [← h1, ← h2]; exact Array.length_toList (xs := (s.extract a e).data), h2⟩
theorem Tryz.parI16 (s : ByteArray) (a e v : Nat) (ds : List Nat) (w : World) (hae : a < e) (he : e < s.size) (hd : Hid ((s.extract a e).data.toList = ds.map sgn)) (hl : e - a ≤ 10) (hd16 : Hid (∀ d ∈ ds, d < 16)) (hv : Hid (valL 16 ds = v)) (hok : v ≤ 1114111) :
    Calls Tryz.prog 99 #[.string (s.extract a e), .int .i64 16, .int .i64 32] w (ParSays v w) := by
  obtain ⟨h1, h2⟩ := ext_size he hd.out
  rw [← hv.out] at hok ⊢
  exact Tryz.parseUint16 _ ds w hd (by omega) (by omega) (by omega) hd16 (Lib.hid hok)
theorem Tryz.parI8 (s : ByteArray) (a e v : Nat) (ds : List Nat) (w : World) (hae : a < e) (he : e < s.size) (hd : Hid ((s.extract a e).data.toList = ds.map sgn)) (hl : e - a ≤ 10) (hd16 : Hid (∀ d ∈ ds, d < 8)) (hv : Hid (valL 8 ds = v)) (hok : v ≤ 1114111) :
    Calls Tryz.prog 99 #[.string (s.extract a e), .int .i64 8, .int .i64 32] w (ParSays v w) := by
  obtain ⟨h1, h2⟩ := ext_size he hd.out
  rw [← hv.out] at hok ⊢
  exact Tryz.parseUint8 _ ds w hd (by omega) (by omega) (by omega) hd16 (Lib.hid hok)
theorem Tryz.rowI16 (s : ByteArray) (p e : Nat) (w : World) (h : p + 1 < e) (he : e < s.size) (hs : s.size ≤ 5000) (hh : Hid (∀ j (h : j < s.size), p + 1 ≤ j → j < e → hexc s[j].toNat)) (h92 : Hid (s[e].toNat = 92)) :
    Calls Tryz.prog 49 #[.string s, .int .i64 ((p : Int) + 1), .func (.func 70) #[] #[]] w fun r w' => r = .returned (.int .i64 e) ∧ w = w' := Tryz.rowHex s (p + 1) e w (by omega) he hs hh (Lib.hid h92.out.symm)
theorem Tryz.validI (v : Nat) (h : okRune v) (w : World) : Calls Tryz.prog 100 #[.int .i32 v] w fun e w' => e = .returned (.bool true) ∧ w = w' :=
  (Tryz.utf8_ValidRune v w).mono fun _ _ ⟨h1, h2⟩ => ⟨by rw [h1, valid_ok h], h2.symm⟩
theorem Tryz.plain_oct (c : Nat) (h : octc c) (w : World) : Calls Tryz.prog 98 #[.int .u8 c] w fun e w' => e = .returned (.tuple #[.int .i32 0, .bool false]) ∧ w = w' := Tryz.plain_no c (.inr ⟨h.1, Nat.le_trans h.2 (by omega)⟩) w
theorem Tryz.rowI8 (s : ByteArray) (p e : Nat) (w : World) (h : p < e) (he : e < s.size) (hs : s.size ≤ 5000) (hh : Hid (∀ j (h : j < s.size), p ≤ j → j < e → octc s[j].toNat)) (h92 : Hid (s[e].toNat = 92)) :
    Calls Tryz.prog 49 #[.string s, .int .i64 (p : Int), .func (.func 72) #[] #[]] w fun r w' => r = .returned (.int .i64 e) ∧ w = w' := Tryz.rowOct s p e w (by omega) he hs hh (Lib.hid (by rw [h92.out]; omega))
set_option maxRecDepth 100000 in
set_option maxHeartbeats 4000000 in
theorem Tryz.escHex (s : ByteArray) (p e v : Nat) (ds : List Nat) (w : World) (hp : p < s.size) (hpe : p + 1 < e) (he : e < s.size) (hs : s.size ≤ 5000) (hx : Hid (s[p].toNat = 120)) (hh : Hid (∀ j (h : j < s.size), p + 1 ≤ j → j < e → hexc s[j].toNat)) (h92 : Hid (s[e].toNat = 92))
    (hd : Hid ((s.extract (p + 1) e).data.toList = ds.map sgn)) (hl : e - (p + 1) ≤ 10) (hd16 : Hid (∀ d ∈ ds, d < 16)) (hv : Hid (valL 16 ds = v)) (hok : okRune v) :
    Calls Tryz.prog 78 #[.string s, .int .i64 p] w (EscSays v e w) := by
  have hok2 := hok.2.1
  have t7 : v ≤ 1114111 := by omega
  have t1 : ((s[p].toNat : Int) == 120) = true := by rw [hx.out]; rfl
  have t2 : ((e : Int) == (p : Int) + 1) = false := by rw [Bool.eq_false_iff]; intro h; have := eq_of_beq h; omega
  have t3 : (e : Int) < s.size := by omega
  have t4 : (p : Int) < s.size := by omega
  have t5 : ((s[e].toNat : Int) != 92) = false := by rw [h92.out]; rfl
  have t6 : (p : Int) + 1 ≤ e := by omega
  have t8 : e ≤ 5000 := by omega
  have HK := Lib.hid hok
  clear hok hok2
  have w9 : (Instr.slice 9 (.string s) (some (.int .i64 ((p : Int) + 1))) (some (.int .i64 (e : Int))) none).run Tryz.prog w = .ok (.string (s.extract (p + 1) e)) w := by
    have := run_slice_string (P := Tryz.prog) (w := w) 9 s .i64 .i64 ((p : Int) + 1) (e : Int) Tryz.underlying9 (by omega) (by omega) (by omega)
    rw [show ((p : Int) + 1).toNat = p + 1 by omega, show ((e : Int)).toNat = e by omega] at this
    exact this
  go_enter Tryz.func78, Tryz.ntmps78
  go_wp2_with (first
    | (go_at_call 98; (with_reducible refine (Tryz.plain_no s[p].toNat (.inl hx.out) _).mono ?_); rintro e' w' ⟨rfl, rfl⟩)
    | (go_at_call 49; (with_reducible refine (Tryz.rowI16 s p e _ hpe he hs hh h92).mono ?_); rintro e' w' ⟨rfl, rfl⟩)
    | (go_at_call 99; (with_reducible refine (Tryz.parI16 s (p + 1) e v ds _ hpe he hd hl hd16 hv t7).mono ?_); rintro e' w' ⟨rfl, hb⟩)
    | (go_at_call 100; (with_reducible refine (Tryz.validI v HK.out _).mono ?_); rintro e' w' ⟨rfl, rfl⟩))
  go_ret3
  exact ⟨rfl, by assumption⟩
set_option maxRecDepth 100000 in
set_option maxHeartbeats 4000000 in
theorem Tryz.escOct (s : ByteArray) (p e v : Nat) (ds : List Nat) (w : World) (hp : p < s.size) (hpe : p < e) (he : e < s.size) (hs : s.size ≤ 5000) (hx : Hid (octc s[p].toNat)) (hh : Hid (∀ j (h : j < s.size), p ≤ j → j < e → octc s[j].toNat)) (h92 : Hid (s[e].toNat = 92))
    (hd : Hid ((s.extract p e).data.toList = ds.map sgn)) (hl : e - p ≤ 10) (hd16 : Hid (∀ d ∈ ds, d < 8)) (hv : Hid (valL 8 ds = v)) (hok : okRune v) :
    Calls Tryz.prog 78 #[.string s, .int .i64 p] w (EscSays v e w) := by
  have hok2 := hok.2.1
  have t7 : v ≤ 1114111 := by omega
  have hx2 := hx.out
  unfold octc at hx2
  have t1 : ((s[p].toNat : Int) == 120) = false := ne_fact (n := 120) (by omega)
  clear hx2
  have t2 : ((e : Int) == (p : Int)) = false := by rw [Bool.eq_false_iff]; intro h; have := eq_of_beq h; omega
  have t3 : (e : Int) < s.size := by omega
  have t4 : (p : Int) < s.size := by omega
  have t5 : ((s[e].toNat : Int) != 92) = false := by rw [h92.out]; rfl
  have t6 : (p : Int) ≤ e := by omega
  have t8 : e ≤ 5000 := by omega
  have HK := Lib.hid hok
  clear hok hok2
  have w9 : (Instr.slice 9 (.string s) (some (.int .i64 (p : Int))) (some (.int .i64 (e : Int))) none).run Tryz.prog w = .ok (.string (s.extract p e)) w := by
    have := run_slice_string (P := Tryz.prog) (w := w) 9 s .i64 .i64 (p : Int) (e : Int) Tryz.underlying9 (by omega) (by omega) (by omega)
    rw [show ((p : Int)).toNat = p by omega, show ((e : Int)).toNat = e by omega] at this
    exact this
  go_enter Tryz.func78, Tryz.ntmps78
  go_wp2_with (first
    | (go_at_call 98; (with_reducible refine (Tryz.plain_oct s[p].toNat hx.out _).mono ?_); rintro e' w' ⟨rfl, rfl⟩)
    | (go_at_call 49; (with_reducible refine (Tryz.rowI8 s p e _ hpe he hs hh h92).mono ?_); rintro e' w' ⟨rfl, rfl⟩)
    | (go_at_call 99; (with_reducible refine (Tryz.parI8 s p e v ds _ hpe he hd hl hd16 hv t7).mono ?_); rintro e' w' ⟨rfl, hb⟩)
    | (go_at_call 100; (with_reducible refine (Tryz.validI v HK.out _).mono ?_); rintro e' w' ⟨rfl, rfl⟩))
  go_ret3
  exact ⟨rfl, by assumption⟩
end Go.Proofs
