import Derived.Test.YteegpmimbbgdlaaGreatDoorBgUtf
import Derived.Lib.ConvBytes
/- The walk of strconv.ParseUint at digits of a radix 8 or 16, of a small number. -/
namespace Go.Proofs
open Go.RowKit Go.Bg
theorem Tryz.lower (c : Nat) (h1 : 97 ≤ c) (h2 : c ≤ 102) (w : World) : Calls Tryz.prog 130 #[.int .u8 c] w fun e w' => e = .returned (.int .u8 c) ∧ w = w' := by
  have : c = 97 ∨ c = 98 ∨ c = 99 ∨ c = 100 ∨ c = 101 ∨ c = 102 := by omega
  clear h1 h2
  rcases this with rfl | rfl | rfl | rfl | rfl | rfl
  all_goals
    go_enter Tryz.func130, Tryz.ntmps130
    go_wp2
    go_ret
    exact ⟨rfl, rfl⟩
theorem valL_app_le (r : Nat) (hr : 1 ≤ r) (xs ys : List Nat) : valL r xs ≤ valL r (xs ++ ys) := by
  induction ys generalizing xs with
  | nil => simp
  | cons y ys ih =>
    have h1 := ih (xs ++ [y])
    rw [valL_snoc, List.append_assoc] at h1
    have : valL r xs ≤ valL r xs * r := Nat.le_mul_of_pos_right _ hr
    exact Nat.le_trans (by omega) h1
theorem valL_take_le (r : Nat) (hr : 1 ≤ r) (ds : List Nat) (k : Nat) : valL r (ds.take k) ≤ valL r ds := by
  have := valL_app_le r hr (ds.take k) (ds.drop k)
  rwa [List.take_append_drop] at this
theorem sgn_cases {d : Nat} (h : d < 16) : (d ≤ 9 ∧ (sgn d).toNat = 48 + d) ∨ (10 ≤ d ∧ (sgn d).toNat = 87 + d) := by
  have key : ∀ k : Fin 16, (k.val ≤ 9 ∧ (sgn k.val).toNat = 48 + k.val) ∨ (10 ≤ k.val ∧ (sgn k.val).toNat = 87 + k.val) := by decide
  exact key ⟨d, h⟩
theorem dig_at {s : ByteArray} {ds : List Nat} (hs : s.data.toList = ds.map sgn) (hl : ds.length = s.size) {k : Nat} (hk : k < s.size) :
    ∃ d c : Nat, ds.take (k + 1) = ds.take k ++ [d] ∧ c = (sgn d).toNat ∧ s.data.toList.getD k 0 = sgn d ∧ d ∈ ds := by
  have h1 : k < ds.length := by omega
  refine ⟨ds[k], _, by rw [List.take_succ_eq_append_getElem h1], rfl, ?_, List.getElem_mem h1⟩
  rw [hs, List.getD_eq_getElem?_getD, List.getElem?_map, List.getElem?_eq_getElem h1]
  rfl
theorem below_bytes (w : World) (s : ByteArray) : Below w.heap.size w (Lib.bytesWorld w 5 s) :=
  ⟨rfl, rfl, rfl, by rw [Lib.bytesWorld_size]; omega, fun k hk => Lib.bytesWorld_at_old w 5 s k hk⟩
def ParSays (n : Nat) (w : World) (e : Ending) (w' : World) : Prop := e = .returned (.tuple #[.int .u64 n, .nilIface]) ∧ Below w.heap.size w w'
set_option maxRecDepth 100000 in
set_option maxHeartbeats 8000000 in
theorem Tryz.parse16 (s : ByteArray) (ds : List Nat) (w : World) (hs : Hid (s.data.toList = ds.map sgn)) (hl : ds.length = s.size) (hpos : 0 < s.size) (h10 : s.size ≤ 10) (hd : Hid (∀ d ∈ ds, d < 16)) (hv : Hid (valL 16 ds ≤ 1114111)) :
    Calls Tryz.prog 118 #[.string s, .int .i64 16, .int .i64 32] w (ParSays (valL 16 ds) w) := by
  have HL := Lib.hid hl
  clear hl
  have hne : s.toList.isEmpty = false := by
    rw [ByteArray.toList_eq]
    have h1 : s.data.toList.length = s.size := by simp
    cases h : s.data.toList with
    | nil => rw [h] at h1; simp at h1; omega
    | cons a b => rfl
  have hcv := Lib.run_convert_string_bytes (P := Tryz.prog) w 9 48 5 s Tryz.underlying9 Tryz.underlying48 Tryz.underlying5
  go_enter Tryz.func118, Tryz.ntmps118
  go_wp2
  generalize hW : Lib.bytesWorld w 5 s = W
  have HW := Lib.hid hW
  clear hW
  go_loop [12, 13, 101] (fun u n i => ∃ (k n' : Nat), k ≤ s.size ∧ i = .int .i64 k ∧ u = .bool false ∧ n = .int .u64 n' ∧ n' = valL 16 (ds.take k)) (fun _ _ i => s.size - (intOf i).toNat)
  case atStart => exact ⟨0, 0, by omega, rfl, rfl, rfl, rfl⟩
  case round =>
    obtain ⟨k, n, hk, rfl, rfl, rfl, hn⟩ := hrel
    by_cases hlt : k < s.size
    · obtain ⟨d, c, e1, e2, e3, e4⟩ := dig_at hs.out HL.out hlt
      have hcell : W.cell? ⟨w.heap.size, k, none⟩ = some (.int .u8 (c : Nat)) := by rw [← HW.out, Lib.bytesWorld_cell w 5 s k hlt, e3, e2]
      have hdlt : d < 16 := hd.out d e4
      have hv1 : valL 16 (ds.take (k + 1)) = n * 16 + d := by rw [e1, valL_snoc, ← hn]
      have hv2 : valL 16 (ds.take (k + 1)) ≤ 1114111 := Nat.le_trans (valL_take_le 16 (by omega) ds (k + 1)) hv.out
      have hb : n * 16 + d ≤ 1114111 := by omega
      have HV := Lib.hid hv1
      have b1 : decide ((1152921504606846976 : Int) ≤ (n : Int)) = false := decide_eq_false (by omega)
      have b2 : decide ((4294967295 : Int) < (n : Int) * 16 + (d : Int)) = false := decide_eq_false (by omega)
      have b3 : decide ((n : Int) * 16 + (d : Int) < (n : Int) * 16) = false := decide_eq_false (by omega)
      have b4 : (n : Int) ≤ 1114111 := by omega
      have b5 : (d : Int) ≤ 15 := by omega
      have b6 : decide ((16 : Int) ≤ (d : Int)) = false := decide_eq_false (by omega)
      clear e1 e3 e4 hv1 hv2 hb hn
      rcases sgn_cases (by omega : d < 16) with ⟨h9, hc⟩ | ⟨h9, hc⟩
      · rw [hc] at e2
        have c1 : (c : Int) = 48 + d := by omega
        have C1 : (c : Int) - 48 = d := by omega
        have c2 : decide ((48 : Int) ≤ (c : Int)) = true := decide_eq_true (by omega)
        have c3 : decide ((c : Int) ≤ 57) = true := decide_eq_true (by omega)
        have c4 : ((c : Int) == 95) = false := by rw [Bool.eq_false_iff]; intro h; have := eq_of_beq h; omega
        clear c1 e2 hc h9
        go_wp2
        go_round
        case rel => exact ⟨k + 1, n * 16 + d, by omega, by go_num, rfl, by go_num, HV.out.symm⟩
        case measure => simp [intOf]; omega
      · rw [hc] at e2
        have C1 : (c : Int) - 97 + 10 = d := by omega
        have c1 : (97 : Int) ≤ (c : Int) := by omega
        have c2 : (c : Int) ≤ 102 := by omega
        have c3 : decide ((48 : Int) ≤ (c : Int)) = true := decide_eq_true (by omega)
        have c4 : decide ((c : Int) ≤ 57) = false := decide_eq_false (by omega)
        have c5 : decide ((97 : Int) ≤ (c : Int)) = true := decide_eq_true (by omega)
        have c6 : decide ((c : Int) ≤ 122) = true := decide_eq_true (by omega)
        have c7 : ((c : Int) == 95) = false := by rw [Bool.eq_false_iff]; intro h; have := eq_of_beq h; omega
        have n1 : 97 ≤ c := by omega
        have n2 : c ≤ 102 := by omega
        clear e2 hc h9
        go_wp2_with (go_at_call 130; (with_reducible refine (Tryz.lower c n1 n2 _).mono ?_); rintro e w' ⟨rfl, rfl⟩)
        go_round
        case rel => exact ⟨k + 1, n * 16 + d, by omega, by go_num, rfl, by go_num, HV.out.symm⟩
        case measure => simp [intOf]; omega
    · obtain rfl : k = s.size := by omega
      have hn2 : n = valL 16 ds := by rw [hn, List.take_of_length_le (by rw [HL.out]; exact Nat.le_refl _)]
      have HN := Lib.hid hn2
      clear hn hn2
      go_wp2
      go_ret2
      rw [← HN.out]
      exact ⟨rfl, HW.out ▸ below_bytes w s⟩
set_option maxRecDepth 100000 in
set_option maxHeartbeats 8000000 in
theorem Tryz.parse8 (s : ByteArray) (ds : List Nat) (w : World) (hs : Hid (s.data.toList = ds.map sgn)) (hl : ds.length = s.size) (hpos : 0 < s.size) (h10 : s.size ≤ 10) (hd : Hid (∀ d ∈ ds, d < 8)) (hv : Hid (valL 8 ds ≤ 1114111)) :
    Calls Tryz.prog 118 #[.string s, .int .i64 8, .int .i64 32] w (ParSays (valL 8 ds) w) := by
  have HL := Lib.hid hl
  clear hl
  have hne : s.toList.isEmpty = false := by
    rw [ByteArray.toList_eq]
    have h1 : s.data.toList.length = s.size := by simp
    cases h : s.data.toList with
    | nil => rw [h] at h1; simp at h1; omega
    | cons a b => rfl
  have hcv := Lib.run_convert_string_bytes (P := Tryz.prog) w 9 48 5 s Tryz.underlying9 Tryz.underlying48 Tryz.underlying5
  go_enter Tryz.func118, Tryz.ntmps118
  go_wp2
  generalize hW : Lib.bytesWorld w 5 s = W
  have HW := Lib.hid hW
  clear hW
  go_loop [12, 13, 101] (fun u n i => ∃ (k n' : Nat), k ≤ s.size ∧ i = .int .i64 k ∧ u = .bool false ∧ n = .int .u64 n' ∧ n' = valL 8 (ds.take k)) (fun _ _ i => s.size - (intOf i).toNat)
  case atStart => exact ⟨0, 0, by omega, rfl, rfl, rfl, rfl⟩
  case round =>
    obtain ⟨k, n, hk, rfl, rfl, rfl, hn⟩ := hrel
    by_cases hlt : k < s.size
    · obtain ⟨d, c, e1, e2, e3, e4⟩ := dig_at hs.out HL.out hlt
      have hcell : W.cell? ⟨w.heap.size, k, none⟩ = some (.int .u8 (c : Nat)) := by rw [← HW.out, Lib.bytesWorld_cell w 5 s k hlt, e3, e2]
      have hdlt : d < 8 := hd.out d e4
      have hv1 : valL 8 (ds.take (k + 1)) = n * 8 + d := by rw [e1, valL_snoc, ← hn]
      have hv2 : valL 8 (ds.take (k + 1)) ≤ 1114111 := Nat.le_trans (valL_take_le 8 (by omega) ds (k + 1)) hv.out
      have hb : n * 8 + d ≤ 1114111 := by omega
      have HV := Lib.hid hv1
      have b1 : decide ((2305843009213693952 : Int) ≤ (n : Int)) = false := decide_eq_false (by omega)
      have b2 : decide ((4294967295 : Int) < (n : Int) * 8 + (d : Int)) = false := decide_eq_false (by omega)
      have b3 : decide ((n : Int) * 8 + (d : Int) < (n : Int) * 8) = false := decide_eq_false (by omega)
      have b4 : (n : Int) ≤ 1114111 := by omega
      have b5 : (d : Int) ≤ 7 := by omega
      have b6 : decide ((8 : Int) ≤ (d : Int)) = false := decide_eq_false (by omega)
      clear e1 e3 e4 hv1 hv2 hb hn
      rcases sgn_cases (by omega : d < 16) with ⟨h9, hc⟩ | ⟨h9, hc⟩
      · rw [hc] at e2
        have c1 : (c : Int) = 48 + d := by omega
        have C1 : (c : Int) - 48 = d := by omega
        have c2 : decide ((48 : Int) ≤ (c : Int)) = true := decide_eq_true (by omega)
        have c3 : decide ((c : Int) ≤ 57) = true := decide_eq_true (by omega)
        have c4 : ((c : Int) == 95) = false := by rw [Bool.eq_false_iff]; intro h; have := eq_of_beq h; omega
        clear c1 e2 hc h9
        go_wp2
        go_round
        case rel => exact ⟨k + 1, n * 8 + d, by omega, by go_num, rfl, by go_num, HV.out.symm⟩
        case measure => simp [intOf]; omega
      · omega
    · obtain rfl : k = s.size := by omega
      have hn2 : n = valL 8 ds := by rw [hn, List.take_of_length_le (by rw [HL.out]; exact Nat.le_refl _)]
      have HN := Lib.hid hn2
      clear hn hn2
      go_wp2
      go_ret2
      rw [← HN.out]
      exact ⟨rfl, HW.out ▸ below_bytes w s⟩
set_option maxRecDepth 100000 in
set_option maxHeartbeats 2000000 in
theorem Tryz.parseUint16 (s : ByteArray) (ds : List Nat) (w : World) (hs : Hid (s.data.toList = ds.map sgn)) (hl : ds.length = s.size) (hpos : 0 < s.size) (h10 : s.size ≤ 10) (hd : Hid (∀ d ∈ ds, d < 16)) (hv : Hid (valL 16 ds ≤ 1114111)) :
    Calls Tryz.prog 99 #[.string s, .int .i64 16, .int .i64 32] w (ParSays (valL 16 ds) w) := by
  have HC := Lib.hid (Tryz.parse16 s ds w hs hl hpos h10 hd hv)
  obtain ⟨n, hn⟩ : ∃ n, n = valL 16 ds := ⟨_, rfl⟩
  rw [← hn] at HC ⊢
  clear hl hn hv
  go_enter Tryz.func99, Tryz.ntmps99
  go_wp2_with (go_at_call 118; (with_reducible refine HC.out.mono ?_); rintro e w' ⟨rfl, hb⟩)
  go_ret2
  exact ⟨rfl, by assumption⟩
set_option maxRecDepth 100000 in
set_option maxHeartbeats 2000000 in
theorem Tryz.parseUint8 (s : ByteArray) (ds : List Nat) (w : World) (hs : Hid (s.data.toList = ds.map sgn)) (hl : ds.length = s.size) (hpos : 0 < s.size) (h10 : s.size ≤ 10) (hd : Hid (∀ d ∈ ds, d < 8)) (hv : Hid (valL 8 ds ≤ 1114111)) :
    Calls Tryz.prog 99 #[.string s, .int .i64 8, .int .i64 32] w (ParSays (valL 8 ds) w) := by
  have HC := Lib.hid (Tryz.parse8 s ds w hs hl hpos h10 hd hv)
  obtain ⟨n, hn⟩ : ∃ n, n = valL 8 ds := ⟨_, rfl⟩
  rw [← hn] at HC ⊢
  clear hl hn hv
  go_enter Tryz.func99, Tryz.ntmps99
  go_wp2_with (go_at_call 118; (with_reducible refine HC.out.mono ?_); rintro e w' ⟨rfl, hb⟩)
  go_ret2
  exact ⟨rfl, by assumption⟩
end Go.Proofs
/- The walks of lexer.digit, octal, hex, and of row over them. -/
namespace Go.Proofs
open Go.RowKit Go.Bg
theorem Tryz.digit_t (c : Nat) (h1 : 48 ≤ c) (h2 : c ≤ 57) (w : World) : Calls Tryz.prog 45 #[.int .u8 c] w fun e w' => e = .returned (.bool true) ∧ w = w' := by
  have c1 : decide ((48 : Int) ≤ (c : Int)) = true := decide_eq_true (by omega)
  have c2 : decide ((c : Int) ≤ 57) = true := decide_eq_true (by omega)
  clear h1 h2
  go_enter Tryz.func45, Tryz.ntmps45
  go_wp2
  go_ret
  exact ⟨rfl, rfl⟩
theorem Tryz.digit_f (c : Nat) (h1 : 57 < c) (w : World) : Calls Tryz.prog 45 #[.int .u8 c] w fun e w' => e = .returned (.bool false) ∧ w = w' := by
  have c1 : decide ((48 : Int) ≤ (c : Int)) = true := decide_eq_true (by omega)
  have c2 : decide ((c : Int) ≤ 57) = false := decide_eq_false (by omega)
  clear h1
  go_enter Tryz.func45, Tryz.ntmps45
  go_wp2
  go_ret
  exact ⟨rfl, rfl⟩
theorem Tryz.octal_t (c : Nat) (h1 : 48 ≤ c) (h2 : c ≤ 55) (w : World) : Calls Tryz.prog 72 #[.int .u8 c] w fun e w' => e = .returned (.bool true) ∧ w = w' := by
  have c1 : decide ((48 : Int) ≤ (c : Int)) = true := decide_eq_true (by omega)
  have c2 : decide ((c : Int) ≤ 55) = true := decide_eq_true (by omega)
  clear h1 h2
  go_enter Tryz.func72, Tryz.ntmps72
  go_wp2
  go_ret
  exact ⟨rfl, rfl⟩
theorem Tryz.octal_f (c : Nat) (h1 : 55 < c) (w : World) : Calls Tryz.prog 72 #[.int .u8 c] w fun e w' => e = .returned (.bool false) ∧ w = w' := by
  have c1 : decide ((48 : Int) ≤ (c : Int)) = true := decide_eq_true (by omega)
  have c2 : decide ((c : Int) ≤ 55) = false := decide_eq_false (by omega)
  clear h1
  go_enter Tryz.func72, Tryz.ntmps72
  go_wp2
  go_ret
  exact ⟨rfl, rfl⟩
def octc (c : Nat) : Prop := 48 ≤ c ∧ c ≤ 55
def digc (c : Nat) : Prop := 48 ≤ c ∧ c ≤ 57
def hexc (c : Nat) : Prop := (48 ≤ c ∧ c ≤ 57) ∨ (97 ≤ c ∧ c ≤ 102)
theorem Tryz.octal_p (c : Nat) (h : octc c) (w : World) : Calls Tryz.prog 72 #[.int .u8 c] w fun e w' => e = .returned (.bool true) ∧ w = w' := Tryz.octal_t c h.1 h.2 w
theorem Tryz.digit_p (c : Nat) (h : digc c) (w : World) : Calls Tryz.prog 45 #[.int .u8 c] w fun e w' => e = .returned (.bool true) ∧ w = w' := Tryz.digit_t c h.1 h.2 w
set_option maxRecDepth 100000 in
theorem Tryz.hex_t (c : Nat) (h : hexc c) (w : World) : Calls Tryz.prog 70 #[.int .u8 c] w fun e w' => e = .returned (.bool true) ∧ w = w' := by
  rcases h with ⟨h1, h2⟩ | ⟨h1, h2⟩
  · go_enter Tryz.func70, Tryz.ntmps70
    go_wp2_with (go_at_call 45; (with_reducible refine (Tryz.digit_t c h1 h2 _).mono ?_); rintro e w' ⟨rfl, rfl⟩)
    go_ret
    exact ⟨rfl, rfl⟩
  · have c1 : decide ((97 : Int) ≤ (c : Int)) = true := decide_eq_true (by omega)
    have c2 : decide ((c : Int) ≤ 102) = true := decide_eq_true (by omega)
    have h3 : 57 < c := by omega
    clear h1 h2
    go_enter Tryz.func70, Tryz.ntmps70
    go_wp2_with (go_at_call 45; (with_reducible refine (Tryz.digit_f c h3 _).mono ?_); rintro e w' ⟨rfl, rfl⟩)
    go_ret
    exact ⟨rfl, rfl⟩
set_option maxRecDepth 100000 in
theorem Tryz.hex_f (c : Nat) (h : c = 92) (w : World) : Calls Tryz.prog 70 #[.int .u8 c] w fun e w' => e = .returned (.bool false) ∧ w = w' := by
  have c1 : decide ((97 : Int) ≤ (c : Int)) = false := decide_eq_false (by omega)
  have c2 : decide ((65 : Int) ≤ (c : Int)) = true := decide_eq_true (by omega)
  have c3 : decide ((c : Int) ≤ 70) = false := decide_eq_false (by omega)
  have h3 : 57 < c := by omega
  clear h
  go_enter Tryz.func70, Tryz.ntmps70
  go_wp2_with (go_at_call 45; (with_reducible refine (Tryz.digit_f c h3 _).mono ?_); rintro e w' ⟨rfl, rfl⟩)
  go_ret
  exact ⟨rfl, rfl⟩
set_option maxRecDepth 100000 in
set_option maxHeartbeats 2000000 in
theorem Tryz.rowHex (s : ByteArray) (a e : Nat) (w : World) (h : a ≤ e) (he : e < s.size) (hs : s.size ≤ 5000) (ht : Hid (∀ j (h : j < s.size), a ≤ j → j < e → hexc s[j].toNat)) (hf : Hid (92 = s[e].toNat)) :
    Calls Tryz.prog 49 #[.string s, .int .i64 a, .func (.func 70) #[] #[]] w fun r w' => r = .returned (.int .i64 e) ∧ w = w' := by
  go_enter Tryz.func49, Tryz.ntmps49
  go_wp2
  go_loop [1] (fun p => ∃ k : Nat, a ≤ k ∧ k ≤ e ∧ p = .int .i64 k) (fun p => s.size - (intOf p).toNat)
  case atStart => exact ⟨a, Nat.le_refl _, h, rfl⟩
  case round =>
    obtain ⟨k, hk, hke, rfl⟩ := hrel
    have hlt : k < s.size := by omega
    by_cases hk2 : k < e
    · have hx := Lib.hid (ht.out k hlt hk hk2)
      go_wp2_with (go_at_call 70; (with_reducible refine (Tryz.hex_t s[k].toNat hx.out _).mono ?_); rintro e' w' ⟨rfl, rfl⟩)
      go_round
      case rel => exact ⟨k + 1, by omega, by omega, by go_num⟩
      case measure => simp [intOf]; omega
    · obtain rfl : k = e := by omega
      go_wp2_with (go_at_call 70; (with_reducible refine (Tryz.hex_f s[k].toNat hf.out.symm _).mono ?_); rintro e' w' ⟨rfl, rfl⟩)
      go_ret
      exact ⟨rfl, rfl⟩
set_option maxRecDepth 100000 in
set_option maxHeartbeats 2000000 in
theorem Tryz.rowOct (s : ByteArray) (a e : Nat) (w : World) (h : a ≤ e) (he : e < s.size) (hs : s.size ≤ 5000) (ht : Hid (∀ j (h : j < s.size), a ≤ j → j < e → octc s[j].toNat)) (hf : Hid (55 < s[e].toNat)) :
    Calls Tryz.prog 49 #[.string s, .int .i64 a, .func (.func 72) #[] #[]] w fun r w' => r = .returned (.int .i64 e) ∧ w = w' := by
  go_enter Tryz.func49, Tryz.ntmps49
  go_wp2
  go_loop [1] (fun p => ∃ k : Nat, a ≤ k ∧ k ≤ e ∧ p = .int .i64 k) (fun p => s.size - (intOf p).toNat)
  case atStart => exact ⟨a, Nat.le_refl _, h, rfl⟩
  case round =>
    obtain ⟨k, hk, hke, rfl⟩ := hrel
    have hlt : k < s.size := by omega
    by_cases hk2 : k < e
    · have hx := Lib.hid (ht.out k hlt hk hk2)
      go_wp2_with (go_at_call 72; (with_reducible refine (Tryz.octal_p s[k].toNat hx.out _).mono ?_); rintro e' w' ⟨rfl, rfl⟩)
      go_round
      case rel => exact ⟨k + 1, by omega, by omega, by go_num⟩
      case measure => simp [intOf]; omega
    · obtain rfl : k = e := by omega
      go_wp2_with (go_at_call 72; (with_reducible refine (Tryz.octal_f s[k].toNat hf.out _).mono ?_); rintro e' w' ⟨rfl, rfl⟩)
      go_ret
      exact ⟨rfl, rfl⟩
set_option maxRecDepth 100000 in
set_option maxHeartbeats 2000000 in
theorem Tryz.rowDig (s : ByteArray) (a e : Nat) (w : World) (h : a ≤ e) (he : e < s.size) (hs : s.size ≤ 5000) (ht : Hid (∀ j (h : j < s.size), a ≤ j → j < e → digc s[j].toNat)) (hf : Hid (57 < s[e].toNat)) :
    Calls Tryz.prog 49 #[.string s, .int .i64 a, .func (.func 45) #[] #[]] w fun r w' => r = .returned (.int .i64 e) ∧ w = w' := by
  go_enter Tryz.func49, Tryz.ntmps49
  go_wp2
  go_loop [1] (fun p => ∃ k : Nat, a ≤ k ∧ k ≤ e ∧ p = .int .i64 k) (fun p => s.size - (intOf p).toNat)
  case atStart => exact ⟨a, Nat.le_refl _, h, rfl⟩
  case round =>
    obtain ⟨k, hk, hke, rfl⟩ := hrel
    have hlt : k < s.size := by omega
    by_cases hk2 : k < e
    · have hx := Lib.hid (ht.out k hlt hk hk2)
      go_wp2_with (go_at_call 45; (with_reducible refine (Tryz.digit_p s[k].toNat hx.out _).mono ?_); rintro e' w' ⟨rfl, rfl⟩)
      go_round
      case rel => exact ⟨k + 1, by omega, by omega, by go_num⟩
      case measure => simp [intOf]; omega
    · obtain rfl : k = e := by omega
      go_wp2_with (go_at_call 45; (with_reducible refine (Tryz.digit_f s[k].toNat hf.out _).mono ?_); rintro e' w' ⟨rfl, rfl⟩)
      go_ret
      exact ⟨rfl, rfl⟩
end Go.Proofs
