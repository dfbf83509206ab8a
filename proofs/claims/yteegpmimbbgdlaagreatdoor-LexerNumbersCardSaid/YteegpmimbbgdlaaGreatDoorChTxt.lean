/- The three texts of LexerChars, read. -/
import Derived.Test.YteegpmimbbgdlaaGreatDoorChQuo
namespace Go.Proofs
open Go.RowKit Go.Bg Go.Hb
theorem digs_len' {r : Nat} (hr : 2 ≤ r) : ∀ (n x : Nat), x < r ^ n → (digs r x).length ≤ n := by
  intro n
  induction n with
  | zero => intro x hx; have : x = 0 := by simpa using hx
            subst this; simp [digs_zero]
  | succ n ih =>
    intro x hx
    by_cases h : x = 0
    · subst h; simp [digs_zero]
    · rw [digs_pos hr h, List.length_cons]
      have h2 : x / r < r ^ n := by
        rw [Nat.pow_succ, Nat.mul_comm] at hx
        exact Nat.div_lt_of_lt_mul hx
      have := ih (x / r) h2
      omega
theorem num_ds {r : Nat} (hr : 2 ≤ r) (n v : Nat) (hv : v < r ^ n) (hn : 1 ≤ n) : ∃ ds : List Nat, numL r v = ds.map sgn ∧ (∀ d ∈ ds, d < r) ∧ valL r ds = v ∧ 1 ≤ ds.length ∧ ds.length ≤ n := by
  by_cases h : v = 0
  · subst h
    exact ⟨[0], rfl, by simp; omega, by simp [valL], by simp, by simpa using hn⟩
  · refine ⟨(digs r v).reverse, ?_, ?_, val_digs hr v, ?_, ?_⟩
    · unfold numL; rw [if_neg h, List.map_reverse]
    · intro d hd; exact digs_lt hr v d (List.mem_reverse.1 hd)
    · rw [List.length_reverse, digs_pos hr h, List.length_cons]; omega
    · rw [List.length_reverse]; exact digs_len' hr n v hv
theorem at_list {s : ByteArray} {l : List UInt8} (h : s.data.toList = l) (k : Nat) (hk : k < s.size) : l[k]? = some s[k] := by
  subst h
  rw [List.getElem?_eq_getElem (by simpa using hk)]
  rfl
theorem mid_facts {s : ByteArray} {pre post : List UInt8} {ds : List Nat} (h : s.data.toList = pre ++ (ds.map sgn ++ post)) :
    s.size = pre.length + ds.length + post.length ∧ (∀ j (hj : j < s.size), pre.length ≤ j → j < pre.length + ds.length → ∃ d ∈ ds, s[j] = sgn d) ∧ (s.extract pre.length (pre.length + ds.length)).data.toList = ds.map sgn := by
  have hsz : s.size = pre.length + ds.length + post.length := by
    have h1 : s.data.toList.length = s.size := by simp
    rw [h] at h1
    simp at h1; omega
  refine ⟨hsz, fun j hj h1 h2 => ?_, ?_⟩
  · have h3 := at_list h j hj
    rw [List.getElem?_append_right h1, List.getElem?_append_left (by simp; omega), List.getElem?_map] at h3
    obtain ⟨d, hd, he⟩ := Option.map_eq_some_iff.1 h3
    exact ⟨d, List.mem_of_getElem? hd, he.symm⟩
  · rw [Lib.extract_data, h, List.drop_left]
    rw [show pre.length + ds.length - pre.length = (ds.map sgn).length by simp, List.take_left]
theorem hexc_sgn {d : Nat} (h : d < 16) : hexc (sgn d).toNat := by
  rcases sgn_cases h with ⟨h1, h2⟩ | ⟨h1, h2⟩
  · exact .inl ⟨by omega, by omega⟩
  · exact .inr ⟨by omega, by omega⟩
theorem octc_sgn {d : Nat} (h : d < 8) : octc (sgn d).toNat := by
  rcases sgn_cases (show d < 16 by omega) with ⟨h1, h2⟩ | ⟨h1, h2⟩
  · exact ⟨by omega, by omega⟩
  · omega
theorem num_ok {b : Nat} {s : ByteArray} {num : List UInt8} {en : Nat} (h1 : 1 < s.size) (hs : s.size ≤ 5000) (h48 : s[0].toNat = 48) (h39 : s[1].toNat = 39) (hC : ChrOk b s num en) : FnOk 46 b s [] 4 ⟨#[]⟩ ⟨num.toArray⟩ en :=
  ⟨fun W hb hL c0 c1 => Tryz.number b s num en W hb h1 hs (Lib.hid h48) (Lib.hid h39) hC hL c0 c1⟩
theorem next_num {s : ByteArray} {num : List UInt8} {en : Nat} (h1 : 1 < s.size) (hs : s.size ≤ 5000) (h48 : s[0].toNat = 48) (h39 : s[1].toNat = 39) (hp : Lib.hasPrefix s.data.toList [47, 42] = false) (hC : ∀ b, ChrOk b s num en) (W : World) (hL : Laid0 W) :
    Calls Tryz.prog 12 #[.string s, .int .i64 0] W (NxSays 4 ⟨#[]⟩ ⟨num.toArray⟩ en W) :=
  Tryz.nextOk s 4 ⟨#[]⟩ ⟨num.toArray⟩ en W ⟨fun W' c0 c1 => Tryz.layout48 _ s W' (by omega) h48 hp c0 c1⟩
    ⟨fun W' hb hL' c0 c1 => Tryz.tokNum _ s 4 ⟨#[]⟩ ⟨num.toArray⟩ en W' hb (by omega) (num_ok h1 hs h48 h39 (hC _)) hL' (Lib.hid (by omega)) c0 c1⟩ hL
/-- 0' and a character. -/
theorem next_plain {s : ByteArray} {v : Nat} (h : s.data.toList = 48 :: 39 :: Lib.encodeRune v) (hok : okRune v) (n10 : v ≠ 10) (n39 : v ≠ 39) (n92 : v ≠ 92) (W : World) (hL : Laid0 W) :
    Calls Tryz.prog 12 #[.string s, .int .i64 0] W (NxSays 4 ⟨#[]⟩ ⟨(numL 10 v).toArray⟩ (2 + (Lib.encodeRune v).length) W) := by
  have hl := enc_len v
  have hsz : s.size = 2 + (Lib.encodeRune v).length := by
    have h1 : s.data.toList.length = s.size := by simp
    rw [h] at h1; simp at h1; omega
  have e0 : s[0].toNat = 48 := by
    have := at_list h 0 (by omega)
    rw [← Option.some.inj this]; rfl
  have e1 : s[1].toNat = 39 := by
    have := at_list h 1 (by omega)
    rw [← Option.some.inj this]; rfl
  have hvm := hok.2.1
  refine next_num (by omega) (by omega) e0 e1 (by rw [h]; rfl) (fun b => ⟨fun W' hb hL' c0 c1 => ?_⟩) W hL
  refine Tryz.chrPlain b s (s.extract 2 s.size) v (Lib.encodeRune v).length W' hb hsz (Lib.hid rfl) (Lib.hid ?_) (Lib.hid rfl) hl.2 hl.1 (Lib.hid hok) (by omega) n10 n39 n92 hL' c0 c1
  rw [Lib.extract_data, h]
  show List.take _ (Lib.encodeRune v) = _
  rw [List.take_of_length_le (by omega)]
/-- 0', and a character by its number. -/
theorem next_hex {s : ByteArray} {v : Nat} (h : s.data.toList = [48, 39, 92, 120] ++ (numL 16 v ++ [92])) (hok : okRune v) (W : World) (hL : Laid0 W) :
    Calls Tryz.prog 12 #[.string s, .int .i64 0] W (NxSays 4 ⟨#[]⟩ ⟨(numL 10 v).toArray⟩ s.size W) := by
  have hvm := hok.2.1
  obtain ⟨ds, e1, e2, e3, e4, e5⟩ := num_ds (r := 16) (by omega) 6 v (by omega) (by omega)
  rw [e1] at h
  obtain ⟨hsz, m1, m2⟩ := mid_facts h
  have hsz' : s.size = 4 + ds.length + 1 := hsz
  have m2' : (s.extract 4 (4 + ds.length)).data.toList = ds.map sgn := m2
  have b0 : s[0].toNat = 48 := by have := at_list h 0 (by omega); rw [← Option.some.inj this]; rfl
  have b1 : s[1].toNat = 39 := by have := at_list h 1 (by omega); rw [← Option.some.inj this]; rfl
  have b3 : s[3].toNat = 120 := by have := at_list h 3 (by omega); rw [← Option.some.inj this]; rfl
  have be : s[4 + ds.length].toNat = 92 := by
    have := at_list h (4 + ds.length) (by omega)
    rw [List.getElem?_append_right (by simp), List.getElem?_append_right (by simp)] at this
    simp at this
    rw [← this]; rfl
  refine hsz' ▸ next_num (by omega) (by omega) b0 b1 (by rw [h]; rfl) (fun b => ⟨fun W' hb hL' c0 c1 => ?_⟩) W hL
  refine Tryz.chrHex b s (s.extract 2 s.size) v (4 + ds.length) (120 :: (ds.map sgn ++ [92])) ds W' hb (by omega) (by omega) (Lib.hid rfl) (Lib.hid ?_) (Lib.hid hok) (by omega) (by omega) (by omega) (by omega) (Lib.hid b3) (Lib.hid fun j hj h1 h2 => ?_) (Lib.hid be) (Lib.hid m2') (by omega) (Lib.hid e2) (Lib.hid e3) hL' c0 c1
  · rw [Lib.extract_data, h]
    show List.take _ (92 :: 120 :: (ds.map sgn ++ [92])) = _
    rw [List.take_of_length_le (by simp; omega)]
  · obtain ⟨d, hd, hds⟩ := m1 j hj h1 h2
    rw [hds]
    exact hexc_sgn (e2 d hd)
theorem decode_at_low (t : ByteArray) (pos : Nat) (h : pos < t.data.toList.length) (hx : (t.data.toList[pos]).toNat < 128) : Utf8.decode t pos = ((t.data.toList[pos]).toNat, 1) :=
  decode_low t pos _ _ hx (List.drop_eq_getElem_cons h)
/-- A quoted one, of one escape. -/
theorem next_esc {s : ByteArray} {v : Nat} (h : s.data.toList = [39, 92] ++ (numL 8 v ++ [92, 39])) (hok : okRune v) (W : World) (hL : Laid0 W) :
    Calls Tryz.prog 12 #[.string s, .int .i64 0] W (NxSays 2 ⟨(Lib.encodeRune v).toArray⟩ ⟨#[]⟩ s.size W) := by
  have hvm := hok.2.1
  obtain ⟨ds, e1, e2, e3, e4, e5⟩ := num_ds (r := 8) (by omega) 7 v (by omega) (by omega)
  rw [e1] at h
  obtain ⟨hsz, m1, m2⟩ := mid_facts h
  have hsz' : s.size = 2 + ds.length + 2 := hsz
  have m2' : (s.extract 2 (2 + ds.length)).data.toList = ds.map sgn := m2
  have b0 : s[0].toNat = 39 := by have := at_list h 0 (by omega); rw [← Option.some.inj this]; rfl
  have be : s[2 + ds.length].toNat = 92 := by
    have := at_list h (2 + ds.length) (by omega)
    rw [List.getElem?_append_right (by simp), List.getElem?_append_right (by simp)] at this
    simp at this
    rw [← this]; rfl
  obtain ⟨t, ht⟩ : ∃ t, s.extract 1 s.size = t := ⟨_, rfl⟩
  have htl : t.data.toList = 92 :: (ds.map sgn ++ [92, 39]) := by
    rw [← ht, Lib.extract_data, h]
    show List.take _ (92 :: (ds.map sgn ++ [92, 39])) = _
    rw [List.take_of_length_le (by simp; omega)]
  have htz : t.size = 2 + ds.length + 1 := by
    have h1 : t.data.toList.length = t.size := by simp
    rw [htl] at h1; simp at h1; omega
  have hlen : t.data.toList.length = 2 + ds.length + 1 := by rw [htl]; simp; omega
  have hlow : ∀ x ∈ t.data.toList, x.toNat < 128 := by
    intro x hx
    rw [htl] at hx
    simp only [List.mem_cons, List.mem_append, List.mem_map, List.mem_nil_iff, or_false] at hx
    rcases hx with rfl | ⟨d, hd, rfl⟩ | rfl | rfl
    · decide
    · have := octc_sgn (e2 d hd); unfold octc at this; omega
    · decide
    · decide
  have d0 : Utf8.decode t 0 = (92, 1) := decode_low t 0 92 _ (by decide) (by rw [List.drop_zero, htl])
  have d1 : ∀ pos, 1 ≤ pos → pos < 2 + ds.length → ∃ c, c < 128 ∧ Utf8.decode t pos = (c, 1) := by
    intro pos _ h2
    have hp : pos < t.data.toList.length := by omega
    have hx := hlow _ (List.getElem_mem hp)
    exact ⟨_, hx, decode_at_low t pos hp hx⟩
  have d2 : Utf8.decode t (2 + ds.length) = (39, 1) := by
    refine decode_low t _ 39 [] (by decide) ?_
    rw [htl, show 2 + ds.length = (ds.map sgn).length + 1 + 1 by simp; omega, List.drop_succ_cons, ← List.drop_drop, List.drop_left]
    rfl
  have hx2 : octc s[2].toNat := by
    obtain ⟨d, hd, hds⟩ := m1 2 (by omega) (by simp) (by simp; omega)
    rw [hds]; exact octc_sgn (e2 d hd)
  refine Tryz.nextOk s 2 _ ⟨#[]⟩ s.size W ⟨fun W' c0 c1 => Tryz.layout _ s W' (by omega) b0 (by rw [h]; rfl) c0 c1⟩
    ⟨fun W' hb hL' c0 c1 => Tryz.tokQuo _ s 2 _ ⟨#[]⟩ s.size W' hb (by omega) ⟨fun W2 hb2 _ c2 c3 => ?_⟩ hL' (Lib.hid (by omega)) c0 c1⟩ hL
  exact Tryz.quotedEsc _ s t v (2 + ds.length) ds W2 hb2 (by omega) (by omega) ht htz (Lib.hid d0) (Lib.hid d1) (Lib.hid d2) (by omega) (by omega) (by omega) (Lib.hid hx2)
    (Lib.hid fun j hj h1 h2 => by obtain ⟨d, hd, hds⟩ := m1 j hj h1 h2; rw [hds]; exact octc_sgn (e2 d hd)) (Lib.hid be) (Lib.hid m2') (by omega) (Lib.hid e2) (Lib.hid e3) (Lib.hid hok) (by omega) c2 c3
end Go.Proofs
