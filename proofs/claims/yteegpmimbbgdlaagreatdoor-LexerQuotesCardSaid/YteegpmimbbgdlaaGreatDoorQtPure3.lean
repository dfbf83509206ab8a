/- Where the loop of 'quoted' is, and how each kind of character takes it on (plain law). -/
import Derived.Test.YteegpmimbbgdlaaGreatDoorQtPure2
import Derived.Lib.Small
namespace Go.Hb
theorem enc39 : Lib.encodeRune 39 = [39] := by decide
theorem enc92 : Lib.encodeRune 92 = [92] := by decide
theorem enc10 : Lib.encodeRune 10 = [10] := by decide
theorem runeLen_ok {v : Int} (h : okRune v) : Lib.runeLen v = (Lib.encodeRune v).length := by
  have h0 := h
  unfold okRune at h0
  rcases h.cases with c | c | c | c
  · rw [enc_bytes, Lib.encodeRuneZ_one c.1 c.2]; simp [Lib.runeLen]; omega
  · rw [enc_bytes, Lib.encodeRuneZ_two c.1 c.2]; unfold Lib.runeLen; rw [if_neg (by omega), if_neg (by omega), if_pos (by omega)]; rfl
  · rw [enc_bytes, Lib.encodeRuneZ_three c]; unfold Lib.runeLen; rw [if_neg (by omega), if_neg (by omega), if_neg (by omega), if_neg (by omega), if_pos (by omega)]; rfl
  · rw [enc_bytes, Lib.encodeRuneZ_four c.1 c.2]; unfold Lib.runeLen; rw [if_neg (by omega), if_neg (by omega), if_neg (by omega), if_neg (by omega), if_neg (by omega), if_pos (by omega)]; rfl
theorem enc_len (v : Int) : 1 ≤ (Lib.encodeRune v).length ∧ (Lib.encodeRune v).length ≤ 4 := by
  have := Lib.encodeRuneZ_length v
  rw [enc_bytes, List.length_map]; exact this
/-- A byte that stands there, of those below 128: what is read. -/
theorem decode_low (t : ByteArray) (p : Nat) (x : UInt8) (r : List UInt8) (hx : x.toNat < 128) (h : t.data.toList.drop p = x :: r) : Utf8.decode t p = (x.toNat, 1) := by
  rw [decode_drop t p _ h]
  simp [Lib.decodeN, hx]
theorem drop_lt {t : ByteArray} {p : Nat} {x : UInt8} {r : List UInt8} (h : t.data.toList.drop p = x :: r) : p + 1 + r.length = t.size := by
  have h1 := congrArg List.length h
  rw [List.length_drop, List.length_cons] at h1
  have h2 : t.data.toList.length = t.size := by simp
  omega
theorem drop_get {t : ByteArray} {p : Nat} {x : UInt8} {r : List UInt8} (h : t.data.toList.drop p = x :: r) (hp : p < t.size) : t[p] = x := by
  have h1 := drop_at t p hp
  rw [h] at h1
  have h2 := (List.cons.inj h1).1
  rw [List.getD_eq_getElem?_getD, List.getElem?_eq_getElem (by simpa using hp)] at h2
  exact h2.symm
theorem drop_next {t : ByteArray} {p : Nat} {x : UInt8} {r : List UInt8} (h : t.data.toList.drop p = x :: r) : t.data.toList.drop (p + 1) = r := by
  rw [← List.drop_drop, h]; rfl
theorem chars_cases {rest : List UInt8} (h : Chars rest) : rest = [] ∨ ∃ v l, okRune v ∧ Chars l ∧ rest = Lib.encodeRune v ++ l := by
  cases h with
  | nil => exact .inl rfl
  | cons v l hv hl => exact .inr ⟨v, l, hv, hl, rfl⟩
/-- Where the loop is: ready for a character; or one byte is to be passed over. -/
def AtA (name : List UInt8) (t : ByteArray) (acc : List UInt8) (p : Nat) (rest : List UInt8) : Prop := Chars rest ∧ acc ++ rest = name ∧ t.data.toList.drop p = qb rest ++ [39]
def AtB (name : List UInt8) (t : ByteArray) (acc : List UInt8) (p : Nat) (rest : List UInt8) : Prop := Chars rest ∧ acc ++ rest = name ∧ ∃ x : UInt8, x.toNat < 128 ∧ t.data.toList.drop p = x :: (qb rest ++ [39])
theorem AtB.step {name : List UInt8} {t : ByteArray} {acc : List UInt8} {p : Nat} {rest : List UInt8} (h : AtB name t acc p rest) : ∃ c : Nat, c < 128 ∧ Utf8.decode t p = (c, 1) ∧ p + 1 < t.size ∧ AtA name t acc (p + 1) rest := by
  obtain ⟨h1, h2, x, hx, hd⟩ := h
  have h3 := drop_lt hd
  rw [List.length_append] at h3
  exact ⟨x.toNat, hx, decode_low t p x _ hx hd, by simp at h3; omega, h1, h2, drop_next hd⟩
theorem AtA.end {name : List UInt8} {t : ByteArray} {acc : List UInt8} {p : Nat} (h : AtA name t acc p []) : acc = name ∧ Utf8.decode t p = (39, 1) ∧ p + 1 = t.size := by
  obtain ⟨_, h2, hd⟩ := h
  rw [qb_nil, List.nil_append] at hd
  exact ⟨by simpa using h2, decode_low t p 39 [] (by decide) hd, by simpa using drop_lt hd⟩
/-- A quote, a backslash, a line's end. -/
theorem AtA.pair {name : List UInt8} {t : ByteArray} {acc : List UInt8} {p : Nat} {l : List UInt8} {c a b : UInt8} (hq : qc c = [a, b]) (hc : Lib.encodeRune (c.toNat : Int) = [c]) (ha : a.toNat < 128) (hb : b.toNat < 128) (hl : Chars l)
    (h : AtA name t acc p (Lib.encodeRune (c.toNat : Int) ++ l)) : Utf8.decode t p = (a.toNat, 1) ∧ p + 2 < t.size ∧ (∀ h : p + 1 < t.size, t[p + 1] = b) ∧ AtB name t (acc ++ [c]) (p + 1) l := by
  obtain ⟨_, h2, hd⟩ := h
  rw [hc] at h2 hd
  have e : qb ([c] ++ l) ++ [39] = a :: b :: (qb l ++ [39]) := by
    rw [qb_app, qb_cons, qb_nil, List.append_nil, hq]; rfl
  rw [e] at hd
  have h3 := drop_lt hd
  have h4 := drop_next hd
  rw [List.length_cons, List.length_append] at h3
  refine ⟨decode_low t p a _ ha hd, by simp at h3; omega, fun hp => drop_get h4 hp, hl, by rw [← h2]; simp, b, hb, h4⟩
/-- Any other character. -/
theorem AtA.other {name : List UInt8} {t : ByteArray} {acc : List UInt8} {p : Nat} {l : List UInt8} {v : Int} (hv : okRune v) (h39 : v ≠ 39) (h92 : v ≠ 92) (h10 : v ≠ 10) (hl : Chars l)
    (h : AtA name t acc p (Lib.encodeRune v ++ l)) : Utf8.decode t p = (v.toNat, (Lib.encodeRune v).length) ∧ p + (Lib.encodeRune v).length < t.size ∧ AtA name t (acc ++ Lib.encodeRune v) (p + (Lib.encodeRune v).length) l := by
  obtain ⟨_, h2, hd⟩ := h
  rw [qb_enc hv h39 h92 h10, List.append_assoc] at hd
  have h3 := congrArg List.length hd
  rw [List.length_drop, List.length_append, List.length_append] at h3
  have h4 : t.data.toList.length = t.size := by simp
  refine ⟨decode_enc t p hv _ hd, by simp at h3; omega, hl, by rw [← h2, List.append_assoc], ?_⟩
  rw [← List.drop_drop, hd, List.drop_left]
theorem AtA.replacement {name : List UInt8} {t : ByteArray} {acc : List UInt8} {p : Nat} {l : List UInt8} (h : AtA name t acc p (Lib.encodeRune 65533 ++ l)) : (t.data.toList.drop p).take 3 = [239, 191, 189] := by
  obtain ⟨_, _, hd⟩ := h
  rw [hd, qb_app]
  rfl
theorem acc_le {name acc rest : List UInt8} (h : acc ++ rest = name) : acc.length ≤ name.length := by
  rw [← h, List.length_append]; omega
end Go.Hb
