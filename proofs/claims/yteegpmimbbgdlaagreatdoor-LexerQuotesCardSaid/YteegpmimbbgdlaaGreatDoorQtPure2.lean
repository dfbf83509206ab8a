/- What hornbeamref03.Char tells of a place (plain law). -/
import Derived.Test.YteegpmimbbgdlaaGreatDoorQtPure
namespace Go.Hb
def byt (s : ByteArray) (k : Nat) : Int := ((s.data.toList.getD k 0).toNat : Int)
theorem byt_lo (s : ByteArray) (k : Nat) : 0 ≤ byt s k := by unfold byt; omega
theorem byt_hi (s : ByteArray) (k : Nat) : byt s k < 256 := by unfold byt; have := (s.data.toList.getD k 0).toNat_lt; omega
theorem byt_in (s : ByteArray) (k : Nat) (h : k < s.size) : byt s k = (s[k].toNat : Int) := by
  unfold byt
  rw [List.getD_eq_getElem?_getD, List.getElem?_eq_getElem (by simpa using h)]
  rfl
theorem byt_out (s : ByteArray) (k : Nat) (h : s.size ≤ k) : byt s k = 0 := by
  unfold byt
  rw [List.getD_eq_getElem?_getD, List.getElem?_eq_none (by simpa using h)]
  rfl
instance (v : Int) : Decidable (okRune v) := by unfold okRune; infer_instance
def mayB (v : Int) : Bool := decide (okRune v)
/-- What Char tells: no character (0), or one that stands there. -/
def CharOk (l : List UInt8) (p : Nat) (v n : Int) : Prop := n = 0 ∨ (okRune v ∧ n = (Lib.encodeRune v).length ∧ ∃ r, l.drop p = Lib.encodeRune v ++ r)
def Acc (b1 b2 b3 v0 : Int) (k : Nat) (v : Int) : Prop :=
  (k = 1 ∧ v = v0) ∨ (k = 2 ∧ (128 ≤ b1 ∧ b1 < 192) ∧ v = v0 * 64 + b1 - 128) ∨ (k = 3 ∧ (128 ≤ b1 ∧ b1 < 192) ∧ (128 ≤ b2 ∧ b2 < 192) ∧ v = (v0 * 64 + b1 - 128) * 64 + b2 - 128) ∨
    (k = 4 ∧ (128 ≤ b1 ∧ b1 < 192) ∧ (128 ≤ b2 ∧ b2 < 192) ∧ (128 ≤ b3 ∧ b3 < 192) ∧ v = ((v0 * 64 + b1 - 128) * 64 + b2 - 128) * 64 + b3 - 128)
theorem toU_getD (s : ByteArray) (k : Nat) : (byt s k).toNat.toUInt8 = s.data.toList.getD k 0 := by
  unfold byt
  rw [Int.toNat_natCast]
  apply UInt8.toNat_inj.1
  rw [toU _ (UInt8.toNat_lt _)]
theorem drop_at (s : ByteArray) (p : Nat) (h : p < s.size) : s.data.toList.drop p = s.data.toList.getD p 0 :: s.data.toList.drop (p + 1) := by
  rw [List.drop_eq_getElem_cons (by simpa using h), List.getD_eq_getElem?_getD, List.getElem?_eq_getElem (by simpa using h)]
  rfl
theorem lt_of_high (s : ByteArray) (k : Nat) (h : 128 ≤ byt s k) : k < s.size := by
  rcases Nat.lt_or_ge k s.size with h1 | h1
  · exact h1
  · rw [byt_out s k h1] at h; omega
theorem char_one (s : ByteArray) (p : Nat) (h : p < s.size) (h1 : byt s p < 128) : CharOk s.data.toList p (byt s p) 1 := by
  have h0 := byt_lo s p
  refine .inr ⟨⟨h0, by omega, .inl (by omega)⟩, ?_, s.data.toList.drop (p + 1), ?_⟩
  · rw [enc_one h0 (by omega)]; rfl
  · rw [enc_one h0 (by omega), toU_getD, drop_at s p h]; rfl
theorem map_two (a b : Int) : ([a, b] : List Int).map (fun x => x.toNat.toUInt8) = [a.toNat.toUInt8, b.toNat.toUInt8] := rfl
theorem char_two (s : ByteArray) (p : Nat) (v : Int) (h0 : 192 ≤ byt s p ∧ byt s p < 224) (h1 : 128 ≤ byt s (p + 1) ∧ byt s (p + 1) < 192) (hv : v = (byt s p - 192) * 64 + byt s (p + 1) - 128) (hl : 128 ≤ v) (hm : mayB v = true) :
    CharOk s.data.toList p v 2 := by
  have hm := of_decide_eq_true hm
  have e0 : 192 + v / 64 = byt s p := by omega
  have e1 : 128 + v % 64 = byt s (p + 1) := by omega
  have he : Lib.encodeRune v = [s.data.toList.getD p 0, s.data.toList.getD (p + 1) 0] := by
    rw [enc_bytes, Lib.encodeRuneZ_two hl (by omega), e0, e1, map_two, toU_getD, toU_getD]
  refine .inr ⟨hm, by rw [he]; rfl, s.data.toList.drop (p + 2), ?_⟩
  rw [he, drop_at s p (lt_of_high s p (by omega)), drop_at s (p + 1) (lt_of_high s (p + 1) h1.1)]
  rfl
theorem char_three (s : ByteArray) (p : Nat) (v : Int) (h0 : 224 ≤ byt s p ∧ byt s p < 240) (h1 : 128 ≤ byt s (p + 1) ∧ byt s (p + 1) < 192) (h2 : 128 ≤ byt s (p + 2) ∧ byt s (p + 2) < 192)
    (hv : v = ((byt s p - 224) * 64 + byt s (p + 1) - 128) * 64 + byt s (p + 2) - 128) (hl : 2048 ≤ v) (hm : mayB v = true) :
    CharOk s.data.toList p v 3 := by
  have hm := of_decide_eq_true hm
  have hm' := hm
  unfold okRune at hm'
  have e0 : 224 + v / 4096 = byt s p := by omega
  have e1 : 128 + v / 64 % 64 = byt s (p + 1) := by omega
  have e2 : 128 + v % 64 = byt s (p + 2) := by omega
  have he : Lib.encodeRune v = [s.data.toList.getD p 0, s.data.toList.getD (p + 1) 0, s.data.toList.getD (p + 2) 0] := by
    rw [enc_bytes, Lib.encodeRuneZ_three (by omega), e0, e1, e2, ← toU_getD, ← toU_getD, ← toU_getD]
    rfl
  refine .inr ⟨hm, by rw [he]; rfl, s.data.toList.drop (p + 3), ?_⟩
  rw [he, drop_at s p (lt_of_high s p (by omega)), drop_at s (p + 1) (lt_of_high s (p + 1) h1.1), drop_at s (p + 1 + 1) (lt_of_high s (p + 2) h2.1)]
  rfl
theorem char_four (s : ByteArray) (p : Nat) (v : Int) (h0 : 240 ≤ byt s p ∧ byt s p < 248) (h1 : 128 ≤ byt s (p + 1) ∧ byt s (p + 1) < 192) (h2 : 128 ≤ byt s (p + 2) ∧ byt s (p + 2) < 192) (h3 : 128 ≤ byt s (p + 3) ∧ byt s (p + 3) < 192)
    (hv : v = (((byt s p - 240) * 64 + byt s (p + 1) - 128) * 64 + byt s (p + 2) - 128) * 64 + byt s (p + 3) - 128) (hl : 65536 ≤ v) (hm : mayB v = true) :
    CharOk s.data.toList p v 4 := by
  have hm := of_decide_eq_true hm
  have hm' := hm
  unfold okRune at hm'
  have e0 : 240 + v / 262144 = byt s p := by omega
  have e1 : 128 + v / 4096 % 64 = byt s (p + 1) := by omega
  have e2 : 128 + v / 64 % 64 = byt s (p + 2) := by omega
  have e3 : 128 + v % 64 = byt s (p + 3) := by omega
  have he : Lib.encodeRune v = [s.data.toList.getD p 0, s.data.toList.getD (p + 1) 0, s.data.toList.getD (p + 2) 0, s.data.toList.getD (p + 3) 0] := by
    rw [enc_bytes, Lib.encodeRuneZ_four (by omega) (by omega), e0, e1, e2, e3, ← toU_getD, ← toU_getD, ← toU_getD, ← toU_getD]
    rfl
  refine .inr ⟨hm, by rw [he]; rfl, s.data.toList.drop (p + 4), ?_⟩
  rw [he, drop_at s p (lt_of_high s p (by omega)), drop_at s (p + 1) (lt_of_high s (p + 1) h1.1), drop_at s (p + 1 + 1) (lt_of_high s (p + 2) h2.1), drop_at s (p + 1 + 1 + 1) (lt_of_high s (p + 3) h3.1)]
  rfl
/-- What is told at the loop's end, by the number of bytes. -/
theorem Acc.two {s : ByteArray} {p : Nat} {k : Nat} {v : Int} (h0 : 192 ≤ byt s p ∧ byt s p < 224) (h : Acc (byt s (p + 1)) (byt s (p + 2)) (byt s (p + 3)) (byt s p - 192) k v) (hk : k = 2) (hl : ¬ v < 128) (hm : mayB v = true) : CharOk s.data.toList p v 2 := by
  subst hk
  rcases h with ⟨h, _⟩ | ⟨_, h1, h2⟩ | ⟨h, _⟩ | ⟨h, _⟩ <;> first | omega | exact char_two s p v h0 h1 h2 (by omega) hm
theorem Acc.three {s : ByteArray} {p : Nat} {k : Nat} {v : Int} (h0 : 224 ≤ byt s p ∧ byt s p < 240) (h : Acc (byt s (p + 1)) (byt s (p + 2)) (byt s (p + 3)) (byt s p - 224) k v) (hk : k = 3) (hl : ¬ v < 2048) (hm : mayB v = true) : CharOk s.data.toList p v 3 := by
  subst hk
  rcases h with ⟨h, _⟩ | ⟨h, _⟩ | ⟨_, h1, h2, h3⟩ | ⟨h, _⟩ <;> first | omega | exact char_three s p v h0 h1 h2 h3 (by omega) hm
theorem Acc.four {s : ByteArray} {p : Nat} {k : Nat} {v : Int} (h0 : 240 ≤ byt s p ∧ byt s p < 248) (h : Acc (byt s (p + 1)) (byt s (p + 2)) (byt s (p + 3)) (byt s p - 240) k v) (hk : k = 4) (hl : ¬ v < 65536) (hm : mayB v = true) : CharOk s.data.toList p v 4 := by
  subst hk
  rcases h with ⟨h, _⟩ | ⟨h, _⟩ | ⟨h, _⟩ | ⟨_, h1, h2, h3, h4⟩ <;> first | omega | exact char_four s p v h0 h1 h2 h3 h4 (by omega) hm
theorem Acc.bound {b1 b2 b3 v0 : Int} {k : Nat} {v : Int} (h : Acc b1 b2 b3 v0 k v) (h0 : 0 ≤ v0 ∧ v0 < 32) : 0 ≤ v ∧ v < 8388608 ∧ 1 ≤ k ∧ k ≤ 4 := by
  unfold Acc at h; omega
theorem Acc.step {b1 b2 b3 v0 : Int} {k : Nat} {v b : Int} (h : Acc b1 b2 b3 v0 k v) (hk : k < 4) (hb : 128 ≤ b ∧ b < 192) (e : (k = 1 → b = b1) ∧ (k = 2 → b = b2) ∧ (k = 3 → b = b3)) : Acc b1 b2 b3 v0 (k + 1) (v * 64 + b - 128) := by
  rcases h with ⟨h, h1⟩ | ⟨h, h1, h2⟩ | ⟨h, h1, h2, h3⟩ | ⟨h, _⟩
  · have := e.1 h; subst this h1 h; exact .inr (.inl ⟨rfl, hb, rfl⟩)
  · have := e.2.1 h; subst this h2 h; exact .inr (.inr (.inl ⟨rfl, h1, hb, rfl⟩))
  · have := e.2.2 h; subst this h3 h; exact .inr (.inr (.inr ⟨rfl, h1, h2, hb, rfl⟩))
  · omega
/-- A walk by characters, to the end: all is characters. -/
theorem chars_drop {l : List UInt8} {p : Nat} (h : Chars (l.drop p)) : p = 0 → Chars l := by
  rintro rfl; simpa using h
end Go.Hb
