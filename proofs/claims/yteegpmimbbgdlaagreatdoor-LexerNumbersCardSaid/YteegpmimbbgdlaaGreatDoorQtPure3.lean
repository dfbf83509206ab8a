import Derived.Lib.RuneBytes
import Derived.Lib.TrimUEq
import Derived.Lib.Small
/- The plain law of LexerQuotes: characters, quoting, what is read back. No model's run in this text. -/
namespace Go.Hb

def okRune (v : Int) : Prop := 0 ≤ v ∧ v ≤ 1114111 ∧ (v < 55296 ∨ 57343 < v)

inductive Chars : List UInt8 → Prop
  | nil : Chars []
  | cons (v : Int) (l : List UInt8) : okRune v → Chars l → Chars (Lib.encodeRune v ++ l)

def qc (c : UInt8) : List UInt8 := if c = 39 then [39, 39] else if c = 92 then [92, 92] else if c = 10 then [92, 110] else [c]
def qb (l : List UInt8) : List UInt8 := l.flatMap qc
def quote (l : List UInt8) : List UInt8 := 39 :: (qb l ++ [39])

theorem qb_nil : qb [] = [] := rfl
theorem qb_cons (c : UInt8) (l : List UInt8) : qb (c :: l) = qc c ++ qb l := by simp [qb]
theorem qb_app (a b : List UInt8) : qb (a ++ b) = qb a ++ qb b := by simp [qb]
theorem qc_len (c : UInt8) : 1 ≤ (qc c).length ∧ (qc c).length ≤ 2 := by
  unfold qc
  split
  · simp
  · split
    · simp
    · split <;> simp
theorem qb_len : ∀ l : List UInt8, l.length ≤ (qb l).length ∧ (qb l).length ≤ 2 * l.length
  | [] => by simp [qb_nil]
  | c :: l => by rw [qb_cons, List.length_append, List.length_cons]; have := qb_len l; have := qc_len c; omega

theorem enc_bytes (v : Int) : Lib.encodeRune v = (Lib.encodeRuneZ v).map fun x => x.toNat.toUInt8 := rfl

theorem okRune.cases {v : Int} (h : okRune v) : (0 ≤ v ∧ v ≤ 127) ∨ (128 ≤ v ∧ v ≤ 2047) ∨ ((2048 ≤ v ∧ v < 55296) ∨ (57343 < v ∧ v ≤ 65535)) ∨ (65536 ≤ v ∧ v ≤ 1114111) := by
  unfold okRune at h; omega

theorem toU (n : Nat) (h : n < 256) : n.toUInt8.toNat = n := by
  simp only [Nat.toUInt8, UInt8.toNat_ofNat']; omega

theorem enc_high {v : Int} (h : okRune v) (hv : 128 ≤ v) : ∀ c ∈ Lib.encodeRune v, 128 ≤ c.toNat := by
  intro c hc
  rw [enc_bytes] at hc
  obtain ⟨x, hx, rfl⟩ := List.mem_map.1 hc
  have hb := Lib.encodeRuneZ_byte v x hx
  rw [toU _ (by omega)]
  rcases h.cases with c1 | c1 | c1 | c1
  · omega
  · rw [Lib.encodeRuneZ_two c1.1 c1.2] at hx; simp at hx; omega
  · rw [Lib.encodeRuneZ_three c1] at hx; simp at hx; omega
  · rw [Lib.encodeRuneZ_four c1.1 c1.2] at hx; simp at hx; omega

theorem enc_one {v : Int} (h0 : 0 ≤ v) (h1 : v ≤ 127) : Lib.encodeRune v = [v.toNat.toUInt8] := by
  rw [enc_bytes, Lib.encodeRuneZ_one h0 h1]; rfl

theorem qc_self {c : UInt8} (h1 : c ≠ 39) (h2 : c ≠ 92) (h3 : c ≠ 10) : qc c = [c] := by simp [qc, h1, h2, h3]

theorem qb_self : ∀ l : List UInt8, (∀ c ∈ l, c ≠ 39 ∧ c ≠ 92 ∧ c ≠ 10) → qb l = l
  | [], _ => rfl
  | c :: l, h => by
    have hc := h c (by simp)
    rw [qb_cons, qc_self hc.1 hc.2.1 hc.2.2, qb_self l (fun x hx => h x (by simp [hx]))]; rfl

theorem u8_ne {c : UInt8} {n : Nat} (hn : n < 256) (h : c.toNat ≠ n) : c ≠ n.toUInt8 := by
  intro e; apply h; rw [e, toU n hn]

theorem qb_enc {v : Int} (h : okRune v) (h39 : v ≠ 39) (h92 : v ≠ 92) (h10 : v ≠ 10) (l : List UInt8) : qb (Lib.encodeRune v ++ l) = Lib.encodeRune v ++ qb l := by
  rw [qb_app, qb_self]
  intro c hc
  by_cases hv : 128 ≤ v
  · have := enc_high h hv c hc
    exact ⟨u8_ne (n := 39) (by omega) (by omega), u8_ne (n := 92) (by omega) (by omega), u8_ne (n := 10) (by omega) (by omega)⟩
  · have h0 : 0 ≤ v := h.1
    rw [enc_one h0 (by omega)] at hc
    simp only [List.mem_singleton] at hc
    have : c.toNat = v.toNat := by rw [hc, toU _ (by omega)]
    exact ⟨u8_ne (n := 39) (by omega) (by omega), u8_ne (n := 92) (by omega) (by omega), u8_ne (n := 10) (by omega) (by omega)⟩

theorem decode_drop (s : ByteArray) (p : Nat) (l : List UInt8) (h : s.data.toList.drop p = l) : Utf8.decode s p = Lib.decodeN l.length (l.getD 0 0).toNat (l.getD 1 0).toNat (l.getD 2 0).toNat (l.getD 3 0).toNat := by
  subst h
  rw [Lib.decode_N, List.length_drop, Lib.getD_dropU, Lib.getD_dropU, Lib.getD_dropU, Lib.getD_dropU]; rfl

theorem decode_enc (s : ByteArray) (p : Nat) {v : Int} (hv : okRune v) (l : List UInt8) (h : s.data.toList.drop p = Lib.encodeRune v ++ l) :
    Utf8.decode s p = (v.toNat, (Lib.encodeRune v).length) := by
  rw [decode_drop s p _ h]
  clear h
  obtain ⟨n, rfl⟩ : ∃ n : Nat, v = n := ⟨v.toNat, by have := hv.1; omega⟩
  rcases hv.cases with c1 | c1 | c1 | c1
  · rw [enc_bytes, Lib.encodeRuneZ_one c1.1 c1.2]
    have h0 := toU n (by omega)
    simp [Lib.decodeN, List.getD, h0]; omega
  · rw [enc_bytes, Lib.encodeRuneZ_two c1.1 c1.2]
    have e0 : (192 + (n : Int) / 64).toNat = 192 + n / 64 := by omega
    have e1 : (128 + (n : Int) % 64).toNat = 128 + n % 64 := by omega
    have h0 := toU (192 + n / 64) (by omega)
    have h1 := toU (128 + n % 64) (by omega)
    simp only [List.map, List.getD, List.cons_append, List.nil_append, List.getElem?_cons_zero, List.getElem?_cons_succ, Option.getD, List.length_cons, e0, e1, h0, h1]
    unfold Lib.decodeN
    rw [if_neg (by omega), if_pos (by omega), if_pos (by omega)]
    simp; omega
  · rw [enc_bytes, Lib.encodeRuneZ_three c1]
    have e0 : (224 + (n : Int) / 4096).toNat = 224 + n / 4096 := by omega
    have e1 : (128 + (n : Int) / 64 % 64).toNat = 128 + n / 64 % 64 := by omega
    have e2 : (128 + (n : Int) % 64).toNat = 128 + n % 64 := by omega
    have h0 := toU (224 + n / 4096) (by omega)
    have h1 := toU (128 + n / 64 % 64) (by omega)
    have h2 := toU (128 + n % 64) (by omega)
    simp only [List.map, List.getD, List.cons_append, List.nil_append, List.getElem?_cons_zero, List.getElem?_cons_succ, Option.getD, List.length_cons, e0, e1, e2, h0, h1, h2]
    unfold Lib.decodeN
    rw [if_neg (by omega), if_neg (by omega), if_pos (by omega), if_pos (by omega)]
    simp; omega
  · rw [enc_bytes, Lib.encodeRuneZ_four c1.1 c1.2]
    have e0 : (240 + (n : Int) / 262144).toNat = 240 + n / 262144 := by omega
    have e1 : (128 + (n : Int) / 4096 % 64).toNat = 128 + n / 4096 % 64 := by omega
    have e2 : (128 + (n : Int) / 64 % 64).toNat = 128 + n / 64 % 64 := by omega
    have e3 : (128 + (n : Int) % 64).toNat = 128 + n % 64 := by omega
    have h0 := toU (240 + n / 262144) (by omega)
    have h1 := toU (128 + n / 4096 % 64) (by omega)
    have h2 := toU (128 + n / 64 % 64) (by omega)
    have h3 := toU (128 + n % 64) (by omega)
    simp only [List.map, List.getD, List.cons_append, List.nil_append, List.getElem?_cons_zero, List.getElem?_cons_succ, Option.getD, List.length_cons, e0, e1, e2, e3, h0, h1, h2, h3]
    unfold Lib.decodeN
    rw [if_neg (by omega), if_neg (by omega), if_neg (by omega), if_pos (by omega), if_pos (by omega)]
    simp; omega

/-- Where the loop of 'quoted' is: what is still to come of the name; one byte may be passed over. -/
def At (name : List UInt8) (t : List UInt8) (acc : List UInt8) (p skip : Nat) (rest : List UInt8) : Prop :=
  Chars rest ∧ acc ++ rest = name ∧ ((t.drop p = qb rest ++ [39] ∧ skip = p + 1) ∨ (∃ x : UInt8, x.toNat < 128 ∧ t.drop p = x :: (qb rest ++ [39]) ∧ skip = p + 2))

end Go.Hb
/- What hornbeamref03.Char tells of a place (plain law). -/
namespace Go.Hb
def byt (s : ByteArray) (k : Nat) : Int := ((s.data.toList.getD k 0).toNat : Int)
theorem byt_lo (s : ByteArray) (k : Nat) : 0 ≤ byt s k := by unfold byt; omega
theorem byt_hi (s : ByteArray) (k : Nat) : byt s k < 256 := by unfold byt; have := (s.data.toList.getD k 0).toNat_lt; omega
theorem byt_in (s : ByteArray) (k : Nat) (h : k < s.size) : byt s k = (s[k].toNat : Int) := by
  unfold byt
  rw [List.getD_eq_getElem?_getD, List.getElem?_eq_getElem (by simpa using h)]
  rfl
theorem byt_out (s : ByteArray) (k : Nat) (h : s.size ≤ k) : byt s k = 0 := by
  unfold byt
  rw [List.getD_eq_getElem?_getD, List.getElem?_eq_none (by simpa using h)]
  rfl
instance (v : Int) : Decidable (okRune v) := by unfold okRune; infer_instance
def mayB (v : Int) : Bool := decide (okRune v)
/-- What Char tells: no character (0), or one that stands there. -/
def CharOk (l : List UInt8) (p : Nat) (v n : Int) : Prop := n = 0 ∨ (okRune v ∧ n = (Lib.encodeRune v).length ∧ ∃ r, l.drop p = Lib.encodeRune v ++ r)
def Acc (b1 b2 b3 v0 : Int) (k : Nat) (v : Int) : Prop :=
  (k = 1 ∧ v = v0) ∨ (k = 2 ∧ (128 ≤ b1 ∧ b1 < 192) ∧ v = v0 * 64 + b1 - 128) ∨ (k = 3 ∧ (128 ≤ b1 ∧ b1 < 192) ∧ (128 ≤ b2 ∧ b2 < 192) ∧ v = (v0 * 64 + b1 - 128) * 64 + b2 - 128) ∨
    (k = 4 ∧ (128 ≤ b1 ∧ b1 < 192) ∧ (128 ≤ b2 ∧ b2 < 192) ∧ (128 ≤ b3 ∧ b3 < 192) ∧ v = ((v0 * 64 + b1 - 128) * 64 + b2 - 128) * 64 + b3 - 128)
theorem toU_getD (s : ByteArray) (k : Nat) : (byt s k).toNat.toUInt8 = s.data.toList.getD k 0 := by
  unfold byt
  rw [Int.toNat_natCast]
  apply UInt8.toNat_inj.1
  rw [toU _ (UInt8.toNat_lt _)]
theorem drop_at (s : ByteArray) (p : Nat) (h : p < s.size) : s.data.toList.drop p = s.data.toList.getD p 0 :: s.data.toList.drop (p + 1) := by
  rw [List.drop_eq_getElem_cons (by simpa using h), List.getD_eq_getElem?_getD, List.getElem?_eq_getElem (by simpa using h)]
  rfl
theorem lt_of_high (s : ByteArray) (k : Nat) (h : 128 ≤ byt s k) : k < s.size := by
  rcases Nat.lt_or_ge k s.size with h1 | h1
  · exact h1
  · rw [byt_out s k h1] at h; omega
theorem char_one (s : ByteArray) (p : Nat) (h : p < s.size) (h1 : byt s p < 128) : CharOk s.data.toList p (byt s p) 1 := by
  have h0 := byt_lo s p
  refine .inr ⟨⟨h0, by omega, .inl (by omega)⟩, ?_, s.data.toList.drop (p + 1), ?_⟩
  · rw [enc_one h0 (by omega)]; rfl
  · rw [enc_one h0 (by omega), toU_getD, drop_at s p h]; rfl
theorem map_two (a b : Int) : ([a, b] : List Int).map (fun x => x.toNat.toUInt8) = [a.toNat.toUInt8, b.toNat.toUInt8] := rfl
theorem char_two (s : ByteArray) (p : Nat) (v : Int) (h0 : 192 ≤ byt s p ∧ byt s p < 224) (h1 : 128 ≤ byt s (p + 1) ∧ byt s (p + 1) < 192) (hv : v = (byt s p - 192) * 64 + byt s (p + 1) - 128) (hl : 128 ≤ v) (hm : mayB v = true) :
    CharOk s.data.toList p v 2 := by
  have hm := of_decide_eq_true hm
  have e0 : 192 + v / 64 = byt s p := by omega
  have e1 : 128 + v % 64 = byt s (p + 1) := by omega
  have he : Lib.encodeRune v = [s.data.toList.getD p 0, s.data.toList.getD (p + 1) 0] := by
    rw [enc_bytes, Lib.encodeRuneZ_two hl (by omega), e0, e1, map_two, toU_getD, toU_getD]
  refine .inr ⟨hm, by rw [he]; rfl, s.data.toList.drop (p + 2), ?_⟩
  rw [he, drop_at s p (lt_of_high s p (by omega)), drop_at s (p + 1) (lt_of_high s (p + 1) h1.1)]
  rfl
theorem char_three (s : ByteArray) (p : Nat) (v : Int) (h0 : 224 ≤ byt s p ∧ byt s p < 240) (h1 : 128 ≤ byt s (p + 1) ∧ byt s (p + 1) < 192) (h2 : 128 ≤ byt s (p + 2) ∧ byt s (p + 2) < 192)
    (hv : v = ((byt s p - 224) * 64 + byt s (p + 1) - 128) * 64 + byt s (p + 2) - 128) (hl : 2048 ≤ v) (hm : mayB v = true) :
    CharOk s.data.toList p v 3 := by
  have hm := of_decide_eq_true hm
  have hm' := hm
  unfold okRune at hm'
  have e0 : 224 + v / 4096 = byt s p := by omega
  have e1 : 128 + v / 64 % 64 = byt s (p + 1) := by omega
  have e2 : 128 + v % 64 = byt s (p + 2) := by omega
  have he : Lib.encodeRune v = [s.data.toList.getD p 0, s.data.toList.getD (p + 1) 0, s.data.toList.getD (p + 2) 0] := by
    rw [enc_bytes, Lib.encodeRuneZ_three (by omega), e0, e1, e2, ← toU_getD, ← toU_getD, ← toU_getD]
    rfl
  refine .inr ⟨hm, by rw [he]; rfl, s.data.toList.drop (p + 3), ?_⟩
  rw [he, drop_at s p (lt_of_high s p (by omega)), drop_at s (p + 1) (lt_of_high s (p + 1) h1.1), drop_at s (p + 1 + 1) (lt_of_high s (p + 2) h2.1)]
  rfl
theorem char_four (s : ByteArray) (p : Nat) (v : Int) (h0 : 240 ≤ byt s p ∧ byt s p < 248) (h1 : 128 ≤ byt s (p + 1) ∧ byt s (p + 1) < 192) (h2 : 128 ≤ byt s (p + 2) ∧ byt s (p + 2) < 192) (h3 : 128 ≤ byt s (p + 3) ∧ byt s (p + 3) < 192)
    (hv : v = (((byt s p - 240) * 64 + byt s (p + 1) - 128) * 64 + byt s (p + 2) - 128) * 64 + byt s (p + 3) - 128) (hl : 65536 ≤ v) (hm : mayB v = true) :
    CharOk s.data.toList p v 4 := by
  have hm := of_decide_eq_true hm
  have hm' := hm
  unfold okRune at hm'
  have e0 : 240 + v / 262144 = byt s p := by omega
  have e1 : 128 + v / 4096 % 64 = byt s (p + 1) := by omega
  have e2 : 128 + v / 64 % 64 = byt s (p + 2) := by omega
  have e3 : 128 + v % 64 = byt s (p + 3) := by omega
  have he : Lib.encodeRune v = [s.data.toList.getD p 0, s.data.toList.getD (p + 1) 0, s.data.toList.getD (p + 2) 0, s.data.toList.getD (p + 3) 0] := by
    rw [enc_bytes, Lib.encodeRuneZ_four (by omega) (by omega), e0, e1, e2, e3, ← toU_getD, ← toU_getD, ← toU_getD, ← toU_getD]
    rfl
  refine .inr ⟨hm, by rw [he]; rfl, s.data.toList.drop (p + 4), ?_⟩
  rw [he, drop_at s p (lt_of_high s p (by omega)), drop_at s (p + 1) (lt_of_high s (p + 1) h1.1), drop_at s (p + 1 + 1) (lt_of_high s (p + 2) h2.1), drop_at s (p + 1 + 1 + 1) (lt_of_high s (p + 3) h3.1)]
  rfl
/-- What is told at the loop's end, by the number of bytes. -/
theorem Acc.two {s : ByteArray} {p : Nat} {k : Nat} {v : Int} (h0 : 192 ≤ byt s p ∧ byt s p < 224) (h : Acc (byt s (p + 1)) (byt s (p + 2)) (byt s (p + 3)) (byt s p - 192) k v) (hk : k = 2) (hl : ¬ v < 128) (hm : mayB v = true) : CharOk s.data.toList p v 2 := by
  subst hk
  rcases h with ⟨h, _⟩ | ⟨_, h1, h2⟩ | ⟨h, _⟩ | ⟨h, _⟩ <;> first | omega | exact char_two s p v h0 h1 h2 (by omega) hm
theorem Acc.three {s : ByteArray} {p : Nat} {k : Nat} {v : Int} (h0 : 224 ≤ byt s p ∧ byt s p < 240) (h : Acc (byt s (p + 1)) (byt s (p + 2)) (byt s (p + 3)) (byt s p - 224) k v) (hk : k = 3) (hl : ¬ v < 2048) (hm : mayB v = true) : CharOk s.data.toList p v 3 := by
  subst hk
  rcases h with ⟨h, _⟩ | ⟨h, _⟩ | ⟨_, h1, h2, h3⟩ | ⟨h, _⟩ <;> first | omega | exact char_three s p v h0 h1 h2 h3 (by omega) hm
theorem Acc.four {s : ByteArray} {p : Nat} {k : Nat} {v : Int} (h0 : 240 ≤ byt s p ∧ byt s p < 248) (h : Acc (byt s (p + 1)) (byt s (p + 2)) (byt s (p + 3)) (byt s p - 240) k v) (hk : k = 4) (hl : ¬ v < 65536) (hm : mayB v = true) : CharOk s.data.toList p v 4 := by
  subst hk
  rcases h with ⟨h, _⟩ | ⟨h, _⟩ | ⟨h, _⟩ | ⟨_, h1, h2, h3, h4⟩ <;> first | omega | exact char_four s p v h0 h1 h2 h3 h4 (by omega) hm
theorem Acc.bound {b1 b2 b3 v0 : Int} {k : Nat} {v : Int} (h : Acc b1 b2 b3 v0 k v) (h0 : 0 ≤ v0 ∧ v0 < 32) : 0 ≤ v ∧ v < 8388608 ∧ 1 ≤ k ∧ k ≤ 4 := by
  unfold Acc at h; omega
theorem Acc.step {b1 b2 b3 v0 : Int} {k : Nat} {v b : Int} (h : Acc b1 b2 b3 v0 k v) (hk : k < 4) (hb : 128 ≤ b ∧ b < 192) (e : (k = 1 → b = b1) ∧ (k = 2 → b = b2) ∧ (k = 3 → b = b3)) : Acc b1 b2 b3 v0 (k + 1) (v * 64 + b - 128) := by
  rcases h with ⟨h, h1⟩ | ⟨h, h1, h2⟩ | ⟨h, h1, h2, h3⟩ | ⟨h, _⟩
  · have := e.1 h; subst this h1 h; exact .inr (.inl ⟨rfl, hb, rfl⟩)
  · have := e.2.1 h; subst this h2 h; exact .inr (.inr (.inl ⟨rfl, h1, hb, rfl⟩))
  · have := e.2.2 h; subst this h3 h; exact .inr (.inr (.inr ⟨rfl, h1, h2, hb, rfl⟩))
  · omega
/-- A walk by characters, to the end: all is characters. -/
theorem chars_drop {l : List UInt8} {p : Nat} (h : Chars (l.drop p)) : p = 0 → Chars l := by
  rintro rfl; simpa using h
end Go.Hb
/- Where the loop of 'quoted' is, and how each kind of character takes it on (plain law). -/
namespace Go.Hb
theorem enc39 : Lib.encodeRune 39 = [39] := by decide
theorem enc92 : Lib.encodeRune 92 = [92] := by decide
theorem enc10 : Lib.encodeRune 10 = [10] := by decide
theorem runeLen_ok {v : Int} (h : okRune v) : Lib.runeLen v = (Lib.encodeRune v).length := by
  have h0 := h
  unfold okRune at h0
  rcases h.cases with c | c | c | c
  · rw [enc_bytes, Lib.encodeRuneZ_one c.1 c.2]; simp [Lib.runeLen]; omega
  · rw [enc_bytes, Lib.encodeRuneZ_two c.1 c.2]; unfold Lib.runeLen; rw [if_neg (by omega), if_neg (by omega), if_pos (by omega)]; rfl
  · rw [enc_bytes, Lib.encodeRuneZ_three c]; unfold Lib.runeLen; rw [if_neg (by omega), if_neg (by omega), if_neg (by omega), if_neg (by omega), if_pos (by omega)]; rfl
  · rw [enc_bytes, Lib.encodeRuneZ_four c.1 c.2]; unfold Lib.runeLen; rw [if_neg (by omega), if_neg (by omega), if_neg (by omega), if_neg (by omega), if_neg (by omega), if_pos (by omega)]; rfl
theorem enc_len (v : Int) : 1 ≤ (Lib.encodeRune v).length ∧ (Lib.encodeRune v).length ≤ 4 := by
  have := Lib.encodeRuneZ_length v
  rw [enc_bytes, List.length_map]; exact this
/-- A byte that stands there, of those below 128: what is read. -/
theorem decode_low (t : ByteArray) (p : Nat) (x : UInt8) (r : List UInt8) (hx : x.toNat < 128) (h : t.data.toList.drop p = x :: r) : Utf8.decode t p = (x.toNat, 1) := by
  rw [decode_drop t p _ h]
  simp [Lib.decodeN, hx]
theorem drop_lt {t : ByteArray} {p : Nat} {x : UInt8} {r : List UInt8} (h : t.data.toList.drop p = x :: r) : p + 1 + r.length = t.size := by
  have h1 := congrArg List.length h
  rw [List.length_drop, List.length_cons] at h1
  have h2 : t.data.toList.length = t.size := by simp
  omega
theorem drop_get {t : ByteArray} {p : Nat} {x : UInt8} {r : List UInt8} (h : t.data.toList.drop p = x :: r) (hp : p < t.size) : t[p] = x := by
  have h1 := drop_at t p hp
  rw [h] at h1
  have h2 := (List.cons.inj h1).1
  rw [List.getD_eq_getElem?_getD, List.getElem?_eq_getElem (by simpa using hp)] at h2
  exact h2.symm
theorem drop_next {t : ByteArray} {p : Nat} {x : UInt8} {r : List UInt8} (h : t.data.toList.drop p = x :: r) : t.data.toList.drop (p + 1) = r := by
  rw [← List.drop_drop, h]; rfl
theorem chars_cases {rest : List UInt8} (h : Chars rest) : rest = [] ∨ ∃ v l, okRune v ∧ Chars l ∧ rest = Lib.encodeRune v ++ l := by
  cases h with
  | nil => exact .inl rfl
  | cons v l hv hl => exact .inr ⟨v, l, hv, hl, rfl⟩
/-- Where the loop is: ready for a character; or one byte is to be passed over. -/
def AtA (name : List UInt8) (t : ByteArray) (acc : List UInt8) (p : Nat) (rest : List UInt8) : Prop := Chars rest ∧ acc ++ rest = name ∧ t.data.toList.drop p = qb rest ++ [39]
def AtB (name : List UInt8) (t : ByteArray) (acc : List UInt8) (p : Nat) (rest : List UInt8) : Prop := Chars rest ∧ acc ++ rest = name ∧ ∃ x : UInt8, x.toNat < 128 ∧ t.data.toList.drop p = x :: (qb rest ++ [39])
theorem AtB.step {name : List UInt8} {t : ByteArray} {acc : List UInt8} {p : Nat} {rest : List UInt8} (h : AtB name t acc p rest) : ∃ c : Nat, c < 128 ∧ Utf8.decode t p = (c, 1) ∧ p + 1 < t.size ∧ AtA name t acc (p + 1) rest := by
  obtain ⟨h1, h2, x, hx, hd⟩ := h
  have h3 := drop_lt hd
  rw [List.length_append] at h3
  exact ⟨x.toNat, hx, decode_low t p x _ hx hd, by simp at h3; omega, h1, h2, drop_next hd⟩
theorem AtA.end {name : List UInt8} {t : ByteArray} {acc : List UInt8} {p : Nat} (h : AtA name t acc p []) : acc = name ∧ Utf8.decode t p = (39, 1) ∧ p + 1 = t.size := by
  obtain ⟨_, h2, hd⟩ := h
  rw [qb_nil, List.nil_append] at hd
  exact ⟨by simpa using h2, decode_low t p 39 [] (by decide) hd, by simpa using drop_lt hd⟩
/-- A quote, a backslash, a line's end. -/
theorem AtA.pair {name : List UInt8} {t : ByteArray} {acc : List UInt8} {p : Nat} {l : List UInt8} {c a b : UInt8} (hq : qc c = [a, b]) (hc : Lib.encodeRune (c.toNat : Int) = [c]) (ha : a.toNat < 128) (hb : b.toNat < 128) (hl : Chars l)
    (h : AtA name t acc p (Lib.encodeRune (c.toNat : Int) ++ l)) : Utf8.decode t p = (a.toNat, 1) ∧ p + 2 < t.size ∧ (∀ h : p + 1 < t.size, t[p + 1] = b) ∧ AtB name t (acc ++ [c]) (p + 1) l := by
  obtain ⟨_, h2, hd⟩ := h
  rw [hc] at h2 hd
  have e : qb ([c] ++ l) ++ [39] = a :: b :: (qb l ++ [39]) := by
    rw [qb_app, qb_cons, qb_nil, List.append_nil, hq]; rfl
  rw [e] at hd
  have h3 := drop_lt hd
  have h4 := drop_next hd
  rw [List.length_cons, List.length_append] at h3
  refine ⟨decode_low t p a _ ha hd, by simp at h3; omega, fun hp => drop_get h4 hp, hl, by rw [← h2]; simp, b, hb, h4⟩
/-- Any other character. -/
theorem AtA.other {name : List UInt8} {t : ByteArray} {acc : List UInt8} {p : Nat} {l : List UInt8} {v : Int} (hv : okRune v) (h39 : v ≠ 39) (h92 : v ≠ 92) (h10 : v ≠ 10) (hl : Chars l)
    (h : AtA name t acc p (Lib.encodeRune v ++ l)) : Utf8.decode t p = (v.toNat, (Lib.encodeRune v).length) ∧ p + (Lib.encodeRune v).length < t.size ∧ AtA name t (acc ++ Lib.encodeRune v) (p + (Lib.encodeRune v).length) l := by
  obtain ⟨_, h2, hd⟩ := h
  rw [qb_enc hv h39 h92 h10, List.append_assoc] at hd
  have h3 := congrArg List.length hd
  rw [List.length_drop, List.length_append, List.length_append] at h3
  have h4 : t.data.toList.length = t.size := by simp
  refine ⟨decode_enc t p hv _ hd, by simp at h3; omega, hl, by rw [← h2, List.append_assoc], ?_⟩
  rw [← List.drop_drop, hd, List.drop_left]
theorem AtA.replacement {name : List UInt8} {t : ByteArray} {acc : List UInt8} {p : Nat} {l : List UInt8} (h : AtA name t acc p (Lib.encodeRune 65533 ++ l)) : (t.data.toList.drop p).take 3 = [239, 191, 189] := by
  obtain ⟨_, _, hd⟩ := h
  rw [hd, qb_app]
  rfl
theorem acc_le {name acc rest : List UInt8} (h : acc ++ rest = name) : acc.length ≤ name.length := by
  rw [← h, List.length_append]; omega
end Go.Hb
