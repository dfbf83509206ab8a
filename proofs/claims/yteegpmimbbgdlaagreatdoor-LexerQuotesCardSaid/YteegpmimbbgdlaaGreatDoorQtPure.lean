/- The plain law of LexerQuotes: characters, quoting, what is read back. No model's run in this text. -/
import Derived.Lib.RuneBytes
import Derived.Lib.TrimUEq
namespace Go.Hb

def okRune (v : Int) : Prop := 0 ≤ v ∧ v ≤ 1114111 ∧ (v < 55296 ∨ 57343 < v)

inductive Chars : List UInt8 → Prop
  | nil : Chars []
  | cons (v : Int) (l : List UInt8) : okRune v → Chars l → Chars (Lib.encodeRune v ++ l)

def qc (c : UInt8) : List UInt8 := if c = 39 then [39, 39] else if c = 92 then [92, 92] else if c = 10 then [92, 110] else [c]
def qb (l : List UInt8) : List UInt8 := l.flatMap qc
def quote (l : List UInt8) : List UInt8 := 39 :: (qb l ++ [39])

theorem qb_nil : qb [] = [] := rfl
theorem qb_cons (c : UInt8) (l : List UInt8) : qb (c :: l) = qc c ++ qb l := by simp [qb]
theorem qb_app (a b : List UInt8) : qb (a ++ b) = qb a ++ qb b := by simp [qb]
theorem qc_len (c : UInt8) : 1 ≤ (qc c).length ∧ (qc c).length ≤ 2 := by
  unfold qc
  split
  · simp
  · split
    · simp
    · split <;> simp
theorem qb_len : ∀ l : List UInt8, l.length ≤ (qb l).length ∧ (qb l).length ≤ 2 * l.length
  | [] => by simp [qb_nil]
  | c :: l => by rw [qb_cons, List.length_append, List.length_cons]; have := qb_len l; have := qc_len c; omega

theorem enc_bytes (v : Int) : Lib.encodeRune v = (Lib.encodeRuneZ v).map fun x => x.toNat.toUInt8 := rfl

theorem okRune.cases {v : Int} (h : okRune v) : (0 ≤ v ∧ v ≤ 127) ∨ (128 ≤ v ∧ v ≤ 2047) ∨ ((2048 ≤ v ∧ v < 55296) ∨ (57343 < v ∧ v ≤ 65535)) ∨ (65536 ≤ v ∧ v ≤ 1114111) := by
  unfold okRune at h; omega

theorem toU (n : Nat) (h : n < 256) : n.toUInt8.toNat = n := by
  simp only [Nat.toUInt8, UInt8.toNat_ofNat']; omega

theorem enc_high {v : Int} (h : okRune v) (hv : 128 ≤ v) : ∀ c ∈ Lib.encodeRune v, 128 ≤ c.toNat := by
  intro c hc
  rw [enc_bytes] at hc
  obtain ⟨x, hx, rfl⟩ := List.mem_map.1 hc
  have hb := Lib.encodeRuneZ_byte v x hx
  rw [toU _ (by omega)]
  rcases h.cases with c1 | c1 | c1 | c1
  · omega
  · rw [Lib.encodeRuneZ_two c1.1 c1.2] at hx; simp at hx; omega
  · rw [Lib.encodeRuneZ_three c1] at hx; simp at hx; omega
  · rw [Lib.encodeRuneZ_four c1.1 c1.2] at hx; simp at hx; omega

theorem enc_one {v : Int} (h0 : 0 ≤ v) (h1 : v ≤ 127) : Lib.encodeRune v = [v.toNat.toUInt8] := by
  rw [enc_bytes, Lib.encodeRuneZ_one h0 h1]; rfl

theorem qc_self {c : UInt8} (h1 : c ≠ 39) (h2 : c ≠ 92) (h3 : c ≠ 10) : qc c = [c] := by simp [qc, h1, h2, h3]

theorem qb_self : ∀ l : List UInt8, (∀ c ∈ l, c ≠ 39 ∧ c ≠ 92 ∧ c ≠ 10) → qb l = l
  | [], _ => rfl
  | c :: l, h => by
    have hc := h c (by simp)
    rw [qb_cons, qc_self hc.1 hc.2.1 hc.2.2, qb_self l (fun x hx => h x (by simp [hx]))]; rfl

theorem u8_ne {c : UInt8} {n : Nat} (hn : n < 256) (h : c.toNat ≠ n) : c ≠ n.toUInt8 := by
  intro e; apply h; rw [e, toU n hn]

theorem qb_enc {v : Int} (h : okRune v) (h39 : v ≠ 39) (h92 : v ≠ 92) (h10 : v ≠ 10) (l : List UInt8) : qb (Lib.encodeRune v ++ l) = Lib.encodeRune v ++ qb l := by
  rw [qb_app, qb_self]
  intro c hc
  by_cases hv : 128 ≤ v
  · have := enc_high h hv c hc
    exact ⟨u8_ne (n := 39) (by omega) (by omega), u8_ne (n := 92) (by omega) (by omega), u8_ne (n := 10) (by omega) (by omega)⟩
  · have h0 : 0 ≤ v := h.1
    rw [enc_one h0 (by omega)] at hc
    simp only [List.mem_singleton] at hc
    have : c.toNat = v.toNat := by rw [hc, toU _ (by omega)]
    exact ⟨u8_ne (n := 39) (by omega) (by omega), u8_ne (n := 92) (by omega) (by omega), u8_ne (n := 10) (by omega) (by omega)⟩

theorem decode_drop (s : ByteArray) (p : Nat) (l : List UInt8) (h : s.data.toList.drop p = l) : Utf8.decode s p = Lib.decodeN l.length (l.getD 0 0).toNat (l.getD 1 0).toNat (l.getD 2 0).toNat (l.getD 3 0).toNat := by
  subst h
  rw [Lib.decode_N, List.length_drop, Lib.getD_dropU, Lib.getD_dropU, Lib.getD_dropU, Lib.getD_dropU]; rfl

theorem decode_enc (s : ByteArray) (p : Nat) {v : Int} (hv : okRune v) (l : List UInt8) (h : s.data.toList.drop p = Lib.encodeRune v ++ l) :
    Utf8.decode s p = (v.toNat, (Lib.encodeRune v).length) := by
  rw [decode_drop s p _ h]
  clear h
  obtain ⟨n, rfl⟩ : ∃ n : Nat, v = n := ⟨v.toNat, by have := hv.1; omega⟩
  rcases hv.cases with c1 | c1 | c1 | c1
  · rw [enc_bytes, Lib.encodeRuneZ_one c1.1 c1.2]
    have h0 := toU n (by omega)
    simp [Lib.decodeN, List.getD, h0]; omega
  · rw [enc_bytes, Lib.encodeRuneZ_two c1.1 c1.2]
    have e0 : (192 + (n : Int) / 64).toNat = 192 + n / 64 := by omega
    have e1 : (128 + (n : Int) % 64).toNat = 128 + n % 64 := by omega
    have h0 := toU (192 + n / 64) (by omega)
    have h1 := toU (128 + n % 64) (by omega)
    simp only [List.map, List.getD, List.cons_append, List.nil_append, List.getElem?_cons_zero, List.getElem?_cons_succ, Option.getD, List.length_cons, e0, e1, h0, h1]
    unfold Lib.decodeN
    rw [if_neg (by omega), if_pos (by omega), if_pos (by omega)]
    simp; omega
  · rw [enc_bytes, Lib.encodeRuneZ_three c1]
    have e0 : (224 + (n : Int) / 4096).toNat = 224 + n / 4096 := by omega
    have e1 : (128 + (n : Int) / 64 % 64).toNat = 128 + n / 64 % 64 := by omega
    have e2 : (128 + (n : Int) % 64).toNat = 128 + n % 64 := by omega
    have h0 := toU (224 + n / 4096) (by omega)
    have h1 := toU (128 + n / 64 % 64) (by omega)
    have h2 := toU (128 + n % 64) (by omega)
    simp only [List.map, List.getD, List.cons_append, List.nil_append, List.getElem?_cons_zero, List.getElem?_cons_succ, Option.getD, List.length_cons, e0, e1, e2, h0, h1, h2]
    unfold Lib.decodeN
    rw [if_neg (by omega), if_neg (by omega), if_pos (by omega), if_pos (by omega)]
    simp; omega
  · rw [enc_bytes, Lib.encodeRuneZ_four c1.1 c1.2]
    have e0 : (240 + (n : Int) / 262144).toNat = 240 + n / 262144 := by omega
    have e1 : (128 + (n : Int) / 4096 % 64).toNat = 128 + n / 4096 % 64 := by omega
    have e2 : (128 + (n : Int) / 64 % 64).toNat = 128 + n / 64 % 64 := by omega
    have e3 : (128 + (n : Int) % 64).toNat = 128 + n % 64 := by omega
    have h0 := toU (240 + n / 262144) (by omega)
    have h1 := toU (128 + n / 4096 % 64) (by omega)
    have h2 := toU (128 + n / 64 % 64) (by omega)
    have h3 := toU (128 + n % 64) (by omega)
    simp only [List.map, List.getD, List.cons_append, List.nil_append, List.getElem?_cons_zero, List.getElem?_cons_succ, Option.getD, List.length_cons, e0, e1, e2, e3, h0, h1, h2, h3]
    unfold Lib.decodeN
    rw [if_neg (by omega), if_neg (by omega), if_neg (by omega), if_pos (by omega), if_pos (by omega)]
    simp; omega

/-- Where the loop of 'quoted' is: what is still to come of the name; one byte may be passed over. -/
def At (name : List UInt8) (t : List UInt8) (acc : List UInt8) (p skip : Nat) (rest : List UInt8) : Prop :=
  Chars rest ∧ acc ++ rest = name ∧ ((t.drop p = qb rest ++ [39] ∧ skip = p + 1) ∨ (∃ x : UInt8, x.toNat < 128 ∧ t.drop p = x :: (qb rest ++ [39]) ∧ skip = p + 2))

end Go.Hb
