import Derived.Test.YtnipmfaikiaipaaGreatDoorTaz
import Derived.Test.YtnipmfaikiaipaaGreatDoorWqRun
import Derived.Test.YtnipmfaikiaipaaGreatDoorTba
import Derived.Lib.OthersKept
import Derived.Laws.Concat
section
/- A name between quotes, as writer writes it, is one token, and that name: in plain words. -/
namespace Go.Lx
open Go.Hb Go.Rb Go.Bg Go.Pf Go.Proofs
/-- One byte of a name between quotes. -/
def esc1 (b : UInt8) : List UInt8 :=
  if b.toNat = 39 ∨ b.toNat = 92 then [92, b]
  else if b.toNat = 10 then [92, 110]
  else if b.toNat < 32 ∨ b.toNat = 127 then 92 :: 120 :: (numL 16 b.toNat ++ [92])
  else [b]
def escB (l : List UInt8) : List UInt8 := l.flatMap esc1
def qw (l : List UInt8) : List UInt8 := 39 :: (escB l ++ [39])
theorem byt_at {s : ByteArray} {P : Nat} {l : List UInt8} (h : s.data.toList.drop P = l) (k : Nat) : byt s (P + k) = ((l.getD k 0).toNat : Int) := by
  subst h
  unfold byt
  rw [List.getD_eq_getElem?_getD, List.getD_eq_getElem?_getD, List.getElem?_drop]
theorem lt_at {s : ByteArray} {P : Nat} {l : List UInt8} (h : s.data.toList.drop P = l) (k : Nat) (hk : k < l.length) : P + k < s.size := by
  subst h
  rw [List.length_drop] at hk
  have : s.data.toList.length = s.size := by simp
  omega
theorem drop_at {s : ByteArray} {P : Nat} {l r : List UInt8} (h : s.data.toList.drop P = l ++ r) : s.data.toList.drop (P + l.length) = r := by
  rw [← List.drop_drop, h, List.drop_left]
theorem rowE_more {p : Nat → Bool} {s : ByteArray} {a : Nat} (h : a < s.size) (hp : p (byt s a).toNat = true) : rowE p s a = rowE p s (a + 1) :=
  rowE_step h (by rw [byt_in s a h, Int.toNat_natCast] at hp; exact hp)
theorem rowE_here {p : Nat → Bool} {s : ByteArray} {a : Nat} (h : a < s.size) (hp : p (byt s a).toNat = false) : rowE p s a = a :=
  rowE_stop h (by rw [byt_in s a h, Int.toNat_natCast] at hp; exact hp)
theorem chD_low {s : ByteArray} {p c : Nat} (h : p < s.size) (hb : byt s p = c) (hc : c < 128) : chD s p = some (c, 1) := by
  have := chv_one h (by omega)
  rw [hb] at this
  exact chD_some this
theorem enc_u8 (b : UInt8) (h : b.toNat < 128) : Lib.encodeRune (b.toNat : Int) = [b] := by
  rw [enc_bytes, Lib.encodeRuneZ_one (by omega) (by omega)]
  simp
theorem hex_two : ∀ v, v < 128 → (v < 16 ∧ numL 16 v = [sgn v]) ∨ (16 ≤ v ∧ numL 16 v = [sgn (v / 16), sgn (v % 16)]) := by decide +kernel
theorem sgn_hex : ∀ d, d < 16 → hexB (sgn d).toNat = true ∧ dgv (sgn d).toNat = d := by decide +kernel
theorem hex92 : hexB 92 = false := by decide
section
variable {s : ByteArray} {P : Nat} {out rest : List UInt8} {b : UInt8}
theorem quo_lit (h : s.data.toList.drop P = 92 :: b :: rest) (hb : b.toNat = 39 ∨ b.toNat = 92) : quoE s 0 39 P out = quoE s 0 39 (P + 2) (out ++ [b]) := by
  have h0 := byt_at h 0
  have h1 := byt_at h 1
  have l1 := lt_at h 1 (by simp)
  simp only [List.getD_cons_zero, List.getD_cons_succ, Nat.add_zero] at h0 h1
  rw [show (92 : UInt8).toNat = 92 from rfl] at h0
  have he : escV s P = some (b.toNat, P + 2) := by
    unfold escV
    rw [if_pos l1, h1, Int.toNat_natCast]
    rcases hb with e | e <;> rw [e] <;> rfl
  rw [quo_esc (by omega) (chD_low (by omega) h0 (by omega)) (by omega) rfl (by omega) he, enc_u8 b (by omega)]
theorem quo_new (h : s.data.toList.drop P = 92 :: 110 :: rest) : quoE s 0 39 P out = quoE s 0 39 (P + 2) (out ++ [10]) := by
  have h0 := byt_at h 0
  have h1 := byt_at h 1
  have l1 := lt_at h 1 (by simp)
  simp only [List.getD_cons_zero, List.getD_cons_succ, Nat.add_zero] at h0 h1
  rw [show (92 : UInt8).toNat = 92 from rfl] at h0
  rw [show (110 : UInt8).toNat = 110 from rfl] at h1
  have he : escV s P = some (10, P + 2) := by
    unfold escV
    rw [if_pos l1, h1]
    rfl
  rw [quo_esc (by omega) (chD_low (by omega) h0 (by omega)) (by omega) rfl (by omega) he]
  rfl
theorem quo_hex (h : s.data.toList.drop P = 92 :: 120 :: (numL 16 b.toNat ++ 92 :: rest)) (hb : b.toNat < 128) : quoE s 0 39 P out = quoE s 0 39 (P + ((numL 16 b.toNat).length + 3)) (out ++ [b]) := by
  have h0 := byt_at h 0
  have h1 := byt_at h 1
  have l1 := lt_at h 1 (by simp)
  simp only [List.getD_cons_zero, List.getD_cons_succ, Nat.add_zero] at h0 h1
  rw [show (92 : UInt8).toNat = 92 from rfl] at h0
  rw [show (120 : UInt8).toNat = 120 from rfl] at h1
  have ok : okRune (b.toNat : Int) := by unfold okRune; omega
  have he : escV s P = some (b.toNat, P + ((numL 16 b.toNat).length + 3)) := by
    unfold escV
    rw [if_pos l1, h1, show escL ((120 : Nat) : Int).toNat = none from rfl]
    simp only
    rw [if_pos (show ((120 : Nat) : Int) = 120 from rfl)]
    unfold escD
    rcases hex_two b.toNat hb with ⟨k1, k2⟩ | ⟨k1, k2⟩
    · rw [k2] at h ⊢
      obtain ⟨x1, x2⟩ := sgn_hex _ k1
      have h2 := byt_at h 2
      have h3 := byt_at h 3
      have l3 := lt_at h 3 (by simp)
      simp only [List.cons_append, List.nil_append, List.getD_cons_zero, List.getD_cons_succ] at h2 h3
      have e : rowE hexB s (P + 2) = P + 3 := by
        rw [rowE_more (by omega) (by rw [h2, Int.toNat_natCast]; exact x1)]
        exact rowE_here (by omega) (by rw [h3]; rfl)
      have ev : valN 16 s (P + 2) 1 = b.toNat := by
        unfold valN valN
        rw [Nat.add_zero, h2, Int.toNat_natCast, x2]
        omega
      rw [e, show P + 3 - (P + 2) = 1 by omega, ev, if_neg (by rw [h3]; intro hx; rcases hx with hx | hx; omega; exact hx rfl), if_pos ok]
      rfl
    · rw [k2] at h ⊢
      obtain ⟨x1, x2⟩ := sgn_hex (b.toNat / 16) (by omega)
      obtain ⟨x3, x4⟩ := sgn_hex (b.toNat % 16) (by omega)
      have h2 := byt_at h 2
      have h3 := byt_at h 3
      have h4 := byt_at h 4
      have l4 := lt_at h 4 (by simp)
      simp only [List.cons_append, List.nil_append, List.getD_cons_zero, List.getD_cons_succ] at h2 h3 h4
      have e : rowE hexB s (P + 2) = P + 4 := by
        rw [rowE_more (by omega) (by rw [h2, Int.toNat_natCast]; exact x1), rowE_more (a := P + 3) (by omega) (by rw [h3, Int.toNat_natCast]; exact x3)]
        exact rowE_here (by omega) (by rw [h4]; rfl)
      have ev : valN 16 s (P + 2) 2 = b.toNat := by
        unfold valN valN valN
        rw [Nat.add_zero, show P + 2 + 1 = P + 3 by omega, h2, h3, Int.toNat_natCast, Int.toNat_natCast, x2, x4]
        omega
      rw [e, show P + 4 - (P + 2) = 2 by omega, ev, if_neg (by rw [h4]; intro hx; rcases hx with hx | hx; omega; exact hx rfl), if_pos ok]
      rfl
  rw [quo_esc (by omega) (chD_low (by omega) h0 (by omega)) (by omega) rfl (by omega) he, enc_u8 b hb]
/-- One byte that is a character. -/
theorem quo_byte (h : s.data.toList.drop P = esc1 b ++ rest) (hb : b.toNat < 128) : quoE s 0 39 P out = quoE s 0 39 (P + (esc1 b).length) (out ++ [b]) := by
  unfold esc1 at h ⊢
  split at h
  · rename_i hc
    rw [if_pos hc]
    exact quo_lit h hc
  · rename_i hc
    rw [if_neg hc]
    split at h
    · rename_i hc2
      rw [if_pos hc2]
      obtain rfl : b = 10 := UInt8.toNat_inj.1 hc2
      exact quo_new h
    · rename_i hc2
      rw [if_neg hc2]
      split at h
      · rename_i hc3
        rw [if_pos hc3]
        simp only [List.cons_append, List.append_assoc, List.nil_append] at h
        rw [quo_hex h hb]
        simp
      · rename_i hc3
        rw [if_neg hc3]
        have h0 := byt_at h 0
        have l0 := lt_at h 0 (by simp)
        simp only [List.cons_append, List.nil_append, List.getD_cons_zero, Nat.add_zero] at h0
        rw [quo_chr (by omega) (chD_low (by omega) h0 hb) (by omega) (by omega) (by omega), enc_u8 b hb]
        rfl
end
theorem enc_hi {v : Int} (h : okRune v) (hv : 128 ≤ v) : ∀ c ∈ Lib.encodeRune v, 128 ≤ c.toNat := by
  intro c hc
  rw [enc_bytes] at hc
  obtain ⟨x, hx, rfl⟩ := List.mem_map.1 hc
  have hb := Lib.encodeRuneZ_byte v x hx
  rw [toU _ (by omega)]
  rcases h.cases with c1 | c1 | c1 | c1
  · omega
  · rw [Lib.encodeRuneZ_two c1.1 c1.2] at hx; simp at hx; omega
  · rw [Lib.encodeRuneZ_three c1] at hx; simp at hx; omega
  · rw [Lib.encodeRuneZ_four c1.1 c1.2] at hx; simp at hx; omega
theorem esc1_high {b : UInt8} (h : 128 ≤ b.toNat) : esc1 b = [b] := by
  unfold esc1
  rw [if_neg (by omega), if_neg (by omega), if_neg (by omega)]
theorem escB_high : ∀ {l : List UInt8}, (∀ b ∈ l, 128 ≤ b.toNat) → escB l = l
  | [], _ => rfl
  | b :: l, h => by
    unfold escB
    rw [List.flatMap_cons, esc1_high (h b (by simp))]
    have := escB_high (l := l) (fun x hx => h x (by simp [hx]))
    unfold escB at this
    rw [this]
    rfl
theorem escB_app (a b : List UInt8) : escB (a ++ b) = escB a ++ escB b := List.flatMap_append
theorem cons_at {s : ByteArray} {p : Nat} (h : p < s.size) : s.data.toList.drop p = (byt s p).toNat.toUInt8 :: s.data.toList.drop (p + 1) := by
  rw [List.drop_eq_getElem_cons (by simpa using h)]
  congr 1
  apply UInt8.toNat_inj.1
  rw [toU _ (by have := byt_hi s p; have := byt_lo s p; omega), byt_in s p h, Int.toNat_natCast]
  rfl
theorem u8_eq {x y : Int} (h : x = y) : x.toNat.toUInt8 = y.toNat.toUInt8 := by rw [h]
/-- A character's bytes. -/
theorem chv_enc {s : ByteArray} {p v n : Nat} (h : ChV s p v n) : s.data.toList.drop p = Lib.encodeRune v ++ s.data.toList.drop (p + n) := by
  have hl := h.last
  have h0 := h.pos.2
  have b0 := byt_lo s p
  rw [enc_bytes]
  unfold ChV cont at h
  rcases h with ⟨e, h1, h2, h3⟩ | ⟨e, h1, h2, h3, h4, h5⟩ | ⟨e, h1, h2, h2', h3, h4, h5⟩ | ⟨e, h1, h2, h2', h2'', h3, h4, h5⟩
  · obtain rfl : n = 1 := by omega
    rw [cons_at (by omega), Lib.encodeRuneZ_one (by omega) (by omega), h3]
    rfl
  · obtain rfl : n = 2 := by omega
    rw [cons_at (p := p) (by omega), cons_at (p := p + 1) (by omega), Lib.encodeRuneZ_two (by omega) (by omega)]
    simp only [List.map_cons, List.map_nil, List.cons_append, List.nil_append]
    refine congr (congrArg _ (u8_eq (by omega))) (congr (congrArg _ (u8_eq (by omega))) rfl)
  · obtain rfl : n = 3 := by omega
    unfold okRune at h5
    rw [cons_at (p := p) (by omega), cons_at (p := p + 1) (by omega), show p + 1 + 1 = p + 2 from rfl, cons_at (p := p + 2) (by omega), Lib.encodeRuneZ_three (by omega)]
    simp only [List.map_cons, List.map_nil, List.cons_append, List.nil_append]
    refine congr (congrArg _ (u8_eq (by omega))) (congr (congrArg _ (u8_eq (by omega))) (congr (congrArg _ (u8_eq (by omega))) rfl))
  · obtain rfl : n = 4 := by omega
    unfold okRune at h5
    rw [cons_at (p := p) (by omega), cons_at (p := p + 1) (by omega), show p + 1 + 1 = p + 2 from rfl, cons_at (p := p + 2) (by omega), show p + 2 + 1 = p + 3 from rfl, cons_at (p := p + 3) (by omega), Lib.encodeRuneZ_four (by omega) (by omega)]
    simp only [List.map_cons, List.map_nil, List.cons_append, List.nil_append]
    refine congr (congrArg _ (u8_eq (by omega))) (congr (congrArg _ (u8_eq (by omega))) (congr (congrArg _ (u8_eq (by omega))) (congr (congrArg _ (u8_eq (by omega))) rfl)))
/-- The same bytes elsewhere are the same character. -/
theorem chv_move {s t : ByteArray} {p P v n : Nat} (h : ChV s p v n) (e : ∀ k, k < n → byt t (P + k) = byt s (p + k)) (hP : P < t.size) : ChV t P v n := by
  unfold ChV at h ⊢
  rcases h with ⟨e1, h1, h2, h3⟩ | ⟨e1, h1, h2, h3⟩ | ⟨e1, h1, h2, h3⟩ | ⟨e1, h1, h2, h3⟩
  all_goals
    have e0 := e 0 (by omega)
    simp only [Nat.add_zero] at e0
  · exact .inl ⟨e1, hP, by rw [e0]; exact h2, by rw [e0]; exact h3⟩
  · rw [e0, e 1 (by omega)]
    exact .inr (.inl ⟨e1, h1, h2, h3⟩)
  · rw [e0, e 1 (by omega), e 2 (by omega)]
    exact .inr (.inr (.inl ⟨e1, h1, h2, h3⟩))
  · rw [e0, e 1 (by omega), e 2 (by omega), e 3 (by omega)]
    exact .inr (.inr (.inr ⟨e1, h1, h2, h3⟩))
theorem quo_name {s name : ByteArray} (hn : name.size ≤ 1000) {p : Nat} {r : Int} (ho : OddAt name p r) (hr : r = -1) :
    ∀ (P : Nat), s.data.toList.drop P = escB (name.data.toList.drop p) ++ [39] → quoE s 0 39 P (name.data.toList.take p) = .ok 2 name ⟨#[]⟩ 0 0 s.size := by
  have hsz : name.data.toList.length = name.size := by simp
  induction ho with
  | done hp =>
    rename_i p
    intro P hP
    have hd : name.data.toList.drop p = [] := List.drop_of_length_le (by omega)
    rw [hd] at hP
    have h0 := byt_at hP 0
    have l0 := lt_at hP 0 (by simp [escB])
    have hlen := congrArg List.length hP
    rw [List.length_drop] at hlen
    have hs : s.data.toList.length = s.size := by simp
    simp [escB] at hlen
    simp only [escB, List.flatMap_nil, List.nil_append, List.getD_cons_zero, Nat.add_zero] at h0
    rw [show (39 : UInt8).toNat = 39 from rfl] at h0
    rw [quo_fin (by omega) (chD_low (by omega) h0 (by omega)) (by omega) rfl (by omega) (by rw [List.take_of_length_le (by omega), hsz]; omega), List.take_of_length_le (by omega)]
    rw [show P + 1 = s.size by omega]
    rfl
  | bad _ _ => omega
  | step hc _ ih =>
    rename_i p m v r _
    intro P hP
    have hz := hc.size
    have hl := hc.last
    have hv := hc.pos
    obtain ⟨v, rfl⟩ : ∃ a : Nat, v = a := ⟨v.toNat, by omega⟩
    have he := chv_enc hc
    have htake : name.data.toList.take (p + m) = name.data.toList.take p ++ Lib.encodeRune v := by
      have hm : (Lib.encodeRune (v : Int)).take m = Lib.encodeRune (v : Int) := List.take_of_length_le (by rw [chv_len hc]; exact Nat.le_refl _)
      rw [List.take_add, he, List.take_append_of_le_length (by rw [chv_len hc]; exact Nat.le_refl _), hm]
    rw [he, escB_app, List.append_assoc] at hP
    rcases Nat.lt_or_ge v 128 with hlow | hhigh
    · rw [show Lib.encodeRune (v : Int) = [v.toUInt8] by rw [enc_bytes, Lib.encodeRuneZ_one (by omega) (by omega)]; rfl] at hP htake
      have eb : (v.toUInt8).toNat = v := toU v (by omega)
      have e1 : escB [v.toUInt8] = esc1 v.toUInt8 := by simp [escB]
      rw [e1] at hP
      rw [quo_byte hP (by omega), ← htake]
      exact ih hr _ (drop_at hP)
    · rw [escB_high (enc_hi hv.2 (by omega))] at hP
      have hlenE := chv_len hc
      have key : ∀ k, k < m → byt s (P + k) = byt name (p + k) := fun k hk => by
        rw [byt_at hP k, byt_at he k, List.getD_eq_getElem?_getD, List.getD_eq_getElem?_getD, List.getElem?_append_left (by omega), List.getElem?_append_left (by omega)]
      have hPl : P < s.size := by have := lt_at hP 0 (by rw [List.length_append]; omega); omega
      rw [quo_chr hPl (chD_some (chv_move hc key hPl)) (by omega) (by omega) (by omega), ← htake]
      have := drop_at hP
      rw [hlenE] at this
      exact ih hr _ this
/-- A name between quotes is that name. -/
theorem tok_qw {s name : ByteArray} (hn : name.size ≤ 1000) (ho : OddAt name 0 (-1)) (hs : s.data.toList = qw name.data.toList) : Lay s 0 0 0 ∧ nxR s 0 0 = .ok 2 name ⟨#[]⟩ 0 0 s.size := by
  have h0 : byt s 0 = 39 := by unfold byt; rw [hs]; rfl
  have hl : s.data.toList.length = s.size := by simp
  have hpos : 0 < s.size := by rw [← hl, hs]; simp [qw]
  constructor
  · refine .stop hpos ?_
    unfold layTo
    rw [h0]
    rfl
  · unfold nxR tokR
    rw [if_pos rfl, if_neg (by omega), h0]
    have := quo_name (s := s) hn ho rfl 1 (by rw [hs]; rfl)
    exact this
/-- A name without quotes is what it says. -/
def TR.nm (s : ByteArray) (a : Nat) : TR → Prop
  | .ok k tx _ _ p en => k = 1 → p = a ∧ tx = s.extract a en ∧ en ≤ s.size
  | .err _ _ => True
theorem nm_ok {s : ByteArray} {k a p en : Nat} {tx nu : ByteArray} {bits : Nat} (hk : k ≠ 1) : TR.nm s a (.ok k tx nu bits p en) := fun h => absurd h hk
theorem nm_err (s : ByteArray) (a p n : Nat) : TR.nm s a (.err p n) := True.intro
theorem nm_ite {s : ByteArray} {a : Nat} {A B : TR} (c : Prop) [Decidable c] (hA : TR.nm s a A) (hB : TR.nm s a B) : TR.nm s a (if c then A else B) := by
  split
  · exact hA
  · exact hB
theorem intR_nm (s : ByteArray) (a f t r : Nat) : TR.nm s a (intR s a f t r) := by
  have key : ∀ (A B : TR), TR.nm s a A → TR.nm s a B → ∀ (c : Prop) [Decidable c], TR.nm s a (if c then A else B) := fun A B hA hB c _ => by
    split
    · exact hA
    · exact hB
  unfold intR
  refine key _ _ ?_ ?_ _
  · exact nm_ok (by decide)
  · exact nm_err _ _ _ _
theorem fltF_nm (s : ByteArray) (a p : Nat) (x : Int) (t : Nat) : TR.nm s a (fltF s a p x t) := by
  unfold fltF
  exact nm_ite _ (nm_err _ _ _ _) (nm_ite _ (nm_ok (by decide)) (nm_err _ _ _ _))
theorem fltR_nm (s : ByteArray) (a p : Nat) : TR.nm s a (fltR s a p) := by
  unfold fltR
  exact nm_ite _ (nm_ite _ (nm_err _ _ _ _) (fltF_nm _ _ _ _ _)) (fltF_nm _ _ _ _ _)
theorem chrR_nm {s : ByteArray} {a : Nat} {R : TR} (h : chrR s a = some R) : TR.nm s a R := by
  unfold chrR at h
  repeat' split at h
  all_goals first | (cases h; done) | (cases h; exact nm_ok (by decide)) | (cases h; exact nm_err _ _ _ _)
theorem numR_nm (s : ByteArray) (a : Nat) : TR.nm s a (numR s a) := by
  unfold numR
  split
  · rename_i R h
    exact chrR_nm h
  · repeat' split
    all_goals first
      | (with_reducible exact intR_nm _ _ _ _ _)
      | (with_reducible exact fltR_nm _ _ _)
theorem quoK_one (q : Nat) : quoK q ≠ 1 := by unfold quoK; split <;> (try split) <;> decide
theorem quoN_nm (s : ByteArray) (a q : Nat) : ∀ (f p : Nat) (out : List UInt8), TR.nm s a (quoN s a q f p out)
  | 0, _, _ => nm_err _ _ _ _
  | f + 1, p, out => by
    unfold quoN
    cases h : quoS s a q p out with
    | inl R =>
      show TR.nm s a R
      unfold quoS at h
      repeat' split at h
      all_goals first | (cases h; done) | (cases h; exact nm_ok (quoK_one q)) | (cases h; exact nm_err _ _ _ _)
    | inr x => exact quoN_nm s a q f _ _
theorem lngR_nm {s : ByteArray} {k a t : Nat} (h2 : t ≤ s.size) : TR.nm s a (lngR s k a t) := by
  unfold lngR
  exact nm_ite _ (nm_err _ _ _ _) (fun _ => ⟨rfl, rfl, h2⟩)
theorem tokR_nm {s : ByteArray} {a : Nat} (ha : a ≤ s.size) : TR.nm s a (tokR s a) := by
  unfold tokR
  split
  · exact nm_ok (by decide)
  · rename_i hne
    exact nm_ite _ (numR_nm _ _) (nm_ite _ (quoN_nm _ _ _ _ _ _) (nm_ite _ (lngR_nm (rowE_le _ _ _ ha)) (nm_ite _ (lngR_nm (rowE_le _ _ _ ha)) (nm_ite _ (nm_ite _ (nm_ok (by decide)) (lngR_nm (rowE_le _ _ _ ha))) (nm_ite _ (lngR_nm (by omega)) (nm_ite _ (lngR_nm (by omega)) (nm_err _ _ _ _)))))))
/-- A name that needs no quotes is one token. -/
theorem tok_plain {s : ByteArray} {K E a en : Nat} {nu : ByteArray} {bits : Nat} (hk : K ≤ s.size) (h : nxR s K E = .ok 1 s nu bits a en) : a = 0 ∧ en = s.size := by
  unfold nxR at h
  split at h
  · have h1 := tokR_nm hk
    rw [h] at h1
    obtain ⟨e1, e2, e3⟩ := h1 rfl
    have e4 := congrArg ByteArray.size e2
    rw [ByteArray.size_extract] at e4
    omega
  · cases h
end Go.Lx
end
section
/- The steps of writing a name between quotes: in plain words. -/
namespace Go.Lx
open Go.Hb Go.Rb Go.Bg Go.Pf Go.Proofs
theorem take_chv {s : ByteArray} {p v n : Nat} (h : ChV s p v n) : (s.data.toList.drop p).take n = Lib.encodeRune v := by
  rw [chv_enc h, List.take_append_of_le_length (by rw [chv_len h]; exact Nat.le_refl _), List.take_of_length_le (by rw [chv_len h]; exact Nat.le_refl _)]
theorem escB_take (s : ByteArray) (p n : Nat) : escB (s.data.toList.take (p + n)) = escB (s.data.toList.take p) ++ escB ((s.data.toList.drop p).take n) := by
  rw [List.take_add, escB_app]
/-- Behind a character below 128. -/
theorem esc_asc {s : ByteArray} {p v n : Nat} (h : ChV s p v n) (hv : v < 128) : escB (s.data.toList.take (p + n)) = escB (s.data.toList.take p) ++ esc1 v.toUInt8 ∧ (v.toUInt8).toNat = v := by
  refine ⟨?_, toU v (by omega)⟩
  rw [escB_take, take_chv h, enc_bytes, Lib.encodeRuneZ_one (by omega) (by omega)]
  simp [escB]
/-- Behind another one. -/
theorem esc_high {s : ByteArray} {p v n : Nat} (h : ChV s p v n) (hv : 128 ≤ v) : escB (s.data.toList.take (p + n)) = escB (s.data.toList.take p) ++ Lib.encodeRune v := by
  rw [escB_take, take_chv h, escB_high (enc_hi h.pos.2 (by omega))]
theorem ext_take (s : ByteArray) (p n : Nat) : (s.extract p (p + n)).data.toList = (s.data.toList.drop p).take n := by
  rw [Lib.extract_data]
  rw [show p + n - p = n by omega]
/-- Behind bytes that go in as they are. -/
theorem esc_raw {s : ByteArray} {p n : Nat} (hd : (∃ v : Nat, ChV s p v n ∧ 128 ≤ v) ∨ (n = 1 ∧ p < s.size ∧ NoCh s p)) : escB (s.data.toList.take (p + n)) = escB (s.data.toList.take p) ++ (s.extract p (p + n)).data.toList := by
  rcases hd with ⟨v, h, hv⟩ | ⟨rfl, hp, hn⟩
  · rw [esc_high h hv, ext_take s p n, take_chv h]
  · have hb : 128 ≤ byt s p := by
      rcases Int.lt_or_le (byt s p) 128 with h1 | h1
      · exact absurd (chv_one hp h1) (hn _ _)
      · exact h1
    rw [escB_take, ext_take s p 1, cons_at hp]
    rw [List.take_succ_cons, List.take_zero]
    have e : escB [(byt s p).toNat.toUInt8] = [(byt s p).toNat.toUInt8] := escB_high (fun x hx => by
      obtain rfl := List.mem_singleton.1 hx
      rw [toU _ (by have := byt_hi s p; have := byt_lo s p; omega)]
      omega)
    rw [e]
theorem esc_len (l : List UInt8) : (escB l).length ≤ 5 * l.length := by
  induction l with
  | nil => simp [escB]
  | cons b l ih =>
    have h1 : escB (b :: l) = esc1 b ++ escB l := by simp [escB]
    have h2 : (esc1 b).length ≤ 5 := by
      unfold esc1
      split
      · simp
      · split
        · simp
        · split
          · rename_i h3
            rcases hex_two b.toNat (by omega) with ⟨_, e⟩ | ⟨_, e⟩ <;> rw [e] <;> simp
          · simp
    rw [h1, List.length_append, List.length_cons]
    omega
end Go.Lx
end
section
/- What writer's quoted calls: WriteString; a number's hexadecimal digits. -/
namespace Go.Proofs
open Go.RowKit Go.Hb Go.Bg Go.Proofs.YtnipmfaikiaipaaGreatDoor Go.Proofs.YtnipmfaikiaipaaGreatDoor.Ab
theorem Tryz.fmt16 (v : Nat) (hv : v < 32 ∨ v = 127) {W : World} (h : Laid0 W) : Calls Tryz.prog 59 #[.int .i64 v, .int .i64 16] W fun e W' => e = .returned (.string ⟨(numL 16 v).toArray⟩) ∧ Below W.heap.size W W' := by
  obtain ⟨W0, h1, h2, h3, _⟩ := h
  have hr0 := List.all_eq_true.1 fmt_run v (ctl_mem hv)
  obtain ⟨st', hr⟩ := saysStr_spec hr0
  obtain ⟨c, hc⟩ : ∃ c, Tryz.f59.body = some c := ⟨_, rfl⟩
  refine (ev_calls_at (E := env) (σ := Rho.no.sg) fits rfl (Nat.le_refl _) rows_ok Tryz.func59 hc (fx := []) (fun p hp => by cases hp) hr h3 h1 h2 (.cons _ _ _ _ (.int _ _) (.cons _ _ _ _ (.int _ _) .nil))).mono fun e W' ⟨q, ρ, h1, h2, h3⟩ => ?_
  cases h2
  exact ⟨h1, h3⟩
end Go.Proofs
namespace Go.Proofs
open Go.Shelf Go.RowKit
set_option maxHeartbeats 2000000 in
set_option maxRecDepth 100000 in
theorem Tryz.WriteString_k (B b : Nat) (bs : List Value) (s : ByteArray) (w : World) (h : Lib.IsBuilderF 106 5 B b bs w) (hlen : bs.length + s.size ≤ 140737488355328) (hBw : B ≤ w.heap.size) :
    Calls Tryz.prog 45 #[.pointer (some ⟨b, 0, none⟩), .string s] w fun e w' => e = .returned (.tuple #[.int .i64 s.size, .nilIface]) ∧ (Lib.BuilderAtF 106 5 B b (.pointer (some ⟨b, 0, none⟩)) (bs ++ Lib.strCells s) w' ∧ Below B w w' ∧ Lib.OthersKept 5 (some b) w w') := by
  obtain ⟨i0, hi, hz0, hz1, hz2⟩ := info_parts Tryz.infoByte
  go_enter Tryz.func45, Tryz.ntmps45
  go_wp2_with (go_at_call 89; refine (Tryz.copyCheck_k B b bs _ h).mono ?_)
  rintro e w1 ⟨rfl, h1, hb1, hk1⟩
  obtain ⟨hB, v, hbk, hown, hne⟩ := h1
  have c0 : w1.cell? ⟨b, 0, none⟩ = some (.pointer (some ⟨b, 0, none⟩)) := by rw [Lib.cell_of_heap hbk]; rfl
  have c1 : w1.cell? ⟨b, 1, none⟩ = some v := by rw [Lib.cell_of_heap hbk]; rfl
  go_wp2_with (at_builtin; refine Lib.wpList_append_own_stringF _ rfl _ _ 104 9 rfl B 5 i0 Tryz.underlying104 Tryz.underlying9 hi hz0 hz1 hz2 _ _ _ rfl hown s rfl ?c3 ?c4 ?c5 ?_)
  case c3 => unfold maxLen; omega
  case c4 => omega
  case c5 => have := hb1.size; omega
  intro v' w2 hown' hgrow _
  have hlt : b < w1.heap.size := by
    rcases Nat.lt_or_ge b w1.heap.size with h' | h'
    · exact h'
    · simp [Array.getElem?_eq_none h'] at hbk
  have hb2 : w2.heap[b]? = some (.cells #[.pointer (some ⟨b, 0, none⟩), v] 106 (0, 0)) := by
    rw [hgrow.block b hlt (fun e => hne e.symm)]
    exact hbk
  have d0 : w2.cell? ⟨b, 0, none⟩ = some (.pointer (some ⟨b, 0, none⟩)) := by rw [Lib.cell_of_heap hb2]; rfl
  have d1 : w2.cell? ⟨b, 1, none⟩ = some v := by rw [Lib.cell_of_heap hb2]; rfl
  have f1 : w2.frozen? ⟨b, 1, none⟩ = false := Lib.frozen_of_heap hb2 1
  obtain ⟨ao, n', cap, rfl⟩ : ∃ ao n' cap, v' = .slice ao n' cap := by
    rcases hown'.2 with ⟨hv, _⟩ | ⟨g, cap, cur, fz, hv, _⟩
    · exact ⟨_, _, _, hv⟩
    · exact ⟨_, _, _, hv⟩
  go_wp2
  go_ret2
  refine ⟨rfl, ?_, ?_, (hk1.grown hgrow (Lib.ownsRowF_kind hown)).setCell ⟨b, 1, none⟩ rfl _⟩
  · exact Lib.BuilderAtF.put (T := 106) (e := 5) hB hb2 (bs' := bs ++ Lib.strCells s) (by simpa [Lib.strCells_length] using hown') (by decide)
  · exact (hb1.grown hgrow (by have := hb1.size; omega) (fun k hk => (hown.lt k hk).1)).setCell (p := ⟨b, 1, none⟩) hB _
end Go.Proofs
end
section
/- The walk of writer.quoted: a name between quotes. -/
namespace Go.Proofs
open Go.RowKit Go.Hb Go.Bg Go.Lx
/-- A builder, and an iterator over a text; the rest is as it was. -/
structure WR (t : ByteArray) (B K : Nat) (W0 : World) (acc : List UInt8) (pos : Nat) (wr : World) : Prop where
  bld : Lib.IsBuilderF 106 5 B B (Lib.byteCells acc) wr
  it : wr.heap[K]? = some (.stringIter t pos)
  bel : Below B W0 wr
  lt : B < K
theorem WR.next {t : ByteArray} {B K : Nat} {W0 : World} {acc : List UInt8} {pos : Nat} {wr : World} (h : WR t B K W0 acc pos wr) (hp : pos < t.size) (n c : Nat) (hd : Utf8.decode t pos = (c, n)) :
    ∃ wn, (∀ ty, (Instr.next (.pointer (some ⟨K, 0, none⟩)) true ty).run Tryz.prog wr = .ok (.tuple #[.bool true, .int .i64 pos, .int .i32 c]) wn) ∧ WR t B K W0 acc (pos + n) wn := by
  refine ⟨_, fun ty => ?_, h.bld.iterAt h.it (pos + n), Lib.iterAt_heap wr K t pos _ h.it, Lib.below_iterAt h.bel (k := K) (Nat.le_of_lt h.lt) t _, h.lt⟩
  have := Lib.run_next_any_at (P := Tryz.prog) wr K t pos ty h.it hp
  rw [hd] at this
  exact this
theorem WR.write {t : ByteArray} {B K : Nat} {W0 : World} {acc x : List UInt8} {cells : List Value} (hx : Lib.byteCells x = cells) {pos : Nat} {wn W1 : World} (h : WR t B K W0 acc pos wn)
    (b0 : Lib.BuilderAtF 106 5 B B (.pointer (some ⟨B, 0, none⟩)) (Lib.byteCells acc ++ cells) W1) (b1 : Below B wn W1) (b2 : Lib.OthersKept 5 (some B) wn W1) : WR t B K W0 (acc ++ x) pos W1 := by
  subst hx
  refine ⟨.inr ?_, ?_, h.bel.trans b1, h.lt⟩
  · rw [Lib.byteCells_append]; exact b0
  · exact b2.iter h.it (by have := h.lt; omega)
theorem WR.call {t : ByteArray} {B K : Nat} {W0 : World} {acc : List UInt8} {pos : Nat} {wn W1 : World} (h : WR t B K W0 acc pos wn) (hb : Below wn.heap.size wn W1) : WR t B K W0 acc pos W1 := by
  have hlt : K < wn.heap.size := (Array.getElem?_eq_some_iff.1 h.it).1
  have := h.lt
  exact ⟨isB_below h.bld hb, (hb.block _ hlt).trans h.it, h.bel.trans (hb.mono (by omega)), h.lt⟩
theorem WR.sz {t : ByteArray} {B K : Nat} {W0 : World} {acc : List UInt8} {pos : Nat} {wn : World} (h : WR t B K W0 acc pos wn) : B ≤ wn.heap.size ∧ K < wn.heap.size := by
  have hlt : K < wn.heap.size := (Array.getElem?_eq_some_iff.1 h.it).1
  have := h.lt
  omega
theorem WR.pos' {t : ByteArray} {B K : Nat} {W0 : World} {acc : List UInt8} {pos : Nat} {wn : World} (h : WR t B K W0 acc pos wn) : wn.iterPos K = pos := by simp [World.iterPos, h.it]
def QwEnd (s : ByteArray) (w : World) (e : Ending) (w' : World) : Prop := ∃ t : ByteArray, e = .returned (.string t) ∧ t.data.toList = qw s.data.toList ∧ Below w.heap.size w w'
set_option maxRecDepth 100000 in
set_option maxHeartbeats 8000000 in
theorem Tryz.wquoted (s : ByteArray) (w : World) (hs : s.size ≤ 1048576) (hL : Laid0 w) : Calls Tryz.prog 26 #[.string s] w (QwEnd s w) := by
  obtain ⟨B, hB⟩ : ∃ B, B = w.heap.size := ⟨_, rfl⟩
  have HL := Lib.hid hL
  have HB := Lib.hid hB
  clear hL
  go_enter Tryz.func26, Tryz.ntmps26
  go_wp2_with (go_at_call 57; (with_reducible refine (Tryz.WriteByte_k w.heap.size w.heap.size [] 39 _ (Lib.IsBuilderF.of (Lib.fresh_isBuilder 106 5 w)) (by simp) (by simp)).mono ?_))
  rintro e W1 ⟨rfl, h1, b1, k1⟩
  have hB1 : w.heap.size < W1.heap.size := by have := b1.size; simp at this; omega
  have hW1 : Below w.heap.size w W1 := ((Below.refl _ _).alloc (Nat.le_refl _) _).trans b1
  have q0 : WR s B W1.heap.size w [39] 0 (W1.iter s 0) := by
    subst hB
    refine ⟨.inr ?_, World.iter_heap W1 s 0, hW1.alloc (by omega) _, hB1⟩
    have := h1.alloc (.stringIter s 0)
    exact this
  clear k1 b1 hW1 h1
  go_wp2
  obtain ⟨K, hK⟩ : ∃ K, K = W1.heap.size := ⟨_, rfl⟩
  rw [← hK] at q0 ⊢
  rw [← hB]
  clear hB hB1 hK
  go_loopw [] (fun wr => ∃ (pos : Nat) (acc : List UInt8), pos ≤ s.size ∧ WR s B K w acc pos wr ∧ acc = 39 :: escB (s.data.toList.take pos)) (fun wr => s.size - wr.iterPos K)
  case atStart => exact ⟨0, [39], by omega, q0, rfl⟩
  case round =>
    obtain ⟨pos, acc, hps, hq, hacc⟩ := hrel
    have i1 := hq.pos'
    clear q0
    by_cases hp : pos < s.size
    · have hal : acc.length ≤ 10000000 := by
        rw [hacc, List.length_cons]
        have h1 := esc_len (s.data.toList.take pos)
        have h2 : (s.data.toList.take pos).length ≤ s.size := by simp; omega
        omega
      have hbl : (Lib.byteCells acc).length ≤ 10000000 := by rw [Lib.byteCells_length]; exact hal
      have HBL := Lib.hid hbl
      have HACC := Lib.hid hacc
      have key : (∃ v n : Nat, ChV s pos v n ∧ Utf8.decode s pos = (v, n) ∧ v ≠ 65533) ∨ (∃ n : Nat, Utf8.decode s pos = (65533, n) ∧ 1 ≤ n ∧ pos + n ≤ s.size ∧ escB (s.data.toList.take (pos + n)) = escB (s.data.toList.take pos) ++ (s.extract pos (pos + n)).data.toList) := by
        rcases dec_cases s pos hp with ⟨v, n, hc, hd⟩ | ⟨hn, hd⟩
        · by_cases h65 : v = 65533
          · subst h65
            exact .inr ⟨n, hd, by have := hc.size; omega, hc.last, esc_raw (.inl ⟨_, hc, by omega⟩)⟩
          · exact .inl ⟨v, n, hc, hd, h65⟩
        · exact .inr ⟨1, hd, Nat.le_refl _, by omega, esc_raw (.inr ⟨rfl, hp, hn⟩)⟩
      clear hacc hbl hal
      rcases key with ⟨v, n, hc, hd, h65⟩ | ⟨n, hd, hn1, hn2, hraw⟩
      · have h1 := hc.size
        have h2 := hc.last
        have hn1 : 1 ≤ n := by omega
        have hv0 : v < 1114112 := by have := hc.pos.2; unfold okRune at this; omega
        obtain ⟨wn, hnx, q2⟩ := hq.next hp n v hd
        have T5 : ((v : Int) == 65533) = false := beq_of_ne (by omega)
        have HC := Lib.hid hc
        clear hc hd h65 h1
        by_cases h39 : v = 39 ∨ v = 92
        · have HE := Lib.hid (esc_asc HC.out (by omega))
          have T1 : (((v : Int) == 39) = true) ∨ (((v : Int) == 39) = false ∧ ((v : Int) == 92) = true) := by
            rcases h39 with rfl | rfl
            · exact .inl rfl
            · exact .inr ⟨rfl, rfl⟩
          have HX : Hid (esc1 v.toUInt8 = [92] ++ Lib.encodeRune v) := Lib.hid (by
            unfold esc1
            rw [if_pos (by rw [HE.out.2]; exact h39), enc_bytes, Lib.encodeRuneZ_one (by omega) (by omega)]
            rfl)
          clear h39
          rcases T1 with T1 | ⟨T1, T2⟩
          all_goals
            go_wp2_with (go_at_call 57; (with_reducible refine (Tryz.WriteByte_k B B (Lib.byteCells acc) 92 _ q2.bld (by have := HBL.out; omega) q2.sz.1).mono ?_))
            rintro e W2 ⟨rfl, g1, g2, g3⟩
            have q3 := q2.write (x := [92]) rfl g1 g2 g3
            clear g1 g2 g3
            go_wp2_with (go_at_call 58; (with_reducible refine (Tryz.WriteRune_k B B (Lib.byteCells (acc ++ [92])) v (by omega) (by omega) _ q3.bld (by rw [Lib.byteCells_append, List.length_append]; have := HBL.out; simp [Lib.byteCells] at this ⊢; omega) q3.sz.1).mono ?_))
            rintro e W3 ⟨rfl, g1, g2, g3⟩
            have q4 := q3.write (x := Lib.encodeRune v) (Lib.byteCells_encodeRune _) g1 g2 g3
            clear g1 g2 g3
            go_wp2
            go_roundw
            case rel => exact ⟨pos + n, _, h2, q4, by rw [HE.out.1, HX.out, HACC.out]; simp⟩
            case measure => rw [i1, q4.pos']; omega
        have T1 : ((v : Int) == 39) = false := beq_of_ne (by omega)
        have T2 : ((v : Int) == 92) = false := beq_of_ne (by omega)
        by_cases h10 : v = 10
        · have HE := Lib.hid (esc_asc HC.out (by omega))
          have T3 : ((v : Int) == 10) = true := by rw [h10]; rfl
          have HX : Hid (esc1 v.toUInt8 = [92, 110]) := Lib.hid (by subst h10; decide)
          have HLEN : Hid ((Lib.byteCells acc).length + (⟨#[92, 110]⟩ : ByteArray).size ≤ 140737488355328) := Lib.hid (Nat.le_trans (Nat.add_le_add HBL.out (Nat.le_refl 2)) (by decide))
          clear h39 h10
          go_wp2_with (go_at_call 45; (with_reducible refine (Tryz.WriteString_k B B (Lib.byteCells acc) ⟨#[92, 110]⟩ _ q2.bld HLEN.out q2.sz.1).mono ?_))
          rintro e W2 ⟨rfl, g1, g2, g3⟩
          have q3 := q2.write (x := [92, 110]) rfl g1 g2 g3
          clear g1 g2 g3
          go_wp2
          go_roundw
          case rel => exact ⟨pos + n, _, h2, q3, by rw [HE.out.1, HX.out, HACC.out]; simp⟩
          case measure => rw [i1, q3.pos']; omega
        · have T3 : ((v : Int) == 10) = false := beq_of_ne (by omega)
          by_cases hct : v < 32 ∨ v = 127
          · have HE := Lib.hid (esc_asc HC.out (by omega))
            have T4 : decide ((v : Int) < 32) = true ∨ (decide ((v : Int) < 32) = false ∧ ((v : Int) == 127) = true) := by
              rcases hct with h | rfl
              · exact .inl (decide_eq_true (by omega))
              · exact .inr ⟨rfl, rfl⟩
            have HX : Hid (esc1 v.toUInt8 = [92, 120] ++ numL 16 v ++ [92]) := Lib.hid (by
              have e := HE.out.2
              unfold esc1
              rw [if_neg (by omega), if_neg (by omega), if_pos (by omega), e]
              rfl)
            obtain ⟨X, hX⟩ : ∃ X : ByteArray, X = ⟨(numL 16 v).toArray⟩ := ⟨_, rfl⟩
            have hXs : X.size ≤ 2 := by
              rw [hX]
              show (numL 16 v).toArray.size ≤ 2
              rcases hex_two v (by omega) with ⟨_, e⟩ | ⟨_, e⟩ <;> rw [e] <;> simp
            have CF : Hid (Calls Tryz.prog 59 #[.int .i64 v, .int .i64 16] wn fun e W' => e = .returned (.string X) ∧ Below wn.heap.size wn W') := Lib.hid (by rw [hX]; exact Tryz.fmt16 v hct (HL.out.below (by rw [← HB.out]; exact q2.bel)))
            obtain ⟨Y, hY⟩ : ∃ Y : ByteArray, Y = (⟨#[92, 120]⟩ : ByteArray) ++ X := ⟨_, rfl⟩
            have hYs : Y.size ≤ 4 := by rw [hY, ByteArray.size_append]; show 2 + _ ≤ _; omega
            obtain ⟨Z, hZ⟩ : ∃ Z : ByteArray, Z = Y ++ (⟨#[92]⟩ : ByteArray) := ⟨_, rfl⟩
            have hZs : Z.size ≤ 5 := by rw [hZ, ByteArray.size_append]; show _ + 1 ≤ _; omega
            have A1 : ∀ w : World, (Op.stringOp .add ⟨#[92, 120]⟩ X).run Tryz.prog w = .ok (.string Y) w := fun w => by rw [hY]; exact run_string_add_sum w _ _ (by show 2 + X.size ≤ _; omega)
            have A2 : ∀ w : World, (Op.stringOp .add Y ⟨#[92]⟩).run Tryz.prog w = .ok (.string Z) w := fun w => by rw [hZ]; exact run_string_add_sum w _ _ (by show Y.size + 1 ≤ _; omega)
            have HZ : Hid (Z.data.toList = [92, 120] ++ numL 16 v ++ [92]) := Lib.hid (by rw [hZ, hY, hX]; simp)
            have HZS := Lib.hid hZs
            clear h39 h10 hct hX hXs hY hYs hZ hZs
            rcases T4 with T4 | ⟨T4, T6⟩
            all_goals
              go_wp2_with (go_at_call 59; (with_reducible refine CF.out.mono ?_))
              rintro e W2 ⟨rfl, hb⟩
              have q3 := q2.call hb
              clear hb
              go_wp2_with (go_at_call 45; (with_reducible refine (Tryz.WriteString_k B B (Lib.byteCells acc) Z _ q3.bld (by have := HBL.out; have := HZS.out; omega) q3.sz.1).mono ?_))
              rintro e W3 ⟨rfl, g1, g2, g3⟩
              have q4 := q3.write (x := Z.data.toList) (Lib.strCells_eq Z).symm g1 g2 g3
              clear g1 g2 g3
              go_wp2
              go_roundw
              case rel => exact ⟨pos + n, _, h2, q4, by rw [HE.out.1, HX.out, HACC.out, HZ.out]; simp⟩
              case measure => rw [i1, q4.pos']; omega
          · have T4 : decide ((v : Int) < 32) = false := decide_eq_false (by omega)
            have T6 : ((v : Int) == 127) = false := beq_of_ne (by omega)
            have HE : Hid (escB (s.data.toList.take (pos + n)) = escB (s.data.toList.take pos) ++ Lib.encodeRune v) := Lib.hid (by
              rcases Nat.lt_or_ge v 128 with h | h
              · obtain ⟨e1, e2⟩ := esc_asc HC.out h
                rw [e1]
                congr 1
                unfold esc1
                rw [if_neg (by omega), if_neg (by omega), if_neg (by omega), enc_bytes, Lib.encodeRuneZ_one (by omega) (by omega)]
                rfl
              · exact esc_high HC.out h)
            clear h39 h10 hct
            go_wp2_with (go_at_call 58; (with_reducible refine (Tryz.WriteRune_k B B (Lib.byteCells acc) v (by omega) (by omega) _ q2.bld (by have := HBL.out; omega) q2.sz.1).mono ?_))
            rintro e W3 ⟨rfl, g1, g2, g3⟩
            have q4 := q2.write (x := Lib.encodeRune v) (Lib.byteCells_encodeRune _) g1 g2 g3
            clear g1 g2 g3
            go_wp2
            go_roundw
            case rel => exact ⟨pos + n, _, h2, q4, by rw [HE.out, HACC.out]; simp⟩
            case measure => rw [i1, q4.pos']; omega
      · obtain ⟨wn, hnx, q2⟩ := hq.next hp n 65533 hd
        have T1 : (((65533 : Nat) : Int) == 39) = false := rfl
        have T2 : (((65533 : Nat) : Int) == 92) = false := rfl
        have T3 : (((65533 : Nat) : Int) == 10) = false := rfl
        have T4 : decide (((65533 : Nat) : Int) < 32) = false := rfl
        have T6 : (((65533 : Nat) : Int) == 127) = false := rfl
        have T5 : (((65533 : Nat) : Int) == 65533) = true := rfl
        have CD : Hid (Calls Tryz.prog 60 #[.string (s.extract pos s.size)] wn fun e w' => e = .returned (.tuple #[.int .i32 (65533 : Nat), .int .i64 (n : Nat)]) ∧ Below wn.heap.size wn w') := Lib.hid (by
          have h := Tryz.utf8_DecodeRuneInString (s.extract pos s.size) wn (HL.out.below (by rw [← HB.out]; exact q2.bel)).utf8
          rw [decGo_ext s pos hp, hd] at h
          exact h)
        have S1 : ∀ W, (Instr.slice 9 (.string s) (some (.int .i64 (pos : Int))) none none).run Tryz.prog W = .ok (.string (s.extract pos s.size)) W := fun W => by
          have := run_slice_string_l (P := Tryz.prog) (w := W) (t := 9) (s := s) Tryz.underlying9 .i64 (pos : Int) (by omega) (by omega)
          rw [show ((pos : Int)).toNat = pos by omega] at this
          exact this
        obtain ⟨m, hm⟩ : ∃ m, m = pos + n := ⟨_, rfl⟩
        have em : (pos : Int) + (n : Int) = (m : Int) := by omega
        have S2 : ∀ W, (Instr.slice 9 (.string s) (some (.int .i64 (pos : Int))) (some (.int .i64 (m : Int))) none).run Tryz.prog W = .ok (.string (s.extract pos m)) W := fun W => by
          have := run_slice_string (P := Tryz.prog) (w := W) 9 s .i64 .i64 (pos : Int) (m : Int) Tryz.underlying9 (by omega) (by omega) (by omega)
          rw [show ((pos : Int)).toNat = pos by omega, show ((m : Int)).toNat = m by omega] at this
          exact this
        have HM : Hid (pos + n = m) := Lib.hid hm.symm
        rw [← hm] at hraw hn2 q2
        obtain ⟨Z, hZ⟩ : ∃ Z, Z = s.extract pos m := ⟨_, rfl⟩
        rw [← hZ] at hraw S2
        have hZs : Z.size ≤ 1048576 := by rw [hZ, ByteArray.size_extract]; omega
        have HRAW := Lib.hid hraw
        have HZS := Lib.hid hZs
        obtain ⟨U, hU⟩ : ∃ U, U = s.extract pos s.size := ⟨_, rfl⟩
        rw [← hU] at CD S1
        have m1 : pos < m := by omega
        clear hraw hZ hZs hd hm hU hn1
        go_wp2_with (go_at_call 60; (with_reducible refine CD.out.mono ?_))
        rintro e W2 ⟨rfl, hb⟩
        have q3 := q2.call hb
        clear hb
        go_wp2_with (go_at_call 45; (with_reducible refine (Tryz.WriteString_k B B (Lib.byteCells acc) Z _ q3.bld (by have := HBL.out; have := HZS.out; omega) q3.sz.1).mono ?_))
        rintro e W3 ⟨rfl, g1, g2, g3⟩
        have q4 := q3.write (x := Z.data.toList) (Lib.strCells_eq Z).symm g1 g2 g3
        clear g1 g2 g3
        go_wp2
        go_roundw
        case rel => exact ⟨m, _, hn2, q4, by rw [HRAW.out, HACC.out]; simp⟩
        case measure => rw [i1, q4.pos']; omega
    · obtain rfl : pos = s.size := by omega
      have hnx : ∀ ty, (Instr.next (.pointer (some ⟨K, 0, none⟩)) true ty).run Tryz.prog wr = .ok (.tuple #[.bool false]) wr := fun ty => run_next_end_at wr K s s.size ty hq.it hp
      have e0 : s.data.toList.take s.size = s.data.toList := List.take_of_length_le (by simp)
      rw [e0] at hacc
      have hal : acc.length ≤ 10000000 := by
        rw [hacc, List.length_cons]
        have h1 := esc_len s.data.toList
        have h2 : s.data.toList.length = s.size := by simp
        omega
      have hbl : (Lib.byteCells acc).length ≤ 10000000 := by rw [Lib.byteCells_length]; exact hal
      have HBL := Lib.hid hbl
      have HACC := Lib.hid hacc
      clear hacc hbl hal e0
      go_wp2_with (go_at_call 57; (with_reducible refine (Tryz.WriteByte_k B B (Lib.byteCells acc) 39 _ hq.bld (by have := HBL.out; omega) hq.sz.1).mono ?_))
      rintro e W2 ⟨rfl, g1, g2, g3⟩
      have q3 := hq.write (x := [39]) rfl g1 g2 g3
      clear g1 g2 g3
      go_wp2_with (go_at_call 47; (with_reducible refine (Tryz.Builder_String_any_k B B (acc ++ [39]) _ q3.bld q3.sz.1).mono ?_))
      rintro e W3 ⟨rfl, _, g2, _⟩
      go_wp2
      go_ret
      exact ⟨_, rfl, by rw [HACC.out]; simp [qw], by have := q3.bel.trans g2; rw [HB.out] at this; exact this⟩
end Go.Proofs
end
section
/- The walk of writer.Atom, by what Plain says. -/
namespace Go.Proofs
open Go.RowKit Go.Hb Go.Bg Go.Lx
def brk : ByteArray := ⟨#[91, 93]⟩
def brc : ByteArray := ⟨#[123, 125]⟩
structure AtomEnd (s : ByteArray) (pl : Bool) (w : World) (e : Ending) (w' : World) (t : ByteArray) : Prop where
  ret : e = .returned (.string t)
  bel : Below w.heap.size w w'
  raw : (s = brk ∨ s = brc ∨ pl = true) → t = s
  quo : s ≠ brk → s ≠ brc → pl = false → t.data.toList = qw s.data.toList
theorem toList_ne {s : ByteArray} {l : List UInt8} (h : s ≠ ⟨l.toArray⟩) : ¬ s.toList = l := fun e => h (ByteArray.ext (Array.toList_inj.1 (by rw [← ByteArray.toList_eq]; exact e)))
set_option maxRecDepth 100000 in
set_option maxHeartbeats 4000000 in
theorem Tryz.watom (s : ByteArray) (pl : Bool) (w : World) (hs : s.size ≤ 1048576) (hL : ∀ W, Below w.heap.size w W → Laid0 W) (CP : Hid (Calls Tryz.prog 25 #[.string s] w fun e w' => e = .returned (.bool pl) ∧ Below w.heap.size w w')) :
    Calls Tryz.prog 10 #[.string s] w fun e w' => ∃ t, AtomEnd s pl w e w' t := by
  by_cases h1 : s = brk
  · subst h1
    unfold brk at *
    go_enter Tryz.func10, Tryz.ntmps10
    go_wp2
    go_ret
    exact ⟨_, rfl, Below.refl _ _, fun _ => rfl, fun h => absurd rfl h⟩
  by_cases h2 : s = brc
  · subst h2
    unfold brc brk at *
    go_enter Tryz.func10, Tryz.ntmps10
    go_wp2
    go_ret
    exact ⟨_, rfl, Below.refl _ _, fun _ => rfl, fun _ h => absurd rfl h⟩
  have n1 : ¬ s.toList = [91, 93] := toList_ne h1
  have n2 : ¬ s.toList = [123, 125] := toList_ne h2
  have n3 : (s.toList == [91, 93]) = false := beq_false_of_ne n1
  have n4 : (s.toList == [123, 125]) = false := beq_false_of_ne n2
  have HL := Lib.hid hL
  have H1 := Lib.hid h1
  have H2 := Lib.hid h2
  clear hL h1 h2
  have CQ : Hid (∀ W, Below w.heap.size w W → Calls Tryz.prog 26 #[.string s] W (QwEnd s W)) := Lib.hid fun W hb => Tryz.wquoted s W hs (HL.out W hb)
  cases pl with
  | true =>
    go_enter Tryz.func10, Tryz.ntmps10
    go_wp2_with (go_at_call 25; (with_reducible refine CP.out.mono ?_))
    rintro e W1 ⟨rfl, hb⟩
    go_wp2
    go_ret
    exact ⟨_, rfl, hb, fun _ => rfl, fun _ _ h => by cases h⟩
  | false =>
    go_enter Tryz.func10, Tryz.ntmps10
    go_wp2_with (go_at_call 25; (with_reducible refine CP.out.mono ?_))
    rintro e W1 ⟨rfl, hb⟩
    go_wp2_with (go_at_call 26; (with_reducible refine (CQ.out _ hb).mono ?_))
    rintro e W2 ⟨t, rfl, ht, hb2⟩
    go_wp2
    go_ret
    exact ⟨t, rfl, hb.trans (hb2.mono hb.size), fun h => h.elim (fun h => absurd h H1.out) (fun h => h.elim (fun h => absurd h H2.out) (fun h => by cases h)), fun _ _ _ => ht⟩
end Go.Proofs
end
