import Derived.Test.YteegpmimbbgdlaaGreatDoorLxStr
/- A text behind another one: what stands in it is the same, its places are shifted. -/
namespace Go.Lx
open Go.Hb Go.Rb Go.Bg Go.Pf Go.Proofs
/-- b stands in J from place n on, up to the end. -/
structure Shf (n : Nat) (b J : ByteArray) : Prop where
  size : J.size = n + b.size
  byt : ∀ p, byt J (n + p) = byt b p
  ext : ∀ f t, J.extract (n + f) (n + t) = b.extract f t
theorem shf_of (x b : ByteArray) : Shf x.size b (x ++ b) := by
  have e : ∀ p, (x ++ b).data.toList.getD (x.size + p) 0 = b.data.toList.getD p 0 := fun p => by
    have h : (x ++ b).data.toList = x.data.toList ++ b.data.toList := by rw [ByteArray.data_append, Array.toList_append]
    rw [h, List.getD_eq_getElem?_getD, List.getD_eq_getElem?_getD, List.getElem?_append_right (by simp), show x.size + p - x.data.toList.length = p by simp]
  refine ⟨ByteArray.size_append .., fun p => ?_, fun f t => ?_⟩
  · unfold byt; rw [e]
  · apply ByteArray.ext
    apply Array.toList_inj.1
    have h : (x ++ b).data.toList = x.data.toList ++ b.data.toList := by rw [ByteArray.data_append, Array.toList_append]
    rw [Lib.extract_data, Lib.extract_data, h, List.drop_append, show x.size + t - (x.size + f) = t - f by omega, List.drop_eq_nil_of_le (by simp), List.nil_append, show x.size + f - x.data.toList.length = f by simp]
variable {n : Nat} {b J : ByteArray}
theorem rowN_shf (h : Shf n b J) (p : Nat → Bool) : ∀ k a, rowN p J k (n + a) = n + rowN p b k a
  | 0, _ => rfl
  | k + 1, a => by
    have hz := h.size
    rw [rowN, rowN]
    by_cases ha : a < b.size
    · have hj : n + a < J.size := by omega
      rw [dif_pos ha, dif_pos hj]
      have e : J[n + a].toNat = b[a].toNat := by
        have h1 := h.byt a
        rw [byt_in b a ha, byt_in J (n + a) hj] at h1
        omega
      rw [e]
      by_cases hp : p b[a].toNat = true
      · rw [if_pos hp, if_pos hp, Nat.add_assoc]
        exact rowN_shf h p k (a + 1)
      · rw [if_neg hp, if_neg hp]
    · rw [dif_neg ha, dif_neg (by omega)]
theorem rowE_shf (h : Shf n b J) (p : Nat → Bool) (a : Nat) : rowE p J (n + a) = n + rowE p b a := by
  unfold rowE
  rw [show J.size - (n + a) = b.size - a by have := h.size; omega]
  exact rowN_shf h p _ a
theorem valN_shf (h : Shf n b J) (r f : Nat) : ∀ k, valN r J (n + f) k = valN r b f k
  | 0 => rfl
  | k + 1 => by rw [valN, valN, valN_shf h r f k, Nat.add_assoc, h.byt]
theorem escD_shf (h : Shf n b J) (r : Nat) (p : Nat → Bool) (f : Nat) : escD r p J (n + f) = (escD r p b f).map fun x => (x.1, n + x.2) := by
  unfold escD
  rw [rowE_shf h, h.byt, show n + rowE p b f - (n + f) = rowE p b f - f by omega, valN_shf h]
  by_cases h1 : rowE p b f = f ∨ byt b (rowE p b f) ≠ 92
  · rw [if_pos h1, if_pos (by omega)]; rfl
  · rw [if_neg h1, if_neg (by omega)]
    split
    · rw [Nat.add_assoc]; rfl
    · rfl
theorem escV_shf (h : Shf n b J) (p : Nat) : escV J (n + p) = (escV b p).map fun x => (x.1, n + x.2) := by
  have hz := h.size
  unfold escV
  simp only [Nat.add_assoc, h.byt, hz, Nat.add_lt_add_iff_left, escD_shf h]
  split
  · rfl
  · split <;> rfl
theorem chv_shf (h : Shf n b J) (p : Nat) (v m : Int) : ChV J (n + p) v m ↔ ChV b p v m := by
  have hz := h.size
  unfold ChV
  rw [Nat.add_assoc, Nat.add_assoc, Nat.add_assoc, h.byt, h.byt, h.byt, h.byt, show (n + p < J.size) = (p < b.size) by rw [eq_iff_iff]; omega]
theorem chD_shf (h : Shf n b J) (p : Nat) : chD J (n + p) = chD b p := by
  rcases chD_cases b p with ⟨v, m, h1, h2⟩ | ⟨h1, h2⟩
  · rw [h2, chD_some ((chv_shf h p v m).2 h1)]
  · rw [h2, chD_none (fun v m hc => h1 v m ((chv_shf h p v m).1 hc))]
/-- An answer whose places are shifted. -/
def TR.shf (n : Nat) : TR → TR
  | .ok k tx nu bits a en => .ok k tx nu bits (n + a) (n + en)
  | .err p m => .err (n + p) m
theorem chrR_shf (h : Shf n b J) (a : Nat) : chrR J (n + a) = (chrR b a).map (TR.shf n) := by
  have hz := h.size
  unfold chrR
  simp only [Nat.add_assoc, h.byt, hz, Nat.add_le_add_iff_left, escV_shf h, chD_shf h]
  split
  · rfl
  · split
    · split
      · rfl
      · rfl
    · split
      · cases escV b (a + 2) with
        | none => rfl
        | some x => rfl
      · cases chD b (a + 2) with
        | none => rfl
        | some x => rfl
theorem shf_ite (n : Nat) {c d : Prop} [Decidable c] [Decidable d] (h : c ↔ d) {A B A' B' : TR} (hA : A = TR.shf n A') (hB : B = TR.shf n B') : (if c then A else B) = TR.shf n (if d then A' else B') := by
  by_cases hd : d
  · rw [if_pos hd, if_pos (h.2 hd)]; exact hA
  · rw [if_neg hd, if_neg (fun hc => hd (h.1 hc))]; exact hB
theorem intR_shf (h : Shf n b J) (a f t r : Nat) : intR J (n + a) (n + f) (n + t) r = TR.shf n (intR b a f t r) := by
  unfold intR
  rw [h.ext]
  with_reducible exact shf_ite n Iff.rfl rfl rfl
theorem fltD_shf (h : Shf n b J) (a p : Nat) : fltD J (n + a) (n + p) = fltD b a p := by
  unfold fltD
  rw [h.ext, Nat.add_assoc, rowE_shf h, h.ext]
theorem fltF_shf (h : Shf n b J) (a p t : Nat) (x : Int) : fltF J (n + a) (n + p) x (n + t) = TR.shf n (fltF b a p x t) := by
  unfold fltF
  rw [fltD_shf h, Nat.add_assoc, rowE_shf h, show x - (((n + rowE digB b (p + 1) : Nat) : Int) - ((n + p : Nat) : Int) - 1) = x - ((rowE digB b (p + 1) : Int) - p - 1) by omega]
  refine shf_ite n (by omega) rfl ?_
  exact shf_ite n Iff.rfl rfl rfl
theorem expF_shf (h : Shf n b J) (e : Nat) : expF J (n + e) = n + expF b e := by
  unfold expF
  simp only [Nat.add_assoc, h.byt]
  split <;> rfl
theorem expI_shf (h : Shf n b J) (e : Nat) : expI J (n + e) ↔ expI b e := by
  unfold expI
  rw [expF_shf h, rowE_shf h, h.byt]
  constructor
  · exact fun k => ⟨k.1, by have := k.2; omega⟩
  · exact fun k => ⟨k.1, by have := k.2; omega⟩
theorem expV_shf (h : Shf n b J) (e : Nat) : expV J (n + e) = expV b e := by
  unfold expV
  rw [expF_shf h, rowE_shf h, valN_shf h, show n + rowE digB b (expF b e) - (n + expF b e) = rowE digB b (expF b e) - expF b e by omega]
  simp only [Nat.add_assoc, h.byt]
theorem fltR_shf (h : Shf n b J) (a p : Nat) : fltR J (n + a) (n + p) = TR.shf n (fltR b a p) := by
  unfold fltR
  rw [Nat.add_assoc, rowE_shf h, expF_shf h, expV_shf h, rowE_shf h]
  refine shf_ite n (expI_shf h _) ?_ (fltF_shf h ..)
  exact shf_ite n (by omega) rfl (fltF_shf h ..)
theorem numD_shf (h : Shf n b J) (a : Nat) : numD J (n + a) ↔ numD b a := by
  unfold numD
  rw [rowE_shf h, Nat.add_assoc, h.byt, h.byt]
theorem numR_shf (h : Shf n b J) (a : Nat) : numR J (n + a) = TR.shf n (numR b a) := by
  have hdec : (if numD J (n + a) then fltR J (n + a) (rowE digB J (n + a)) else intR J (n + a) (n + a) (rowE digB J (n + a)) 10) = TR.shf n (if numD b a then fltR b a (rowE digB b a) else intR b a a (rowE digB b a) 10) := by
    rw [rowE_shf h]
    exact shf_ite n (numD_shf h a) (fltR_shf h ..) (intR_shf h ..)
  have b0 := h.byt a
  have b1 := h.byt (a + 1)
  rw [← Nat.add_assoc] at b1
  have hrad : ∀ {c r : Nat} {p : Nat → Bool}, byt b a = 48 → ((c = 98 ∧ r = 2 ∧ p = binB) ∨ (c = 111 ∧ r = 8 ∧ p = octB) ∨ (c = 120 ∧ r = 16 ∧ p = hexB)) → byt b (a + 1) = c → numR J (n + a) = TR.shf n (numR b a) := fun {c r p} h0 hc h1 => by
    rw [num_rad (by rw [b0]; exact h0) hc (by rw [b1]; exact h1), num_rad h0 hc h1, hdec, Nat.add_assoc, rowE_shf h]
    exact shf_ite n (by omega) (intR_shf h ..) rfl
  rcases hc : chrR b a with _ | R
  · have hcJ : chrR J (n + a) = none := by rw [chrR_shf h, hc]; rfl
    by_cases h2 : byt b a = 48 ∧ (byt b (a + 1) = 98 ∨ byt b (a + 1) = 111 ∨ byt b (a + 1) = 120)
    · obtain ⟨h0, h3 | h3 | h3⟩ := h2
      · exact hrad h0 (c := 98) (.inl ⟨rfl, rfl, rfl⟩) h3
      · exact hrad h0 (c := 111) (.inr (.inl ⟨rfl, rfl, rfl⟩)) h3
      · exact hrad h0 (c := 120) (.inr (.inr ⟨rfl, rfl, rfl⟩)) h3
    · rw [num_dec hcJ (by rw [b0, b1]; exact h2), num_dec hc h2]
      exact hdec
  · rw [num_chr hc, num_chr (R := TR.shf n R) (by rw [chrR_shf h, hc]; rfl)]
end Go.Lx
