import Derived.Test.YteegpmimbbgdlaaGreatDoorLxShf
/- A text behind another one: tokens and layout. -/
namespace Go.Lx
open Go.Hb Go.Rb Go.Bg Go.Pf Go.Proofs
variable {n : Nat} {b J : ByteArray}
/-- One step of quoted, shifted. -/
def shfQ (n : Nat) : TR ⊕ (Nat × List UInt8) → TR ⊕ (Nat × List UInt8)
  | .inl R => .inl (TR.shf n R)
  | .inr (p, o) => .inr (n + p, o)
theorem quoS_shf (h : Shf n b J) (a q p : Nat) (out : List UInt8) : quoS J (n + a) q (n + p) out = shfQ n (quoS b a q p out) := by
  have hz := h.size
  unfold quoS
  simp only [Nat.add_assoc, h.byt, hz, Nat.add_le_add_iff_left, Nat.add_lt_add_iff_left, escV_shf h, chD_shf h]
  split
  · rfl
  · cases chD b p with
    | none => rfl
    | some x =>
      obtain ⟨v, m⟩ := x
      simp only
      split
      · rfl
      · split
        · split
          · rfl
          · split <;> rfl
        · split
          · split
            · rfl
            · cases escV b p with
              | none => rfl
              | some y => rfl
          · rfl
theorem quoN_shf (h : Shf n b J) (a q : Nat) : ∀ (f p : Nat) (out : List UInt8), quoN J (n + a) q f (n + p) out = TR.shf n (quoN b a q f p out)
  | 0, _, _ => rfl
  | f + 1, p, out => by
    rw [quoN, quoN, quoS_shf h]
    cases quoS b a q p out with
    | inl R => rfl
    | inr x => exact quoN_shf h a q f x.1 x.2
theorem quoE_shf (h : Shf n b J) (a q p : Nat) (out : List UInt8) : quoE J (n + a) q (n + p) out = TR.shf n (quoE b a q p out) := by
  unfold quoE
  rw [show J.size + 1 - (n + p) = b.size + 1 - p by have := h.size; omega]
  exact quoN_shf h ..
theorem lngR_shf (h : Shf n b J) (k a t : Nat) : lngR J k (n + a) (n + t) = TR.shf n (lngR b k a t) := by
  unfold lngR
  rw [h.ext]
  exact shf_ite n (by omega) rfl rfl
theorem tokR_shf (h : Shf n b J) (a : Nat) : tokR J (n + a) = TR.shf n (tokR b a) := by
  have hz := h.size
  unfold tokR
  simp only [Nat.add_assoc, h.byt, rowE_shf h, numR_shf h, quoE_shf h, lngR_shf h]
  refine shf_ite n (by omega) rfl ?_
  refine shf_ite n Iff.rfl rfl ?_
  refine shf_ite n Iff.rfl rfl ?_
  refine shf_ite n Iff.rfl rfl ?_
  refine shf_ite n Iff.rfl rfl ?_
  refine shf_ite n Iff.rfl ?_ ?_
  · refine shf_ite n ?_ rfl rfl
    constructor
    · rintro ⟨h1, h2, h3⟩; exact ⟨by omega, h2, by rcases h3 with h3 | h3; exact .inl (by omega); exact .inr h3⟩
    · rintro ⟨h1, h2, h3⟩; exact ⟨by omega, h2, by rcases h3 with h3 | h3; exact .inl (by omega); exact .inr h3⟩
  · refine shf_ite n Iff.rfl rfl ?_
    exact shf_ite n Iff.rfl rfl rfl
theorem cmtN_shf (h : Shf n b J) : ∀ k a, cmtN J k (n + a) = n + cmtN b k a
  | 0, _ => rfl
  | k + 1, a => by
    have hz := h.size
    rw [cmtN, cmtN]
    simp only [Nat.add_assoc, h.byt, hz, Nat.add_lt_add_iff_left]
    split
    · split
      · rfl
      · exact cmtN_shf h k (a + 1)
    · rfl
theorem cmtE_shf (h : Shf n b J) (a : Nat) : cmtE J (n + a) = n + cmtE b a := by
  unfold cmtE
  rw [show J.size - (n + a) = b.size - a by have := h.size; omega]
  exact cmtN_shf h _ a
def shfK (n : Nat) : LayK → LayK
  | .stop => .stop
  | .opn => .opn
  | .upto t => .upto (n + t)
theorem layTo_shf (h : Shf n b J) (p : Nat) : layTo J (n + p) = shfK n (layTo b p) := by
  have hz := h.size
  unfold layTo
  simp only [Nat.add_assoc, h.byt, rowE_shf h, cmtE_shf h, hz, Nat.add_lt_add_iff_left]
  split
  · rfl
  · split
    · show LayK.upto _ = LayK.upto _
      congr 1
      omega
    · split
      · split <;> rfl
      · rfl
theorem chv_shf0 {x y : ByteArray} (hz : y.size = n + x.size) (hb : ∀ p, byt y (n + p) = byt x p) (p : Nat) (v m : Int) : ChV y (n + p) v m ↔ ChV x p v m := by
  unfold ChV
  rw [Nat.add_assoc, Nat.add_assoc, Nat.add_assoc, hb, hb, hb, hb, show (n + p < y.size) = (p < x.size) by rw [eq_iff_iff]; omega]
theorem odd_shf (h : Shf n b J) {t : Nat} (ht : t ≤ b.size) {p : Nat} {r : Int} (hr : OddAt (b.extract 0 t) p r) : OddAt (J.extract 0 (n + t)) (n + p) (if r = -1 then -1 else n + r) := by
  have hz := h.size
  have z1 : (b.extract 0 t).size = t := by rw [ByteArray.size_extract]; omega
  have z2 : (J.extract 0 (n + t)).size = n + t := by rw [ByteArray.size_extract]; omega
  have hs : ∀ q v m, ChV (J.extract 0 (n + t)) (n + q) v m ↔ ChV (b.extract 0 t) q v m := chv_shf0 (by omega) (fun q => by
    rcases Nat.lt_or_ge q t with h1 | h1
    · rw [byt_ext0 (by omega) (by omega), byt_ext0 ht h1, h.byt]
    · rw [byt_ext0' (by omega) (by omega), byt_ext0' ht h1])
  induction hr with
  | done h1 => rw [if_pos rfl]; exact .done (by omega)
  | bad h1 h2 =>
    rename_i q
    rw [if_neg (by omega), show (n : Int) + (q : Int) = ((n + q : Nat) : Int) by omega]
    exact .bad (by omega) (fun v m hc => h2 v m ((hs q v m).1 hc))
  | step h1 _ ih =>
    refine .step ((hs _ _ _).2 h1) ?_
    rw [Nat.add_assoc]
    exact ih
theorem lay_shf (h : Shf n b J) {p K E : Nat} (hl : Lay b p K E) : Lay J (n + p) (n + K) E := by
  have hz := h.size
  induction hl with
  | done h1 => exact .done (by omega)
  | stop h1 h2 => exact .stop (by omega) (by rw [layTo_shf h, h2]; rfl)
  | opn h1 h2 => exact .opn (by omega) (by rw [layTo_shf h, h2]; rfl)
  | bad h1 h2 h3 =>
    rename_i p t r
    have hb := layTo_bound h1 h2
    have h4 := odd_shf h hb.2 h3
    rw [if_neg (by omega), show (n : Int) + (r : Int) = ((n + r : Nat) : Int) by omega] at h4
    exact .bad (by omega) (by rw [layTo_shf h, h2]; rfl) h4
  | step h1 h2 h3 _ ih =>
    have hb := layTo_bound h1 h2
    have h4 := odd_shf h hb.2 h3
    rw [if_pos rfl] at h4
    exact .step (by omega) (by rw [layTo_shf h, h2]; rfl) h4 ih
/-- What Next tells of the text behind is what it tells of the joined one. -/
theorem nxAt_shf (h : Shf n b J) {p : Nat} {R : TR} {ly : Bool} (hN : NxAt b p R ly) : NxAt J (n + p) (TR.shf n R) ly := by
  obtain ⟨K, E, h1, rfl, rfl⟩ := hN
  refine ⟨n + K, E, lay_shf h h1, ?_, decide_eq_decide.2 (by omega)⟩
  unfold nxR
  split
  · exact (tokR_shf h K).symm
  · rfl
end Go.Lx
