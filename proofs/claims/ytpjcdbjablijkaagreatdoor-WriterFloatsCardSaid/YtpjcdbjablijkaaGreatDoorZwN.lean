import Derived.Test.YtpjcdbjablijkaaGreatDoorZwG
import Derived.Lib.ItoaNum
import Derived.Lib.Replace
import Derived.Lib.Repeat
import Derived.Lib.IndexMore
import Derived.Lib.Atoi
set_option linter.unusedVariables false
set_option linter.unusedSimpArgs false
set_option maxRecDepth 100000
namespace Go.Zw
open Go.Pf
/-- The unit's exponent. -/
def pUnit (sk : Bool) (u : Nat) : Int := if sk then (((u : Int) - 1074) * 631305 - 261663) / 2097152 else ((u : Int) - 1074) * 78913 / 262144
def gA (P : Int) : Nat := 10 ^ P.toNat * KZ
def gC (P : Int) (u : Nat) : Nat := 10 ^ (-P).toNat * 2 ^ u
def fitB (sk : Bool) (u : Nat) : Bool :=
  let a := gA (pUnit sk u); let c := gC (pUnit sk u) u
  if sk then Nat.ble (4 * a) (3 * c) && Nat.blt (3 * c) (40 * a) else Nat.ble a c && Nat.blt c (10 * a)
theorem fit_all : (List.range 2046).all (fun u => fitB false u && fitB true u) = true := by kernel_rfl
theorem gA_pos (P : Int) : 0 < gA P := Nat.mul_pos (Nat.pow_pos (by decide)) KZ_pos
theorem gC_pos (P : Int) (u : Nat) : 0 < gC P u := Nat.mul_pos (Nat.pow_pos (by decide)) (Nat.two_pow_pos u)
theorem ufit (sk : Bool) {u : Nat} (h : u < 2046) : UFit (gA (pUnit sk u)) (gC (pUnit sk u) u) sk := by
  have h1 := List.all_eq_true.1 fit_all u (List.mem_range.2 h)
  rw [Bool.and_eq_true] at h1
  refine ⟨gA_pos _, ?_⟩
  cases sk
  · have h2 := h1.1
    unfold fitB at h2
    simp only [Bool.false_eq_true, if_false, Bool.and_eq_true, Nat.ble_eq, Nat.blt_eq] at h2 ⊢
    exact h2
  · have h2 := h1.2
    unfold fitB at h2
    simp only [if_true, Bool.and_eq_true, Nat.ble_eq, Nat.blt_eq] at h2 ⊢
    exact h2
def skB (r u : Nat) : Bool := decide (r = 4503599627370496 ∧ 0 < u)
def odB (r : Nat) : Bool := decide (r % 2 = 1)
theorem sk_od (r u : Nat) : skB r u = true → odB r = false := by
  unfold skB odB
  intro h
  have := of_decide_eq_true h
  rw [this.1]
  rfl
theorem fl_sin {P : Int} {r u d : Nat} (hr : r < 9007199254740992) (hu : u = 0 ∨ 4503599627370496 ≤ r) (hb : u * 4503599627370496 + r < infB) :
    Fl (d * 10 ^ P.toNat) (10 ^ (-P).toNat) (u * 4503599627370496 + r) ↔ SIn (r * gC P u) (gA P) (gC P u) (skB r u) (odB r) d := by
  rw [fl_in (Nat.pow_pos (by decide)) hr hu hb]
  unfold FlIn SIn gA skB odB
  have e : d * (10 ^ P.toNat * KZ) = d * 10 ^ P.toNat * KZ := (Nat.mul_assoc _ _ _).symm
  rw [e]
  show _ ↔ (if decide (r = 4503599627370496 ∧ 0 < u) = true then _ else _) ∧ _ ∧ (decide (r % 2 = 1) = true → _)
  simp only [decide_eq_true_eq]
  unfold gC
  exact Iff.rfl
theorem not_zero {M a c : Nat} {sk od : Bool} (hc : 0 < c) (hM : c ≤ M) : ¬ SIn M a c sk od 0 := by
  rintro ⟨h, _⟩
  rw [Nat.zero_mul] at h
  cases sk <;> simp only [if_true, if_false, Bool.false_eq_true] at h <;> omega
def TN : Nat := 324
def tiny : Nat := 10 ^ TN
theorem tiny1 : 10 * KZ < 3 * tiny := Nat.le_of_ble_eq_true (by kernel_rfl)
theorem tiny2 : 2 * tiny + tiny < 2 * (10 * KZ) := Nat.le_of_ble_eq_true (by kernel_rfl)
theorem tiny3 : rne (2 * tiny) KZ = 10 := by kernel_rfl
theorem unit0 : pUnit false 0 = -324 := by decide
/-- The least floats: where the float has one digit of the unit. -/
theorem one_digit {r u : Nat} (hr0 : 0 < r) (hu : u = 0 ∨ 4503599627370496 ≤ r) (hu2 : u < 2046) (hM : r * gC (pUnit (skB r u) u) u < gA (pUnit (skB r u) u) * 10)
    (h : SIn (r * gC (pUnit (skB r u) u) u) (gA (pUnit (skB r u) u)) (gC (pUnit (skB r u) u) u) (skB r u) (odB r) 10) : rndN (r * gC (pUnit (skB r u) u) u) (gA (pUnit (skB r u) u)) = 10 := by
  have hf := ufit (skB r u) hu2
  have hlt : r < 20 := by
    rcases Nat.lt_or_ge r 20 with h1 | h1
    · exact h1
    · exfalso
      have h2 : 20 * gC (pUnit (skB r u) u) u ≤ r * gC (pUnit (skB r u) u) u := Nat.mul_le_mul_right _ h1
      unfold UFit at hf
      generalize gC (pUnit (skB r u) u) u = c at *
      generalize gA (pUnit (skB r u) u) = a at *
      cases hs : skB r u <;> rw [hs] at hf <;> simp only [if_true, if_false, Bool.false_eq_true] at hf <;> omega
  obtain rfl : u = 0 := by omega
  have hs : skB r 0 = false := by unfold skB; simp
  have ec : gC (-324) 0 = tiny := by
    unfold gC tiny
    rw [Nat.pow_zero, Nat.mul_one]
    exact congrArg (fun n => 10 ^ n) (show (-(-324 : Int)).toNat = TN by decide)
  have ea : gA (-324) = KZ := by unfold gA; rw [show ((-324 : Int)).toNat = 0 from rfl, Nat.pow_zero, Nat.one_mul]
  rw [hs, unit0, ec, ea] at hM h ⊢
  have t1 := tiny1
  have t2 := tiny2
  have hr2 : r = 1 ∨ r = 2 := by
    rcases (by omega : r = 1 ∨ r = 2 ∨ 3 ≤ r) with h1 | h1 | h1
    · exact .inl h1
    · exact .inr h1
    · exfalso
      have : 3 * tiny ≤ r * tiny := Nat.mul_le_mul_right _ h1
      omega
  rcases hr2 with rfl | rfl
  · exfalso
    have := h.2.1
    omega
  · exact tiny3
/-- THE SHORTEST DIGITS: what the document takes, of the greatest unit at which something is read, is what the program takes. -/
theorem short_same {r u I im : Nat} (hr0 : 0 < r) (hu : u = 0 ∨ 4503599627370496 ≤ r) (hu2 : u < 2046)
    {P : Int} (hP : P = pUnit (skB r u) u) {M a c : Nat} (hM : M = r * gC P u) (ha : a = gA P) (hc : c = gC P u)
    (hI : M < a * 10 ^ (I + 1)) (hm : im ≤ I) (hok : dOk M a c (skB r u) (odB r) im) (hmax : ∀ i, im < i → i ≤ I → ¬ dOk M a c (skB r u) (odB r) i) :
    10 ^ im * dPick M a c (skB r u) (odB r) im = (pPick M a (dMin M a c (skB r u) (odB r)) (dMax M a c (odB r))).1 * 10 ^ (pPick M a (dMin M a c (skB r u) (odB r)) (dMax M a c (odB r))).2 := by
  have hc0 : 0 < c := by rw [hc]; exact gC_pos _ _
  have ha0 : 0 < a := by rw [ha]; exact gA_pos _
  have hMc : c ≤ M := by rw [hM, hc]; exact Nat.le_mul_of_pos_left _ hr0
  have hf : UFit a c (skB r u) := by rw [ha, hc, hP]; exact ufit _ hu2
  refine pick_same (I := I) hf hc0 (sk_od r u) ?_ (fun d => sin_iff ha0 hc0 hMc (sk_od r u) d) (not_zero hc0 hMc) hI ?_ hm hok hmax
  · intro _ h
    rw [hM, ← hc, h]
    exact Nat.mul_mod_left _ _
  · intro h0 h10
    subst h0
    rw [Nat.zero_add, Nat.pow_one] at hI
    rw [hM, ha, hP] at hI ⊢
    rw [hM, ha, hc, hP] at h10
    exact one_digit hr0 hu hu2 hI h10
end Go.Zw
set_option linter.unusedVariables false
set_option linter.unusedSimpArgs false
set_option maxRecDepth 100000
namespace Go.Zw
open Go.Pf
/-- d times 10 to the power of x is read as b. -/
def rdOk (b d : Nat) (x : Int) : Prop := Fl (d * 10 ^ x.toNat) (10 ^ (-x).toNat) b
theorem rd_step (b d : Nat) (x : Int) : rdOk b d (x + 1) ↔ rdOk b (10 * d) x := by
  have hp : ∀ n : Nat, 0 < 10 ^ n := fun n => Nat.pow_pos (by decide)
  have e : d * 10 ^ (x + 1).toNat * 10 ^ (-x).toNat = 10 * d * 10 ^ x.toNat * 10 ^ (-(x + 1)).toNat := by
    rcases (by omega : 0 ≤ x ∨ x < 0) with h | h
    · rw [show (x + 1).toNat = x.toNat + 1 by omega, show (-x).toNat = 0 by omega, show (-(x + 1)).toNat = 0 by omega, Nat.pow_succ]
      ac_rfl
    · rw [show (x + 1).toNat = 0 by omega, show x.toNat = 0 by omega, show (-x).toNat = (-(x + 1)).toNat + 1 by omega, Nat.pow_succ]
      ac_rfl
  exact ⟨fun h => h.ratio (hp _) (hp _) e, fun h => h.ratio (hp _) (hp _) e.symm⟩
theorem rd_scale (b : Nat) (x : Int) : ∀ k d : Nat, rdOk b d (x + k) ↔ rdOk b (10 ^ k * d) x
  | 0, d => by rw [Nat.pow_zero, Nat.one_mul, show x + ((0 : Nat) : Int) = x by omega]
  | k + 1, d => by
    rw [show x + ((k + 1 : Nat) : Int) = x + k + 1 by omega, rd_step, rd_scale b x k, Nat.pow_succ, Nat.mul_assoc]
/-- The float as a quotient, as the document has it. -/
def rA (r u : Nat) : Nat := r * 2 ^ (u - 1074)
def rB (u : Nat) : Nat := 2 ^ (1074 - u)
theorem rA_rB (r u : Nat) : rA r u * KZ = r * 2 ^ u * rB u := by
  unfold rA rB KZ
  have hk := KE_eq
  rw [Nat.mul_assoc, Nat.mul_assoc, ← Nat.pow_add, ← Nat.pow_add]
  congr 2
  omega
/-- The same in a unit that is 10 to the power of x. -/
def sX (r u : Nat) (x : Int) : Nat := rA r u * 10 ^ (-x).toNat
def sY (u : Nat) (x : Int) : Nat := rB u * 10 ^ x.toNat
theorem sY_pos (u : Nat) (x : Int) : 0 < sY u x := Nat.mul_pos (Nat.two_pow_pos _) (Nat.pow_pos (by decide))
theorem unit_cross (r u : Nat) (P : Int) (i : Nat) : sX r u (P + i) * (gA P * 10 ^ i) = r * gC P u * sY u (P + i) := by
  have h := rA_rB r u
  have e : (-(P + i)).toNat + P.toNat + i = (-P).toNat + (P + i).toNat := by omega
  have e2 : 10 ^ (-(P + i)).toNat * 10 ^ P.toNat * 10 ^ i = 10 ^ (-P).toNat * 10 ^ (P + (i : Int)).toNat := by rw [← Nat.pow_add, ← Nat.pow_add, ← Nat.pow_add, e]
  unfold sX sY gA gC
  generalize 10 ^ (-(P + (i : Int))).toNat = t1 at *
  generalize 10 ^ P.toNat = t2 at *
  generalize 10 ^ (-P).toNat = t3 at *
  generalize 10 ^ (P + (i : Int)).toNat = t4 at *
  generalize 10 ^ i = t5 at *
  generalize KZ = K at *
  generalize 2 ^ u = U at *
  generalize rA r u = A at *
  generalize rB u = B at *
  calc A * t1 * (t2 * K * t5) = A * K * (t1 * t2 * t5) := by ac_rfl
    _ = r * U * B * (t3 * t4) := by rw [h, e2]
    _ = r * (t3 * U) * (B * t4) := by ac_rfl
theorem unit_quo (r u : Nat) (P : Int) (i : Nat) : sX r u (P + i) / sY u (P + i) = r * gC P u / (gA P * 10 ^ i) ∧ rne (sX r u (P + i)) (sY u (P + i)) = rndN (r * gC P u) (gA P * 10 ^ i) := by
  have h1 := sY_pos u (P + i)
  have h2 : 0 < gA P * 10 ^ i := Nat.mul_pos (gA_pos P) (Nat.pow_pos (by decide))
  exact ⟨(div_ratio h1 h2 (unit_cross r u P i)).1, rne_ratio h1 h2 (unit_cross r u P i)⟩
/-- Some digits of a unit are read as the float. -/
def rdEx (b : Nat) (x : Int) : Prop := ∃ d, rdOk b d x
theorem rdEx.down {b : Nat} {x : Int} (h : rdEx b (x + 1)) : rdEx b x := by
  obtain ⟨d, h⟩ := h
  exact ⟨_, (rd_step b d x).1 h⟩
theorem rdEx.le {b : Nat} {x y : Int} (h : rdEx b y) (hxy : x ≤ y) : rdEx b x := by
  obtain ⟨k, rfl⟩ : ∃ k : Nat, y = x + k := ⟨(y - x).toNat, by omega⟩
  obtain ⟨d, h⟩ := h
  exact ⟨_, (rd_scale b x k d).1 h⟩
end Go.Zw
set_option linter.unusedVariables false
set_option linter.unusedSimpArgs false
set_option maxRecDepth 100000
namespace Go.Zw
open Go.Pf
/-- A float above nought: its bits, mantissa, exponent. -/
structure FltOk (b r u : Nat) : Prop where
  r0 : 0 < r
  r53 : r < 9007199254740992
  nrm : u = 0 ∨ 4503599627370496 ≤ r
  u2 : u < 2046
  eq : b = u * 4503599627370496 + r
  inf : b < infB
section
variable {b r u : Nat}
theorem FltOk.sin (h : FltOk b r u) (i d : Nat) : rdOk b d (pUnit (skB r u) u + i) ↔ SIn (r * gC (pUnit (skB r u) u) u) (gA (pUnit (skB r u) u) * 10 ^ i) (gC (pUnit (skB r u) u) u) (skB r u) (odB r) d := by
  rw [rd_scale, ← SIn.scale]
  unfold rdOk
  rw [h.eq]
  exact fl_sin h.r53 h.nrm (by rw [← h.eq]; exact h.inf)
theorem FltOk.okI (h : FltOk b r u) (i : Nat) : rdEx b (pUnit (skB r u) u + i) ↔ dOk (r * gC (pUnit (skB r u) u) u) (gA (pUnit (skB r u) u)) (gC (pUnit (skB r u) u) u) (skB r u) (odB r) i := by
  constructor
  · rintro ⟨d, hd⟩
    exact dOk_of (gA_pos _) (gC_pos _ _) (SIn.scale.2 ((h.sin i d).1 hd))
  · rintro (h1 | h1)
    · exact ⟨_, (h.sin i _).2 h1⟩
    · exact ⟨_, (h.sin i _).2 h1⟩
theorem FltOk.least (h : FltOk b r u) : rdEx b (pUnit (skB r u) u) := by
  have h1 := (h.okI 0).2 (by
    have h2 := SIn.ex (M := r * gC (pUnit (skB r u) u) u) (od := odB r) (ufit (skB r u) h.u2) (gC_pos _ _) (sk_od r u) (fun _ hc => by rw [hc]; exact Nat.mul_mod_left _ _)
    unfold dOk
    rw [Nat.pow_zero, Nat.mul_one]
    exact h2)
  rwa [show pUnit (skB r u) u + ((0 : Nat) : Int) = pUnit (skB r u) u by omega] at h1
/-- The float lies between 10 to the power of e and ten times that. -/
structure ExpOk (r u : Nat) (e : Int) : Prop where
  lo : sY u e ≤ sX r u e
  hi : sX r u (e + 1) < sY u (e + 1)
theorem ExpOk.unit {e : Int} (h : FltOk b r u) (he : ExpOk r u e) : pUnit (skB r u) u ≤ e ∧ e ≤ pUnit (skB r u) u + 16 := by
  obtain ⟨P, hP⟩ : ∃ P, P = pUnit (skB r u) u := ⟨_, rfl⟩
  have hf := ufit (skB r u) h.u2
  rw [← hP] at hf ⊢
  have hM1 : gC P u ≤ r * gC P u := Nat.le_mul_of_pos_left _ h.r0
  have hr := h.r53
  have hr2 : (r + 1) * gC P u ≤ 9007199254740992 * gC P u := Nat.mul_le_mul_right _ hr
  rw [Nat.add_mul, Nat.one_mul] at hr2
  have hsk : skB r u = true → r = 4503599627370496 := fun h => by unfold skB at h; exact (of_decide_eq_true h).1
  constructor
  · rcases (by omega : e < P ∨ P ≤ e) with hlt | hge
    · exfalso
      obtain ⟨k, hk⟩ : ∃ k : Nat, P = e + 1 + k := ⟨(P - e - 1).toNat, by omega⟩
      have hc := unit_cross r u P 0
      rw [show P + ((0 : Nat) : Int) = P by omega, Nat.pow_zero, Nat.mul_one] at hc
      -- at the unit P the float is one at least, at e + 1 less than one
      have h1 : sX r u P < sY u P := by
        have e1 : (-(e + 1)).toNat + P.toNat = (-P).toNat + (e + 1).toNat + k := by omega
        have e2 : 10 ^ (-(e + 1)).toNat * 10 ^ P.toNat = 10 ^ (-P).toNat * 10 ^ (e + 1).toNat * 10 ^ k := by rw [← Nat.pow_add, ← Nat.pow_add, ← Nat.pow_add, e1]
        have hhi := he.hi
        unfold sX sY at *
        generalize rA r u = A at *
        generalize rB u = B at *
        have p1 : 0 < 10 ^ (-(e + 1)).toNat := Nat.pow_pos (by decide)
        have p4 : 0 < 10 ^ (-P).toNat := Nat.pow_pos (by decide)
        have p5 : 0 < 10 ^ k := Nat.pow_pos (by decide)
        generalize 10 ^ (-(e + 1)).toNat = t1 at *
        generalize 10 ^ P.toNat = t2 at *
        generalize 10 ^ (-P).toNat = t3 at *
        generalize 10 ^ (e + 1).toNat = t4 at *
        generalize 10 ^ k = t5 at *
        refine Nat.lt_of_mul_lt_mul_right (a := t1) ?_
        have a1 : A * t3 * t1 = t3 * (A * t1) := by ac_rfl
        have a2 : B * t2 * t1 = t3 * (B * t4) * t5 := by
          have : B * t2 * t1 = B * (t1 * t2) := by ac_rfl
          rw [this, e2]; ac_rfl
        rw [a1, a2]
        have a3 : t3 * (A * t1) < t3 * (B * t4) := Nat.mul_lt_mul_of_pos_left hhi p4
        exact Nat.lt_of_lt_of_le a3 (Nat.le_mul_of_pos_right _ p5)
      have h2 : sX r u P * gA P < sY u P * gA P := Nat.mul_lt_mul_of_pos_right h1 (gA_pos P)
      rw [hc] at h2
      have h3 : gA P ≤ r * gC P u := by
        have h4 : gA P ≤ gC P u := by
          unfold UFit at hf
          generalize gC P u = c at *
          generalize gA P = a at *
          cases hs : skB r u <;> rw [hs] at hf <;> simp only [if_true, if_false, Bool.false_eq_true] at hf <;> omega
        omega
      have h5 : sY u P * gA P ≤ r * gC P u * sY u P := by rw [Nat.mul_comm (sY u P)]; exact Nat.mul_le_mul_right _ h3
      omega
    · exact hge
  · rcases (by omega : P + 16 < e ∨ e ≤ P + 16) with hlt | hge
    · exfalso
      obtain ⟨i, hi⟩ : ∃ i : Nat, e = P + i ∧ 17 ≤ i := ⟨(e - P).toNat, by omega, by omega⟩
      obtain ⟨rfl, hi17⟩ := hi
      have hc := unit_cross r u P i
      have h1 : sY u (P + i) * (gA P * 10 ^ i) ≤ sX r u (P + i) * (gA P * 10 ^ i) := Nat.mul_le_mul_right _ he.lo
      rw [hc, Nat.mul_comm (sY u (P + i))] at h1
      have h2 := Nat.le_of_mul_le_mul_right h1 (sY_pos u (P + i))
      have h3 : 10 ^ 17 ≤ 10 ^ i := Nat.pow_le_pow_right (by decide) hi17
      have h4 : gA P * 10 ^ 17 ≤ gA P * 10 ^ i := Nat.mul_le_mul_left _ h3
      have e17 : (10 : Nat) ^ 17 = 100000000000000000 := by decide
      rw [e17] at h4
      unfold UFit at hf
      cases hs : skB r u
      · rw [hs] at hf
        simp only [if_false, Bool.false_eq_true] at hf
        omega
      · rw [hs] at hf
        simp only [if_true] at hf
        rw [hsk hs] at h2
        omega
    · exact hge
open Classical in
/-- The document's digits of the unit x. -/
noncomputable def dDig (b r u : Nat) (x : Int) : Nat :=
  if rdOk b (sX r u x / sY u x) x ∧ (rne (sX r u x) (sY u x) = sX r u x / sY u x ∨ ¬ rdOk b (sX r u x / sY u x + 1) x) then sX r u x / sY u x else sX r u x / sY u x + 1
theorem FltOk.pick (h : FltOk b r u) (i : Nat) : dDig b r u (pUnit (skB r u) u + i) = dPick (r * gC (pUnit (skB r u) u) u) (gA (pUnit (skB r u) u)) (gC (pUnit (skB r u) u) u) (skB r u) (odB r) i := by
  obtain ⟨h1, h2⟩ := unit_quo r u (pUnit (skB r u) u) i
  unfold dDig dPick
  rw [h1, h2]
  have e1 := h.sin i (r * gC (pUnit (skB r u) u) u / (gA (pUnit (skB r u) u) * 10 ^ i))
  have e2 := h.sin i (r * gC (pUnit (skB r u) u) u / (gA (pUnit (skB r u) u) * 10 ^ i) + 1)
  rw [e1, e2]
/-- What the program takes: digits and the unit's exponent. -/
def pDig (r u : Nat) : Nat × Nat := pPick (r * gC (pUnit (skB r u) u) u) (gA (pUnit (skB r u) u)) (dMin (r * gC (pUnit (skB r u) u) u) (gA (pUnit (skB r u) u)) (gC (pUnit (skB r u) u) u) (skB r u) (odB r)) (dMax (r * gC (pUnit (skB r u) u) u) (gA (pUnit (skB r u) u)) (gC (pUnit (skB r u) u) u) (odB r))
/-- THE SHORTEST DIGITS: the document's of the fewest digits, and the program's. -/
theorem digits_same {e : Int} {n : Nat} (h : FltOk b r u) (he : ExpOk r u e) (hn : 1 ≤ n) (hok : rdEx b (e - n + 1)) (hno : n = 1 ∨ ¬ rdEx b (e - n + 2)) :
    ∃ i : Nat, e - n + 1 = pUnit (skB r u) u + i ∧ 10 ^ i * dDig b r u (e - n + 1) = (pDig r u).1 * 10 ^ (pDig r u).2 := by
  obtain ⟨hP1, hP2⟩ := he.unit h
  have hx : pUnit (skB r u) u ≤ e - n + 1 := by
    rcases hno with hno | hno
    · omega
    · rcases (by omega : e - n + 1 < pUnit (skB r u) u ∨ pUnit (skB r u) u ≤ e - n + 1) with hlt | hge
      · exact absurd (h.least.le (x := e - n + 2) (by omega)) hno
      · exact hge
  obtain ⟨i, hi⟩ : ∃ i : Nat, e - n + 1 = pUnit (skB r u) u + i := ⟨(e - n + 1 - pUnit (skB r u) u).toNat, by omega⟩
  refine ⟨i, hi, ?_⟩
  rw [hi] at hok ⊢
  rw [h.pick]
  obtain ⟨I, hI⟩ : ∃ I : Nat, e = pUnit (skB r u) u + I := ⟨(e - pUnit (skB r u) u).toNat, by omega⟩
  refine short_same (I := I) h.r0 h.nrm h.u2 rfl rfl rfl rfl ?_ (by omega) ((h.okI i).1 hok) ?_
  · have hc := unit_cross r u (pUnit (skB r u) u) (I + 1)
    have e1 : pUnit (skB r u) u + ((I + 1 : Nat) : Int) = e + 1 := by omega
    rw [e1] at hc
    have h1 : sX r u (e + 1) * (gA (pUnit (skB r u) u) * 10 ^ (I + 1)) < sY u (e + 1) * (gA (pUnit (skB r u) u) * 10 ^ (I + 1)) := Nat.mul_lt_mul_of_pos_right he.hi (Nat.mul_pos (gA_pos _) (Nat.pow_pos (by decide)))
    rw [hc, Nat.mul_comm (sY u (e + 1))] at h1
    exact Nat.lt_of_mul_lt_mul_right h1
  · intro j hj1 hj2 hd
    have h1 := (h.okI j).2 hd
    rcases hno with hno | hno
    · omega
    · exact hno (h1.le (by omega))
end
end Go.Zw
set_option maxRecDepth 100000
namespace Go.Zw
open Go.Pf Go.Lib
theorem pow10_pos (n : Nat) : 0 < 10 ^ n := Nat.pow_pos (by decide)
/-- Two numbers without a nought at their ends, so many tens each. -/
theorem strip_unique {U V A B : Nat} (hU : U % 10 ≠ 0) (hV : V % 10 ≠ 0) (h : U * 10 ^ A = V * 10 ^ B) : U = V ∧ A = B := by
  have key : ∀ {U V A B : Nat}, U % 10 ≠ 0 → U * 10 ^ A = V * 10 ^ B → ¬ A < B := by
    intro U V A B hU h hlt
    obtain ⟨k, rfl⟩ : ∃ k, B = A + 1 + k := ⟨B - A - 1, by omega⟩
    have e : V * 10 ^ (A + 1 + k) = V * 10 ^ k * 10 * 10 ^ A := by rw [Nat.pow_add, Nat.pow_succ]; ac_rfl
    rw [e] at h
    have h2 := Nat.eq_of_mul_eq_mul_right (pow10_pos A) h
    exact hU (by rw [h2]; exact Nat.mul_mod_left _ _)
  have h1 := key hU h
  have h2 := key hV h.symm
  have h3 : A = B := by omega
  subst h3
  exact ⟨Nat.eq_of_mul_eq_mul_right (pow10_pos A) h, rfl⟩
/-- What is put down of a float: its digits U, its exponent x. -/
structure Out (b r u U : Nat) (x : Int) : Prop where
  n0 : U % 10 ≠ 0
  lt : U < 100000000000000000
  rd : rdOk b U (x - nDigits U + 1)
  lo : -330 ≤ x
  hi : x ≤ 400
  key : ∃ A : Nat, (pDig r u).1 * 10 ^ (pDig r u).2 = U * 10 ^ A ∧ x = pUnit (skB r u) u + A + nDigits U - 1
theorem Out.unique {b r u U V : Nat} {x y : Int} (h : Out b r u U x) (k : Out b r u V y) : U = V ∧ x = y := by
  obtain ⟨A, h1, h2⟩ := h.key
  obtain ⟨B, k1, k2⟩ := k.key
  obtain ⟨rfl, rfl⟩ := strip_unique h.n0 k.n0 (h1.symm.trans k1)
  exact ⟨rfl, by omega⟩
def Lo (r u : Nat) (e : Int) : Prop := sY u e ≤ sX r u e
theorem sXY_succ (r u : Nat) (e : Int) : sX r u (e + 1) * 10 * sY u e = sX r u e * sY u (e + 1) := by
  unfold sX sY
  have h : 10 ^ (-(e + 1)).toNat * 10 * 10 ^ e.toNat = 10 ^ (-e).toNat * 10 ^ (e + 1).toNat := by
    rw [← Nat.pow_succ, ← Nat.pow_add, ← Nat.pow_add]
    congr 1
    omega
  generalize 10 ^ (-(e + 1)).toNat = t1 at *
  generalize 10 ^ e.toNat = t2 at *
  generalize 10 ^ (-e).toNat = t3 at *
  generalize 10 ^ (e + 1).toNat = t4 at *
  generalize rA r u = A at *
  generalize rB u = B at *
  calc A * t1 * 10 * (B * t2) = A * B * (t1 * 10 * t2) := by ac_rfl
    _ = A * t3 * (B * t4) := by rw [h]; ac_rfl
theorem Lo.down {r u : Nat} {e : Int} (h : Lo r u (e + 1)) : Lo r u e := by
  unfold Lo at *
  have h1 := sXY_succ r u e
  have h2 := sY_pos u (e + 1)
  refine Nat.le_of_mul_le_mul_right (c := sY u (e + 1)) ?_ h2
  rw [← h1]
  have h3 : sY u (e + 1) * sY u e ≤ sX r u (e + 1) * sY u e := Nat.mul_le_mul_right _ h
  have h4 : sX r u (e + 1) * sY u e ≤ sX r u (e + 1) * 10 * sY u e := Nat.mul_le_mul_right _ (Nat.le_mul_of_pos_right _ (by decide))
  rw [Nat.mul_comm (sY u e)]
  exact Nat.le_trans h3 h4
theorem Lo.le {r u : Nat} {e f : Int} (h : Lo r u f) (hef : e ≤ f) : Lo r u e := by
  obtain ⟨k, rfl⟩ : ∃ k : Nat, f = e + k := ⟨(f - e).toNat, by omega⟩
  clear hef
  induction k with
  | zero => rw [show e + ((0 : Nat) : Int) = e by omega] at h; exact h
  | succ k ih => exact ih (Lo.down (by rw [show e + k + 1 = e + ((k + 1 : Nat) : Int) by omega]; exact h))
theorem exp_of {r u : Nat} {e : Int} (h1 : Lo r u e) (h2 : ¬ Lo r u (e + 1)) : ExpOk r u e := ⟨h1, Nat.lt_of_not_le h2⟩
theorem tenTwo {a b : Nat} (h : a ≤ 3 * b) : 2 ^ a ≤ 10 ^ b := by
  have h1 : 2 ^ a ≤ 2 ^ (3 * b) := Nat.pow_le_pow_right (by decide) h
  rw [Nat.pow_mul] at h1
  exact Nat.le_trans h1 (Nat.pow_le_pow_left (by decide) b)
theorem lo_low {r u : Nat} (h0 : 0 < r) : Lo r u (-400) := by
  unfold Lo sX sY rA rB
  obtain ⟨k, e1, hk⟩ : ∃ k : Nat, (-(-400 : Int)).toNat = k ∧ 400 ≤ k := ⟨400, by decide, by decide⟩
  have e2 : (-400 : Int).toNat = 0 := by decide
  rw [e1, e2, Nat.pow_zero, Nat.mul_one]
  have h1 : 2 ^ (1074 - u) ≤ 10 ^ k := tenTwo (by omega)
  have h2 : 0 < 2 ^ (u - 1074) := Nat.two_pow_pos _
  generalize 2 ^ (u - 1074) = p at *
  generalize 10 ^ k = q at *
  exact Nat.le_trans h1 (Nat.le_mul_of_pos_left _ (Nat.mul_pos h0 h2))
theorem lo_high {r u : Nat} (hr : r < 9007199254740992) (hu : u < 2046) : ¬ Lo r u 400 := by
  unfold Lo sX sY rA rB
  have e1 : (-(400 : Int)).toNat = 0 := by decide
  obtain ⟨k, e2, hk⟩ : ∃ k : Nat, (400 : Int).toNat = k ∧ 400 ≤ k := ⟨400, by decide, by decide⟩
  rw [e1, e2, Nat.pow_zero, Nat.mul_one]
  have h1 : 2 ^ (53 + (u - 1074)) ≤ 10 ^ k := tenTwo (by omega)
  have h2 : 0 < 2 ^ (u - 1074) := Nat.two_pow_pos _
  have h3 : 0 < 2 ^ (1074 - u) := Nat.two_pow_pos _
  rw [Nat.pow_add] at h1
  have e3 : (2 : Nat) ^ 53 = 9007199254740992 := by decide
  rw [e3] at h1
  generalize 2 ^ (u - 1074) = p at *
  generalize 10 ^ k = q at *
  generalize 2 ^ (1074 - u) = t at *
  have h4 : r * p < 9007199254740992 * p := Nat.mul_lt_mul_of_pos_right hr h2
  have h5 : q ≤ t * q := Nat.le_mul_of_pos_left _ h3
  omega
theorem exp_ex {r u : Nat} (h0 : 0 < r) (hr : r < 9007199254740992) (hu : u < 2046) : ∃ E, -400 ≤ E ∧ E < 400 ∧ Lo r u E ∧ ¬ Lo r u (E + 1) := by
  have key : ∀ k : Nat, ¬ Lo r u (-400 + k) → ∃ j : Nat, j < k ∧ Lo r u (-400 + j) ∧ ¬ Lo r u (-400 + j + 1) := by
    intro k
    induction k with
    | zero => intro h; exact absurd (lo_low h0) (by rw [show (-400 : Int) + ((0 : Nat) : Int) = -400 by omega] at h; exact h)
    | succ k ih =>
      intro h
      by_cases h1 : Lo r u (-400 + k)
      · exact ⟨k, by omega, h1, by rw [show (-400 : Int) + k + 1 = -400 + ((k + 1 : Nat) : Int) by omega]; exact h⟩
      · obtain ⟨j, a, b⟩ := ih h1
        exact ⟨j, by omega, b⟩
  obtain ⟨j, hj, h1, h2⟩ := key 800 (by rw [show (-400 : Int) + ((800 : Nat) : Int) = 400 by omega]; exact lo_high hr hu)
  exact ⟨_, by omega, by omega, h1, h2⟩
section
variable {b r u : Nat}
/-- Seventeen digits are enough. -/
theorem FltOk.seventeen (h : FltOk b r u) {e : Int} (he : ExpOk r u e) : rdEx b (e - 17 + 1) := h.least.le (by have := he.unit h; omega)
theorem FltOk.fewest (h : FltOk b r u) {e : Int} (he : ExpOk r u e) : ∃ n : Nat, 1 ≤ n ∧ n ≤ 17 ∧ rdEx b (e - n + 1) ∧ (n = 1 ∨ ¬ rdEx b (e - n + 2)) := by
  have key : ∀ k : Nat, rdEx b (e - (k + 1 : Nat) + 1) → ∃ n : Nat, 1 ≤ n ∧ n ≤ k + 1 ∧ rdEx b (e - n + 1) ∧ (n = 1 ∨ ¬ rdEx b (e - n + 2)) := by
    intro k
    induction k with
    | zero => intro h; exact ⟨1, by omega, by omega, h, .inl rfl⟩
    | succ k ih =>
      intro h
      by_cases h1 : rdEx b (e - (k + 1 : Nat) + 1)
      · obtain ⟨n, a, c, d⟩ := ih h1
        exact ⟨n, a, by omega, d⟩
      · exact ⟨k + 1 + 1, by omega, by omega, h, .inr (by rw [show e - ((k + 1 + 1 : Nat) : Int) + 2 = e - ((k + 1 : Nat) : Int) + 1 by omega]; exact h1)⟩
  exact key 16 (h.seventeen he)
open Classical in
/-- One of the two nearest numbers is read as it, where any is. -/
theorem FltOk.near (h : FltOk b r u) (x : Int) : rdEx b x ↔ rdOk b (sX r u x / sY u x) x ∨ rdOk b (sX r u x / sY u x + 1) x := by
  constructor
  · rintro ⟨d, hd⟩
    have hs : ∀ d, rdOk b d x ↔ SIn (r * gC x u) (gA x) (gC x u) (skB r u) (odB r) d := fun d => by
      unfold rdOk
      rw [h.eq]
      exact fl_sin h.r53 h.nrm (by rw [← h.eq]; exact h.inf)
    obtain ⟨h1, _⟩ := unit_quo r u x 0
    rw [show x + ((0 : Nat) : Int) = x by omega, Nat.pow_zero, Nat.mul_one] at h1
    have h2 : 0 < gA x := gA_pos x
    rw [hs, hs, h1]
    have h3 : gA x * (r * gC x u / gA x) + r * gC x u % gA x = r * gC x u := Nat.div_add_mod _ _
    have h4 : r * gC x u % gA x < gA x := Nat.mod_lt _ h2
    have h5 : r * gC x u / gA x * gA x = gA x * (r * gC x u / gA x) := Nat.mul_comm _ _
    refine ((hs d).1 hd).near (gC_pos x u) _ ?_ ?_
    · rw [h5]; omega
    · rw [Nat.add_mul, Nat.one_mul, h5]; omega
  · rintro (h1 | h1)
    · exact ⟨_, h1⟩
    · exact ⟨_, h1⟩
theorem FltOk.dOkd (h : FltOk b r u) {x : Int} (hx : rdEx b x) : rdOk b (dDig b r u x) x := by
  rw [h.near] at hx
  unfold dDig
  split
  · rename_i h1; exact h1.1
  · rename_i h1
    rcases hx with h2 | h2
    · rcases Classical.em (rdOk b (sX r u x / sY u x + 1) x) with h3 | h3
      · exact h3
      · exact absurd ⟨h2, .inr h3⟩ h1
    · exact h2
/-- Whatever digits without noughts behind come to the program's number are put down. -/
theorem FltOk.out (h : FltOk b r u) {U A : Nat} (hU : U % 10 ≠ 0) (hA : (pDig r u).1 * 10 ^ (pDig r u).2 = U * 10 ^ A) : Out b r u U (pUnit (skB r u) u + A + nDigits U - 1) := by
  obtain ⟨E, _, _, hE1, hE2⟩ := exp_ex h.r0 h.r53 h.u2
  have he := exp_of hE1 hE2
  obtain ⟨n, hn1, hn17, hok, hno⟩ := h.fewest he
  obtain ⟨i, hi, hd⟩ := digits_same h he hn1 hok hno
  have hrd := h.dOkd hok
  rw [hA] at hd
  obtain ⟨D, hD⟩ : ∃ D, D = dDig b r u (E - n + 1) := ⟨_, rfl⟩
  rw [← hD] at hd hrd
  have hV : rdOk b (U * 10 ^ A) (pUnit (skB r u) u) := by
    rw [← hd]
    rw [hi] at hrd
    exact (rd_scale b _ i D).1 hrd
  have hs := (h.sin 0 (U * 10 ^ A)).1 (by rw [show pUnit (skB r u) u + ((0 : Nat) : Int) = pUnit (skB r u) u by omega]; exact hV)
  rw [Nat.pow_zero, Nat.mul_one] at hs
  have hf := ufit (skB r u) h.u2
  have hb : U * 10 ^ A < 100000000000000000 := by
    have h1 := hs.2.1
    have hr := h.r53
    have hsk : skB r u = true → r = 4503599627370496 := fun h => by unfold skB at h; exact (of_decide_eq_true h).1
    apply Nat.lt_of_not_le
    intro hge
    have h2 : 100000000000000000 * gA (pUnit (skB r u) u) ≤ U * 10 ^ A * gA (pUnit (skB r u) u) := Nat.mul_le_mul_right _ hge
    have h3 : r * gC (pUnit (skB r u) u) u ≤ 9007199254740991 * gC (pUnit (skB r u) u) u := Nat.mul_le_mul_right _ (by omega)
    have h0 := gA_pos (pUnit (skB r u) u)
    unfold UFit at hf
    cases hsk2 : skB r u
    · rw [hsk2] at hf h1 h2 h3 h0
      simp only [if_false, Bool.false_eq_true] at hf
      generalize U * 10 ^ A * gA _ = y at *
      generalize r * gC _ u = z at *
      omega
    · have h5 := hsk hsk2
      rw [hsk2] at hf h1 h2 h3 h0
      rw [h5] at h1
      simp only [if_true] at hf
      generalize U * 10 ^ A * gA _ = y at *
      omega
  have hU1 : 1 ≤ U := by omega
  have hA17 : A ≤ 16 := by
    apply Nat.le_of_not_lt
    intro hge
    have h1 : 10 ^ 17 ≤ 10 ^ A := Nat.pow_le_pow_right (by decide) hge
    have h2 : 10 ^ A ≤ U * 10 ^ A := Nat.le_mul_of_pos_left _ hU1
    have e17 : (10 : Nat) ^ 17 = 100000000000000000 := by decide
    omega
  have hUl : U < 100000000000000000 := Nat.lt_of_le_of_lt (Nat.le_mul_of_pos_right _ (pow10_pos A)) hb
  have hnd : nDigits U ≤ 17 := by
    apply Nat.le_of_not_lt
    intro hge
    have h1 : ∀ k V : Nat, k + 1 ≤ nDigits V → 1 ≤ V → 10 ^ k ≤ V := by
      intro k
      induction k with
      | zero => intro V _ h; exact h
      | succ k ih =>
        intro V h h0
        by_cases h9 : V < 10
        · rw [nDigits_small h9] at h; omega
        · rw [nDigits_big h9] at h
          have := ih (V / 10) (by omega) (by omega)
          rw [Nat.pow_succ]
          omega
    have h2 := h1 17 U hge hU1
    have e17 : (10 : Nat) ^ 17 = 100000000000000000 := by decide
    omega
  obtain ⟨hP1, hP2⟩ := he.unit h
  have hP3 : -326 ≤ pUnit (skB r u) u ∧ pUnit (skB r u) u ≤ 340 := by
    have hu := h.u2
    unfold pUnit
    split <;> omega
  have hnp := nDigits_pos U
  refine ⟨hU, hUl, ?_, by omega, by omega, A, hA, rfl⟩
  rw [show pUnit (skB r u) u + A + nDigits U - 1 - nDigits U + 1 = pUnit (skB r u) u + A by omega, rd_scale, Nat.mul_comm]
  exact hV
/-- What the document takes, of the fewest digits, noughts taken away behind. -/
theorem FltOk.doc (h : FltOk b r u) {e : Int} {n U z : Nat} (he : ExpOk r u e) (hn : 1 ≤ n) (hok : rdEx b (e - n + 1)) (hno : n = 1 ∨ ¬ rdEx b (e - n + 2)) (hU : U % 10 ≠ 0) (hz : dDig b r u (e - n + 1) = U * 10 ^ z) :
    Out b r u U (e + (nDigits U + z) - n) := by
  obtain ⟨i, hi, hd⟩ := digits_same h he hn hok hno
  have e1 : (pDig r u).1 * 10 ^ (pDig r u).2 = U * 10 ^ (i + z) := by rw [← hd, hz, Nat.pow_add]; ac_rfl
  have h1 := h.out hU e1
  rwa [show pUnit (skB r u) u + ((i + z : Nat) : Int) + nDigits U - 1 = e + (nDigits U + z) - n by omega] at h1
end
end Go.Zw
set_option linter.unusedVariables false
set_option linter.unusedSimpArgs false
set_option maxRecDepth 100000
namespace Go.Zw
open Go.Pf Go.Lib
def zs (n : Nat) : List UInt8 := List.replicate n 48
/-- The text of a float above nought, of digits U and exponent x. -/
def fTxt (U : Nat) (x : Int) : List UInt8 :=
  if x < -4 ∨ 14 < x then (decDigits U).take 1 ++ [46] ++ (if nDigits U = 1 then [48] else (decDigits U).drop 1) ++ [101] ++ itoa x
  else if x < 0 then [48, 46] ++ zs (-x - 1).toNat ++ decDigits U
  else (decDigits U ++ zs (x.toNat + 2 - nDigits U)).take (x.toNat + 1) ++ [46] ++ (decDigits U ++ zs (x.toNat + 2 - nDigits U)).drop (x.toNat + 1)
def isD (c : UInt8) : Prop := 48 ≤ c.toNat ∧ c.toNat ≤ 57
theorem isD_of {n : Nat} (h : n < 10) : isD (UInt8.ofNat (48 + n)) := by
  unfold isD
  rw [UInt8.toNat_ofNat']
  omega
theorem dec_isD (u : Nat) : ∀ c ∈ decDigits u, isD c := by
  induction u using Nat.strongRecOn with
  | _ u ih =>
    rw [decDigits]
    by_cases h : u < 10
    · rw [dif_pos h]
      intro c hc
      rw [List.mem_singleton] at hc
      subst hc
      exact isD_of h
    · rw [dif_neg h]
      intro c hc
      rw [List.mem_append] at hc
      rcases hc with hc | hc
      · exact ih (u / 10) (by omega) c hc
      · rw [List.mem_singleton] at hc
        subst hc
        exact isD_of (Nat.mod_lt _ (by decide))
theorem zs_isD (n : Nat) : ∀ c ∈ zs n, isD c := by
  intro c hc
  have := List.eq_of_mem_replicate hc
  subst this
  exact ⟨by decide, by decide⟩
theorem dec_ten {u : Nat} (h : 1 ≤ u) : decDigits (u * 10) = decDigits u ++ [48] := by
  rw [decDigits, dif_neg (by omega), Nat.mul_div_cancel _ (by decide), Nat.mul_mod_left]
  rfl
theorem dec_ne (u : Nat) : decDigits u ≠ [] := by
  intro h
  have h1 := decDigits_length u
  rw [h] at h1
  have := nDigits_pos u
  simp at h1
  omega
theorem dec_last {u : Nat} : ∃ l c, decDigits u = l ++ [c] ∧ c.toNat = 48 + u % 10 := by
  rw [decDigits]
  by_cases h : u < 10
  · rw [dif_pos h]
    refine ⟨[], _, rfl, ?_⟩
    rw [UInt8.toNat_ofNat']
    omega
  · rw [dif_neg h]
    refine ⟨_, _, rfl, ?_⟩
    rw [UInt8.toNat_ofNat']
    omega
/-- The number that digits spell, behind another. -/
def dN (c : UInt8) : Nat := c.toNat - 48
def numF (a : Nat) (l : List UInt8) : Nat := l.foldl (fun a c => a * 10 + dN c) a
theorem numF_cons (a : Nat) (c : UInt8) (l : List UInt8) : numF a (c :: l) = numF (a * 10 + dN c) l := List.foldl_cons ..
theorem numF_nil (a : Nat) : numF a [] = a := List.foldl_nil ..
theorem numF_append (l m : List UInt8) (a : Nat) : numF a (l ++ m) = numF (numF a l) m := List.foldl_append ..
theorem dN_of {n : Nat} (h : n < 10) : dN (UInt8.ofNat (48 + n)) = n := by
  unfold dN
  rw [UInt8.toNat_ofNat']
  omega
theorem numF_dec (u : Nat) : ∀ a, numF a (decDigits u) = a * 10 ^ nDigits u + u := by
  induction u using Nat.strongRecOn with
  | _ u ih =>
    intro a
    rw [decDigits]
    by_cases h : u < 10
    · rw [dif_pos h, nDigits_small h]
      rw [numF_cons, numF_nil, dN_of h, Nat.pow_one]
    · rw [dif_neg h, nDigits_big h, numF_append, ih (u / 10) (by omega)]
      rw [numF_cons, numF_nil, dN_of (Nat.mod_lt _ (by decide))]
      have e : 10 ^ (nDigits (u / 10) + 1) = 10 ^ nDigits (u / 10) * 10 := Nat.pow_succ _ _
      rw [Nat.add_mul, e, ← Nat.mul_assoc]
      omega
theorem numF_48 (a : Nat) (l : List UInt8) : numF a (48 :: l) = numF (a * 10) l := by
  have h : dN 48 = 0 := by decide
  rw [numF_cons, h, Nat.add_zero]
theorem numF_zs : ∀ n a, numF a (zs n) = a * 10 ^ n
  | 0, a => by rw [Nat.pow_zero, Nat.mul_one]; exact numF_nil a
  | n + 1, a => by
    have e : zs (n + 1) = 48 :: zs n := rfl
    have e2 : 10 ^ (n + 1) = 10 ^ n * 10 := Nat.pow_succ _ _
    rw [e, numF_48, numF_zs n, e2]
    ac_rfl
theorem nDigits_ten {u:Nat}(h:1≤u):nDigits (u*10)=nDigits u+1:=by
 rw[nDigits_big (by omega),Nat.mul_div_cancel _ (by decide)]
theorem nDigits_tens {u:Nat}(h:1≤u):∀z,nDigits (u*10^z)=nDigits u+z
 |0=>by simp
 |z+1=>by
  rw[Nat.pow_succ,←Nat.mul_assoc,nDigits_ten (Nat.mul_pos h (Nat.pow_pos (by decide))),nDigits_tens h z]
  omega
theorem nDigits_le : ∀ (k V : Nat), V < 10 ^ (k + 1) → nDigits V ≤ k + 1
  | 0, V, h => by rw [nDigits_small (by simpa using h)]; exact Nat.le_refl _
  | k + 1, V, h => by
    by_cases h9 : V < 10
    · rw [nDigits_small h9]; omega
    · rw [nDigits_big h9]
      have e : 10 ^ (k + 1 + 1) = 10 ^ (k + 1) * 10 := Nat.pow_succ _ _
      have := nDigits_le k (V / 10) (by omega)
      omega
theorem zs_len (n : Nat) : (zs n).length = n := List.length_replicate
theorem zs_succ (n : Nat) : zs (n + 1) = zs n ++ [48] := List.replicate_succ'
theorem repeat_zs : ∀ n, repeatL [48] n = zs n
  | 0 => rfl
  | n + 1 => by
    rw [repeatL, repeat_zs n]
    rfl
/-- A text of digits, a point, digits, perhaps an exponent. -/
structure FSh (T P Q E : List UInt8) (x : Int) : Prop where
  eq : T = P ++ [46] ++ Q ++ E
  p0 : P ≠ []
  q0 : Q ≠ []
  pd : ∀ c ∈ P, isD c
  qd : ∀ c ∈ Q, isD c
  ex : (E = [] ∧ x = 0) ∨ (E = [101] ++ itoa x)
  lz : P.length = 1 ∨ P.head? ≠ some 48
theorem head_app {l m : List UInt8} (h : l ≠ []) : (l ++ m).head? = l.head? := by
  cases l with
  | nil => exact absurd rfl h
  | cons c l => rfl
theorem dec_head {u : Nat} (h : 1 ≤ u) : (decDigits u).head? ≠ some 48 := by
  induction u using Nat.strongRecOn with
  | _ u ih =>
    rw [decDigits]
    by_cases h9 : u < 10
    · rw [dif_pos h9]
      intro h2
      simp only [List.head?_cons, Option.some.injEq] at h2
      have h3 := congrArg UInt8.toNat h2
      rw [UInt8.toNat_ofNat'] at h3
      have : (48 : UInt8).toNat = 48 := rfl
      omega
    · rw [dif_neg h9, head_app (dec_ne _)]
      exact ih (u / 10) (by omega) (by omega)
/-- What is put down has that shape, and spells the float's digits. -/
theorem fTxt_sh {U : Nat} {x : Int} (hU : 1 ≤ U) (hlo : -400 ≤ x) (hhi : x ≤ 400) : ∃ (P Q E : List UInt8) (y : Int) (z : Nat), FSh (fTxt U x) P Q E y ∧ numF 0 (P ++ Q) = U * 10 ^ z ∧ y - Q.length + z = x - nDigits U + 1 ∧ P.length + Q.length ≤ nDigits U + 20 ∧ (U < 100000000000000000 → U * 10 ^ z < 1000000000000000000) ∧ -400 ≤ y ∧ y ≤ 400 := by
  have hl := decDigits_length U
  have hp := nDigits_pos U
  have hmem : ∀ c ∈ decDigits U, isD c := dec_isD U
  by_cases h1 : x < -4 ∨ 14 < x
  · unfold fTxt
    rw [if_pos h1]
    by_cases h2 : nDigits U = 1
    · rw [if_pos h2]
      refine ⟨(decDigits U).take 1, [48], [101] ++ itoa x, x, 1, ⟨by simp [List.append_assoc], ?_, by simp, fun c hc => hmem c (List.mem_of_mem_take hc), fun c hc => ?_, .inr rfl, .inl ?_⟩, ?_, ?_, ?_, fun h => by simp; omega, hlo, hhi⟩
      · intro h
        have := congrArg List.length h
        rw [List.length_take, List.length_nil] at this
        omega
      · rw [List.mem_singleton] at hc
        subst hc
        exact ⟨by decide, by decide⟩
      · rw [List.length_take]; omega
      · rw [List.take_of_length_le (by omega), numF_append, numF_dec]
        show numF (0 * _ + U) [48] = _
        rw [numF_48, numF_nil, Nat.pow_one, Nat.zero_mul, Nat.zero_add]
      · rw [List.length_singleton]; omega
      · rw [List.length_take, List.length_singleton]; omega
    · rw [if_neg h2]
      refine ⟨(decDigits U).take 1, (decDigits U).drop 1, [101] ++ itoa x, x, 0, ⟨by simp only [List.append_assoc], ?_, ?_, fun c hc => hmem c (List.mem_of_mem_take hc), fun c hc => hmem c (List.mem_of_mem_drop hc), .inr rfl, .inl ?_⟩, ?_, ?_, ?_, fun h => by simp; omega, hlo, hhi⟩
      · intro h
        have := congrArg List.length h
        rw [List.length_take, List.length_nil] at this
        omega
      · intro h
        have := congrArg List.length h
        rw [List.length_drop, List.length_nil] at this
        omega
      · rw [List.length_take]; omega
      · rw [List.take_append_drop, numF_dec, Nat.zero_mul, Nat.zero_add, Nat.pow_zero, Nat.mul_one]
      · rw [List.length_drop]; omega
      · rw [List.length_take, List.length_drop]; omega
  · by_cases h2 : x < 0
    · unfold fTxt
      rw [if_neg h1, if_pos h2]
      refine ⟨[48], zs (-x - 1).toNat ++ decDigits U, [], 0, 0, ⟨by simp [List.append_assoc], by simp, ?_, fun c hc => ?_, fun c hc => ?_, .inl ⟨rfl, rfl⟩, .inl rfl⟩, ?_, ?_, ?_, fun h => by simp; omega, by omega, by omega⟩
      · intro h
        have := congrArg List.length h
        rw [List.length_append, List.length_nil] at this
        omega
      · rw [List.mem_singleton] at hc
        subst hc
        exact ⟨by decide, by decide⟩
      · rw [List.mem_append] at hc
        exact hc.elim (zs_isD _ c) (hmem c)
      · rw [numF_append, numF_append, numF_48, numF_dec, numF_zs]
        rw [Nat.zero_mul, Nat.pow_zero, Nat.mul_one]
        rw [numF_nil, Nat.zero_mul, Nat.zero_mul, Nat.zero_add]
      · rw [List.length_append, zs_len, hl]; omega
      · rw [List.length_append, zs_len, hl, List.length_singleton]; omega
    · unfold fTxt
      rw [if_neg h1, if_neg h2]
      obtain ⟨z, hzz⟩ : ∃ z, z = x.toNat + 2 - nDigits U := ⟨_, rfl⟩
      obtain ⟨D, hD⟩ : ∃ D, D = decDigits U ++ zs z := ⟨_, rfl⟩
      have hDl : D.length = nDigits U + z := by rw [hD, List.length_append, zs_len, hl]
      have hDm : ∀ c ∈ D, isD c := by
        rw [hD]
        intro c hc
        rw [List.mem_append] at hc
        exact hc.elim (hmem c) (zs_isD _ c)
      rw [← hzz, ← hD]
      refine ⟨D.take (x.toNat + 1), D.drop (x.toNat + 1), [], 0, z, ⟨by simp, ?_, ?_, fun c hc => hDm c (List.mem_of_mem_take hc), fun c hc => hDm c (List.mem_of_mem_drop hc), .inl ⟨rfl, rfl⟩, .inr ?_⟩, ?_, ?_, ?_, fun h => ?_, by omega, by omega⟩
      · intro h
        have := congrArg List.length h
        rw [List.length_take, List.length_nil] at this
        omega
      · intro h
        have := congrArg List.length h
        rw [List.length_drop, List.length_nil] at this
        omega
      · have h3 := dec_head hU
        rw [List.head?_take, if_neg (by omega), hD, head_app (dec_ne _)]
        exact h3
      · rw [List.take_append_drop, hD, numF_append, numF_dec, numF_zs, Nat.zero_mul, Nat.zero_add]
      · rw [List.length_drop]; omega
      · rw [List.length_take, List.length_drop]; omega
      · rcases Nat.eq_zero_or_pos z with h0 | h0
        · rw [h0, Nat.pow_zero]; omega
        · have h5 : U < 10 ^ nDigits U := lt_pow_nDigits U
          have h6 : U * 10 ^ z < 10 ^ nDigits U * 10 ^ z := Nat.mul_lt_mul_of_pos_right h5 (pow10_pos z)
          rw [← Nat.pow_add] at h6
          have h7 : 10 ^ (nDigits U + z) ≤ 10 ^ 18 := Nat.pow_le_pow_right (by decide) (by omega)
          have e18 : (10 : Nat) ^ 18 = 1000000000000000000 := by decide
          omega
end Go.Zw
set_option linter.unusedVariables false
set_option linter.unusedSimpArgs false
set_option maxRecDepth 100000
namespace Go.Zw
open Go.Pf Go.Lib
/-- The program's number is above nought and has seventeen digits at most. -/
theorem FltOk.val {b r u : Nat} (h : FltOk b r u) (hp : ∀ {e : Int} {n : Nat}, ExpOk r u e → 1 ≤ n → 1 ≤ dDig b r u (e - n + 1)) : 1 ≤ (pDig r u).1 ∧ (pDig r u).1 < 100000000000000000 := by
  obtain ⟨E, _, _, hE1, hE2⟩ := exp_ex h.r0 h.r53 h.u2
  have he := exp_of hE1 hE2
  obtain ⟨n, hn1, hn17, hok, hno⟩ := h.fewest he
  obtain ⟨i, hi, hd⟩ := digits_same h he hn1 hok hno
  have hrd := h.dOkd hok
  have hD1 := hp he hn1
  obtain ⟨D, hD⟩ : ∃ D, D = dDig b r u (E - n + 1) := ⟨_, rfl⟩
  rw [← hD] at hd hrd hD1
  obtain ⟨V, hVq⟩ : ∃ V, V = (pDig r u).1 * 10 ^ (pDig r u).2 := ⟨_, rfl⟩
  rw [← hVq] at hd
  have hV : rdOk b V (pUnit (skB r u) u) := by
    rw [← hd]
    rw [hi] at hrd
    exact (rd_scale b _ i D).1 hrd
  have hs := (h.sin 0 V).1 (by rw [show pUnit (skB r u) u + ((0 : Nat) : Int) = pUnit (skB r u) u by omega]; exact hV)
  rw [Nat.pow_zero, Nat.mul_one] at hs
  have hf := ufit (skB r u) h.u2
  have hb : V < 100000000000000000 := by
    have h1 := hs.2.1
    have hr := h.r53
    have hsk : skB r u = true → r = 4503599627370496 := fun h => by unfold skB at h; exact (of_decide_eq_true h).1
    apply Nat.lt_of_not_le
    intro hge
    have h2 : 100000000000000000 * gA (pUnit (skB r u) u) ≤ V * gA (pUnit (skB r u) u) := Nat.mul_le_mul_right _ hge
    have h3 : r * gC (pUnit (skB r u) u) u ≤ 9007199254740991 * gC (pUnit (skB r u) u) u := Nat.mul_le_mul_right _ (by omega)
    have h0 := gA_pos (pUnit (skB r u) u)
    unfold UFit at hf
    cases hsk2 : skB r u
    · rw [hsk2] at hf h1 h2 h3 h0
      simp only [if_false, Bool.false_eq_true] at hf
      generalize V * gA _ = y at *
      generalize r * gC _ u = z at *
      omega
    · have h5 := hsk hsk2
      rw [hsk2] at hf h1 h2 h3 h0
      rw [h5] at h1
      simp only [if_true] at hf
      generalize V * gA _ = y at *
      omega
  have hV1 : 1 ≤ V := by rw [← hd]; exact Nat.mul_pos (pow10_pos i) hD1
  have hp2 := pow10_pos (pDig r u).2
  constructor
  · rcases Nat.eq_zero_or_pos (pDig r u).1 with h0 | h0
    · rw [h0, Nat.zero_mul] at hVq; omega
    · exact h0
  · have : (pDig r u).1 ≤ V := by rw [hVq]; exact Nat.le_mul_of_pos_right _ hp2
    omega
theorem dsN_get (U t : Nat) (h : t < ((decDigits U).map UInt8.toNat).length) : ((decDigits U).map UInt8.toNat)[t] = 48 + U / 10 ^ (nDigits U - 1 - t) % 10 := by
  rw [List.getElem_map]
  have e := decDigits_eq U
  have h2 : t < (decDigits U).length := by rw [List.length_map] at h; exact h
  have h3 : (decDigits U)[t] = dg U (nDigits U - 1 - t) := by
    rw [List.getElem_of_eq e h2, List.getElem_map, List.getElem_range]
  rw [h3]
  unfold dg
  rw [UInt8.toNat_ofNat']
  have : U / 10 ^ (nDigits U - 1 - t) % 10 < 10 := Nat.mod_lt _ (by decide)
  omega
end Go.Zw
