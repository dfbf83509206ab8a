import Derived.Test.YtpjcdbjablijkaaGreatDoorFlA
import Derived.Test.YtpjcdbjablijkaaGreatDoorFlM
set_option linter.unusedVariables false
set_option linter.unusedSimpArgs false
set_option maxRecDepth 1000000
set_option maxHeartbeats 40000000
/- FormatFloat of a float above nought, as few digits as may be. -/
namespace Go.Proofs
open Go.RowKit Go.Pf Go.Zw Go.Lx Go.Lib Go.Rb
def FmtSays (b r u : Nat) (w : World) (R : Ending) (w' : World) : Prop :=
  ∃ (U : Nat) (x : Int), Out b r u U x ∧ R = .returned (.string (sB (eA U ++ 101 :: eB x))) ∧ Below w.heap.size w w'
theorem fltE_small (U : Nat) (x : Int) (hx : x.natAbs ≤ 400) : ∀ n ∈ fltE (dsN U) x, n < 256 := by
  have h1 : ∀ n ∈ dsN U, n < 256 := by
    unfold dsN
    intro n hn
    obtain ⟨c, _, rfl⟩ := List.mem_map.1 hn
    exact c.toNat_lt
  have h2 : ∀ l : List Nat, (∀ n ∈ l, n < 256) → ∀ n ∈ headL l, n < 256 := by
    intro l hl n hn
    match l, hl, hn with
    | [], _, hn => simp [headL] at hn; omega
    | [a], hl, hn => simp [headL] at hn; subst hn; exact hl _ (.head _)
    | a :: c :: r, hl, hn =>
      simp only [headL, List.mem_cons] at hn
      rcases hn with rfl | rfl | rfl | hn
      · exact hl _ (.head _)
      · decide
      · exact hl _ (.tail _ (.head _))
      · exact hl _ (.tail _ (.tail _ hn))
  intro n hn
  unfold fltE at hn
  simp only [List.mem_append] at hn
  rcases hn with (hn | hn) | hn
  · exact h2 _ h1 n hn
  · unfold sgnL at hn
    simp only [List.mem_cons, List.mem_nil_iff, or_false] at hn
    rcases hn with rfl | rfl
    · decide
    · split <;> decide
  · unfold expL at hn
    split at hn
    · simp only [List.mem_cons, List.mem_nil_iff, or_false] at hn
      omega
    · split at hn
      · simp only [List.mem_cons, List.mem_nil_iff, or_false] at hn
        omega
      · simp only [List.mem_cons, List.mem_nil_iff, or_false] at hn
        omega
theorem fltE_len (U : Nat) (x : Int) (h : U < 100000000000000000) : (fltE (dsN U) x).length ≤ 24 := by
  have e : (10 : Nat) ^ (16 + 1) = 100000000000000000 := by decide
  have h1 := nDigits_le 16 U (by rw [e]; exact h)
  have hl : (dsN U).length = nDigits U := by unfold dsN; rw [List.length_map, decDigits_length]
  have h2 := headL_len (ds := dsN U) (by rw [hl]; exact nDigits_pos U)
  unfold fltE expL
  rw [List.length_append, List.length_append]
  split
  · simp; omega
  · split <;> simp <;> omega
/-- A row of bytes as a text. -/
theorem row_text {w : World} {g : Nat} {xs : List Nat} (h : DR w g xs) (hx : ∀ n ∈ xs, n < 256) (hn : xs.length ≤ 24) :
    (convert 88 9 (.slice (some ⟨g, 0, none⟩) xs.length 24)).run Tryz.prog w = .ok (.string (sB (xs.map UInt8.ofNat))) w := by
  obtain ⟨cur, h1, h2, h3⟩ := h
  have hc : ∀ i, i < xs.length → w.cell? ⟨g, 0 + i, none⟩ = some (.int .u8 ((xs.map fun (n : Nat) => (n : Int)).getD i 0)) := by
    intro i hi
    have h4 : cur.toList[i]? = some (u8n xs[i]) := by
      have h5 : (cur.toList.take xs.length)[i]? = (xs.map u8n)[i]? := by rw [h3]
      rw [List.getElem?_take, if_pos hi, List.getElem?_map, List.getElem?_eq_getElem hi] at h5
      exact h5
    rw [Nat.zero_add, Lib.cell_of_heap h1, ← Array.getElem?_toList, h4, List.getD_eq_getElem?_getD, List.getElem?_map, List.getElem?_eq_getElem hi]
    rfl
  rw [run_convert_bytes_arg w 88 5 Tryz.underlying88 Tryz.underlying5 g 0 xs.length 24 (xs.map fun (n : Nat) => (n : Int)) (by simp) hc 9 Tryz.underlying9]
  congr 2
  apply ByteArray.ext
  apply Array.toList_inj.1
  rw [strOfNums_data, List.map_map]
  show _ = xs.map UInt8.ofNat
  apply List.map_congr_left
  intro n hn2
  have := hx n hn2
  apply UInt8.toNat_inj.1
  simp
theorem Tryz.fmtFloat (b r u : Nat) (w : World) (h : FltOk b r u) (hL : Laid0 w) (hT : TabP w w.heap.size) :
    Calls Tryz.prog 43 #[.float .f64 b, .int .u8 101, .int .i64 (-1), .int .i64 64] w (FmtSays b r u w) := by
  obtain ⟨i0, hi, hz0, hz1, hz2⟩ := info_parts Tryz.infoU8
  have hgs : 21 < w.heap.size := hT.a.f.lim
  obtain ⟨M, hM⟩ : ∃ M, M = madeCells (Value.int .u8 0).cells (((24 : Nat) : Int).toNat * i0.size) := ⟨_, rfl⟩
  have hMs : M.size = 24 := by rw [hM, size_madeCells, hz1]; simp
  have hmx : max (3 : Int) 24 = 24 := by decide
  have hmk : ∀ W : World, (Instr.makeSlice 88 (.int .i64 0) (.int .i64 24)).run Tryz.prog W = .ok (.slice (some ⟨W.heap.size, 0, none⟩) 0 24) (W.alloc (.cells M 5)) := fun W => by
    have h := run_make (P := Tryz.prog) W 88 5 i0 (.int .u8 0) Tryz.underlying88 hi hz0 .i64 .i64 0 24 (by omega) (by omega) (by rw [hz2]; omega) (by omega)
    rw [hM]
    simpa using h
  have CF : Hid (Calls Tryz.prog 84 #[.slice (some ⟨w.heap.size, 0, none⟩) 0 24, .float .f64 b, .int .u8 101, .int .i64 (-1)] (w.alloc (.cells M 5)) (FtoaSays b r u w.heap.size (w.alloc (.cells M 5)))) := Lib.hid (by
    have bl : Below w.heap.size w (w.alloc (.cells M 5)) := (Below.refl _ _).alloc (nR _) _
    refine Tryz.ftoa w.heap.size b r u _ h ⟨M, heap_alloc_new w _, hMs, by simp⟩ (hL.below bl) ?_ hgs
    exact (hT.below bl).mono bl.size)
  have BL := Lib.hid ((Below.refl w.heap.size w).alloc (nR _) (.cells M 5))
  clear hM hT hL h
  go_enter Tryz.func43, Tryz.ntmps43
  go_wp2_with (go_at_call 84; (with_reducible refine CF.out.mono ?_); rintro e' W1 ⟨U, x, ho, rfl, hd, hb⟩; have hcv := row_text hd (fltE_small U x (by have := ho.lo; have := ho.hi; omega)) (fltE_len U x ho.lt); rw [eTxt] at hcv)
  go_ret
  exact ⟨U, x, ho, rfl, BL.out.trans hb⟩
theorem Tryz.formatFloat (b r u : Nat) (w : World) (h : FltOk b r u) (hL : Laid0 w) (hT : TabP w w.heap.size) :
    Calls Tryz.prog 18 #[.float .f64 b, .int .u8 101, .int .i64 (-1), .int .i64 64] w (FmtSays b r u w) := by
  have CF := Lib.hid (Tryz.fmtFloat b r u w h hL hT)
  clear h hL hT
  go_enter Tryz.func18, Tryz.ntmps18
  go_wp2_with (go_at_call 43; (with_reducible refine CF.out.mono ?_); rintro e' W1 ⟨U, x, ho, rfl, hb⟩)
  go_ret
  exact ⟨U, x, ho, rfl, hb⟩
end Go.Proofs
set_option linter.unusedVariables false
set_option linter.unusedSimpArgs false
set_option maxRecDepth 1000000
set_option maxHeartbeats 40000000
/- What writer.Float calls. -/
namespace Go.Proofs
open Go.RowKit Go.Pf Go.Zw Go.Lx Go.Lib
theorem below_dr (w : World) (n : Nat) : Below w.heap.size w (w.drewN n) := ⟨rfl, rfl, rfl, Nat.le_refl _, fun _ _ => rfl⟩
theorem Tryz.cut17 (U : Nat) (x : Int) (w : World) (hU : U < 100000000000000000) (hL : Laid0 w) : Calls Tryz.prog 17 #[.string (sB (eA U ++ 101 :: eB x)), .string ⟨#[101]⟩] w fun e w' => e = .returned (.tuple #[.string (sB (eA U)), .string (sB (eB x)), .bool true]) ∧ Below w.heap.size w w' := by
  obtain ⟨m, hm⟩ := hL.maxLen
  have e17 : (10 : Nat) ^ (16 + 1) = 100000000000000000 := by decide
  have h1 := eA_len U
  have h2 := eB_len x
  have h3 := nDigits_le 16 U (by rw [e17]; exact hU)
  refine (Tryz.strings_Cut (sB (eA U ++ 101 :: eB x)) ⟨#[101]⟩ m w (by rw [sB_size, List.length_append, List.length_cons]; omega) hm).mono ?_
  rintro e w' ⟨rfl, n, rfl⟩
  refine ⟨?_, below_dr w n⟩
  have hc := eCut U x
  show Ending.returned (.tuple #[.string ⟨(cut (eA U ++ 101 :: eB x) [101]).1.toArray⟩, .string ⟨(cut (eA U ++ 101 :: eB x) [101]).2.1.toArray⟩, .bool (cut (eA U ++ 101 :: eB x) [101]).2.2]) = _
  rw [hc]
  rfl
theorem Tryz.replace19 (U : Nat) (w : World) (hU : U < 100000000000000000) (hL : Laid0 w) : Calls Tryz.prog 19 #[.string (sB (eA U)), .string ⟨#[46]⟩, .string ⟨#[]⟩, .int .i64 1] w fun e w' => e = .returned (.string (sB (decDigits U))) ∧ Below w.heap.size w w' := by
  obtain ⟨m, hm⟩ := hL.maxLen
  have e17 : (10 : Nat) ^ (16 + 1) = 100000000000000000 := by decide
  have h1 := eA_len U
  have h3 := nDigits_le 16 U (by rw [e17]; exact hU)
  refine (Tryz.strings_Replace (sB (eA U)) ⟨#[46]⟩ ⟨#[]⟩ 1 m w (by rw [sB_size]; omega) hm (by decide) ?_).mono ?_
  · show (sB (eA U)).size + Lib.countB (sB (eA U)) ⟨#[46]⟩ * 0 ≤ _
    rw [sB_size, Nat.mul_zero]
    omega
  · rintro e w' ⟨rfl, hb⟩
    refine ⟨?_, hb⟩
    show Ending.returned (.string ⟨(replace (eA U) [46] [] 1).toArray⟩) = _
    rw [ePoint]
    rfl
theorem Tryz.atoi20 (x : Int) (w : World) (h1 : -400 ≤ x) (h2 : x ≤ 400) : Calls Tryz.prog 20 #[.string (sB (eB x))] w fun e w' => e = .returned (.tuple #[.int .i64 x, .nilIface]) ∧ Below w.heap.size w w' := by
  have h3 := eB_len x
  refine (Tryz.strconv_Atoi (sB (eB x)) x (by rw [sB_size]; omega) (eAtoi x h1 h2) w).mono ?_
  rintro e w' ⟨rfl, t, rfl⟩
  exact ⟨rfl, bytesWorld_below w 5 t⟩
theorem Tryz.itoa21 (x : Int) (w : World) (h1 : -400 ≤ x) (h2 : x ≤ 400) (hL : Laid0 w) : Calls Tryz.prog 21 #[.int .i64 x] w fun e w' => e = .returned (.string (sB (itoa x))) ∧ Below w.heap.size w w' := by
  refine (Tryz.strconv_Itoa x (by omega) (by omega) w hL.pow10).mono ?_
  rintro e w' ⟨rfl, k, os, rfl⟩
  refine ⟨rfl, rfl, rfl, rfl, by simp [Go.Sort.grow, World.drewN], fun j hj => ?_⟩
  show (w.heap ++ os)[j]? = _
  rw [Array.getElem?_append_left hj]
theorem Tryz.repeat22 (k : Nat) (w : World) (h : k ≤ 1000) : Calls Tryz.prog 22 #[.string ⟨#[48]⟩, .int .i64 k] w fun e w' => e = .returned (.string (sB (zs k))) ∧ Below w.heap.size w w' := by
  refine (Tryz.strings_Repeat ⟨#[48]⟩ k w (by omega) ?_).mono ?_
  · show 1 * k ≤ _
    omega
  · rintro e w' ⟨rfl, hb⟩
    refine ⟨?_, hb⟩
    show Ending.returned (.string ⟨(repeatL [48] k).toArray⟩) = _
    rw [repeat_zs]
    rfl
end Go.Proofs
set_option linter.unusedVariables false
set_option linter.unusedSimpArgs false
set_option maxRecDepth 1000000
set_option maxHeartbeats 40000000
/- writer.Float of a float that is not nought. -/
namespace Go.Proofs
open Go.RowKit Go.Pf Go.Rb Go.Zw Go.Lx
theorem Tryz.enter21 (vs : Array Value) (w : World) : (callFunc 21 vs).run Tryz.prog w = .ok (.enter 21 vs) w := by kernel_rfl
theorem Tryz.wfloat (b r u : Nat) (ng : Bool) (z : Nat) (w : World) (h : FltOk b r u) (hz : z = if ng then b + 9223372036854775808 else b) (hL : Laid0 w) (hT : TabP w w.heap.size) :
    Calls Tryz.prog 5 #[.int .u64 z] w (FloatSays b r u ng w) := by
  have hinf := h.inf
  have b63 : b < 9223372036854775808 := by unfold infB at hinf; omega
  have z64 : z < 18446744073709551616 := by rw [hz]; split <;> omega
  have CN := Lib.hid (fun W => Tryz.isNaN b ng z W hinf hz)
  have CI := Lib.hid (fun W => Tryz.isInf16 b ng z W hinf hz)
  obtain ⟨sh, hsh, hsb⟩ : ∃ sh : Nat, (z : Int) / 9223372036854775808 = sh ∧ sh = if ng then 1 else 0 := by
    refine ⟨z / 9223372036854775808, by omega, ?_⟩
    cases ng
    · simp only [if_false, Bool.false_eq_true] at hz ⊢; omega
    · simp only [if_true] at hz ⊢; omega
  have HZ := Lib.hid hz
  have HSB := Lib.hid hsb
  have HH := Lib.hid h
  have hneg : ng = true → Op.negFloat .f64 z = b := fun hn => by rw [hz, hn]; exact neg_back b b63
  have HN := Lib.hid hneg
  have sh2 : sh < 2 := by rw [hsb]; split <;> decide
  clear hz h hinf hsb hneg
  go_enter Tryz.func5, Tryz.ntmps5
  go_upto_region 4 with (first | (rw [frombits14, Oper.upon_value]) | (go_at_call 15; (with_reducible refine (CN.out _).mono ?_); rintro e' w' ⟨rfl, rfl⟩) | (go_at_call 16; (with_reducible refine (CI.out _).mono ?_); rintro e' w' ⟨rfl, rfl⟩))
  go_upto_region 5 with fail
  go_cut [22] from 12 to 23 (fun v wx => v = .bool ng ∧ w = wx)
  case first =>
    cases ng
    · obtain rfl : sh = 0 := HSB.out
      go_wp2
      go_meet
      exact ⟨rfl, rfl⟩
    · obtain rfl : sh = 1 := HSB.out
      go_wp2
      go_meet
      exact ⟨rfl, rfl⟩
  case rest =>
  obtain ⟨rfl, rfl⟩ := hcut
  go_upto_if 22 with fail
  go_cut [4, 5] from 12 (fun v4 v5 wx => v4 = .float .f64 b ∧ v5 = .string (sB (sgT ng)) ∧ w = wx)
  case first =>
    cases ng
    · have e1 : z = b := HZ.out
      subst e1
      go_wp2
      go_meet
      exact ⟨rfl, rfl, rfl⟩
    · have e1 : Op.negFloat .f64 z = b := HN.out rfl
      have hun : ∀ w, (Op.unary .neg (.float .f64 z)).run Tryz.prog w = .ok (.float .f64 b) w := fun w => by
        have : (Op.unary .neg (.float .f64 z)).run Tryz.prog w = .ok (.float .f64 (Op.negFloat .f64 z)) w := rfl
        rw [this, e1]
      clear e1
      go_wp2
      go_meet
      exact ⟨rfl, rfl, rfl⟩
  case rest =>
  obtain ⟨rfl, rfl, rfl⟩ := hcut
  clear hsh sh2 HSB HN HZ CN CI
  have CFm := Lib.hid (Tryz.formatFloat b r u w HH.out hL hT)
  have HLw := Lib.hid hL
  clear hL hT
  go_upto_region 10 with (first
    | (go_at_call 18; (with_reducible refine CFm.out.mono ?_); rintro e' W2 ⟨U, f, ho, rfl, b2⟩; have HO := Lib.hid ho; have B2 := Lib.hid b2; have C17 := Lib.hid (Tryz.cut17 U f W2 ho.lt (HLw.out.below b2)); clear ho b2)
    | (go_at_call 17; (with_reducible refine C17.out.mono ?_); rintro e' W3 ⟨rfl, b3⟩; have B3 := Lib.hid (B2.out.trans (b3.mono B2.out.size)); have C19 := Lib.hid (Tryz.replace19 U W3 HO.out.lt (HLw.out.below (B2.out.trans (b3.mono B2.out.size)))); clear b3)
    | (go_at_call 19; (with_reducible refine C19.out.mono ?_); rintro e' W4 ⟨rfl, b4⟩; have B4 := Lib.hid (B3.out.trans (b4.mono B3.out.size)); have C20 := Lib.hid (Tryz.atoi20 f W4 (by have := HO.out.lo; omega) HO.out.hi); clear b4)
    | (go_at_call 20; (with_reducible refine C20.out.mono ?_); rintro e' W1 ⟨rfl, b5⟩; have Q8 := Lib.hid (B4.out.trans (b5.mono B4.out.size)); clear b5))
  have ho := HO.out
  have HL1 := Lib.hid (HLw.out.below Q8.out)
  clear CFm C17 C19 C20 B2 B3 B4 HLw W2 W3 W4
  have U1 : 1 ≤ U := by have := ho.n0; omega
  have hL17 : Lib.nDigits U ≤ 17 := by
    have e : (10 : Nat) ^ (16 + 1) = 100000000000000000 := by decide
    exact nDigits_le 16 U (by rw [e]; exact ho.lt)
  have hL0 := Lib.nDigits_pos U
  have xlo := ho.lo
  have xhi := ho.hi
  have FIN : Hid (∀ s W', s = sB (sgT ng ++ fTxt U f) → Below w.heap.size w W' → FloatSays b r u ng w (.returned (.tuple #[.string s, .int .i64 0])) W') := Lib.hid (fun s W' h1 h2 => ⟨U, f, ho, by rw [h1], h2⟩)
  obtain ⟨sg, hsg⟩ : ∃ s, s = sB (sgT ng) := ⟨_, rfl⟩
  obtain ⟨d, hd⟩ : ∃ s, s = sB (Lib.decDigits U) := ⟨_, rfl⟩
  rw [← hsg, ← hd]
  obtain ⟨L, hLq⟩ : ∃ L, L = Lib.nDigits U := ⟨_, rfl⟩
  have hds : d.size = L := by rw [hd, sB_size, Lib.decDigits_length, hLq]
  have hss : sg.size ≤ 1 := by rw [hsg, sB_size]; cases ng <;> simp [sgT]
  rw [← hLq] at hL17 hL0
  have HSG := Lib.hid hsg
  have HD := Lib.hid hd
  have HL := Lib.hid hLq
  have HDS := Lib.hid hds
  have hL0i : (1 : Int) ≤ L := by omega
  clear ho hsg hd hLq b63 U1
  obtain ⟨B, hB⟩ : ∃ B : Bool, B = decide (f < -4 ∨ 14 < f) := ⟨_, rfl⟩
  have HB := Lib.hid hB
  clear hB
  go_cut [39] from 40 to 46 (fun v wx => v = .bool B ∧ W1 = wx)
  case first =>
    by_cases h1 : f < -4
    · have : B = true := by rw [HB.out]; exact decide_eq_true (.inl h1)
      subst this
      have d1 : decide (f < -4) = true := decide_eq_true h1
      go_wp2
      go_meet
      exact ⟨rfl, rfl⟩
    · have d1 : decide (f < -4) = false := decide_eq_false h1
      by_cases h2 : 14 < f
      · have : B = true := by rw [HB.out]; exact decide_eq_true (.inr h2)
        subst this
        have d2 : decide (14 < f) = true := decide_eq_true h2
        go_wp2
        go_meet
        exact ⟨rfl, rfl⟩
      · have : B = false := by rw [HB.out]; exact decide_eq_false (by omega)
        subst this
        have d2 : decide (14 < f) = false := decide_eq_false h2
        go_wp2
        go_meet
        exact ⟨rfl, rfl⟩
  case rest =>
  obtain ⟨rfl, rfl⟩ := hcut
  cases B with
  | true =>
    go_upto_region 12 with fail
    obtain ⟨g0, hg0⟩ : ∃ s, s = d.extract 1 L := ⟨_, rfl⟩
    rw [← hg0]
    have hgs : g0.size = L - 1 := by rw [hg0, ByteArray.size_extract]; omega
    have HG := Lib.hid hg0
    obtain ⟨E, hE⟩ : ∃ B : Bool, B = decide (L = 1) := ⟨_, rfl⟩
    have HE := Lib.hid hE
    have HX : Hid (f < -4 ∨ 14 < f) := Lib.hid (of_decide_eq_true HB.out.symm)
    clear hg0 hE
    go_cut [49] from 46 to 50 (fun v wx => v = .bool E ∧ W1 = wx)
    case first =>
      go_wp2
      go_meet
      refine ⟨?_, rfl⟩
      have hgl : g0.data.toList.length = L - 1 := by rw [← hgs]; rfl
      have hE2 := HE.out
      rw [ByteArray.toList_eq, hE2]
      cases hc : g0.data.toList with
      | nil =>
        rw [hc] at hgl
        have : L = 1 := by simp at hgl; omega
        rw [decide_eq_true this]
        rfl
      | cons c l =>
        rw [hc] at hgl
        rw [List.length_cons] at hgl
        rw [decide_eq_false (by omega)]
        rfl
    case rest =>
    obtain ⟨rfl, rfl⟩ := hcut
    obtain ⟨rs, hrs⟩ : ∃ s, s = (if E = true then sB [48] else g0) := ⟨_, rfl⟩
    have HRS := Lib.hid hrs
    have hrsz : rs.size ≤ 20 := by rw [hrs]; split; decide; omega
    clear hrs
    go_upto_if 49 with fail
    go_cut [11] from 46 (fun v wx => v = .string rs ∧ W1 = wx)
    case first =>
      cases E with
      | true =>
        have e1 : rs = sB [48] := HRS.out
        subst e1
        go_wp2
        go_meet
        exact ⟨rfl, rfl⟩
      | false =>
        have e1 : rs = g0 := HRS.out
        subst e1
        go_wp2
        go_meet
        exact ⟨rfl, rfl⟩
    case rest =>
    obtain ⟨rfl, rfl⟩ := hcut
    obtain ⟨ex, hex⟩ : ∃ s, s = sB (Lib.itoa f) := ⟨_, rfl⟩
    have CT : Hid (∀ W, Below W1.heap.size W1 W → Calls Tryz.prog 21 #[.int .i64 f] W fun e W' => e = .returned (.string ex) ∧ Below W1.heap.size W1 W') := Lib.hid (fun W h2 => by
      refine (Tryz.itoa21 f W (by omega) (by omega) (HL1.out.below h2)).mono ?_
      rintro e W' ⟨rfl, h3⟩
      exact ⟨by rw [hex], h2.trans (h3.mono h2.size)⟩)
    have exs : ex.size ≤ 20 := by
      rw [hex, sB_size]
      unfold Lib.itoa
      split
      · rw [List.length_cons, Lib.decDigits_length]
        have e : (10 : Nat) ^ (2 + 1) = 1000 := by decide
        have := nDigits_le 2 f.natAbs (by omega)
        omega
      · rw [Lib.decDigits_length]
        have e : (10 : Nat) ^ (2 + 1) = 1000 := by decide
        have := nDigits_le 2 f.toNat (by omega)
        omega
    have HEX := Lib.hid hex
    clear hex
    have z1 : ¬ 9223372036854775807 < sg.size + 1 := by omega
    have z2 : ¬ 9223372036854775807 < sg.size + 1 + 1 := by omega
    have z3 : ¬ 9223372036854775807 < sg.size + 1 + 1 + rs.size := by omega
    have z4 : ¬ 9223372036854775807 < sg.size + 1 + 1 + rs.size + 1 := by omega
    have z5 : ¬ 9223372036854775807 < sg.size + 1 + 1 + rs.size + 1 + ex.size := by omega
    go_upto_region 14 with fail
    refine wp_region_held_drew (S := fun W => Below W1.heap.size W1 W) (by kernel_rfl) below_drew' (fun hS => ?_)
    refine wpAnyH_take (i := 0) (oi := _) (v := .string sg) rfl (by kernel_rfl) (by kernel_rfl) (by kernel_rfl) (fun _ _ _ h => h) (Or.inl ⟨by rfl, ?_⟩) hS ?_
    · intro W hSW
      go_simp
    simp only [uu1, uu2, uu3, Act.put, uu4, uu5, uu6]
    refine wpAnyH_take (i := 1) (oi := _) (v := .string d) rfl (by kernel_rfl) (by kernel_rfl) (by kernel_rfl) (fun _ _ _ h => h) (Or.inl ⟨by rfl, ?_⟩) hS ?_
    · intro W hSW
      go_simp
    simp only [uu1, uu2, uu3, Act.put, uu4, uu5, uu6]
    refine wpAnyH_take (i := 2) (oi := _) (v := .string (d.extract 0 1)) rfl (by kernel_rfl) (by kernel_rfl) (by kernel_rfl) (fun _ _ _ h => h) (Or.inl ⟨by rfl, ?_⟩) hS ?_
    · intro W hSW
      go_simp
    simp only [uu1, uu2, uu3, Act.put, uu4, uu5, uu6]
    refine wpAnyH_take (i := 3) (oi := _) (v := .string (sg ++ d.extract 0 1)) rfl (by kernel_rfl) (by kernel_rfl) (by kernel_rfl) (fun _ _ _ h => h) (Or.inl ⟨by rfl, ?_⟩) hS ?_
    · intro W hSW
      go_simp
    simp only [uu1, uu2, uu3, Act.put, uu4, uu5, uu6]
    refine wpAnyH_take (i := 4) (oi := _) (v := .string (sg ++ d.extract 0 1 ++ ⟨#[46]⟩)) rfl (by kernel_rfl) (by kernel_rfl) (by kernel_rfl) (fun _ _ _ h => h) (Or.inl ⟨by rfl, ?_⟩) hS ?_
    · intro W hSW
      go_simp
    simp only [uu1, uu2, uu3, Act.put, uu4, uu5, uu6]
    refine wpAnyH_take (i := 5) (oi := _) (v := .string rs) rfl (by kernel_rfl) (by kernel_rfl) (by kernel_rfl) (fun _ _ _ h => h) (Or.inl ⟨by rfl, ?_⟩) hS ?_
    · intro W hSW
      go_simp
    simp only [uu1, uu2, uu3, Act.put, uu4, uu5, uu6]
    refine wpAnyH_take (i := 6) (oi := _) (v := .string (sg ++ d.extract 0 1 ++ ⟨#[46]⟩ ++ rs)) rfl (by kernel_rfl) (by kernel_rfl) (by kernel_rfl) (fun _ _ _ h => h) (Or.inl ⟨by rfl, ?_⟩) hS ?_
    · intro W hSW
      go_simp
    simp only [uu1, uu2, uu3, Act.put, uu4, uu5, uu6]
    refine wpAnyH_take (i := 7) (oi := _) (v := .string (sg ++ d.extract 0 1 ++ ⟨#[46]⟩ ++ rs ++ ⟨#[101]⟩)) rfl (by kernel_rfl) (by kernel_rfl) (by kernel_rfl) (fun _ _ _ h => h) (Or.inl ⟨by rfl, ?_⟩) hS ?_
    · intro W hSW
      go_simp
    simp only [uu1, uu2, uu3, Act.put, uu4, uu5, uu6]
    refine wpAnyH_take (i := 8) (oi := _) (v := .int .i64 f) rfl (by kernel_rfl) (by kernel_rfl) (by kernel_rfl) (fun _ _ _ h => h) (Or.inl ⟨by rfl, ?_⟩) hS ?_
    · intro W hSW
      go_simp
    simp only [uu1, uu2, uu3, Act.put, uu4, uu5, uu6]
    refine wpAnyH_ready (rs := [9]) (by kernel_rfl) (by simp) ?_
    refine AllReadyH.cons rfl (fun K hK => ?_) AllReadyH.nil
    refine step_call (by rfl) 21 [.tmp 58] #[3] (by rfl) #[.int .i64 f] (by kernel_rfl) Tryz.enter21 ((CT.out _ hS).mono ?_)
    rintro e' W6 ⟨rfl, hb6⟩
    refine ⟨_, rfl, ?_⟩
    refine hK.out _ _ hb6 (fun hS => ?_)
    simp only [uu1, uu2, uu3, Act.put, uu4, uu5, uu6]
    refine wpAnyH_take (i := 10) (oi := _) (v := .string (sg ++ d.extract 0 1 ++ ⟨#[46]⟩ ++ rs ++ ⟨#[101]⟩ ++ ex)) rfl (by kernel_rfl) (by kernel_rfl) (by kernel_rfl) (fun _ _ _ h => h) (Or.inl ⟨by rfl, ?_⟩) hS ?_
    · intro W hSW
      go_simp
    simp only [uu1, uu2, uu3, Act.put, uu4, uu5, uu6]
    refine wpAnyH_take (i := 11) (oi := _) (v := .string (sg ++ d.extract 0 1 ++ ⟨#[46]⟩ ++ rs ++ ⟨#[101]⟩ ++ ex)) rfl (by kernel_rfl) (by kernel_rfl) (by kernel_rfl) (fun _ _ _ h => h) (Or.inl ⟨by rfl, ?_⟩) hS ?_
    · intro W hSW
      go_simp
    simp only [uu1, uu2, uu3, Act.put, uu4, uu5, uu6]
    refine wpAnyH_take (i := 12) (oi := _) (v := .int .i64 0) rfl (by kernel_rfl) (by kernel_rfl) (by kernel_rfl) (fun _ _ _ h => h) (Or.inl ⟨by rfl, ?_⟩) hS ?_
    · intro W hSW
      go_simp
    simp only [uu1, uu2, uu3, Act.put, uu4, uu5, uu6]
    refine wpAnyH_done (by kernel_rfl) ?_ _
    go_wp2
    go_ret2
    refine FIN.out _ _ ?_ (Q8.out.trans (hS.mono Q8.out.size))
    refine fA ng U f HX.out sg d rs ex HSG.out HD.out ?_ HEX.out
    rw [HRS.out, HE.out, HG.out, HL.out]
    simp only [decide_eq_true_eq]
  | false =>
    have hx : ¬ (f < -4 ∨ 14 < f) := of_decide_eq_false HB.out.symm
    by_cases h0 : f < 0
    · obtain ⟨k, hk⟩ : ∃ k : Nat, k = (-f - 1).toNat := ⟨_, rfl⟩
      have ek : -f - 1 = (k : Int) := by omega
      have d0 : decide (f < 0) = true := decide_eq_true h0
      have fb : -4 ≤ f := by omega
      have k4 : k ≤ 4 := by omega
      obtain ⟨zz, hzz⟩ : ∃ s, s = sB (zs k) := ⟨_, rfl⟩
      have zsz : zz.size = k := by rw [hzz, sB_size, zs_len]
      have CZ := Lib.hid ((Tryz.repeat22 k W1 (by omega)).mono (R' := fun e' w' => e' = .returned (.string zz) ∧ Below W1.heap.size W1 w') (by rintro e' w' ⟨rfl, h⟩; exact ⟨by rw [hzz], h⟩))
      have HZ := Lib.hid hzz
      have HX := Lib.hid (And.intro hx h0)
      have z1 : ¬ 9223372036854775807 < sg.size + 2 := by omega
      have z2 : ¬ 9223372036854775807 < sg.size + 2 + zz.size := by omega
      have z3 : ¬ 9223372036854775807 < sg.size + 2 + k := by omega
      have z4 : ¬ 9223372036854775807 < sg.size + 2 + k + L := by omega
      have HK : Hid (k = (-f - 1).toNat) := Lib.hid hk
      clear hzz hx hk
      go_wp2_with (go_at_call 22; (with_reducible refine CZ.out.mono ?_); rintro e' w' ⟨rfl, hb⟩)
      go_ret2
      refine FIN.out _ _ ?_ (Q8.out.trans (hb.mono Q8.out.size))
      exact fB ng U f HX.out.1 HX.out.2 sg d zz HSG.out HD.out (by rw [HZ.out, HK.out])
    · obtain ⟨k, rfl⟩ : ∃ k : Nat, f = k := ⟨f.toNat, by omega⟩
      have d0 : decide ((k : Int) < 0) = false := decide_eq_false h0
      have k14 : k ≤ 14 := by omega
      obtain ⟨y, hy⟩ : ∃ y, y = k + 2 - L := ⟨_, rfl⟩
      obtain ⟨zz, hzz⟩ : ∃ s, s = sB (zs y) := ⟨_, rfl⟩
      have zsz : zz.size = y := by rw [hzz, sB_size, zs_len]
      have CZ := Lib.hid ((Tryz.repeat22 y W1 (by omega)).mono (R' := fun e' w' => e' = .returned (.string zz) ∧ Below W1.heap.size W1 w') (by rintro e' w' ⟨rfl, h⟩; exact ⟨by rw [hzz], h⟩))
      have HZ := Lib.hid hzz
      have HY : Hid (y = k + 2 - L) := Lib.hid hy
      have HX := Lib.hid (And.intro hx h0)
      have y20 : y ≤ 20 := by omega
      have z1 : ¬ 9223372036854775807 < L + y := by omega
      obtain ⟨d2, hd2⟩ : ∃ s, s = d ++ zz := ⟨_, rfl⟩
      have d2s : d2.size = L + y := by rw [hd2, ByteArray.size_append, hds, zsz]
      have HD2 := Lib.hid hd2
      clear hzz hx hd2
      have HD2' : Hid (d ++ zz = d2) := Lib.hid HD2.out.symm
      go_upto_if 77 with fail
      go_cut [6] from 12 (fun v wx => v = .string d2 ∧ Below W1.heap.size W1 wx)
      case first =>
        by_cases hlt : L < k + 2
        · have d1 : decide ((L : Int) < (k : Int) + 2) = true := decide_eq_true (by omega)
          have d3 : (L : Int) < (k : Int) + 2 := by omega
          have ey : (k : Int) + 2 - L = y := by have := HY.out; omega
          clear hlt hy
          go_wp2_with (go_at_call 22; (with_reducible refine CZ.out.mono ?_); rintro e' w' ⟨rfl, hb⟩)
          go_meet
          exact ⟨by rw [HD2'.out], hb⟩
        · have d1 : decide ((L : Int) < (k : Int) + 2) = false := decide_eq_false (by omega)
          have d3 : ¬ (L : Int) < (k : Int) + 2 := by omega
          have y0 : y = 0 := by have := HY.out; omega
          have e2 : Hid (d2 = d) := Lib.hid (by
            rw [HD2.out, HZ.out, y0, HD.out]
            show sB _ ++ sB [] = _
            rw [sB_app, List.append_nil])
          clear hlt hy y0
          go_wp2
          go_meet
          exact ⟨by rw [e2.out], Below.refl _ _⟩
      case rest =>
      obtain ⟨rfl, q9⟩ := hcut
      have Q9 := Lib.hid (Q8.out.trans (q9.mono Q8.out.size))
      clear q9
      obtain ⟨k1, hk1⟩ : ∃ k1, k1 = k + 1 := ⟨_, rfl⟩
      have ek : (k : Int) + 1 = (k1 : Int) := by omega
      obtain ⟨M, hM⟩ : ∃ M, M = d2.size := ⟨_, rfl⟩
      have hMk : k1 ≤ M := by have := HY.out; omega
      have hMki : (k1 : Int) ≤ M := by omega
      have hM40 : M ≤ 40 := by omega
      have HM := Lib.hid hM
      have hM2 : d2.size = M := hM.symm
      have HK1 := Lib.hid hk1
      obtain ⟨t1, ht1⟩ : ∃ t, t = d2.extract 0 k1 := ⟨_, rfl⟩
      obtain ⟨t2, ht2⟩ : ∃ t, t = d2.extract k1 M := ⟨_, rfl⟩
      have s1 : t1.size = k1 := by rw [ht1, ByteArray.size_extract]; omega
      have s2 : t2.size = M - k1 := by rw [ht2, ByteArray.size_extract]; omega
      have hm2 : ∃ r2, M - k1 = r2 ∧ r2 ≤ 40 := ⟨_, rfl, by omega⟩
      obtain ⟨r2, hr2, hr2b⟩ := hm2
      rw [hr2] at s2
      have w1 : ∀ W, (Instr.slice 9 (.string d2) none (some (.int .i64 (k1 : Int))) none).run Tryz.prog W = .ok (.string t1) W := fun W => by
        have h := run_slice_string_to_if (P := Tryz.prog) (w := W) 9 d2 .i64 (k1 : Int) Tryz.underlying9
        rw [if_pos (by omega), Int.toNat_natCast] at h
        rw [ht1]
        exact h
      have w2 : ∀ W, (Instr.slice 9 (.string d2) (some (.int .i64 (k1 : Int))) none none).run Tryz.prog W = .ok (.string t2) W := fun W => by
        have h := run_slice_string_from_if (P := Tryz.prog) (w := W) 9 d2 .i64 (k1 : Int) Tryz.underlying9
        rw [if_pos (by omega), Int.toNat_natCast, hM2] at h
        rw [ht2]
        exact h
      have HT := Lib.hid (And.intro ht1 ht2)
      have z2 : ¬ 9223372036854775807 < sg.size + k1 := by omega
      have z3 : ¬ 9223372036854775807 < sg.size + k1 + 1 := by omega
      have z4 : ¬ 9223372036854775807 < sg.size + k1 + 1 + r2 := by omega
      clear hk1 ht1 ht2 hM hr2 d2s zsz
      go_upto_region 19 with fail
      go_quiet (fail)
      go_wp2
      go_ret2
      refine FIN.out _ _ ?_ ⟨Q9.out.os, Q9.out.tape, Q9.out.output, Q9.out.size, Q9.out.block⟩
      rw [HT.out.1, HT.out.2, HK1.out, HM.out]
      exact fC ng U k HX.out.1 sg d zz d2 HSG.out HD.out (by rw [HZ.out, ← HL.out, HY.out]) HD2.out
end Go.Proofs
