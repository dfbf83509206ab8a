import Derived.Test.YtpjcdbjablijkaaGreatDoorDfI
import Derived.Test.YtpjcdbjablijkaaGreatDoorFlD
import Derived.Test.YtpjcdbjablijkaaGreatDoorWfRunZ
import Derived.Test.YtpjcdbjablijkaaGreatDoorFlJ
import Derived.StillTailTactics
import Derived.Deep.CutBlock
import Derived.Deep.CutRange
set_option linter.unusedVariables false
set_option linter.unusedSimpArgs false
set_option maxRecDepth 1000000
set_option maxHeartbeats 40000000
/- writer.Float and the document at what is no number, at nought and at the infinite. -/
namespace Go.Pf
open Ieee Go.Op
theorem read_nan (z : Nat) (h : infB < z % 9223372036854775808) : ∃ s p, double.read z = .nan s p := by
  unfold infB at h
  unfold Format.read
  simp only [dbl_binade, dbl_inf, dbl_sw, dbl_least]
  rw [if_neg (by omega), if_neg (by omega), if_neg (by omega)]
  exact ⟨_, _, rfl⟩
theorem nan_self (z : Nat) (h : infB < z % 9223372036854775808) : (double.order z z == some .eq) = false := by
  obtain ⟨s, p, h1⟩ := read_nan z h
  unfold Format.order
  rw [h1]
  rfl
end Go.Pf
namespace Go.Proofs
open Go.RowKit Go.Pf Go.Rb Go.Zw Go.Lx
open Go.Proofs.YtpjcdbjablijkaaGreatDoor Go.Proofs.YtpjcdbjablijkaaGreatDoor.Ab
theorem Tryz.isNaN1 (z : Nat) (w : World) (h : infB < z % 9223372036854775808) : Calls Tryz.prog 15 #[.float .f64 z] w fun e w' => e = .returned (.bool true) ∧ w = w' := by
  have H2 : (FloatKind.f64.format.order z z != some Ordering.eq) = true := by
    show (!(Ieee.double.order z z == some Ordering.eq)) = true
    rw [nan_self z h]
    rfl
  have HH := Lib.hid H2
  clear h H2
  go_enter Tryz.func15, Tryz.ntmps15
  go_wp2
  go_ret
  exact ⟨by rw [HH.out]; rfl, rfl⟩
/-- What both say of a word that is no finite number. -/
def NoFloat (w : World) (e : Ending) (w' : World) : Prop := e = .returned (.tuple #[.string ⟨#[]⟩, .int .i64 14]) ∧ Below w.heap.size w w'
theorem Tryz.wfloat_nan (z : Nat) (w : World) (h : infB < z % 9223372036854775808) : Calls Tryz.prog 5 #[.int .u64 z] w (NoFloat w) := by
  have CN := Lib.hid (fun W => Tryz.isNaN1 z W h)
  clear h
  go_enter Tryz.func5, Tryz.ntmps5
  go_wp2_with (first | (rw [frombits14, Oper.upon_value]) | (go_at_call 15; (with_reducible refine (CN.out _).mono ?_); rintro e' w' ⟨rfl, rfl⟩))
  go_ret2
  exact ⟨rfl, Below.refl _ _⟩
theorem Tryz.float6_no (z : Nat) (w : World) (z64 : z < 18446744073709551616) (h : z / 4503599627370496 % 2048 = 2047) : Calls Tryz.prog 6 #[.int .u64 z] w (NoFloat w) := by
  have hE : ∃ y1 y2 : Nat, (z : Int) / 4503599627370496 = y1 ∧ (y1 : Int) % 2048 = y2 ∧ y2 = 2047 := ⟨z / 4503599627370496, z / 4503599627370496 % 2048, by omega, by omega, h⟩
  obtain ⟨y1, y2, hy1, hy2, hy3⟩ := hE
  have t1 : ((y2 : Int) == 2047) = true := beq_of_eq (by omega)
  have y1b : y1 < 4096 := by omega
  have y2b : y2 < 2048 := by omega
  clear h hy3
  go_enter Tryz.func6, Tryz.ntmps6
  go_wp2
  go_ret2
  exact ⟨rfl, Below.refl _ _⟩
theorem ev0 {f : FuncId} {fn : Func} {args : List AV} {v : AV} (hf : Tryz.prog.funcs[f]? = some fn) (hb : fn.body.isSome = true) (h : retOf ((ev env 100000).call f args (seed env.P Rows.writerFloatsRow.laid env.ro)) = some v) {w : World} (hL : Laid0 w) {vs : Array Value} (hv : VRs (rho0 Tryz.prog.globals.size w) args vs.toList) :
    Calls Tryz.prog f vs w fun e W' => ∃ (q : Value) (ρ : Rho), e = .returned q ∧ VR ρ v q ∧ Below w.heap.size w W' := by
  obtain ⟨st', hst⟩ := retOf_spec h
  obtain ⟨c, hc⟩ := Option.isSome_iff_exists.1 hb
  obtain ⟨W0, h1, h2, h3, h4⟩ := hL
  exact ev_calls_at (E := env) fits rfl (Nat.le_refl _) Go.Proofs.YtpjcdbjablijkaaGreatDoor.rows_ok hf hc hst h3 h1 h2 hv
theorem tup_str {ρ : Rho} {s : List UInt8} {k : IntKind} {n : Int} {q : Value} (h : VR ρ (.tup [.str s, .int k n]) q) : q = .tuple #[.string ⟨⟨s⟩⟩, .int k n] := by
  cases h with
  | tup l c h =>
    obtain ⟨c⟩ := c
    cases h with
    | cons a v l m h1 r =>
      cases h1
      cases r with
      | cons a v l m h1 r =>
        cases h1
        cases r
        rfl
theorem Tryz.wf0 {w : World} (hL : Laid0 w) : Calls Tryz.prog 5 #[.int .u64 0] w fun e w' => e = .returned (.tuple #[.string ⟨#[48, 46, 48]⟩, .int .i64 0]) ∧ Below w.heap.size w w' := by
  refine (ev0 Tryz.func5 (by kernel_rfl) run5_0 hL (.cons _ _ _ _ (.int _ _) .nil)).mono ?_
  rintro e w' ⟨q, ρ, rfl, h2, h3⟩
  exact ⟨by rw [tup_str h2], h3⟩
theorem Tryz.wf1 {w : World} (hL : Laid0 w) : Calls Tryz.prog 5 #[.int .u64 9223372036854775808] w fun e w' => e = .returned (.tuple #[.string ⟨#[45, 48, 46, 48]⟩, .int .i64 0]) ∧ Below w.heap.size w w' := by
  refine (ev0 Tryz.func5 (by kernel_rfl) run5_1 hL (.cons _ _ _ _ (.int _ _) .nil)).mono ?_
  rintro e w' ⟨q, ρ, rfl, h2, h3⟩
  exact ⟨by rw [tup_str h2], h3⟩
theorem Tryz.df0 {w : World} (hL : Laid0 w) : Calls Tryz.prog 6 #[.int .u64 0] w fun e w' => e = .returned (.tuple #[.string ⟨#[48, 46, 48]⟩, .int .i64 0]) ∧ Below w.heap.size w w' := by
  refine (ev0 Tryz.func6 (by kernel_rfl) run6_0 hL (.cons _ _ _ _ (.int _ _) .nil)).mono ?_
  rintro e w' ⟨q, ρ, rfl, h2, h3⟩
  exact ⟨by rw [tup_str h2], h3⟩
theorem Tryz.df1 {w : World} (hL : Laid0 w) : Calls Tryz.prog 6 #[.int .u64 9223372036854775808] w fun e w' => e = .returned (.tuple #[.string ⟨#[45, 48, 46, 48]⟩, .int .i64 0]) ∧ Below w.heap.size w w' := by
  refine (ev0 Tryz.func6 (by kernel_rfl) run6_1 hL (.cons _ _ _ _ (.int _ _) .nil)).mono ?_
  rintro e w' ⟨q, ρ, rfl, h2, h3⟩
  exact ⟨by rw [tup_str h2], h3⟩
theorem Tryz.wf2 {w : World} (hL : Laid0 w) : Calls Tryz.prog 5 #[.int .u64 9218868437227405312] w (NoFloat w) := by
  refine (ev0 Tryz.func5 (by kernel_rfl) run5_2 hL (.cons _ _ _ _ (.int _ _) .nil)).mono ?_
  rintro e w' ⟨q, ρ, rfl, h2, h3⟩
  exact ⟨by rw [tup_str h2], h3⟩
theorem Tryz.wf3 {w : World} (hL : Laid0 w) : Calls Tryz.prog 5 #[.int .u64 18442240474082181120] w (NoFloat w) := by
  refine (ev0 Tryz.func5 (by kernel_rfl) run5_3 hL (.cons _ _ _ _ (.int _ _) .nil)).mono ?_
  rintro e w' ⟨q, ρ, rfl, h2, h3⟩
  exact ⟨by rw [tup_str h2], h3⟩
theorem Tryz.nx0 {w : World} (hL : Laid0 w) : Calls Tryz.prog 7 #[.string ⟨#[48, 46, 48]⟩, .int .i64 0] w fun e w' => e = .returned (.tuple #[tokV 5 ⟨#[]⟩ ⟨#[]⟩ 0 0 3 false, .int .i64 0]) ∧ Below w.heap.size w w' := by
  refine (ev0 Tryz.func7 (by kernel_rfl) run7_0 hL (.cons _ _ _ _ (.str _) (.cons _ _ _ _ (.int _ _) .nil))).mono ?_
  rintro e w' ⟨q, ρ, rfl, h2, h3⟩
  refine ⟨?_, h3⟩
  cases h2 with
  | tup l c h =>
    obtain ⟨c⟩ := c
    cases h with
    | cons a v l m h1 r =>
      cases h1 with
      | agg l d h =>
        obtain ⟨d⟩ := d
        cases r with
        | cons a v l m h1 r =>
          cases h1
          cases r
          rcases h with _ | ⟨_, _, _, _, ⟨⟩, h⟩
          rcases h with _ | ⟨_, _, _, _, ⟨⟩, h⟩
          rcases h with _ | ⟨_, _, _, _, ⟨⟩, h⟩
          rcases h with _ | ⟨_, _, _, _, ⟨⟩, h⟩
          rcases h with _ | ⟨_, _, _, _, ⟨⟩, h⟩
          rcases h with _ | ⟨_, _, _, _, ⟨⟩, h⟩
          rcases h with _ | ⟨_, _, _, _, ⟨⟩, h⟩
          rcases h with _ | _
          rfl
end Go.Proofs
set_option linter.unusedVariables false
set_option linter.unusedSimpArgs false
set_option maxRecDepth 1000000
set_option maxHeartbeats 40000000
/- The law of the writer's floats. -/
namespace Go.Proofs
open Go.RowKit Go.Pf Go.Lx Go.Hb Go.Rb Go.Bg Go.Zw
def TrueEnd (w : World) (e : Ending) (w' : World) : Prop := e = .returned (.bool true) ∧ Below w.heap.size w w'
def TxtEnd (s : ByteArray) (k : Int) (w : World) (e : Ending) (w' : World) : Prop := e = .returned (.tuple #[.string s, .int .i64 k]) ∧ Below w.heap.size w w'
def Says (f : FuncId) (z : Nat) (s : ByteArray) (k : Int) : Prop := ∀ w, Laid0 w → TabP w w.heap.size → Calls Tryz.prog f #[.int .u64 z] w (TxtEnd s k w)
def TokSays (s : ByteArray) (z : Nat) : Prop := ∀ w, Laid0 w → TabP w w.heap.size → Calls Tryz.prog 7 #[.string s, .int .i64 0] w fun e w' => e = .returned (.tuple #[tokV 5 ⟨#[]⟩ ⟨#[]⟩ z 0 s.size false, .int .i64 0]) ∧ Below w.heap.size w w'
theorem Tryz.law_no (z : Nat) (w : World) (hL : Laid0 w) (hT : TabP w w.heap.size) (h4 : Calls Tryz.prog 4 #[] w (TrueEnd w)) (h5 : Says 5 z ⟨#[]⟩ 14) (h6 : Says 6 z ⟨#[]⟩ 14) :
    Calls Tryz.prog 3 #[.int .u64 z] w (TrueEnd w) := by
  have L0 := Lib.hid hL
  have T0 := Lib.hid hT
  have H4 := Lib.hid h4
  have H5 := Lib.hid h5
  have H6 := Lib.hid h6
  clear hL hT h4 h5 h6
  go_enter Tryz.func3, Tryz.ntmps3
  go_wp2_with (go_at_call 4; (with_reducible refine H4.out.mono ?_))
  rintro e W1 ⟨rfl, b1⟩
  have B1 := Lib.hid b1
  have C5 : Hid (Calls Tryz.prog 5 #[.int .u64 z] W1 (TxtEnd ⟨#[]⟩ 14 W1)) := Lib.hid (H5.out W1 (L0.out.below b1) (T0.out.next b1))
  clear b1
  go_wp2_with (go_at_call 5; (with_reducible refine C5.out.mono ?_))
  rintro e W2 ⟨rfl, b2⟩
  have B2 : Hid (Below w.heap.size w W2) := Lib.hid (B1.out.trans (b2.mono B1.out.size))
  clear b2
  have C6 : Hid (Calls Tryz.prog 6 #[.int .u64 z] W2 (TxtEnd ⟨#[]⟩ 14 W2)) := Lib.hid (H6.out W2 (L0.out.below B2.out) (T0.out.next B2.out))
  go_wp2_with (go_at_call 6; (with_reducible refine C6.out.mono ?_))
  rintro e W3 ⟨rfl, b3⟩
  have B3 : Hid (Below w.heap.size w W3) := Lib.hid (B2.out.trans (b3.mono B2.out.size))
  clear b3
  go_wp2
  go_ret
  exact ⟨rfl, B3.out⟩
theorem Tryz.law_neg (z : Nat) (s : ByteArray) (w : World) (hL : Laid0 w) (hT : TabP w w.heap.size) (h4 : Calls Tryz.prog 4 #[] w (TrueEnd w)) (h5 : Says 5 z s 0) (h6 : Says 6 z s 0) (hz : 9223372036854775808 ≤ z) (z64 : z < 18446744073709551616) :
    Calls Tryz.prog 3 #[.int .u64 z] w (TrueEnd w) := by
  have L0 := Lib.hid hL
  have T0 := Lib.hid hT
  have H4 := Lib.hid h4
  have H5 := Lib.hid h5
  have H6 := Lib.hid h6
  have q1 : (s != s) = false := by show (!(s == s)) = false; rw [beq_toListBytes, beq_iff_eq.2 rfl]; rfl
  have q2 : decide (9223372036854775808 ≤ (z : Int)) = true := decide_eq_true (by omega)
  clear hL hT h4 h5 h6 hz
  go_enter Tryz.func3, Tryz.ntmps3
  go_wp2_with (go_at_call 4; (with_reducible refine H4.out.mono ?_))
  rintro e W1 ⟨rfl, b1⟩
  have B1 := Lib.hid b1
  have C5 : Hid (Calls Tryz.prog 5 #[.int .u64 z] W1 (TxtEnd s 0 W1)) := Lib.hid (H5.out W1 (L0.out.below b1) (T0.out.next b1))
  clear b1
  go_wp2_with (go_at_call 5; (with_reducible refine C5.out.mono ?_))
  rintro e W2 ⟨rfl, b2⟩
  have B2 : Hid (Below w.heap.size w W2) := Lib.hid (B1.out.trans (b2.mono B1.out.size))
  clear b2
  have C6 : Hid (Calls Tryz.prog 6 #[.int .u64 z] W2 (TxtEnd s 0 W2)) := Lib.hid (H6.out W2 (L0.out.below B2.out) (T0.out.next B2.out))
  go_wp2_with (go_at_call 6; (with_reducible refine C6.out.mono ?_))
  rintro e W3 ⟨rfl, b3⟩
  have B3 : Hid (Below w.heap.size w W3) := Lib.hid (B2.out.trans (b3.mono B2.out.size))
  clear b3
  go_wp2
  go_ret
  exact ⟨rfl, B3.out⟩
theorem Tryz.law_pos (z : Nat) (s : ByteArray) (w : World) (hL : Laid0 w) (hT : TabP w w.heap.size) (h4 : Calls Tryz.prog 4 #[] w (TrueEnd w)) (h5 : Says 5 z s 0) (h6 : Says 6 z s 0) (h7 : TokSays s z) (z63 : z < 9223372036854775808) :
    Calls Tryz.prog 3 #[.int .u64 z] w (TrueEnd w) := by
  have L0 := Lib.hid hL
  have T0 := Lib.hid hT
  have H4 := Lib.hid h4
  have H5 := Lib.hid h5
  have H6 := Lib.hid h6
  have H7 := Lib.hid h7
  have q1 : (s != s) = false := by show (!(s == s)) = false; rw [beq_toListBytes, beq_iff_eq.2 rfl]; rfl
  have q2 : decide (9223372036854775808 ≤ (z : Int)) = false := decide_eq_false (by omega)
  clear hL hT h4 h5 h6 h7
  go_enter Tryz.func3, Tryz.ntmps3
  go_wp2_with (go_at_call 4; (with_reducible refine H4.out.mono ?_))
  rintro e W1 ⟨rfl, b1⟩
  have B1 := Lib.hid b1
  have C5 : Hid (Calls Tryz.prog 5 #[.int .u64 z] W1 (TxtEnd s 0 W1)) := Lib.hid (H5.out W1 (L0.out.below b1) (T0.out.next b1))
  clear b1
  go_wp2_with (go_at_call 5; (with_reducible refine C5.out.mono ?_))
  rintro e W2 ⟨rfl, b2⟩
  have B2 : Hid (Below w.heap.size w W2) := Lib.hid (B1.out.trans (b2.mono B1.out.size))
  clear b2
  have C6 : Hid (Calls Tryz.prog 6 #[.int .u64 z] W2 (TxtEnd s 0 W2)) := Lib.hid (H6.out W2 (L0.out.below B2.out) (T0.out.next B2.out))
  go_wp2_with (go_at_call 6; (with_reducible refine C6.out.mono ?_))
  rintro e W3 ⟨rfl, b3⟩
  have B3 : Hid (Below w.heap.size w W3) := Lib.hid (B2.out.trans (b3.mono B2.out.size))
  clear b3
  have C7 := Lib.hid (H7.out W3 (L0.out.below B3.out) (T0.out.next B3.out))
  go_upto_region 9 with (go_at_call 7; (with_reducible refine C7.out.mono ?_); rintro e W4 ⟨rfl, b4⟩; unfold tokV; have B4 := Lib.hid b4; clear b4)
  generalize hW5 : W4.alloc _ = W5
  have T1 : Hid (TkA W5 W4.heap.size 5 ⟨#[]⟩ ⟨#[]⟩ z 0 s.size false) := Lib.hid (by rw [← hW5]; exact TkA.of_new W4 _ _ _ _ _ _ _)
  have b5 : Below W4.heap.size W4 W5 := by rw [← hW5]; exact (Below.refl _ _).alloc (nR _) _
  have B5 : Hid (Below w.heap.size w W5) := Lib.hid ((B3.out.trans (B4.out.mono B3.out.size)).trans (b5.mono (by have := B4.out.size; have := B3.out.size; omega)))
  clear hW5 b5
  obtain ⟨x10, x11, x12, x13, x14, x15, x16⟩ := T1.out.cs
  obtain ⟨y10, y11, y12, y13, y14, y15, y16⟩ := T1.out.fs
  go_wp2_with fail
  go_ret
  exact ⟨by simp, B5.out⟩
end Go.Proofs
set_option linter.unusedVariables false
set_option linter.unusedSimpArgs false
/- The law of the writer's floats answers true at every word. -/
namespace Go.Zw
open Go.Pf
theorem strip_ex (n : Nat) : 0 < n → ∃ U A, n = U * 10 ^ A ∧ U % 10 ≠ 0 := by
  induction n using Nat.strongRecOn with
  | _ n ih =>
    intro hn
    by_cases h : n % 10 = 0
    · obtain ⟨U, A, h1, h2⟩ := ih (n / 10) (by omega) (by omega)
      refine ⟨U, A + 1, ?_, h2⟩
      have h3 : n = n / 10 * 10 := by omega
      rw [Nat.pow_succ, ← Nat.mul_assoc, ← h1]
      exact h3
    · exact ⟨n, 0, by simp, h⟩
theorem flt_ok {b : Nat} (h0 : 0 < b) (h : b < infB) : ∃ r u, FltOk b r u := by
  have h' := h
  unfold infB at h'
  by_cases hs : b < 4503599627370496
  · exact ⟨b, 0, h0, by omega, .inl rfl, by omega, by omega, h⟩
  · exact ⟨b % 4503599627370496 + 4503599627370496, b / 4503599627370496 - 1, by omega, by omega, .inr (by omega), by omega, by omega, h⟩
end Go.Zw
namespace Go.Proofs
open Go.RowKit Go.Pf Go.Lx Go.Hb Go.Rb Go.Bg Go.Zw
open Go.Proofs.YtpjcdbjablijkaaGreatDoor
theorem FltOk.outs {b r u : Nat} (h : FltOk b r u) : ∃ U x, Out b r u U x := by
  have h1 := (h.val (fun he hn => dDig_pos he hn)).1
  obtain ⟨U, A, hA, hU⟩ := strip_ex ((pDig r u).1 * 10 ^ (pDig r u).2) (Nat.mul_pos h1 (Nat.pow_pos (by decide)))
  exact ⟨_, _, h.out hU hA⟩
theorem FloatSays.txt {b r u U : Nat} {x : Int} {ng : Bool} {w w' : World} {e : Ending} (ho : Out b r u U x) (h : FloatSays b r u ng w e w') : TxtEnd (sB (sgT ng ++ fTxt U x)) 0 w e w' := by
  obtain ⟨V, y, h1, h2, h3⟩ := h
  obtain ⟨rfl, rfl⟩ := ho.unique h1
  exact ⟨h2, h3⟩
theorem lawFloatsAt (n : Int) (W : World) (h0 : 0 ≤ n) (h1 : n < 18446744073709551616) (hL : laidMet Tryz.prog Rows.writerFloatsRow.laid W) (hsh : W.ShapedOpen Tryz.prog) :
    Calls Tryz.prog 3 #[.int .u64 n] W fun e W' => e = .returned (.bool true) ∧ Below W.heap.size W W' := by
  obtain ⟨z, rfl⟩ : ∃ z : Nat, n = z := ⟨n.toNat, by omega⟩
  have z64 : z < 18446744073709551616 := by omega
  have hL0 : Laid0 W := Laid0.of hL hsh
  have hT : TabP W W.heap.size := by
    obtain ⟨B, h2, h3⟩ := (Laid1.of hL hsh).tab
    exact h3.mono h2
  have h4 : Calls Tryz.prog 4 #[] W (TrueEnd W) := awake6_calls hL hsh
  obtain ⟨b, hb⟩ : ∃ b, b = z % 9223372036854775808 := ⟨_, rfl⟩
  have hinf : infB = 9218868437227405312 := rfl
  rcases Nat.lt_trichotomy b infB with hlt | heq | hgt
  · by_cases hb0 : b = 0
    · by_cases hz : z < 9223372036854775808
      · obtain rfl : z = 0 := by omega
        exact Tryz.law_pos 0 ⟨#[48, 46, 48]⟩ W hL0 hT h4 (fun w a _ => Tryz.wf0 a) (fun w a _ => Tryz.df0 a) (fun w a _ => Tryz.nx0 a) hz
      · obtain rfl : z = 9223372036854775808 := by omega
        exact Tryz.law_neg 9223372036854775808 ⟨#[45, 48, 46, 48]⟩ W hL0 hT h4 (fun w a _ => Tryz.wf1 a) (fun w a _ => Tryz.df1 a) (by omega) z64
    · obtain ⟨r, u, hF⟩ := flt_ok (by omega) hlt
      obtain ⟨U, x, ho⟩ := FltOk.outs hF
      by_cases hz : z < 9223372036854775808
      · obtain rfl : b = z := by omega
        obtain ⟨p, hx⟩ := lx_text ho hlt
        exact Tryz.law_pos b (sB (sgT false ++ fTxt U x)) W hL0 hT h4
          (fun w a c => (Tryz.wfloat b r u false b w hF rfl a c).mono fun _ _ h => FloatSays.txt ho h)
          (fun w a c => (Tryz.float6 b r u false b w hF rfl).mono fun _ _ h => FloatSays.txt ho h)
          (fun w a c => Tryz.lnext (sB (fTxt U x)) p b w hx a c) hz
      · have hzb : z = b + 9223372036854775808 := by omega
        exact Tryz.law_neg z (sB (sgT true ++ fTxt U x)) W hL0 hT h4
          (fun w a c => (Tryz.wfloat b r u true z w hF hzb a c).mono fun _ _ h => FloatSays.txt ho h)
          (fun w a c => (Tryz.float6 b r u true z w hF hzb).mono fun _ _ h => FloatSays.txt ho h) (by omega) z64
  · have h6 : Says 6 z ⟨#[]⟩ 14 := fun w _ _ => Tryz.float6_no z w z64 (by omega)
    by_cases hz : z < 9223372036854775808
    · obtain rfl : z = 9218868437227405312 := by omega
      exact Tryz.law_no _ W hL0 hT h4 (fun w a _ => Tryz.wf2 a) h6
    · obtain rfl : z = 18442240474082181120 := by omega
      exact Tryz.law_no _ W hL0 hT h4 (fun w a _ => Tryz.wf3 a) h6
  · exact Tryz.law_no z W hL0 hT h4 (fun w _ _ => Tryz.wfloat_nan z w (by omega)) (fun w _ _ => Tryz.float6_no z w z64 (by omega))
theorem lawFloats (n : Int) (W : World) (h : (Lit.int .u64 n).wf = true) (hL : laidMet Tryz.prog Rows.writerFloatsRow.laid W) (hsh : W.ShapedOpen Tryz.prog) :
    Calls Tryz.prog 3 #[.int .u64 n] W fun e W' => e = .returned (.bool true) ∧ Below W.heap.size W W' := by
  have h1 : (decide (IntKind.u64.min ≤ n) && decide (n ≤ IntKind.u64.max)) = true := h
  simp only [Bool.and_eq_true, decide_eq_true_eq] at h1
  have e1 : IntKind.u64.min = 0 := by decide
  have e2 : IntKind.u64.max = 18446744073709551615 := by decide
  rw [e1, e2] at h1
  exact lawFloatsAt n W h1.1 (by omega) hL hsh
end Go.Proofs
