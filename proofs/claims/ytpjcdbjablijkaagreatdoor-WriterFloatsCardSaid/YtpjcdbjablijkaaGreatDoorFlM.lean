import Derived.Test.YtpjcdbjablijkaaGreatDoorTbm
import Derived.Test.YtpjcdbjablijkaaGreatDoorZwN
import Derived.Test.YtpjcdbjablijkaaGreatDoorZwO
import Derived.Lib.LaidTab
set_option linter.unusedVariables false
set_option linter.unusedSimpArgs false
set_option maxRecDepth 1000000
set_option maxHeartbeats 40000000
/- Floats with their signs: what is no number, what is infinite. -/
namespace Go.Pf
open Ieee Go.Op
theorem read_neg (b : Nat) (h : b < infB) : double.read (b + 9223372036854775808) = .number true (mg b) (-1074 + (pe b : Nat)) := by
  unfold infB at h
  unfold Format.read
  have e1 : (b + 9223372036854775808) % 9223372036854775808 = b := by omega
  have e2 : (b + 9223372036854775808) / 9223372036854775808 = 1 := by omega
  simp only [dbl_binade, dbl_inf, dbl_sw, dbl_least, e1, e2]
  unfold mg pe
  by_cases hs : b < 4503599627370496
  · rw [if_pos hs, if_pos hs, Nat.div_eq_of_lt hs]
    rfl
  · rw [if_neg hs, if_neg hs, if_pos h]
    rfl
theorem order_self {z : Nat} {s : Bool} {m : Nat} {e : Int} (h : double.read z = .number s m e) : (double.order z z == some .eq) = true := by
  unfold Format.order
  rw [h]
  show (some (compare _ _) == some Ordering.eq) = true
  simp
theorem eq_self (b : Nat) (ng : Bool) (h : b < infB) : (double.order (if ng then b + 9223372036854775808 else b) (if ng then b + 9223372036854775808 else b) == some .eq) = true := by
  cases ng
  · exact order_self (read_fin b h)
  · exact order_self (read_neg b h)
theorem neg_back (b : Nat) (h : b < 9223372036854775808) : negFloat .f64 (b + 9223372036854775808) = b := by
  unfold negFloat
  have e : 2 ^ (FloatKind.f64.format.exponentBits + FloatKind.f64.format.fractionBits) = 2 ^ 63 := by decide
  rw [e]
  have p63 : (2 : Nat) ^ 63 = 9223372036854775808 := by decide
  have e2 : b + 9223372036854775808 = 2 ^ 63 ^^^ b := by
    have h1 : 2 ^ 63 * 1 + b = 2 ^ 63 * 1 ||| b := Nat.two_pow_add_eq_or_of_lt (by omega) 1
    have h2 : 2 ^ 63 ^^^ b = 2 ^ 63 ||| b := by
      apply Nat.eq_of_testBit_eq
      intro k
      rw [Nat.testBit_xor, Nat.testBit_or, Nat.testBit_two_pow]
      by_cases hk : 63 = k
      · subst hk
        rw [Nat.testBit_lt_two_pow (by omega)]
        simp
      · rw [decide_eq_false hk]
        simp
    rw [h2, ← Nat.mul_one (2 ^ 63), ← h1]
    omega
  rw [e2, Nat.xor_comm, ← Nat.xor_assoc, Nat.xor_self, Nat.zero_xor]
end Go.Pf
namespace Go.Proofs
open Go.RowKit Go.Pf
theorem frombits14 (n : Nat) (w : World) : (callFunc 14 #[.int .u64 (n : Int)]).run Tryz.prog w = .ok (.value (.float .f64 n)) w := by
  rw [run_callFunc_extern Tryz.func14 (by kernel_rfl) (by kernel_rfl) (by kernel_rfl) (e := Extern.MathFloatBits.float64frombits) (by kernel_rfl)]
  rfl
theorem tobits81 (n : Nat) (w : World) : (callFunc 81 #[.float .f64 n]).run Tryz.prog w = .ok (.value (.int .u64 (n : Int))) w := by
  rw [run_callFunc_extern Tryz.func81 (by kernel_rfl) (by kernel_rfl) (by kernel_rfl) (e := Extern.MathFloatBits.float64bits) (by kernel_rfl)]
  rfl
theorem Tryz.isNaN (b : Nat) (ng : Bool) (z : Nat) (w : World) (h : b < infB) (hz : z = if ng then b + 9223372036854775808 else b) : Calls Tryz.prog 15 #[.float .f64 z] w fun e w' => e = .returned (.bool false) ∧ w = w' := by
  have H := eq_self b ng h
  rw [← hz] at H
  have H2 : (FloatKind.f64.format.order z z != some Ordering.eq) = false := by
    show (!(Ieee.double.order z z == some Ordering.eq)) = false
    rw [H]
    rfl
  have HH := Lib.hid H2
  clear hz H H2
  go_enter Tryz.func15, Tryz.ntmps15
  go_wp2
  go_ret
  exact ⟨by rw [HH.out]; rfl, rfl⟩
theorem Tryz.abs41 (b : Nat) (ng : Bool) (z : Nat) (w : World) (h : b < infB) (hz : z = if ng then b + 9223372036854775808 else b) : Calls Tryz.prog 41 #[.float .f64 z] w fun e w' => e = .returned (.float .f64 b) ∧ w = w' := by
  have hb2 : b < 9223372036854775808 := by unfold infB at h; omega
  have hz64 : z < 18446744073709551616 := by rw [hz]; split <;> omega
  have hzm : z % 2 ^ 63 = b := by
    have p63 : (2 : Nat) ^ 63 = 9223372036854775808 := by decide
    rw [p63, hz]; split <;> omega
  have f2 : bits .andNot .u64 (z : Int) 9223372036854775808 = (b : Int) := by
    have h1 := u64_andNot_nat z 9223372036854775808 hz64 (by decide)
    have e : 18446744073709551615 - 9223372036854775808 = 2 ^ 63 - 1 := by decide
    rw [e, Nat.and_two_pow_sub_one_eq_mod, hzm] at h1
    exact h1
  clear hz hzm h hb2
  go_enter Tryz.func41, Tryz.ntmps41
  go_wp2
  rw [tobits81, Oper.upon_value]
  go_wp2
  rw [frombits14, Oper.upon_value]
  go_wp2
  go_ret
  exact ⟨rfl, rfl⟩
theorem Tryz.isInf16 (b : Nat) (ng : Bool) (z : Nat) (w : World) (h : b < infB) (hz : z = if ng then b + 9223372036854775808 else b) : Calls Tryz.prog 16 #[.float .f64 z, .int .i64 0] w fun e w' => e = .returned (.bool false) ∧ w = w' := by
  have H : (FloatKind.f64.format.order b 9218868437227405311 == some Ordering.gt) = false := by
    rw [inf_gt (Nat.le_of_lt h), decide_eq_false (Nat.ne_of_lt h)]
  have HH := Lib.hid H
  have CA := Lib.hid (fun W => Tryz.abs41 b ng z W h hz)
  clear hz H h
  go_enter Tryz.func16, Tryz.ntmps16
  go_wp2_with (go_at_call 41; (with_reducible refine (CA.out _).mono ?_); rintro e w' ⟨rfl, rfl⟩)
  go_ret
  exact ⟨by rw [HH.out]; rfl, rfl⟩
end Go.Proofs
set_option linter.unusedVariables false
set_option linter.unusedSimpArgs false
set_option maxRecDepth 1000000
set_option maxHeartbeats 40000000
/- Memory as the row lays it: the table of powers of ten, the longest piece. -/
namespace Go.Proofs
open Go.RowKit Go.Pf Go.Lx Go.Hb Go.Rb Go.Bg Go.Shelf
open Go.Proofs.YtpjcdbjablijkaaGreatDoor
theorem laid_pow10 : Rows.writerFloatsRow.laid[8]? = some ("internal/strconv.uint64pow10", Lib.tabData .u64 Lib.pow10Tab) := by kernel_rfl
theorem pow10_named : ∃ g, Tryz.prog.globalNamed "internal/strconv.uint64pow10" = some g ∧ (Tryz.prog.globals[g]?).map (·.type) = some 254 ∧ g < Tryz.prog.globals.size := by
  have h : (match Tryz.prog.globalNamed "internal/strconv.uint64pow10" with | some g => ((Tryz.prog.globals[g]?).map (·.type) == some 254) && Nat.blt g Tryz.prog.globals.size | none => false) = true := by kernel_rfl
  split at h
  · rename_i g hg
    simp only [Bool.and_eq_true] at h
    exact ⟨g, hg, by simpa using h.1, by simpa using h.2⟩
  · cases h
theorem Tryz.cells22 : Tryz.prog.cellsOf 22 = 1 := by kernel_rfl
theorem Tryz.cells254 : Tryz.prog.cellsOf 254 = 20 := by kernel_rfl
theorem Laid0.pow10 {W : World} (h : Laid0 W) : Lib.TabIs Tryz.prog W "internal/strconv.uint64pow10" .u64 Lib.pow10Tab := by
  obtain ⟨W0, h1, _, h3, _⟩ := h
  obtain ⟨g, t, cs, fuel, p, hg, hty, hvar, hd⟩ := Lib.laidMet.reads h1 (List.mem_of_getElem? laid_pow10)
  obtain ⟨g', hg', hty', hlt⟩ := pow10_named
  obtain rfl := Option.some.inj (hg.symm.trans hg')
  obtain rfl := Option.some.inj (hty.symm.trans hty')
  have hcs := Lib.cells_of_tab Tryz.underlying254 Tryz.underlying22 Tryz.cells22 Tryz.cells254 hd
  unfold Lib.TabIs
  have e : W.var? Tryz.prog "internal/strconv.uint64pow10" = W0.var? Tryz.prog "internal/strconv.uint64pow10" := by
    unfold World.var?
    rw [hg]
    simp only [Option.bind_some, h3 g hlt]
  rw [e, hvar, ← hcs]
theorem Laid0.maxLen {W : World} (h : Laid0 W) : ∃ m, W.cell? ⟨3, 0, none⟩ = some (.int .i64 m) := by
  obtain ⟨W0, _, h2, h3, _⟩ := h
  obtain ⟨m, hm⟩ : ∃ m, W0.cell? ⟨3, 0, none⟩ = some (.int .i64 m) := 
    Go.Proofs.cell_of_shapedOpen_int (zero := #[.int .i64 0]) (t := 3) h2 (of_decide_eq_true (by kernel_rfl)) (by kernel_rfl) rfl (by kernel_rfl) (by kernel_rfl) Tryz.underlying3
  have hg : 3 < Tryz.prog.globals.size := by
    have : Nat.ble 4 Tryz.prog.globals.size = true := by kernel_rfl
    have := Nat.le_of_ble_eq_true this
    omega
  exact ⟨m, (World.cell?_of_block (a := ⟨3, 0, none⟩) (h3 3 hg)).trans hm⟩
end Go.Proofs
