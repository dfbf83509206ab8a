/- The walk of hornbeamref03.Utf. -/
import Derived.Test.YteegpmimbbgdlaaGreatDoorBgFrom
namespace Go.Proofs
open Go.RowKit Go.Hb
def UtfSays (v : Nat) (w : World) (e : Ending) (w' : World) : Prop :=
  e = .returned (.slice (some ⟨w.heap.size, 0, none⟩) (Lib.encodeRune v).length (Lib.encodeRune v).length) ∧ RowIs w' w.heap.size (Lib.encodeRune v).length 5 (fun j => .int .u8 (((Lib.encodeRune v).getD j 0).toNat : Nat)) ∧ Below w.heap.size w w'
theorem row_of_enc (w : World) (v : Nat) (zs : List Int) (hz : Lib.encodeRuneZ v = zs) :
    zs.length = (Lib.encodeRune v).length ∧ RowIs (w.alloc (.cells (zs.map fun z => Value.int .u8 z).toArray 5)) w.heap.size (Lib.encodeRune v).length 5 (fun j => .int .u8 (((Lib.encodeRune v).getD j 0).toNat : Nat)) := by
  have hl : zs.length = (Lib.encodeRune v).length := by rw [enc_bytes, hz, List.length_map]
  refine ⟨hl, _, heap_alloc_new w _, by simp [hl], fun j hj => ?_⟩
  have hj2 : j < zs.length := by omega
  have hb := Lib.encodeRuneZ_byte v (zs[j]) (by rw [hz]; exact List.getElem_mem hj2)
  have e1 : (Lib.encodeRune v).getD j 0 = (zs[j]).toNat.toUInt8 := by
    rw [List.getD_eq_getElem?_getD, enc_bytes, hz, List.getElem?_map, List.getElem?_eq_getElem hj2]
    rfl
  show _ = some (Value.int .u8 ((((Lib.encodeRune v).getD j 0).toNat : Nat) : Int))
  rw [e1, toU _ (by omega)]
  have e2 : (((zs[j]).toNat : Nat) : Int) = zs[j] := by omega
  rw [e2]
  simp [List.getElem?_eq_getElem hj2]
set_option maxRecDepth 10000 in
set_option maxHeartbeats 2000000 in
theorem Tryz.utf (v : Nat) (w : World) (hv : okRune v) : Calls Tryz.prog 23 #[.int .i64 v] w (UtfSays v w) := by
  have h0 := hv.2.1
  have a0 : 0 ≤ (v : Int) / 64 := by omega
  have a1 : 0 ≤ (v : Int) % 64 := by omega
  have a2 : (v : Int) % 64 ≤ 63 := by omega
  have a3 : 0 ≤ (v : Int) / 64 % 64 := by omega
  have a4 : (v : Int) / 64 % 64 ≤ 63 := by omega
  have a10 : 0 ≤ (v : Int) := by omega
  have a5 : 0 ≤ (v : Int) / 4096 := by omega
  have a6 : 0 ≤ (v : Int) / 4096 % 64 := by omega
  have a7 : (v : Int) / 4096 % 64 ≤ 63 := by omega
  have a8 : 0 ≤ (v : Int) / 262144 := by omega
  have a9 : (v : Int) / 262144 ≤ 4 := by omega
  rcases hv.cases with c1 | c1 | c1 | c1
  · obtain ⟨hl, hr⟩ := row_of_enc w v _ (Lib.encodeRuneZ_one c1.1 c1.2)
    have HL := Lib.hid hl
    have HR := Lib.hid hr
    have b1 : (v : Int) < 128 := by omega
    clear hl hr c1
    go_enter Tryz.func23, Tryz.ntmps23
    go_wp2
    go_ret
    exact ⟨by rw [← HL.out]; rfl, HR.out, (Below.refl _ _).alloc (Nat.le_refl _) _⟩
  · obtain ⟨hl, hr⟩ := row_of_enc w v _ (Lib.encodeRuneZ_two c1.1 c1.2)
    have HL := Lib.hid hl
    have HR := Lib.hid hr
    have b1 : 128 ≤ (v : Int) := by omega
    have b2 : (v : Int) < 2048 := by omega
    have b3 : (v : Int) / 64 ≤ 31 := by omega
    clear hl hr c1
    go_enter Tryz.func23, Tryz.ntmps23
    go_wp2
    go_ret
    exact ⟨by rw [← HL.out]; rfl, HR.out, (Below.refl _ _).alloc (Nat.le_refl _) _⟩
  · obtain ⟨q, hq⟩ : ∃ q : Nat, (v : Int) / 64 = q := ⟨v / 64, rfl⟩
    obtain ⟨u, hu⟩ : ∃ u : Nat, (v : Int) / 4096 = u := ⟨v / 4096, rfl⟩
    have hz := Lib.encodeRuneZ_three c1
    rw [hq, hu] at hz
    rw [hq] at a3 a4 a0
    rw [hu] at a5 a6 a7
    obtain ⟨hl, hr⟩ := row_of_enc w v _ hz
    have HL := Lib.hid hl
    have HR := Lib.hid hr
    have b1 : decide ((v : Int) < 2048) = false := decide_eq_false (by omega)
    have b2 : decide ((v : Int) < 65536) = true := decide_eq_true (by omega)
    have b4 : decide ((v : Int) < 128) = false := decide_eq_false (by omega)
    have b3 : (u : Int) ≤ 15 := by omega
    have b5 : (q : Int) ≤ 1023 := by omega
    clear hl hr c1 hz a6 a7 a8 a9 h0 hv
    go_enter Tryz.func23, Tryz.ntmps23
    go_wp2
    go_ret
    exact ⟨by rw [← HL.out]; rfl, HR.out, (Below.refl _ _).alloc (Nat.le_refl _) _⟩
  · obtain ⟨q, hq⟩ : ∃ q : Nat, (v : Int) / 64 = q := ⟨v / 64, rfl⟩
    obtain ⟨u, hu⟩ : ∃ u : Nat, (v : Int) / 4096 = u := ⟨v / 4096, rfl⟩
    have hz := Lib.encodeRuneZ_four c1.1 c1.2
    rw [hq, hu] at hz
    rw [hq] at a3 a4 a0
    rw [hu] at a5 a6 a7
    have b5 : (q : Int) ≤ 17407 := by omega
    have b6 : (u : Int) ≤ 272 := by omega
    obtain ⟨hl, hr⟩ := row_of_enc w v _ hz
    have HL := Lib.hid hl
    have HR := Lib.hid hr
    have b1 : decide ((v : Int) < 2048) = false := decide_eq_false (by omega)
    have b2 : decide ((v : Int) < 65536) = false := decide_eq_false (by omega)
    have b4 : decide ((v : Int) < 128) = false := decide_eq_false (by omega)
    clear hl hr c1 hz h0 hv
    go_enter Tryz.func23, Tryz.ntmps23
    go_wp2
    go_ret
    exact ⟨by rw [← HL.out]; rfl, HR.out, (Below.refl _ _).alloc (Nat.le_refl _) _⟩
end Go.Proofs
