/- Symbols in an index, in a slice of a string. -/
import Derived.Test.YteegpmimbbgdlaaGreatDoorPure3
set_option linter.unusedVariables false
set_option linter.unusedSimpArgs false
set_option linter.unnecessarySimpa false
namespace Go.Proofs.YteegpmimbbgdlaaGreatDoor.Ab
open Go Go.RowKit

section
variable {P : Program} {N : Nat → Prop} {ρ : Rho} {ro : Nat} {st : St} {W w : World}
theorem indexS_run (hM : MR N ρ ro st W w) {t : Nat} {x i r : AV} {v u : Value} (hv : VR ρ x v) (hu : VR ρ i u) (h : indexS P st t x i = .ok r) : ∃ q, (Instr.index t v u).run P w = .ok q w ∧ VR ρ r q := by
  unfold indexS at h
  split at h
  case h_2 => cases h
  rename_i s k e hty hs he
  split at h
  case h_2 => cases h
  rename_i h1 h2
  cases h
  rw [symS_spec hs hv, symI_spec he hu]
  have h1 := hM.nonNeg h1
  have h2 := hM.holdsF h2
  rw [den_lss] at h2
  have h2 : (e.den ρ.sg).int < ((s.den ρ.sg).str.length : Int) := of_decide_eq_true h2
  obtain ⟨n, hn⟩ : ∃ n : Nat, (e.den ρ.sg).int = (n : Int) := ⟨(e.den ρ.sg).int.toNat, by omega⟩
  have hlt : n < (s.den ρ.sg).str.length := by omega
  have hlt' : n < (⟨⟨(s.den ρ.sg).str⟩⟩ : ByteArray).size := hlt
  have hget : (⟨⟨(s.den ρ.sg).str⟩⟩ : ByteArray)[n]? = some ((s.den ρ.sg).str[n]) := by
    rw [getElem?_pos (⟨⟨(s.den ρ.sg).str⟩⟩ : ByteArray) n hlt']
    rfl
  refine ⟨.int .u8 ((s.den ρ.sg).str[n].toNat : Int), ?_, ?_⟩
  · rw [hn]
    simp [Instr.index, run_asIntOf, run_underlying hty, hget]
  · have : ((SX.byte s e).den ρ.sg).int = ((s.den ρ.sg).str[n].toNat : Int) := by
      have h3 : (s.den ρ.sg).str[(e.den ρ.sg).int.toNat]? = some ((s.den ρ.sg).str[n]) := by
        rw [hn]
        simp [hlt]
      show (match (s.den ρ.sg).str[(e.den ρ.sg).int.toNat]? with | some b => Int.ofNat b.toNat | none => 0) = _
      rw [h3]
      rfl
    rw [← this]
    exact .ix _ _
theorem boundS_spec {fr : Fr} {ev : Operand → Value} {o : Option Operand} {d e : SX} (he : ∀ y, o = some y → VR ρ (fr.get y) (ev y)) (h : boundS fr o d = .ok e) (h0 : 0 ≤ (e.den ρ.sg).int) {m : Nat} (hm : (d.den ρ.sg).int = (m : Int)) :
    ∃ l : Option Nat, OptR (o.map ev) l ∧ ((l.getD m : Nat) : Int) = (e.den ρ.sg).int := by
  unfold boundS at h
  split at h
  · cases h
    exact ⟨none, .inl ⟨rfl, rfl⟩, by simp [hm]⟩
  · rename_i y
    split at h
    · rename_i k x hx
      cases h
      have := symI_spec hx (he y rfl)
      refine ⟨some (e.den ρ.sg).int.toNat, .inr ⟨k, _, ?_, rfl⟩, ?_⟩
      · simp only [Option.map_some, this]
        congr 2
        omega
      · simp only [Option.getD_some]
        omega
    · cases h
theorem sliceS_run (hM : MR N ρ ro st W w) {t : TypeId} {x : AV} {v : Value} {lo hi mx : Option Operand} {fr : Fr} {ev : Operand → Value} {r : AV} (hv : VR ρ x v) (he : ∀ y, (lo = some y ∨ hi = some y ∨ mx = some y) → VR ρ (fr.get y) (ev y))
    (h : sliceS P st fr t x lo hi mx = .ok r) : ∃ q, (Instr.sliceAt t v (lo.map ev) (hi.map ev) (mx.map ev)).run P w = .ok q w ∧ VR ρ r q := by
  unfold sliceS at h
  split at h
  case h_2 => cases h
  rename_i s hty hs
  obtain ⟨l, hl, h⟩ := Rs.bind_ok h
  obtain ⟨hh, hhi, h⟩ := Rs.bind_ok h
  split at h
  case h_2 => cases h
  rename_i h1 h2 h3
  cases h
  have h1 := hM.nonNeg h1
  have h2 := hM.leF h2
  have h3 : (hh.den ρ.sg).int ≤ ((s.den ρ.sg).str.length : Int) := hM.leF h3
  obtain ⟨l', ol, el⟩ := boundS_spec (m := 0) (fun z hz => he z (.inl hz)) hl h1 rfl
  obtain ⟨h', oh, eh⟩ := boundS_spec (m := (s.den ρ.sg).str.length) (fun z hz => he z (.inr (.inl hz))) hhi (by omega) rfl
  rw [symS_spec hs hv]
  have hsz : (⟨⟨(s.den ρ.sg).str⟩⟩ : ByteArray).size = (s.den ρ.sg).str.length := rfl
  have hb := run_sliceBounds (P := P) (isSlice := false) (len := (s.den ρ.sg).str.length) (cap := (s.den ρ.sg).str.length) ol oh (.inl ⟨rfl, rfl⟩) (by omega) (fun _ => by omega) (fun k hk => by cases hk) w
  have hx : (⟨⟨(s.den ρ.sg).str⟩⟩ : ByteArray).extract (l'.getD 0) (h'.getD (s.den ρ.sg).str.length) = ⟨⟨((s.den ρ.sg).str.drop (l'.getD 0)).take (h'.getD (s.den ρ.sg).str.length - l'.getD 0)⟩⟩ := by
    apply ByteArray.ext
    simp [ByteArray.data_extract]
  refine ⟨.string ⟨⟨((s.den ρ.sg).str.drop (l'.getD 0)).take (h'.getD (s.den ρ.sg).str.length - l'.getD 0)⟩⟩, ?_, ?_⟩
  · simp only [Instr.sliceAt, Sem.run_bind, run_underlying hty, Result.andThen_ok, Instr.slice]
    simp only [Option.map_none, Option.isSome_none, Bool.false_eq_true, if_false, hsz]
    simp [hb, hx]
  · have : ((SX.cut s l hh).den ρ.sg).str = ((s.den ρ.sg).str.drop (l'.getD 0)).take (h'.getD (s.den ρ.sg).str.length - l'.getD 0) := by
      show ((s.den ρ.sg).str.drop (l.den ρ.sg).int.toNat).take ((hh.den ρ.sg).int.toNat - (l.den ρ.sg).int.toNat) = _
      rw [← el, ← eh]
      simp
    rw [← this]
    exact .sx _
end
end Go.Proofs.YteegpmimbbgdlaaGreatDoor.Ab
