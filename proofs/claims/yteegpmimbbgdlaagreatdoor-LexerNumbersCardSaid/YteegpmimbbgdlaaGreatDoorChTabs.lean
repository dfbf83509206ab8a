/- The library's tables, as the row's list lays them. -/
import Derived.Test.YteegpmimbbgdlaaGreatDoorQtSmall
import Derived.Test.YteegpmimbbgdlaaGreatDoorBgLay
import Derived.Lib.LaidU8T
import Derived.Lib.LaidTab
namespace Go.Proofs
open Go.RowKit Go.Shelf
open Go.Proofs.YteegpmimbbgdlaaGreatDoor
def rhoU : Ren := ⟨fun n => n, fun | 119 => 140 | 138 => 142 | 139 => 143 | n => n, fun | 3 => 2 | 4 => 3 | n => n⟩
theorem Tryz.u8types : U8Types Tryz.prog rhoU := ⟨Tryz.underlying5, Tryz.underlying140, Tryz.underlying142, Tryz.underlying143⟩
theorem Tryz.u8extra : U8Extra Tryz.prog rhoU := ⟨by kernel_rfl, by kernel_rfl, by kernel_rfl, by kernel_rfl, by kernel_rfl, by kernel_rfl, by kernel_rfl⟩
theorem laid_first : Rows.lexerQuotesRow.laid[14]? = some ("unicode/utf8.first", Lib.firstData) := by kernel_rfl
theorem laid_accept : Rows.lexerQuotesRow.laid[9]? = some ("unicode/utf8.acceptRanges", Lib.acceptData) := by kernel_rfl
theorem laid_pow10 : Rows.lexerQuotesRow.laid[8]? = some ("internal/strconv.uint64pow10", Lib.tabData .u64 Lib.pow10Tab) := by kernel_rfl
theorem Laid0.utf8 {W : World} (h : Laid0 W) : Lib.Utf8Tabs 2 3 W := by
  obtain ⟨W0, h1, _, h3, _⟩ := h
  have r1 := Lib.laidMet.reads h1 (List.mem_of_getElem? laid_first)
  have r2 := Lib.laidMet.reads h1 (List.mem_of_getElem? laid_accept)
  have k := utf8Tabs_of_readsT Tryz.u8types Tryz.u8extra r1 r2
  have hs : 4 ≤ Tryz.prog.globals.size := by have : Nat.ble 4 Tryz.prog.globals.size = true := by kernel_rfl
                                             exact Nat.le_of_ble_eq_true this
  have e2 : ∀ c, W.cell? ⟨2, c, none⟩ = W0.cell? ⟨2, c, none⟩ := fun c => World.cell?_of_block (a := ⟨2, c, none⟩) (h3 2 (by omega))
  have e3 : ∀ c, W.cell? ⟨3, c, none⟩ = W0.cell? ⟨3, c, none⟩ := fun c => World.cell?_of_block (a := ⟨3, c, none⟩) (h3 3 (by omega))
  exact ⟨fun c hc => (e2 c).trans (k.1 c hc), fun i hi => ⟨(e3 _).trans (k.2 i hi).1, (e3 _).trans (k.2 i hi).2⟩⟩
theorem pow10_named : ∃ g, Tryz.prog.globalNamed "internal/strconv.uint64pow10" = some g ∧ (Tryz.prog.globals[g]?).map (·.type) = some 180 ∧ g < Tryz.prog.globals.size := by
  have h : (match Tryz.prog.globalNamed "internal/strconv.uint64pow10" with | some g => ((Tryz.prog.globals[g]?).map (·.type) == some 180) && Nat.blt g Tryz.prog.globals.size | none => false) = true := by kernel_rfl
  split at h
  · rename_i g hg
    simp only [Bool.and_eq_true] at h
    exact ⟨g, hg, by simpa using h.1, by simpa using h.2⟩
  · cases h
theorem Tryz.cells23 : Tryz.prog.cellsOf 23 = 1 := by kernel_rfl
theorem Tryz.cells180 : Tryz.prog.cellsOf 180 = 20 := by kernel_rfl
theorem Laid0.pow10 {W : World} (h : Laid0 W) : Lib.TabIs Tryz.prog W "internal/strconv.uint64pow10" .u64 Lib.pow10Tab := by
  obtain ⟨W0, h1, _, h3, _⟩ := h
  obtain ⟨g, t, cs, fuel, p, hg, hty, hvar, hd⟩ := Lib.laidMet.reads h1 (List.mem_of_getElem? laid_pow10)
  obtain ⟨g', hg', hty', hlt⟩ := pow10_named
  obtain rfl := Option.some.inj (hg.symm.trans hg')
  obtain rfl := Option.some.inj (hty.symm.trans hty')
  have hcs := Lib.cells_of_tab Tryz.underlying180 Tryz.underlying23 Tryz.cells23 Tryz.cells180 hd
  unfold Lib.TabIs
  have e : W.var? Tryz.prog "internal/strconv.uint64pow10" = W0.var? Tryz.prog "internal/strconv.uint64pow10" := by
    unfold World.var?
    rw [hg]
    simp only [Option.bind_some, h3 g hlt]
  rw [e, hvar, ← hcs]
end Go.Proofs
