/- The walk of bigint.own. -/
import Derived.Test.YteegpmimbbgdlaaGreatDoorBgSize
import Derived.OwnWalk
import Derived.Laws.CopyOwn
namespace Go.Proofs
open Go.RowKit Go.Bg
theorem Tryz.infoU32 : (Tryz.prog.info? 67).map (fun i => (i.zero, i.size, i.bytes)) = some (some (.int .u32 0), 1, 4) := by kernel_rfl
theorem Tryz.sizeU32 : (Tryz.prog.info? 67).map (·.size) = some 1 := by kernel_rfl
def limbCells (x m : Nat) : List Value := (List.range m).map fun j => Value.int .u32 (limb x j : Nat)
theorem limbCells_length (x m : Nat) : (limbCells x m).length = m := by simp [limbCells]
theorem limbCells_get (x m j : Nat) (h : j < m) : (limbCells x m)[j]? = some (.int .u32 (limb x j : Nat)) := by simp [limbCells, h]
def OwnSays (w : World) (x m : Nat) (e : Ending) (w' : World) : Prop :=
  e = .returned (.slice (some ⟨w.heap.size, 0, none⟩) m m) ∧ w'.heap[w.heap.size]? = some (.cells (limbCells x m).toArray 67 (0, 0)) ∧ Below w.heap.size w w'
set_option maxRecDepth 100000 in
set_option maxHeartbeats 2000000 in
theorem Tryz.own (v : Value) (x m : Nat) (w : World) (hm : m ≤ 1000000) (hv : Hid (LimV w v x m)) : Calls Tryz.prog 34 #[v] w (OwnSays w x m) := by
  obtain ⟨i0, hi, hz0, hz1, hz2⟩ := info_parts Tryz.infoU32
  obtain ⟨a, c, rfl⟩ := hv.out.slice
  have bm : i0.bytes * m ≤ 281474976710656 := by rw [hz2]; omega
  go_enter Tryz.func34, Tryz.ntmps34
  go_wp2_with (refine wpList_make_full w rfl _ _ 39 rfl w.heap.size 67 i0 (.int .u32 0) 1 Tryz.underlying39 hi hz0 hz1 .i64 .i64 m m m rfl rfl rfl rfl bm (by unfold maxLen; omega) (Nat.le_refl _) ?_)
  intro w1 hown hgrow
  obtain ⟨cur, hcl, hcur⟩ : ∃ cur : List Value, cur.length = m ∧ w1.heap[w.heap.size]? = some (.cells cur.toArray 67 (0, 0)) := by
    rcases hown.2 with ⟨h, _⟩ | ⟨g, cap, cur, h, _, hg, _, _, hcs, _⟩
    · simp at h
    · simp only [Value.slice.injEq, Option.some.injEq, Addr.mk.injEq, and_true, true_and] at h
      obtain ⟨rfl, rfl⟩ := h
      exact ⟨cur.toList, by simpa using hcs, by simpa using hg⟩
  have hb1 : Below w.heap.size w w1 := (Below.refl _ _).grown hgrow (Nat.le_refl _) (fun k hk => by cases hk)
  have hv1 := Lib.hid (hv.out.below hb1)
  have HG := Lib.hid hcur
  have HL := Lib.hid hcl
  obtain ⟨cs, hcs⟩ : ∃ cs, cs = limbCells x m := ⟨_, rfl⟩
  have hcsl : cs.length = m := by rw [hcs, limbCells_length]
  have HCS := Lib.hid hcs
  have HCL := Lib.hid hcsl
  clear hcs hcsl hcur hcl hown hgrow
  go_wp2_with (refine wpList_copy_splice rfl _ _ 39 39 rfl 67 Tryz.underlying39 Tryz.sizeU32 (some ⟨w.heap.size, 0, none⟩) a m m m c rfl rfl w.heap.size 0 cur 67 HG.out cs (by rw [HCL.out]; exact (Nat.min_self m).symm) ?c1 (by rw [HCL.out, HL.out]; omega) ?c2 w.heap.size w hb1 (Nat.le_refl _) ?_)
  case c1 =>
    intro hpos
    rcases hv1.out with ⟨_, _, h⟩ | ⟨b, o, c', h1, _, _, h2⟩
    · rw [HCL.out] at hpos; omega
    · simp only [Value.slice.injEq] at h1
      obtain ⟨rfl, _, rfl⟩ := h1
      refine ⟨⟨b, o, none⟩, rfl, fun j u hj => ?_⟩
      have hlt : j < m := by
        rcases Nat.lt_or_ge j m with h3 | h3
        · exact h3
        · rw [List.getElem?_eq_none (by rw [HCL.out]; exact h3)] at hj; cases hj
      rw [HCS.out, limbCells_get x m j hlt] at hj
      cases hj
      have h4 := h2.2 j hlt
      have h5 : (⟨b, o, none⟩ : Addr).add j = ⟨b, o + j, none⟩ := by unfold Addr.add; split <;> simp_all
      rw [h5]; exact h4
  case c2 =>
    intro u hu
    rw [HCS.out] at hu
    unfold limbCells at hu
    obtain ⟨j, _, rfl⟩ := List.mem_map.1 hu
    rfl
  intro w2 hg2 hb2
  go_wp2
  go_ret
  refine ⟨rfl, ?_, hb2⟩
  have := hg2.out
  rw [this, HCS.out]
  congr 2
  unfold splice
  rw [limbCells_length, List.drop_of_length_le (by rw [HL.out]; omega)]
  simp
end Go.Proofs
