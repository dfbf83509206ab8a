/- 'append': there is room, or there is none. -/
import Derived.Test.YteegpmimbbgdlaaGreatDoorAlloc
set_option linter.unusedVariables false
set_option linter.unusedSimpArgs false
set_option linter.unnecessarySimpa false
namespace Go.Proofs.YteegpmimbbgdlaaGreatDoor.Ab
open Go Go.RowKit

section
variable {P : Program} {N : Nat → Prop} {ρ : Rho} {ro : Nat} {st : St} {W w : World}
/-- A new row in a class, not yet there in the world. -/
theorem MR.pendC (h : MR N ρ ro st W w) {cs : PT AV} {k e fz cl rel en : Nat} {ms : List Nat} (hcl : cl + 1 ≤ st.next + 1) (hend : rel + k ≤ en)
    (hold : ∀ j cs' n' e' fz' rel', st.heap.get j = some (.row cs' n' e' fz' (cl + 1) rel') → j ∈ ms ∧ rel' + n' ≤ en) :
    MR N ρ ro { st with heap := st.heap.set st.next (.row cs k e fz (cl + 1) rel), next := Nat.succ st.next, cls := st.cls.set (cl + 1) (en, st.next :: ms) } W w := by
  refine ⟨h.below, (fun i hi => ⟨(h.no i hi).1, Nat.lt_succ_of_lt (h.no i hi).2⟩), h.old, h.own, h.lt, fun id L hL => Nat.lt_succ_of_lt (h.next id L hL), Nat.le_succ_of_le h.ron, fun j o hj => ?_, fun j M o hj ho => ?_, fun i j M M' o o' hi hj hoi hoj hb => ?_, fun j cs1 n1 e1 fz1 cl1 rel1 hj => ?_, h.fx⟩
  · rcases PT.get_set hj with ⟨rfl, _⟩ | ⟨_, h'⟩
    · exact Nat.lt_succ_self _
    · exact Nat.lt_succ_of_lt (h.nx j o h')
  · rcases PT.get_set ho with ⟨rfl, _⟩ | ⟨_, h'⟩
    · exact absurd (h.next _ _ hj) (Nat.lt_irrefl _)
    · exact h.obs j M o hj h'
  · rcases PT.get_set hoi with ⟨rfl, _⟩ | ⟨_, h'⟩
    · exact absurd (h.next _ _ hi) (Nat.lt_irrefl _)
    · rcases PT.get_set hoj with ⟨rfl, _⟩ | ⟨_, h''⟩
      · exact absurd (h.next _ _ hj) (Nat.lt_irrefl _)
      · exact h.inj i j M M' o o' hi hj h' h'' hb
  · rcases PT.get_set hj with ⟨rfl, e2⟩ | ⟨_, h'⟩
    · cases e2
      refine ⟨hcl, fun m hm => ?_⟩
      rcases PT.get_set hm with ⟨_, rfl⟩ | ⟨hne, _⟩
      · exact ⟨by simp, hend⟩
      · exact absurd rfl hne
    · obtain ⟨a, b⟩ := h.cls j cs1 n1 e1 fz1 cl1 rel1 h'
      refine ⟨Nat.le_succ_of_le a, fun m hm => ?_⟩
      rcases PT.get_set hm with ⟨hc, rfl⟩ | ⟨_, hm'⟩
      · have hc' : cl1 = cl := by omega
        subst hc'
        obtain ⟨x, y⟩ := hold j cs1 n1 e1 fz1 rel1 h'
        exact ⟨by simp [x], y⟩
      · exact b m hm'
/-- Cells behind all that is known of a block are written. -/
theorem MR.beyond (h : MR N ρ ro st W w) {b : Nat} {c : Array Value} {e : TypeId} {f : Nat × Nat} (hb : w.heap[b]? = some (.cells c e f)) (hW : W.heap.size ≤ b) {q : Nat} {vs : List Value} (hq : q + vs.length ≤ c.size)
    (hk : ∀ j M ob, ρ j = some M → M.b = b → st.heap.get j = some ob → ∃ cs n e fz cl rel, ob = .row cs n e fz cl rel ∧ M.base + n ≤ q) :
    MR N ρ ro st W { w with heap := w.heap.setIfInBounds b (.cells (writeCells c q vs) e f) } := by
  have hlt := lt_of_block hb
  refine ⟨⟨h.below.os, h.below.tape, h.below.output, by simpa using h.below.size, fun k hk' => ?_⟩, h.no, h.old, h.own, by simpa using h.lt, h.next, h.ron, h.nx, fun j M ob hj hob => ?_, h.inj, h.cls, h.fx⟩
  · rw [← h.below.block k hk']
    exact Array.getElem?_setIfInBounds_ne (by omega)
  · obtain ⟨o, h1, h2⟩ := h.obs j M ob hj hob
    by_cases hbb : M.b = b
    · obtain ⟨cs, n, e', fz, cl, rel, rfl, hn⟩ := hk j M ob hj hbb hob
      rw [hbb, hb] at h1
      cases h1
      obtain ⟨c', lo, hi, he, hsz, h0, hcs, hf0, hf1⟩ := h2
      cases he
      refine ⟨.cells (writeCells c q vs) e (lo, hi), by simp [hbb, hlt], _, lo, hi, rfl, by rw [writeCells_size]; exact hsz, h0, fun i a hg => ?_, hf0, hf1⟩
      obtain ⟨h3, v, h4, h5⟩ := hcs i a hg
      refine ⟨h3, v, ?_, h5⟩
      rw [writeCells_get vs c q _ hq, if_neg (by omega)]
      exact h4
    · refine ⟨o, ?_, h2⟩
      rw [← h1]
      exact Array.getElem?_setIfInBounds_ne (fun e => hbb e.symm)
/-- A number that is not yet there is laid over a block that is. -/
theorem MR.alias (h : MR N ρ ro st W w) {id : Nat} {L : Loc} {ob : Ob} {o : Obj} (hid : ∀ ob', st.heap.get id = some ob' → ob' = ob) (hidn : id < st.next) (hρ : ρ id = none) (hN : ¬ N id) (hro : ro ≤ id) (hW : W.heap.size ≤ L.b)
    (hb : w.heap[L.b]? = some o) (ho : OR ρ L ob o) (hm : ∀ j M ob', ρ j = some M → st.heap.get j = some ob' → M.b = L.b → Mates L M ob ob' ∧ Mates M L ob' ob) : MR N (ρ.put id L) ro st W w := by
  have hle := Rho.put_le (L := L) hρ
  have hpr : ∀ {j M}, ρ.put id L j = some M → (j = id ∧ M = L) ∨ (j ≠ id ∧ ρ j = some M) := by
    intro j M hj
    rw [Rho.put_at] at hj
    split at hj
    · rename_i e; cases hj; exact .inl ⟨e, rfl⟩
    · rename_i e; exact .inr ⟨e, hj⟩
  refine ⟨h.below, (fun i hi => ⟨by rw [Rho.put_at, if_neg (fun (e : i = id) => hN (e ▸ hi))]; exact (h.no i hi).1, (h.no i hi).2⟩), fun j M hj hjr => ?_, fun j M hj hjr => ?_, fun j M hj => ?_, fun j M hj => ?_, h.ron, h.nx, fun j M ob' hj hob => ?_, fun i j M M' a a' hi hj hoi hoj hbb => ?_, h.cls, h.fx⟩
  · rcases hpr hj with ⟨rfl, rfl⟩ | ⟨_, h'⟩
    · omega
    · exact h.old j M h' hjr
  · rcases hpr hj with ⟨rfl, rfl⟩ | ⟨_, h'⟩
    · exact hW
    · exact h.own j M h' hjr
  · rcases hpr hj with ⟨rfl, rfl⟩ | ⟨_, h'⟩
    · exact lt_of_block hb
    · exact h.lt j M h'
  · rcases hpr hj with ⟨rfl, rfl⟩ | ⟨_, h'⟩
    · exact hidn
    · exact h.next j M h'
  · rcases hpr hj with ⟨rfl, rfl⟩ | ⟨_, h'⟩
    · cases hid _ hob
      exact ⟨o, hb, ho.mono hle⟩
    · obtain ⟨x, h1, h2⟩ := h.obs j M ob' h' hob
      exact ⟨x, h1, h2.mono hle⟩
  · rcases hpr hi with ⟨rfl, rfl⟩ | ⟨_, hi'⟩
    · rcases hpr hj with ⟨rfl, rfl⟩ | ⟨_, hj'⟩
      · exact .inl rfl
      · cases hid _ hoi
        exact .inr (hm j M' a' hj' hoj hbb.symm).1
    · rcases hpr hj with ⟨rfl, rfl⟩ | ⟨_, hj'⟩
      · cases hid _ hoj
        exact .inr (hm i M a hi' hoi hbb).2
      · exact h.inj i j M M' a a' hi' hj' hoi hoj hbb
theorem load_block {b o k : Nat} {c : Array Value} {e : TypeId} {f : Nat × Nat} (hb : w.heap[b]? = some (.cells c e f)) (hk : o + k ≤ c.size) : (Go.loadCells (⟨b, o, none⟩ : Addr) k).run P w = .ok ((c.toList.drop o).take k).toArray w := by
  have hl : ((c.toList.drop o).take k).length = k := by simp; omega
  have := run_loads (P := P) (w := w) (b := b) (o := o) (vs := (c.toList.drop o).take k) (fun j v hv => by
    have hj : j < k := by have := (List.getElem?_eq_some_iff.1 hv).1; omega
    rw [List.getElem?_take_of_lt hj, List.getElem?_drop] at hv
    have hv' : c[o + j]? = some v := by simpa using hv
    simp [World.cell?, hb, hv'])
  rw [hl] at this
  exact this
theorem run_load0 {a : Addr} : (Go.loadCells a 0).run P w = .ok #[] w := rfl
theorem lenOf_run {x : AV} {v : Value} {n : Nat} (hv : VR ρ x v) (h : lenOfA x = some n) (w : World) : (Builtin.lenOf v).run P w = .ok n w := by
  unfold lenOfA at h
  split at h <;> first
    | (cases h; done)
    | (cases h; cases hv; rfl)
theorem loads_length {st : St} {id : Nat} : ∀ {n off : Nat} {l : List AV}, st.loads id n off = .ok l → l.length = n
  | 0, off, l, h => by cases h; rfl
  | n + 1, off, l, h => by
    obtain ⟨a, _, h⟩ := Rs.bind_ok h
    obtain ⟨r, hr, h⟩ := Rs.bind_ok h
    cases h
    simp [loads_length hr]
theorem firstCells_run (h : MR N ρ ro st W w) {size n : Nat} {x : AV} {v : Value} {l : List AV} {len : Nat} (hv : VR ρ x v) (hlen : lenOfA x = some len) (hn : n ≤ len) (hl : firstA st size n x = .ok l) :
    ∃ vs : List Value, (Builtin.firstCells size n v).run P w = .ok vs.toArray w ∧ VRs ρ l vs ∧ l.length = n * size := by
  unfold firstA at hl
  split at hl
  · rename_i id off ln cap
    cases hlen
    cases hv with | sl _ _ _ _ L c o hL hcap hle =>
    by_cases h0 : n * size = 0
    · have h0' : Nat.mul n size = 0 := h0
      rw [h0'] at hl
      cases hl
      exact ⟨[], by simp [Builtin.firstCells, h0, run_load0], .nil, by simp [h0]⟩
    · have hn0 : 0 < n := by
        rcases Nat.eq_zero_or_pos n with e | e
        · subst e; simp at h0
        · exact e
      have ho : o = L.base + off := by
        cases cap with
        | k m => exact hcap.2
        | g m => rcases hcap.2 with h1 | h1
                 · omega
                 · exact h1
      subst ho
      obtain ⟨vs, h1, h2, h3⟩ := h.loads hL hl
      refine ⟨vs, ?_, h1, loads_length hl⟩
      have := run_loads (P := P) h3
      rw [h2] at this
      exact this
  · split at hl
    · cases hl; cases hv
      exact ⟨[], rfl, .nil, by simp⟩
    · cases hl
  · rename_i s
    split at hl
    · rename_i hsz
      have hsz' := beq_true hsz
      subst hsz'
      cases hl; cases hv; cases hlen
      refine ⟨(s.take n).map fun b => .int .u8 b.toNat, ?_, ?_, by simp; omega⟩
      · have hx : ((⟨⟨s⟩⟩ : ByteArray).extract 0 n).data = ⟨s.take n⟩ := by
          simp [ByteArray.data_extract]
        simp only [Builtin.firstCells, Sem.run_pure]
        rw [hx]
        congr 1
        apply Array.ext'
        simp
      · clear hn
        generalize s.take n = u
        induction u with
        | nil => exact .nil
        | cons b r ih => exact .cons _ _ _ _ (.int _ _) ih
    · cases hl
  · cases hl
theorem oneAll_one {l : List AV} {vs : List Value} (h : VRs ρ l vs) (ho : AV.oneAll l = true) : ∀ v ∈ vs, oneV v = true := by
  intro v hvm
  obtain ⟨i, hi⟩ := List.getElem?_of_mem hvm
  have hlt : i < l.length := by have := (List.getElem?_eq_some_iff.1 hi).1; have := h.length; omega
  obtain ⟨v', hv', hR⟩ := h.get (i := i) (a := l[i]) (by simp [hlt])
  rw [hi] at hv'; cases hv'
  exact hR.one (List.all_eq_true.1 ho _ (List.getElem_mem hlt))
end
end Go.Proofs.YteegpmimbbgdlaaGreatDoor.Ab
