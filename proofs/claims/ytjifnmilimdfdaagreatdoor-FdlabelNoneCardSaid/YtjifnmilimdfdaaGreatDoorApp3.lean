import Derived.Test.YtjifnmilimdfdaaGreatDoorAlloc
/- 'append': there is room, or there is none. -/
set_option linter.unusedVariables false
set_option linter.unusedSimpArgs false
set_option linter.unnecessarySimpa false
namespace Go.Proofs.YtjifnmilimdfdaaGreatDoor.Ab
open Go Go.RowKit

section
variable {P : Program} {N : Nat → Prop} {ρ : Rho} {ro : Nat} {st : St} {W w : World}
/-- A new row in a class, not yet there in the world. -/
theorem MR.pendC (h : MR N ρ ro st W w) {cs : PT AV} {k e fz cl rel en : Nat} {ms : List Nat} (hcl : cl + 1 ≤ st.next + 1) (hend : rel + k ≤ en)
    (hold : ∀ j cs' n' e' fz' rel', st.heap.get j = some (.row cs' n' e' fz' (cl + 1) rel') → j ∈ ms ∧ rel' + n' ≤ en) :
    MR N ρ ro { st with heap := st.heap.set st.next (.row cs k e fz (cl + 1) rel), next := Nat.succ st.next, cls := st.cls.set (cl + 1) (en, st.next :: ms) } W w := by
  refine ⟨h.below, (fun i hi => ⟨(h.no i hi).1, Nat.lt_succ_of_lt (h.no i hi).2⟩), h.old, h.own, h.lt, fun id L hL => Nat.lt_succ_of_lt (h.next id L hL), Nat.le_succ_of_le h.ron, fun j o hj => ?_, fun j M o hj ho => ?_, fun i j M M' o o' hi hj hoi hoj hb => ?_, fun j cs1 n1 e1 fz1 cl1 rel1 hj => ?_, h.fx⟩
  · rcases PT.get_set hj with ⟨rfl, _⟩ | ⟨_, h'⟩
    · exact Nat.lt_succ_self _
    · exact Nat.lt_succ_of_lt (h.nx j o h')
  · rcases PT.get_set ho with ⟨rfl, _⟩ | ⟨_, h'⟩
    · exact absurd (h.next _ _ hj) (Nat.lt_irrefl _)
    · exact h.obs j M o hj h'
  · rcases PT.get_set hoi with ⟨rfl, _⟩ | ⟨_, h'⟩
    · exact absurd (h.next _ _ hi) (Nat.lt_irrefl _)
    · rcases PT.get_set hoj with ⟨rfl, _⟩ | ⟨_, h''⟩
      · exact absurd (h.next _ _ hj) (Nat.lt_irrefl _)
      · exact h.inj i j M M' o o' hi hj h' h'' hb
  · rcases PT.get_set hj with ⟨rfl, e2⟩ | ⟨_, h'⟩
    · cases e2
      refine ⟨hcl, fun m hm => ?_⟩
      rcases PT.get_set hm with ⟨_, rfl⟩ | ⟨hne, _⟩
      · exact ⟨by simp, hend⟩
      · exact absurd rfl hne
    · obtain ⟨a, b⟩ := h.cls j cs1 n1 e1 fz1 cl1 rel1 h'
      refine ⟨Nat.le_succ_of_le a, fun m hm => ?_⟩
      rcases PT.get_set hm with ⟨hc, rfl⟩ | ⟨_, hm'⟩
      · have hc' : cl1 = cl := by omega
        subst hc'
        obtain ⟨x, y⟩ := hold j cs1 n1 e1 fz1 rel1 h'
        exact ⟨by simp [x], y⟩
      · exact b m hm'
/-- Cells behind all that is known of a block are written. -/
theorem MR.beyond (h : MR N ρ ro st W w) {b : Nat} {c : Array Value} {e : TypeId} {f : Nat × Nat} (hb : w.heap[b]? = some (.cells c e f)) (hW : W.heap.size ≤ b) {q : Nat} {vs : List Value} (hq : q + vs.length ≤ c.size)
    (hk : ∀ j M ob, ρ j = some M → M.b = b → st.heap.get j = some ob → ∃ cs n e fz cl rel, ob = .row cs n e fz cl rel ∧ M.base + n ≤ q) :
    MR N ρ ro st W { w with heap := w.heap.setIfInBounds b (.cells (writeCells c q vs) e f) } := by
  have hlt := lt_of_block hb
  refine ⟨⟨h.below.os, h.below.tape, h.below.output, by simpa using h.below.size, fun k hk' => ?_⟩, h.no, h.old, h.own, by simpa using h.lt, h.next, h.ron, h.nx, fun j M ob hj hob => ?_, h.inj, h.cls, h.fx⟩
  · rw [← h.below.block k hk']
    exact Array.getElem?_setIfInBounds_ne (by omega)
  · obtain ⟨o, h1, h2⟩ := h.obs j M ob hj hob
    by_cases hbb : M.b = b
    · obtain ⟨cs, n, e', fz, cl, rel, rfl, hn⟩ := hk j M ob hj hbb hob
      rw [hbb, hb] at h1
      cases h1
      obtain ⟨c', lo, hi, he, hsz, h0, hcs, hf0, hf1⟩ := h2
      cases he
      refine ⟨.cells (writeCells c q vs) e (lo, hi), by simp [hbb, hlt], _, lo, hi, rfl, by rw [writeCells_size]; exact hsz, h0, fun i a hg => ?_, hf0, hf1⟩
      obtain ⟨h3, v, h4, h5⟩ := hcs i a hg
      refine ⟨h3, v, ?_, h5⟩
      rw [writeCells_get vs c q _ hq, if_neg (by omega)]
      exact h4
    · refine ⟨o, ?_, h2⟩
      rw [← h1]
      exact Array.getElem?_setIfInBounds_ne (fun e => hbb e.symm)
/-- A number that is not yet there is laid over a block that is. -/
theorem MR.alias (h : MR N ρ ro st W w) {id : Nat} {L : Loc} {ob : Ob} {o : Obj} (hid : ∀ ob', st.heap.get id = some ob' → ob' = ob) (hidn : id < st.next) (hρ : ρ id = none) (hN : ¬ N id) (hro : ro ≤ id) (hW : W.heap.size ≤ L.b)
    (hb : w.heap[L.b]? = some o) (ho : OR ρ L ob o) (hm : ∀ j M ob', ρ j = some M → st.heap.get j = some ob' → M.b = L.b → Mates L M ob ob' ∧ Mates M L ob' ob) : MR N (ρ.put id L) ro st W w := by
  have hle := Rho.put_le (L := L) hρ
  have hpr : ∀ {j M}, ρ.put id L j = some M → (j = id ∧ M = L) ∨ (j ≠ id ∧ ρ j = some M) := by
    intro j M hj
    rw [Rho.put_at] at hj
    split at hj
    · rename_i e; cases hj; exact .inl ⟨e, rfl⟩
    · rename_i e; exact .inr ⟨e, hj⟩
  refine ⟨h.below, (fun i hi => ⟨by rw [Rho.put_at, if_neg (fun (e : i = id) => hN (e ▸ hi))]; exact (h.no i hi).1, (h.no i hi).2⟩), fun j M hj hjr => ?_, fun j M hj hjr => ?_, fun j M hj => ?_, fun j M hj => ?_, h.ron, h.nx, fun j M ob' hj hob => ?_, fun i j M M' a a' hi hj hoi hoj hbb => ?_, h.cls, h.fx⟩
  · rcases hpr hj with ⟨rfl, rfl⟩ | ⟨_, h'⟩
    · omega
    · exact h.old j M h' hjr
  · rcases hpr hj with ⟨rfl, rfl⟩ | ⟨_, h'⟩
    · exact hW
    · exact h.own j M h' hjr
  · rcases hpr hj with ⟨rfl, rfl⟩ | ⟨_, h'⟩
    · exact lt_of_block hb
    · exact h.lt j M h'
  · rcases hpr hj with ⟨rfl, rfl⟩ | ⟨_, h'⟩
    · exact hidn
    · exact h.next j M h'
  · rcases hpr hj with ⟨rfl, rfl⟩ | ⟨_, h'⟩
    · cases hid _ hob
      exact ⟨o, hb, ho.mono hle⟩
    · obtain ⟨x, h1, h2⟩ := h.obs j M ob' h' hob
      exact ⟨x, h1, h2.mono hle⟩
  · rcases hpr hi with ⟨rfl, rfl⟩ | ⟨_, hi'⟩
    · rcases hpr hj with ⟨rfl, rfl⟩ | ⟨_, hj'⟩
      · exact .inl rfl
      · cases hid _ hoi
        exact .inr (hm j M' a' hj' hoj hbb.symm).1
    · rcases hpr hj with ⟨rfl, rfl⟩ | ⟨_, hj'⟩
      · cases hid _ hoj
        exact .inr (hm i M a hi' hoi hbb).2
      · exact h.inj i j M M' a a' hi' hj' hoi hoj hbb
theorem load_block {b o k : Nat} {c : Array Value} {e : TypeId} {f : Nat × Nat} (hb : w.heap[b]? = some (.cells c e f)) (hk : o + k ≤ c.size) : (Go.loadCells (⟨b, o, none⟩ : Addr) k).run P w = .ok ((c.toList.drop o).take k).toArray w := by
  have hl : ((c.toList.drop o).take k).length = k := by simp; omega
  have := run_loads (P := P) (w := w) (b := b) (o := o) (vs := (c.toList.drop o).take k) (fun j v hv => by
    have hj : j < k := by have := (List.getElem?_eq_some_iff.1 hv).1; omega
    rw [List.getElem?_take_of_lt hj, List.getElem?_drop] at hv
    have hv' : c[o + j]? = some v := by simpa using hv
    simp [World.cell?, hb, hv'])
  rw [hl] at this
  exact this
theorem run_load0 {a : Addr} : (Go.loadCells a 0).run P w = .ok #[] w := rfl
theorem lenOf_run {x : AV} {v : Value} {n : Nat} (hv : VR ρ x v) (h : lenOfA x = some n) (w : World) : (Builtin.lenOf v).run P w = .ok n w := by
  unfold lenOfA at h
  split at h <;> first
    | (cases h; done)
    | (cases h; cases hv; rfl)
theorem loads_length {st : St} {id : Nat} : ∀ {n off : Nat} {l : List AV}, st.loads id n off = .ok l → l.length = n
  | 0, off, l, h => by cases h; rfl
  | n + 1, off, l, h => by
    obtain ⟨a, _, h⟩ := Rs.bind_ok h
    obtain ⟨r, hr, h⟩ := Rs.bind_ok h
    cases h
    simp [loads_length hr]
theorem firstCells_run (h : MR N ρ ro st W w) {size n : Nat} {x : AV} {v : Value} {l : List AV} {len : Nat} (hv : VR ρ x v) (hlen : lenOfA x = some len) (hn : n ≤ len) (hl : firstA st size n x = .ok l) :
    ∃ vs : List Value, (Builtin.firstCells size n v).run P w = .ok vs.toArray w ∧ VRs ρ l vs ∧ l.length = n * size := by
  unfold firstA at hl
  split at hl
  · rename_i id off ln cap
    cases hlen
    cases hv with | sl _ _ _ _ L c o hL hcap hle =>
    by_cases h0 : n * size = 0
    · have h0' : Nat.mul n size = 0 := h0
      rw [h0'] at hl
      cases hl
      exact ⟨[], by simp [Builtin.firstCells, h0, run_load0], .nil, by simp [h0]⟩
    · have hn0 : 0 < n := by
        rcases Nat.eq_zero_or_pos n with e | e
        · subst e; simp at h0
        · exact e
      have ho : o = L.base + off := by
        cases cap with
        | k m => exact hcap.2
        | g m => rcases hcap.2 with h1 | h1
                 · omega
                 · exact h1
      subst ho
      obtain ⟨vs, h1, h2, h3⟩ := h.loads hL hl
      refine ⟨vs, ?_, h1, loads_length hl⟩
      have := run_loads (P := P) h3
      rw [h2] at this
      exact this
  · split at hl
    · cases hl; cases hv
      exact ⟨[], rfl, .nil, by simp⟩
    · cases hl
  · rename_i s
    split at hl
    · rename_i hsz
      have hsz' := beq_true hsz
      subst hsz'
      cases hl; cases hv; cases hlen
      refine ⟨(s.take n).map fun b => .int .u8 b.toNat, ?_, ?_, by simp; omega⟩
      · have hx : ((⟨⟨s⟩⟩ : ByteArray).extract 0 n).data = ⟨s.take n⟩ := by
          simp [ByteArray.data_extract]
        simp only [Builtin.firstCells, Sem.run_pure]
        rw [hx]
        congr 1
        apply Array.ext'
        simp
      · clear hn
        generalize s.take n = u
        induction u with
        | nil => exact .nil
        | cons b r ih => exact .cons _ _ _ _ (.int _ _) ih
    · cases hl
  · cases hl
theorem oneAll_one {l : List AV} {vs : List Value} (h : VRs ρ l vs) (ho : AV.oneAll l = true) : ∀ v ∈ vs, oneV v = true := by
  intro v hvm
  obtain ⟨i, hi⟩ := List.getElem?_of_mem hvm
  have hlt : i < l.length := by have := (List.getElem?_eq_some_iff.1 hi).1; have := h.length; omega
  obtain ⟨v', hv', hR⟩ := h.get (i := i) (a := l[i]) (by simp [hlt])
  rw [hi] at hv'; cases hv'
  exact hR.one (List.all_eq_true.1 ho _ (List.getElem_mem hlt))
end
end Go.Proofs.YtjifnmilimdfdaaGreatDoor.Ab
/- 'append' as the model makes it. -/
set_option linter.unusedVariables false
set_option linter.unusedSimpArgs false
set_option linter.unnecessarySimpa false
namespace Go.Proofs.YtjifnmilimdfdaaGreatDoor.Ab
open Go Go.RowKit

section
variable {P : Program} {N : Nat → Prop} {ρ : Rho} {ro : Nat} {st : St} {W w : World}
def zerosK (xt : Option TypeId) (K : Bool → Sem Value) : Sem Value :=
  match xt with
  | some xType => do
    let d ← underlying xType
    let zeros ← pure (match d with | .int _ => true | _ => false)
    K zeros
  | none => do
    let zeros ← pure false
    K zeros
theorem notInt_K {xt : Option TypeId} (h : notInt P xt = true) (w : World) (K : Bool → Sem Value) :
    (zerosK xt K).run P w = (K false).run P w := by
  unfold notInt at h
  unfold zerosK
  cases xt with
  | none => rfl
  | some u =>
    simp only at h ⊢
    split at h
    · cases h
    · rename_i d hn hu
      simp only [Sem.run_bind, run_underlying hu, Result.andThen_ok]
      cases d <;> first | rfl | exact absurd rfl (hn _)
    · cases h
structure AppIn (P : Program) (w : World) (ts : Array TypeId) (e size n : Nat) (xv : Value) : Prop where
  ty : ∃ t, ts[0]? = some t ∧ P.underlying t = some (.slice e)
  sz : tySize P e = some size
  int : notInt P ts[1]? = true
  len : (Builtin.lenOf xv).run P w = .ok n w
theorem append_room {ts : Array TypeId} {ty : TypeId} {e size n len c : Nat} {base : Option Addr} {xv : Value} {vs : List Value} {w' : World} (h : AppIn P w ts e size n xv) (hcells : (Builtin.firstCells size n xv).run P w = .ok vs.toArray w) (hroom : len + n ≤ c)
    (hst : ∀ a, base = some a → (storeCells (a.add (len * size)) vs).run P w = .ok () w') (hno : base = none → w' = w) :
    (Builtin.append_ ts ty #[.slice base len c, xv]).run P w = .ok (.slice base (len + n) c) w' := by
  obtain ⟨t, ht, hu⟩ := h.ty
  unfold Builtin.append_
  simp only [ht, List.getElem?_toArray, List.getElem?_cons_zero, List.getElem?_cons_succ, Sem.run_bind, run_underlying hu, Result.andThen_ok, run_size h.sz]
  refine (notInt_K h.int w _).trans ?_
  simp only [Bool.false_eq_true, if_false, Sem.run_bind, h.len, Result.andThen_ok, if_pos hroom, Bool.not_false, if_true, hcells]
  cases base with
  | none => cases hno rfl; rfl
  | some a =>
    have := hst a rfl
    simp [Sem.run_bind, this]
theorem growBy_le (n : Nat) : ∀ (r c : Nat), c ≤ n + (n + 768) / 4 → Builtin.growBy n r c ≤ n + (n + 768) / 4
  | 0, c, h => h
  | r + 1, c, h => by
    simp only [Builtin.growBy]
    split
    · exact h
    · rename_i hc
      exact growBy_le n r _ (by omega)
theorem nextcap_le {n c : Nat} (h : c < n) : Builtin.nextslicecap n c ≤ 2 * n + 192 := by
  unfold Builtin.nextslicecap
  split
  · omega
  · split
    · omega
    · have := growBy_le n 4 c (by omega)
      omega
theorem append_grow {ts : Array TypeId} {ty : TypeId} {e size n len c : Nat} {base : Option Addr} {xv : Value} {vs ov : List Value} {bytes : Nat} (h : AppIn P w ts e size n xv) (hroom : c < len + n)
    (hb : tyBytes P e = some bytes) (hb0 : 0 < bytes) (hb1 : bytes ≤ 100000) (hn : len + n ≤ 100000) (hz : zeroOk P e size = true) (hcells : (Builtin.firstCells size n xv).run P { w with drawn := w.drawn + 1 } = .ok vs.toArray { w with drawn := w.drawn + 1 })
    (hold : (Builtin.firstCells size len (.slice base len c)).run P { w with drawn := w.drawn + 1 } = .ok ov.toArray { w with drawn := w.drawn + 1 }) :
    ∃ newCap rest w', (Builtin.append_ ts ty #[.slice base len c, xv]).run P w = .ok (.slice (some ⟨w.heap.size, 0, none⟩) (len + n) newCap) w' ∧ w' = { w with drawn := w.drawn + 1, heap := w.heap.push (.cells (ov.toArray ++ vs.toArray ++ rest) e) } ∧ len + n ≤ newCap ∧ rest.size = (newCap - (len + n)) * size := by
  obtain ⟨t, ht, hu⟩ := h.ty
  have hinfo : ∃ i, P.info? e = some i ∧ i.bytes = bytes := by
    unfold tyBytes at hb
    split at hb
    · rename_i i hi; cases hb; exact ⟨i, hi, rfl⟩
    · cases hb
  obtain ⟨i, hi, hib⟩ := hinfo
  have hzero : ∃ zv : Value, zv.cells.size = size ∧ ∀ w', (zeroValue e).run P w' = .ok zv w' := by
    unfold zeroOk at hz
    split at hz
    · rename_i z hz1
      split at hz
      · rename_i l hl
        have hlen := beq_true hz
        obtain ⟨zv, h1, h2⟩ := run_zero (ρ := Rho.no) hz1 w
        have hc := (h2.cells hl).length
        refine ⟨zv, by simp at hc; omega, fun w' => ?_⟩
        obtain ⟨zv', h3, _⟩ := run_zero (ρ := Rho.no) hz1 w'
        have : zv' = zv := by
          unfold tyZero at hz1
          rw [hi] at hz1
          simp only at hz1
          split at hz1
          · rename_i v hv
            simp [zeroValue, typeInfo, hi, hv] at h1 h3
            rw [← h1, ← h3]
          · cases hz1
        rw [← this]; exact h3
      · cases hz
    · cases hz
  obtain ⟨zv, hzs, hzr⟩ := hzero
  have hmax : ¬ ((((len + n : Nat) : Int) > IntKind.i64.max) ∧ ((false = true) ∨ i.bytes = 0)) := by
    rintro ⟨h1, _⟩
    have : ((len + n : Nat) : Int) > 9223372036854775807 := h1
    omega
  have hnext : ¬ (Builtin.nextslicecap (len + n) c * i.bytes > 2 ^ 48) := by
    have h1 := nextcap_le hroom
    have h2 : Builtin.nextslicecap (len + n) c ≤ 200192 := by omega
    have h3 : Builtin.nextslicecap (len + n) c * i.bytes ≤ 200192 * 100000 := Nat.mul_le_mul h2 (by omega)
    omega
  have hnoroom : ¬ (len + n ≤ c) := by omega
  unfold Builtin.append_
  simp only [ht, List.getElem?_toArray, List.getElem?_cons_zero, List.getElem?_cons_succ, Sem.run_bind, run_underlying hu, Result.andThen_ok, run_size h.sz]
  have hmax' : ¬ ((((len + n : Nat) : Int) > IntKind.i64.max) ∧ ((false = true) ∨ bytes = 0)) := hib ▸ hmax
  have hnext' : ¬ (Builtin.nextslicecap (len + n) c * bytes > 2 ^ 48) := hib ▸ hnext
  have hty : ∀ w', (typeInfo e).run P w' = .ok i w' := fun w' => by simp [typeInfo, hi]
  obtain ⟨newCap, hcap, hge⟩ : ∃ newCap, (choose (.appendCap (len + n) c e)).run P w = .ok newCap { w with drawn := w.drawn + 1 } ∧ len + n ≤ newCap := by
    refine ⟨(Question.appendCap (len + n) c e).cut (w.tape w.drawn (.appendCap (len + n) c e)), ?_, ?_⟩
    · rw [run_choose]; rw [if_neg (by simp [Question.forced])]
    · simp [Question.cut]
  refine ⟨newCap, Builtin.zeroCells zv.cells (newCap - (len + n)), _, (notInt_K h.int w _).trans ?_, rfl, hge, by simp [Builtin.zeroCells, hzs]⟩
  simp only [Bool.false_eq_true, if_false, Sem.run_bind, h.len, Result.andThen_ok, if_neg hnoroom, Bool.not_false, if_true, hty, hib, if_neg hnext', false_or, hcap, run_askRoom]
  rw [if_neg (by rintro ⟨_, h2⟩; omega)]
  simp only [Sem.run_bind, hty, hib, if_neg hnext', hcap, run_askRoom, Result.andThen_ok, Sem.run_pure]
  rw [hold]
  simp only [Sem.run_bind, Result.andThen_ok]
  rw [hcells]
  simp only [Sem.run_bind, Result.andThen_ok]
  rw [hzr]
  simp only [Sem.run_bind, Result.andThen_ok, newRow, run_newObj, Sem.run_pure]
end
end Go.Proofs.YtjifnmilimdfdaaGreatDoor.Ab
/- 'append', all of it. -/
set_option linter.unusedVariables false
set_option linter.unusedSimpArgs false
set_option linter.unnecessarySimpa false
namespace Go.Proofs.YtjifnmilimdfdaaGreatDoor.Ab
open Go Go.RowKit

section
variable {P : Program} {N : Nat → Prop} {ρ : Rho} {ro : Nat} {st : St} {W w : World}
/-- A new row of a class, there in the world, a block of its own. -/
theorem MR.rowC (h : MR N ρ ro st W w) {cs : PT AV} {k e cl rel en : Nat} {ms : List Nat} (hcl : cl + 1 ≤ st.next + 1) (hend : rel + k ≤ en)
    (hold : ∀ j cs' n' e' fz' rel', st.heap.get j = some (.row cs' n' e' fz' (cl + 1) rel') → j ∈ ms ∧ rel' + n' ≤ en) {c : Array Value} (hcs : ∀ i a, cs.get i = some a → i < k ∧ ∃ v, c[i]? = some v ∧ VR ρ a v) (d : Nat) :
    ∃ ρ', ρ.le ρ' ∧ MR N ρ' ro { st with heap := st.heap.set st.next (.row cs k e 0 (cl + 1) rel), next := Nat.succ st.next, cls := st.cls.set (cl + 1) (en, st.next :: ms) } W { w with drawn := d, heap := w.heap.push (.cells c e) } ∧ ρ' st.next = some ⟨w.heap.size, c.size, 0⟩ := by
  have h1 := (h.pendC (cs := cs) (k := k) (e := e) (fz := 0) (cl := cl) (rel := rel) hcl hend hold).drawn d
  have hf := h.fresh
  refine ⟨ρ.put st.next ⟨w.heap.size, c.size, 0⟩, Rho.put_le hf, ?_, Rho.put_same⟩
  refine h1.real (id := st.next) (ob := .row cs k e 0 (cl + 1) rel) (fun ob' hob => ?_) (Nat.lt_succ_self _) hf h.freshN h.ron rfl ?_
  · rcases PT.get_set hob with ⟨_, r⟩ | ⟨n, _⟩
    · exact r
    · exact absurd rfl n
  · refine ⟨c, 0, 0, rfl, rfl, fun _ => rfl, fun i a hi => ?_, fun _ => ⟨rfl, rfl⟩, fun e => by cases e⟩
    obtain ⟨x, v, y, z⟩ := hcs i a hi
    exact ⟨x, v, by simpa using y, z.mono (Rho.put_le hf)⟩
theorem lay2 {ol new : List AV} {ov vs : List Value} (h1 : VRs ρ ol ov) (h2 : VRs ρ new vs) {rest : Array Value} {i : Nat} {a : AV} (h : (PT.lay new ol.length (PT.lay ol 0 .nil)).get i = some a) :
    i < ol.length + new.length ∧ ∃ v, (ov.toArray ++ vs.toArray ++ rest)[i]? = some v ∧ VR ρ a v := by
  have l1 := h1.length
  have l2 := h2.length
  rcases PT.get_lay h with ⟨x, y⟩ | ⟨x, y⟩
  · obtain ⟨v, hv, hr⟩ := h2.get y
    have hlt := (List.getElem?_eq_some_iff.1 hv).1
    refine ⟨by omega, v, ?_, hr⟩
    rw [Array.getElem?_append_left (by simp; omega), Array.getElem?_append_right (by simp; omega)]
    simpa [l1] using hv
  · rcases PT.get_lay y with ⟨x', y'⟩ | ⟨_, y'⟩
    · obtain ⟨v, hv, hr⟩ := h1.get y'
      have hlt := (List.getElem?_eq_some_iff.1 hv).1
      refine ⟨by omega, v, ?_, hr⟩
      rw [Array.getElem?_append_left (by simp; omega), Array.getElem?_append_left (by simp; omega)]
      simpa using hv
    · cases y'
theorem no_old_class (h : MR N ρ ro st W w) {j : Nat} {cs' : PT AV} {n' e' fz' rel' : Nat} (hj : st.heap.get j = some (.row cs' n' e' fz' (st.next + 1) rel')) : False := by
  have := (h.cls j cs' n' e' fz' st.next rel' hj).1
  omega
/-- A new row behind an append, of a class of its own. -/
theorem MR.grown (h : MR N ρ ro st W w) {ol new : List AV} {ov vs : List Value} (h1 : VRs ρ ol ov) (h2 : VRs ρ new vs) {k e size m newCap : Nat} {rest : Array Value} (hk : k = ol.length + new.length) (hm : m * size = k) (hc : m ≤ newCap) (hr : rest.size = (newCap - m) * size) (d : Nat) :
    ∃ ρ', ρ.le ρ' ∧ MR N ρ' ro (st.grown (PT.lay new ol.length (PT.lay ol 0 .nil)) k e size m).2 W { w with drawn := d, heap := w.heap.push (.cells (ov.toArray ++ vs.toArray ++ rest) e) } ∧
      VR ρ' (st.grown (PT.lay new ol.length (PT.lay ol 0 .nil)) k e size m).1 (.slice (some ⟨w.heap.size, 0, none⟩) m newCap) := by
  have l1 := h1.length
  have l2 := h2.length
  obtain ⟨ρ', a1, a2, a3⟩ := h.rowC (cs := PT.lay new ol.length (PT.lay ol 0 .nil)) (k := k) (e := e) (cl := st.next) (rel := 0) (en := k) (ms := []) (Nat.le_refl _) (by omega)
    (fun j cs' n' e' fz' rel' hj => (no_old_class h hj).elim) (c := ov.toArray ++ vs.toArray ++ rest) (fun i a hi => by rw [hk]; exact lay2 h1 h2 hi) d
  refine ⟨ρ', a1, a2, .sl _ _ _ _ _ _ _ a3 ⟨?_, .inr (by simp)⟩ hc⟩
  simp only [Array.size_append, List.size_toArray, l1, l2]
  rw [hr]
  have : newCap * size = m * size + (newCap - m) * size := by rw [← Nat.add_mul]; congr 1; omega
  omega
def AppOut (P : Program) (N : Nat → Prop) (ρ : Rho) (ro : Nat) (st' : St) (W w : World) (m : Sem Value) (r : AV) : Prop := ∃ ρ' w' v, m.run P w = .ok v w' ∧ ρ.le ρ' ∧ MR N ρ' ro st' W w' ∧ VR ρ' r v
theorem lay_new {X : PT AV} {new : List AV} {vs : List Value} {d k : Nat} {c : Array Value} {o : Nat} (h2 : VRs ρ new vs) (hk : k = d + new.length) (hX : ∀ i a, X.get i = some a → i < d ∧ ∃ v, c[o + i]? = some v ∧ VR ρ a v) {i : Nat} {a : AV} (h : (PT.lay new d X).get i = some a) :
    i < k ∧ ((d ≤ i ∧ ∃ v, vs[i - d]? = some v ∧ VR ρ a v) ∨ (i < d ∧ ∃ v, c[o + i]? = some v ∧ VR ρ a v)) := by
  have l2 := h2.length
  rcases PT.get_lay h with ⟨x, y⟩ | ⟨x, y⟩
  · obtain ⟨v, hv, hr⟩ := h2.get y
    have hlt := (List.getElem?_eq_some_iff.1 hv).1
    exact ⟨by omega, .inl ⟨x, v, hv, hr⟩⟩
  · obtain ⟨hi, v, hv, hr⟩ := hX i a y
    exact ⟨by omega, .inr ⟨hi, v, hv, hr⟩⟩
theorem append_open (h : MR N ρ ro st W w) {ts : Array TypeId} {ty : TypeId} {id off len c o n size e k cl rel bytes : Nat} {L : Loc} {cs X : PT AV} {new : List AV} {m : Nat × List Nat} {xv : Value} (hL : ρ id = some L) (hro : ro ≤ id)
    (hrow : st.heap.get id = some (.row cs k e 0 (cl + 1) rel)) (hcls : st.cls.get (cl + 1) = some m) (hp : m.1 ≤ rel + off + len * size)
    (hcap : CapR L off (.g size) c o) (hlc : len ≤ c) (hn0 : 0 < n) (hX : ∀ cc e', w.heap[L.b]? = some (.cells cc e' (0, 0)) → ∀ i a, X.get i = some a → i < len * size ∧ ∃ v, cc[L.base + off + i]? = some v ∧ VR ρ a v)
    (hin : ∀ d, AppIn P { w with drawn := d } ts e size n xv) (hnew : ∀ d, ∃ vs : List Value, (Builtin.firstCells size n xv).run P { w with drawn := d } = .ok vs.toArray { w with drawn := d } ∧ VRs ρ new vs) (hnl : new.length = n * size) (hone : AV.oneAll new = true)
    (hb : tyBytes P e = some bytes) (hb0 : 0 < bytes) (hb1 : bytes ≤ 100000) (hln : len + n ≤ 100000) (hz : zeroOk P e size = true) :
    AppOut P N ρ ro { st with heap := st.heap.set st.next (.row (PT.lay new (len * size) X) ((len + n) * size) e 0 (cl + 1) (rel + off)), next := Nat.succ st.next, cls := st.cls.set (cl + 1) (rel + off + len * size + n * size, st.next :: m.2) } W w
      (Builtin.append_ ts ty #[.slice (some ⟨L.b, o, none⟩) len c, xv]) (.sl st.next 0 (len + n) (.g size)) := by
  obtain ⟨cc, lo, hi, hblk, hsz, hbase, hcells, hf0, hf1⟩ := h.row hL hrow
  obtain ⟨rfl, rfl⟩ := hf0 rfl
  obtain ⟨hc1, hc2⟩ := hcap
  have hX' := hX cc e hblk
  have hsum : (len + n) * size = len * size + n * size := Nat.add_mul _ _ _
  have hin0 : AppIn P w ts e size n xv := hin w.drawn
  have hmul : len * size ≤ c * size := Nat.mul_le_mul_right _ hlc
  have hclass := (h.cls id cs k e 0 cl rel hrow)
  obtain ⟨hcn, hcm⟩ := hclass
  have hkm := (hcm m hcls).2
  have hold : ∀ j cs' n' e' fz' rel', st.heap.get j = some (.row cs' n' e' fz' (cl + 1) rel') → j ∈ m.2 ∧ rel' + n' ≤ rel + off + len * size + n * size := by
    intro j cs' n' e' fz' rel' hj
    obtain ⟨x, y⟩ := (h.cls j cs' n' e' fz' cl rel' hj).2 m hcls
    exact ⟨x, by omega⟩
  rcases Nat.lt_or_ge c (len + n) with hroom | hroom
  · -- there is none
    obtain ⟨vs, hv1, hv2⟩ := hnew (w.drawn + 1)
    have hov : ∃ ov : List Value, (Builtin.firstCells size len (.slice (some ⟨L.b, o, none⟩) len c)).run P { w with drawn := w.drawn + 1 } = .ok ov.toArray { w with drawn := w.drawn + 1 } ∧ ov.length = len * size ∧ ∀ i, i < len * size → ov[i]? = cc[L.base + off + i]? := by
      by_cases h0 : len * size = 0
      · refine ⟨[], ?_, by simp [h0], fun i hi => by omega⟩
        show (Go.loadCells (⟨L.b, o, none⟩ : Addr) (len * size)).run P _ = _
        rw [h0]; rfl
      · have hl0 : 0 < len := Nat.pos_of_ne_zero (fun e => h0 (by simp [e]))
        have ho : o = L.base + off := by rcases hc2 with h1 | h1; omega; exact h1
        subst ho
        refine ⟨(cc.toList.drop (L.base + off)).take (len * size), ?_, by simp; omega, fun i hi => ?_⟩
        · exact load_block (w := { w with drawn := w.drawn + 1 }) hblk (by omega)
        · rw [List.getElem?_take_of_lt hi, List.getElem?_drop]
          simp
    obtain ⟨ov, ho1, ho2, ho3⟩ := hov
    obtain ⟨newCap, rest, w', hr, rfl, hge, hrs⟩ := append_grow (ty := ty) hin0 hroom hb hb0 hb1 hln hz hv1 ho1
    have l2 := hv2.length
    obtain ⟨ρ', a1, a2, a3⟩ := h.rowC (cs := PT.lay new (len * size) X) (k := (len + n) * size) (e := e) (cl := cl) (rel := rel + off) (en := rel + off + len * size + n * size) (ms := m.2) (by omega) (by omega) hold (c := ov.toArray ++ vs.toArray ++ rest)
      (fun i a hi => by
        obtain ⟨x, y⟩ := lay_new (k := (len + n) * size) hv2 (by omega) hX' hi
        refine ⟨x, ?_⟩
        rcases y with ⟨y1, v, y2, y3⟩ | ⟨y1, v, y2, y3⟩
        · have hlt := (List.getElem?_eq_some_iff.1 y2).1
          refine ⟨v, ?_, y3⟩
          rw [Array.getElem?_append_left (by simp; omega), Array.getElem?_append_right (by simp; omega)]
          simpa [ho2] using y2
        · refine ⟨v, ?_, y3⟩
          rw [Array.getElem?_append_left (by simp; omega), Array.getElem?_append_left (by simp; omega)]
          simpa [ho3 i y1] using y2) (w.drawn + 1)
    refine ⟨ρ', _, _, hr, a1, a2, .sl _ _ _ _ _ _ _ a3 ⟨?_, .inr (by simp)⟩ hge⟩
    simp only [Array.size_append, List.size_toArray, l2, ho2, hnl]
    rw [hrs]
    have : newCap * size = (len + n) * size + (newCap - (len + n)) * size := by rw [← Nat.add_mul]; congr 1; omega
    omega
  · -- there is room
    have ho : o = L.base + off := by rcases hc2 with h1 | h1; omega; exact h1
    subst ho
    obtain ⟨vs, hv1, hv2⟩ := hnew w.drawn
    have l2 := hv2.length
    have hmul2 : (len + n) * size ≤ c * size := Nat.mul_le_mul_right _ hroom
    have hW := h.own id L hL hro
    have hfit : L.base + off + len * size + vs.length ≤ cc.size := by omega
    have hst := run_storeCells (P := P) (b := L.b) (e := e) vs (L.base + off + len * size) 0 cc w hblk (by omega) (oneAll_one hv2 hone)
    have hr := append_room (ty := ty) (base := some ⟨L.b, L.base + off, none⟩) hin0 hv1 hroom (w' := { w with heap := w.heap.setIfInBounds L.b (.cells (writeCells cc (L.base + off + len * size) vs) e (0, 0)) }) (fun a ha => by cases ha; rw [addr_add]; exact hst) (fun e => by cases e)
    have h1 := h.beyond hblk hW (q := L.base + off + len * size) (vs := vs) hfit (fun j M ob hj hM hob => by
      rcases h.inj j id M L ob _ hj hL hob hrow hM with rfl | hmt
      · rw [hrow] at hob; cases hob
        rw [hL] at hj; cases hj
        exact ⟨_, _, _, _, _, _, rfl, by omega⟩
      · obtain ⟨cs1, n1, e1, fz1, cl1, rel1, cs2, n2, e2, fz2, rel2, rfl, he, hb1, hb2⟩ := hmt
        cases he
        obtain ⟨x, y⟩ := (h.cls j cs1 n1 e1 fz1 cl rel1 hob).2 m hcls
        exact ⟨_, _, _, _, _, _, rfl, by omega⟩)
    have h2 := h1.pendC (cs := PT.lay new (len * size) X) (k := (len + n) * size) (e := e) (fz := 0) (cl := cl) (rel := rel + off) (en := rel + off + len * size + n * size) (ms := m.2) (by omega) (by omega) hold
    have hf := h.fresh
    have hblk' : ({ w with heap := w.heap.setIfInBounds L.b (.cells (writeCells cc (L.base + off + len * size) vs) e (0, 0)) } : World).heap[L.b]? = some (.cells (writeCells cc (L.base + off + len * size) vs) e (0, 0)) := by
      have := lt_of_block hblk
      simp [this]
    have hOR : OR ρ ⟨L.b, L.n, L.base + off⟩ (.row (PT.lay new (len * size) X) ((len + n) * size) e 0 (cl + 1) (rel + off)) (.cells (writeCells cc (L.base + off + len * size) vs) e (0, 0)) := by
      refine ⟨writeCells cc (L.base + off + len * size) vs, 0, 0, rfl, by rw [writeCells_size]; exact hsz, (fun e => by cases e), fun i a hi => ?_, fun _ => ⟨rfl, rfl⟩, fun e => by cases e⟩
      obtain ⟨x, y⟩ := lay_new (k := (len + n) * size) hv2 (by omega) hX' hi
      refine ⟨x, ?_⟩
      show ∃ v, (writeCells cc (L.base + off + len * size) vs)[L.base + off + i]? = some v ∧ _
      rw [writeCells_get vs cc _ _ hfit]
      rcases y with ⟨y1, v, y2, y3⟩ | ⟨y1, v, y2, y3⟩
      · have hlt := (List.getElem?_eq_some_iff.1 y2).1
        refine ⟨v, ?_, y3⟩
        rw [if_pos (by omega), show L.base + off + i - (L.base + off + len * size) = i - len * size from by omega]
        exact y2
      · refine ⟨v, ?_, y3⟩
        rw [if_neg (by omega)]
        exact y2
    have hget : ∀ {j ob}, ρ j ≠ none → (st.heap.set st.next (.row (PT.lay new (len * size) X) ((len + n) * size) e 0 (cl + 1) (rel + off))).get j = some ob → st.heap.get j = some ob := by
      intro j ob hj hg
      rcases PT.get_set hg with ⟨rfl, _⟩ | ⟨_, r⟩
      · exact absurd hf hj
      · exact r
    have h3 := h2.alias (id := st.next) (L := ⟨L.b, L.n, L.base + off⟩) (ob := .row (PT.lay new (len * size) X) ((len + n) * size) e 0 (cl + 1) (rel + off)) (fun ob' hob => by
        rcases PT.get_set hob with ⟨_, r⟩ | ⟨n, _⟩
        · exact r
        · exact absurd rfl n) (Nat.lt_succ_self _) hf h.freshN h.ron hW hblk' hOR (fun j M ob' hj hob hM => by
        have hob' := hget (by rw [hj]; simp) hob
        rcases h.inj j id M L ob' _ hj hL hob' hrow hM with rfl | hmt
        · rw [hrow] at hob'; cases hob'
          rw [hL] at hj; cases hj
          exact ⟨⟨_, _, _, _, _, _, _, _, _, _, _, rfl, rfl, by simp; omega, rfl⟩, ⟨_, _, _, _, _, _, _, _, _, _, _, rfl, rfl, by simp; omega, rfl⟩⟩
        · obtain ⟨cs1, n1, e1, fz1, cl1, rel1, cs2, n2, e2, fz2, rel2, rfl, he, hb1, hb2⟩ := hmt
          cases he
          exact ⟨⟨_, _, _, _, _, _, _, _, _, _, _, rfl, rfl, by simp; omega, hb2.symm⟩, ⟨_, _, _, _, _, _, _, _, _, _, _, rfl, rfl, by simp; omega, hb2⟩⟩)
    refine ⟨_, _, _, hr, Rho.put_le hf, h3, .sl _ _ _ _ ⟨L.b, L.n, L.base + off⟩ _ _ Rho.put_same ⟨?_, .inr (by simp)⟩ hroom⟩
    exact hc1
theorem lenOf_other {P : Program} {xv : Value} {n : Nat} {w : World} (h : (Builtin.lenOf xv).run P w = .ok n w) (w' : World) : (Builtin.lenOf xv).run P w' = .ok n w' := by
  unfold Builtin.lenOf at h ⊢
  split at h <;> simp_all
theorem putCells_last : ∀ {l : List AV} {off : Nat} {cs cs' : PT AV}, putCells l off cs = .ok cs' → l ≠ [] → ∃ a, cs.get (off + l.length - 1) = some a
  | [], _, _, _, _, h => absurd rfl h
  | v :: r, off, cs, cs', h, _ => by
    simp only [putCells] at h
    split at h
    · rename_i x hone hg
      cases r with
      | nil => exact ⟨x, by simpa using hg⟩
      | cons v2 r =>
        obtain ⟨a, ha⟩ := putCells_last h (by simp)
        have e : off.succ + (v2 :: r).length - 1 = off + (v :: v2 :: r).length - 1 := by simp; omega
        rw [e] at ha
        rcases PT.get_set ha with ⟨h1, _⟩ | ⟨_, h1⟩
        · simp at h1
        · exact ⟨a, h1⟩
    · cases h
theorem inPlace_spec (h : MR N ρ ro st W w) {id off len size sz : Nat} {L : Loc} {new : List AV} {st' : St} (hL : ρ id = some L) (hi : inPlace ro st id off len size sz new = some st') :
    sz = size ∧ st.stores ro id (Nat.add off (Nat.mul len size)) new = .ok st' ∧ L.base + off + len * size + new.length ≤ L.n := by
  unfold inPlace at hi
  split at hi
  case h_2 => cases hi
  rename_i x r hsz
  split at hi
  case h_2 => cases hi
  rename_i st1 hst
  cases hi
  refine ⟨beq_true hsz, hst, ?_⟩
  unfold St.stores at hst
  simp only at hst
  split at hst
  case h_2 => cases hst
  rename_i cs n e fz cl rel hrow
  split at hst
  case h_2 => cases hst
  obtain ⟨cs', hp, _⟩ := Rs.bind_ok hst
  obtain ⟨a, ha⟩ := putCells_last hp (by simp)
  obtain ⟨c, lo, hi, hb, hcn, _, hcells, _⟩ := h.row hL hrow
  obtain ⟨_, v, hv, _⟩ := hcells _ _ ha
  have hlt := (Array.getElem?_eq_some_iff.1 hv).1
  have e1 : Nat.add off (Nat.mul len size) = off + len * size := rfl
  rw [e1] at hlt
  simp only [List.length_cons] at hlt ⊢
  omega
theorem appendA_run (h : MR N ρ ro st W w) {ts : Array TypeId} {ty t : TypeId} {s x r : AV} {sv xv : Value} {st' : St} (ht : ts[0]? = some t) (hs : VR ρ s sv) (hx : VR ρ x xv) (hr : appendA P ro st t ts[1]? s x = .ok (r, st')) :
    AppOut P N ρ ro st' W w (Builtin.append_ ts ty #[sv, xv]) r := by
  unfold appendA at hr
  split at hr
  · cases hr
  rename_i e size hel
  obtain ⟨hu, hsz⟩ := elemOf_spec hel
  split at hr
  case h_2 => cases hr
  rename_i bytes n hni hbytes hlen
  split at hr
  case h_2 => cases hr
  rename_i hz hb1
  simp only [Bool.and_eq_true] at hz
  obtain ⟨hb0, hz⟩ := hz
  have hb0 : 0 < bytes := blt_true hb0
  have hb1 : bytes ≤ 100000 := ble_true hb1
  obtain ⟨new, hnew, hr2⟩ := Rs.bind_ok hr
  clear hr
  have hr := hr2
  clear hr2
  split at hr
  · cases hr
  rename_i hone
  have hin : ∀ d, AppIn P { w with drawn := d } ts e size n xv := fun d => ⟨⟨t, ht, hu⟩, hsz, hni, lenOf_run hx hlen _⟩
  have hin0 : AppIn P w ts e size n xv := hin w.drawn
  have hfirst : ∀ d, ∃ vs : List Value, (Builtin.firstCells size n xv).run P { w with drawn := d } = .ok vs.toArray { w with drawn := d } ∧ VRs ρ new vs ∧ new.length = n * size := fun d => firstCells_run (h.drawn d) hx hlen (Nat.le_refl _) hnew
  obtain ⟨vs0, hv0, hV0, hnl⟩ := hfirst w.drawn
  split at hr
  · -- onto nil
    cases hs
    split at hr
    · cases hr
      have : vs0 = [] := by have := hV0.length; simp at hnl; simpa [hnl] using this
      subst this
      exact ⟨ρ, w, _, append_room hin0 hv0 (by simp) (fun a ha => by cases ha) (fun _ => rfl), Rho.le_refl _, h, .nilsl⟩
    · rename_i hn
      split at hr
      · rename_i hn1
        have hn1 := ble_true hn1
        simp only [Rs.ok.injEq] at hr
        obtain ⟨vs, hv1, hv2, _⟩ := hfirst (w.drawn + 1)
        have hn0 : 0 < n := Nat.pos_of_ne_zero hn
        obtain ⟨newCap, rest, w', hrun, rfl, hge, hrs⟩ := append_grow (ty := ty) (base := none) (len := 0) (c := 0) hin0 (by omega) hbytes hb0 hb1 (by omega) hz hv1 (ov := []) rfl
        obtain ⟨ρ', a1, a2, a3⟩ := h.grown (.nil : VRs ρ [] []) hv2 (k := n * size) (e := e) (size := size) (m := n) (newCap := newCap) (rest := rest) (by simpa using hnl.symm) rfl (by omega) (by simpa using hrs) (w.drawn + 1)
        have e1 : (st.grown (PT.lay new 0 .nil) (Nat.mul n size) e size n) = (r, st') := hr
        have e2 : r = _ := (congrArg Prod.fst e1).symm
        have e3 : st' = _ := (congrArg Prod.snd e1).symm
        rw [e2, e3]
        rw [Nat.zero_add] at hrun
        exact ⟨ρ', _, _, hrun, a1, a2, a3⟩
      · cases hr
  · -- onto a slice
    rename_i id off len cap
    cases hs with | sl _ _ _ _ L c o hL hcap hlc =>
    split at hr
    · cases hr
    · rename_i hln
      cases hr
      have : vs0 = [] := by have := hV0.length; simp at hnl; simpa [hnl] using this
      subst this
      exact ⟨ρ, w, _, append_room hin0 hv0 (by simpa using hlc) (fun a ha => rfl) (fun e => by cases e), Rho.le_refl _, h, .sl _ _ _ _ _ _ _ hL hcap (by simpa using hlc)⟩
    · rename_i n _ _ hn hln
      have hln : len + n ≤ 100000 := ble_true hln
      have hn0 : 0 < n := Nat.pos_of_ne_zero (fun e => hn (by simpa using e))
      split at hr
      · rename_i cc
        obtain ⟨rfl, rfl⟩ := hcap
        split at hr
        · rename_i hroom
          have hroom : len + n ≤ c := ble_true hroom
          obtain ⟨st1, hst, hr⟩ := Rs.bind_ok hr
          cases hr
          obtain ⟨w', hw, hM, _⟩ := h.stores (P := P) hL hst hV0
          refine ⟨ρ, w', _, append_room hin0 hv0 hroom (fun a ha => ?_) (fun e => by cases e), Rho.le_refl _, hM, .sl _ _ _ _ L _ _ hL ⟨rfl, rfl⟩ hroom⟩
          cases ha
          rw [addr_add]
          have : L.base + off + len * size = L.base + Nat.add off (Nat.mul len size) := Nat.add_assoc _ _ _
          rw [this]
          exact hw
        · rename_i hroom
          have hroom : ¬ (len + n ≤ c) := fun hh => by
            have := Nat.ble_eq_true_of_le hh
            exact Bool.noConfusion (this.symm.trans hroom)
          obtain ⟨old, ho, hr2⟩ := Rs.bind_ok hr
          clear hr
          have hr := hr2
          clear hr2
          obtain ⟨vs, hv1, hv2, _⟩ := hfirst (w.drawn + 1)
          obtain ⟨ov, ho1, ho2, ho3⟩ := firstCells_run (h.drawn (w.drawn + 1)) (P := P) (.sl id off len (.k c) L c _ hL ⟨rfl, rfl⟩ hlc) rfl (Nat.le_refl _) ho
          obtain ⟨newCap, rest, w', hrun, rfl, hge, hrs⟩ := append_grow (ty := ty) hin0 (by omega) hbytes hb0 hb1 hln hz hv1 ho1
          obtain ⟨ρ', a1, a2, a3⟩ := h.grown ho2 hv2 (k := (len + n) * size) (e := e) (size := size) (m := len + n) (newCap := newCap) (rest := rest) (by rw [ho3, hnl, Nat.add_mul]) rfl hge hrs (w.drawn + 1)
          simp only [Rs.ok.injEq] at hr
          have e1 : (st.grown (PT.lay new (Nat.mul len size) (PT.lay old 0 .nil)) (Nat.mul (Nat.add len n) size) e size (Nat.add len n)) = (r, st') := hr
          have e0 : Nat.mul len size = old.length := ho3.symm
          rw [e0] at e1
          have e2 : r = _ := (congrArg Prod.fst e1).symm
          have e3 : st' = _ := (congrArg Prod.snd e1).symm
          rw [e2, e3]
          exact ⟨ρ', _, _, hrun, a1, a2, a3⟩
      · rename_i sz
        split at hr
        · rename_i st1 hip
          cases hr
          obtain ⟨hsz', hst, hroomN⟩ := inPlace_spec h hL hip
          subst hsz'
          obtain ⟨hc1, hc2⟩ := hcap
          have hroom : len + n ≤ c := by
            have h1 : (len + n) * sz ≤ c * sz := by
              rw [Nat.add_mul]
              have : new.length = n * sz := hnl
              omega
            have hsz0 : 0 < sz := by
              rcases Nat.eq_zero_or_pos sz with h0 | h0
              · rw [h0] at hnl
                unfold inPlace at hip
                split at hip
                · rename_i hnn
                  simp at hnl
                · cases hip
              · exact h0
            exact Nat.le_of_mul_le_mul_right h1 hsz0
          obtain ⟨w', hw, hM, _⟩ := h.stores (P := P) hL hst hV0
          have ho : o = L.base + off := by
            rcases hc2 with h0 | h0
            · omega
            · exact h0
          subst ho
          refine ⟨ρ, w', _, append_room hin0 hv0 hroom (fun a ha => ?_) (fun e => by cases e), Rho.le_refl _, hM, .sl _ _ _ _ L _ _ hL ⟨hc1, .inr rfl⟩ hroom⟩
          cases ha
          rw [addr_add]
          have : L.base + off + len * sz = L.base + Nat.add off (Nat.mul len sz) := Nat.add_assoc _ _ _
          rw [this]
          exact hw
        split at hr
        case h_2 => cases hr
        rename_i cs k e' cl rel hsz' hro hrow
        have hro : ro ≤ id := blt_false hro
        have hsz' := beq_true hsz'
        subst hsz'
        split at hr
        case h_2 => cases hr
        rename_i cl m hee hcls
        have hee := beq_true hee
        subst hee
        dsimp only at hr
        split at hr
        case h_2 => cases hr
        rename_i hp hk
        have hp : m.1 ≤ rel + off + len * sz := ble_true hp
        have hk : rel + k ≤ m.1 := ble_true hk
        have hfirst' : ∀ d, ∃ vs : List Value, (Builtin.firstCells sz n xv).run P { w with drawn := d } = .ok vs.toArray { w with drawn := d } ∧ VRs ρ new vs := fun d => let ⟨a, b, c, _⟩ := hfirst d; ⟨a, b, c⟩
        split at hr
        · cases hr
          refine append_open h hL hro hrow hcls hp hcap hlc hn0 (fun cc e' hblk i a hi => ?_) hin hfirst' hnl hone hbytes hb0 hb1 hln hz
          obtain ⟨cc', lo, hi', hblk', _, _, hcells, _⟩ := h.row hL hrow
          rw [hblk'] at hblk; cases hblk
          obtain ⟨x, v, y, z⟩ := hcells i a hi
          exact ⟨by omega, v, by simpa using y, z⟩
        · obtain ⟨old, ho, hr⟩ := Rs.bind_ok hr
          cases hr
          refine append_open h hL hro hrow hcls hp hcap hlc hn0 (fun cc e' hblk i a hi => ?_) hin hfirst' hnl hone hbytes hb0 hb1 hln hz
          rcases PT.get_lay hi with ⟨_, y⟩ | ⟨_, y⟩
          · obtain ⟨ov, h1, h2, h3⟩ := h.loads hL ho
            obtain ⟨v, hv, hR⟩ := h1.get y
            have hlt := (List.getElem?_eq_some_iff.1 y).1
            have hol := loads_length ho
            have := h3 _ _ hv
            refine ⟨by simp only [Nat.sub_zero] at hlt; rw [hol] at hlt; exact hlt, v, ?_, hR⟩
            simpa [World.cell?, hblk] using this
          · cases y
      
  · cases hr
end
end Go.Proofs.YtjifnmilimdfdaaGreatDoor.Ab
