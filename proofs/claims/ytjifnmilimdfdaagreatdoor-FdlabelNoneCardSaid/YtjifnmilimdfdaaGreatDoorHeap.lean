/- Worlds that a state of Abs stands for: reading them, writing them, making blocks. -/
import Derived.Test.YtjifnmilimdfdaaGreatDoorRel
set_option linter.unusedVariables false
set_option linter.unusedSimpArgs false
set_option linter.unnecessarySimpa false
namespace Go.Proofs.YtjifnmilimdfdaaGreatDoor.Ab
open Go Go.RowKit

def ERs (ρ : Rho) (es : List (AV × AV)) (m : List MapEntry) : Prop := VRs ρ (es.map (·.1)) (m.map (·.key)) ∧ VRs ρ (es.map (·.2)) (m.map (·.val))
def OR (ρ : Rho) (L : Loc) (ob : Ob) (o : Obj) : Prop := match ob with
  | .row cs n e fz cl _ => ∃ c lo hi, o = .cells c e (lo, hi) ∧ c.size = L.n ∧ (cl = 0 → L.base = 0) ∧ (∀ i a, cs.get i = some a → i < n ∧ ∃ v, c[L.base + i]? = some v ∧ VR ρ a v) ∧ (fz = 0 → lo = 0 ∧ hi = 0) ∧ (fz = 1 → L.n ≤ lo)
  | .map pr es => ∃ es' clock, o = .map es' clock ∧ ERs ρ es es'.toList ∧ L.base = 0 ∧ (pr = true → clock = es'.size ∧ ∀ (i : Nat) e, es'[i]? = some e → e.born = i)
  | .iter s pos => o = .stringIter ⟨⟨s⟩⟩ pos ∧ L.base = 0
  | .mset es => ∃ es' clock l, o = .map es' clock ∧ l.Perm es ∧ ERs ρ l es'.toList ∧ L.base = 0 ∧ clock = es'.size ∧ ∀ (i : Nat) e, es'[i]? = some e → e.born = i
  | .miter m s seen => ∃ M, ρ m = some M ∧ o = .mapIter (some M.b) s seen.toArray s ∧ L.base = 0
def Mates (L M : Loc) (ob ob' : Ob) : Prop := ∃ cs n e fz cl rel cs' n' e' fz' rel', ob = .row cs n e fz (cl + 1) rel ∧ ob' = .row cs' n' e' fz' (cl + 1) rel' ∧ L.base + rel' = M.base + rel ∧ L.n = M.n
theorem ERs.mono {ρ ρ' : Rho} (hle : ρ.le ρ') {es : List (AV × AV)} {m : List MapEntry} (h : ERs ρ es m) : ERs ρ' es m := ⟨h.1.mono hle, h.2.mono hle⟩
theorem OR.mono {ρ ρ' : Rho} (hle : ρ.le ρ') {L : Loc} {ob : Ob} {o : Obj} (h : OR ρ L ob o) : OR ρ' L ob o := by
  cases ob with
  | row cs n e fz cl rel =>
    obtain ⟨c, lo, hi, h1, h2, h3, h4, h5, h6⟩ := h
    exact ⟨c, lo, hi, h1, h2, h3, fun i a hi => let ⟨x, v, y, z⟩ := h4 i a hi; ⟨x, v, y, z.mono hle⟩, h5, h6⟩
  | map pr es => obtain ⟨es', k, h1, h2, h3⟩ := h; exact ⟨es', k, h1, h2.mono hle, h3⟩
  | iter s pos => exact h
  | mset es => obtain ⟨es', k, l, h1, h2, h3, h4⟩ := h; exact ⟨es', k, l, h1, h2, h3.mono hle, h4⟩
  | miter m s seen => obtain ⟨M, h1, h2⟩ := h; exact ⟨M, hle.1 _ _ h1, h2⟩

/-- W: as it was when the call began. -/
structure MR (N : Nat → Prop) (ρ : Rho) (ro : Nat) (st : St) (W w : World) : Prop where
  below : Below W.heap.size W w
  no : ∀ id, N id → ρ id = none ∧ id < st.next
  old : ∀ id L, ρ id = some L → id < ro → L.b < W.heap.size
  own : ∀ id L, ρ id = some L → ro ≤ id → W.heap.size ≤ L.b
  lt : ∀ id L, ρ id = some L → L.b < w.heap.size
  next : ∀ id L, ρ id = some L → id < st.next
  ron : ro ≤ st.next
  nx : ∀ id ob, st.heap.get id = some ob → id < st.next
  obs : ∀ id L ob, ρ id = some L → st.heap.get id = some ob → ∃ o, w.heap[L.b]? = some o ∧ OR ρ L ob o
  inj : ∀ i j L M ob ob', ρ i = some L → ρ j = some M → st.heap.get i = some ob → st.heap.get j = some ob' → L.b = M.b → i = j ∨ Mates L M ob ob'
  cls : ∀ id cs n e fz cl rel, st.heap.get id = some (.row cs n e fz (cl + 1) rel) → cl + 1 ≤ st.next ∧ ∀ m, st.cls.get (cl + 1) = some m → id ∈ m.2 ∧ rel + n ≤ m.1
  fx : ∀ p ∈ st.facts, (p.1.den ρ.sg).bool = p.2

section
variable {P : Program} {N : Nat → Prop} {ρ : Rho} {ro : Nat} {st : St} {W w : World}
theorem addr_add (b o j : Nat) : (⟨b, o, none⟩ : Addr).add j = ⟨b, o + j, none⟩ := by
  unfold Addr.add
  split
  · rename_i h; subst h; rfl
  · rfl
theorem MR.row (h : MR N ρ ro st W w) {id : Nat} {L : Loc} (hL : ρ id = some L) {cs : PT AV} {n e fz cl rel : Nat} (hr : st.heap.get id = some (.row cs n e fz cl rel)) :
    ∃ c lo hi, w.heap[L.b]? = some (.cells c e (lo, hi)) ∧ c.size = L.n ∧ (cl = 0 → L.base = 0) ∧ (∀ i a, cs.get i = some a → i < n ∧ ∃ v, c[L.base + i]? = some v ∧ VR ρ a v) ∧ (fz = 0 → lo = 0 ∧ hi = 0) ∧ (fz = 1 → L.n ≤ lo) := by
  obtain ⟨o, ho, c, lo, hi, rfl, h2⟩ := h.obs id L _ hL hr
  exact ⟨c, lo, hi, ho, h2⟩
theorem MR.cell (h : MR N ρ ro st W w) {id off : Nat} {L : Loc} (hL : ρ id = some L) {a : AV} (hc : st.cell id off = .ok a) :
    ∃ v, w.cell? ⟨L.b, L.base + off, none⟩ = some v ∧ VR ρ a v := by
  unfold St.cell at hc
  split at hc
  · rename_i cs n e fz cl rel hr
    obtain ⟨c, lo, hi, hb, _, _, hcs, _⟩ := h.row hL hr
    cases hg : cs.get off with
    | none => rw [hg] at hc; cases hc
    | some x =>
      rw [hg] at hc; cases hc
      obtain ⟨_, v, hv, hR⟩ := hcs off a hg
      exact ⟨v, by simp [World.cell?, hb, hv], hR⟩
  · cases hc
theorem Rs.bind_ok {α β : Type} {x : Rs α} {f : α → Rs β} {b : β} (h : x.bind f = .ok b) : ∃ a, x = .ok a ∧ f a = .ok b := by
  cases x with
  | ok a => exact ⟨a, rfl, h⟩
  | bad w => cases h
theorem Rs.of_ok {α : Type} {why : String} {x : Option α} {a : α} (h : Rs.of why x = .ok a) : x = some a := by
  cases x with
  | none => cases h
  | some b => cases h; rfl
theorem MR.loads (h : MR N ρ ro st W w) {id : Nat} {L : Loc} (hL : ρ id = some L) : ∀ {n off : Nat} {l : List AV}, st.loads id n off = .ok l →
    ∃ vs : List Value, VRs ρ l vs ∧ vs.length = n ∧ ∀ (j : Nat) v, vs[j]? = some v → w.cell? ⟨L.b, L.base + off + j, none⟩ = some v := by
  intro n
  induction n with
  | zero => intro off l hl; cases hl; exact ⟨[], .nil, rfl, by simp⟩
  | succ n ih =>
    intro off l hl
    obtain ⟨a, ha, hl⟩ := Rs.bind_ok hl
    obtain ⟨r, hr, hl⟩ := Rs.bind_ok hl
    cases hl
    obtain ⟨v, hv, hR⟩ := h.cell hL ha
    obtain ⟨vs, h1, h2, h3⟩ := ih hr
    refine ⟨v :: vs, .cons _ _ _ _ hR h1, by simp [h2], fun j u hu => ?_⟩
    cases j with
    | zero => simp only [List.getElem?_cons_zero, Option.some.injEq] at hu; subst hu; exact hv
    | succ j =>
      have := h3 j u (by simpa using hu)
      rw [show L.base + off + (j + 1) = L.base + off.succ + j from by omega]
      exact this
theorem run_size {t n : Nat} (h : tySize P t = some n) (w : World) : (sizeOf t).run P w = .ok n w := by
  unfold tySize at h
  split at h
  · rename_i i hi; cases h
    simp [sizeOf, typeInfo, hi]
  · cases h
theorem run_isAgg {t : Nat} {b : Bool} (h : tyAgg P t = some b) (w : World) : (isAgg t).run P w = .ok b w := by
  unfold tyAgg at h
  split at h <;> (try cases h) <;> rename_i hu
  · simp [isAgg, run_underlying hu]
  · simp [isAgg, run_underlying hu]
  · simp only [isAgg, Sem.run_bind, run_underlying hu, Result.andThen_ok]
    rfl
theorem run_loads {b o : Nat} {vs : List Value} (h : ∀ (j : Nat) v, vs[j]? = some v → w.cell? ⟨b, o + j, none⟩ = some v) : (Go.loadCells (⟨b, o, none⟩ : Addr) vs.length).run P w = .ok vs.toArray w := by
  refine run_loadCells_list w (⟨b, o, none⟩ : Addr) vs fun j v hv => ?_
  rw [addr_add]; exact h j v hv
theorem lt_of_block {w : World} {b : Nat} {o : Obj} (hb : w.heap[b]? = some o) : b < w.heap.size := by
  rcases Nat.lt_or_ge b w.heap.size with h | h
  · exact h
  · rw [Array.getElem?_eq_none h] at hb; cases hb
theorem MR.loadVar (h : MR N ρ ro st W w) {t id off : Nat} {L : Loc} (hL : ρ id = some L) {a : AV} (ha : loadVar P st t id off = .ok a) :
    ∃ v, (Go.loadVar t ⟨L.b, L.base + off, none⟩).run P w = .ok v w ∧ VR ρ a v := by
  unfold Ab.loadVar at ha
  split at ha
  · rename_i hagg
    split at ha
    · rename_i n hn
      obtain ⟨l, hl, ha⟩ := Rs.bind_ok ha
      cases ha
      obtain ⟨vs, h1, h2, h3⟩ := h.loads hL hl
      refine ⟨.agg vs.toArray, ?_, .agg _ _ (by simpa using h1)⟩
      have := run_loads (P := P) h3
      rw [h2] at this
      simp [Go.loadVar, run_isAgg hagg, run_size hn, this]
    · cases ha
  · rename_i hagg
    obtain ⟨v, hv, hR⟩ := h.cell hL ha
    refine ⟨v, ?_, hR⟩
    simp [Go.loadVar, run_isAgg hagg, hv]
  · cases ha

/- WRITING. -/
def writeCells (c : Array Value) (k : Nat) (vs : List Value) : Array Value := match vs with
  | [] => c
  | v :: r => writeCells (c.setIfInBounds k v) (k + 1) r
theorem writeCells_size : ∀ (vs : List Value) (c : Array Value) (k : Nat), (writeCells c k vs).size = c.size
  | [], _, _ => rfl
  | v :: r, c, k => by simp [writeCells, writeCells_size r]
theorem writeCells_get : ∀ (vs : List Value) (c : Array Value) (k i : Nat), k + vs.length ≤ c.size → (writeCells c k vs)[i]? = if k ≤ i ∧ i < k + vs.length then vs[i - k]? else c[i]?
  | [], c, k, i, _ => by simp [writeCells]; intro a b; omega
  | v :: r, c, k, i, h => by
    simp only [List.length_cons] at h
    simp only [writeCells, List.length_cons]
    rw [writeCells_get r _ _ _ (by simp; omega)]
    by_cases h1 : k + 1 ≤ i ∧ i < k + 1 + r.length
    · rw [if_pos h1, if_pos (by omega), show i - k = (i - (k + 1)) + 1 from by omega]; simp
    · rw [if_neg h1]
      by_cases h2 : i = k
      · subst h2; rw [if_pos (by omega)]; simp [Array.getElem?_setIfInBounds]; omega
      · rw [if_neg (by omega), Array.getElem?_setIfInBounds_ne (by omega)]
theorem heap_set_of {w : World} {b : Nat} {c c' : Array Value} {e : TypeId} {fz : Nat × Nat} (hb : w.heap[b]? = some (.cells c e fz)) (k : Nat) (v : Value) (hc : c' = c.setIfInBounds k v) :
    w.setCell ⟨b, k, none⟩ v = { w with heap := w.heap.setIfInBounds b (.cells c' e fz) } := by
  subst hc
  unfold World.setCell
  congr 1
  apply Array.ext_getElem?
  intro i
  simp only [Array.getElem?_modify, Array.getElem?_setIfInBounds]
  by_cases hi : b = i
  · subst hi
    have hlt := lt_of_block hb
    have hb' : w.heap[b] = .cells c e fz := by
      rw [Array.getElem?_eq_getElem hlt] at hb; exact Option.some.inj hb
    simp [hb', hlt]
  · simp [hi]
theorem run_storeCells {b : Nat} {e : TypeId} : ∀ (vs : List Value) (o i : Nat) (c : Array Value) (w : World), w.heap[b]? = some (.cells c e (0, 0)) → o + i + vs.length ≤ c.size → (∀ v ∈ vs, oneV v = true) →
    (storeCells ⟨b, o, none⟩ vs i).run P w = .ok () { w with heap := w.heap.setIfInBounds b (.cells (writeCells c (o + i) vs) e (0, 0)) }
  | [], o, i, c, w, hb, _, _ => by
    simp only [storeCells, Sem.run_pure, writeCells]
    congr 1
    cases w
    congr 1
    apply Array.ext_getElem?
    intro j
    simp only [Array.getElem?_setIfInBounds]
    by_cases hj : b = j
    · subst hj
      have hlt := lt_of_block hb
      rw [if_pos rfl, if_pos hlt]
      exact hb
    · simp [hj]
  | v :: r, o, i, c, w, hb, hs, hv => by
    simp only [List.length_cons] at hs
    have h1 : oneV v = true := hv v (by simp)
    have hcell : w.cell? ⟨b, o + i, none⟩ = some c[o + i] := by simp [World.cell?, hb]
    have hfr : w.frozen? ⟨b, o + i, none⟩ = false := by simp [World.frozen?, hb]
    have hlt := lt_of_block hb
    have hset := heap_set_of hb (o + i) v rfl
    have hb1 : (w.setCell ⟨b, o + i, none⟩ v).heap[b]? = some (.cells (c.setIfInBounds (o + i) v) e (0, 0)) := by
      rw [hset]; simp [hlt]
    have ih := run_storeCells (b := b) (e := e) r o (i + 1) (c.setIfInBounds (o + i) v) (w.setCell ⟨b, o + i, none⟩ v) hb1 (by simp; omega) (fun x hx => hv x (by simp [hx]))
    have h2 : (store (⟨b, o + i, none⟩ : Addr) v).run P w = .ok () (w.setCell ⟨b, o + i, none⟩ v) := by
      rw [run_store P w _ v .plain (oneV_oneCell h1)]
      simp [hcell, hfr]
    simp only [storeCells, Sem.run_bind, addr_add, h2, Result.andThen_ok]
    rw [ih, hset]
    simp [writeCells, Nat.add_assoc]
end

/- WHAT A STATE TURNS INTO. -/
def Rho.put (ρ : Rho) (id : Nat) (L : Loc) : Rho := ⟨fun j => if j = id then some L else ρ j, ρ.sg⟩
theorem Rho.put_at (ρ : Rho) (id : Nat) (L : Loc) (j : Nat) : ρ.put id L j = if j = id then some L else ρ j := rfl
theorem Rho.put_le {ρ : Rho} {id : Nat} {L : Loc} (h : ρ id = none) : ρ.le (ρ.put id L) := by
  refine ⟨fun j M hj => ?_, rfl⟩
  rw [Rho.put_at]
  split
  · rename_i e; subst e; rw [h] at hj; cases hj
  · exact hj
theorem Rho.put_same {ρ : Rho} {id : Nat} {L : Loc} : ρ.put id L id = some L := by simp [Rho.put_at]
section
variable {P : Program} {N : Nat → Prop} {ρ : Rho} {ro : Nat} {st : St} {W w : World}
theorem MR.drawn (h : MR N ρ ro st W w) (n : Nat) : MR N ρ ro st W { w with drawn := n } :=
  ⟨⟨h.below.os, h.below.tape, h.below.output, h.below.size, h.below.block⟩, h.no, h.old, h.own, h.lt, h.next, h.ron, h.nx, h.obs, h.inj, h.cls, h.fx⟩
theorem MR.upd (h : MR N ρ ro st W w) {id : Nat} {L : Loc} (hL : ρ id = some L) (hro : ro ≤ id) {ob' : Ob} {o' : Obj} (ho : OR ρ L ob' o') {st' : St} (hn : st'.next = st.next)
    (hA : ∀ j ob, st'.heap.get j = some ob → (j = id ∧ ob = ob') ∨ (j ≠ id ∧ st.heap.get j = some ob)) (hid : id < st.next)
    (hB : ∀ j M ob, j ≠ id → ρ j = some M → st'.heap.get j = some ob → M.b ≠ L.b)
    (hC : ∀ j cs n e fz cl rel, st'.heap.get j = some (.row cs n e fz (cl + 1) rel) → cl + 1 ≤ st'.next ∧ ∀ m, st'.cls.get (cl + 1) = some m → j ∈ m.2 ∧ rel + n ≤ m.1) (hX : st'.facts = st.facts) :
    MR N ρ ro st' W { w with heap := w.heap.setIfInBounds L.b o' } := by
  have hown := h.own _ _ hL hro
  have hlt := h.lt _ _ hL
  refine ⟨⟨h.below.os, h.below.tape, h.below.output, by simpa using h.below.size, fun k hk => ?_⟩, (fun i hi => ⟨(h.no i hi).1, hn ▸ (h.no i hi).2⟩), h.old, h.own, by simpa using h.lt, hn ▸ h.next, hn ▸ h.ron, fun j ob hj => ?_, fun j M ob hj hob => ?_, fun i j M M' ob ob'' hi hj hoi hoj hb => ?_, hC, hX ▸ h.fx⟩
  · rw [← h.below.block k hk]
    exact Array.getElem?_setIfInBounds_ne (by omega)
  · rw [hn]
    rcases hA j ob hj with ⟨rfl, _⟩ | ⟨_, h'⟩
    · exact hid
    · exact h.nx j ob h'
  · rcases hA j ob hob with ⟨rfl, rfl⟩ | ⟨hne, h'⟩
    · rw [hL] at hj; cases hj
      exact ⟨o', by simp [hlt], ho⟩
    · obtain ⟨o, h1, h2⟩ := h.obs j M ob hj h'
      refine ⟨o, ?_, h2⟩
      have := hB j M ob hne hj hob
      rw [← h1]
      exact Array.getElem?_setIfInBounds_ne (fun e => this e.symm)
  · rcases hA i ob hoi with ⟨rfl, rfl⟩ | ⟨hne, h'⟩
    · rcases hA j ob'' hoj with ⟨rfl, rfl⟩ | ⟨hne', h''⟩
      · exact .inl rfl
      · rw [hL] at hi; cases hi
        exact absurd hb.symm (hB j M' ob'' hne' hj hoj)
    · rcases hA j ob'' hoj with ⟨rfl, rfl⟩ | ⟨hne', h''⟩
      · rw [hL] at hj; cases hj
        exact absurd hb (hB i M ob hne hi hoi)
      · exact h.inj i j M M' ob ob'' hi hj h' h'' hb
def Ob.cl0 (ob : Ob) : Prop := ∀ cs n e fz cl rel, ob ≠ .row cs n e fz (cl + 1) rel
theorem MR.pend (h : MR N ρ ro st W w) {ob : Ob} (h0 : ob.cl0) : MR N ρ ro (st.new ob) W w := by
  refine ⟨h.below, (fun i hi => ⟨(h.no i hi).1, Nat.lt_succ_of_lt (h.no i hi).2⟩), h.old, h.own, h.lt, fun id L hL => Nat.lt_succ_of_lt (h.next id L hL), Nat.le_succ_of_le h.ron, fun j o hj => ?_, fun j M o hj ho => ?_, fun i j M M' o o' hi hj hoi hoj hb => ?_, fun j cs n e fz cl rel hj => ?_, h.fx⟩
  · rcases PT.get_set hj with ⟨rfl, _⟩ | ⟨_, h'⟩
    · exact Nat.lt_succ_self _
    · exact Nat.lt_succ_of_lt (h.nx j o h')
  · rcases PT.get_set ho with ⟨rfl, _⟩ | ⟨_, h'⟩
    · exact absurd (h.next _ _ hj) (Nat.lt_irrefl _)
    · exact h.obs j M o hj h'
  · rcases PT.get_set hoi with ⟨rfl, _⟩ | ⟨_, h'⟩
    · exact absurd (h.next _ _ hi) (Nat.lt_irrefl _)
    · rcases PT.get_set hoj with ⟨rfl, _⟩ | ⟨_, h''⟩
      · exact absurd (h.next _ _ hj) (Nat.lt_irrefl _)
      · exact h.inj i j M M' o o' hi hj h' h'' hb
  · rcases PT.get_set hj with ⟨_, e⟩ | ⟨_, h'⟩
    · exact absurd e.symm (h0 _ _ _ _ _ _)
    · obtain ⟨a, m⟩ := h.cls j cs n e fz cl rel h'
      exact ⟨Nat.le_succ_of_le a, m⟩
theorem MR.real (h : MR N ρ ro st W w) {id : Nat} {ob : Ob} {o : Obj} {L : Loc} (hid : ∀ ob', st.heap.get id = some ob' → ob' = ob) (hidn : id < st.next) (hρ : ρ id = none) (hN : ¬ N id) (hro : ro ≤ id) (hb : L.b = w.heap.size) (ho : OR (ρ.put id L) L ob o) :
    MR N (ρ.put id L) ro st W { w with heap := w.heap.push o } := by
  have hle := Rho.put_le (L := L) hρ
  have hpr : ∀ {j M}, ρ.put id L j = some M → (j = id ∧ M = L) ∨ (j ≠ id ∧ ρ j = some M) := by
    intro j M hj
    rw [Rho.put_at] at hj
    split at hj
    · rename_i e; cases hj; exact .inl ⟨e, rfl⟩
    · rename_i e; exact .inr ⟨e, hj⟩
  refine ⟨⟨h.below.os, h.below.tape, h.below.output, by simpa using Nat.le_succ_of_le h.below.size, fun k hk => ?_⟩, (fun i hi => ⟨by rw [Rho.put_at, if_neg (fun (e : i = id) => hN (e ▸ hi))]; exact (h.no i hi).1, (h.no i hi).2⟩), fun j M hj hjr => ?_, fun j M hj hjr => ?_, fun j M hj => ?_, fun j M hj => ?_, h.ron, h.nx, fun j M ob' hj hob => ?_, fun i j M M' a a' hi hj hoi hoj hbb => ?_, h.cls, h.fx⟩
  · rw [← h.below.block k hk]
    have := h.below.size
    simp only [Array.getElem?_push]
    rw [if_neg (by omega)]
  · rcases hpr hj with ⟨rfl, rfl⟩ | ⟨_, h'⟩
    · omega
    · exact h.old j M h' hjr
  · rcases hpr hj with ⟨rfl, rfl⟩ | ⟨_, h'⟩
    · have := h.below.size; omega
    · exact h.own j M h' hjr
  · simp only [Array.size_push]
    rcases hpr hj with ⟨rfl, rfl⟩ | ⟨_, h'⟩
    · omega
    · have := h.lt j M h'; omega
  · rcases hpr hj with ⟨rfl, rfl⟩ | ⟨_, h'⟩
    · exact hidn
    · exact h.next j M h'
  · rcases hpr hj with ⟨rfl, rfl⟩ | ⟨_, h'⟩
    · cases hid _ hob
      exact ⟨o, by simp [hb], ho⟩
    · obtain ⟨x, h1, h2⟩ := h.obs j M ob' h' hob
      have := h.lt j M h'
      exact ⟨x, by simp only [Array.getElem?_push]; rw [if_neg (by omega)]; exact h1, h2.mono hle⟩
  · rcases hpr hi with ⟨rfl, rfl⟩ | ⟨_, hi'⟩
    · rcases hpr hj with ⟨rfl, rfl⟩ | ⟨_, hj'⟩
      · exact .inl rfl
      · have := h.lt j M' hj'; omega
    · rcases hpr hj with ⟨rfl, rfl⟩ | ⟨_, hj'⟩
      · have := h.lt i M hi'; omega
      · exact h.inj i j M M' a a' hi' hj' hoi hoj hbb
theorem MR.fresh (h : MR N ρ ro st W w) : ρ st.next = none := by
  cases hn : ρ st.next with
  | none => rfl
  | some L => exact absurd (h.next _ _ hn) (Nat.lt_irrefl _)
theorem MR.freshN (h : MR N ρ ro st W w) : ¬ N st.next := fun hh => Nat.lt_irrefl _ (h.no _ hh).2
theorem get_new {st : St} {ob ob' : Ob} {id : Nat} (h : (st.new ob).heap.get id = some ob') (e : id = st.next) : ob' = ob := by
  rcases PT.get_set h with ⟨_, r⟩ | ⟨n, _⟩
  · exact r
  · exact absurd e n
end
end Go.Proofs.YtjifnmilimdfdaaGreatDoor.Ab
