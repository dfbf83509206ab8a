/- Operations that make a row; stores. -/
import Derived.Test.YtjifnmilimdfdaaGreatDoorPure4
import Derived.IntWalk
set_option linter.unusedVariables false
set_option linter.unusedSimpArgs false
set_option linter.unnecessarySimpa false
namespace Go.Proofs.YtjifnmilimdfdaaGreatDoor.Ab
open Go Go.RowKit

section
variable {P : Program} {N : Nat → Prop} {ρ : Rho} {ro : Nat} {st : St} {W w : World}
theorem elemOf_spec {t e n : Nat} (h : Ab.elemOf P t = some (e, n)) : P.underlying t = some (.slice e) ∧ tySize P e = some n := by
  unfold Ab.elemOf at h
  split at h
  · rename_i hu
    split at h
    · rename_i hs; cases h; exact ⟨hu, hs⟩
    · cases h
  · cases h
theorem zeros_eq {size : Nat} {zv : Value} (hz : zv.cells.size = size) (n : Nat) : (n * size = 0 → ((Array.range (n * size)).map ((#[] : Array Value)[· % (#[] : Array Value).size]!)) = (repV n zv.cells.toList).toArray) ∧
    ((Array.range (n * size)).map (zv.cells[· % zv.cells.size]!)) = (repV n zv.cells.toList).toArray := by
  constructor
  · intro h0
    have : (repV n zv.cells.toList).toArray = #[] := by
      apply Array.eq_empty_of_size_eq_zero
      simp only [List.size_toArray, repV_len, Array.length_toList, hz, h0]
    rw [this, h0]
    apply Array.eq_empty_of_size_eq_zero
    simp
  · have := zero_row zv.cells n
    rw [hz] at this ⊢
    exact this
theorem allocA_run {fr : Fr} {ev : Operand → Value} {o : Oper} {p : Ob × (Nat → AV)} (he : ∀ x ∈ o.op.operands.toList, VR ρ (fr.get x) (ev x)) (hr : allocA P fr o.op = .ok p) (w : World) :
    ∃ v o' n, (execOp ev o).run P w = .ok (.value v) { w with heap := w.heap.push o' } ∧ p.1.cl0 ∧ (∀ ρ' : Rho, ρ.le ρ' → OR ρ' ⟨w.heap.size, n, 0⟩ p.1 o') ∧ (∀ (ρ' : Rho) (id : Nat), ρ' id = some ⟨w.heap.size, n, 0⟩ → VR ρ' (p.2 id) v) := by
  unfold execOp
  generalize hop : o.op = op at he hr
  cases op <;> simp only [allocA] at hr <;> first
    | (cases hr; done)
    | dsimp only
  case alloc e =>
    split at hr
    · rename_i z hz
      split at hr
      · rename_i l hl
        cases hr
        obtain ⟨zv, h1, h2⟩ := run_zero (ρ := ρ) hz w
        have hc := h2.cells hl
        refine ⟨.pointer (some ⟨w.heap.size, 0, none⟩), .cells zv.cells e, zv.cells.size, wrapV ?_, mkRow_cl0 _ _, fun ρ' hle => mkRow_OR (hc.mono hle) e _, fun ρ' id hid => .ptr id 0 _ hid⟩
        simp [Instr.alloc, h1, newVar, newRow]
        try rfl
      · cases hr
    · cases hr
  case box e x =>
    have hx := he x (by simp [Op.operands])
    split at hr
    · rename_i l hl
      split at hr
      · cases hr
        have hc := hx.cells hl
        refine ⟨.pointer (some ⟨w.heap.size, 0, none⟩), .cells (ev x).cells e, (ev x).cells.size, wrapV ?_, mkRow_cl0 _ _, fun ρ' hle => mkRow_OR (hc.mono hle) e _, fun ρ' id hid => .ptr id 0 _ hid⟩
        simp [Instr.box, newVar, newRow]
        try rfl
      · cases hr
    · cases hr
  case buildSlice t len ps =>
    split at hr
    · rename_i e size hes
      obtain ⟨hu, hs⟩ := elemOf_spec hes
      split at hr
      · rename_i z hb hz
        split at hr
        · rename_i zl hzl
          split at hr
          · rename_i hsz
            obtain ⟨l, hl, hr⟩ := Rs.bind_ok hr
            split at hr
            · cases hr
              have hb' : len * size ≤ 16777216 := ble_true hb
              have hsz' := beq_true hsz
              obtain ⟨zv, h1, h2⟩ := run_zero (ρ := ρ) hz w
              have hc := h2.cells hzl
              have hcl := hc.length
              obtain ⟨c', h3, h4⟩ := fill_run (c := (repV len zv.cells.toList).toArray) (parts_map (fr := fr) (ev := ev) ps.toList) (parts_rel (ev := ev) (fun x hx => he x hx)) (by simpa using rep_rel hc len) hl
              refine ⟨.slice (some ⟨w.heap.size, 0, none⟩) len len, .cells c' e, c'.size, wrapV ?_, mkRow_cl0 _ _, fun ρ' hle => mkRow_OR (h4.mono hle) e _, fun ρ' id hid => .sl id 0 len _ _ _ _ hid ⟨rfl, rfl⟩ (Nat.le_refl _)⟩
              have e1 : (ps.map fun (x : Nat × Operand) => (x.1, ev x.2)).toList = ps.toList.map fun p => (p.1, ev p.2) := by rw [Array.toList_map]
              have hz2 : zv.cells.size = size := by simp at hcl; omega
              have e2 := zero_row zv.cells len
              rw [hz2] at e2
              have hb2 : ¬ (len * size > 2 ^ 24) := by omega
              obtain ⟨q1, q2⟩ := zeros_eq hz2 len
              simp only [Instr.buildSlice, Sem.run_bind, run_underlying hu, Result.andThen_ok, run_size hs]
              rw [if_neg hb2]
              have h3' : Instr.fill (fun i => some (i * size, size)) (repV len zv.cells.toList).toArray (ps.map fun (x : Nat × Operand) => (x.1, ev x.2)).toList = some c' := by
                rw [e1]; exact h3
              by_cases h0 : len * size = 0
              · rw [if_pos h0]
                simp only [Sem.run_bind, Sem.run_pure, Result.andThen_ok]
                rw [q1 h0, h3']
                rfl
              · rw [if_neg h0]
                simp only [Sem.run_bind, Sem.run_pure, Result.andThen_ok, h1]
                rw [q2, h3']
                rfl
            · cases hr
          · cases hr
        · cases hr
      · cases hr
    · cases hr
  case makeSlice t l c =>
    split at hr
    · rename_i e size n m hes hn hm
      obtain ⟨hu, hs⟩ := elemOf_spec hes
      split at hr
      · rename_i z bytes hz hby
        split at hr
        · rename_i zl hzl
          split at hr
          · rename_i h1 h2 h3 h4
            cases hr
            have h1' := beq_true h1
            have h2' : n ≤ m := ble_true h2
            have h3' : m ≤ 1000000 := ble_true h3
            have h4' : bytes ≤ 1000000 := ble_true h4
            obtain ⟨zv, hz1, hz2⟩ := run_zero (ρ := ρ) hz w
            have hc := hz2.cells hzl
            have hcl := hc.length
            have hz3 : zv.cells.size = size := by simp at hcl; omega
            obtain ⟨q1, q2⟩ := zeros_eq hz3 m
            obtain ⟨k1, e1⟩ := natOf_spec hn (he l (by simp [Op.operands]))
            obtain ⟨k2, e2⟩ := natOf_spec hm (he c (by simp [Op.operands]))
            refine ⟨.slice (some ⟨w.heap.size, 0, none⟩) n m, .cells (repV m zv.cells.toList).toArray e, (repV m zv.cells.toList).toArray.size, wrapV ?_, mkRow_cl0 _ _, fun ρ' hle => mkRow_OR (by simpa using (rep_rel hc m).mono hle) e _, fun ρ' id hid => .sl id 0 n _ _ _ _ hid ⟨rfl, rfl⟩ h2'⟩
            rw [e1, e2]
            have hb : (typeInfo e).run P w = .ok (P.info? e).get! w := by
              unfold tyBytes at hby
              split at hby
              · rename_i i hi; simp [typeInfo, hi]
              · cases hby
            have hb2 : ((P.info? e).get!).bytes = bytes := by
              unfold tyBytes at hby
              split at hby
              · rename_i i hi; cases hby; simp [hi]
              · cases hby
            have w1 : IntKind.i64.wrap (n : Int) = n := IntWalk.i64_in _ (by omega)
            have w2 : IntKind.i64.wrap (m : Int) = m := IntWalk.i64_in _ (by omega)
            have ht1 : (decide ((m : Int) < 0) || decide ((bytes : Int) * (m : Int) > 2 ^ 48)) = false := by
              have : bytes * m ≤ 1000000 * 1000000 := Nat.mul_le_mul h4' h3'
              have h5 : ((bytes : Int) * (m : Int)) ≤ 1000000000000 := by
                have : ((bytes * m : Nat) : Int) ≤ ((1000000 * 1000000 : Nat) : Int) := Int.ofNat_le.2 this
                simpa using this
              simp only [Bool.or_eq_false_iff, decide_eq_false_iff_not]
              constructor
              · omega
              · show ¬ ((bytes : Int) * (m : Int) > 281474976710656); omega
            have hroom : ¬ (m * bytes > roomBytes) := by
              have : m * bytes ≤ 1000000 * 1000000 := Nat.mul_le_mul h3' h4'
              show ¬ (m * bytes > 140737488355328)
              omega
            have hl : ¬ ((n : Int) < 0) := by omega
            have hlm : ¬ ((n : Int) > (m : Int)) := by omega
            simp only [Instr.makeSlice, Sem.run_bind, run_underlying hu, Result.andThen_ok, asInt, run_asIntOf, Sem.run_pure, hb, hb2, w1, w2, ht1, hl, hlm, decide_false, Bool.or_self, Bool.false_eq_true, if_false, Int.toNat_natCast, run_size hs]
            simp only [askRoom, if_neg hroom, Sem.run_pure, Result.andThen_ok]
            by_cases h0 : m * size = 0
            · rw [if_pos h0]
              simp only [Sem.run_bind, Sem.run_pure, Result.andThen_ok]
              rw [q1 h0]
              rfl
            · rw [if_neg h0]
              simp only [Sem.run_bind, Sem.run_pure, Result.andThen_ok, hz1]
              rw [q2]
              rfl
          · cases hr
        · cases hr
      · cases hr
    · cases hr
/- STORES. -/
theorem putCells_spec : ∀ {l : List AV} {off : Nat} {cs cs' : PT AV}, putCells l off cs = .ok cs' → (∀ a ∈ l, a.one = true) ∧ (∀ j, j < l.length → ∃ x, cs.get (off + j) = some x) ∧
    (∀ i x, cs'.get i = some x → (off ≤ i ∧ i < off + l.length ∧ l[i - off]? = some x) ∨ ((i < off ∨ off + l.length ≤ i) ∧ cs.get i = some x))
  | [], off, cs, cs', h => by
    cases h
    exact ⟨by simp, by simp, fun i x hx => .inr ⟨by simp; omega, hx⟩⟩
  | v :: r, off, cs, cs', h => by
    simp only [putCells] at h
    split at h
    · rename_i y h1 h2
      obtain ⟨a, b, c⟩ := putCells_spec h
      refine ⟨?_, ?_, ?_⟩
      · intro x hx
        rcases List.mem_cons.1 hx with rfl | hx
        · exact h1
        · exact a x hx
      · intro j hj
        cases j with
        | zero => exact ⟨y, h2⟩
        | succ j =>
          simp only [List.length_cons] at hj
          obtain ⟨x, hx⟩ := b j (by omega)
          rw [show off + (j + 1) = off.succ + j from by omega]
          rcases PT.get_set hx with ⟨e, _⟩ | ⟨_, h'⟩
          · omega
          · exact ⟨x, h'⟩
      · intro i x hx
        simp only [List.length_cons]
        rcases c i x hx with ⟨h3, h4, h5⟩ | ⟨h3, h4⟩
        · left
          have h3' : off + 1 ≤ i := h3
          have h4' : i < off + 1 + r.length := h4
          refine ⟨by omega, by omega, ?_⟩
          rw [show i - off = (i - off.succ) + 1 from by omega]
          simpa using h5
        · have h3' : i < off + 1 ∨ off + 1 + r.length ≤ i := h3
          rcases PT.get_set h4 with ⟨rfl, rfl⟩ | ⟨hne, h'⟩
          · left; exact ⟨Nat.le_refl _, by omega, by simp⟩
          · right; exact ⟨by omega, h'⟩
    · cases h
theorem get_kill : ∀ {m : List Nat} {id j : Nat} {h : PT Ob} {ob : Ob}, (kill m id h).get j = some ob → h.get j = some ob ∧ (j = id ∨ j ∉ m)
  | [], _, _, _, _, h => ⟨h, .inr (by simp)⟩
  | x :: r, id, j, t, ob, h => by
    simp only [kill] at h
    split at h
    · rename_i e
      obtain ⟨h1, h2⟩ := get_kill h
      refine ⟨h1, ?_⟩
      by_cases hj : j = id
      · exact .inl hj
      · right
        have := beq_true e
        simp only [List.mem_cons, not_or]
        exact ⟨by omega, h2.resolve_left hj⟩
    · obtain ⟨h1, h2⟩ := get_kill h
      obtain ⟨h3, h4⟩ := PT.get_del h1
      refine ⟨h4, ?_⟩
      by_cases hj : j = id
      · exact .inl hj
      · right
        simp only [List.mem_cons, not_or]
        exact ⟨h3, h2.resolve_left hj⟩
theorem MR.stores (h : MR N ρ ro st W w) {id off : Nat} {L : Loc} {l : List AV} {vs : List Value} {st' : St} (hL : ρ id = some L) (hs : st.stores ro id off l = .ok st') (hv : VRs ρ l vs) :
    ∃ w', (storeCells ⟨L.b, L.base + off, none⟩ vs).run P w = .ok () w' ∧ MR N ρ ro st' W w' ∧ st'.next = st.next := by
  unfold St.stores at hs
  split at hs
  · cases hs
    have : vs = [] := by have := hv.length; simpa using this
    subst this
    exact ⟨w, rfl, h, rfl⟩
  · split at hs
    · rename_i cs n e fz cl rel hr
      split at hs
      · rename_i hfz hro
        obtain ⟨cs', hcs, hs⟩ := Rs.bind_ok hs
        have hro' : ro ≤ id := blt_false hro
        obtain ⟨p1, p2, p3⟩ := putCells_spec hcs
        obtain ⟨c, lo, hi, hb, hsz, hbase, hcells, hf0, hf1⟩ := h.row hL hr
        obtain ⟨rfl, rfl⟩ := hf0 rfl
        have hlen := hv.length
        have hne : 0 < l.length := by
          rcases Nat.eq_zero_or_pos l.length with h0 | h0
          · exfalso
            have : l = [] := by simpa using h0
            subst this
            simp_all
          · exact h0
        have hfit : L.base + off + vs.length ≤ c.size := by
          obtain ⟨x, hx⟩ := p2 (l.length - 1) (by omega)
          obtain ⟨_, v, hv', _⟩ := hcells _ _ hx
          have : L.base + (off + (l.length - 1)) < c.size := by
            rcases Nat.lt_or_ge (L.base + (off + (l.length - 1))) c.size with h' | h'
            · exact h'
            · rw [Array.getElem?_eq_none h'] at hv'; cases hv'
          omega
        have hone : ∀ v ∈ vs, oneV v = true := by
          intro v hvm
          obtain ⟨i, hi⟩ := List.getElem?_of_mem hvm
          have hlt : i < l.length := by have := (List.getElem?_eq_some_iff.1 hi).1; omega
          obtain ⟨v', hv', hR⟩ := hv.get (i := i) (a := l[i]) (by simp [hlt])
          rw [hi] at hv'; cases hv'
          exact hR.one (p1 _ (List.getElem_mem hlt))
        have hrun := run_storeCells (P := P) (b := L.b) (e := e) vs (L.base + off) 0 c w hb (by omega) hone
        have hOR : OR ρ L (.row cs' n e 0 cl rel) (.cells (writeCells c (L.base + off) vs) e (0, 0)) := by
          refine ⟨_, 0, 0, rfl, by rw [writeCells_size]; exact hsz, hbase, fun i a hg => ?_, fun _ => ⟨rfl, rfl⟩, fun e => by cases e⟩
          rw [writeCells_get vs c (L.base + off) _ hfit]
          rcases p3 i a hg with ⟨h1, h2, h3⟩ | ⟨h1, h2⟩
          · rw [if_pos (by omega)]
            obtain ⟨v, hv1, hv2⟩ := hv.get h3
            obtain ⟨y, hy⟩ := p2 (i - off) (by omega)
            rw [show off + (i - off) = i from by omega] at hy
            refine ⟨(hcells i y hy).1, v, ?_, hv2⟩
            rw [show L.base + i - (L.base + off) = i - off from by omega]; exact hv1
          · rw [if_neg (by omega)]
            exact hcells i a h2
        have hidn := h.nx _ _ hr
        refine ⟨_, hrun, ?_⟩
        split at hs
        · cases hs
          refine ⟨h.upd hL hro' hOR rfl (fun j ob hj => ?_) hidn (fun j M ob hj hM hob => ?_) (fun j cs n e fz cl rel hj => ?_) rfl, rfl⟩
          · rcases PT.get_set hj with ⟨rfl, rfl⟩ | ⟨h1, h2⟩
            · exact .inl ⟨rfl, rfl⟩
            · exact .inr ⟨h1, h2⟩
          · rcases PT.get_set hob with ⟨rfl, _⟩ | ⟨_, h2⟩
            · exact absurd rfl hj
            · intro hbb
              rcases h.inj id j L M _ _ hL hM hr h2 hbb.symm with e' | ⟨_, _, _, _, _, _, _, _, _, _, _, e1, _⟩
              · exact hj e'.symm
              · cases e1
          · rcases PT.get_set hj with ⟨_, e1⟩ | ⟨_, h2⟩
            · cases e1
            · exact h.cls j cs n e fz cl rel h2
        · rename_i hcl
          split at hs
          · rename_i m hm
            cases hs
            obtain ⟨cl, rfl⟩ : ∃ k, cl = k + 1 := by
              cases cl with
              | zero => exact absurd rfl hcl
              | succ k => exact ⟨k, rfl⟩
            obtain ⟨hcn, _⟩ := h.cls id cs n e 0 cl rel hr
            refine ⟨h.upd hL hro' hOR rfl (fun j ob hj => ?_) hidn (fun j M ob hj hM hob => ?_) (fun j cs1 n1 e1 fz1 cl1 rel1 hj => ?_) rfl, rfl⟩
            · obtain ⟨h1, _⟩ := get_kill hj
              rcases PT.get_set h1 with ⟨rfl, rfl⟩ | ⟨h1, h2⟩
              · exact .inl ⟨rfl, rfl⟩
              · exact .inr ⟨h1, h2⟩
            · obtain ⟨h1, h2⟩ := get_kill hob
              rcases PT.get_set h1 with ⟨rfl, _⟩ | ⟨_, h3⟩
              · exact absurd rfl hj
              · intro hbb
                rcases h.inj id j L M _ _ hL hM hr h3 hbb.symm with e' | ⟨_, _, _, _, _, _, cs2, n2, e2, fz2, rel2, e1, e3, _⟩
                · exact hj e'.symm
                · cases e1
                  subst e3
                  obtain ⟨_, hm2⟩ := h.cls j cs2 n2 e2 fz2 cl rel2 h3
                  obtain ⟨hin2, _⟩ := hm2 _ hm
                  rcases h2 with h2 | h2
                  · exact hj h2
                  · exact h2 hin2
            · obtain ⟨h1, h2⟩ := get_kill hj
              rcases PT.get_set h1 with ⟨rfl, e'⟩ | ⟨hne, h3⟩
              · cases e'
                refine ⟨hcn, fun m2 hm2 => ?_⟩
                rcases PT.get_set hm2 with ⟨_, rfl⟩ | ⟨hne, _⟩
                · exact ⟨by simp, Nat.le_refl _⟩
                · exact absurd rfl hne
              · obtain ⟨a1, hm2⟩ := h.cls j cs1 n1 e1 fz1 cl1 rel1 h3
                refine ⟨a1, fun m2 hm3 => ?_⟩
                rcases PT.get_set hm3 with ⟨hc, rfl⟩ | ⟨hne', hm4⟩
                · have hc' : cl1 = cl := by omega
                  subst hc'
                  obtain ⟨hin2, _⟩ := hm2 _ hm
                  rcases h2 with h2 | h2
                  · exact absurd h2 hne
                  · exact absurd hin2 h2
                · exact hm2 _ hm4
          · cases hs
      · cases hs
    · cases hs
end
end Go.Proofs.YtjifnmilimdfdaaGreatDoor.Ab
