/- 'append', all of it. -/
import Derived.Test.YteegpmimbbgdlaaGreatDoorApp2
set_option linter.unusedVariables false
set_option linter.unusedSimpArgs false
set_option linter.unnecessarySimpa false
namespace Go.Proofs.YteegpmimbbgdlaaGreatDoor.Ab
open Go Go.RowKit

section
variable {P : Program} {N : Nat → Prop} {ρ : Rho} {ro : Nat} {st : St} {W w : World}
/-- A new row of a class, there in the world, a block of its own. -/
theorem MR.rowC (h : MR N ρ ro st W w) {cs : PT AV} {k e cl rel en : Nat} {ms : List Nat} (hcl : cl + 1 ≤ st.next + 1) (hend : rel + k ≤ en)
    (hold : ∀ j cs' n' e' fz' rel', st.heap.get j = some (.row cs' n' e' fz' (cl + 1) rel') → j ∈ ms ∧ rel' + n' ≤ en) {c : Array Value} (hcs : ∀ i a, cs.get i = some a → i < k ∧ ∃ v, c[i]? = some v ∧ VR ρ a v) (d : Nat) :
    ∃ ρ', ρ.le ρ' ∧ MR N ρ' ro { st with heap := st.heap.set st.next (.row cs k e 0 (cl + 1) rel), next := Nat.succ st.next, cls := st.cls.set (cl + 1) (en, st.next :: ms) } W { w with drawn := d, heap := w.heap.push (.cells c e) } ∧ ρ' st.next = some ⟨w.heap.size, c.size, 0⟩ := by
  have h1 := (h.pendC (cs := cs) (k := k) (e := e) (fz := 0) (cl := cl) (rel := rel) hcl hend hold).drawn d
  have hf := h.fresh
  refine ⟨ρ.put st.next ⟨w.heap.size, c.size, 0⟩, Rho.put_le hf, ?_, Rho.put_same⟩
  refine h1.real (id := st.next) (ob := .row cs k e 0 (cl + 1) rel) (fun ob' hob => ?_) (Nat.lt_succ_self _) hf h.freshN h.ron rfl ?_
  · rcases PT.get_set hob with ⟨_, r⟩ | ⟨n, _⟩
    · exact r
    · exact absurd rfl n
  · refine ⟨c, 0, 0, rfl, rfl, fun _ => rfl, fun i a hi => ?_, fun _ => ⟨rfl, rfl⟩, fun e => by cases e⟩
    obtain ⟨x, v, y, z⟩ := hcs i a hi
    exact ⟨x, v, by simpa using y, z.mono (Rho.put_le hf)⟩
theorem lay2 {ol new : List AV} {ov vs : List Value} (h1 : VRs ρ ol ov) (h2 : VRs ρ new vs) {rest : Array Value} {i : Nat} {a : AV} (h : (PT.lay new ol.length (PT.lay ol 0 .nil)).get i = some a) :
    i < ol.length + new.length ∧ ∃ v, (ov.toArray ++ vs.toArray ++ rest)[i]? = some v ∧ VR ρ a v := by
  have l1 := h1.length
  have l2 := h2.length
  rcases PT.get_lay h with ⟨x, y⟩ | ⟨x, y⟩
  · obtain ⟨v, hv, hr⟩ := h2.get y
    have hlt := (List.getElem?_eq_some_iff.1 hv).1
    refine ⟨by omega, v, ?_, hr⟩
    rw [Array.getElem?_append_left (by simp; omega), Array.getElem?_append_right (by simp; omega)]
    simpa [l1] using hv
  · rcases PT.get_lay y with ⟨x', y'⟩ | ⟨_, y'⟩
    · obtain ⟨v, hv, hr⟩ := h1.get y'
      have hlt := (List.getElem?_eq_some_iff.1 hv).1
      refine ⟨by omega, v, ?_, hr⟩
      rw [Array.getElem?_append_left (by simp; omega), Array.getElem?_append_left (by simp; omega)]
      simpa using hv
    · cases y'
theorem no_old_class (h : MR N ρ ro st W w) {j : Nat} {cs' : PT AV} {n' e' fz' rel' : Nat} (hj : st.heap.get j = some (.row cs' n' e' fz' (st.next + 1) rel')) : False := by
  have := (h.cls j cs' n' e' fz' st.next rel' hj).1
  omega
/-- A new row behind an append, of a class of its own. -/
theorem MR.grown (h : MR N ρ ro st W w) {ol new : List AV} {ov vs : List Value} (h1 : VRs ρ ol ov) (h2 : VRs ρ new vs) {k e size m newCap : Nat} {rest : Array Value} (hk : k = ol.length + new.length) (hm : m * size = k) (hc : m ≤ newCap) (hr : rest.size = (newCap - m) * size) (d : Nat) :
    ∃ ρ', ρ.le ρ' ∧ MR N ρ' ro (st.grown (PT.lay new ol.length (PT.lay ol 0 .nil)) k e size m).2 W { w with drawn := d, heap := w.heap.push (.cells (ov.toArray ++ vs.toArray ++ rest) e) } ∧
      VR ρ' (st.grown (PT.lay new ol.length (PT.lay ol 0 .nil)) k e size m).1 (.slice (some ⟨w.heap.size, 0, none⟩) m newCap) := by
  have l1 := h1.length
  have l2 := h2.length
  obtain ⟨ρ', a1, a2, a3⟩ := h.rowC (cs := PT.lay new ol.length (PT.lay ol 0 .nil)) (k := k) (e := e) (cl := st.next) (rel := 0) (en := k) (ms := []) (Nat.le_refl _) (by omega)
    (fun j cs' n' e' fz' rel' hj => (no_old_class h hj).elim) (c := ov.toArray ++ vs.toArray ++ rest) (fun i a hi => by rw [hk]; exact lay2 h1 h2 hi) d
  refine ⟨ρ', a1, a2, .sl _ _ _ _ _ _ _ a3 ⟨?_, .inr (by simp)⟩ hc⟩
  simp only [Array.size_append, List.size_toArray, l1, l2]
  rw [hr]
  have : newCap * size = m * size + (newCap - m) * size := by rw [← Nat.add_mul]; congr 1; omega
  omega
def AppOut (P : Program) (N : Nat → Prop) (ρ : Rho) (ro : Nat) (st' : St) (W w : World) (m : Sem Value) (r : AV) : Prop := ∃ ρ' w' v, m.run P w = .ok v w' ∧ ρ.le ρ' ∧ MR N ρ' ro st' W w' ∧ VR ρ' r v
theorem lay_new {X : PT AV} {new : List AV} {vs : List Value} {d k : Nat} {c : Array Value} {o : Nat} (h2 : VRs ρ new vs) (hk : k = d + new.length) (hX : ∀ i a, X.get i = some a → i < d ∧ ∃ v, c[o + i]? = some v ∧ VR ρ a v) {i : Nat} {a : AV} (h : (PT.lay new d X).get i = some a) :
    i < k ∧ ((d ≤ i ∧ ∃ v, vs[i - d]? = some v ∧ VR ρ a v) ∨ (i < d ∧ ∃ v, c[o + i]? = some v ∧ VR ρ a v)) := by
  have l2 := h2.length
  rcases PT.get_lay h with ⟨x, y⟩ | ⟨x, y⟩
  · obtain ⟨v, hv, hr⟩ := h2.get y
    have hlt := (List.getElem?_eq_some_iff.1 hv).1
    exact ⟨by omega, .inl ⟨x, v, hv, hr⟩⟩
  · obtain ⟨hi, v, hv, hr⟩ := hX i a y
    exact ⟨by omega, .inr ⟨hi, v, hv, hr⟩⟩
theorem append_open (h : MR N ρ ro st W w) {ts : Array TypeId} {ty : TypeId} {id off len c o n size e k cl rel bytes : Nat} {L : Loc} {cs X : PT AV} {new : List AV} {m : Nat × List Nat} {xv : Value} (hL : ρ id = some L) (hro : ro ≤ id)
    (hrow : st.heap.get id = some (.row cs k e 0 (cl + 1) rel)) (hcls : st.cls.get (cl + 1) = some m) (hp : m.1 ≤ rel + off + len * size)
    (hcap : CapR L off (.g size) c o) (hlc : len ≤ c) (hn0 : 0 < n) (hX : ∀ cc e', w.heap[L.b]? = some (.cells cc e' (0, 0)) → ∀ i a, X.get i = some a → i < len * size ∧ ∃ v, cc[L.base + off + i]? = some v ∧ VR ρ a v)
    (hin : ∀ d, AppIn P { w with drawn := d } ts e size n xv) (hnew : ∀ d, ∃ vs : List Value, (Builtin.firstCells size n xv).run P { w with drawn := d } = .ok vs.toArray { w with drawn := d } ∧ VRs ρ new vs) (hnl : new.length = n * size) (hone : AV.oneAll new = true)
    (hb : tyBytes P e = some bytes) (hb0 : 0 < bytes) (hb1 : bytes ≤ 100000) (hln : len + n ≤ 100000) (hz : zeroOk P e size = true) :
    AppOut P N ρ ro { st with heap := st.heap.set st.next (.row (PT.lay new (len * size) X) ((len + n) * size) e 0 (cl + 1) (rel + off)), next := Nat.succ st.next, cls := st.cls.set (cl + 1) (rel + off + len * size + n * size, st.next :: m.2) } W w
      (Builtin.append_ ts ty #[.slice (some ⟨L.b, o, none⟩) len c, xv]) (.sl st.next 0 (len + n) (.g size)) := by
  obtain ⟨cc, lo, hi, hblk, hsz, hbase, hcells, hf0, hf1⟩ := h.row hL hrow
  obtain ⟨rfl, rfl⟩ := hf0 rfl
  obtain ⟨hc1, hc2⟩ := hcap
  have hX' := hX cc e hblk
  have hsum : (len + n) * size = len * size + n * size := Nat.add_mul _ _ _
  have hin0 : AppIn P w ts e size n xv := hin w.drawn
  have hmul : len * size ≤ c * size := Nat.mul_le_mul_right _ hlc
  have hclass := (h.cls id cs k e 0 cl rel hrow)
  obtain ⟨hcn, hcm⟩ := hclass
  have hkm := (hcm m hcls).2
  have hold : ∀ j cs' n' e' fz' rel', st.heap.get j = some (.row cs' n' e' fz' (cl + 1) rel') → j ∈ m.2 ∧ rel' + n' ≤ rel + off + len * size + n * size := by
    intro j cs' n' e' fz' rel' hj
    obtain ⟨x, y⟩ := (h.cls j cs' n' e' fz' cl rel' hj).2 m hcls
    exact ⟨x, by omega⟩
  rcases Nat.lt_or_ge c (len + n) with hroom | hroom
  · -- there is none
    obtain ⟨vs, hv1, hv2⟩ := hnew (w.drawn + 1)
    have hov : ∃ ov : List Value, (Builtin.firstCells size len (.slice (some ⟨L.b, o, none⟩) len c)).run P { w with drawn := w.drawn + 1 } = .ok ov.toArray { w with drawn := w.drawn + 1 } ∧ ov.length = len * size ∧ ∀ i, i < len * size → ov[i]? = cc[L.base + off + i]? := by
      by_cases h0 : len * size = 0
      · refine ⟨[], ?_, by simp [h0], fun i hi => by omega⟩
        show (Go.loadCells (⟨L.b, o, none⟩ : Addr) (len * size)).run P _ = _
        rw [h0]; rfl
      · have hl0 : 0 < len := Nat.pos_of_ne_zero (fun e => h0 (by simp [e]))
        have ho : o = L.base + off := by rcases hc2 with h1 | h1; omega; exact h1
        subst ho
        refine ⟨(cc.toList.drop (L.base + off)).take (len * size), ?_, by simp; omega, fun i hi => ?_⟩
        · exact load_block (w := { w with drawn := w.drawn + 1 }) hblk (by omega)
        · rw [List.getElem?_take_of_lt hi, List.getElem?_drop]
          simp
    obtain ⟨ov, ho1, ho2, ho3⟩ := hov
    obtain ⟨newCap, rest, w', hr, rfl, hge, hrs⟩ := append_grow (ty := ty) hin0 hroom hb hb0 hb1 hln hz hv1 ho1
    have l2 := hv2.length
    obtain ⟨ρ', a1, a2, a3⟩ := h.rowC (cs := PT.lay new (len * size) X) (k := (len + n) * size) (e := e) (cl := cl) (rel := rel + off) (en := rel + off + len * size + n * size) (ms := m.2) (by omega) (by omega) hold (c := ov.toArray ++ vs.toArray ++ rest)
      (fun i a hi => by
        obtain ⟨x, y⟩ := lay_new (k := (len + n) * size) hv2 (by omega) hX' hi
        refine ⟨x, ?_⟩
        rcases y with ⟨y1, v, y2, y3⟩ | ⟨y1, v, y2, y3⟩
        · have hlt := (List.getElem?_eq_some_iff.1 y2).1
          refine ⟨v, ?_, y3⟩
          rw [Array.getElem?_append_left (by simp; omega), Array.getElem?_append_right (by simp; omega)]
          simpa [ho2] using y2
        · refine ⟨v, ?_, y3⟩
          rw [Array.getElem?_append_left (by simp; omega), Array.getElem?_append_left (by simp; omega)]
          simpa [ho3 i y1] using y2) (w.drawn + 1)
    refine ⟨ρ', _, _, hr, a1, a2, .sl _ _ _ _ _ _ _ a3 ⟨?_, .inr (by simp)⟩ hge⟩
    simp only [Array.size_append, List.size_toArray, l2, ho2, hnl]
    rw [hrs]
    have : newCap * size = (len + n) * size + (newCap - (len + n)) * size := by rw [← Nat.add_mul]; congr 1; omega
    omega
  · -- there is room
    have ho : o = L.base + off := by rcases hc2 with h1 | h1; omega; exact h1
    subst ho
    obtain ⟨vs, hv1, hv2⟩ := hnew w.drawn
    have l2 := hv2.length
    have hmul2 : (len + n) * size ≤ c * size := Nat.mul_le_mul_right _ hroom
    have hW := h.own id L hL hro
    have hfit : L.base + off + len * size + vs.length ≤ cc.size := by omega
    have hst := run_storeCells (P := P) (b := L.b) (e := e) vs (L.base + off + len * size) 0 cc w hblk (by omega) (oneAll_one hv2 hone)
    have hr := append_room (ty := ty) (base := some ⟨L.b, L.base + off, none⟩) hin0 hv1 hroom (w' := { w with heap := w.heap.setIfInBounds L.b (.cells (writeCells cc (L.base + off + len * size) vs) e (0, 0)) }) (fun a ha => by cases ha; rw [addr_add]; exact hst) (fun e => by cases e)
    have h1 := h.beyond hblk hW (q := L.base + off + len * size) (vs := vs) hfit (fun j M ob hj hM hob => by
      rcases h.inj j id M L ob _ hj hL hob hrow hM with rfl | hmt
      · rw [hrow] at hob; cases hob
        rw [hL] at hj; cases hj
        exact ⟨_, _, _, _, _, _, rfl, by omega⟩
      · obtain ⟨cs1, n1, e1, fz1, cl1, rel1, cs2, n2, e2, fz2, rel2, rfl, he, hb1, hb2⟩ := hmt
        cases he
        obtain ⟨x, y⟩ := (h.cls j cs1 n1 e1 fz1 cl rel1 hob).2 m hcls
        exact ⟨_, _, _, _, _, _, rfl, by omega⟩)
    have h2 := h1.pendC (cs := PT.lay new (len * size) X) (k := (len + n) * size) (e := e) (fz := 0) (cl := cl) (rel := rel + off) (en := rel + off + len * size + n * size) (ms := m.2) (by omega) (by omega) hold
    have hf := h.fresh
    have hblk' : ({ w with heap := w.heap.setIfInBounds L.b (.cells (writeCells cc (L.base + off + len * size) vs) e (0, 0)) } : World).heap[L.b]? = some (.cells (writeCells cc (L.base + off + len * size) vs) e (0, 0)) := by
      have := lt_of_block hblk
      simp [this]
    have hOR : OR ρ ⟨L.b, L.n, L.base + off⟩ (.row (PT.lay new (len * size) X) ((len + n) * size) e 0 (cl + 1) (rel + off)) (.cells (writeCells cc (L.base + off + len * size) vs) e (0, 0)) := by
      refine ⟨writeCells cc (L.base + off + len * size) vs, 0, 0, rfl, by rw [writeCells_size]; exact hsz, (fun e => by cases e), fun i a hi => ?_, fun _ => ⟨rfl, rfl⟩, fun e => by cases e⟩
      obtain ⟨x, y⟩ := lay_new (k := (len + n) * size) hv2 (by omega) hX' hi
      refine ⟨x, ?_⟩
      show ∃ v, (writeCells cc (L.base + off + len * size) vs)[L.base + off + i]? = some v ∧ _
      rw [writeCells_get vs cc _ _ hfit]
      rcases y with ⟨y1, v, y2, y3⟩ | ⟨y1, v, y2, y3⟩
      · have hlt := (List.getElem?_eq_some_iff.1 y2).1
        refine ⟨v, ?_, y3⟩
        rw [if_pos (by omega), show L.base + off + i - (L.base + off + len * size) = i - len * size from by omega]
        exact y2
      · refine ⟨v, ?_, y3⟩
        rw [if_neg (by omega)]
        exact y2
    have hget : ∀ {j ob}, ρ j ≠ none → (st.heap.set st.next (.row (PT.lay new (len * size) X) ((len + n) * size) e 0 (cl + 1) (rel + off))).get j = some ob → st.heap.get j = some ob := by
      intro j ob hj hg
      rcases PT.get_set hg with ⟨rfl, _⟩ | ⟨_, r⟩
      · exact absurd hf hj
      · exact r
    have h3 := h2.alias (id := st.next) (L := ⟨L.b, L.n, L.base + off⟩) (ob := .row (PT.lay new (len * size) X) ((len + n) * size) e 0 (cl + 1) (rel + off)) (fun ob' hob => by
        rcases PT.get_set hob with ⟨_, r⟩ | ⟨n, _⟩
        · exact r
        · exact absurd rfl n) (Nat.lt_succ_self _) hf h.freshN h.ron hW hblk' hOR (fun j M ob' hj hob hM => by
        have hob' := hget (by rw [hj]; simp) hob
        rcases h.inj j id M L ob' _ hj hL hob' hrow hM with rfl | hmt
        · rw [hrow] at hob'; cases hob'
          rw [hL] at hj; cases hj
          exact ⟨⟨_, _, _, _, _, _, _, _, _, _, _, rfl, rfl, by simp; omega, rfl⟩, ⟨_, _, _, _, _, _, _, _, _, _, _, rfl, rfl, by simp; omega, rfl⟩⟩
        · obtain ⟨cs1, n1, e1, fz1, cl1, rel1, cs2, n2, e2, fz2, rel2, rfl, he, hb1, hb2⟩ := hmt
          cases he
          exact ⟨⟨_, _, _, _, _, _, _, _, _, _, _, rfl, rfl, by simp; omega, hb2.symm⟩, ⟨_, _, _, _, _, _, _, _, _, _, _, rfl, rfl, by simp; omega, hb2⟩⟩)
    refine ⟨_, _, _, hr, Rho.put_le hf, h3, .sl _ _ _ _ ⟨L.b, L.n, L.base + off⟩ _ _ Rho.put_same ⟨?_, .inr (by simp)⟩ hroom⟩
    exact hc1
theorem lenOf_other {P : Program} {xv : Value} {n : Nat} {w : World} (h : (Builtin.lenOf xv).run P w = .ok n w) (w' : World) : (Builtin.lenOf xv).run P w' = .ok n w' := by
  unfold Builtin.lenOf at h ⊢
  split at h <;> simp_all
theorem appendA_run (h : MR N ρ ro st W w) {ts : Array TypeId} {ty t : TypeId} {s x r : AV} {sv xv : Value} {st' : St} (ht : ts[0]? = some t) (hs : VR ρ s sv) (hx : VR ρ x xv) (hr : appendA P ro st t ts[1]? s x = .ok (r, st')) :
    AppOut P N ρ ro st' W w (Builtin.append_ ts ty #[sv, xv]) r := by
  unfold appendA at hr
  split at hr
  · cases hr
  rename_i e size hel
  obtain ⟨hu, hsz⟩ := elemOf_spec hel
  split at hr
  case h_2 => cases hr
  rename_i bytes n hni hbytes hlen
  split at hr
  case h_2 => cases hr
  rename_i hz hb1
  simp only [Bool.and_eq_true] at hz
  obtain ⟨hb0, hz⟩ := hz
  have hb0 : 0 < bytes := blt_true hb0
  have hb1 : bytes ≤ 100000 := ble_true hb1
  obtain ⟨new, hnew, hr2⟩ := Rs.bind_ok hr
  clear hr
  have hr := hr2
  clear hr2
  split at hr
  · cases hr
  rename_i hone
  have hin : ∀ d, AppIn P { w with drawn := d } ts e size n xv := fun d => ⟨⟨t, ht, hu⟩, hsz, hni, lenOf_run hx hlen _⟩
  have hin0 : AppIn P w ts e size n xv := hin w.drawn
  have hfirst : ∀ d, ∃ vs : List Value, (Builtin.firstCells size n xv).run P { w with drawn := d } = .ok vs.toArray { w with drawn := d } ∧ VRs ρ new vs ∧ new.length = n * size := fun d => firstCells_run (h.drawn d) hx hlen (Nat.le_refl _) hnew
  obtain ⟨vs0, hv0, hV0, hnl⟩ := hfirst w.drawn
  split at hr
  · -- onto nil
    cases hs
    split at hr
    · cases hr
      have : vs0 = [] := by have := hV0.length; simp at hnl; simpa [hnl] using this
      subst this
      exact ⟨ρ, w, _, append_room hin0 hv0 (by simp) (fun a ha => by cases ha) (fun _ => rfl), Rho.le_refl _, h, .nilsl⟩
    · rename_i hn
      split at hr
      · rename_i hn1
        have hn1 := ble_true hn1
        simp only [Rs.ok.injEq] at hr
        obtain ⟨vs, hv1, hv2, _⟩ := hfirst (w.drawn + 1)
        have hn0 : 0 < n := Nat.pos_of_ne_zero hn
        obtain ⟨newCap, rest, w', hrun, rfl, hge, hrs⟩ := append_grow (ty := ty) (base := none) (len := 0) (c := 0) hin0 (by omega) hbytes hb0 hb1 (by omega) hz hv1 (ov := []) rfl
        obtain ⟨ρ', a1, a2, a3⟩ := h.grown (.nil : VRs ρ [] []) hv2 (k := n * size) (e := e) (size := size) (m := n) (newCap := newCap) (rest := rest) (by simpa using hnl.symm) rfl (by omega) (by simpa using hrs) (w.drawn + 1)
        have e1 : (st.grown (PT.lay new 0 .nil) (Nat.mul n size) e size n) = (r, st') := hr
        have e2 : r = _ := (congrArg Prod.fst e1).symm
        have e3 : st' = _ := (congrArg Prod.snd e1).symm
        rw [e2, e3]
        rw [Nat.zero_add] at hrun
        exact ⟨ρ', _, _, hrun, a1, a2, a3⟩
      · cases hr
  · -- onto a slice
    rename_i id off len cap
    cases hs with | sl _ _ _ _ L c o hL hcap hlc =>
    split at hr
    · cases hr
    · rename_i hln
      cases hr
      have : vs0 = [] := by have := hV0.length; simp at hnl; simpa [hnl] using this
      subst this
      exact ⟨ρ, w, _, append_room hin0 hv0 (by simpa using hlc) (fun a ha => rfl) (fun e => by cases e), Rho.le_refl _, h, .sl _ _ _ _ _ _ _ hL hcap (by simpa using hlc)⟩
    · rename_i n _ _ hn hln
      have hln : len + n ≤ 100000 := ble_true hln
      have hn0 : 0 < n := Nat.pos_of_ne_zero (fun e => hn (by simpa using e))
      split at hr
      · rename_i cc
        obtain ⟨rfl, rfl⟩ := hcap
        split at hr
        · rename_i hroom
          have hroom : len + n ≤ c := ble_true hroom
          obtain ⟨st1, hst, hr⟩ := Rs.bind_ok hr
          cases hr
          obtain ⟨w', hw, hM, _⟩ := h.stores (P := P) hL hst hV0
          refine ⟨ρ, w', _, append_room hin0 hv0 hroom (fun a ha => ?_) (fun e => by cases e), Rho.le_refl _, hM, .sl _ _ _ _ L _ _ hL ⟨rfl, rfl⟩ hroom⟩
          cases ha
          rw [addr_add]
          have : L.base + off + len * size = L.base + Nat.add off (Nat.mul len size) := Nat.add_assoc _ _ _
          rw [this]
          exact hw
        · rename_i hroom
          have hroom : ¬ (len + n ≤ c) := fun hh => by
            have := Nat.ble_eq_true_of_le hh
            exact Bool.noConfusion (this.symm.trans hroom)
          obtain ⟨old, ho, hr2⟩ := Rs.bind_ok hr
          clear hr
          have hr := hr2
          clear hr2
          obtain ⟨vs, hv1, hv2, _⟩ := hfirst (w.drawn + 1)
          obtain ⟨ov, ho1, ho2, ho3⟩ := firstCells_run (h.drawn (w.drawn + 1)) (P := P) (.sl id off len (.k c) L c _ hL ⟨rfl, rfl⟩ hlc) rfl (Nat.le_refl _) ho
          obtain ⟨newCap, rest, w', hrun, rfl, hge, hrs⟩ := append_grow (ty := ty) hin0 (by omega) hbytes hb0 hb1 hln hz hv1 ho1
          obtain ⟨ρ', a1, a2, a3⟩ := h.grown ho2 hv2 (k := (len + n) * size) (e := e) (size := size) (m := len + n) (newCap := newCap) (rest := rest) (by rw [ho3, hnl, Nat.add_mul]) rfl hge hrs (w.drawn + 1)
          simp only [Rs.ok.injEq] at hr
          have e1 : (st.grown (PT.lay new (Nat.mul len size) (PT.lay old 0 .nil)) (Nat.mul (Nat.add len n) size) e size (Nat.add len n)) = (r, st') := hr
          have e0 : Nat.mul len size = old.length := ho3.symm
          rw [e0] at e1
          have e2 : r = _ := (congrArg Prod.fst e1).symm
          have e3 : st' = _ := (congrArg Prod.snd e1).symm
          rw [e2, e3]
          exact ⟨ρ', _, _, hrun, a1, a2, a3⟩
      · rename_i sz
        split at hr
        case h_2 => cases hr
        rename_i cs k e' cl rel hsz' hro hrow
        have hro : ro ≤ id := blt_false hro
        have hsz' := beq_true hsz'
        subst hsz'
        split at hr
        case h_2 => cases hr
        rename_i cl m hee hcls
        have hee := beq_true hee
        subst hee
        dsimp only at hr
        split at hr
        case h_2 => cases hr
        rename_i hp hk
        have hp : m.1 ≤ rel + off + len * sz := ble_true hp
        have hk : rel + k ≤ m.1 := ble_true hk
        have hfirst' : ∀ d, ∃ vs : List Value, (Builtin.firstCells sz n xv).run P { w with drawn := d } = .ok vs.toArray { w with drawn := d } ∧ VRs ρ new vs := fun d => let ⟨a, b, c, _⟩ := hfirst d; ⟨a, b, c⟩
        split at hr
        · cases hr
          refine append_open h hL hro hrow hcls hp hcap hlc hn0 (fun cc e' hblk i a hi => ?_) hin hfirst' hnl hone hbytes hb0 hb1 hln hz
          obtain ⟨cc', lo, hi', hblk', _, _, hcells, _⟩ := h.row hL hrow
          rw [hblk'] at hblk; cases hblk
          obtain ⟨x, v, y, z⟩ := hcells i a hi
          exact ⟨by omega, v, by simpa using y, z⟩
        · obtain ⟨old, ho, hr⟩ := Rs.bind_ok hr
          cases hr
          refine append_open h hL hro hrow hcls hp hcap hlc hn0 (fun cc e' hblk i a hi => ?_) hin hfirst' hnl hone hbytes hb0 hb1 hln hz
          rcases PT.get_lay hi with ⟨_, y⟩ | ⟨_, y⟩
          · obtain ⟨ov, h1, h2, h3⟩ := h.loads hL ho
            obtain ⟨v, hv, hR⟩ := h1.get y
            have hlt := (List.getElem?_eq_some_iff.1 y).1
            have hol := loads_length ho
            have := h3 _ _ hv
            refine ⟨by simp only [Nat.sub_zero] at hlt; rw [hol] at hlt; exact hlt, v, ?_, hR⟩
            simpa [World.cell?, hblk] using this
          · cases y
      
  · cases hr
end
end Go.Proofs.YteegpmimbbgdlaaGreatDoor.Ab
