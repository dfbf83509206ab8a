import Derived.Test.YtjifnmilimdfdaaGreatDoorLoud4
/- Where a map is gone through in one order or another: what both come to. -/
set_option linter.unusedVariables false
set_option linter.unusedSimpArgs false
set_option linter.unnecessarySimpa false
namespace Go.Proofs.YtjifnmilimdfdaaGreatDoor.Ab
open Go Go.RowKit

theorem eqBytes_eq {a b : List UInt8} (h : eqBytes a b = true) : a = b := by
  rw [eqBytes_iff] at h
  exact eq_of_beq h
theorem eqCap_eq {a b : Cap} (h : eqCap a b = true) : a = b := by
  cases a <;> cases b <;> simp only [eqCap] at h <;> first | (cases h; done) | (rw [beq_true h])
theorem eqAVs_eq {f : AV → AV → Bool} (hf : ∀ a b, f a b = true → a = b) : ∀ {a b : List AV}, eqAVs f a b = true → a = b
  | [], [], _ => rfl
  | [], _ :: _, h => by cases h
  | _ :: _, [], h => by cases h
  | x :: r, y :: s, h => by
    simp only [eqAVs] at h
    split at h
    · rename_i h1
      rw [hf x y h1, eqAVs_eq hf h]
    · cases h
theorem same_eq : ∀ (n : Nat) (a b : AV), AV.same n a b = true → a = b
  | 0, a, b, h => by cases h
  | n + 1, a, b, h => by
    have ih := same_eq n
    cases a <;> cases b <;> simp only [AV.same] at h <;> first
      | rfl
      | (exact Bool.noConfusion h)
      | skip
    all_goals (try simp only [Bool.and_eq_true, decide_eq_true_eq, beq_iff_eq] at h)
    · rw [h]
    · rw [h.1, h.2]
    · rw [h.1, beq_true h.2]
    · rw [eqBytes_eq h]
    · rw [beq_true h.1, beq_true h.2]
    · rw [beq_true h.1.1.1, beq_true h.1.1.2, beq_true h.1.2, eqCap_eq h.2]
    · rw [beq_true h]
    · rw [beq_true h.1.1, eqAVs_eq ih h.1.2, eqAVs_eq ih h.2]
    · rw [beq_true h.1, ih _ _ h.2]
    · rw [eqAVs_eq ih h]
    · rw [eqAVs_eq ih h]
    · rw [h.1, eqSX_spec h.2]
    · rw [eqSX_spec h]
    · rw [eqSX_spec h]
theorem eqPT_eq : ∀ {t u : PT AV}, eqPT t u = true → t = u
  | .nil, .nil, _ => rfl
  | .nil, .node _ _ _, h => by cases h
  | .node _ _ _, .nil, h => by cases h
  | .node l v r, .node l' v' r', h => by
    simp only [eqPT, Bool.and_eq_true] at h
    obtain ⟨⟨h1, h2⟩, h3⟩ := h
    rw [eqPT_eq h2, eqPT_eq h3]
    congr 1
    cases v <;> cases v' <;> first | rfl | (exact Bool.noConfusion h1) | (rw [same_eq _ _ _ h1])
theorem eqOb_eq {a b : Ob} (h : eqOb a b = true) : a = b := by
  cases a <;> cases b <;> simp only [eqOb] at h <;> first | (cases h; done) | skip
  simp only [Bool.and_eq_true] at h
  obtain ⟨⟨⟨⟨⟨h1, h2⟩, h3⟩, h4⟩, h5⟩, h6⟩ := h
  rw [eqPT_eq h1, beq_true h2, beq_true h3, beq_true h4, beq_true h5, beq_true h6]
theorem eqEs_eq : ∀ {a b : List (AV × AV)}, eqEs a b = true → a = b
  | [], [], _ => rfl
  | [], _ :: _, h => by cases h
  | _ :: _, [], h => by cases h
  | x :: r, y :: s, h => by
    simp only [eqEs] at h
    split at h
    · rename_i h1 h2
      obtain ⟨x1, x2⟩ := x
      obtain ⟨y1, y2⟩ := y
      have e1 : x1 = y1 := same_eq _ _ _ h1
      have e2 : x2 = y2 := same_eq _ _ _ h2
      rw [e1, e2, eqEs_eq h]
    · cases h
theorem eqBlock_eq {a b : Ob} (h : eqBlock a b = true) : a = b := by
  cases a <;> cases b <;> simp only [eqBlock] at h <;> first | (cases h; done) | skip
  · exact eqOb_eq h
  · simp only [Bool.and_eq_true, beq_iff_eq] at h
    rw [h.1, eqEs_eq h.2]
  · simp only [Bool.and_eq_true] at h
    rw [eqBytes_eq h.1, beq_true h.2]
  · rw [eqEs_eq h]
theorem eqCls_eq (a b : Nat × List Nat) (h : eqCls a b = true) : a = b := by
  simp only [eqCls, Bool.and_eq_true, decide_eq_true_eq] at h
  exact Prod.ext (beq_true h.1) h.2
theorem dropE_perm {x : AV × AV} : ∀ {l l' : List (AV × AV)}, dropE x l = some l' → l.Perm (x :: l')
  | [], l', h => by cases h
  | y :: r, l', h => by
    unfold dropE at h
    split at h
    · rename_i h1 h2
      cases h
      obtain ⟨x1, x2⟩ := x
      obtain ⟨y1, y2⟩ := y
      have e1 : x1 = y1 := same_eq _ _ _ h1
      have e2 : x2 = y2 := same_eq _ _ _ h2
      rw [e1, e2]
    · split at h
      · rename_i r' hr
        cases h
        exact ((dropE_perm hr).cons y).trans (List.Perm.swap x y r')
      · cases h
theorem permE_perm : ∀ {a b : List (AV × AV)}, permE a b = true → a.Perm b
  | [], [], _ => .nil
  | [], _ :: _, h => by cases h
  | x :: r, b, h => by
    simp only [permE] at h
    split at h
    · rename_i b' hb
      exact ((permE_perm h).cons x).trans (dropE_perm hb).symm
    · cases h
/-- A block of which less is told. -/
def WkOb (a b : Ob) : Prop := a = b ∨ ∃ es fs, entriesOf a = some es ∧ b = .mset fs ∧ es.Perm fs
theorem joinOb_spec {a b c : Ob} (h : joinOb a b = some c) : WkOb a c ∧ WkOb b c := by
  unfold joinOb at h
  split at h
  · rename_i he
    cases h
    exact ⟨.inl rfl, .inl (eqBlock_eq he).symm⟩
  · split at h
    · rename_i es fs h1 h2
      split at h
      · rename_i hp
        cases h
        exact ⟨.inr ⟨es, es, h1, rfl, List.Perm.refl _⟩, .inr ⟨fs, es, h2, rfl, (permE_perm hp).symm⟩⟩
      · cases h
    · cases h
theorem joinPT_get {α : Type} {f : α → α → Option α} : ∀ {t u : PT α} {k : Nat} {x : α}, (joinPT f t u).get k = some x → ∃ a b, t.get k = some a ∧ u.get k = some b ∧ f a b = some x
  | .nil, u, k, x, h => by cases h
  | .node l v r, .nil, k, x, h => by cases h
  | .node l v r, .node l' v' r', k, x, h => by
    simp only [joinPT] at h
    cases k with
    | zero =>
      rw [PT.get_node0] at h
      split at h
      · exact ⟨_, _, PT.get_node0 .., PT.get_node0 .., h⟩
      · cases h
    | succ k =>
      rw [PT.get_nodeS] at h
      rw [PT.get_nodeS, PT.get_nodeS]
      split at h
      · exact joinPT_get h
      · exact joinPT_get h
/-- A state of which less is told. -/
structure WkSt (a b : St) : Prop where
  next : a.next ≤ b.next
  facts : b.facts = []
  heap : ∀ id ob, b.heap.get id = some ob → ∃ ob', a.heap.get id = some ob' ∧ WkOb ob' ob
  cls : ∀ k m, b.cls.get k = some m → a.cls.get k = some m
theorem MR.weak {N : Nat → Prop} {ρ : Rho} {ro : Nat} {st st2 : St} {W w : World} (h : MR N ρ ro st W w) (hw : WkSt st st2) : MR N ρ ro st2 W w where
  below := h.below
  no := fun id hi => ⟨(h.no id hi).1, Nat.lt_of_lt_of_le (h.no id hi).2 hw.next⟩
  old := h.old
  own := h.own
  lt := h.lt
  next := fun id L hL => Nat.lt_of_lt_of_le (h.next id L hL) hw.next
  ron := Nat.le_trans h.ron hw.next
  nx := fun id ob ho => let ⟨_, h1, _⟩ := hw.heap id ob ho; Nat.lt_of_lt_of_le (h.nx id _ h1) hw.next
  obs := fun id L ob hL ho => by
    obtain ⟨ob', h1, h2⟩ := hw.heap id ob ho
    obtain ⟨o, h3, h4⟩ := h.obs id L ob' hL h1
    refine ⟨o, h3, ?_⟩
    rcases h2 with rfl | ⟨es, fs, he, rfl, hp⟩
    · exact h4
    · unfold entriesOf at he
      split at he
      · cases he
        obtain ⟨arr, clock, h5, h6, h7, h8⟩ := h4
        exact ⟨arr, clock, _, h5, hp, h6, h7, h8 rfl⟩
      · cases he
        obtain ⟨arr, clock, l, h5, h6, h7, h8⟩ := h4
        exact ⟨arr, clock, l, h5, h6.trans hp, h7, h8⟩
      · cases he
  inj := fun i j L M ob ob' hL hM hi hj hb => by
    obtain ⟨x, h1, h2⟩ := hw.heap i ob hi
    obtain ⟨y, h3, h4⟩ := hw.heap j ob' hj
    rcases h.inj i j L M x y hL hM h1 h3 hb with e | hm
    · exact .inl e
    · right
      obtain ⟨cs, n, e, fz, cl, rel, cs', n', e', fz', rel', hx, hy, hr⟩ := hm
      rcases h2 with rfl | ⟨es, fs, he, _⟩
      · rcases h4 with rfl | ⟨es, fs, he, _⟩
        · exact ⟨cs, n, e, fz, cl, rel, cs', n', e', fz', rel', hx, hy, hr⟩
        · rw [hy] at he; cases he
      · rw [hx] at he; cases he
  cls := fun id cs n e fz cl rel hr => by
    obtain ⟨x, h1, h2⟩ := hw.heap _ _ hr
    rcases h2 with rfl | ⟨es, fs, _, he, _⟩
    · obtain ⟨h3, h4⟩ := h.cls id cs n e fz cl rel h1
      exact ⟨Nat.le_trans h3 hw.next, fun m hm => h4 m (hw.cls _ _ hm)⟩
    · cases he
  fx := by rw [hw.facts]; intro p hp; cases hp
theorem maxA_left (a b : Nat) : a ≤ maxA a b := by
  unfold maxA
  split
  · rename_i h; exact ble_true h
  · exact Nat.le_refl _
theorem maxA_right (a b : Nat) : b ≤ maxA a b := by
  unfold maxA
  split
  · exact Nat.le_refl _
  · rename_i h
    rcases Nat.lt_or_ge a b with h1 | h1
    · have := Nat.ble_eq_true_of_le (Nat.le_of_lt h1)
      rw [this] at h; cases h
    · exact h1
/-- A frame of which less is told. -/
structure WkFr (a b : Fr) : Prop where
  n : b.n = a.n
  g : b.g = a.g
  ds : b.ds = a.ds
  t : ∀ k v, b.t.get k = some v → a.t.get k = some v
theorem WkFr.run {ρ : Rho} {a b : Fr} {x : Act} (hw : WkFr a b) (h : FR ρ a x) : FR ρ b x where
  size := by rw [hw.n]; exact h.size
  get := fun t ht => by
    have h1 := h.get t ht
    simp only [Fr.get] at h1 ⊢
    split
    · rename_i v hv
      rw [hw.t t v hv] at h1
      exact h1
    · exact .top _
  glob := by rw [hw.g]; exact h.glob
  ds := by rw [hw.ds]; exact h.ds
theorem joinAV_spec {a b c : AV} (h : joinAV a b = some c) : c = a ∧ c = b := by
  unfold joinAV at h
  split at h
  · rename_i he
    cases h
    exact ⟨rfl, same_eq _ _ _ he⟩
  · cases h
theorem joinCls_spec {a b c : Nat × List Nat} (h : joinCls a b = some c) : c = a ∧ c = b := by
  unfold joinCls at h
  split at h
  · rename_i he
    cases h
    exact ⟨rfl, eqCls_eq _ _ he⟩
  · cases h
theorem joinEx_spec {a b : Ex} (h : joinEx a b = true) : a = b := by
  cases a <;> cases b <;> simp only [joinEx] at h <;> first | rfl | (cases h; done) | (rw [beq_true h])
theorem joinR_spec {x y z : Ex × Fr × St} (h : joinR x y = .ok z) : (z.1 = x.1 ∧ WkFr x.2.1 z.2.1 ∧ WkSt x.2.2 z.2.2) ∧ (z.1 = y.1 ∧ WkFr y.2.1 z.2.1 ∧ WkSt y.2.2 z.2.2) := by
  unfold joinR at h
  split at h
  case h_2 => cases h
  rename_i h1 h2 h3 h4 h5
  split at h
  case h_2 => cases h
  rename_i h6 h7
  cases h
  refine ⟨⟨rfl, ⟨rfl, rfl, h2.symm, fun k v hv => ?_⟩, ⟨maxA_left _ _, rfl, fun id ob ho => ?_, fun k m hm => ?_⟩⟩, ⟨joinEx_spec h1, ⟨beq_true h6, beq_true h7, h3.symm, fun k v hv => ?_⟩, ⟨maxA_right _ _, rfl, fun id ob ho => ?_, fun k m hm => ?_⟩⟩⟩
  · obtain ⟨a, b, e1, e2, e3⟩ := joinPT_get hv
    rw [e1, (joinAV_spec e3).1]
  · obtain ⟨a, b, e1, e2, e3⟩ := joinPT_get ho
    exact ⟨a, e1, (joinOb_spec e3).1⟩
  · obtain ⟨a, b, e1, e2, e3⟩ := joinPT_get hm
    rw [e1, (joinCls_spec e3).1]
  · obtain ⟨a, b, e1, e2, e3⟩ := joinPT_get hv
    rw [e2, (joinAV_spec e3).2]
  · obtain ⟨a, b, e1, e2, e3⟩ := joinPT_get ho
    exact ⟨b, e2, (joinOb_spec e3).2⟩
  · obtain ⟨a, b, e1, e2, e3⟩ := joinPT_get hm
    rw [e2, (joinCls_spec e3).2]
/-- What holds of a state and a frame holds of those of which less is told. -/
structure Wk (x z : Ex × Fr × St) : Prop where
  ex : z.1 = x.1
  fr : ∀ ρ a, FR ρ x.2.1 a → FR ρ z.2.1 a
  st : ∀ N ρ ro W w, MR N ρ ro x.2.2 W w → MR N ρ ro z.2.2 W w
theorem Wk.rfl' (x : Ex × Fr × St) : Wk x x := ⟨rfl, fun _ _ h => h, fun _ _ _ _ _ h => h⟩
theorem Wk.trans {x y z : Ex × Fr × St} (h : Wk x y) (k : Wk y z) : Wk x z := ⟨k.ex.trans h.ex, fun ρ a hx => k.fr ρ a (h.fr ρ a hx), fun N ρ ro W w hx => k.st N ρ ro W w (h.st N ρ ro W w hx)⟩
theorem joinAll_spec {α : Type} {f : α → Rs (Ex × Fr × St)} : ∀ {l : List α} {z : Ex × Fr × St}, joinAll f l = .ok z → ∀ p ∈ l, ∃ x, f p = .ok x ∧ Wk x z
  | [], z, h, p, hp => by cases hp
  | [q], z, h, p, hp => by
    obtain rfl := List.mem_singleton.1 hp
    exact ⟨z, h, .rfl' z⟩
  | q :: q2 :: r, z, h, p, hp => by
    unfold joinAll at h
    obtain ⟨x, hx, h⟩ := Rs.bind_ok h
    obtain ⟨y, hy, h⟩ := Rs.bind_ok h
    obtain ⟨⟨a1, a2, a3⟩, ⟨b1, b2, b3⟩⟩ := joinR_spec h
    rcases List.mem_cons.1 hp with rfl | hp
    · exact ⟨x, hx, ⟨a1, fun ρ a hf => a2.run hf, fun N ρ ro W w hm => hm.weak a3⟩⟩
    · obtain ⟨x', h1, h2⟩ := joinAll_spec hy p hp
      exact ⟨x', h1, h2.trans ⟨b1, fun ρ a hf => b2.run hf, fun N ρ ro W w hm => hm.weak b3⟩⟩
end Go.Proofs.YtjifnmilimdfdaaGreatDoor.Ab
