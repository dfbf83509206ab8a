/- A table of calls: a state may leave blocks out; a call whose answer is known. -/
import Derived.Test.YtjifnmilimdfdaaGreatDoorWrap
namespace Go.Proofs.YtjifnmilimdfdaaGreatDoor.Ab
open Go
/-- Blocks may be left out. -/
theorem MR.sub {N : Nat → Prop} {ρ : Rho} {ro : Nat} {st st2 : St} {W w : World} (h : MR N ρ ro st W w) (hn : st2.next = st.next) (hf : st2.facts = st.facts)
    (hh : ∀ id ob, st2.heap.get id = some ob → st.heap.get id = some ob) (hc : ∀ k m, st2.cls.get k = some m → st.cls.get k = some m) : MR N ρ ro st2 W w where
  below := h.below
  no := fun id hi => by rw [hn]; exact h.no id hi
  old := h.old
  own := h.own
  lt := h.lt
  next := fun id L hL => by rw [hn]; exact h.next id L hL
  ron := by rw [hn]; exact h.ron
  nx := fun id ob ho => by rw [hn]; exact h.nx id ob (hh id ob ho)
  obs := fun id L ob hL ho => h.obs id L ob hL (hh id ob ho)
  inj := fun i j L M ob ob' hL hM hi hj => h.inj i j L M ob ob' hL hM (hh _ _ hi) (hh _ _ hj)
  cls := fun id cs n e fz cl rel hr => by
    rw [hn]
    obtain ⟨h1, h2⟩ := h.cls id cs n e fz cl rel (hh _ _ hr)
    exact ⟨h1, fun m hm => h2 m (hc _ _ hm)⟩
  fx := by rw [hf]; exact h.fx
noncomputable section
/-- All that a tree holds another one holds too. -/
def inPT {α : Type} (eq : α → α → Bool) (t : PT α) : PT α → Bool := match t with
  | .nil => fun _ => true
  | .node l v r => fun u => match u with
    | .nil => false
    | .node l' v' r' => (match v with
      | none => true
      | some a => match v' with
        | some b => eq a b
        | none => false) && (inPT eq l l' && inPT eq r r')
theorem inPT_get {α : Type} {eq : α → α → Bool} (he : ∀ a b, eq a b = true → a = b) {t : PT α} : ∀ {u : PT α} {k : Nat} {x : α}, inPT eq t u = true → t.get k = some x → u.get k = some x := by
  induction t with
  | nil => intro u k x _ h; cases h
  | node l v r ihl ihr =>
    intro u k x h hg
    cases u with
    | nil => cases h
    | node l' v' r' =>
      simp only [inPT, Bool.and_eq_true] at h
      obtain ⟨h1, h2, h3⟩ := h
      cases k with
      | zero =>
        rw [PT.get_node0] at hg ⊢
        subst hg
        cases v' with
        | none => cases h1
        | some b => rw [he _ _ h1]
      | succ k =>
        rw [PT.get_nodeS] at hg ⊢
        split at hg
        · exact ihl h2 hg
        · exact ihr h3 hg
/-- One state lies within another; facts: none. -/
def inSt (a b : St) : Bool := match a.facts, b.facts with
  | [], [] => Nat.beq a.next b.next && (inPT eqBlock a.heap b.heap && inPT eqCls a.cls b.cls)
  | _, _ => false
theorem MR.inSt {N : Nat → Prop} {ρ : Rho} {ro : Nat} {st st2 : St} {W w : World} (h : MR N ρ ro st W w) (hi : Ab.inSt st2 st = true) : MR N ρ ro st2 W w := by
  unfold Ab.inSt at hi
  split at hi
  · rename_i h1 h2
    simp only [Bool.and_eq_true] at hi
    exact h.sub (beq_true hi.1) (by rw [h1, h2]) (fun id ob => inPT_get (fun a b => eqBlock_eq) hi.2.1) (fun k m => inPT_get eqCls_eq hi.2.2)
  · cases hi
/-- A call whose answer is known: from a state that holds at least so much, to one of which so much is told. -/
structure Entry where
  args : List AV
  st : St
  v : AV
  out : St
def memoF (l : List Entry) (args : List AV) (st : St) : Rs (En × St) := match l with
  | [] => .bad "memo"
  | e :: r => match Nat.beq e.st.next st.next with
    | false => memoF r args st
    | true => match eqAVs (AV.same 20) e.args args with
      | false => memoF r args st
      | true => match inSt e.st st with
        | false => memoF r args st
        | true => .ok (.ret e.v, e.out)
def EntryOk (E : Env) (f : FuncId) (e : Entry) : Prop :=
  ∀ (N : Nat → Prop) (ρ : Rho) (W w : World) (vs : Array Value), MR N ρ E.ro e.st W w → Gl ρ E.gl → VRs ρ e.args vs.toList → CallsTo E.P f vs w (EnR N ρ E.ro W (.ret e.v) e.out)
def entryRun (e : Entry) (r : Rs (En × St)) : Bool := match r with
  | .ok (.ret v, st) => AV.same 20 v e.v && inSt e.out st
  | _ => false
theorem EntryOk.of_ev {E : Env} (hF : Fit E) {n : Nat} {f : FuncId} {e : Entry} (h : entryRun e ((ev E n).call f e.args e.st) = true) : EntryOk E f e := by
  intro N ρ W w vs hM hg hv
  unfold entryRun at h
  split at h
  · rename_i v st hr
    simp only [Bool.and_eq_true] at h
    obtain rfl := same_eq _ _ _ h.1
    have key : ∀ en w', EnR N ρ E.ro W (.ret e.v) st en w' → EnR N ρ E.ro W (.ret e.v) e.out en w' := fun en w' ⟨ρ', h1, h2, h3⟩ => ⟨ρ', h1, h2.inSt h.2, h3⟩
    rcases (ev_sound hF n).call f e.args _ _ _ hr N ρ W w vs hM hg hv with ⟨q, w', h1, h2⟩ | ⟨h1, h2⟩
    · exact .inl ⟨q, w', h1, key _ _ h2⟩
    · exact .inr ⟨h1, h2.mono fun en w' hx => key _ _ hx⟩
  · cases h
theorem memoF_run {E : Env} {f : FuncId} : ∀ {l : List Entry}, (∀ e ∈ l, EntryOk E f e) → ∀ args st en st', memoF l args st = .ok (en, st') → ∀ (N : Nat → Prop) (ρ : Rho) (W w : World) (vs : Array Value), MR N ρ E.ro st W w → Gl ρ E.gl → VRs ρ args vs.toList → CallsTo E.P f vs w (EnR N ρ E.ro W en st')
  | [], _, args, st, en, st', h, _, _, _, _, _, _, _, _ => by cases h
  | e :: r, hl, args, st, en, st', h, N, ρ, W, w, vs, hM, hg, hv => by
    have ih := memoF_run (E := E) (f := f) (l := r) (fun x hx => hl x (List.mem_cons_of_mem _ hx)) args st en st'
    unfold memoF at h
    split at h
    · exact ih h N ρ W w vs hM hg hv
    · split at h
      · exact ih h N ρ W w vs hM hg hv
      · rename_i ha
        split at h
        · exact ih h N ρ W w vs hM hg hv
        · rename_i hi
          cases h
          have := eqAVs_eq (same_eq 20) ha
          exact hl e (List.mem_cons_self ..) N ρ W w vs (hM.inSt hi) hg (by rw [this]; exact hv)
/-- The reading with a table of calls. -/
def Env.memo (E : Env) (l : FuncId → List Entry) : Env := { E with fast := fun f => match l f with
  | [] => E.fast f
  | es => some fun _ args st => memoF es args st }
theorem Fit.memo {E : Env} (hF : Fit E) (l : FuncId → List Entry) (h : ∀ f, ∀ e ∈ l f, EntryOk E f e) : Fit (E.memo l) where
  draw := hF.draw
  ext := hF.ext
  name := hF.name
  fast := fun f F hf call hc args st en st' hr N ρ W w vs hM hg hv => by
    simp only [Env.memo] at hf
    split at hf
    · exact hF.fast f F hf call hc args st en st' hr N ρ W w vs hM hg hv
    · cases hf
      exact memoF_run (E := E) (h f) args st en st' hr N ρ W w vs hM hg hv
end
end Go.Proofs.YtjifnmilimdfdaaGreatDoor.Ab
