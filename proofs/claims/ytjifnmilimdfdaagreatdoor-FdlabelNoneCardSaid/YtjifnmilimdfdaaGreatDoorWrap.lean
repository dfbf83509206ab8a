/- From a run of the reading to what a law's row asks of its call. -/
import Derived.Test.YtjifnmilimdfdaaGreatDoorSeed
import Derived.ChangeStays
import Derived.ChangeSame
import Derived.ProofKit
import Derived.OpenShut
import Derived.Deep.DeepHandedRow
import Derived.Lay
set_option linter.unusedVariables false
set_option linter.unusedSimpArgs false
set_option linter.unnecessarySimpa false
namespace Go.Proofs.YtjifnmilimdfdaaGreatDoor.Ab
open Go Go.RowKit Go.WideShapes Go.ChangeShapes

section
variable {H : Type} {enc : TypeId × Value → H} {P : Program}
theorem post_below {f : Func} {s : ChangeSpec} {apart fresh handsOn again : Bool} {W W' : World} {args : Array Value} {v : Value} {ds gs : List (DataW H)} {before pa pv : List MemPlace}
    (hW : DataW.Whole enc P f.params.toList s.vars apart W args.toList ds gs before)
    (hres : ∀ (b : Nat) (sp : Nat → Bool) (hd : Bool), DataW.TrodAll enc P W' b sp hd f.resultTypes.toList (v.resultList f.resultTypes.size) (s.fn H (ds ++ gs)).results [])
    (hargs : ∀ sp : Nat → Bool, (∀ p ∈ before, sp p.block = true) → DataW.TrodAll enc P W' 0 sp true f.params.toList args.toList (s.fn H (ds ++ gs)).args pa)
    (hvars : ∀ sp : Nat → Bool, (∀ p ∈ before, sp p.block = true) → DataW.TrodVars enc P W' sp s.vars (s.fn H (ds ++ gs)).vars pv)
    (hps : before = pa ++ pv) (hb : Below W.heap.size W W')
    (hok : ∀ (j : Nat) (t : TypeId) (r : Value), f.resultTypes[j]? = some t → (v.resultList f.resultTypes.size)[j]? = some r → Value.okWide P W' .any 0 t r) :
    s.post enc P f apart fresh handsOn again W args v W' := by
  have hlt : ∀ p ∈ before, p.block < W.heap.size := fun p hp => hW.lt p hp
  have hold : ∀ p ∈ before, (fun b => decide (b < W.heap.size)) p.block = true := fun p hp => by simpa using hlt p hp
  refine ⟨ds, gs, before, [], pa, pv, hW, hres _ _ _, hargs _ hold, hvars _ hold, World.keptBut_mono (fun p hp => ⟨hp, ?_⟩) (hb.frame (· ∈ before)), fun _ => ?_⟩
  · rw [hps, List.mem_append] at hp
    exact Or.inr hp
  · obtain ⟨_, _, _, _, _, hz, hn⟩ := hW
    refine ⟨hok, _, _, ([] ++ pa) ++ pv, ⟨[] ++ pa, pv, trodAll_append (hargs _ (fun _ _ => rfl)) (hres _ _ _), hvars _ (fun _ _ => rfl), rfl, ?_, ?_⟩, ?_⟩
    · intro b off hp
      have hin : MemPlace.cell b off ∈ before := by rw [hps]; simpa using hp
      rw [hb.frozen (hlt _ hin)]
      exact hz b off hin
    · intro ha
      have := hn ha
      rw [hps] at this
      simpa using this
    · intro p hp _
      rw [hps]
      simpa using hp
theorem trodAll_stays {T : TypeId → Prop} (K : Kids P T) (hsz : ∀ {t e : TypeId}, T t → P.underlying t = some (.slice e) → 0 < P.cellsOf e) {W W' : World} {sp : Nat → Bool} :
    ∀ {ts : List TypeId} {vs : List Value} {ds : List (DataW H)} {p : List MemPlace}, DataW.TrodAll enc P W 0 (fun _ => true) true ts vs ds p → (∀ t ∈ ts, T t) → (∀ q ∈ p, W.sameAt W' q) → (∀ q ∈ p, sp q.block = true) → DataW.TrodAll enc P W' 0 sp true ts vs ds p
  | [], [], [], p, h, _, _, _ => h
  | t :: ts, v :: vs, d :: ds, p, h, ht, hs, hsp => by
    obtain ⟨p1, q1, ⟨fuel, h1⟩, h2, rfl⟩ := h
    refine ⟨p1, q1, ⟨fuel, ?_⟩, trodAll_stays K hsz h2 (fun t h => ht t (.tail _ h)) (fun q hq => hs q (List.mem_append_right _ hq)) (fun q hq => hsp q (List.mem_append_right _ hq)), rfl⟩
    exact DataW.trod_stays K hsz (fun h => by cases h) (ht t (.head _)) h1 (fun q hq => hs q (List.mem_append_left _ hq)) (fun q hq => hsp q (List.mem_append_left _ hq))
  | [], [], _ :: _, _, h, _, _, _ => h.elim
  | [], _ :: _, [], _, h, _, _, _ => h.elim
  | [], _ :: _, _ :: _, _, h, _, _, _ => h.elim
  | _ :: _, [], [], _, h, _, _, _ => h.elim
  | _ :: _, [], _ :: _, _, h, _, _, _ => h.elim
  | _ :: _, _ :: _, [], _, h, _, _, _ => h.elim
end
/-- Cells that lie in one each: each one is whatever one cell holds. -/
theorem anys {ρ : Rho} : ∀ {l : List Value}, (∀ v ∈ l, oneV v = true) → VRs ρ (List.replicate l.length .any) l
  | [], _ => .nil
  | v :: _, h => .cons _ _ _ _ (.any v (h v (.head _))) (anys fun v' h' => h v' (.tail _ h'))
theorem one_of_okWide {P : Program} {W : World} {r : Reach} {base : Nat} {t : TypeId} {v : Value} (h : Cell.okWide P W r base t v) : oneV v = true := by
  cases v <;> first
    | rfl
    | (exfalso; unfold Cell.okWide at h; split at h <;> first | (rename_i h1 h2; cases h2; done) | (unfold Cell.ok at h; split at h <;> first | (rename_i h1 h2; cases h2; done) | exact h))
theorem anys_of_okWide {P : Program} {W : World} {r : Reach} {base : Nat} {t : TypeId} {v : Value} {fs : Array Field} (ht : P.underlying t = some (.struct fs)) (h : Value.okWide P W r base t v) {ρ : Rho} {n : Nat} (hn : P.cellsOf t = n) : VR ρ (.agg (List.replicate n .any)) v := by
  unfold Value.okWide at h
  rw [ht] at h
  obtain ⟨cs, rfl, h1, ts, _, _, h2⟩ := h
  refine .agg _ _ ?_
  have : n = cs.toList.length := by simp [h1, hn]
  rw [this]
  refine anys fun v hv => ?_
  obtain ⟨i, hi⟩ := List.getElem?_of_mem hv
  obtain ⟨u, _, h3⟩ := h2 i v (by simpa using hi)
  exact one_of_okWide h3
/-- Each slice's element takes cells; types are laid out. -/
def typesOk (P : Program) : Bool := laidOutB P && mapsRowed P && (List.range P.types.size).all fun t => match P.underlying t with
  | some (.slice e) => Nat.blt 0 (P.cellsOf e)
  | _ => true
theorem laidMet_of_H {P : Program} {l : List (String × DataW Unit)} {w : World} (h0 : (l.filter fun x => x.2.handleName?.isSome).isEmpty = true) (h : laidMetH P l w) : laidMet P l w := by
  unfold laidMetH at h
  split at h
  · exact h
  · rename_i h1
    rw [h1] at h0
    cases h0
/-- A law's row: its call answers true; what came in is as it was. -/
structure LawSpec (s : ChangeSpec) (k : Nat) : Prop where
  vars : s.vars = []
  fn : ∀ (H : Type) (ds : List (DataW H)), ds.length = k → s.fn H ds = { results := [.lit (.bool true)], args := ds }
theorem trodAll_length {H : Type} {enc : TypeId × Value → H} {P : Program} {w : World} {base : Nat} {sp : Nat → Bool} {held : Bool} : ∀ {ts : List TypeId} {vs : List Value} {ds : List (DataW H)} {p : List MemPlace}, DataW.TrodAll enc P w base sp held ts vs ds p → ds.length = ts.length
  | [], [], [], _, _ => rfl
  | _ :: _, _ :: _, _ :: _, _, ⟨_, _, _, h, _⟩ => by simp [trodAll_length h]
  | [], [], _ :: _, _, h => h.elim
  | [], _ :: _, [], _, h => h.elim
  | [], _ :: _, _ :: _, _, h => h.elim
  | _ :: _, [], [], _, h => h.elim
  | _ :: _, [], _ :: _, _, h => h.elim
  | _ :: _, _ :: _, [], _, h => h.elim
theorem law_post {H : Type} {enc : TypeId × Value → H} {P : Program} {fn : Func} {s : ChangeSpec} (hs : LawSpec s fn.params.size) {tb : TypeId} (htb : fn.resultTypes = #[tb]) (hub : P.underlying tb = some .bool) (hK : typesOk P = true) (hp : ∀ t ∈ fn.params.toList, t < P.types.size)
    {W W' : World} {args : Array Value} {ds gs : List (DataW H)} {before : List MemPlace} (hW : DataW.Whole enc P fn.params.toList s.vars false W args.toList ds gs before) (hb : Below W.heap.size W W') :
    s.post enc P fn false true false false W args (.bool true) W' := by
  have hW' := hW
  obtain ⟨p, q, hA, hV, hpq, _, _⟩ := hW'
  rw [hs.vars] at hV
  obtain ⟨hgs, hq⟩ := trodVars_none hV
  unfold typesOk at hK
  simp only [Bool.and_eq_true] at hK
  obtain ⟨⟨k1, k2⟩, k3⟩ := hK
  have K := kids_rows k1 k2
  have hsz : ∀ {t e : TypeId}, t < P.types.size → P.underlying t = some (.slice e) → 0 < P.cellsOf e := fun {t e} h1 h2 => by
    have := List.all_eq_true.1 k3 t (List.mem_range.2 h1)
    rw [h2] at this
    exact blt_true this
  have hl := trodAll_length hA
  have hbp : before = p := by rw [hpq, hq, List.append_nil]
  have hfn : s.fn H (ds ++ gs) = { results := [.lit (.bool true)], args := ds } := by rw [hgs, List.append_nil]; exact hs.fn H ds (by simpa using hl)
  refine post_below (pa := p) (pv := []) hW (fun b sp hd => ?_) (fun sp hsp => ?_) (fun sp _ => ?_) (by rw [hbp, List.append_nil]) hb (ok_one htb rfl (okWide_bool_mk hub _))
  · rw [hfn, htb]
    exact trodAll_cons_mk (shut_bool hub _) trodAll_mk0
  · rw [hfn]
    exact trodAll_stays K hsz hA hp (fun x hx => hb.same (hW.lt x (by rw [hbp]; exact hx))) (fun x hx => hsp x (by rw [hbp]; exact hx))
  · rw [hfn, hs.vars]
    rfl
theorem law_calls {H : Type} {enc : TypeId × Value → H} {E : Env} (hF : Fit E) {l : List (String × DataW Unit)} (h0 : (l.filter fun x => x.2.handleName?.isSome).isEmpty = true) (hgl : E.gl = E.P.globals.size) (hro : E.P.globals.size ≤ E.ro) (hr : rowsOk E.P = true)
    {n : Nat} {f : FuncId} {fn : Func} {c : Code} (hf : E.P.funcs[f]? = some fn) (hb : fn.body = some c) {avs : List AV} {σ : Sg} {fx : List (SX × Bool)} (hfx : ∀ p ∈ fx, (p.1.den σ).bool = p.2) (h : ∃ st', (ev E n).call f avs (seed E.P l E.ro fx) = .ok (.ret (.bool true), st'))
    {s : ChangeSpec} (hs : LawSpec s fn.params.size) {tb : TypeId} (htb : fn.resultTypes = #[tb]) (hub : E.P.underlying tb = some .bool) (hK : typesOk E.P = true) (hp : ∀ t ∈ fn.params.toList, t < E.P.types.size)
    {W : World} {args : Array Value} {ds gs : List (DataW H)} {before : List MemPlace} (hW : DataW.Whole enc E.P fn.params.toList s.vars false W args.toList ds gs before) (hL : laidMetH E.P l W) (hsh : W.ShapedOpen E.P)
    (hv : VRs (rho0 E.P.globals.size W σ) avs args.toList) : Calls E.P f args W fun e W' => ∃ v, e = .returned v ∧ s.post enc E.P fn false true false false W args v W' := by
  obtain ⟨st', h⟩ := h
  refine (ev_calls hF hgl hro hr hf hb hfx h (laidMet_of_H h0 hL) hsh hv).mono fun e W' ⟨q, ρ, h1, h2, h3⟩ => ?_
  cases h2
  exact ⟨_, h1, law_post hs htb hub hK hp hW h3⟩
/-- There is an input that fits: a world that is written out. -/
theorem witness_row {H : Type} {enc : TypeId × Value → H} {C : Checked} {os : Os} {f : FuncId} {fn : Func} {s : OpenSpec} {conds : List PathCond} {apart : Bool} {laid : List (String × DataW Unit)} (w0 : World) (args : Array Value) (hos : w0.os = os)
    (hsh : (w0.forCall (fun _ _ => 0) ⟨#[], args, []⟩).Shaped C.prog) (hok : Input.okWideB C.prog (w0.forCall (fun _ _ => 0) ⟨#[], args, []⟩) f ⟨#[], args, []⟩ = true)
    (hrow : s.preRow enc C.prog fn conds apart laid (w0.forCall (fun _ _ => 0) ⟨#[], args, []⟩).memory args) :
    ∃ (w : World) (tape : Tape) (i : Input), w.os = os ∧ (w.forCall tape i).Shaped C.prog ∧ i.vars = [] ∧ Input.okWide C.prog (w.forCall tape i) .any w.heap.size f i ∧
      s.preRow enc C.prog fn conds apart laid (w.forCall tape i).memory i.args ∧ ({} : Assume).holds C.prog (lone (Frame.enter C.prog f i.args .normal) [] (w.forCall tape i)) :=
  ⟨w0, fun _ _ => 0, ⟨#[], args, []⟩, hos, hsh, (Input.okWide_of_okWideB (base := 0) hok).1, (Input.okWide_of_okWideB hok).2, hrow, by
    simp only [Assume.holds]
    exact ⟨by simp, by simp, fun _ => Modest.zero, by simp, by simp⟩⟩
/-- What the kernel is asked. -/
def saysTrue (r : Rs (En × St)) : Bool := match r with
  | .ok (.ret (.bool true), _) => true
  | _ => false
theorem saysTrue_spec {r : Rs (En × St)} (h : saysTrue r = true) : ∃ st', r = .ok (.ret (.bool true), st') := by
  unfold saysTrue at h
  split at h
  · exact ⟨_, rfl⟩
  · cases h
end Go.Proofs.YtjifnmilimdfdaaGreatDoor.Ab
