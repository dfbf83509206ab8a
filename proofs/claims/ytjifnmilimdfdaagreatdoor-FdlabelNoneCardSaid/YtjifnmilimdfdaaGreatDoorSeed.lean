/- The first state: what the listed package-level variables give; and what a run of the reading says of a call. -/
import Derived.Test.YtjifnmilimdfdaaGreatDoorExts
import Derived.Lib.LaidU8
import Derived.OpenShut
set_option linter.unusedVariables false
set_option linter.unusedSimpArgs false
set_option linter.unnecessarySimpa false
namespace Go.Proofs.YtjifnmilimdfdaaGreatDoor.Ab
open Go Go.RowKit

/-- The cells of what reads as a datum (what it refers to is not told). -/
def flatAll (f : TypeId → DataW Unit → Option (List AV)) (e : TypeId) (s : Nat) (l : List (DataW Unit)) : Option (List AV) := match l with
  | [] => some []
  | d :: r => match f e d, flatAll f e s r with
    | some a, some b => match Nat.beq a.length s with
      | true => some (a ++ b)
      | false => none
    | _, _ => none
def flatEach (f : TypeId → DataW Unit → Option (List AV)) (P : Program) (l : List Field) : List (DataW Unit) → Nat → Option (List AV) := match l with
  | [] => fun ds _ => match ds with
    | [] => some []
    | _ => none
  | x :: l => fun ds off => match ds with
    | [] => none
    | d :: r => match f x.type d, flatEach f P l r (Nat.add off (P.cellsOf x.type)) with
      | some a, some b => match Nat.beq a.length (P.cellsOf x.type), Nat.beq x.offset off with
        | true, true => some (a ++ b)
        | _, _ => none
      | _, _ => none
def flatD (P : Program) (n : Nat) : TypeId → DataW Unit → Option (List AV) := match n with
  | 0 => fun _ _ => none
  | n + 1 => fun t d => match P.underlying t with
    | some (.struct fs) => match d with
      | .agg ds => match flatEach (flatD P n) P fs.toList ds 0 with
        | some l => match Nat.beq l.length (P.cellsOf t) with
          | true => some l
          | false => none
        | none => none
      | _ => none
    | some (.array m e) => match d with
      | .agg ds => match flatAll (flatD P n) e (P.cellsOf e) ds with
        | some l => match Nat.beq l.length (P.cellsOf t), Nat.beq ds.length m with
          | true, true => some l
          | _, _ => none
        | none => none
      | _ => none
    | some .bool => match d with
      | .lit (.bool b) => some [.bool b]
      | _ => none
    | some (.int k) => match d with
      | .lit (.int _ n) => some [.int k n]
      | _ => none
    | some (.float k) => match d with
      | .lit (.float _ n) => some [.flt k n]
      | _ => none
    | some .string => match d with
      | .lit (.string s) => some [.str s]
      | _ => none
    | some (.pointer _) => some [.any]
    | some (.slice _) => some [.any]
    | some (.interface _) => some [.any]
    | _ => none
section
variable {P : Program} {w : World} {base : Nat} {sp : Nat → Bool} {held : Bool} {ρ : Rho}
theorem VRs.take_add {l l' : List AV} {cs : List Value} {a b : Nat} (h : VRs ρ l (cs.take a)) (h' : VRs ρ l' ((cs.drop a).take b)) : VRs ρ (l ++ l') (cs.take (a + b)) := by
  rw [List.take_add]
  exact h.append h'
theorem flatAll_spec {f : TypeId → DataW Unit → Option (List AV)} {e : TypeId} {s : Nat} {cs : List Value} : ∀ {ds : List (DataW Unit)} {l : List AV} (k : Nat), flatAll f e s ds = some l →
    (∀ (i : Nat) (d : DataW Unit) (a : List AV), ds[i]? = some d → f e d = some a → VRs ρ a ((cs.drop ((k + i) * s)).take s)) → VRs ρ l ((cs.drop (k * s)).take (ds.length * s)) ∧ l.length = ds.length * s
  | [], l, k, h, hp => by cases h; simp; exact .nil
  | d :: r, l, k, h, hp => by
    simp only [flatAll] at h
    split at h
    case h_2 => cases h
    rename_i a b ha hb
    split at h
    case h_2 => cases h
    rename_i hl
    have hl := beq_true hl
    cases h
    obtain ⟨h1, h2⟩ := flatAll_spec (k + 1) hb (fun i d' a' h1 h2 => by have := hp (i + 1) d' a' (by simpa using h1) h2; rwa [show k + 1 + i = k + (i + 1) from by omega])
    have h0 := hp 0 d a rfl ha
    have e1 : (List.length (d :: r)) * s = s + r.length * s := by simp [Nat.add_mul]; omega
    refine ⟨?_, by simp [hl, h2, Nat.add_mul]; omega⟩
    rw [e1]
    refine VRs.take_add (by simpa using h0) ?_
    rw [List.drop_drop]
    rwa [show k * s + s = (k + 1) * s from by rw [Nat.add_mul]; omega]
theorem flatEach_spec {f : TypeId → DataW Unit → Option (List AV)} {cs : List Value} : ∀ {fs : List Field} {ds : List (DataW Unit)} {l : List AV} {off : Nat}, flatEach f P fs ds off = some l →
    (∀ (i : Nat) (x : Field) (d : DataW Unit) (a : List AV), fs[i]? = some x → ds[i]? = some d → f x.type d = some a → VRs ρ a ((cs.drop x.offset).take (P.cellsOf x.type))) → VRs ρ l ((cs.drop off).take l.length)
  | [], ds, l, off, h, hp => by
    unfold flatEach at h
    cases ds with
    | nil => cases h; simp; exact .nil
    | cons _ _ => cases h
  | x :: fs, ds, l, off, h, hp => by
    unfold flatEach at h
    cases ds with
    | nil => cases h
    | cons d r =>
      simp only at h
      split at h
      case h_2 => cases h
      rename_i a b ha hb
      split at h
      case h_2 => cases h
      rename_i hl ho
      have hl := beq_true hl
      have ho := beq_true ho
      cases h
      have h1 := flatEach_spec hb (fun i x' d' a' h1 h2 h3 => hp (i + 1) x' d' a' (by simpa using h1) (by simpa using h2) h3)
      have h0 := hp 0 x d a rfl rfl ha
      rw [List.length_append, hl]
      refine VRs.take_add (by rw [← ho]; exact h0) ?_
      rw [List.drop_drop]
      exact h1
theorem flatD_spec : ∀ {n : Nat} {t : TypeId} {d : DataW Unit} {l : List AV} {fuel : Nat} {cs : List Value} {p : List MemPlace}, flatD P n t d = some l →
    DataW.trod (fun _ => ()) P w base sp held fuel t cs = some (d, p) → VRs ρ l cs
  | 0, _, _, _, _, _, _, h, _ => by cases h
  | n + 1, t, d, l, fuel, cs, p, h, ht => by
    simp only [flatD] at h
    split at h
    · rename_i fs hu
      cases d <;> try (cases h; done)
      rename_i ds
      simp only at h
      split at h
      case h_2 => cases h
      rename_i l' hl'
      split at h
      case h_2 => cases h
      rename_i hlen
      have hlen := beq_true hlen
      cases h
      obtain ⟨xs, m, rfl, hx, hc, hxl, hall⟩ := DataW.trod_struct hu ht
      have hds : ds = xs.map (·.1) := by have := congrArg Prod.fst hx; simpa using this
      have := flatEach_spec (ρ := ρ) (cs := cs) hl' (fun i x d' a h1 h2 h3 => by
        have h4 := hall i x (by simpa using h1)
        rw [hds] at h2
        simp only [List.getElem?_map, Option.map_eq_some_iff] at h2
        obtain ⟨y, hy, rfl⟩ := h2
        rw [hy] at h4
        exact flatD_spec (p := y.2) h3 h4)
      rw [List.drop_zero, hlen, ← hc, List.take_length] at this
      exact this
    · rename_i m e hu
      cases d <;> try (cases h; done)
      rename_i ds
      simp only at h
      split at h
      case h_2 => cases h
      rename_i l' hl'
      split at h
      case h_2 => cases h
      rename_i hlen hm
      have hlen := beq_true hlen
      have hm := beq_true hm
      cases h
      obtain ⟨xs, q, rfl, hx, hc, hxl, hall⟩ := DataW.trod_array hu ht
      have hds : ds = xs.map (·.1) := by have := congrArg Prod.fst hx; simpa using this
      have := flatAll_spec (ρ := ρ) (cs := cs) 0 hl' (fun i d' a h2 h3 => by
        have hi : i < m := by have := (List.getElem?_eq_some_iff.1 h2).1; omega
        have h4 := hall i hi
        rw [hds] at h2
        simp only [List.getElem?_map, Option.map_eq_some_iff] at h2
        obtain ⟨y, hy, rfl⟩ := h2
        rw [hy] at h4
        rw [Nat.zero_add]
        exact flatD_spec (p := y.2) h3 h4)
      obtain ⟨h1, h2⟩ := this
      rw [← h2, hlen, Nat.zero_mul, List.drop_zero, ← hc, List.take_length] at h1
      exact h1
    · rename_i hu
      obtain ⟨b, rfl, hx⟩ := DataW.trod_bool hu ht
      cases hx
      cases h
      exact .cons _ _ _ _ (.bool _) .nil
    · rename_i k hu
      obtain ⟨z, rfl, hx, _⟩ := DataW.trod_int hu ht
      cases hx
      cases h
      exact .cons _ _ _ _ (.int _ _) .nil
    · rename_i k hu
      cases fuel with
      | zero => simp [DataW.trod] at ht
      | succ m =>
        unfold DataW.trod at ht
        rw [hu] at ht
        split at ht <;> simp_all
        obtain ⟨_, rfl, _⟩ := ht
        cases h
        exact .cons _ _ _ _ (.flt _ _) .nil
    · rename_i hu
      obtain ⟨s, rfl, hx, _⟩ := DataW.trod_string hu ht
      cases hx
      cases h
      refine .cons _ _ _ _ ?_ .nil
      have : s = ⟨⟨s.data.toList⟩⟩ := by cases s; simp
      rw [this]
      exact .str _
    · rename_i e hu
      cases h
      rcases DataW.trod_pointer hu ht with ⟨rfl, _⟩ | ⟨a, _, _, _, _, rfl, _⟩
      · exact .cons _ _ _ _ (.any _ rfl) .nil
      · exact .cons _ _ _ _ (.any _ rfl) .nil
    · rename_i e hu
      cases h
      rcases DataW.trod_slice hu ht with ⟨rfl, _⟩ | ⟨a, _, _, _, _, _, _, rfl, _⟩
      · exact .cons _ _ _ _ (.any _ rfl) .nil
      · exact .cons _ _ _ _ (.any _ rfl) .nil
    · rename_i e hu
      cases h
      cases fuel with
      | zero => simp [DataW.trod] at ht
      | succ m =>
        unfold DataW.trod at ht
        rw [hu] at ht
        split at ht <;> simp_all
        · exact .cons _ _ _ _ (.any _ rfl) .nil
        · exact .cons _ _ _ _ (.any _ rfl) .nil
    · cases h
end
/-- The rows of the listed variables. -/
noncomputable def seedHeap (P : Program) (l : List (String × DataW Unit)) : PT Ob → PT Ob := match l with
  | [] => fun h => h
  | x :: r => fun h => match P.globalNamed x.1 with
    | none => seedHeap P r h
    | some g => match (P.globals[g]?).map (·.type) with
      | none => seedHeap P r h
      | some t => match flatD P 8 t x.2 with
        | none => seedHeap P r h
        | some cs => seedHeap P r (h.set g (.row (PT.lay cs 0 .nil) cs.length t 2 0 0))
theorem seedHeap_get {P : Program} : ∀ {l : List (String × DataW Unit)} {h : PT Ob} {id : Nat} {ob : Ob}, (seedHeap P l h).get id = some ob →
    h.get id = some ob ∨ ∃ x t cs, x ∈ l ∧ P.globalNamed x.1 = some id ∧ (P.globals[id]?).map (·.type) = some t ∧ flatD P 8 t x.2 = some cs ∧ ob = .row (PT.lay cs 0 .nil) cs.length t 2 0 0
  | [], h, id, ob, hg => .inl hg
  | x :: r, h, id, ob, hg => by
    have rest : ∀ {h' : PT Ob}, (seedHeap P r h').get id = some ob → h'.get id = some ob ∨ ∃ x' t cs, x' ∈ x :: r ∧ P.globalNamed x'.1 = some id ∧ (P.globals[id]?).map (·.type) = some t ∧ flatD P 8 t x'.2 = some cs ∧ ob = .row (PT.lay cs 0 .nil) cs.length t 2 0 0 := fun h1 => by
      rcases seedHeap_get h1 with h2 | ⟨y, t, cs, h2, h3⟩
      · exact .inl h2
      · exact .inr ⟨y, t, cs, .tail _ h2, h3⟩
    unfold seedHeap at hg
    split at hg
    · exact rest hg
    · rename_i g h1
      split at hg
      · exact rest hg
      · rename_i t h2
        split at hg
        · exact rest hg
        · rename_i cs h3
          rcases rest hg with h4 | h4
          · rcases PT.get_set h4 with ⟨rfl, rfl⟩ | ⟨_, h5⟩
            · exact .inr ⟨x, t, cs, .head _, h1, h2, h3, rfl⟩
            · exact .inl h5
          · exact .inr h4
/-- ro: so many blocks are not the call's own (the variables first). -/
noncomputable def seed (P : Program) (l : List (String × DataW Unit)) (ro : Nat) (fx : List (SX × Bool)) : St := { heap := seedHeap P l .nil, next := ro, cls := .nil, facts := fx }
/-- Each variable has a row of its type at the start. -/
def rowsOk (P : Program) : Bool := (List.range P.globals.size).all fun g => match ((begin P (fun _ _ => 0) default).world.heap[g]?).bind Obj.row?, P.globals[g]? with
  | some (_, t), some x => Nat.beq t x.type
  | _, _ => false
def rho0 (gl : Nat) (W : World) (σ : Sg) : Rho := ⟨fun id => match Nat.blt id gl with
  | true => match W.heap[id]? with
    | some (.cells c _ _) => some ⟨id, c.size, 0⟩
    | _ => none
  | false => none, σ⟩
theorem rho0_at (gl : Nat) (W : World) (σ : Sg) (id : Nat) : rho0 gl W σ id = match Nat.blt id gl with
  | true => match W.heap[id]? with
    | some (.cells c _ _) => some ⟨id, c.size, 0⟩
    | _ => none
  | false => none := rfl
/-- As seed_MR, at a world whose package-level variables are those of a world that met the list. -/
theorem seed_MR_at {P : Program} {l : List (String × DataW Unit)} {ro : Nat} {W0 W : World} (hk : ∀ g, g < P.globals.size → W.heap[g]? = W0.heap[g]?) {σ : Sg} {fx : List (SX × Bool)} (hfx : ∀ p ∈ fx, (p.1.den σ).bool = p.2) (hl : laidMet P l W0) (hs : W0.ShapedOpen P) (hr : rowsOk P = true) (hro : P.globals.size ≤ ro) :
    MR (fun _ => False) (rho0 P.globals.size W σ) ro (seed P l ro fx) W W ∧ Gl (rho0 P.globals.size W σ) P.globals.size := by
  have hrow : ∀ g, g < P.globals.size → ∃ cs t, W.heap[g]? = some (.cells cs t (0, 0)) ∧ (P.globals[g]?).map (·.type) = some t := by
    intro g hg
    have h1 := List.all_eq_true.1 hr g (List.mem_range.2 hg)
    split at h1
    · rename_i z t x h2 h3
      obtain ⟨cs, h4, _⟩ := hs.1 g z t hg h2
      rw [← hk g hg] at h4
      exact ⟨cs, t, h4, by rw [h3]; simp [beq_true h1]⟩
    · cases h1
  have hρ : ∀ {id : Nat} {L : Loc}, rho0 P.globals.size W σ id = some L → id < P.globals.size ∧ L.b = id ∧ L.base = 0 ∧ ∃ cs t, W.heap[id]? = some (.cells cs t (0, 0)) ∧ L.n = cs.size ∧ (P.globals[id]?).map (·.type) = some t := by
    intro id L h
    rw [rho0_at] at h
    split at h
    · rename_i hlt
      have hlt := blt_true hlt
      obtain ⟨cs, t, h1, h2⟩ := hrow id hlt
      rw [h1] at h
      cases h
      exact ⟨hlt, rfl, rfl, cs, t, h1, rfl, h2⟩
    · cases h
  have hlt : ∀ {id : Nat} {L : Loc}, rho0 P.globals.size W σ id = some L → L.b < W.heap.size := by
    intro id L h
    obtain ⟨_, h2, _, cs, t, h3, _⟩ := hρ h
    rw [h2]
    exact (Array.getElem?_eq_some_iff.1 h3).1
  have hg : ∀ {id : Nat} {ob : Ob}, (seed P l ro fx).heap.get id = some ob → id < P.globals.size ∧ ∃ x t cs, x ∈ l ∧ P.globalNamed x.1 = some id ∧ (P.globals[id]?).map (·.type) = some t ∧ flatD P 8 t x.2 = some cs ∧ ob = .row (PT.lay cs 0 .nil) cs.length t 2 0 0 := by
    intro id ob h
    rcases seedHeap_get h with h1 | ⟨x, t, cs, h1, h2, h3, h4⟩
    · cases h1
    · refine ⟨?_, x, t, cs, h1, h2, h3, h4⟩
      rcases Nat.lt_or_ge id P.globals.size with h5 | h5
      · exact h5
      · rw [Array.getElem?_eq_none h5] at h3; cases h3
  refine ⟨{ below := Below.refl _ _, no := fun _ h => h.elim, old := fun id L h _ => hlt h, own := fun id L h h1 => ?_, lt := fun id L h => hlt h, next := fun id L h => ?_, ron := Nat.le_refl _, nx := fun id ob h => ?_,
            obs := fun id L ob h h1 => ?_, inj := fun i j L M ob ob' h1 h2 _ _ h3 => .inl ?_, cls := fun id cs n e fz cl rel h => ?_, fx := hfx }, fun g hg' => ?_⟩
  · have := (hρ h).1
    omega
  · have := (hρ h).1
    show id < ro
    omega
  · have := (hg h).1
    show id < ro
    omega
  · obtain ⟨h2, h3, h4, cs, t, h5, h6, h7⟩ := hρ h
    obtain ⟨_, x, t', l', h8, h9, h10, h11, rfl⟩ := hg h1
    obtain rfl : t' = t := Option.some.inj (h10.symm.trans h7)
    obtain ⟨g, t2, cs2, fuel, p, k1, k2, k3, k4⟩ := Lib.laidMet.reads hl h8
    obtain rfl : g = id := Option.some.inj (k1.symm.trans h9)
    obtain rfl : t2 = t' := Option.some.inj (k2.symm.trans h7)
    have hcs : cs2 = cs := by
      unfold World.var? at k3
      rw [k1] at k3
      have hk' := hk _ (hg h1).1
      simp only [Option.bind_some, ← hk', h5] at k3
      exact (Option.some.inj k3).symm
    subst hcs
    refine ⟨_, by rw [h3]; exact h5, cs2, 0, 0, rfl, h6.symm, fun _ => h4, fun i a hi => ?_, (fun h => by cases h), (fun h => by cases h)⟩
    rcases PT.get_lay hi with ⟨_, y⟩ | ⟨_, y⟩
    · have hv := flatD_spec (ρ := rho0 P.globals.size W σ) h11 k4
      obtain ⟨v, hv1, hv2⟩ := hv.get y
      refine ⟨by have := (List.getElem?_eq_some_iff.1 y).1; omega, v, ?_, hv2⟩
      rw [h4, Nat.zero_add]
      simpa using hv1
    · cases y
  · obtain ⟨_, h4, _⟩ := hρ h1
    obtain ⟨_, h5, _⟩ := hρ h2
    omega
  · obtain ⟨_, x, t', l', _, _, _, _, h5⟩ := hg h
    cases h5
  · obtain ⟨cs, t, h1, _⟩ := hrow g hg'
    refine ⟨cs.size, ?_⟩
    rw [rho0_at, show Nat.blt g P.globals.size = true from Nat.ble_eq_true_of_le hg', h1]
theorem seed_MR {P : Program} {l : List (String × DataW Unit)} {ro : Nat} {W : World} {σ : Sg} {fx : List (SX × Bool)} (hfx : ∀ p ∈ fx, (p.1.den σ).bool = p.2) (hl : laidMet P l W) (hs : W.ShapedOpen P) (hr : rowsOk P = true) (hro : P.globals.size ≤ ro) :
    MR (fun _ => False) (rho0 P.globals.size W σ) ro (seed P l ro fx) W W ∧ Gl (rho0 P.globals.size W σ) P.globals.size := seed_MR_at (fun _ _ => rfl) hfx hl hs hr hro
/-- A run of the reading says what the call does, at a world whose package-level variables are those of a world that met the list. -/
theorem ev_calls_at {E : Env} (hF : Fit E) {l : List (String × DataW Unit)} (hgl : E.gl = E.P.globals.size) (hro : E.P.globals.size ≤ E.ro) (hr : rowsOk E.P = true) {n : Nat} {f : FuncId} {fn : Func} {c : Code} (hf : E.P.funcs[f]? = some fn) (hb : fn.body = some c)
    {args : List AV} {v : AV} {st' : St} {σ : Sg} {fx : List (SX × Bool)} (hfx : ∀ p ∈ fx, (p.1.den σ).bool = p.2) (h : (ev E n).call f args (seed E.P l E.ro fx) = .ok (.ret v, st')) {W0 W : World} (hk : ∀ g, g < E.P.globals.size → W.heap[g]? = W0.heap[g]?) (hl : laidMet E.P l W0) (hs : W0.ShapedOpen E.P) {vs : Array Value} (hv : VRs (rho0 E.P.globals.size W σ) args vs.toList) :
    Calls E.P f vs W fun e W' => ∃ (q : Value) (ρ : Rho), e = .returned q ∧ VR ρ v q ∧ Below W.heap.size W W' := by
  obtain ⟨hM, hG⟩ := seed_MR_at hk hfx hl hs hr hro
  rw [← hgl] at hM hG hv
  have := (ev_sound hF n).call f args _ _ _ h _ _ W W vs hM hG hv
  rcases this with ⟨q, w', h1, _⟩ | ⟨_, h1⟩
  · have h2 := enter_call hF hf hb vs W
    rw [h2] at h1
    cases h1
  · refine h1.mono fun e W' ⟨ρ', _, h2, h3⟩ => ?_
    cases e <;> first
      | exact h3.elim
      | exact ⟨_, ρ', rfl, h3, h2.below⟩
/-- ████ A RUN OF THE READING SAYS WHAT THE CALL DOES. -/
theorem ev_calls {E : Env} (hF : Fit E) {l : List (String × DataW Unit)} (hgl : E.gl = E.P.globals.size) (hro : E.P.globals.size ≤ E.ro) (hr : rowsOk E.P = true) {n : Nat} {f : FuncId} {fn : Func} {c : Code} (hf : E.P.funcs[f]? = some fn) (hb : fn.body = some c)
    {args : List AV} {v : AV} {st' : St} {σ : Sg} {fx : List (SX × Bool)} (hfx : ∀ p ∈ fx, (p.1.den σ).bool = p.2) (h : (ev E n).call f args (seed E.P l E.ro fx) = .ok (.ret v, st')) {W : World} (hl : laidMet E.P l W) (hs : W.ShapedOpen E.P) {vs : Array Value} (hv : VRs (rho0 E.P.globals.size W σ) args vs.toList) :
    Calls E.P f vs W fun e W' => ∃ (q : Value) (ρ : Rho), e = .returned q ∧ VR ρ v q ∧ Below W.heap.size W W' := ev_calls_at hF hgl hro hr hf hb hfx h (fun _ _ => rfl) hl hs hv
end Go.Proofs.YtjifnmilimdfdaaGreatDoor.Ab
