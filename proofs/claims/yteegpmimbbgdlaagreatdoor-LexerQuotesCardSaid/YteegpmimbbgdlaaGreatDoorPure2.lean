/- The operations that write nothing and make nothing: the rest of them, and all of them together. -/
import Derived.Test.YteegpmimbbgdlaaGreatDoorPure
set_option linter.unusedVariables false
set_option linter.unusedSimpArgs false
set_option linter.unnecessarySimpa false
namespace Go.Proofs.YteegpmimbbgdlaaGreatDoor.Ab
open Go Go.RowKit

section
variable {P : Program} {N : Nat → Prop} {ρ : Rho} {ro : Nat} {st : St} {W w : World}
theorem fieldAt_spec {s f : Nat} {t o : Nat} (h : fieldAt P s f = some (t, o)) : ∃ fs x, P.underlying s = some (.struct fs) ∧ fs[f]? = some x ∧ x.type = t ∧ x.offset = o := by
  unfold fieldAt at h
  split at h
  · rename_i fs hfs
    split at h
    · rename_i x hx
      cases h
      exact ⟨fs, x, hfs, by simpa using hx, rfl, rfl⟩
    · cases h
  · cases h
theorem fieldAddr_run {s f id off o : Nat} {v : Value} (hv : VR ρ (.ptr id off) v) (h : fieldOff P s f = some o) (w : World) : ∃ q, (Instr.fieldAt s v f).run P w = .ok q w ∧ VR ρ (.ptr id (Nat.add off o)) q := by
  cases hv with | ptr _ _ L hL =>
  unfold fieldOff at h
  split at h
  · rename_i t o' hf
    split at h
    · rename_i n hn
      cases h
      obtain ⟨fs, x, h1, h2, rfl, rfl⟩ := fieldAt_spec hf
      refine ⟨_, ?_, .ptr id (off + x.offset) L hL⟩
      simp [Instr.fieldAt, run_underlying h1, h2, Instr.sureAddr, fieldPlace, run_size hn, addr_add, Nat.add_assoc]
    · cases h
  · cases h
theorem field_run {s f t o : Nat} {cs : List AV} {v : Value} {r : AV} (hv : VR ρ (.agg cs) v) (hf : fieldAt P s f = some (t, o)) (h : Ab.part P t cs o = .ok r) (w : World) : ∃ q, (Instr.field s v f).run P w = .ok q w ∧ VR ρ r q := by
  cases hv with | agg _ c hc =>
  obtain ⟨fs, x, h1, h2, rfl, rfl⟩ := fieldAt_spec hf
  obtain ⟨q, h3, h4⟩ := part_run hc h w
  exact ⟨q, by simp [Instr.field, run_underlying h1, h2, asAgg, h3], h4⟩
theorem indexAddr_run {t : Nat} {x i r : AV} {v u : Value} (hv : VR ρ x v) (hu : VR ρ i u) (h : indexAddrA P t x i = .ok r) (w : World) : ∃ q, (Instr.indexAt t v u).run P w = .ok q w ∧ VR ρ r q := by
  unfold indexAddrA at h
  split at h
  · cases h
  rename_i n hn
  obtain ⟨k, rfl⟩ := natOf_spec hn hu
  split at h
  · rename_i len e hty
    split at h
    · rename_i size id off hsz
      cases hv with | ptr _ _ L hL =>
      split at h
      · rename_i hb
        cases h
        have hb' := blt_true hb
        refine ⟨_, ?_, .ptr id (off + n * size) L hL⟩
        have h1 : (0 : Int) ≤ (n : Int) ∧ (n : Int) < (len : Int) := by omega
        simp [Instr.indexAt, run_asIntOf, run_underlying hty, Instr.sureAddr, run_size hsz, addr_add, Nat.add_assoc, hb']
      · cases h
    · cases h
  · rename_i e hty
    split at h
    · rename_i size id off len cap hsz
      cases hv with | sl _ _ _ _ L c o hL hc hle =>
      split at h
      · rename_i hb
        cases h
        have hb' := blt_true hb
        have ho : o = L.base + off := by
          cases cap with
          | k m => exact hc.2
          | g m => rcases hc.2 with h0 | h0
                   · omega
                   · exact h0
        subst ho
        refine ⟨_, ?_, .ptr id (off + n * size) L hL⟩
        simp [Instr.indexAt, run_asIntOf, run_underlying hty, run_size hsz, addr_add, Nat.add_assoc, hb']
      · cases h
    · cases h
  · cases h
theorem index_run {t : Nat} {x i r : AV} {v u : Value} (hv : VR ρ x v) (hu : VR ρ i u) (h : indexA P t x i = .ok r) (w : World) : ∃ q, (Instr.index t v u).run P w = .ok q w ∧ VR ρ r q := by
  unfold indexA at h
  split at h
  · cases h
  rename_i n hn
  obtain ⟨k, rfl⟩ := natOf_spec hn hu
  split at h
  · rename_i len e cs hty
    cases hv with | agg _ c hc =>
    split at h
    · rename_i size hsz hb
      have hb' := blt_true hb
      obtain ⟨q, h3, h4⟩ := part_run hc h w
      refine ⟨q, ?_, h4⟩
      have h3' : (Go.part e c (n * size)).run P w = .ok q w := h3
      simp [Instr.index, run_asIntOf, run_underlying hty, run_size hsz, hb', h3']
    · cases h
  · rename_i s hty
    cases hv
    split at h
    · rename_i b hb
      cases h
      refine ⟨_, ?_, .int _ _⟩
      have hlt := (List.getElem?_eq_some_iff.1 hb).1
      have hlt' : n < (⟨⟨s⟩⟩ : ByteArray).size := hlt
      have hget : (⟨⟨s⟩⟩ : ByteArray)[n]? = some b := by
        rw [getElem?_pos (⟨⟨s⟩⟩ : ByteArray) n hlt']
        congr 1
        exact (List.getElem?_eq_some_iff.1 hb).2
      simp [Instr.index, run_asIntOf, run_underlying hty, hget]
    · cases h
  · cases h
theorem extract_run {r : AV} {v : Value} {i : Nat} {vs : List AV} (hv : VR ρ (.tup vs) v) (h : vs[i]? = some r) (w : World) : ∃ q, (Instr.extract v i).run P w = .ok q w ∧ VR ρ r q := by
  cases hv with | tup _ c hc =>
  obtain ⟨q, h1, h2⟩ := hc.get h
  have h1' : c[i]? = some q := by simpa using h1
  exact ⟨q, by simp [Instr.extract, h1'], h2⟩
theorem withOk_run {ok : Bool} {a : AV} {u : Value} (ha : VR ρ a u) (w : World) : ∃ q, (pure (if ok = true then .tuple #[u, .bool true] else u) : Sem Value).run P w = .ok q w ∧ VR ρ (withOk ok a) q := by
  cases ok
  · exact ⟨_, rfl, ha⟩
  · exact ⟨_, rfl, .tup _ _ (.cons _ _ _ _ ha (.cons _ _ _ _ (.bool _) .nil))⟩
theorem assertNo_run {ok : Bool} {t : TypeId} {r : AV} (s d : Option TypeId) (m : String) (h : assertNo P t ok = .ok r) (w : World) :
    ∃ q, (if ok = true then (do pure (.tuple #[← zeroValue t, .bool false])) else runtimePanic (.typeAssertion s d t m) : Sem Value).run P w = .ok q w ∧ VR ρ r q := by
  unfold assertNo at h
  cases ok
  · cases h
  · simp only at h
    split at h
    · rename_i z hz
      cases h
      obtain ⟨zv, h1, h2⟩ := run_zero (ρ := ρ) hz w
      exact ⟨_, by simp [h1], .tup _ _ (.cons _ _ _ _ h2 (.cons _ _ _ _ (.bool _) .nil))⟩
    · cases h
theorem assert_run {x r : AV} {v : Value} {xt t : TypeId} {ok : Bool} (hv : VR ρ x v) (h : assertA P x t ok = .ok r) (w : World) : ∃ q, (Instr.typeAssert v xt t ok).run P w = .ok q w ∧ VR ρ r q := by
  unfold assertA at h
  split at h
  · cases hv
    split at h
    · rename_i d hty
      simp only [Instr.typeAssert, Sem.run_bind, run_underlying hty, Result.andThen_ok]
      cases d
      case interface ms => exact assertNo_run none none "" h w
      all_goals exact assertNo_run (some xt) none "" h w
    · cases h
  · rename_i d y
    cases hv with | iface _ _ u hu =>
    split at h
    · rename_i want hty
      simp only [Instr.typeAssert, Sem.run_bind, run_underlying hty, Result.andThen_ok]
      split at h
      · rename_i i hi
        simp only [typeInfo, Sem.run_bind, run_program, Result.andThen_ok, hi, Sem.run_pure]
        split at h
        · rename_i hm
          cases h
          simp only [hm]
          exact withOk_run (VR.iface d y u hu) w
        · rename_i m hm
          simp only [hm]
          exact assertNo_run none (some d) m h w
      · cases h
    · rename_i dd hn hty
      simp only [Instr.typeAssert, Sem.run_bind, run_underlying hty, Result.andThen_ok]
      have key : ∃ q, (if d = t then (pure (if ok = true then .tuple #[u, .bool true] else u) : Sem Value) else (if ok = true then (do pure (.tuple #[← zeroValue t, .bool false])) else runtimePanic (.typeAssertion (some xt) (some d) t "")) : Sem Value).run P w = .ok q w ∧ VR ρ r q := by
        split at h
        · rename_i e
          cases h
          rw [if_pos (beq_true e)]
          exact withOk_run hu w
        · rename_i e
          rw [if_neg (beq_false e)]
          exact assertNo_run (some xt) (some d) "" h w
      cases dd
      case interface ms => exact absurd rfl (hn ms)
      all_goals exact key
    · cases h
  · cases h
/- MAPS. -/
theorem checkKey_fields {n : Nat} {cs : List AV} {c : Array Value} (hc : VRs ρ cs c.toList) (e : Bool) (d : Nat) (w : World) (hf : ∀ t a v, VR ρ a v → checkA P n t a = true → (Instr.checkKey e d t v).run P w = .ok () w) :
    ∀ (fs : List Field), checkFields (checkA P n) P cs (eqFields fs) = true →
      (forIn fs PUnit.unit (fun f (_ : PUnit) => if f.name ≠ "_" then (do Instr.checkKey e d f.type (← Go.part f.type c f.offset); pure (ForInStep.yield PUnit.unit)) else pure (ForInStep.yield PUnit.unit)) : Sem PUnit).run P w = .ok PUnit.unit w
  | [], _ => rfl
  | x :: r, h => by
    unfold Ab.eqFields at h
    by_cases hn : x.name ≠ "_"
    · rw [if_pos hn] at h
      simp only [checkFields] at h
      split at h
      · rename_i a ha
        obtain ⟨h1, h2⟩ := Bool.and_eq_true_iff.1 h
        obtain ⟨v, hv, hR⟩ := part_run hc ha w
        have := hf _ _ _ hR h1
        simp only [List.forIn_cons, Sem.run_bind, if_pos hn, hv, this, Result.andThen_ok, Sem.run_pure]
        exact checkKey_fields hc e d w hf r h2
      · cases h
    · rw [if_neg hn] at h
      simp only [List.forIn_cons, Sem.run_bind, if_neg hn, Sem.run_pure, Result.andThen_ok]
      exact checkKey_fields hc e d w hf r h
theorem checkA_run : ∀ (n d : Nat), n ≤ d → ∀ {t : TypeId} {a : AV} {v : Value} (e : Bool) (w : World), VR ρ a v → checkA P n t a = true → (Instr.checkKey e d t v).run P w = .ok () w := by
  intro n
  induction n with
  | zero => intro d _ t a v e w _ h; cases h
  | succ n ih =>
    intro d hd t a v e w hv h
    obtain ⟨d, rfl⟩ : ∃ k, d = k + 1 := ⟨d - 1, by omega⟩
    simp only [checkA] at h
    split at h
    · cases h
    rename_i ty hty
    split at h
    · cases hv; split at h <;> cases h
      simp [Instr.checkKey, run_underlying hty]
    · cases hv; split at h <;> cases h
      simp [Instr.checkKey, run_underlying hty]
    · cases hv; split at h <;> cases h
      simp [Instr.checkKey, run_underlying hty]
    · cases hv with | agg _ c hc =>
      split at h
      · rename_i fs
        have := checkKey_fields hc e d w (fun t a v ha hb => ih d (by omega) e w ha hb) _ h
        simp only [Instr.checkKey, Sem.run_bind, run_underlying hty, Result.andThen_ok]
        rw [← Array.forIn_toList, this]
        rfl
      · cases h
    · cases h
theorem sameNow_run {t : TypeId} {d : TypeDesc} {a b : Value} {q : Bool} (ht : P.underlying t = some d) (h : Instr.sameNow d a b = some q) (n : Nat) (w : World) : (Op.equalIn (n + 1) t a b).run P w = .ok q w := by
  unfold Instr.sameNow at h
  split at h
  · split at h
    · rename_i e; cases h; subst e
      simp [Op.equalIn, run_underlying ht]
    · cases h
  · cases h; simp [Op.equalIn, run_underlying ht]
  · cases h; simp [Op.equalIn, run_underlying ht]
  · cases h
theorem findNow_asking {t : TypeId} {d : TypeDesc} {k : Value} (ht : P.underlying t = some d) (w : World) : ∀ {m : List MapEntry} {i : Nat} {r : Option (Nat × Value)}, Instr.findNow d k m i = some r → (Instr.findAsking t k m i).run P w = .ok r w
  | [], i, r, h => by cases h; rfl
  | e :: es, i, r, h => by
    simp only [Instr.findNow] at h
    have hq := fun q (hs : Instr.sameNow d k e.key = some q) => sameNow_run (P := P) ht hs 9999 w
    simp only [Instr.findAsking, Sem.run_bind]
    split at h
    · rename_i hs
      cases h
      have h2 : (Op.equal t k e.key).run P w = .ok true w := hq _ hs
      rw [h2]; rfl
    · rename_i hs
      have h2 : (Op.equal t k e.key).run P w = .ok false w := hq _ hs
      rw [h2]
      exact findNow_asking ht w h
    · cases h
theorem findKey_of {t : TypeId} {d : TypeDesc} {k : Value} (ht : P.underlying t = some d) {m : List MapEntry} {r : Option (Nat × Value)} {w : World} (h : (Instr.findAsking t k m).run P w = .ok r w) : (Instr.findKey t k m).run P w = .ok r w := by
  simp only [Instr.findKey, Sem.run_bind, run_underlying ht, Result.andThen_ok]
  split
  · rename_i r' hr'
    have := findNow_asking (P := P) ht w hr'
    rw [this] at h
    cases h; rfl
  · exact h
def FoundR (ρ : Rho) (m : List MapEntry) (i : Nat) (r : Option (Nat × AV × AV)) (r' : Option (Nat × Value)) : Prop := match r with
  | none => r' = none
  | some p => ∃ me, r' = some (p.1, me.val) ∧ i ≤ p.1 ∧ m[p.1 - i]? = some me ∧ VR ρ p.2.1 me.key ∧ VR ρ p.2.2 me.val
theorem findA_run (h : MR N ρ ro st W w) {t : TypeId} {k : AV} {kv : Value} (hk : VR ρ k kv) : ∀ {es : List (AV × AV)} {m : List MapEntry} {i : Nat} {r : Option (Nat × AV × AV)}, ERs ρ es m → findA P st t k es i = .ok r →
    ∃ r', (Instr.findAsking t kv m i).run P w = .ok r' w ∧ FoundR ρ m i r r'
  | [], m, i, r, he, hr => by
    cases hr
    obtain ⟨h1, _⟩ := he
    have : m = [] := by
      have := h1.length; simpa using this
    subst this
    exact ⟨none, rfl, rfl⟩
  | e :: es, [], i, r, he, hr => by
    obtain ⟨h1, _⟩ := he
    have := h1.length; simp at this
  | e :: es, me :: m, i, r, he, hr => by
    obtain ⟨h1, h2⟩ := he
    cases h1 with | cons _ _ _ _ hk1 h1 => cases h2 with | cons _ _ _ _ hv1 h2 =>
    simp only [findA] at hr
    obtain ⟨q, hq, hr⟩ := Rs.bind_ok hr
    have hq' : (Op.equal t kv me.key).run P w = .ok q w := eqA_run h 20 10000 (by omega) hk hk1 hq
    simp only [Instr.findAsking, Sem.run_bind, hq', Result.andThen_ok]
    cases q with
    | true =>
      cases hr
      exact ⟨_, rfl, me, rfl, Nat.le_refl _, (by simp), hk1, hv1⟩
    | false =>
      obtain ⟨r', h3, h4⟩ := findA_run h hk (i := i + 1) ⟨h1, h2⟩ hr
      refine ⟨r', h3, ?_⟩
      cases r with
      | none => exact h4
      | some p =>
        obtain ⟨x, a, b, c, d⟩ := h4
        refine ⟨x, a, by omega, ?_, d⟩
        rw [show p.1 - i = (p.1 - (i + 1)) + 1 from by omega]
        simpa using c
theorem mapKV_spec {t k v : TypeId} (h : mapKV P t = some (k, v)) : P.underlying t = some (.map k v) := by
  unfold mapKV at h
  split at h
  · rename_i hu; cases h; exact hu
  · cases h
theorem run_getObj {b : Nat} {o : Obj} (hb : w.heap[b]? = some o) (hc : ∀ c e f, o ≠ .cells c e f) : (getObj b).run P w = .ok o w := by
  unfold getObj Sem.run
  rw [hb]
  cases o <;> first | rfl | exact absurd rfl (hc _ _ _)
theorem lookup_run (h : MR N ρ ro st W w) {t : TypeId} {m k r : AV} {mv kv : Value} {ok : Bool} (hm : VR ρ m mv) (hk : VR ρ k kv) (hr : lookupA P st t m k ok = .ok r) : ∃ q, (Instr.lookup t mv kv ok).run P w = .ok q w ∧ VR ρ r q := by
  unfold lookupA at hr
  split at hr
  · cases hr
  rename_i kt vt ht
  have ht' := mapKV_spec ht
  split at hr
  · cases hr
  rename_i hck
  obtain ⟨es, hes, hr⟩ := Rs.bind_ok hr
  obtain ⟨f, hf, hr⟩ := Rs.bind_ok hr
  have fin : ∀ (arr : Array MapEntry), ERs ρ es arr.toList → (Instr.checkKey arr.isEmpty 10000 kt kv).run P w = .ok () w ∧ ∃ r' q, (Instr.findKey kt kv arr.toList).run P w = .ok r' w ∧ VR ρ r q ∧
      ((∃ i v, r' = some (i, v) ∧ q = if ok = true then .tuple #[v, .bool true] else v) ∨ (r' = none ∧ ∃ z, (zeroValue vt).run P w = .ok z w ∧ q = if ok = true then .tuple #[z, .bool false] else z)) := by
    intro arr harr
    obtain ⟨r', h1, h2⟩ := findA_run h hk harr hf
    have hkey : ∃ d, P.underlying kt = some d := by
      cases hd : P.underlying kt with
      | none => simp [checkA, hd] at hck
      | some d => exact ⟨d, rfl⟩
    obtain ⟨d, hd⟩ := hkey
    have h3 := findKey_of hd h1
    have h4 := checkA_run (P := P) 20 10000 (by omega) arr.isEmpty w hk hck
    refine ⟨h4, r', ?_⟩
    cases f with
    | none =>
      have : r' = none := h2
      subst this
      simp only at hr
      split at hr
      · rename_i z hz
        obtain ⟨zv, h5, h6⟩ := run_zero (ρ := ρ) hz w
        cases hr
        cases ok
        · exact ⟨zv, h3, h6, .inr ⟨rfl, zv, h5, rfl⟩⟩
        · exact ⟨_, h3, .tup _ _ (.cons _ _ _ _ h6 (.cons _ _ _ _ (.bool _) .nil)), .inr ⟨rfl, zv, h5, rfl⟩⟩
      · cases hr
    | some p =>
      obtain ⟨me, rfl, _, _, _, hv⟩ := h2
      cases hr
      cases ok
      · exact ⟨me.val, h3, hv, .inl ⟨_, _, rfl, rfl⟩⟩
      · exact ⟨_, h3, .tup _ _ (.cons _ _ _ _ hv (.cons _ _ _ _ (.bool _) .nil)), .inl ⟨_, _, rfl, rfl⟩⟩
  unfold St.entries at hes
  split at hes
  · cases hes
    cases hm
    obtain ⟨h0, r', q, h1, h2, h3⟩ := fin #[] ⟨.nil, .nil⟩
    refine ⟨q, ?_, h2⟩
    simp only [Instr.lookup, Sem.run_bind, run_underlying ht', Result.andThen_ok, Sem.run_pure]
    rw [h0]
    simp only [Result.andThen_ok]
    rw [h1]
    rcases h3 with ⟨i, v, rfl, rfl⟩ | ⟨rfl, z, hz, rfl⟩
    · rfl
    · simp [hz]
  · cases hm
    split at hes
    · rename_i L hL _ es' hg
      cases hes
      obtain ⟨o, ho, arr, clock, rfl, harr, _⟩ := h.obs _ L _ hL hg
      obtain ⟨h0, r', q, h1, h2, h3⟩ := fin arr harr
      refine ⟨q, ?_, h2⟩
      have hgo := run_getObj (P := P) ho (by intro c e f hh; cases hh)
      simp only [Instr.lookup, Sem.run_bind, run_underlying ht', Result.andThen_ok, hgo, Sem.run_pure]
      rw [h0]
      simp only [Result.andThen_ok]
      rw [h1]
      rcases h3 with ⟨i, v, rfl, rfl⟩ | ⟨rfl, z, hz, rfl⟩
      · rfl
      · simp [hz]
    · cases hes
  · cases hes
end
end Go.Proofs.YteegpmimbbgdlaaGreatDoor.Ab
