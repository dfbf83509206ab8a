/- What writes: maps, 'copy'. -/
import Derived.Test.YteegpmimbbgdlaaGreatDoorApp3
set_option linter.unusedVariables false
set_option linter.unusedSimpArgs false
set_option linter.unnecessarySimpa false
namespace Go.Proofs.YteegpmimbbgdlaaGreatDoor.Ab
open Go Go.RowKit

section
variable {P : Program} {N : Nat → Prop} {ρ : Rho} {ro : Nat} {st : St} {W w : World}
theorem MR.put0 (h : MR N ρ ro st W w) {id : Nat} {L : Loc} (hL : ρ id = some L) (hro : ro ≤ id) {ob ob' : Ob} {o' : Obj} (hob : st.heap.get id = some ob) (h0 : ob.cl0) (h0' : ob'.cl0) (ho : OR ρ L ob' o') :
    MR N ρ ro { st with heap := st.heap.set id ob' } W { w with heap := w.heap.setIfInBounds L.b o' } := by
  refine h.upd hL hro ho rfl (fun j x hj => ?_) (h.nx _ _ hob) (fun j M x hne hM hj hb => ?_) (fun j cs n e fz cl rel hj => ?_) rfl
  · rcases PT.get_set hj with ⟨rfl, rfl⟩ | ⟨a, b⟩
    · exact .inl ⟨rfl, rfl⟩
    · exact .inr ⟨a, b⟩
  · rcases PT.get_set hj with ⟨e, _⟩ | ⟨_, b⟩
    · exact hne e
    · rcases h.inj j id M L _ _ hM hL b hob hb with e | hm
      · exact hne e
      · obtain ⟨cs1, n1, e1, fz1, cl1, rel1, cs2, n2, e2, fz2, rel2, _, h2, _⟩ := hm
        exact h0 _ _ _ _ _ _ h2
  · rcases PT.get_set hj with ⟨rfl, e⟩ | ⟨_, b⟩
    · exact absurd e.symm (h0' _ _ _ _ _ _)
    · exact h.cls j cs n e fz cl rel b
theorem cl0_map (es : List (AV × AV)) : (Ob.map es).cl0 := fun _ _ _ _ _ _ e => by cases e
theorem cl0_iter (s : List UInt8) (p : Nat) : (Ob.iter s p).cl0 := fun _ _ _ _ _ _ e => by cases e
theorem plain_same {n : Nat} {a b : AV} {v u : Value} (hp : plainCell a = true) (hs : AV.same (n + 1) a b = true) (hv : VR ρ a v) (hu : VR ρ b u) (m : Nat) : v = u ∧ Instr.sameBits (m + 1) v v = true := by
  cases a <;> simp only [plainCell] at hp <;> first | (exact absurd hp (by decide)) | skip
  all_goals cases b <;> simp only [AV.same] at hs <;> first | (exact absurd hs (by decide)) | skip
  · cases hv; cases hu
    simp at hs
    exact ⟨by rw [hs], by simp [Instr.sameBits]⟩
  · cases hv; cases hu
    simp at hs
    exact ⟨by rw [hs.1, hs.2], by simp [Instr.sameBits]⟩
  · cases hv; cases hu
    rw [eqBytes_iff] at hs
    exact ⟨by rw [eq_of_beq hs], by simp [Instr.sameBits, beq_toListBytes]⟩
theorem plain_cells {n : Nat} : ∀ {a b : List AV} {v u : List Value}, a.all plainCell = true → eqAVs (AV.same (n + 1)) a b = true → VRs ρ a v → VRs ρ b u → ∀ m, v = u ∧ ((v.zip v).all fun (x, y) => Instr.sameBits (m + 1) x y) = true
  | [], [], v, u, _, _, hv, hu, m => by cases hv; cases hu; exact ⟨rfl, rfl⟩
  | [], _ :: _, v, u, _, hs, hv, hu, m => by cases hs
  | _ :: _, [], v, u, _, hs, hv, hu, m => by cases hs
  | x :: r, y :: s, v, u, hp, hs, hv, hu, m => by
    cases hv with | cons _ v1 _ v2 hv1 hv2 => cases hu with | cons _ u1 _ u2 hu1 hu2 =>
    simp only [List.all_cons, Bool.and_eq_true] at hp
    simp only [eqAVs] at hs
    split at hs
    · rename_i hs1
      obtain ⟨rfl, h2⟩ := plain_same hp.1 hs1 hv1 hu1 m
      obtain ⟨rfl, h4⟩ := plain_cells hp.2 hs hv2 hu2 m
      exact ⟨rfl, by simp only [List.zip_cons_cons, List.all_cons, h2, h4, Bool.and_self]⟩
    · cases hs
theorem key_same {a b : AV} {v u : Value} (hp : plainKey a = true) (hs : AV.same 20 a b = true) (hv : VR ρ a v) (hu : VR ρ b u) : v = u ∧ Instr.sameBits 10000 v v = true := by
  cases a <;> simp only [plainKey] at hp <;> first
    | (exact plain_same hp hs hv hu 9999)
    | skip
  cases b <;> first | (exact Bool.noConfusion (show false = true from hs)) | skip
  cases hv with | agg _ c hc => cases hu with | agg _ c' hc' =>
  obtain ⟨h1, h2⟩ := plain_cells (n := 18) hp hs hc hc' 9998
  have : c = c' := Array.ext' h1
  subst this
  exact ⟨rfl, by simp only [Instr.sameBits, h2, beq_self_eq_true, Bool.and_self]⟩
theorem setNth_spec {k v : AV} {kv vv : Value} : ∀ {es : List (AV × AV)} {m : List MapEntry} {i : Nat}, ERs ρ es m → VR ρ k kv → VR ρ v vv → ERs ρ (setNth es k v i) (m.modify i fun e => { e with key := kv, val := vv })
  | [], m, i, h, hk, hv => by
    obtain ⟨h1, h2⟩ := h
    have : m = [] := by have := h1.length; simpa using this
    subst this
    cases i <;> exact ⟨.nil, .nil⟩
  | e :: es, [], i, h, hk, hv => by have := h.1.length; simp at this
  | e :: es, me :: m, i, h, hk, hv => by
    obtain ⟨h1, h2⟩ := h
    cases h1 with | cons _ _ _ _ a1 a2 => cases h2 with | cons _ _ _ _ b1 b2 =>
    cases i with
    | zero => exact ⟨by simpa [setNth] using VRs.cons _ _ _ _ hk a2, by simpa [setNth] using VRs.cons _ _ _ _ hv b2⟩
    | succ i =>
      obtain ⟨c1, c2⟩ := setNth_spec (i := i) ⟨a2, b2⟩ hk hv
      exact ⟨by simpa [setNth] using VRs.cons _ _ _ _ a1 c1, by simpa [setNth] using VRs.cons _ _ _ _ b1 c2⟩
theorem delNth_spec : ∀ {es : List (AV × AV)} {m : List MapEntry} {i : Nat}, ERs ρ es m → ERs ρ (delNth es i) (m.eraseIdx i)
  | [], m, i, h => by
    obtain ⟨h1, h2⟩ := h
    have : m = [] := by have := h1.length; simpa using this
    subst this
    cases i <;> exact ⟨.nil, .nil⟩
  | e :: es, [], i, h => by have := h.1.length; simp at this
  | e :: es, me :: m, i, h => by
    obtain ⟨h1, h2⟩ := h
    cases h1 with | cons _ _ _ _ a1 a2 => cases h2 with | cons _ _ _ _ b1 b2 =>
    cases i with
    | zero => exact ⟨by simpa [delNth] using a2, by simpa [delNth] using b2⟩
    | succ i =>
      obtain ⟨c1, c2⟩ := delNth_spec (i := i) ⟨a2, b2⟩
      exact ⟨by simpa [delNth] using VRs.cons _ _ _ _ a1 c1, by simpa [delNth] using VRs.cons _ _ _ _ b1 c2⟩
theorem ERs.snoc {es : List (AV × AV)} {m : List MapEntry} (h : ERs ρ es m) {k v : AV} {e : MapEntry} (hk : VR ρ k e.key) (hv : VR ρ v e.val) : ERs ρ (es ++ [(k, v)]) (m ++ [e]) :=
  ⟨by simpa using h.1.append (.cons _ _ _ _ hk .nil), by simpa using h.2.append (.cons _ _ _ _ hv .nil)⟩
theorem checkA_under {kt : TypeId} {k : AV} {n : Nat} (h : checkA P n kt k = true) : ∃ d, P.underlying kt = some d := by
  cases n with
  | zero => cases h
  | succ n =>
    cases hd : P.underlying kt with
    | none => simp [checkA, hd] at h
    | some d => exact ⟨d, rfl⟩
theorem run_setObj {b : Nat} {es : Array MapEntry} {clock : Nat} (o : Obj) (hb : w.heap[b]? = some (.map es clock)) : (setObj b o).run P w = .ok () { w with heap := w.heap.setIfInBounds b o } := by
  simp [setObj, Sem.run, hb]
theorem updateA_run (h : MR N ρ ro st W w) {t : TypeId} {m k v : AV} {mv kv vv : Value} {st' : St} (hm : VR ρ m mv) (hk : VR ρ k kv) (hv : VR ρ v vv) (hr : updateA P ro st t m k v = .ok st') :
    ∃ w', (Instr.mapUpdate t mv kv vv).run P w = .ok () w' ∧ MR N ρ ro st' W w' := by
  unfold updateA at hr
  split at hr
  case h_2 => cases hr
  rename_i kt _ id ht
  have ht' := mapKV_spec ht
  cases hm with | map _ L hL =>
  split at hr
  case h_2 => cases hr
  rename_i es hg hck hro
  simp only [Bool.and_eq_true] at hck
  have hro := blt_false hro
  obtain ⟨f, hf, hr⟩ := Rs.bind_ok hr
  obtain ⟨o, ho, arr, clock, rfl, harr, hbase⟩ := h.obs _ L _ hL hg
  obtain ⟨r', h1, h2⟩ := findA_run h hk harr hf
  obtain ⟨d, hd⟩ := checkA_under hck.1
  have h3 := findKey_of hd h1
  have h4 := checkA_run (P := P) 20 10000 (by omega) false w hk hck.1
  have hgo := run_getObj (P := P) ho (by intro c e f hh; cases hh)
  have hset := fun x => run_setObj (P := P) x ho
  simp only [Instr.mapUpdate, Sem.run_bind, run_underlying ht', Result.andThen_ok, hgo, h4, h3]
  cases f with
  | none =>
    have : r' = none := h2
    subst this
    cases hr
    refine ⟨_, hset _, h.put0 hL hro hg (cl0_map _) (cl0_map _) ⟨_, _, rfl, ?_, hbase⟩⟩
    rw [Array.toList_push]
    exact harr.snoc hk hv
  | some p =>
    obtain ⟨i, e⟩ := p
    obtain ⟨me, rfl, _, hme, hek, _⟩ := h2
    simp only at hr
    split at hr
    · rename_i hs
      cases hr
      obtain ⟨he1, he2⟩ := key_same hck.2 hs hk hek
      have hme' : arr[i]? = some me := by simpa using hme
      subst he1
      simp only [hme', Option.map_some, Option.getD_some]
      have hst : (Instr.keyThatStays me.key me.key).run P w = .ok me.key w := by simp [Instr.keyThatStays, he2]
      simp only [Sem.run_bind, hst, Result.andThen_ok]
      refine ⟨_, hset _, h.put0 hL hro hg (cl0_map _) (cl0_map _) ⟨_, _, rfl, ?_, hbase⟩⟩
      rw [Array.toList_modify]
      exact setNth_spec harr hk hv
    · cases hr
theorem deleteA_run (h : MR N ρ ro st W w) {ts : Array TypeId} {ty t : TypeId} {m k : AV} {mv kv : Value} {st' : St} (hts : ts[0]? = some t) (hm : VR ρ m mv) (hk : VR ρ k kv) (hr : deleteA P ro st t m k = .ok st') :
    ∃ w', (Builtin.delete_ ts ty #[mv, kv]).run P w = .ok (.tuple #[]) w' ∧ MR N ρ ro st' W w' := by
  unfold deleteA at hr
  split at hr
  case h_3 => cases hr
  · rename_i kt _ ht
    have ht' := mapKV_spec ht
    cases hm
    split at hr
    · rename_i hck
      cases hr
      have h4 := checkA_run (P := P) 20 10000 (by omega) true w hk hck
      refine ⟨w, ?_, h⟩
      simp [Builtin.delete_, hts, run_underlying ht', h4]
    · cases hr
  · rename_i kt _ id ht
    have ht' := mapKV_spec ht
    cases hm with | map _ L hL =>
    split at hr
    case h_2 => cases hr
    rename_i es hg hck hro
    have hro := blt_false hro
    obtain ⟨f, hf, hr⟩ := Rs.bind_ok hr
    obtain ⟨o, ho, arr, clock, rfl, harr, hbase⟩ := h.obs _ L _ hL hg
    obtain ⟨r', h1, h2⟩ := findA_run h hk harr hf
    obtain ⟨d, hd⟩ := checkA_under hck
    have h3 := findKey_of hd h1
    have h4 := checkA_run (P := P) 20 10000 (by omega) arr.isEmpty w hk hck
    have hgo := run_getObj (P := P) ho (by intro c e f hh; cases hh)
    have hset := fun x => run_setObj (P := P) x ho
    cases f with
    | none =>
      have : r' = none := h2
      subst this
      cases hr
      have hsame : ({ w with heap := w.heap.setIfInBounds L.b (.map arr clock) } : World) = w := by
        have : w.heap.setIfInBounds L.b (.map arr clock) = w.heap := by
          apply Array.ext_getElem?
          intro i
          by_cases hi : L.b = i
          · subst hi
            have := lt_of_block ho
            simp [this]
            rw [Array.getElem?_eq_getElem this] at ho
            exact (Option.some.inj ho).symm
          · rw [Array.getElem?_setIfInBounds_ne hi]
        rw [this]
      refine ⟨w, ?_, h⟩
      have hset' := hset (.map arr clock)
      rw [hsame] at hset'
      simp only [Builtin.delete_, hts, List.getElem?_toArray, List.getElem?_cons_zero, List.getElem?_cons_succ, Sem.run_bind, run_underlying ht', Result.andThen_ok, hgo, h4, h3, hset', Sem.run_pure]
    | some p =>
      obtain ⟨i, e⟩ := p
      obtain ⟨me, rfl, _, hme, hek, _⟩ := h2
      cases hr
      refine ⟨{ w with heap := w.heap.setIfInBounds L.b (.map (arr.eraseIdxIfInBounds i) clock) }, ?_, h.put0 hL hro hg (cl0_map _) (cl0_map _) ⟨_, _, rfl, ?_, hbase⟩⟩
      · simp only [Builtin.delete_, hts, List.getElem?_toArray, List.getElem?_cons_zero, List.getElem?_cons_succ, Sem.run_bind, run_underlying ht', Result.andThen_ok, hgo, h4, h3, hset, Sem.run_pure]
      · have : (arr.eraseIdxIfInBounds i).toList = arr.toList.eraseIdx i := by
          unfold Array.eraseIdxIfInBounds
          split
          · simp
          · rename_i hi
            rw [List.eraseIdx_of_length_le (by simpa using hi)]
        rw [this]
        exact delNth_spec harr
theorem copyA_run (h : MR N ρ ro st W w) {ts : Array TypeId} {ty t : TypeId} {d s r : AV} {dv sv : Value} {st' : St} (hts : ts[0]? = some t) (hd : VR ρ d dv) (hs : VR ρ s sv) (hr : copyA P ro st t d s = .ok (r, st')) :
    ∃ w' q, (Builtin.copy_ ts ty #[dv, sv]).run P w = .ok q w' ∧ MR N ρ ro st' W w' ∧ VR ρ r q := by
  unfold copyA at hr
  split at hr
  case h_2 => cases hr
  rename_i e size dn sn hel hdn hsn
  obtain ⟨hu, hsz⟩ := elemOf_spec hel
  have hmin : minA sn dn = Nat.min sn dn := by
    unfold minA
    cases hb : Nat.ble sn dn with
    | true => exact (Nat.min_eq_left (ble_true hb)).symm
    | false =>
      have : dn ≤ sn := by
        rcases Nat.lt_or_ge sn dn with h1 | h1
        · have := Nat.ble_eq_true_of_le (Nat.le_of_lt h1)
          rw [this] at hb; cases hb
        · exact h1
      exact (Nat.min_eq_right this).symm
  rw [hmin] at hr
  obtain ⟨l, hl, hr2⟩ := Rs.bind_ok hr
  clear hr
  split at hr2
  · cases hr2
  rename_i hone
  obtain ⟨vs, h1, h2, h3⟩ := firstCells_run (P := P) h hs hsn (Nat.min_le_left _ _) hl
  have hlen := lenOf_run (P := P) hs hsn w
  split at hr2
  · rename_i id off ln cap
    obtain ⟨st1, hst, hr2⟩ := Rs.bind_ok hr2
    cases hr2
    cases hdn
    cases hd with | sl _ _ _ _ L c o hL hcap hlc =>
    by_cases h0 : vs = []
    · subst h0
      have hl0 : l = [] := by have := h2.length; simpa using this.symm
      subst hl0
      cases hst
      refine ⟨w, _, ?_, h, .int _ _⟩
      simp only [Builtin.copy_, hts, List.getElem?_toArray, List.getElem?_cons_zero, List.getElem?_cons_succ, Sem.run_bind, run_underlying hu, Result.andThen_ok, hlen, run_size hsz, h1, Sem.run_pure]
      rfl
    · have ho : o = L.base + off := by
        cases cap with
        | k m => exact hcap.2
        | g m => rcases hcap.2 with h5 | h5
                 · exfalso
                   subst h5
                   have : dn = 0 := by omega
                   subst this
                   have h6 := h2.length
                   have h7 : l.length = 0 := by rw [h3]; simp [Nat.min_def]
                   apply h0
                   have : vs.length = 0 := by omega
                   simpa using this
                 · exact h5
      subst ho
      obtain ⟨w', hw, hM, _⟩ := h.stores (P := P) hL hst h2
      refine ⟨w', _, ?_, hM, .int _ _⟩
      simp only [Builtin.copy_, hts, List.getElem?_toArray, List.getElem?_cons_zero, List.getElem?_cons_succ, Sem.run_bind, run_underlying hu, Result.andThen_ok, hlen, run_size hsz, h1, Sem.run_pure, hw]
      rfl
  · cases hr2
    cases hdn
    cases hd
    refine ⟨w, _, ?_, h, .int _ _⟩
    simp only [Builtin.copy_, hts, List.getElem?_toArray, List.getElem?_cons_zero, List.getElem?_cons_succ, Sem.run_bind, run_underlying hu, Result.andThen_ok, hlen, run_size hsz, h1, Sem.run_pure]
    rfl
  · cases hr2
end
end Go.Proofs.YteegpmimbbgdlaaGreatDoor.Ab
