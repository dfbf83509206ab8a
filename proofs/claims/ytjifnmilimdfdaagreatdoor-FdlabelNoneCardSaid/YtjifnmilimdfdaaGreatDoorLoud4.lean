import Derived.Test.YtjifnmilimdfdaaGreatDoorApp3
import Derived.Lib.UnsafeStr
import Derived.Laws.BytesString
/- What writes: maps, 'copy'. -/
set_option linter.unusedVariables false
set_option linter.unusedSimpArgs false
set_option linter.unnecessarySimpa false
namespace Go.Proofs.YtjifnmilimdfdaaGreatDoor.Ab
open Go Go.RowKit

section
variable {P : Program} {N : Nat → Prop} {ρ : Rho} {ro : Nat} {st : St} {W w : World}
theorem MR.put0 (h : MR N ρ ro st W w) {id : Nat} {L : Loc} (hL : ρ id = some L) (hro : ro ≤ id) {ob ob' : Ob} {o' : Obj} (hob : st.heap.get id = some ob) (h0 : ob.cl0) (h0' : ob'.cl0) (ho : OR ρ L ob' o') :
    MR N ρ ro { st with heap := st.heap.set id ob' } W { w with heap := w.heap.setIfInBounds L.b o' } := by
  refine h.upd hL hro ho rfl (fun j x hj => ?_) (h.nx _ _ hob) (fun j M x hne hM hj hb => ?_) (fun j cs n e fz cl rel hj => ?_) rfl
  · rcases PT.get_set hj with ⟨rfl, rfl⟩ | ⟨a, b⟩
    · exact .inl ⟨rfl, rfl⟩
    · exact .inr ⟨a, b⟩
  · rcases PT.get_set hj with ⟨e, _⟩ | ⟨_, b⟩
    · exact hne e
    · rcases h.inj j id M L _ _ hM hL b hob hb with e | hm
      · exact hne e
      · obtain ⟨cs1, n1, e1, fz1, cl1, rel1, cs2, n2, e2, fz2, rel2, _, h2, _⟩ := hm
        exact h0 _ _ _ _ _ _ h2
  · rcases PT.get_set hj with ⟨rfl, e⟩ | ⟨_, b⟩
    · exact absurd e.symm (h0' _ _ _ _ _ _)
    · exact h.cls j cs n e fz cl rel b
theorem cl0_mset (es : List (AV × AV)) : (Ob.mset es).cl0 := fun _ _ _ _ _ _ e => by cases e
theorem cl0_miter (m s : Nat) (l : List Nat) : (Ob.miter m s l).cl0 := fun _ _ _ _ _ _ e => by cases e
/-- The entries' stamps are their places. -/
def Pris (pr : Bool) (arr : Array MapEntry) (clock : Nat) : Prop := pr = true → clock = arr.size ∧ ∀ (i : Nat) e, arr[i]? = some e → e.born = i
theorem Pris.push {pr : Bool} {arr : Array MapEntry} {clock : Nat} (h : Pris pr arr clock) (k v : Value) : Pris pr (arr.push { key := k, val := v, born := clock }) (clock + 1) := fun hp => by
  obtain ⟨h1, h2⟩ := h hp
  refine ⟨by simp [h1], fun i e he => ?_⟩
  rw [Array.getElem?_push] at he
  split at he
  · cases he; show clock = i; omega
  · exact h2 i e he
theorem Pris.modify {pr : Bool} {arr : Array MapEntry} {clock : Nat} (h : Pris pr arr clock) (j : Nat) (k v : Value) : Pris pr (arr.modify j fun e => { e with key := k, val := v }) clock := fun hp => by
  obtain ⟨h1, h2⟩ := h hp
  refine ⟨by simp [h1], fun i e he => ?_⟩
  rw [Array.getElem?_modify] at he
  split at he
  · cases hx : arr[i]? with
    | none => rw [hx] at he; cases he
    | some x =>
      rw [hx] at he
      cases he
      exact h2 i x hx
  · exact h2 i e he
theorem cl0_map (pr : Bool) (es : List (AV × AV)) : (Ob.map pr es).cl0 := fun _ _ _ _ _ _ e => by cases e
theorem cl0_iter (s : List UInt8) (p : Nat) : (Ob.iter s p).cl0 := fun _ _ _ _ _ _ e => by cases e
theorem plain_same {n : Nat} {a b : AV} {v u : Value} (hp : plainCell a = true) (hs : AV.same (n + 1) a b = true) (hv : VR ρ a v) (hu : VR ρ b u) (m : Nat) : v = u ∧ Instr.sameBits (m + 1) v v = true := by
  cases a <;> simp only [plainCell] at hp <;> first | (exact absurd hp (by decide)) | skip
  all_goals cases b <;> simp only [AV.same] at hs <;> first | (exact absurd hs (by decide)) | skip
  · cases hv; cases hu
    simp at hs
    exact ⟨by rw [hs], by simp [Instr.sameBits]⟩
  · cases hv; cases hu
    simp at hs
    exact ⟨by rw [hs.1, hs.2], by simp [Instr.sameBits]⟩
  · cases hv; cases hu
    rw [eqBytes_iff] at hs
    exact ⟨by rw [eq_of_beq hs], by simp [Instr.sameBits, beq_toListBytes]⟩
theorem plain_cells {n : Nat} : ∀ {a b : List AV} {v u : List Value}, a.all plainCell = true → eqAVs (AV.same (n + 1)) a b = true → VRs ρ a v → VRs ρ b u → ∀ m, v = u ∧ ((v.zip v).all fun (x, y) => Instr.sameBits (m + 1) x y) = true
  | [], [], v, u, _, _, hv, hu, m => by cases hv; cases hu; exact ⟨rfl, rfl⟩
  | [], _ :: _, v, u, _, hs, hv, hu, m => by cases hs
  | _ :: _, [], v, u, _, hs, hv, hu, m => by cases hs
  | x :: r, y :: s, v, u, hp, hs, hv, hu, m => by
    cases hv with | cons _ v1 _ v2 hv1 hv2 => cases hu with | cons _ u1 _ u2 hu1 hu2 =>
    simp only [List.all_cons, Bool.and_eq_true] at hp
    simp only [eqAVs] at hs
    split at hs
    · rename_i hs1
      obtain ⟨rfl, h2⟩ := plain_same hp.1 hs1 hv1 hu1 m
      obtain ⟨rfl, h4⟩ := plain_cells hp.2 hs hv2 hu2 m
      exact ⟨rfl, by simp only [List.zip_cons_cons, List.all_cons, h2, h4, Bool.and_self]⟩
    · cases hs
theorem key_same {a b : AV} {v u : Value} (hp : plainKey a = true) (hs : AV.same 20 a b = true) (hv : VR ρ a v) (hu : VR ρ b u) : v = u ∧ Instr.sameBits 10000 v v = true := by
  cases a <;> simp only [plainKey] at hp <;> first
    | (exact plain_same hp hs hv hu 9999)
    | skip
  cases b <;> first | (exact Bool.noConfusion (show false = true from hs)) | skip
  cases hv with | agg _ c hc => cases hu with | agg _ c' hc' =>
  obtain ⟨h1, h2⟩ := plain_cells (n := 18) hp hs hc hc' 9998
  have : c = c' := Array.ext' h1
  subst this
  exact ⟨rfl, by simp only [Instr.sameBits, h2, beq_self_eq_true, Bool.and_self]⟩
theorem setNth_spec {k v : AV} {kv vv : Value} : ∀ {es : List (AV × AV)} {m : List MapEntry} {i : Nat}, ERs ρ es m → VR ρ k kv → VR ρ v vv → ERs ρ (setNth es k v i) (m.modify i fun e => { e with key := kv, val := vv })
  | [], m, i, h, hk, hv => by
    obtain ⟨h1, h2⟩ := h
    have : m = [] := by have := h1.length; simpa using this
    subst this
    cases i <;> exact ⟨.nil, .nil⟩
  | e :: es, [], i, h, hk, hv => by have := h.1.length; simp at this
  | e :: es, me :: m, i, h, hk, hv => by
    obtain ⟨h1, h2⟩ := h
    cases h1 with | cons _ _ _ _ a1 a2 => cases h2 with | cons _ _ _ _ b1 b2 =>
    cases i with
    | zero => exact ⟨by simpa [setNth] using VRs.cons _ _ _ _ hk a2, by simpa [setNth] using VRs.cons _ _ _ _ hv b2⟩
    | succ i =>
      obtain ⟨c1, c2⟩ := setNth_spec (i := i) ⟨a2, b2⟩ hk hv
      exact ⟨by simpa [setNth] using VRs.cons _ _ _ _ a1 c1, by simpa [setNth] using VRs.cons _ _ _ _ b1 c2⟩
theorem delNth_spec : ∀ {es : List (AV × AV)} {m : List MapEntry} {i : Nat}, ERs ρ es m → ERs ρ (delNth es i) (m.eraseIdx i)
  | [], m, i, h => by
    obtain ⟨h1, h2⟩ := h
    have : m = [] := by have := h1.length; simpa using this
    subst this
    cases i <;> exact ⟨.nil, .nil⟩
  | e :: es, [], i, h => by have := h.1.length; simp at this
  | e :: es, me :: m, i, h => by
    obtain ⟨h1, h2⟩ := h
    cases h1 with | cons _ _ _ _ a1 a2 => cases h2 with | cons _ _ _ _ b1 b2 =>
    cases i with
    | zero => exact ⟨by simpa [delNth] using a2, by simpa [delNth] using b2⟩
    | succ i =>
      obtain ⟨c1, c2⟩ := delNth_spec (i := i) ⟨a2, b2⟩
      exact ⟨by simpa [delNth] using VRs.cons _ _ _ _ a1 c1, by simpa [delNth] using VRs.cons _ _ _ _ b1 c2⟩
theorem ERs.snoc {es : List (AV × AV)} {m : List MapEntry} (h : ERs ρ es m) {k v : AV} {e : MapEntry} (hk : VR ρ k e.key) (hv : VR ρ v e.val) : ERs ρ (es ++ [(k, v)]) (m ++ [e]) :=
  ⟨by simpa using h.1.append (.cons _ _ _ _ hk .nil), by simpa using h.2.append (.cons _ _ _ _ hv .nil)⟩
theorem checkA_under {kt : TypeId} {k : AV} {n : Nat} (h : checkA P n kt k = true) : ∃ d, P.underlying kt = some d := by
  cases n with
  | zero => cases h
  | succ n =>
    cases hd : P.underlying kt with
    | none => simp [checkA, hd] at h
    | some d => exact ⟨d, rfl⟩
theorem run_setObj {b : Nat} {es : Array MapEntry} {clock : Nat} (o : Obj) (hb : w.heap[b]? = some (.map es clock)) : (setObj b o).run P w = .ok () { w with heap := w.heap.setIfInBounds b o } := by
  simp [setObj, Sem.run, hb]
theorem updateA_run (h : MR N ρ ro st W w) {t : TypeId} {m k v : AV} {mv kv vv : Value} {st' : St} (hm : VR ρ m mv) (hk : VR ρ k kv) (hv : VR ρ v vv) (hr : updateA P ro st t m k v = .ok st') :
    ∃ w', (Instr.mapUpdate t mv kv vv).run P w = .ok () w' ∧ MR N ρ ro st' W w' := by
  unfold updateA at hr
  split at hr
  case h_2 => cases hr
  rename_i kt _ id ht
  have ht' := mapKV_spec ht
  cases hm with | map _ L hL =>
  split at hr
  case h_2 => cases hr
  rename_i pr es hg hck hro
  simp only [Bool.and_eq_true] at hck
  have hro := blt_false hro
  obtain ⟨f, hf, hr⟩ := Rs.bind_ok hr
  obtain ⟨o, ho, arr, clock, rfl, harr, hbase, hpr⟩ := h.obs _ L _ hL hg
  have hpr : Pris pr arr clock := hpr
  obtain ⟨r', h1, h2⟩ := findA_run h hk harr hf
  obtain ⟨d, hd⟩ := checkA_under hck.1
  have h3 := findKey_of hd h1
  have h4 := checkA_run (P := P) 20 10000 (by omega) false w hk hck.1
  have hgo := run_getObj (P := P) ho (by intro c e f hh; cases hh)
  have hset := fun x => run_setObj (P := P) x ho
  simp only [Instr.mapUpdate, Sem.run_bind, run_underlying ht', Result.andThen_ok, hgo, h4, h3]
  cases f with
  | none =>
    have : r' = none := h2
    subst this
    cases hr
    refine ⟨_, hset _, h.put0 hL hro hg (cl0_map _ _) (cl0_map _ _) ⟨_, _, rfl, ?_, hbase, hpr.push _ _⟩⟩
    rw [Array.toList_push]
    exact harr.snoc hk hv
  | some p =>
    obtain ⟨i, e⟩ := p
    obtain ⟨me, rfl, _, hme, hek, _⟩ := h2
    simp only at hr
    split at hr
    · rename_i hs
      cases hr
      obtain ⟨he1, he2⟩ := key_same hck.2 hs hk hek
      have hme' : arr[i]? = some me := by simpa using hme
      subst he1
      simp only [hme', Option.map_some, Option.getD_some]
      have hst : (Instr.keyThatStays me.key me.key).run P w = .ok me.key w := by simp [Instr.keyThatStays, he2]
      simp only [Sem.run_bind, hst, Result.andThen_ok]
      refine ⟨_, hset _, h.put0 hL hro hg (cl0_map _ _) (cl0_map _ _) ⟨_, _, rfl, ?_, hbase, hpr.modify _ _ _⟩⟩
      rw [Array.toList_modify]
      exact setNth_spec harr hk hv
    · cases hr
theorem deleteA_run (h : MR N ρ ro st W w) {ts : Array TypeId} {ty t : TypeId} {m k : AV} {mv kv : Value} {st' : St} (hts : ts[0]? = some t) (hm : VR ρ m mv) (hk : VR ρ k kv) (hr : deleteA P ro st t m k = .ok st') :
    ∃ w', (Builtin.delete_ ts ty #[mv, kv]).run P w = .ok (.tuple #[]) w' ∧ MR N ρ ro st' W w' := by
  unfold deleteA at hr
  split at hr
  case h_3 => cases hr
  · rename_i kt _ ht
    have ht' := mapKV_spec ht
    cases hm
    split at hr
    · rename_i hck
      cases hr
      have h4 := checkA_run (P := P) 20 10000 (by omega) true w hk hck
      refine ⟨w, ?_, h⟩
      simp [Builtin.delete_, hts, run_underlying ht', h4]
    · cases hr
  · rename_i kt _ id ht
    have ht' := mapKV_spec ht
    cases hm with | map _ L hL =>
    split at hr
    case h_2 => cases hr
    rename_i pr es hg hck hro
    have hro := blt_false hro
    obtain ⟨f, hf, hr⟩ := Rs.bind_ok hr
    obtain ⟨o, ho, arr, clock, rfl, harr, hbase, _⟩ := h.obs _ L _ hL hg
    obtain ⟨r', h1, h2⟩ := findA_run h hk harr hf
    obtain ⟨d, hd⟩ := checkA_under hck
    have h3 := findKey_of hd h1
    have h4 := checkA_run (P := P) 20 10000 (by omega) arr.isEmpty w hk hck
    have hgo := run_getObj (P := P) ho (by intro c e f hh; cases hh)
    have hset := fun x => run_setObj (P := P) x ho
    cases f with
    | none =>
      have : r' = none := h2
      subst this
      cases hr
      have hsame : ({ w with heap := w.heap.setIfInBounds L.b (.map arr clock) } : World) = w := by
        have : w.heap.setIfInBounds L.b (.map arr clock) = w.heap := by
          apply Array.ext_getElem?
          intro i
          by_cases hi : L.b = i
          · subst hi
            have := lt_of_block ho
            simp [this]
            rw [Array.getElem?_eq_getElem this] at ho
            exact (Option.some.inj ho).symm
          · rw [Array.getElem?_setIfInBounds_ne hi]
        rw [this]
      refine ⟨w, ?_, h⟩
      have hset' := hset (.map arr clock)
      rw [hsame] at hset'
      simp only [Builtin.delete_, hts, List.getElem?_toArray, List.getElem?_cons_zero, List.getElem?_cons_succ, Sem.run_bind, run_underlying ht', Result.andThen_ok, hgo, h4, h3, hset', Sem.run_pure]
    | some p =>
      obtain ⟨i, e⟩ := p
      obtain ⟨me, rfl, _, hme, hek, _⟩ := h2
      cases hr
      refine ⟨{ w with heap := w.heap.setIfInBounds L.b (.map (arr.eraseIdxIfInBounds i) clock) }, ?_, h.put0 hL hro hg (cl0_map _ _) (cl0_map _ _) ⟨_, _, rfl, ?_, hbase, (fun e => by cases e)⟩⟩
      · simp only [Builtin.delete_, hts, List.getElem?_toArray, List.getElem?_cons_zero, List.getElem?_cons_succ, Sem.run_bind, run_underlying ht', Result.andThen_ok, hgo, h4, h3, hset, Sem.run_pure]
      · have : (arr.eraseIdxIfInBounds i).toList = arr.toList.eraseIdx i := by
          unfold Array.eraseIdxIfInBounds
          split
          · simp
          · rename_i hi
            rw [List.eraseIdx_of_length_le (by simpa using hi)]
        rw [this]
        exact delNth_spec harr
theorem copyA_run (h : MR N ρ ro st W w) {ts : Array TypeId} {ty t : TypeId} {d s r : AV} {dv sv : Value} {st' : St} (hts : ts[0]? = some t) (hd : VR ρ d dv) (hs : VR ρ s sv) (hr : copyA P ro st t d s = .ok (r, st')) :
    ∃ w' q, (Builtin.copy_ ts ty #[dv, sv]).run P w = .ok q w' ∧ MR N ρ ro st' W w' ∧ VR ρ r q := by
  unfold copyA at hr
  split at hr
  case h_2 => cases hr
  rename_i e size dn sn hel hdn hsn
  obtain ⟨hu, hsz⟩ := elemOf_spec hel
  have hmin : minA sn dn = Nat.min sn dn := by
    unfold minA
    cases hb : Nat.ble sn dn with
    | true => exact (Nat.min_eq_left (ble_true hb)).symm
    | false =>
      have : dn ≤ sn := by
        rcases Nat.lt_or_ge sn dn with h1 | h1
        · have := Nat.ble_eq_true_of_le (Nat.le_of_lt h1)
          rw [this] at hb; cases hb
        · exact h1
      exact (Nat.min_eq_right this).symm
  rw [hmin] at hr
  obtain ⟨l, hl, hr2⟩ := Rs.bind_ok hr
  clear hr
  split at hr2
  · cases hr2
  rename_i hone
  obtain ⟨vs, h1, h2, h3⟩ := firstCells_run (P := P) h hs hsn (Nat.min_le_left _ _) hl
  have hlen := lenOf_run (P := P) hs hsn w
  split at hr2
  · rename_i id off ln cap
    obtain ⟨st1, hst, hr2⟩ := Rs.bind_ok hr2
    cases hr2
    cases hdn
    cases hd with | sl _ _ _ _ L c o hL hcap hlc =>
    by_cases h0 : vs = []
    · subst h0
      have hl0 : l = [] := by have := h2.length; simpa using this.symm
      subst hl0
      cases hst
      refine ⟨w, _, ?_, h, .int _ _⟩
      simp only [Builtin.copy_, hts, List.getElem?_toArray, List.getElem?_cons_zero, List.getElem?_cons_succ, Sem.run_bind, run_underlying hu, Result.andThen_ok, hlen, run_size hsz, h1, Sem.run_pure]
      rfl
    · have ho : o = L.base + off := by
        cases cap with
        | k m => exact hcap.2
        | g m => rcases hcap.2 with h5 | h5
                 · exfalso
                   subst h5
                   have : dn = 0 := by omega
                   subst this
                   have h6 := h2.length
                   have h7 : l.length = 0 := by rw [h3]; simp [Nat.min_def]
                   apply h0
                   have : vs.length = 0 := by omega
                   simpa using this
                 · exact h5
      subst ho
      obtain ⟨w', hw, hM, _⟩ := h.stores (P := P) hL hst h2
      refine ⟨w', _, ?_, hM, .int _ _⟩
      simp only [Builtin.copy_, hts, List.getElem?_toArray, List.getElem?_cons_zero, List.getElem?_cons_succ, Sem.run_bind, run_underlying hu, Result.andThen_ok, hlen, run_size hsz, h1, Sem.run_pure, hw]
      rfl
  · cases hr2
    cases hdn
    cases hd
    refine ⟨w, _, ?_, h, .int _ _⟩
    simp only [Builtin.copy_, hts, List.getElem?_toArray, List.getElem?_cons_zero, List.getElem?_cons_succ, Sem.run_bind, run_underlying hu, Result.andThen_ok, hlen, run_size hsz, h1, Sem.run_pure]
    rfl
  · cases hr2
end
end Go.Proofs.YtjifnmilimdfdaaGreatDoor.Ab
/- Strings from bytes, and bytes from strings; maps made; ranges. -/
set_option linter.unusedVariables false
set_option linter.unusedSimpArgs false
set_option linter.unnecessarySimpa false
namespace Go.Proofs.YtjifnmilimdfdaaGreatDoor.Ab
open Go Go.RowKit

section
variable {P : Program} {N : Nat → Prop} {ρ : Rho} {ro : Nat} {st : St} {W w : World}
theorem MR.change (h : MR N ρ ro st W w) {id : Nat} {L : Loc} (hL : ρ id = some L) (hro' : ro ≤ id) {cs cs' : PT AV} {n e fz fz' cl rel : Nat} {o' : Obj} (hr : st.heap.get id = some (.row cs n e fz cl rel)) (hOR : OR ρ L (.row cs' n e fz' cl rel) o') {st' : St}
    (hs : st.change id cs' n e fz' cl rel = .ok st') : MR N ρ ro st' W { w with heap := w.heap.setIfInBounds L.b o' } ∧ st'.next = st.next := by
  have hidn := h.nx _ _ hr
  unfold St.change at hs
  split at hs
  · cases hs
    refine ⟨h.upd hL hro' hOR rfl (fun j ob hj => ?_) hidn (fun j M ob hj hM hob => ?_) (fun j cs n e fz cl rel hj => ?_) rfl, rfl⟩
    · rcases PT.get_set hj with ⟨rfl, rfl⟩ | ⟨h1, h2⟩
      · exact .inl ⟨rfl, rfl⟩
      · exact .inr ⟨h1, h2⟩
    · rcases PT.get_set hob with ⟨rfl, _⟩ | ⟨_, h2⟩
      · exact absurd rfl hj
      · intro hbb
        rcases h.inj id j L M _ _ hL hM hr h2 hbb.symm with e' | ⟨_, _, _, _, _, _, _, _, _, _, _, e1, _⟩
        · exact hj e'.symm
        · cases e1
    · rcases PT.get_set hj with ⟨_, e1⟩ | ⟨_, h2⟩
      · cases e1
      · exact h.cls j cs n e fz cl rel h2
  · rename_i hcl
    split at hs
    · rename_i m hm
      cases hs
      obtain ⟨cl, rfl⟩ : ∃ k, cl = k + 1 := by
        cases cl with
        | zero => exact absurd rfl hcl
        | succ k => exact ⟨k, rfl⟩
      obtain ⟨hcn, _⟩ := h.cls id cs n e fz cl rel hr
      refine ⟨h.upd hL hro' hOR rfl (fun j ob hj => ?_) hidn (fun j M ob hj hM hob => ?_) (fun j cs1 n1 e1 fz1 cl1 rel1 hj => ?_) rfl, rfl⟩
      · obtain ⟨h1, _⟩ := get_kill hj
        rcases PT.get_set h1 with ⟨rfl, rfl⟩ | ⟨h1, h2⟩
        · exact .inl ⟨rfl, rfl⟩
        · exact .inr ⟨h1, h2⟩
      · obtain ⟨h1, h2⟩ := get_kill hob
        rcases PT.get_set h1 with ⟨rfl, _⟩ | ⟨_, h3⟩
        · exact absurd rfl hj
        · intro hbb
          rcases h.inj id j L M _ _ hL hM hr h3 hbb.symm with e' | ⟨_, _, _, _, _, _, cs2, n2, e2, fz2, rel2, e1, e3, _⟩
          · exact hj e'.symm
          · cases e1
            subst e3
            obtain ⟨_, hm2⟩ := h.cls j cs2 n2 e2 fz2 cl rel2 h3
            obtain ⟨hin2, _⟩ := hm2 _ hm
            rcases h2 with h2 | h2
            · exact hj h2
            · exact h2 hin2
      · obtain ⟨h1, h2⟩ := get_kill hj
        rcases PT.get_set h1 with ⟨rfl, e'⟩ | ⟨hne, h3⟩
        · cases e'
          refine ⟨hcn, fun m2 hm2 => ?_⟩
          rcases PT.get_set hm2 with ⟨_, rfl⟩ | ⟨hne, _⟩
          · exact ⟨by simp, Nat.le_refl _⟩
          · exact absurd rfl hne
        · obtain ⟨a1, hm2⟩ := h.cls j cs1 n1 e1 fz1 cl1 rel1 h3
          refine ⟨a1, fun m2 hm3 => ?_⟩
          rcases PT.get_set hm3 with ⟨hc, rfl⟩ | ⟨hne', hm4⟩
          · have hc' : cl1 = cl := by omega
            subst hc'
            obtain ⟨hin2, _⟩ := hm2 _ hm
            rcases h2 with h2 | h2
            · exact absurd h2 hne
            · exact absurd hin2 h2
          · exact hm2 _ hm4
    · cases hs
theorem bytesOfA_spec : ∀ {l : List AV} {s : List UInt8} {vs : List Value}, bytesOfA l = .ok s → VRs ρ l vs → vs = s.map fun b => Value.int .u8 (b.toNat : Int)
  | [], s, vs, h, hv => by cases h; cases hv; rfl
  | x :: r, s, vs, h, hv => by
    cases hv with | cons _ v _ m hx hr =>
    unfold bytesOfA at h
    split at h
    · rename_i b
      split at h
      · rename_i hb
        have hb := blt_true hb
        obtain ⟨t, ht, h⟩ := Rs.bind_ok h
        cases h
        cases hx
        rw [bytesOfA_spec ht hr]
        simp only [List.map_cons]
        congr 2
        simp [UInt8.toNat_ofNat, Nat.mod_eq_of_lt hb]
      · cases h
    · cases h
theorem bytes_fold (s : List UInt8) : ∀ (acc : ByteArray), ((s.map fun b => (b.toNat : Int)).foldl (fun r n => r.push (UInt8.ofNat n.toNat)) acc) = ⟨acc.data ++ s.toArray⟩ := by
  induction s with
  | nil => intro acc; simp
  | cons b s ih =>
    intro acc
    simp only [List.map_cons, List.foldl_cons, ih]
    congr 1
    simp
theorem bytesToString_run {b o len cap : Nat} {s : List UInt8} (h : (Go.loadCells (⟨b, o, none⟩ : Addr) len).run P w = .ok (s.map fun b => Value.int .u8 (b.toNat : Int)).toArray w) :
    (Conv.bytesToString (.slice (some ⟨b, o, none⟩) len cap)).run P w = .ok (.string ⟨⟨s⟩⟩) w := by
  have := run_bytesToString (P := P) w (⟨b, o, none⟩ : Addr) len cap (s.map fun b => (b.toNat : Int)) (by rw [h]; simp)
  rw [this, bytes_fold]
  congr 3
  simp
theorem loadBytes_run {b : Nat} : ∀ (s : List UInt8) (o : Nat) (acc : ByteArray), (∀ j x, s[j]? = some x → w.cell? ⟨b, o + j, none⟩ = some (.int .u8 (x.toNat : Int))) → (Go.loadBytes ⟨b, o, none⟩ acc s.length).run P w = .ok ⟨acc.data ++ s.toArray⟩ w
  | [], o, acc, h => by simp [Go.loadBytes]
  | x :: s, o, acc, h => by
    have h0 := h 0 x (by simp)
    simp only [Nat.add_zero] at h0
    simp only [Go.loadBytes, List.length_cons, Sem.run_bind, run_load, h0, Result.andThen_ok]
    rw [addr_add]
    have := loadBytes_run s (o + 1) (acc.push x) (fun j y hj => by
      have := h (j + 1) y (by simpa using hj)
      rw [show o + 1 + j = o + (j + 1) from by omega]; exact this)
    have e : ((x.toNat : Int).toNat.toUInt8) = x := by simp
    rw [e, this]
    congr 2
    simp
theorem liesAt_row {u d off n count : Nat} (hs : P.cellsOf u = 1) (hc : off + n ≤ count) : liesAt P P.depth u (count / P.cellsOf u) off u n = true := by
  obtain ⟨d, hd⟩ : ∃ d, P.depth = d + 1 := ⟨2 * (P.types.size + Made.depth) + 1, rfl⟩
  rw [hd]
  simp only [liesAt]
  have h1 : rowAt P (fun x => sameLayout P P.depth x u) P.depth u (count / P.cellsOf u) off n = true := by
    rw [hd]
    simp only [rowAt]
    simp [hs, sameLayout, Nat.mod_one, hc]
  rw [h1]; rfl
end
end Go.Proofs.YtjifnmilimdfdaaGreatDoor.Ab
/- The loud operations, all of them. -/
set_option linter.unusedVariables false
set_option linter.unusedSimpArgs false
set_option linter.unnecessarySimpa false
namespace Go.Proofs.YtjifnmilimdfdaaGreatDoor.Ab
open Go Go.RowKit

section
variable {P : Program} {N : Nat → Prop} {ρ : Rho} {ro : Nat} {st : St} {W w : World}
theorem MR.make (h : MR N ρ ro st W w) {ob : Ob} {o : Obj} {n : Nat} (h0 : ob.cl0) (ho : ∀ ρ' : Rho, ρ.le ρ' → OR ρ' ⟨w.heap.size, n, 0⟩ ob o) :
    ∃ ρ', ρ.le ρ' ∧ MR N ρ' ro (st.new ob) W { w with heap := w.heap.push o } ∧ ρ' st.next = some ⟨w.heap.size, n, 0⟩ := by
  have hf := h.fresh
  refine ⟨ρ.put st.next ⟨w.heap.size, n, 0⟩, Rho.put_le hf, ?_, Rho.put_same⟩
  exact (h.pend h0).real (id := st.next) (ob := ob) (fun ob' hob => get_new hob rfl) (Nat.lt_succ_self _) hf h.freshN h.ron rfl (ho _ (Rho.put_le hf))
/-- What a loud operation comes to. -/
def OutR (P : Program) (N : Nat → Prop) (ρ : Rho) (ro : Nat) (st : St) (W w : World) (out : Out) (r : Result Next) : Prop := match out with
  | .val v st' => ∃ ρ' q w', r = .ok (.value q) w' ∧ ρ.le ρ' ∧ MR N ρ' ro st' W w' ∧ VR ρ' v q
  | .skip st' => ∃ w', r = .ok .skip w' ∧ MR N ρ ro st' W w'
  | .later d => ∃ x, r = .ok (.defer x) w ∧ DR ρ d x
  | .enter f args => ∃ vs : Array Value, r = (callFunc f vs).run P w ∧ VRs ρ args vs.toList
  | .panic v => ∃ q, r = .halt (.panic q) w ∧ VR ρ v q
theorem next_run (h : MR N ρ ro st W w) {id pos : Nat} {s : List UInt8} {iv : Value} {ty : TypeId} (hv : VR ρ (.ptr id 0) iv) (hg : st.heap.get id = some (.iter s pos)) (hro : ro ≤ id) :
    (Nat.blt pos s.length = true → ∃ q w', (Instr.next iv true ty).run P w = .ok q w' ∧ MR N ρ ro { st with heap := st.heap.set id (.iter s (Nat.add pos (decodeA s pos).2)) } W w' ∧ VR ρ (.tup [.bool true, .int .i64 (Int.ofNat pos), .int .i32 (Int.ofNat (decodeA s pos).1)]) q) ∧
    (Nat.blt pos s.length = false → ∃ q, (Instr.next iv true ty).run P w = .ok q w ∧ VR ρ (.tup [.bool false]) q) := by
  cases hv with | ptr _ _ L hL =>
  obtain ⟨o, ho, rfl, hbase⟩ := h.obs _ L _ hL hg
  have hgo := run_getObj (P := P) ho (by intro c e f hh; cases hh)
  have hset : ∀ x, (setObj L.b x).run P w = .ok () { w with heap := w.heap.setIfInBounds L.b x } := fun x => by simp [setObj, Sem.run, ho]
  have hb0 : L.base + 0 = 0 := by omega
  rw [hb0]
  have hsize : (⟨⟨s⟩⟩ : ByteArray).size = s.length := by simp [ByteArray.size]
  have hdec : Utf8.decode ⟨⟨s⟩⟩ pos = decodeA s pos := by
    unfold decodeA
    split
    · rename_i b hb
      split
      · rename_i hlt
        have hlt := blt_true hlt
        have hb' : (⟨⟨s⟩⟩ : ByteArray).get! (pos + 0) = b := by
          have : pos < s.length := (List.getElem?_eq_some_iff.1 hb).1
          simp only [ByteArray.get!, Nat.add_zero]
          rw [getElem!_pos _ _ (by simpa using this)]
          have h2 := (List.getElem?_eq_some_iff.1 hb).2
          simpa using h2
        unfold Utf8.decode
        dsimp only
        rw [if_pos (by rw [hb']; omega), hb']
      · rfl
    · rfl
  constructor
  · intro hlt
    have hlt := blt_true hlt
    refine ⟨_, _, ?_, h.put0 hL hro hg (cl0_iter _ _) (cl0_iter s (pos + (decodeA s pos).2)) ⟨rfl, hbase⟩, .tup _ #[_, _, _] (.cons _ _ _ _ (.bool _) (.cons _ _ _ _ (.int _ _) (.cons _ _ _ _ (.int _ _) .nil)))⟩
    simp only [Instr.next, Sem.run_bind, hgo, Result.andThen_ok, hsize, if_pos hlt, hdec, hset, Sem.run_pure]
    rfl
  · intro hlt
    have hlt := blt_false hlt
    refine ⟨_, ?_, .tup _ #[_] (.cons _ _ _ _ (.bool _) .nil)⟩
    simp only [Instr.next, Sem.run_bind, hgo, Result.andThen_ok, hsize, if_neg (Nat.not_lt.2 hlt), Sem.run_pure]
theorem leftM_spec {seen : List Nat} : ∀ {es : List (AV × AV)} {i : Nat} {m : List MapEntry}, ERs ρ es m → (∀ (j : Nat) e, m[j]? = some e → e.born = i + j) →
    (∀ me ∈ m.filter (fun e => !seen.contains e.born), ∃ p ∈ leftM seen es i, p.1 = me.born ∧ VR ρ p.2.1 me.key ∧ VR ρ p.2.2 me.val) ∧ (m.filter (fun e => !seen.contains e.born)).length = (leftM seen es i).length
  | [], i, m, h, _ => by
    obtain ⟨h1, _⟩ := h
    have hm : m = [] := by have := h1.length; simpa using this
    rw [hm]
    exact ⟨(fun me h => by cases h), rfl⟩
  | e :: es, i, [], h, _ => by
    obtain ⟨h1, _⟩ := h
    have := h1.length; simp at this
  | e :: es, i, me :: m, h, hb => by
    obtain ⟨h1, h2⟩ := h
    cases h1 with | cons _ _ _ _ hk1 h1 => cases h2 with | cons _ _ _ _ hv1 h2 =>
    have hk1 : VR ρ e.1 me.key := hk1
    have hv1 : VR ρ e.2 me.val := hv1
    have hb0 : me.born = i := by have := hb 0 me rfl; omega
    obtain ⟨ih1, ih2⟩ := leftM_spec (seen := seen) (es := es) (i := i + 1) (m := m) ⟨h1, h2⟩ (fun j x hx => by have := hb (j + 1) x (by simpa using hx); omega)
    unfold leftM
    cases hc : seen.contains i with
    | true =>
      have : (!seen.contains me.born) = false := by rw [hb0, hc]; rfl
      rw [List.filter_cons_of_neg (p := fun e : MapEntry => !seen.contains e.born) (by rw [this]; exact Bool.false_ne_true)]
      exact ⟨ih1, ih2⟩
    | false =>
      have : (!seen.contains me.born) = true := by rw [hb0, hc]; rfl
      rw [List.filter_cons_of_pos (p := fun e : MapEntry => !seen.contains e.born) this]
      refine ⟨fun x hx => ?_, by simp only [List.length_cons]; rw [ih2]⟩
      rcases List.mem_cons.1 hx with rfl | hx
      · exact ⟨_, List.mem_cons_self .., hb0.symm, hk1, hv1⟩
      · obtain ⟨p, hp, h3⟩ := ih1 x hx
        exact ⟨p, List.mem_cons_of_mem _ hp, h3⟩
/-- The next entry of a map: whichever the tape says. -/
theorem nextM_run (h : MR N ρ ro st W w) {id m s : Nat} {seen : List Nat} {l : List (Nat × AV × AV)} {iv : Value} {ty : TypeId} (hv : VR ρ (.ptr id 0) iv) (hi : iterM ro st id = some (m, s, seen, l)) :
    (l = [] → ∃ q, (Instr.next iv false ty).run P w = .ok q w ∧ VR ρ (.tup [.bool false]) q) ∧
    (l ≠ [] → ∃ p ∈ l, ∃ q w', (Instr.next iv false ty).run P w = .ok q w' ∧ MR N ρ ro (takeM st id m s seen p).2 W w' ∧ VR ρ (takeM st id m s seen p).1 q) := by
  unfold iterM at hi
  split at hi
  case h_2 => cases hi
  rename_i m' s' seen' hg hro
  split at hi
  case h_2 => cases hi
  rename_i es hgm
  split at hi
  case h_2 => cases hi
  rename_i hlen
  cases hi
  have hlen := beq_true hlen
  have hro := blt_false hro
  cases hv with | ptr _ _ L hL =>
  obtain ⟨o, ho, M, hM, rfl, hbase⟩ := h.obs _ L _ hL hg
  obtain ⟨o', ho', arr, clock, rfl, harr, _, hpr⟩ := h.obs _ M _ hM hgm
  obtain ⟨hp1, hp2⟩ := hpr rfl
  have hgo := run_getObj (P := P) ho (by intro c e f hh; cases hh)
  have hgo' := run_getObj (P := P) ho' (by intro c e f hh; cases hh)
  have hb0 : L.base + 0 = 0 := by omega
  have hsz : arr.size = es.length := by
    have h1 := harr.1.length
    simpa using h1
  have hs : s = arr.size := by omega
  have hck : clock = s := by omega
  rw [hb0]
  obtain ⟨f1, f2⟩ := leftM_spec (seen := seen) (i := 0) harr (fun j e he => by have := hp2 j e (by simpa using he); omega)
  have hguard : (!seen.toArray.isEmpty && !arr.isEmpty && arr.all (fun e => decide (e.born ≥ s))) = false := by
    by_cases hz : arr.size = 0
    · have he : arr.isEmpty = true := by simp [Array.isEmpty, hz]
      rw [he]; simp
    · have hall : arr.all (fun e => decide (e.born ≥ s)) = false := by
        rw [Bool.eq_false_iff]
        intro hx
        rw [Array.all_eq_true] at hx
        have h1 := hx 0 (by omega)
        have h2 := hp2 0 (arr[0]'(by omega)) (by simp)
        simp [h2] at h1
        omega
      rw [hall, Bool.and_false]
  have hnew : ∀ e ∈ arr, ¬ (e.born ≥ s) := by
    intro e he
    obtain ⟨j, hj, hje⟩ := Array.mem_iff_getElem.1 he
    have := hp2 j e (by rw [← hje]; simp [hj])
    omega
  have hold : (arr.filter fun e => !seen.toArray.contains e.born).filter (fun e => decide (e.born < s)) = arr.filter fun e => !seen.toArray.contains e.born := by
    rw [Array.filter_eq_self]
    intro e he
    have := hnew e (Array.mem_filter.1 he).1
    simp; omega
  have hnews : (arr.filter fun e => !seen.toArray.contains e.born).filter (fun e => decide (e.born ≥ s)) = #[] := by
    rw [Array.filter_eq_empty_iff]
    intro e he
    have := hnew e (Array.mem_filter.1 he).1
    simpa using this
  generalize hleft : (arr.filter fun e => !seen.toArray.contains e.born) = left at hold hnews
  have hleftl : left.toList = arr.toList.filter (fun e => !seen.contains e.born) := by
    rw [← hleft]; simp
  rw [← hleftl] at f1 f2
  have hll : left.size = (leftM seen es 0).length := by simpa using f2
  constructor
  · intro hnil
    rw [hnil] at hll
    have hl0 : left = #[] := Array.eq_empty_of_size_eq_zero (by simpa using hll)
    refine ⟨.tuple #[.bool false], ?_, .tup _ #[_] (.cons _ _ _ _ (.bool _) .nil)⟩
    simp only [Instr.next, Sem.run_bind, hgo, hgo', Result.andThen_ok, hguard, Bool.false_eq_true, if_false, hleft, hold, hnews, hl0]
    simp [choose, Sem.run, Question.forced]
  · intro hne
    have hpos : left.size ≠ 0 := by
      intro e
      rw [e] at hll
      exact hne (List.eq_nil_of_length_eq_zero hll.symm)
    have hie : left.isEmpty = false := by simpa [Array.isEmpty] using hpos
    -- which: by the tape
    have hcand : ((if left.isEmpty = true then #[none] else #[]) ++ (left ++ (#[] : Array MapEntry)).map some) = left.map some := by
      rw [hie]; simp
    obtain ⟨c, n, hc, hch⟩ : ∃ c n, c < left.size ∧ (choose (.mapNext left.size)).run P w = .ok c { w with drawn := n } := by
      by_cases h1 : left.size ≤ 1
      · exact ⟨0, w.drawn, by omega, by simp [choose, Sem.run, Question.forced, h1]⟩
      · refine ⟨(w.tape w.drawn (.mapNext left.size)) % left.size, w.drawn + 1, Nat.mod_lt _ (by omega), ?_⟩
        simp [choose, Sem.run, Question.forced, h1, Question.cut]
    have hci : left[c]? = some left[c] := by simp [hc]
    obtain ⟨p, hp, hp3, hp4, hp5⟩ := f1 left[c] (by simp)
    have hset' : ∀ x, (setObj L.b x).run P { w with drawn := n } = .ok () { w with drawn := n, heap := w.heap.setIfInBounds L.b x } := fun x => by simp [setObj, Sem.run, ho]
    refine ⟨p, hp, .tuple #[.bool true, left[c].key, left[c].val], { w with drawn := n, heap := w.heap.setIfInBounds L.b (.mapIter (some M.b) s (seen ++ [p.1]).toArray s) }, ?_, ?_, .tup _ _ (.cons _ _ _ _ (.bool _) (.cons _ _ _ _ hp4 (.cons _ _ _ _ hp5 .nil)))⟩
    · simp only [Instr.next, Sem.run_bind, hgo, hgo', Result.andThen_ok, hguard, Bool.false_eq_true, if_false, hleft, hold, hnews]
      rw [hcand]
      simp only [Array.size_map, hch, Result.andThen_ok, Array.getElem?_map, hci, Option.map_some, Sem.run_bind, hset', Sem.run_pure]
      rw [hck, hp3]
      simp
    · exact (h.drawn n).put0 hL hro hg (cl0_miter _ _ _) (cl0_miter m s (seen ++ [p.1])) ⟨M, hM, rfl, hbase⟩
theorem modify_push {α : Type} (a : Array α) (x : α) (f : α → α) : (a.push x).modify a.size f = a.push (f x) := by
  apply Array.ext_getElem?
  intro i
  simp only [Array.getElem?_modify, Array.getElem?_push]
  by_cases hi : a.size = i
  · subst hi; simp
  · rw [if_neg hi, if_neg (by omega), if_neg (by omega)]
theorem toBytes_run (h : MR N ρ ro st W w) {b : List UInt8} {e : TypeId} (hlen : b.length ≤ 100000) :
    ∃ ρ' q w', (Conv.stringToBytes e ⟨⟨b⟩⟩).run P w = .ok q w' ∧ ρ.le ρ' ∧ MR N ρ' ro { st with heap := st.heap.set st.next (.row (PT.lay (b.map fun x => .int .u8 (Int.ofNat x.toNat)) 0 .nil) b.length e 1 (Nat.succ st.next) 0), next := Nat.succ st.next, cls := st.cls.set (Nat.succ st.next) (b.length, [st.next]) } W w' ∧ VR ρ' (.sl st.next 0 b.length (.g 1)) q := by
  have hsize : (⟨⟨b⟩⟩ : ByteArray).size = b.length := by simp [ByteArray.size]
  obtain ⟨cap, hcap, hge⟩ : ∃ cap, (choose (.appendCap (⟨⟨b⟩⟩ : ByteArray).size 0 e)).run P w = .ok cap { w with drawn := w.drawn + 1 } ∧ b.length ≤ cap := by
    refine ⟨(Question.appendCap (⟨⟨b⟩⟩ : ByteArray).size 0 e).cut (w.tape w.drawn (.appendCap (⟨⟨b⟩⟩ : ByteArray).size 0 e)), ?_, ?_⟩
    · rw [run_choose]; rw [if_neg (by simp [Question.forced])]
    · simp [Question.cut, hsize]
  let row : Array Value := ((⟨b⟩ : Array UInt8).map fun x => Value.int .u8 (x.toNat : Int)) ++ Array.replicate (cap - b.length) (.int .u8 0)
  have hrow : row.size = cap := by simp [row]; omega
  have hb : VRs ρ (b.map fun x => .int .u8 (Int.ofNat x.toNat)) (b.map fun x => Value.int .u8 (x.toNat : Int)) := by
    clear hsize hcap hge hrow row hlen
    induction b with
    | nil => exact .nil
    | cons x b ih => exact .cons _ _ _ _ (.int _ _) ih
  have hp := (h.pendC (cs := PT.lay (b.map fun x => .int .u8 (Int.ofNat x.toNat)) 0 .nil) (k := b.length) (e := e) (fz := 1) (cl := st.next) (rel := 0) (en := b.length) (ms := []) (Nat.le_refl _) (by omega) (fun j cs' n' e' fz' rel' hj => (no_old_class h hj).elim)).drawn (w.drawn + 1)
  have hf := h.fresh
  have hr := hp.real (id := st.next) (ob := .row (PT.lay (b.map fun x => .int .u8 (Int.ofNat x.toNat)) 0 .nil) b.length e 1 (st.next + 1) 0) (o := .cells row e (cap, cap + 1)) (L := ⟨w.heap.size, cap, 0⟩) (fun ob' hob => by
    rcases PT.get_set hob with ⟨_, r⟩ | ⟨n, _⟩
    · exact r
    · exact absurd rfl n) (Nat.lt_succ_self _) hf h.freshN h.ron rfl (by
    refine ⟨row, cap, cap + 1, rfl, hrow, fun _ => rfl, fun i a hi => ?_, (fun e => by cases e), fun _ => Nat.le_refl _⟩
    obtain ⟨h1, v, h2, h3⟩ := lay_row hb hi
    simp only [List.length_map] at h1
    refine ⟨h1, v, ?_, h3.mono (Rho.put_le hf)⟩
    simp only [Nat.zero_add, row]
    rw [Array.getElem?_append_left (by simp; exact h1)]
    simpa using h2)
  refine ⟨_, .slice (some ⟨w.heap.size, 0, none⟩) b.length cap, _, ?_, Rho.put_le hf, hr, .sl _ _ _ _ ⟨w.heap.size, cap, 0⟩ _ _ Rho.put_same ⟨by simp, .inr (by simp)⟩ hge⟩
  simp only [Conv.stringToBytes, Sem.run_bind, hcap, Result.andThen_ok, newRow, run_newObj, Sem.run_pure, markStringish, run_shape, World.shape?]
  have hrow' : ((⟨⟨b⟩⟩ : ByteArray).data.map (fun x => Value.int .u8 (x.toNat : Int)) ++ Array.replicate (cap - (⟨⟨b⟩⟩ : ByteArray).size) (Value.int .u8 0)) = row := by rw [hsize]
  rw [hrow']
  simp only [Array.getElem?_push, if_true, hrow, run_freeze, Result.andThen_ok, hsize, Sem.run_bind, World.freeze, Nat.succ_ne_zero, if_false]
  rw [modify_push]
  rfl
theorem shape_row {b : Nat} {c : Array Value} {e : TypeId} {f : Nat × Nat} (hb : w.heap[b]? = some (.cells c e f)) : w.shape? b = some (e, c.size) := by simp [World.shape?, hb]
theorem unsafeString_some (ts : Array TypeId) (ty : TypeId) (a : Addr) (nv : Value) : Builtin.unsafeString_ ts ty #[.pointer (some a), nv] = (do
    let n ← asInt nv
    let some pt := ts[0]? | stuck "unsafe.String: no argument types"
    if n < 0 then runtimePanic (.error "unsafe.String: len out of range")
    if n > IntKind.i64.max then unsupported (.unsafePointer "String: a length above the largest int")
    if n = 0 then pure (.string .empty)
    else if ← variablesAt a (← Go.elemOf pt) n.toNat then do
      let s ← loadBytes a .empty n.toNat
      freeze a n.toNat
      pure (.string s)
    else unsupported (.unsafePointer "String: not so many bytes at ptr")) := rfl
theorem unsafeString_nil (ts : Array TypeId) (ty : TypeId) (nv : Value) : Builtin.unsafeString_ ts ty #[.pointer none, nv] = (do
    let n ← asInt nv
    let some _ := ts[0]? | stuck "unsafe.String: no argument types"
    if n < 0 then runtimePanic (.error "unsafe.String: len out of range")
    if n > IntKind.i64.max then unsupported (.unsafePointer "String: a length above the largest int")
    if n = 0 then pure (.string .empty)
    else runtimePanic (.error "unsafe.String: ptr is nil and len is not zero")) := rfl
theorem unsafeString_zero {ts : Array TypeId} {ty pt : TypeId} {p : Option Addr} {kd : IntKind} (hts : ts[0]? = some pt) : (Builtin.unsafeString_ ts ty #[.pointer p, .int kd 0]).run P w = .ok (.string ⟨⟨[]⟩⟩) w := by
  have hmax : ¬ ((0 : Int) > IntKind.i64.max) := by
    show ¬ ((0 : Int) > 9223372036854775807)
    omega
  cases p with
  | none =>
    rw [unsafeString_nil]
    simp only [asInt, asIntOf, Sem.run_bind, Sem.run_pure, Result.andThen_ok, hts, if_neg hmax, Int.lt_irrefl, if_false, if_true]
    rfl
  | some a =>
    rw [unsafeString_some]
    simp only [asInt, asIntOf, Sem.run_bind, Sem.run_pure, Result.andThen_ok, hts, if_neg hmax, Int.lt_irrefl, if_false, if_true]
    rfl
theorem unsafeString_run (h : MR N ρ ro st W w) {ts : Array TypeId} {ty pt u id off n k e fz cl rel : Nat} {nv : Value} {kd : IntKind} {cs : PT AV} {l : List AV} {s : List UInt8} {st' : St} {L : Loc} (hL : ρ id = some L) (hts : ts[0]? = some pt) (hu : P.underlying pt = some (.pointer u)) (hn : n + 1 ≤ 1000001) (hsz : tySize P u = some 1)
    (hg : st.heap.get id = some (.row cs k e fz cl rel)) (he : e = u) (hro : ro ≤ id) (hl : st.loads id (n + 1) off = .ok l) (hs : bytesOfA l = .ok s) (hc : st.change id cs k e 2 cl rel = .ok st') (hnv : nv = .int kd ((n + 1 : Nat) : Int)) :
    ∃ w', (Builtin.unsafeString_ ts ty #[.pointer (some ⟨L.b, L.base + off, none⟩), nv]).run P w = .ok (.string ⟨⟨s⟩⟩) w' ∧ MR N ρ ro st' W w' := by
  subst he
  obtain ⟨vs, h1, h2, h3⟩ := h.loads hL hl
  have hlen := loads_length hl
  obtain ⟨c, lo, hi, hb, hsize, hbase, hcells, hf0, hf1⟩ := h.row hL hg
  have hv := bytesOfA_spec hs h1
  have hsl : s.length = n + 1 := by rw [← h2, hv] at *; simpa using h2
  have hload := loadBytes_run (P := P) (w := w) (b := L.b) s (L.base + off) .empty (fun j x hj => h3 j _ (by rw [hv]; simp [hj]))
  have hfit : L.base + off + (n + 1) ≤ c.size := by
    have h5 := h3 n (vs[n]'(by omega)) (by simp)
    simp only [World.cell?, hb] at h5
    rcases Nat.lt_or_ge (L.base + off + n) c.size with h6 | h6
    · omega
    · simp [Array.getElem?_eq_none h6] at h5
  have hlies : liesAt P P.depth e (c.size / P.cellsOf e) (L.base + off) e (n + 1) = true := liesAt_row (d := 0) (info_size hsz) hfit
  have hOR : ∀ x y, OR ρ L (.row cs k e 2 cl rel) (.cells c e (x, y)) := fun x y => ⟨c, x, y, rfl, hsize, hbase, hcells, fun e => (by cases e), fun e => (by cases e)⟩
  have hfr : ∃ x y, w.freeze ⟨L.b, L.base + off, none⟩ (n + 1) = { w with heap := w.heap.setIfInBounds L.b (.cells c e (x, y)) } := by
    unfold World.freeze
    rw [if_neg (by omega)]
    refine ⟨(if lo == hi then (L.base + off, L.base + off + (n + 1)) else (min lo (L.base + off), max hi (L.base + off + (n + 1)))).1, (if lo == hi then (L.base + off, L.base + off + (n + 1)) else (min lo (L.base + off), max hi (L.base + off + (n + 1)))).2, ?_⟩
    congr 1
    apply Array.ext_getElem?
    intro i
    simp only [Array.getElem?_modify]
    by_cases hi' : L.b = i
    · subst hi'
      have := lt_of_block hb
      rw [if_pos rfl, hb, Array.getElem?_setIfInBounds_self_of_lt this]
      simp
    · rw [if_neg hi', Array.getElem?_setIfInBounds_ne hi']
  obtain ⟨x, y, hfr⟩ := hfr
  have hM := (h.change hL hro hg (hOR x y) hc).1
  refine ⟨_, ?_, hM⟩
  subst hnv
  have hm : ¬ ((((n + 1 : Nat) : Int)) > IntKind.i64.max) := by
    show ¬ ((((n + 1 : Nat) : Int)) > 9223372036854775807)
    omega
  have hm0 : ¬ ((((n + 1 : Nat) : Int)) < 0) := by omega
  have hm1 : ¬ ((((n + 1 : Nat) : Int)) = 0) := by omega
  rw [unsafeString_some]
  simp only [asInt, asIntOf, Sem.run_bind, Sem.run_pure, Result.andThen_ok, hts, if_neg hm0, if_neg hm, if_neg hm1, Go.elemOf, run_underlying hu, variablesAt, run_program, run_shape, shape_row hb, Int.toNat_natCast, hlies, if_true]
  rw [← hsl, hload]
  simp only [Result.andThen_ok, run_freeze, Sem.run_pure, hsl, hfr]
  congr 3
  simp
theorem args_eval {fr : Fr} {ev : Operand → Value} {l : Array Operand} (h : ∀ x ∈ l.toList, VR ρ (fr.get x) (ev x)) : VRs ρ (fr.all l.toList) (l.map ev).toList := by
  rw [Array.toList_map]
  exact all_eval h
theorem two_args {fr : Fr} {ev : Operand → Value} {l : Array Operand} {a b : AV} (h : ∀ x ∈ l.toList, VR ρ (fr.get x) (ev x)) (he : fr.all l.toList = [a, b]) : ∃ v u, l.map ev = #[v, u] ∧ VR ρ a v ∧ VR ρ b u := by
  have h1 := args_eval h
  rw [he] at h1
  generalize hm : (l.map ev).toList = m at h1
  cases h1 with | cons _ v _ _ h2 h3 => cases h3 with | cons _ u _ _ h4 h5 =>
  cases h5
  exact ⟨v, u, by apply Array.ext'; rw [hm], h2, h4⟩
theorem one_arg {fr : Fr} {ev : Operand → Value} {l : Array Operand} {a : AV} (h : ∀ x ∈ l.toList, VR ρ (fr.get x) (ev x)) (he : fr.all l.toList = [a]) : ∃ v, l.map ev = #[v] ∧ VR ρ a v := by
  have h1 := args_eval h
  rw [he] at h1
  generalize hm : (l.map ev).toList = m at h1
  cases h1 with | cons _ v _ _ h2 h3 =>
  cases h3
  exact ⟨v, by apply Array.ext'; rw [hm], h2⟩
theorem loudBuiltin_run (h : MR N ρ ro st W w) {fr : Fr} {ev : Operand → Value} {b : Builtin} {args : Array Operand} {ts : Array TypeId} {ty : TypeId} {cs : Array Bool} {out : Out} (he : ∀ x ∈ args.toList, VR ρ (fr.get x) (ev x)) (hr : loudBuiltin P ro fr st b args.toList ts.toList = .ok out) :
    OutR P N ρ ro st W w out ((Go.builtin b ts ty cs (args.map ev)).run P w) := by
  unfold loudBuiltin at hr
  split at hr
  · rename_i s x ha
    obtain ⟨sv, xv, e1, h1, h2⟩ := two_args he ha
    rw [e1]
    split at hr
    · rename_i t r hts
      obtain ⟨p, hp, hr⟩ := Rs.bind_ok hr
      cases hr
      have ht0 : ts[0]? = some t := by rw [← Array.getElem?_toList, hts]; rfl
      have ht1 : ts[1]? = r.head? := by rw [← Array.getElem?_toList, hts]; simp [List.head?_eq_getElem?]
      rw [← ht1] at hp
      obtain ⟨ρ', w', v, h3, h4, h5, h6⟩ := appendA_run (ty := ty) h ht0 h1 h2 hp
      exact ⟨ρ', v, w', by simp [Go.builtin, h3], h4, h5, h6⟩
    · cases hr
  · rename_i s x ha
    obtain ⟨sv, xv, e1, h1, h2⟩ := two_args he ha
    rw [e1]
    split at hr
    · rename_i t r hts
      obtain ⟨p, hp, hr⟩ := Rs.bind_ok hr
      cases hr
      have ht0 : ts[0]? = some t := by rw [← Array.getElem?_toList, hts]; rfl
      obtain ⟨w', v, h3, h4, h5⟩ := copyA_run (ty := ty) h ht0 h1 h2 hp
      exact ⟨ρ, v, w', by simp [Go.builtin, h3], Rho.le_refl _, h4, h5⟩
    · cases hr
  · rename_i s x ha
    obtain ⟨sv, xv, e1, h1, h2⟩ := two_args he ha
    rw [e1]
    split at hr
    · rename_i t r hts
      obtain ⟨p, hp, hr⟩ := Rs.bind_ok hr
      cases hr
      have ht0 : ts[0]? = some t := by rw [← Array.getElem?_toList, hts]; rfl
      obtain ⟨w', h3, h4⟩ := deleteA_run (ty := ty) h ht0 h1 h2 hp
      exact ⟨ρ, .tuple #[], w', by simp [Go.builtin, h3], Rho.le_refl _, h4, .tup _ #[] .nil⟩
    · cases hr
  · rename_i v ha
    obtain ⟨vv, e1, h1⟩ := one_arg he ha
    rw [e1]
    split at hr
    · cases hr
      cases h1 with | iface _ _ u hu =>
      exact ⟨_, by simp [Go.builtin, Instr.panic], .iface _ _ _ hu⟩
    · cases hr
  · rename_i p n ha
    obtain ⟨pv, nv, e1, h1, h2⟩ := two_args he ha
    rw [e1]
    split at hr
    · rename_i pt r hts
      have ht0 : ts[0]? = some pt := by rw [← Array.getElem?_toList, hts]; rfl
      split at hr
      · rename_i u hu hn
        obtain ⟨kd, rfl⟩ := natOf_spec hn h2
        split at hr
        · cases hr
          cases h1 with | ptr _ _ L hL =>
          refine ⟨ρ, _, w, ?_, Rho.le_refl _, h, .str []⟩
          simp [Go.builtin, unsafeString_zero (P := P) (w := w) (ty := ty) ht0]
        · cases hr
          cases h1
          refine ⟨ρ, _, w, ?_, Rho.le_refl _, h, .str []⟩
          simp [Go.builtin, unsafeString_zero (P := P) (w := w) (ty := ty) ht0]
        · cases hr
      · rename_i u n hu hn
        split at hr
        · rename_i id off hn1 hsz
          cases h1 with | ptr _ _ L hL =>
          split at hr
          · rename_i cs k e fz cl rel hg
            split at hr
            · rename_i hee hro
              obtain ⟨l, hl, hr⟩ := Rs.bind_ok hr
              obtain ⟨s, hs, hr⟩ := Rs.bind_ok hr
              obtain ⟨st1, hc, hr⟩ := Rs.bind_ok hr
              cases hr
              obtain ⟨kd, hk⟩ := natOf_spec hn h2
              have := ble_true hn1
              obtain ⟨w', h3, h4⟩ := unsafeString_run (ty := ty) h hL ht0 hu (by omega) hsz hg (beq_true hee) (blt_false hro) hl hs hc hk
              exact ⟨ρ, _, w', by simp [Go.builtin, h3], Rho.le_refl _, h4, .str _⟩
            · cases hr
          · cases hr
        · cases hr
      · cases hr
    · cases hr
  · cases hr
end
end Go.Proofs.YtjifnmilimdfdaaGreatDoor.Ab
/- Every operation. -/
set_option linter.unusedVariables false
set_option linter.unusedSimpArgs false
set_option linter.unnecessarySimpa false
namespace Go.Proofs.YtjifnmilimdfdaaGreatDoor.Ab
open Go Go.RowKit

section
variable {P : Program} {N : Nat → Prop} {ρ : Rho} {ro : Nat} {st : St} {W w : World}
theorem methodA_run {t : TypeId} {name : String} {f : FuncId} (h : methodA P t name = some f) (v : Value) (w : World) : (Go.method (P.types.size + Made.depth) t v name).run P w = .ok (f, v) w := by
  obtain ⟨d, hd⟩ : ∃ d, P.types.size + Made.depth = d + 1 := ⟨P.types.size + (Made.depth - 1), rfl⟩
  rw [hd]
  unfold methodA at h
  split at h
  case h_2 => cases h
  rename_i i hi
  split at h
  case h_2 => cases h
  rename_i m hm
  have hty : ∀ w', (typeInfo t).run P w' = .ok i w' := fun w' => by simp [typeInfo, hi]
  split at h
  case h_2 => cases h
  case h_4 => cases h
  all_goals
    rename_i hp hfn hu
    cases h
    have hpath : m.path.toList = [] := by
      have := Array.isEmpty_iff.1 hp
      rw [this]
    simp only [Go.method, Sem.run_bind, hty, Result.andThen_ok, hm, hpath, follow, Sem.run_pure, hfn]
  · simp [receiverAt, run_underlying hu, Place.get]
  · rename_i d' hne
    simp only [receiverAt, Sem.run_bind, run_underlying hu, Result.andThen_ok]
    cases d' <;> first | exact absurd rfl (hne _) | simp [Place.get]
theorem call_enter {f : FuncId} {x c : Array Value} : (invoke (.fn (.func f) c) x : Sem Next) = callFunc f (x ++ c) := rfl
theorem loudA_run (h : MR N ρ ro st W w) {fr : Fr} {ev : Operand → Value} {o : Oper} {out : Out} (he : ∀ x ∈ o.op.operands.toList, VR ρ (fr.get x) (ev x)) (hr : loudA P ro fr st o.op = .ok out) : OutR P N ρ ro st W w out ((execOp ev o).run P w) := by
  unfold execOp
  generalize hop : o.op = op at he hr
  cases op <;> simp only [loudA] at hr <;> first
    | (cases hr; done)
    | dsimp only
  case assign x =>
    cases hr
    exact ⟨ρ, ev x, w, rfl, Rho.le_refl _, h, he x (by simp [Op.operands])⟩
  case store t a x =>
    have ha := he a (by simp [Op.operands])
    have hx := he x (by simp [Op.operands])
    split at hr
    · rename_i id off hp; rw [hp] at ha
      obtain ⟨L, hL, e⟩ := ha.ptr_inv
      obtain ⟨st', hs, hr⟩ := Rs.bind_ok hr
      cases hr
      unfold Ab.storeVar at hs
      split at hs
      case h_2 => cases hs
      rename_i l n hc hsz
      split at hs
      case h_2 => cases hs
      rename_i hlen
      have hlen := beq_true hlen
      have hvs := hx.cells hc
      have hl2 := hvs.length
      obtain ⟨w', h1, h2, _⟩ := h.stores (P := P) hL hs hvs
      refine ⟨w', ?_, h2⟩
      have hsz' : (ev x).cells.size = n := by simpa [hlen] using hl2
      rw [e]
      simp [Instr.storeAt, Instr.sureAddr, Go.storeVar, run_size hsz, hsz', h1]
    · cases hr
  case mapUpdate t m k x =>
    obtain ⟨st', hs, hr⟩ := Rs.bind_ok hr
    cases hr
    obtain ⟨w', h1, h2⟩ := updateA_run h (he m (by simp [Op.operands])) (he k (by simp [Op.operands])) (he x (by simp [Op.operands])) hs
    exact ⟨w', by simp [h1], h2⟩
  case insert t m k x =>
    obtain ⟨st', hs, hr⟩ := Rs.bind_ok hr
    cases hr
    obtain ⟨w', h1, h2⟩ := updateA_run h (he m (by simp [Op.operands])) (he k (by simp [Op.operands])) (he x (by simp [Op.operands])) hs
    exact ⟨w', by simp [h1], h2⟩
  case makeMap t r =>
    split at hr
    · cases hr
      obtain ⟨ρ', h1, h2, h3⟩ := h.make (ob := .map true []) (o := .map #[] 0) (n := 0) (cl0_map _ _) (fun ρ' _ => ⟨#[], 0, rfl, ⟨.nil, .nil⟩, rfl, fun _ => ⟨rfl, fun i e h => by simp at h⟩⟩)
      exact ⟨ρ', .map (some w.heap.size), _, by simp [Instr.makeMap], h1, h2, .map _ _ h3⟩
    · cases hr
  case range t x =>
    have hx := he x (by simp [Op.operands])
    split at hr
    · rename_i s hu hs
      rw [hs] at hx
      have := hx.str_inv
      cases hr
      obtain ⟨ρ', h1, h2, h3⟩ := h.make (ob := .iter s 0) (o := .stringIter ⟨⟨s⟩⟩ 0) (n := 0) (cl0_iter _ _) (fun ρ' _ => ⟨rfl, rfl⟩)
      exact ⟨ρ', .pointer (some ⟨w.heap.size, 0, none⟩), _, by simp [Instr.range, run_underlying hu, this], h1, h2, .ptr _ 0 _ h3⟩
    · rename_i kt vt id hu hs
      rw [hs] at hx
      split at hr
      · rename_i es hg
        generalize ev x = q at hx
        cases hx with | map _ L hL =>
        obtain ⟨o, ho, arr, clock, rfl, harr, hbase, hpr⟩ := h.obs _ L _ hL hg
        obtain ⟨hp1, _⟩ := hpr rfl
        have hlen : es.length = clock := by
          have h1 := harr.1.length
          simp at h1
          omega
        cases hr
        have hgo := run_getObj (P := P) ho (by intro c e f hh; cases hh)
        obtain ⟨ρ', h1, h2, h3⟩ := h.make (ob := .miter id es.length []) (o := .mapIter (some L.b) es.length #[] es.length) (n := 0) (cl0_miter _ _ _) (fun ρ' hle => ⟨L, hle.1 _ _ hL, rfl, rfl⟩)
        refine ⟨ρ', .pointer (some ⟨w.heap.size, 0, none⟩), _, ?_, h1, h2, .ptr _ 0 _ h3⟩
        rw [hlen]
        simp [Instr.range, run_underlying hu, hgo]
      · cases hr
    · cases hr
  case next it isString =>
    have hx := he it (by simp [Op.operands])
    split at hr
    · rename_i id hs
      rw [hs] at hx
      split at hr
      · rename_i s pos hg hro
        obtain ⟨h1, h2⟩ := next_run (P := P) (ty := o.type) h hx hg (blt_false hro)
        split at hr
        · rename_i hlt
          cases hr
          obtain ⟨q, w', h3, h4, h5⟩ := h1 hlt
          exact ⟨ρ, q, w', by simp [h3], Rho.le_refl _, h4, h5⟩
        · rename_i hlt
          cases hr
          obtain ⟨q, h3, h4⟩ := h2 hlt
          exact ⟨ρ, q, w, by simp [h3], Rho.le_refl _, h, h4⟩
      · cases hr
    · rename_i id hs
      rw [hs] at hx
      unfold nextM at hr
      split at hr
      case h_2 => cases hr
      rename_i m s seen l hi
      obtain ⟨h1, h2⟩ := nextM_run (P := P) (ty := o.type) h hx hi
      split at hr
      · cases hr
        obtain ⟨q, h3, h4⟩ := h1 rfl
        exact ⟨ρ, q, w, by simp [h3], Rho.le_refl _, h, h4⟩
      · rename_i p
        cases hr
        obtain ⟨p', hp', q, w', h3, h4, h5⟩ := h2 (by intro e; cases e)
        obtain rfl := List.mem_singleton.1 hp'
        exact ⟨ρ, q, w', by simp [h3], Rho.le_refl _, h4, h5⟩
      · cases hr
    · cases hr
  case entry it =>
    have hx := he it (by simp [Op.operands])
    split at hr
    · rename_i id hs
      rw [hs] at hx
      unfold entryM at hr
      split at hr
      case h_2 => cases hr
      rename_i m s seen hg
      split at hr
      case h_2 => cases hr
      rename_i es hgm
      split at hr
      case h_2 => cases hr
      rename_i i hlen hlast
      split at hr
      case h_2 => cases hr
      rename_i e hei
      cases hr
      generalize ev it = q at hx
      cases hx with | ptr _ _ L hL =>
      obtain ⟨o, ho, M, hM, rfl, hbase⟩ := h.obs _ L _ hL hg
      obtain ⟨o', ho', arr, clock, rfl, harr, _, hpr⟩ := h.obs _ M _ hM hgm
      obtain ⟨hp1, hp2⟩ := hpr rfl
      have hgo := run_getObj (P := P) ho (by intro c e f hh; cases hh)
      have hgo' := run_getObj (P := P) ho' (by intro c e f hh; cases hh)
      have hb0 : L.base + 0 = 0 := by omega
      have hlen := beq_true hlen
      have hsz : arr.size = es.length := by
        have h1 := harr.1.length
        simpa using h1
      obtain ⟨k, hk1, hk2⟩ := harr.1.get (i := i) (a := e.1) (by simp [hei])
      obtain ⟨v, hv1, hv2⟩ := harr.2.get (i := i) (a := e.2) (by simp [hei])
      obtain ⟨me, hme, rfl⟩ : ∃ me, arr[i]? = some me ∧ me.key = k := by
        simp only [List.getElem?_map, Option.map_eq_some_iff] at hk1
        simpa using hk1
      obtain rfl : me.val = v := by
        simp only [List.getElem?_map, Option.map_eq_some_iff] at hv1
        obtain ⟨me', h1, h2⟩ := hv1
        have h1' : arr[i]? = some me' := by simpa using h1
        rw [hme] at h1'
        cases h1'
        exact h2
      have hfind : arr.find? (fun e => e.born == i) = some me := by
        rw [Array.find?_eq_some_iff_getElem]
        have hlt := (Array.getElem?_eq_some_iff.1 hme).1
        have hget := (Array.getElem?_eq_some_iff.1 hme).2
        refine ⟨by rw [hp2 i me hme]; simp, i, hlt, hget, fun j hj => ?_⟩
        have hjl : j < arr.size := by omega
        have := hp2 j arr[j] (by simp [hjl])
        simp [this]
        omega
      have hback : seen.toArray.back? = some i := by simpa using hlast
      have hcs : clock = s := by omega
      refine ⟨ρ, .tuple #[me.key, me.val], w, ?_, Rho.le_refl _, h, .tup _ _ (.cons _ _ _ _ hk2 (.cons _ _ _ _ hv2 .nil))⟩
      rw [hb0]
      simp [Instr.entry, hgo, hgo', hback, hcs, hfind]
    · cases hr
  case convert s d x =>
    have hx := he x (by simp [Op.operands])
    split at hr
    · rename_i e hs hd
      split at hr
      case h_2 => cases hr
      rename_i hel
      split at hr
      · rename_i hv
        cases hr
        rw [hv] at hx
        generalize ev x = q at hx
        cases hx
        refine ⟨ρ, .string .empty, w, ?_, Rho.le_refl _, h, .str []⟩
        simp [Go.convert, run_underlying hs, run_underlying hd, run_underlying hel, Conv.bytesToString]
      · rename_i id off len cap hv
        obtain ⟨l, hl, hr⟩ := Rs.bind_ok hr
        obtain ⟨b, hb, hr⟩ := Rs.bind_ok hr
        cases hr
        rw [hv] at hx
        generalize ev x = q at hx
        obtain ⟨vs, h1, h2, h3⟩ := firstCells_run (P := P) (size := 1) (n := len) h hx rfl (Nat.le_refl _) (by simpa [firstA] using hl)
        cases hx with | sl _ _ _ _ L c o' hL hcap hlc =>
        refine ⟨ρ, .string ⟨⟨b⟩⟩, w, ?_, Rho.le_refl _, h, .str _⟩
        have hvs := bytesOfA_spec hb h2
        have h4 : (Go.loadCells (⟨L.b, o', none⟩ : Addr) len).run P w = .ok (b.map fun b => Value.int .u8 (b.toNat : Int)).toArray w := by
          rw [← hvs]
          simpa [Builtin.firstCells] using h1
        have h5 := bytesToString_run (P := P) (cap := c) h4
        simp [run_convert_bytes_string w s d e _ len c hs hel hd, h5]
      · cases hr
    · rename_i e b hs hd hv
      rw [hv] at hx
      have hq := hx.str_inv
      split at hr
      case h_2 => cases hr
      rename_i hel
      split at hr
      case h_2 => cases hr
      rename_i hlen
      cases hr
      obtain ⟨ρ', q, w', h1, h2, h3, h4⟩ := toBytes_run (P := P) (e := e) h (ble_true hlen)
      exact ⟨ρ', q, w', by simp [Go.convert, run_underlying hs, run_underlying hd, run_underlying hel, hq, h1], h2, h3, h4⟩
    · cases hr
  case panic x =>
    have hx := he x (by simp [Op.operands])
    split at hr
    · rename_i t v hv
      cases hr
      rw [hv] at hx
      generalize ev x = q at hx
      cases hx with | iface _ _ u hu =>
      exact ⟨_, by simp [Instr.panic], .iface _ _ _ hu⟩
    · cases hr
  case defer c =>
    split at hr
    · rename_i f hc
      have hf := he f (by simp [Op.operands, Call.operands, hc])
      have hargs := args_eval (ρ := ρ) (fr := fr) (ev := ev) (l := c.args) (fun x hx => he x (by
        have := Array.mem_toList_iff.1 hx
        simp [Op.operands, Call.operands, hc, this]))
      split at hr
      · rename_i f' first cap hv
        cases hr
        rw [hv] at hf
        generalize hq : ev f = q at hf
        cases hf with | fn _ _ _ x' c' h1 h2 =>
        refine ⟨{ target := .fn (.func f') c', args := x' ++ c.args.map ev }, ?_, c', rfl, ?_⟩
        · simp [resolve, hc, hq, Deferred.ofValue]
        · simp only [Array.toList_append]
          exact (h1.append hargs).append h2
      · cases hr
    · cases hr
  case call c =>
    split at hr
    · rename_i f hc
      have hf := he f (by simp [Op.operands, Call.operands, hc])
      have hargs := args_eval (ρ := ρ) (fr := fr) (ev := ev) (l := c.args) (fun x hx => he x (by
        have := Array.mem_toList_iff.1 hx
        simp [Op.operands, Call.operands, hc, this]))
      unfold callFn at hr
      split at hr
      · rename_i f' first cap hv
        cases hr
        rw [hv] at hf
        generalize hq : ev f = q at hf
        cases hf with | fn _ _ _ x' c' h1 h2 =>
        refine ⟨x' ++ c.args.map ev ++ c', ?_, ?_⟩
        · simp [resolve, hc, hq, Deferred.ofValue, call_enter]
        · simp only [Array.toList_append]
          exact (h1.append hargs).append h2
      · cases hr
    · rename_i x name hc
      have hf := he x (by simp [Op.operands, Call.operands, hc])
      have hargs := args_eval (ρ := ρ) (fr := fr) (ev := ev) (l := c.args) (fun x hx => he x (by
        have := Array.mem_toList_iff.1 hx
        simp [Op.operands, Call.operands, hc, this]))
      split at hr
      · rename_i t v hv
        split at hr
        · rename_i f hm
          cases hr
          rw [hv] at hf
          generalize hq : ev x = q at hf
          cases hf with | iface _ _ u hu =>
          refine ⟨#[u] ++ c.args.map ev, ?_, ?_⟩
          · have hx1 : (#[Value.iface t u] ++ c.args.map ev)[0]? = some (.iface t u) := by
              rw [Array.getElem?_append_left (by simp)]; rfl
            have hx2 : (#[Value.iface t u] ++ c.args.map ev).extract 1 (#[Value.iface t u] ++ c.args.map ev).size = c.args.map ev := by
              apply Array.ext'
              simp only [Array.toList_extract, Array.toList_append, Array.toList_map]
              simp [List.take_of_length_le]
            simp only [resolve, hc, hq, Sem.run_bind, Sem.run_pure, Result.andThen_ok, invoke, hx1, hx2, callMethod, run_program, methodA_run hm]
          · simp only [Array.toList_append]
            exact .cons _ _ _ _ hu hargs
        · cases hr
      · cases hr
    · rename_i b hc
      have h1 := loudBuiltin_run (ty := o.type) (cs := (c.args.map fun | .const _ => true | _ => false)) h (fun x hx => he x (by
        have := Array.mem_toList_iff.1 hx
        simp [Op.operands, Call.operands, hc, this])) hr
      have e : ((do let d ← resolve ev c o.type; invoke d.target d.args : Sem Next)).run P w = (Go.builtin b c.argTypes o.type (c.args.map fun | .const _ => true | _ => false) (c.args.map ev)).run P w := by
        simp only [resolve, hc, Sem.run_bind, Sem.run_pure, Result.andThen_ok, invoke]
        rfl
      rw [e]
      exact h1
theorem stepA_run (h : MR N ρ ro st W w) {fr : Fr} {ev : Operand → Value} {o : Oper} {out : Out} (he : ∀ x ∈ o.op.operands.toList, VR ρ (fr.get x) (ev x)) (hr : stepA P ro fr st o.op = .ok out) : OutR P N ρ ro st W w out ((execOp ev o).run P w) := by
  rw [stepA_eq] at hr
  unfold stepS at hr
  split at hr
  · obtain ⟨v, hv, hr⟩ := Rs.bind_ok hr
    cases hr
    obtain ⟨q, h1, h2⟩ := pureA_run h he hv
    exact ⟨ρ, q, w, h1, Rho.le_refl _, h, h2⟩
  · obtain ⟨p, hp, hr⟩ := Rs.bind_ok hr
    cases hr
    obtain ⟨v, o', n, h1, h2, h3, h4⟩ := allocA_run he hp w
    obtain ⟨ρ', h5, h6, h7⟩ := h.make h2 h3
    exact ⟨ρ', v, _, h1, h5, h6, h4 _ _ h7⟩
  · exact loudA_run h he hr
end
end Go.Proofs.YtjifnmilimdfdaaGreatDoor.Ab
