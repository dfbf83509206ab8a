/- The loud operations, all of them. -/
import Derived.Test.YteegpmimbbgdlaaGreatDoorLoud2
set_option linter.unusedVariables false
set_option linter.unusedSimpArgs false
set_option linter.unnecessarySimpa false
namespace Go.Proofs.YteegpmimbbgdlaaGreatDoor.Ab
open Go Go.RowKit

section
variable {P : Program} {N : Nat → Prop} {ρ : Rho} {ro : Nat} {st : St} {W w : World}
theorem MR.make (h : MR N ρ ro st W w) {ob : Ob} {o : Obj} {n : Nat} (h0 : ob.cl0) (ho : ∀ ρ' : Rho, ρ.le ρ' → OR ρ' ⟨w.heap.size, n, 0⟩ ob o) :
    ∃ ρ', ρ.le ρ' ∧ MR N ρ' ro (st.new ob) W { w with heap := w.heap.push o } ∧ ρ' st.next = some ⟨w.heap.size, n, 0⟩ := by
  have hf := h.fresh
  refine ⟨ρ.put st.next ⟨w.heap.size, n, 0⟩, Rho.put_le hf, ?_, Rho.put_same⟩
  exact (h.pend h0).real (id := st.next) (ob := ob) (fun ob' hob => get_new hob rfl) (Nat.lt_succ_self _) hf h.freshN h.ron rfl (ho _ (Rho.put_le hf))
/-- What a loud operation comes to. -/
def OutR (P : Program) (N : Nat → Prop) (ρ : Rho) (ro : Nat) (st : St) (W w : World) (out : Out) (r : Result Next) : Prop := match out with
  | .val v st' => ∃ ρ' q w', r = .ok (.value q) w' ∧ ρ.le ρ' ∧ MR N ρ' ro st' W w' ∧ VR ρ' v q
  | .skip st' => ∃ w', r = .ok .skip w' ∧ MR N ρ ro st' W w'
  | .later d => ∃ x, r = .ok (.defer x) w ∧ DR ρ d x
  | .enter f args => ∃ vs : Array Value, r = (callFunc f vs).run P w ∧ VRs ρ args vs.toList
  | .panic v => ∃ q, r = .halt (.panic q) w ∧ VR ρ v q
theorem next_run (h : MR N ρ ro st W w) {id pos : Nat} {s : List UInt8} {iv : Value} {ty : TypeId} (hv : VR ρ (.ptr id 0) iv) (hg : st.heap.get id = some (.iter s pos)) (hro : ro ≤ id) :
    (Nat.blt pos s.length = true → ∃ q w', (Instr.next iv true ty).run P w = .ok q w' ∧ MR N ρ ro { st with heap := st.heap.set id (.iter s (Nat.add pos (decodeA s pos).2)) } W w' ∧ VR ρ (.tup [.bool true, .int .i64 (Int.ofNat pos), .int .i32 (Int.ofNat (decodeA s pos).1)]) q) ∧
    (Nat.blt pos s.length = false → ∃ q, (Instr.next iv true ty).run P w = .ok q w ∧ VR ρ (.tup [.bool false]) q) := by
  cases hv with | ptr _ _ L hL =>
  obtain ⟨o, ho, rfl, hbase⟩ := h.obs _ L _ hL hg
  have hgo := run_getObj (P := P) ho (by intro c e f hh; cases hh)
  have hset : ∀ x, (setObj L.b x).run P w = .ok () { w with heap := w.heap.setIfInBounds L.b x } := fun x => by simp [setObj, Sem.run, ho]
  have hb0 : L.base + 0 = 0 := by omega
  rw [hb0]
  have hsize : (⟨⟨s⟩⟩ : ByteArray).size = s.length := by simp [ByteArray.size]
  have hdec : Utf8.decode ⟨⟨s⟩⟩ pos = decodeA s pos := by
    unfold decodeA
    split
    · rename_i b hb
      split
      · rename_i hlt
        have hlt := blt_true hlt
        have hb' : (⟨⟨s⟩⟩ : ByteArray).get! (pos + 0) = b := by
          have : pos < s.length := (List.getElem?_eq_some_iff.1 hb).1
          simp only [ByteArray.get!, Nat.add_zero]
          rw [getElem!_pos _ _ (by simpa using this)]
          have h2 := (List.getElem?_eq_some_iff.1 hb).2
          simpa using h2
        unfold Utf8.decode
        dsimp only
        rw [if_pos (by rw [hb']; omega), hb']
      · rfl
    · rfl
  constructor
  · intro hlt
    have hlt := blt_true hlt
    refine ⟨_, _, ?_, h.put0 hL hro hg (cl0_iter _ _) (cl0_iter s (pos + (decodeA s pos).2)) ⟨rfl, hbase⟩, .tup _ #[_, _, _] (.cons _ _ _ _ (.bool _) (.cons _ _ _ _ (.int _ _) (.cons _ _ _ _ (.int _ _) .nil)))⟩
    simp only [Instr.next, Sem.run_bind, hgo, Result.andThen_ok, hsize, if_pos hlt, hdec, hset, Sem.run_pure]
    rfl
  · intro hlt
    have hlt := blt_false hlt
    refine ⟨_, ?_, .tup _ #[_] (.cons _ _ _ _ (.bool _) .nil)⟩
    simp only [Instr.next, Sem.run_bind, hgo, Result.andThen_ok, hsize, if_neg (Nat.not_lt.2 hlt), Sem.run_pure]
theorem modify_push {α : Type} (a : Array α) (x : α) (f : α → α) : (a.push x).modify a.size f = a.push (f x) := by
  apply Array.ext_getElem?
  intro i
  simp only [Array.getElem?_modify, Array.getElem?_push]
  by_cases hi : a.size = i
  · subst hi; simp
  · rw [if_neg hi, if_neg (by omega), if_neg (by omega)]
theorem toBytes_run (h : MR N ρ ro st W w) {b : List UInt8} {e : TypeId} (hlen : b.length ≤ 100000) :
    ∃ ρ' q w', (Conv.stringToBytes e ⟨⟨b⟩⟩).run P w = .ok q w' ∧ ρ.le ρ' ∧ MR N ρ' ro { st with heap := st.heap.set st.next (.row (PT.lay (b.map fun x => .int .u8 (Int.ofNat x.toNat)) 0 .nil) b.length e 1 (Nat.succ st.next) 0), next := Nat.succ st.next, cls := st.cls.set (Nat.succ st.next) (b.length, [st.next]) } W w' ∧ VR ρ' (.sl st.next 0 b.length (.g 1)) q := by
  have hsize : (⟨⟨b⟩⟩ : ByteArray).size = b.length := by simp [ByteArray.size]
  obtain ⟨cap, hcap, hge⟩ : ∃ cap, (choose (.appendCap (⟨⟨b⟩⟩ : ByteArray).size 0 e)).run P w = .ok cap { w with drawn := w.drawn + 1 } ∧ b.length ≤ cap := by
    refine ⟨(Question.appendCap (⟨⟨b⟩⟩ : ByteArray).size 0 e).cut (w.tape w.drawn (.appendCap (⟨⟨b⟩⟩ : ByteArray).size 0 e)), ?_, ?_⟩
    · rw [run_choose]; rw [if_neg (by simp [Question.forced])]
    · simp [Question.cut, hsize]
  let row : Array Value := ((⟨b⟩ : Array UInt8).map fun x => Value.int .u8 (x.toNat : Int)) ++ Array.replicate (cap - b.length) (.int .u8 0)
  have hrow : row.size = cap := by simp [row]; omega
  have hb : VRs ρ (b.map fun x => .int .u8 (Int.ofNat x.toNat)) (b.map fun x => Value.int .u8 (x.toNat : Int)) := by
    clear hsize hcap hge hrow row hlen
    induction b with
    | nil => exact .nil
    | cons x b ih => exact .cons _ _ _ _ (.int _ _) ih
  have hp := (h.pendC (cs := PT.lay (b.map fun x => .int .u8 (Int.ofNat x.toNat)) 0 .nil) (k := b.length) (e := e) (fz := 1) (cl := st.next) (rel := 0) (en := b.length) (ms := []) (Nat.le_refl _) (by omega) (fun j cs' n' e' fz' rel' hj => (no_old_class h hj).elim)).drawn (w.drawn + 1)
  have hf := h.fresh
  have hr := hp.real (id := st.next) (ob := .row (PT.lay (b.map fun x => .int .u8 (Int.ofNat x.toNat)) 0 .nil) b.length e 1 (st.next + 1) 0) (o := .cells row e (cap, cap + 1)) (L := ⟨w.heap.size, cap, 0⟩) (fun ob' hob => by
    rcases PT.get_set hob with ⟨_, r⟩ | ⟨n, _⟩
    · exact r
    · exact absurd rfl n) (Nat.lt_succ_self _) hf h.freshN h.ron rfl (by
    refine ⟨row, cap, cap + 1, rfl, hrow, fun _ => rfl, fun i a hi => ?_, (fun e => by cases e), fun _ => Nat.le_refl _⟩
    obtain ⟨h1, v, h2, h3⟩ := lay_row hb hi
    simp only [List.length_map] at h1
    refine ⟨h1, v, ?_, h3.mono (Rho.put_le hf)⟩
    simp only [Nat.zero_add, row]
    rw [Array.getElem?_append_left (by simp; exact h1)]
    simpa using h2)
  refine ⟨_, .slice (some ⟨w.heap.size, 0, none⟩) b.length cap, _, ?_, Rho.put_le hf, hr, .sl _ _ _ _ ⟨w.heap.size, cap, 0⟩ _ _ Rho.put_same ⟨by simp, .inr (by simp)⟩ hge⟩
  simp only [Conv.stringToBytes, Sem.run_bind, hcap, Result.andThen_ok, newRow, run_newObj, Sem.run_pure, markStringish, run_shape, World.shape?]
  have hrow' : ((⟨⟨b⟩⟩ : ByteArray).data.map (fun x => Value.int .u8 (x.toNat : Int)) ++ Array.replicate (cap - (⟨⟨b⟩⟩ : ByteArray).size) (Value.int .u8 0)) = row := by rw [hsize]
  rw [hrow']
  simp only [Array.getElem?_push, if_true, hrow, run_freeze, Result.andThen_ok, hsize, Sem.run_bind, World.freeze, Nat.succ_ne_zero, if_false]
  rw [modify_push]
  rfl
theorem shape_row {b : Nat} {c : Array Value} {e : TypeId} {f : Nat × Nat} (hb : w.heap[b]? = some (.cells c e f)) : w.shape? b = some (e, c.size) := by simp [World.shape?, hb]
theorem unsafeString_some (ts : Array TypeId) (ty : TypeId) (a : Addr) (nv : Value) : Builtin.unsafeString_ ts ty #[.pointer (some a), nv] = (do
    let n ← asInt nv
    let some pt := ts[0]? | stuck "unsafe.String: no argument types"
    if n < 0 then runtimePanic (.error "unsafe.String: len out of range")
    if n > IntKind.i64.max then unsupported (.unsafePointer "String: a length above the largest int")
    if n = 0 then pure (.string .empty)
    else if ← variablesAt a (← Go.elemOf pt) n.toNat then do
      let s ← loadBytes a .empty n.toNat
      freeze a n.toNat
      pure (.string s)
    else unsupported (.unsafePointer "String: not so many bytes at ptr")) := rfl
theorem unsafeString_nil (ts : Array TypeId) (ty : TypeId) (nv : Value) : Builtin.unsafeString_ ts ty #[.pointer none, nv] = (do
    let n ← asInt nv
    let some _ := ts[0]? | stuck "unsafe.String: no argument types"
    if n < 0 then runtimePanic (.error "unsafe.String: len out of range")
    if n > IntKind.i64.max then unsupported (.unsafePointer "String: a length above the largest int")
    if n = 0 then pure (.string .empty)
    else runtimePanic (.error "unsafe.String: ptr is nil and len is not zero")) := rfl
theorem unsafeString_zero {ts : Array TypeId} {ty pt : TypeId} {p : Option Addr} {kd : IntKind} (hts : ts[0]? = some pt) : (Builtin.unsafeString_ ts ty #[.pointer p, .int kd 0]).run P w = .ok (.string ⟨⟨[]⟩⟩) w := by
  have hmax : ¬ ((0 : Int) > IntKind.i64.max) := by
    show ¬ ((0 : Int) > 9223372036854775807)
    omega
  cases p with
  | none =>
    rw [unsafeString_nil]
    simp only [asInt, asIntOf, Sem.run_bind, Sem.run_pure, Result.andThen_ok, hts, if_neg hmax, Int.lt_irrefl, if_false, if_true]
    rfl
  | some a =>
    rw [unsafeString_some]
    simp only [asInt, asIntOf, Sem.run_bind, Sem.run_pure, Result.andThen_ok, hts, if_neg hmax, Int.lt_irrefl, if_false, if_true]
    rfl
theorem unsafeString_run (h : MR N ρ ro st W w) {ts : Array TypeId} {ty pt u id off n k e fz cl rel : Nat} {nv : Value} {kd : IntKind} {cs : PT AV} {l : List AV} {s : List UInt8} {st' : St} {L : Loc} (hL : ρ id = some L) (hts : ts[0]? = some pt) (hu : P.underlying pt = some (.pointer u)) (hn : n + 1 ≤ 1000001) (hsz : tySize P u = some 1)
    (hg : st.heap.get id = some (.row cs k e fz cl rel)) (he : e = u) (hro : ro ≤ id) (hl : st.loads id (n + 1) off = .ok l) (hs : bytesOfA l = .ok s) (hc : st.change id cs k e 2 cl rel = .ok st') (hnv : nv = .int kd ((n + 1 : Nat) : Int)) :
    ∃ w', (Builtin.unsafeString_ ts ty #[.pointer (some ⟨L.b, L.base + off, none⟩), nv]).run P w = .ok (.string ⟨⟨s⟩⟩) w' ∧ MR N ρ ro st' W w' := by
  subst he
  obtain ⟨vs, h1, h2, h3⟩ := h.loads hL hl
  have hlen := loads_length hl
  obtain ⟨c, lo, hi, hb, hsize, hbase, hcells, hf0, hf1⟩ := h.row hL hg
  have hv := bytesOfA_spec hs h1
  have hsl : s.length = n + 1 := by rw [← h2, hv] at *; simpa using h2
  have hload := loadBytes_run (P := P) (w := w) (b := L.b) s (L.base + off) .empty (fun j x hj => h3 j _ (by rw [hv]; simp [hj]))
  have hfit : L.base + off + (n + 1) ≤ c.size := by
    have h5 := h3 n (vs[n]'(by omega)) (by simp)
    simp only [World.cell?, hb] at h5
    rcases Nat.lt_or_ge (L.base + off + n) c.size with h6 | h6
    · omega
    · simp [Array.getElem?_eq_none h6] at h5
  have hlies : liesAt P P.depth e (c.size / P.cellsOf e) (L.base + off) e (n + 1) = true := liesAt_row (d := 0) (info_size hsz) hfit
  have hOR : ∀ x y, OR ρ L (.row cs k e 2 cl rel) (.cells c e (x, y)) := fun x y => ⟨c, x, y, rfl, hsize, hbase, hcells, fun e => (by cases e), fun e => (by cases e)⟩
  have hfr : ∃ x y, w.freeze ⟨L.b, L.base + off, none⟩ (n + 1) = { w with heap := w.heap.setIfInBounds L.b (.cells c e (x, y)) } := by
    unfold World.freeze
    rw [if_neg (by omega)]
    refine ⟨(if lo == hi then (L.base + off, L.base + off + (n + 1)) else (min lo (L.base + off), max hi (L.base + off + (n + 1)))).1, (if lo == hi then (L.base + off, L.base + off + (n + 1)) else (min lo (L.base + off), max hi (L.base + off + (n + 1)))).2, ?_⟩
    congr 1
    apply Array.ext_getElem?
    intro i
    simp only [Array.getElem?_modify]
    by_cases hi' : L.b = i
    · subst hi'
      have := lt_of_block hb
      rw [if_pos rfl, hb, Array.getElem?_setIfInBounds_self_of_lt this]
      simp
    · rw [if_neg hi', Array.getElem?_setIfInBounds_ne hi']
  obtain ⟨x, y, hfr⟩ := hfr
  have hM := (h.change hL hro hg (hOR x y) hc).1
  refine ⟨_, ?_, hM⟩
  subst hnv
  have hm : ¬ ((((n + 1 : Nat) : Int)) > IntKind.i64.max) := by
    show ¬ ((((n + 1 : Nat) : Int)) > 9223372036854775807)
    omega
  have hm0 : ¬ ((((n + 1 : Nat) : Int)) < 0) := by omega
  have hm1 : ¬ ((((n + 1 : Nat) : Int)) = 0) := by omega
  rw [unsafeString_some]
  simp only [asInt, asIntOf, Sem.run_bind, Sem.run_pure, Result.andThen_ok, hts, if_neg hm0, if_neg hm, if_neg hm1, Go.elemOf, run_underlying hu, variablesAt, run_program, run_shape, shape_row hb, Int.toNat_natCast, hlies, if_true]
  rw [← hsl, hload]
  simp only [Result.andThen_ok, run_freeze, Sem.run_pure, hsl, hfr]
  congr 3
  simp
theorem args_eval {fr : Fr} {ev : Operand → Value} {l : Array Operand} (h : ∀ x ∈ l.toList, VR ρ (fr.get x) (ev x)) : VRs ρ (fr.all l.toList) (l.map ev).toList := by
  rw [Array.toList_map]
  exact all_eval h
theorem two_args {fr : Fr} {ev : Operand → Value} {l : Array Operand} {a b : AV} (h : ∀ x ∈ l.toList, VR ρ (fr.get x) (ev x)) (he : fr.all l.toList = [a, b]) : ∃ v u, l.map ev = #[v, u] ∧ VR ρ a v ∧ VR ρ b u := by
  have h1 := args_eval h
  rw [he] at h1
  generalize hm : (l.map ev).toList = m at h1
  cases h1 with | cons _ v _ _ h2 h3 => cases h3 with | cons _ u _ _ h4 h5 =>
  cases h5
  exact ⟨v, u, by apply Array.ext'; rw [hm], h2, h4⟩
theorem one_arg {fr : Fr} {ev : Operand → Value} {l : Array Operand} {a : AV} (h : ∀ x ∈ l.toList, VR ρ (fr.get x) (ev x)) (he : fr.all l.toList = [a]) : ∃ v, l.map ev = #[v] ∧ VR ρ a v := by
  have h1 := args_eval h
  rw [he] at h1
  generalize hm : (l.map ev).toList = m at h1
  cases h1 with | cons _ v _ _ h2 h3 =>
  cases h3
  exact ⟨v, by apply Array.ext'; rw [hm], h2⟩
theorem loudBuiltin_run (h : MR N ρ ro st W w) {fr : Fr} {ev : Operand → Value} {b : Builtin} {args : Array Operand} {ts : Array TypeId} {ty : TypeId} {cs : Array Bool} {out : Out} (he : ∀ x ∈ args.toList, VR ρ (fr.get x) (ev x)) (hr : loudBuiltin P ro fr st b args.toList ts.toList = .ok out) :
    OutR P N ρ ro st W w out ((Go.builtin b ts ty cs (args.map ev)).run P w) := by
  unfold loudBuiltin at hr
  split at hr
  · rename_i s x ha
    obtain ⟨sv, xv, e1, h1, h2⟩ := two_args he ha
    rw [e1]
    split at hr
    · rename_i t r hts
      obtain ⟨p, hp, hr⟩ := Rs.bind_ok hr
      cases hr
      have ht0 : ts[0]? = some t := by rw [← Array.getElem?_toList, hts]; rfl
      have ht1 : ts[1]? = r.head? := by rw [← Array.getElem?_toList, hts]; simp [List.head?_eq_getElem?]
      rw [← ht1] at hp
      obtain ⟨ρ', w', v, h3, h4, h5, h6⟩ := appendA_run (ty := ty) h ht0 h1 h2 hp
      exact ⟨ρ', v, w', by simp [Go.builtin, h3], h4, h5, h6⟩
    · cases hr
  · rename_i s x ha
    obtain ⟨sv, xv, e1, h1, h2⟩ := two_args he ha
    rw [e1]
    split at hr
    · rename_i t r hts
      obtain ⟨p, hp, hr⟩ := Rs.bind_ok hr
      cases hr
      have ht0 : ts[0]? = some t := by rw [← Array.getElem?_toList, hts]; rfl
      obtain ⟨w', v, h3, h4, h5⟩ := copyA_run (ty := ty) h ht0 h1 h2 hp
      exact ⟨ρ, v, w', by simp [Go.builtin, h3], Rho.le_refl _, h4, h5⟩
    · cases hr
  · rename_i s x ha
    obtain ⟨sv, xv, e1, h1, h2⟩ := two_args he ha
    rw [e1]
    split at hr
    · rename_i t r hts
      obtain ⟨p, hp, hr⟩ := Rs.bind_ok hr
      cases hr
      have ht0 : ts[0]? = some t := by rw [← Array.getElem?_toList, hts]; rfl
      obtain ⟨w', h3, h4⟩ := deleteA_run (ty := ty) h ht0 h1 h2 hp
      exact ⟨ρ, .tuple #[], w', by simp [Go.builtin, h3], Rho.le_refl _, h4, .tup _ #[] .nil⟩
    · cases hr
  · rename_i v ha
    obtain ⟨vv, e1, h1⟩ := one_arg he ha
    rw [e1]
    split at hr
    · cases hr
      cases h1 with | iface _ _ u hu =>
      exact ⟨_, by simp [Go.builtin, Instr.panic], .iface _ _ _ hu⟩
    · cases hr
  · rename_i p n ha
    obtain ⟨pv, nv, e1, h1, h2⟩ := two_args he ha
    rw [e1]
    split at hr
    · rename_i pt r hts
      have ht0 : ts[0]? = some pt := by rw [← Array.getElem?_toList, hts]; rfl
      split at hr
      · rename_i u hu hn
        obtain ⟨kd, rfl⟩ := natOf_spec hn h2
        split at hr
        · cases hr
          cases h1 with | ptr _ _ L hL =>
          refine ⟨ρ, _, w, ?_, Rho.le_refl _, h, .str []⟩
          simp [Go.builtin, unsafeString_zero (P := P) (w := w) (ty := ty) ht0]
        · cases hr
          cases h1
          refine ⟨ρ, _, w, ?_, Rho.le_refl _, h, .str []⟩
          simp [Go.builtin, unsafeString_zero (P := P) (w := w) (ty := ty) ht0]
        · cases hr
      · rename_i u n hu hn
        split at hr
        · rename_i id off hn1 hsz
          cases h1 with | ptr _ _ L hL =>
          split at hr
          · rename_i cs k e fz cl rel hg
            split at hr
            · rename_i hee hro
              obtain ⟨l, hl, hr⟩ := Rs.bind_ok hr
              obtain ⟨s, hs, hr⟩ := Rs.bind_ok hr
              obtain ⟨st1, hc, hr⟩ := Rs.bind_ok hr
              cases hr
              obtain ⟨kd, hk⟩ := natOf_spec hn h2
              have := ble_true hn1
              obtain ⟨w', h3, h4⟩ := unsafeString_run (ty := ty) h hL ht0 hu (by omega) hsz hg (beq_true hee) (blt_false hro) hl hs hc hk
              exact ⟨ρ, _, w', by simp [Go.builtin, h3], Rho.le_refl _, h4, .str _⟩
            · cases hr
          · cases hr
        · cases hr
      · cases hr
    · cases hr
  · cases hr
end
end Go.Proofs.YteegpmimbbgdlaaGreatDoor.Ab
