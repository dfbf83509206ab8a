/- Conversions, builtins; all that write nothing and make nothing. -/
import Derived.Test.YteegpmimbbgdlaaGreatDoorPure2
set_option linter.unusedVariables false
set_option linter.unusedSimpArgs false
set_option linter.unnecessarySimpa false
namespace Go.Proofs.YteegpmimbbgdlaaGreatDoor.Ab
open Go Go.RowKit

section
variable {P : Program} {N : Nat → Prop} {ρ : Rho} {ro : Nat} {st : St} {W w : World}
theorem MR.cellLt (h : MR N ρ ro st W w) {id off : Nat} {L : Loc} (hL : ρ id = some L) {a : AV} (hc : st.cell id off = .ok a) : ∃ c e f, w.heap[L.b]? = some (.cells c e f) ∧ L.base + off < c.size := by
  unfold St.cell at hc
  split at hc
  · rename_i cs n e fz cl rel hr
    obtain ⟨c, lo, hi, hb, _, _, hcs, _⟩ := h.row hL hr
    obtain ⟨_, v, hv, _⟩ := hcs off a (Rs.of_ok hc)
    have : L.base + off < c.size := by
      rcases Nat.lt_or_ge (L.base + off) c.size with h' | h'
      · exact h'
      · rw [Array.getElem?_eq_none h'] at hv; cases hv
    exact ⟨c, e, (lo, hi), hb, this⟩
  · cases hc
theorem run_seenAt {b : Nat} {c : Array Value} {e : TypeId} {f : Nat × Nat} (hb : w.heap[b]? = some (.cells c e f)) (o : Nat) : (Conv.seenAt ⟨b, o, none⟩).run P w = .ok ⟨b, o, none⟩ w := by
  have h3 : w.shape? b = some (e, c.size) := by simp [World.shape?, hb]
  simp [Conv.seenAt, viewAt, h3]
theorem info_size {t n : Nat} (h : tySize P t = some n) : P.cellsOf t = n := by
  unfold tySize at h
  split at h
  · rename_i i hi; cases h; simp [Program.cellsOf, hi]
  · cases h
theorem liesAt_whole {u n cells : Nat} (hs : P.cellsOf u = n + 1) (hc : n + 1 ≤ cells) : liesAt P P.depth u (cells / P.cellsOf u) 0 u 1 = true := by
  obtain ⟨d, hd⟩ : ∃ d, P.depth = d + 1 := ⟨2 * (P.types.size + Made.depth) + 1, rfl⟩
  rw [hd]
  simp only [liesAt]
  have h1 : rowAt P (fun x => sameLayout P P.depth x u) P.depth u (cells / P.cellsOf u) 0 1 = true := by
    rw [hd]
    simp only [rowAt]
    have h2 : 1 ≤ cells / (n + 1) := by
      rw [Nat.le_div_iff_mul_le (by omega)]; omega
    simp [hs, h2, sameLayout]
  rw [h1]; rfl
theorem conv_run (h : MR N ρ ro st W w) {s d : TypeId} {x r : AV} {v : Value} (hv : VR ρ x v) (hr : convA P st s d x = .ok r) : ∃ q, (Go.convert s d v).run P w = .ok q w ∧ VR ρ r q := by
  unfold convA at hr
  split at hr
  · cases hv with | ptr _ _ L hL =>
    split at hr
    · rename_i t h1 h2
      split at hr
      · rename_i n a hn hc
        cases hr
        obtain ⟨c, e, f, hb, hlt⟩ := h.cellLt hL hc
        refine ⟨_, ?_, .ptr _ _ L hL⟩
        have h3 : w.shape? L.b = some (e, c.size) := by simp [World.shape?, hb]
        have h4 := run_seenAt (P := P) hb
        simp only [Go.convert, Sem.run_bind, run_underlying h1, run_underlying h2, Result.andThen_ok, Conv.unsafePointer]
        simp [h4, cellsIn, h3, run_size hn, Nat.not_le.2 hlt]
      · cases hr
    · rename_i u h1 h2
      split at hr
      · rename_i hw
        cases hr
        unfold St.wholeAt at hw
        split at hw
        · rename_i cs n e fz cl rel k hg hk
          split at hw
          · rename_i c0 e1 e3 e4
            have he := beq_true e1
            subst he
            have hn := ble_true e3
            obtain ⟨c, lo, hi, hb, hsz, h0, hcs, _⟩ := h.row hL hg
            have hb0 := h0 rfl
            obtain ⟨_, v0, hv0, _⟩ := hcs k c0 e4
            have hlt : k < c.size := by
              rw [hb0] at hv0
              rcases Nat.lt_or_ge k c.size with h' | h'
              · exact h'
              · rw [Array.getElem?_eq_none (by omega)] at hv0; cases hv0
            refine ⟨_, ?_, .ptr _ 0 L hL⟩
            have h3 : w.shape? L.b = some (e, c.size) := by simp [World.shape?, hb]
            have h4 := run_seenAt (P := P) hb 0
            have h5 := liesAt_whole (info_size hk) (show k + 1 ≤ c.size from hlt)
            rw [hb0]
            simp only [Go.convert, Sem.run_bind, run_underlying h1, run_underlying h2, Result.andThen_ok, Conv.unsafePointer, Nat.zero_add]
            simp [h4, variablesAt, h3, run_size hk, h5]
          · cases hw
        · cases hw
      · cases hr
    · cases hr
  · cases hv; exact scal_run hr w
  · cases hv; exact scal_run hr w
  · cases hv
    split at hr
    · rename_i h1 h2
      cases hr
      refine ⟨_, ?_, .str _⟩
      simp [Go.convert, run_underlying h1, run_underlying h2]
    · cases hr
  · cases hv
    split at hr
    · rename_i h1 h2
      cases hr
      refine ⟨_, ?_, .sx _⟩
      simp [Go.convert, run_underlying h1, run_underlying h2]
    · cases hr
  · cases hv
    split at hr
    · rename_i e _ _ _ k h1 h2
      cases hr
      refine ⟨.int k (k.wrap (e.den ρ.sg).int), ?_, .ix k (.conv k e)⟩
      simp [Go.convert, run_underlying h1, run_underlying h2, Conv.intToInt]
    · cases hr
  · cases hr
theorem len_run (h : MR N ρ ro st W w) {t : TypeId} {x r : AV} {v : Value} {ts : Array TypeId} {ty : TypeId} {rest : List TypeId} (hts : ts.toList = t :: rest) (hv : VR ρ x v) (hr : lenA P st t x = .ok r) :
    ∃ q, (Builtin.len_ ts ty #[v]).run P w = .ok q w ∧ VR ρ r q := by
  have ht : ts[0]? = some t := by
    have : ts.toList[0]? = some t := by rw [hts]; rfl
    simpa using this
  unfold lenA at hr
  split at hr
  · rename_i s hty; cases hr; cases hv
    exact ⟨_, by simp [Builtin.len_, ht, run_underlying hty]; rfl, .int _ _⟩
  · rename_i e hty; cases hr; cases hv
    exact ⟨.int .i64 (Int.ofNat (e.den ρ.sg).str.length), by simp [Builtin.len_, ht, run_underlying hty]; rfl, .ix .i64 (.len e)⟩
  · rename_i n e hty; cases hr
    exact ⟨_, by simp [Builtin.len_, ht, run_underlying hty]; rfl, .int _ _⟩
  · rename_i e id off n c hty; cases hr; cases hv
    exact ⟨_, by simp [Builtin.len_, ht, run_underlying hty]; rfl, .int _ _⟩
  · rename_i e hty; cases hr; cases hv
    exact ⟨_, by simp [Builtin.len_, ht, run_underlying hty]; rfl, .int _ _⟩
  · rename_i k e hty; cases hr; cases hv
    exact ⟨_, by simp [Builtin.len_, ht, run_underlying hty]; rfl, .int _ _⟩
  · rename_i k e id hty; cases hv with | map _ L hL =>
    split at hr
    · rename_i es hg
      cases hr
      obtain ⟨o, ho, arr, clock, rfl, harr, _⟩ := h.obs _ L _ hL hg
      have hgo := run_getObj (P := P) ho (by intro c e f hh; cases hh)
      have hlen : arr.size = es.length := by
        have := harr.1.length
        simpa using this
      refine ⟨_, ?_, .int _ _⟩
      simp [Builtin.len_, ht, run_underlying hty, hgo, hlen, goInt]
    · cases hr
  · rename_i a x' hty
    split at hr
    · rename_i n e hty2
      cases hr
      refine ⟨_, ?_, .int _ _⟩
      simp [Builtin.len_, ht, run_underlying hty, run_underlying hty2]; rfl
    · cases hr
  · cases hr
theorem cap_run {t : TypeId} {x r : AV} {v : Value} {ts : Array TypeId} {ty : TypeId} {rest : List TypeId} (hts : ts.toList = t :: rest) (hv : VR ρ x v) (hr : capA P t x = .ok r) (w : World) :
    ∃ q, (Builtin.cap_ ts ty #[v]).run P w = .ok q w ∧ VR ρ r q := by
  have ht : ts[0]? = some t := by
    have : ts.toList[0]? = some t := by rw [hts]; rfl
    simpa using this
  unfold capA at hr
  split at hr
  · rename_i hty; cases hr; cases hv with | sl _ _ _ _ L c o hL hc hl =>
    obtain ⟨rfl, _⟩ := hc
    exact ⟨_, by simp [Builtin.cap_, ht, run_underlying hty]; rfl, .int _ _⟩
  · rename_i hty; cases hr; cases hv
    exact ⟨_, by simp [Builtin.cap_, ht, run_underlying hty]; rfl, .int _ _⟩
  · rename_i hty; cases hr
    exact ⟨_, by simp [Builtin.cap_, ht, run_underlying hty]; rfl, .int _ _⟩
  · cases hr
theorem all_of {fr : Fr} {ev : Operand → Value} {l : List Operand} (he : ∀ x ∈ l, VR ρ (fr.get x) (ev x)) {as : List AV} (h : fr.all l = as) : VRs ρ as (l.map ev) := h ▸ all_eval he
/-- The builtin calls, as the model makes them. -/
theorem call_builtin (ev : Operand → Value) (o : Oper) (c : Call) (b : Builtin) (ho : o.op = .call c) (hc : c.callee = .builtin b) :
    execOp ev o = (do let d ← (pure { target := .builtin b c.argTypes o.type (c.args.map fun | .const _ => true | _ => false), args := c.args.map ev } : Sem Deferred); invoke d.target d.args) := by
  unfold execOp
  rw [ho]
  simp only [resolve, hc]
  rfl
theorem VR.int_inv {k : IntKind} {n : Int} {v : Value} (h : VR ρ (.int k n) v) : v = .int k n := by cases h; rfl
theorem map_one {ev : Operand → Value} {l : Array Operand} {y : Operand} (h : l.toList = [y]) : l.map ev = #[ev y] := by
  apply Array.ext'
  simp [h]
theorem map_two {ev : Operand → Value} {l : Array Operand} {y z : Operand} (h : l.toList = [y, z]) : l.map ev = #[ev y, ev z] := by
  apply Array.ext'
  simp [h]
theorem list_one {α β : Type} {f : α → β} {l : List α} {x : β} (h : l.map f = [x]) : ∃ y, l = [y] ∧ f y = x := by
  cases l with
  | nil => cases h
  | cons a r => cases r with
    | nil => simp only [List.map_cons, List.map_nil, List.cons.injEq, and_true] at h; exact ⟨a, rfl, h⟩
    | cons _ _ => simp at h
theorem list_two {α β : Type} {f : α → β} {l : List α} {x x' : β} (h : l.map f = [x, x']) : ∃ y z, l = [y, z] ∧ f y = x ∧ f z = x' := by
  cases l with
  | nil => cases h
  | cons a r =>
    simp only [List.map_cons, List.cons.injEq] at h
    obtain ⟨b, rfl, hb⟩ := list_one h.2
    exact ⟨a, b, rfl, h.1, hb⟩
theorem sliceData_run {ts : Array TypeId} {ty : TypeId} {b : Addr} {n c : Nat} (hc : c ≠ 0) (w : World) : (Builtin.unsafeSliceData_ ts ty #[.slice (some b) n c]).run P w = .ok (.pointer (some b)) w := by
  have e : Builtin.unsafeSliceData_ ts ty #[.slice (some b) n c] = (if c ≠ 0 then pure (.pointer (some b)) else (do
    if (← viewAt b.block).isSome then pure (.pointer (some b)) else pure (.pointer (some ⟨← newObj (.view b (← Go.elemOf ty)), 0, none⟩)))) := rfl
  rw [e, if_pos hc]; rfl
theorem pureBuiltin_run (h : MR N ρ ro st W w) {fr : Fr} {ev : Operand → Value} {o : Oper} {c : Call} {b : Builtin} {r : AV} (ho : o.op = .call c) (hc : c.callee = .builtin b) (he : ∀ x ∈ c.args.toList, VR ρ (fr.get x) (ev x))
    (hr : pureBuiltin P fr st b c.args.toList c.argTypes.toList = .ok r) : ∃ q, (execOp ev o).run P w = .ok (.value q) w ∧ VR ρ r q := by
  rw [call_builtin ev o c b ho hc]
  unfold pureBuiltin at hr
  have fin : ∀ {s : Sem Value} {q : Value}, s.run P w = .ok q w → ((do pure (.value (← s)) : Sem Next).run P w = .ok (.value q) w) := by
    intro s q hs; simp [hs]
  split at hr
  · rename_i x t rest ha ht
    obtain ⟨y, hy, rfl⟩ := list_one ha
    obtain ⟨q, h1, h2⟩ := len_run (ty := o.type) h ht (he y (by simp [hy])) hr
    exact ⟨q, by rw [map_one hy]; exact fin h1, h2⟩
  · rename_i x t rest ha ht
    obtain ⟨y, hy, rfl⟩ := list_one ha
    obtain ⟨q, h1, h2⟩ := cap_run (ty := o.type) ht (he y (by simp [hy])) hr w
    exact ⟨q, by rw [map_one hy]; exact fin h1, h2⟩
  · rename_i ha
    unfold minMaxA at hr
    split at hr
    · rename_i k a k' a' hl
      obtain ⟨y, z, hy, hy1, hz1⟩ := list_two (hl : c.args.toList.map fr.get = _)
      have e1 : ev y = .int k a := VR.int_inv (ρ := ρ) (hy1 ▸ he y (by simp [hy]))
      have e2 : ev z = .int k' a' := VR.int_inv (ρ := ρ) (hz1 ▸ he z (by simp [hy]))
      obtain ⟨q, h1, h2⟩ := scal_run (ρ := ρ) hr w
      exact ⟨q, by rw [map_two hy, e1, e2]; exact fin h1, h2⟩
    · cases hr
  · rename_i ha
    unfold minMaxA at hr
    split at hr
    · rename_i k a k' a' hl
      obtain ⟨y, z, hy, hy1, hz1⟩ := list_two (hl : c.args.toList.map fr.get = _)
      have e1 : ev y = .int k a := VR.int_inv (ρ := ρ) (hy1 ▸ he y (by simp [hy]))
      have e2 : ev z = .int k' a' := VR.int_inv (ρ := ρ) (hz1 ▸ he z (by simp [hy]))
      obtain ⟨q, h1, h2⟩ := scal_run (ρ := ρ) hr w
      exact ⟨q, by rw [map_two hy, e1, e2]; exact fin h1, h2⟩
    · cases hr
  · rename_i id off n k ha
    obtain ⟨y, hy, hy1⟩ := list_one ha
    cases hr
    have hv := he y (by simp [hy])
    rw [hy1] at hv
    generalize hq : ev y = q at hv
    cases hv with | sl _ _ _ _ L cc oo hL hcap hl =>
    obtain ⟨h1, h2⟩ := hcap
    refine ⟨_, ?_, .ptr id off L hL⟩
    rw [map_one hy, hq, h1, h2]
    exact fin (sliceData_run (by omega) w)
  · rename_i id off k cap _ ha
    obtain ⟨y, hy, hy1⟩ := list_one ha
    cases hr
    have hv := he y (by simp [hy])
    rw [hy1] at hv
    generalize hq : ev y = q at hv
    cases hv with | sl _ _ _ _ L cc oo hL hcap hl =>
    have hoo : oo = L.base + off := by
      cases cap with
      | k m => exact hcap.2
      | g m => rcases hcap.2 with h0 | h0
               · omega
               · exact h0
    refine ⟨_, ?_, .ptr id off L hL⟩
    rw [map_one hy, hq, hoo]
    exact fin (sliceData_run (by omega) w)
  · rename_i ha
    obtain ⟨y, hy, hy1⟩ := list_one ha
    cases hr
    have hv := he y (by simp [hy])
    rw [hy1] at hv
    generalize hq : ev y = q at hv
    cases hv
    exact ⟨_, by rw [map_one hy, hq]; exact fin rfl, .nilp⟩
  · cases hr
end
end Go.Proofs.YteegpmimbbgdlaaGreatDoor.Ab
