/- Every operation. -/
import Derived.Test.YteegpmimbbgdlaaGreatDoorLoud3
set_option linter.unusedVariables false
set_option linter.unusedSimpArgs false
set_option linter.unnecessarySimpa false
namespace Go.Proofs.YteegpmimbbgdlaaGreatDoor.Ab
open Go Go.RowKit

section
variable {P : Program} {N : Nat → Prop} {ρ : Rho} {ro : Nat} {st : St} {W w : World}
theorem methodA_run {t : TypeId} {name : String} {f : FuncId} (h : methodA P t name = some f) (v : Value) (w : World) : (Go.method (P.types.size + Made.depth) t v name).run P w = .ok (f, v) w := by
  obtain ⟨d, hd⟩ : ∃ d, P.types.size + Made.depth = d + 1 := ⟨P.types.size + (Made.depth - 1), rfl⟩
  rw [hd]
  unfold methodA at h
  split at h
  case h_2 => cases h
  rename_i i hi
  split at h
  case h_2 => cases h
  rename_i m hm
  have hty : ∀ w', (typeInfo t).run P w' = .ok i w' := fun w' => by simp [typeInfo, hi]
  split at h
  case h_2 => cases h
  case h_4 => cases h
  all_goals
    rename_i hp hfn hu
    cases h
    have hpath : m.path.toList = [] := by
      have := Array.isEmpty_iff.1 hp
      rw [this]
    simp only [Go.method, Sem.run_bind, hty, Result.andThen_ok, hm, hpath, follow, Sem.run_pure, hfn]
  · simp [receiverAt, run_underlying hu, Place.get]
  · rename_i d' hne
    simp only [receiverAt, Sem.run_bind, run_underlying hu, Result.andThen_ok]
    cases d' <;> first | exact absurd rfl (hne _) | simp [Place.get]
theorem call_enter {f : FuncId} {x c : Array Value} : (invoke (.fn (.func f) c) x : Sem Next) = callFunc f (x ++ c) := rfl
theorem loudA_run (h : MR N ρ ro st W w) {fr : Fr} {ev : Operand → Value} {o : Oper} {out : Out} (he : ∀ x ∈ o.op.operands.toList, VR ρ (fr.get x) (ev x)) (hr : loudA P ro fr st o.op = .ok out) : OutR P N ρ ro st W w out ((execOp ev o).run P w) := by
  unfold execOp
  generalize hop : o.op = op at he hr
  cases op <;> simp only [loudA] at hr <;> first
    | (cases hr; done)
    | dsimp only
  case assign x =>
    cases hr
    exact ⟨ρ, ev x, w, rfl, Rho.le_refl _, h, he x (by simp [Op.operands])⟩
  case store t a x =>
    have ha := he a (by simp [Op.operands])
    have hx := he x (by simp [Op.operands])
    split at hr
    · rename_i id off hp; rw [hp] at ha
      obtain ⟨L, hL, e⟩ := ha.ptr_inv
      obtain ⟨st', hs, hr⟩ := Rs.bind_ok hr
      cases hr
      unfold Ab.storeVar at hs
      split at hs
      case h_2 => cases hs
      rename_i l n hc hsz
      split at hs
      case h_2 => cases hs
      rename_i hlen
      have hlen := beq_true hlen
      have hvs := hx.cells hc
      have hl2 := hvs.length
      obtain ⟨w', h1, h2, _⟩ := h.stores (P := P) hL hs hvs
      refine ⟨w', ?_, h2⟩
      have hsz' : (ev x).cells.size = n := by simpa [hlen] using hl2
      rw [e]
      simp [Instr.storeAt, Instr.sureAddr, Go.storeVar, run_size hsz, hsz', h1]
    · cases hr
  case mapUpdate t m k x =>
    obtain ⟨st', hs, hr⟩ := Rs.bind_ok hr
    cases hr
    obtain ⟨w', h1, h2⟩ := updateA_run h (he m (by simp [Op.operands])) (he k (by simp [Op.operands])) (he x (by simp [Op.operands])) hs
    exact ⟨w', by simp [h1], h2⟩
  case insert t m k x =>
    obtain ⟨st', hs, hr⟩ := Rs.bind_ok hr
    cases hr
    obtain ⟨w', h1, h2⟩ := updateA_run h (he m (by simp [Op.operands])) (he k (by simp [Op.operands])) (he x (by simp [Op.operands])) hs
    exact ⟨w', by simp [h1], h2⟩
  case makeMap t r =>
    split at hr
    · cases hr
      obtain ⟨ρ', h1, h2, h3⟩ := h.make (ob := .map []) (o := .map #[] 0) (n := 0) (cl0_map _) (fun ρ' _ => ⟨#[], 0, rfl, ⟨.nil, .nil⟩, rfl⟩)
      exact ⟨ρ', .map (some w.heap.size), _, by simp [Instr.makeMap], h1, h2, .map _ _ h3⟩
    · cases hr
  case range t x =>
    have hx := he x (by simp [Op.operands])
    split at hr
    · rename_i s hu hs
      rw [hs] at hx
      have := hx.str_inv
      cases hr
      obtain ⟨ρ', h1, h2, h3⟩ := h.make (ob := .iter s 0) (o := .stringIter ⟨⟨s⟩⟩ 0) (n := 0) (cl0_iter _ _) (fun ρ' _ => ⟨rfl, rfl⟩)
      exact ⟨ρ', .pointer (some ⟨w.heap.size, 0, none⟩), _, by simp [Instr.range, run_underlying hu, this], h1, h2, .ptr _ 0 _ h3⟩
    · cases hr
  case next it isString =>
    have hx := he it (by simp [Op.operands])
    split at hr
    · rename_i id hs
      rw [hs] at hx
      split at hr
      · rename_i s pos hg hro
        obtain ⟨h1, h2⟩ := next_run (P := P) (ty := o.type) h hx hg (blt_false hro)
        split at hr
        · rename_i hlt
          cases hr
          obtain ⟨q, w', h3, h4, h5⟩ := h1 hlt
          exact ⟨ρ, q, w', by simp [h3], Rho.le_refl _, h4, h5⟩
        · rename_i hlt
          cases hr
          obtain ⟨q, h3, h4⟩ := h2 hlt
          exact ⟨ρ, q, w, by simp [h3], Rho.le_refl _, h, h4⟩
      · cases hr
    · cases hr
  case convert s d x =>
    have hx := he x (by simp [Op.operands])
    split at hr
    · rename_i e hs hd
      split at hr
      case h_2 => cases hr
      rename_i hel
      split at hr
      · rename_i hv
        cases hr
        rw [hv] at hx
        generalize ev x = q at hx
        cases hx
        refine ⟨ρ, .string .empty, w, ?_, Rho.le_refl _, h, .str []⟩
        simp [Go.convert, run_underlying hs, run_underlying hd, run_underlying hel, Conv.bytesToString]
      · rename_i id off len cap hv
        obtain ⟨l, hl, hr⟩ := Rs.bind_ok hr
        obtain ⟨b, hb, hr⟩ := Rs.bind_ok hr
        cases hr
        rw [hv] at hx
        generalize ev x = q at hx
        obtain ⟨vs, h1, h2, h3⟩ := firstCells_run (P := P) (size := 1) (n := len) h hx rfl (Nat.le_refl _) (by simpa [firstA] using hl)
        cases hx with | sl _ _ _ _ L c o' hL hcap hlc =>
        refine ⟨ρ, .string ⟨⟨b⟩⟩, w, ?_, Rho.le_refl _, h, .str _⟩
        have hvs := bytesOfA_spec hb h2
        have h4 : (Go.loadCells (⟨L.b, o', none⟩ : Addr) len).run P w = .ok (b.map fun b => Value.int .u8 (b.toNat : Int)).toArray w := by
          rw [← hvs]
          simpa [Builtin.firstCells] using h1
        have h5 := bytesToString_run (P := P) (cap := c) h4
        simp [run_convert_bytes_string w s d e _ len c hs hel hd, h5]
      · cases hr
    · rename_i e b hs hd hv
      rw [hv] at hx
      have hq := hx.str_inv
      split at hr
      case h_2 => cases hr
      rename_i hel
      split at hr
      case h_2 => cases hr
      rename_i hlen
      cases hr
      obtain ⟨ρ', q, w', h1, h2, h3, h4⟩ := toBytes_run (P := P) (e := e) h (ble_true hlen)
      exact ⟨ρ', q, w', by simp [Go.convert, run_underlying hs, run_underlying hd, run_underlying hel, hq, h1], h2, h3, h4⟩
    · cases hr
  case panic x =>
    have hx := he x (by simp [Op.operands])
    split at hr
    · rename_i t v hv
      cases hr
      rw [hv] at hx
      generalize ev x = q at hx
      cases hx with | iface _ _ u hu =>
      exact ⟨_, by simp [Instr.panic], .iface _ _ _ hu⟩
    · cases hr
  case defer c =>
    split at hr
    · rename_i f hc
      have hf := he f (by simp [Op.operands, Call.operands, hc])
      have hargs := args_eval (ρ := ρ) (fr := fr) (ev := ev) (l := c.args) (fun x hx => he x (by
        have := Array.mem_toList_iff.1 hx
        simp [Op.operands, Call.operands, hc, this]))
      split at hr
      · rename_i f' first cap hv
        cases hr
        rw [hv] at hf
        generalize hq : ev f = q at hf
        cases hf with | fn _ _ _ x' c' h1 h2 =>
        refine ⟨{ target := .fn (.func f') c', args := x' ++ c.args.map ev }, ?_, c', rfl, ?_⟩
        · simp [resolve, hc, hq, Deferred.ofValue]
        · simp only [Array.toList_append]
          exact (h1.append hargs).append h2
      · cases hr
    · cases hr
  case call c =>
    split at hr
    · rename_i f hc
      have hf := he f (by simp [Op.operands, Call.operands, hc])
      have hargs := args_eval (ρ := ρ) (fr := fr) (ev := ev) (l := c.args) (fun x hx => he x (by
        have := Array.mem_toList_iff.1 hx
        simp [Op.operands, Call.operands, hc, this]))
      unfold callFn at hr
      split at hr
      · rename_i f' first cap hv
        cases hr
        rw [hv] at hf
        generalize hq : ev f = q at hf
        cases hf with | fn _ _ _ x' c' h1 h2 =>
        refine ⟨x' ++ c.args.map ev ++ c', ?_, ?_⟩
        · simp [resolve, hc, hq, Deferred.ofValue, call_enter]
        · simp only [Array.toList_append]
          exact (h1.append hargs).append h2
      · cases hr
    · rename_i x name hc
      have hf := he x (by simp [Op.operands, Call.operands, hc])
      have hargs := args_eval (ρ := ρ) (fr := fr) (ev := ev) (l := c.args) (fun x hx => he x (by
        have := Array.mem_toList_iff.1 hx
        simp [Op.operands, Call.operands, hc, this]))
      split at hr
      · rename_i t v hv
        split at hr
        · rename_i f hm
          cases hr
          rw [hv] at hf
          generalize hq : ev x = q at hf
          cases hf with | iface _ _ u hu =>
          refine ⟨#[u] ++ c.args.map ev, ?_, ?_⟩
          · have hx1 : (#[Value.iface t u] ++ c.args.map ev)[0]? = some (.iface t u) := by
              rw [Array.getElem?_append_left (by simp)]; rfl
            have hx2 : (#[Value.iface t u] ++ c.args.map ev).extract 1 (#[Value.iface t u] ++ c.args.map ev).size = c.args.map ev := by
              apply Array.ext'
              simp only [Array.toList_extract, Array.toList_append, Array.toList_map]
              simp [List.take_of_length_le]
            simp only [resolve, hc, hq, Sem.run_bind, Sem.run_pure, Result.andThen_ok, invoke, hx1, hx2, callMethod, run_program, methodA_run hm]
          · simp only [Array.toList_append]
            exact .cons _ _ _ _ hu hargs
        · cases hr
      · cases hr
    · rename_i b hc
      have h1 := loudBuiltin_run (ty := o.type) (cs := (c.args.map fun | .const _ => true | _ => false)) h (fun x hx => he x (by
        have := Array.mem_toList_iff.1 hx
        simp [Op.operands, Call.operands, hc, this])) hr
      have e : ((do let d ← resolve ev c o.type; invoke d.target d.args : Sem Next)).run P w = (Go.builtin b c.argTypes o.type (c.args.map fun | .const _ => true | _ => false) (c.args.map ev)).run P w := by
        simp only [resolve, hc, Sem.run_bind, Sem.run_pure, Result.andThen_ok, invoke]
        rfl
      rw [e]
      exact h1
theorem stepA_run (h : MR N ρ ro st W w) {fr : Fr} {ev : Operand → Value} {o : Oper} {out : Out} (he : ∀ x ∈ o.op.operands.toList, VR ρ (fr.get x) (ev x)) (hr : stepA P ro fr st o.op = .ok out) : OutR P N ρ ro st W w out ((execOp ev o).run P w) := by
  rw [stepA_eq] at hr
  unfold stepS at hr
  split at hr
  · obtain ⟨v, hv, hr⟩ := Rs.bind_ok hr
    cases hr
    obtain ⟨q, h1, h2⟩ := pureA_run h he hv
    exact ⟨ρ, q, w, h1, Rho.le_refl _, h, h2⟩
  · obtain ⟨p, hp, hr⟩ := Rs.bind_ok hr
    cases hr
    obtain ⟨v, o', n, h1, h2, h3, h4⟩ := allocA_run he hp w
    obtain ⟨ρ', h5, h6, h7⟩ := h.make h2 h3
    exact ⟨ρ', v, _, h1, h5, h6, h4 _ _ h7⟩
  · exact loudA_run h he hr
end
end Go.Proofs.YteegpmimbbgdlaaGreatDoor.Ab
