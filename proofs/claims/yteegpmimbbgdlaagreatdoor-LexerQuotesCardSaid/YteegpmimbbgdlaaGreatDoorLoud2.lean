/- Strings from bytes, and bytes from strings; maps made; ranges. -/
import Derived.Test.YteegpmimbbgdlaaGreatDoorLoud1
import Derived.Lib.UnsafeStr
import Derived.Laws.BytesString
set_option linter.unusedVariables false
set_option linter.unusedSimpArgs false
set_option linter.unnecessarySimpa false
namespace Go.Proofs.YteegpmimbbgdlaaGreatDoor.Ab
open Go Go.RowKit

section
variable {P : Program} {N : Nat → Prop} {ρ : Rho} {ro : Nat} {st : St} {W w : World}
theorem MR.change (h : MR N ρ ro st W w) {id : Nat} {L : Loc} (hL : ρ id = some L) (hro' : ro ≤ id) {cs cs' : PT AV} {n e fz fz' cl rel : Nat} {o' : Obj} (hr : st.heap.get id = some (.row cs n e fz cl rel)) (hOR : OR ρ L (.row cs' n e fz' cl rel) o') {st' : St}
    (hs : st.change id cs' n e fz' cl rel = .ok st') : MR N ρ ro st' W { w with heap := w.heap.setIfInBounds L.b o' } ∧ st'.next = st.next := by
  have hidn := h.nx _ _ hr
  unfold St.change at hs
  split at hs
  · cases hs
    refine ⟨h.upd hL hro' hOR rfl (fun j ob hj => ?_) hidn (fun j M ob hj hM hob => ?_) (fun j cs n e fz cl rel hj => ?_) rfl, rfl⟩
    · rcases PT.get_set hj with ⟨rfl, rfl⟩ | ⟨h1, h2⟩
      · exact .inl ⟨rfl, rfl⟩
      · exact .inr ⟨h1, h2⟩
    · rcases PT.get_set hob with ⟨rfl, _⟩ | ⟨_, h2⟩
      · exact absurd rfl hj
      · intro hbb
        rcases h.inj id j L M _ _ hL hM hr h2 hbb.symm with e' | ⟨_, _, _, _, _, _, _, _, _, _, _, e1, _⟩
        · exact hj e'.symm
        · cases e1
    · rcases PT.get_set hj with ⟨_, e1⟩ | ⟨_, h2⟩
      · cases e1
      · exact h.cls j cs n e fz cl rel h2
  · rename_i hcl
    split at hs
    · rename_i m hm
      cases hs
      obtain ⟨cl, rfl⟩ : ∃ k, cl = k + 1 := by
        cases cl with
        | zero => exact absurd rfl hcl
        | succ k => exact ⟨k, rfl⟩
      obtain ⟨hcn, _⟩ := h.cls id cs n e fz cl rel hr
      refine ⟨h.upd hL hro' hOR rfl (fun j ob hj => ?_) hidn (fun j M ob hj hM hob => ?_) (fun j cs1 n1 e1 fz1 cl1 rel1 hj => ?_) rfl, rfl⟩
      · obtain ⟨h1, _⟩ := get_kill hj
        rcases PT.get_set h1 with ⟨rfl, rfl⟩ | ⟨h1, h2⟩
        · exact .inl ⟨rfl, rfl⟩
        · exact .inr ⟨h1, h2⟩
      · obtain ⟨h1, h2⟩ := get_kill hob
        rcases PT.get_set h1 with ⟨rfl, _⟩ | ⟨_, h3⟩
        · exact absurd rfl hj
        · intro hbb
          rcases h.inj id j L M _ _ hL hM hr h3 hbb.symm with e' | ⟨_, _, _, _, _, _, cs2, n2, e2, fz2, rel2, e1, e3, _⟩
          · exact hj e'.symm
          · cases e1
            subst e3
            obtain ⟨_, hm2⟩ := h.cls j cs2 n2 e2 fz2 cl rel2 h3
            obtain ⟨hin2, _⟩ := hm2 _ hm
            rcases h2 with h2 | h2
            · exact hj h2
            · exact h2 hin2
      · obtain ⟨h1, h2⟩ := get_kill hj
        rcases PT.get_set h1 with ⟨rfl, e'⟩ | ⟨hne, h3⟩
        · cases e'
          refine ⟨hcn, fun m2 hm2 => ?_⟩
          rcases PT.get_set hm2 with ⟨_, rfl⟩ | ⟨hne, _⟩
          · exact ⟨by simp, Nat.le_refl _⟩
          · exact absurd rfl hne
        · obtain ⟨a1, hm2⟩ := h.cls j cs1 n1 e1 fz1 cl1 rel1 h3
          refine ⟨a1, fun m2 hm3 => ?_⟩
          rcases PT.get_set hm3 with ⟨hc, rfl⟩ | ⟨hne', hm4⟩
          · have hc' : cl1 = cl := by omega
            subst hc'
            obtain ⟨hin2, _⟩ := hm2 _ hm
            rcases h2 with h2 | h2
            · exact absurd h2 hne
            · exact absurd hin2 h2
          · exact hm2 _ hm4
    · cases hs
theorem bytesOfA_spec : ∀ {l : List AV} {s : List UInt8} {vs : List Value}, bytesOfA l = .ok s → VRs ρ l vs → vs = s.map fun b => Value.int .u8 (b.toNat : Int)
  | [], s, vs, h, hv => by cases h; cases hv; rfl
  | x :: r, s, vs, h, hv => by
    cases hv with | cons _ v _ m hx hr =>
    unfold bytesOfA at h
    split at h
    · rename_i b
      split at h
      · rename_i hb
        have hb := blt_true hb
        obtain ⟨t, ht, h⟩ := Rs.bind_ok h
        cases h
        cases hx
        rw [bytesOfA_spec ht hr]
        simp only [List.map_cons]
        congr 2
        simp [UInt8.toNat_ofNat, Nat.mod_eq_of_lt hb]
      · cases h
    · cases h
theorem bytes_fold (s : List UInt8) : ∀ (acc : ByteArray), ((s.map fun b => (b.toNat : Int)).foldl (fun r n => r.push (UInt8.ofNat n.toNat)) acc) = ⟨acc.data ++ s.toArray⟩ := by
  induction s with
  | nil => intro acc; simp
  | cons b s ih =>
    intro acc
    simp only [List.map_cons, List.foldl_cons, ih]
    congr 1
    simp
theorem bytesToString_run {b o len cap : Nat} {s : List UInt8} (h : (Go.loadCells (⟨b, o, none⟩ : Addr) len).run P w = .ok (s.map fun b => Value.int .u8 (b.toNat : Int)).toArray w) :
    (Conv.bytesToString (.slice (some ⟨b, o, none⟩) len cap)).run P w = .ok (.string ⟨⟨s⟩⟩) w := by
  have := run_bytesToString (P := P) w (⟨b, o, none⟩ : Addr) len cap (s.map fun b => (b.toNat : Int)) (by rw [h]; simp)
  rw [this, bytes_fold]
  congr 3
  simp
theorem loadBytes_run {b : Nat} : ∀ (s : List UInt8) (o : Nat) (acc : ByteArray), (∀ j x, s[j]? = some x → w.cell? ⟨b, o + j, none⟩ = some (.int .u8 (x.toNat : Int))) → (Go.loadBytes ⟨b, o, none⟩ acc s.length).run P w = .ok ⟨acc.data ++ s.toArray⟩ w
  | [], o, acc, h => by simp [Go.loadBytes]
  | x :: s, o, acc, h => by
    have h0 := h 0 x (by simp)
    simp only [Nat.add_zero] at h0
    simp only [Go.loadBytes, List.length_cons, Sem.run_bind, run_load, h0, Result.andThen_ok]
    rw [addr_add]
    have := loadBytes_run s (o + 1) (acc.push x) (fun j y hj => by
      have := h (j + 1) y (by simpa using hj)
      rw [show o + 1 + j = o + (j + 1) from by omega]; exact this)
    have e : ((x.toNat : Int).toNat.toUInt8) = x := by simp
    rw [e, this]
    congr 2
    simp
theorem liesAt_row {u d off n count : Nat} (hs : P.cellsOf u = 1) (hc : off + n ≤ count) : liesAt P P.depth u (count / P.cellsOf u) off u n = true := by
  obtain ⟨d, hd⟩ : ∃ d, P.depth = d + 1 := ⟨2 * (P.types.size + Made.depth) + 1, rfl⟩
  rw [hd]
  simp only [liesAt]
  have h1 : rowAt P (fun x => sameLayout P P.depth x u) P.depth u (count / P.cellsOf u) off n = true := by
    rw [hd]
    simp only [rowAt]
    simp [hs, sameLayout, Nat.mod_one, hc]
  rw [h1]; rfl
end
end Go.Proofs.YteegpmimbbgdlaaGreatDoor.Ab
