/- Functions without a body. -/
import Derived.Test.YtjifnmilimdfdaaGreatDoorDraw6
import Derived.Lib.Bytealg
import Derived.Lib.MakeNoZero
set_option linter.unusedVariables false
set_option linter.unusedSimpArgs false
set_option linter.unnecessarySimpa false
namespace Go.Proofs.YtjifnmilimdfdaaGreatDoor.Ab
open Go Go.RowKit

def impl (e : Ext) (ps rs : Array TypeId) : Array Value → Sem Value := match e with
  | .noZero _ => Extern.BytealgMakeNoZero.makeNoZero ps rs
  | .indexByte => Extern.BytealgIndexByte.indexByte
  | .indexStr => Extern.BytealgIndex.index
  | .count => Extern.BytealgCount.count
  | .f64bits => Extern.MathFloatBits.float64bits
  | .f64of => Extern.MathFloatBits.float64frombits
  | .f32bits => Extern.MathFloatBits.float32bits
  | .f32of => Extern.MathFloatBits.float32frombits
  | .same => Extern.AbiNoEscape.same
  | .clone => Extern.MapsClone.clone
structure XF (E : Env) (f : FuncId) (e : Ext) : Prop where
  fn : ∃ fn, E.P.funcs[f]? = some fn ∧ (fn.name == "runtime.NumGoroutine") = false ∧ fn.body.isNone = true ∧ Extern.findNext fn = none ∧ Extern.find fn = some (impl e fn.params fn.resultTypes) ∧ (∀ t, e = .noZero t → ∃ s, fn.resultTypes = #[s] ∧ E.P.underlying s = some (.slice t))
  mx : e = .indexStr → E.mx < E.gl ∧ E.P.globals.findIdx? (·.name == "internal/bytealg.MaxLen") = some E.mx
theorem byteAt_spec (b : Nat) (hb : b < 256) : ∀ (s : List UInt8) (k : Nat), place (byteAt s b k) = .int .i64 (if Go.Lib.indexByte s (UInt8.ofNat b) = -1 then -1 else Go.Lib.indexByte s (UInt8.ofNat b) + k)
  | [], k => by simp [byteAt, place, Go.Lib.indexByte]
  | x :: s, k => by
    have ih := byteAt_spec b hb s (k + 1)
    have hge := Go.Lib.indexByte_ge s (UInt8.ofNat b)
    simp only [byteAt, Go.Lib.indexByte]
    cases hx : Nat.beq x.toNat b with
    | true =>
      have hx := beq_true hx
      have : x = UInt8.ofNat b := by rw [← hx]; simp
      subst this
      simp [place]
    | false =>
      have hx := beq_false hx
      have hne : (x == UInt8.ofNat b) = false := by
        rw [beq_eq_false_iff_ne]
        intro e
        apply hx
        rw [e]
        simp [Nat.mod_eq_of_lt hb]
      simp only [hne, Bool.false_eq_true, if_false]
      rw [ih]
      congr 1
      simp only [beq_iff_eq]
      split
      · rfl
      · rename_i h1
        rw [if_neg (by omega)]
        omega
theorem countA_spec (b : Nat) (hb : b < 256) : ∀ (s : List UInt8) (k : Nat), countA s b k = Go.Lib.countByte s (UInt8.ofNat b) + k
  | [], k => by simp [countA, Go.Lib.countByte]
  | x :: s, k => by
    simp only [countA, Go.Lib.countByte, List.count_cons]
    cases hx : Nat.beq x.toNat b with
    | true =>
      have hx := beq_true hx
      have : x = UInt8.ofNat b := by rw [← hx]; simp
      subst this
      simp only [countA_spec b hb s, Go.Lib.countByte]
      simp
      omega
    | false =>
      have hx := beq_false hx
      have hne : (x == UInt8.ofNat b) = false := by
        rw [beq_eq_false_iff_ne]
        intro e
        apply hx
        rw [e]
        simp [Nat.mod_eq_of_lt hb]
      simp only [countA_spec b hb s, Go.Lib.countByte, hne]
      simp
theorem subAt_spec (s sub : List UInt8) : ∀ (n k : Nat), subAt s sub n k = ((List.range' k n).find? fun i => ((s.drop i).take sub.length == sub))
  | 0, k => rfl
  | n + 1, k => by
    simp only [subAt, List.range'_succ, List.find?_cons, eqBytes_iff]
    cases (List.take sub.length (List.drop k s) == sub) with
    | true => rfl
    | false => exact subAt_spec s sub n (k + 1)
theorem extract_beq (s t : List UInt8) (i : Nat) : ((⟨⟨s⟩⟩ : ByteArray).extract i (i + t.length) == (⟨⟨t⟩⟩ : ByteArray)) = ((s.drop i).take t.length == t) := by
  have h1 : (⟨⟨s⟩⟩ : ByteArray).extract i (i + t.length) = ⟨⟨(s.drop i).take t.length⟩⟩ := by
    apply ByteArray.ext
    rw [ByteArray.data_extract]
    apply Array.ext'
    simp
  rw [h1]
  simp [beq_toListBytes, ByteArray.toList_eq]
theorem indexStr_run {ps rs : Array TypeId} {P : Program} {mx mlen : Nat} {k : IntKind} {s t : List UInt8} (hx : P.globals.findIdx? (·.name == "internal/bytealg.MaxLen") = some mx) {w : World} (hu : w.cell? ⟨mx, 0 + 0, none⟩ = some (.int k (Int.ofNat mlen))) (c1 : 2 ≤ t.length) (c2 : t.length ≤ mlen) (c3 : s.length ≤ 100000)
    (w1 : World) (hw : w1 = w) : (impl .indexStr ps rs #[.string ⟨⟨s⟩⟩, .string ⟨⟨t⟩⟩]).run P w1 = .ok (.int .i64 (match subAt s t (Nat.sub (Nat.succ s.length) t.length) 0 with | some i => Int.ofNat i | none => -1)) w1 := by
  subst hw
  have hs : (⟨⟨s⟩⟩ : ByteArray).size = s.length := by simp [ByteArray.size]
  have ht : (⟨⟨t⟩⟩ : ByteArray).size = t.length := by simp [ByteArray.size]
  have hm : Extern.BytealgIndex.maxLen.run P w1 = .ok (Int.ofNat mlen) w1 := by
    simp only [Extern.BytealgIndex.maxLen, globalAddr, Sem.run_bind, run_program, Result.andThen_ok, hx, Sem.run_pure, run_load]
    rw [show (⟨mx, 0, none⟩ : Addr) = ⟨mx, 0 + 0, none⟩ from rfl, hu]
    rfl
  show (Extern.BytealgIndex.index #[.string ⟨⟨s⟩⟩, .string ⟨⟨t⟩⟩]).run P w1 = _
  have hdef : Extern.BytealgIndex.index #[.string ⟨⟨s⟩⟩, .string ⟨⟨t⟩⟩] = (do
    let a ← Extern.Bytes.bytesOf (.string ⟨⟨s⟩⟩)
    let b ← Extern.Bytes.bytesOf (.string ⟨⟨t⟩⟩)
    if b.size < 2 || (b.size : Int) > (← Extern.BytealgIndex.maxLen) then
      unsupported (.noEntry "extern/internal/bytealg.Index.length")
    if a.size ≥ 2 ^ 32 - 15 then
      unsupported (.noEntry "extern/internal/bytealg.Index: a haystack of 2^32 - 15 bytes or more")
    match (List.range (a.size + 1 - b.size)).find? fun i => a.extract i (i + b.size) == b with
    | some i => pure (goInt i)
    | none => pure (goInt (-1))) := rfl
  rw [hdef]
  have e1 : (decide (t.length < 2) || decide ((t.length : Int) > Int.ofNat mlen)) = false := by
    simp only [Bool.or_eq_false_iff, decide_eq_false_iff_not]
    constructor
    · omega
    · intro h; have : (t.length : Int) > (mlen : Int) := h; omega
  simp only [Extern.Bytes.bytesOf, Sem.run_bind, Sem.run_pure, Result.andThen_ok, hs, ht, hm, e1, Bool.false_eq_true, if_false, if_neg (show ¬ (s.length ≥ 2 ^ 32 - 15) by omega)]
  have e2 : (List.range (s.length + 1 - t.length)).find? (fun i => (⟨⟨s⟩⟩ : ByteArray).extract i (i + t.length) == (⟨⟨t⟩⟩ : ByteArray)) = subAt s t (Nat.sub (Nat.succ s.length) t.length) 0 := by
    rw [subAt_spec, List.range_eq_range']
    congr 1
    funext i
    exact extract_beq s t i
  rw [e2]
  cases subAt s t (Nat.sub (Nat.succ s.length) t.length) 0 <;> rfl
theorem impl_run {E : Env} {f : FuncId} {e : Ext} (hX : XF E f e) {args : List AV} {v : AV} {st : St} (h : extV st E.mx e args = .ok v) {ps rs : Array TypeId} {N : Nat → Prop} {ρ : Rho} {W w : World} {vs : Array Value} (hM : MR N ρ E.ro st W w) (hg : Gl ρ E.gl) (hv : VRs ρ args vs.toList) :
    ∃ q, (impl e ps rs vs).run E.P w = .ok q w ∧ VR ρ v q := by
  have a1 : ∀ {x : AV}, args = [x] → ∃ q, vs = #[q] ∧ VR ρ x q := by
    intro x hx
    rw [hx] at hv
    generalize hm : vs.toList = m at hv
    cases hv with | cons _ q _ _ h2 h3 =>
    cases h3
    exact ⟨q, by apply Array.ext'; rw [hm], h2⟩
  have a2 : ∀ {x y : AV}, args = [x, y] → ∃ q r, vs = #[q, r] ∧ VR ρ x q ∧ VR ρ y r := by
    intro x y hx
    rw [hx] at hv
    generalize hm : vs.toList = m at hv
    cases hv with | cons _ q _ _ h2 h3 =>
    cases h3 with | cons _ r _ _ h4 h5 =>
    cases h5
    exact ⟨q, r, by apply Array.ext'; rw [hm], h2, h4⟩
  unfold extV at h
  split at h
  · obtain ⟨q, r, rfl, h1, h2⟩ := a2 rfl
    cases h1; cases h2
    split at h
    · rename_i hb
      have hb := blt_true hb
      cases h
      rename_i s b _ _
      have h3 : (impl .indexByte ps rs #[.string ⟨⟨s⟩⟩, .int .u8 (Int.ofNat b)]).run E.P w = _ := Go.Lib.run_indexByteString (P := E.P) ⟨⟨s⟩⟩ (Int.ofNat b) w
      refine ⟨_, h3, ?_⟩
      rw [byteAt_spec _ hb]
      simp only [Int.ofNat_eq_natCast, Int.toNat_natCast, Nat.toUInt8_eq]
      have : ∀ x : Int, (if x = -1 then -1 else x + (0 : Nat)) = x := by intro x; split <;> simp_all
      rw [this]
      exact .int _ _
    · cases h
  · obtain ⟨q, r, rfl, h1, h2⟩ := a2 rfl
    cases h1; cases h2
    split at h
    case h_2 => cases h
    rename_i k mlen hcell
    split at h
    case h_2 => cases h
    rename_i c1 c2 c3
    cases h
    have c1 := ble_true c1
    have c2 := ble_true c2
    have c3 := ble_true c3
    obtain ⟨hx1, hx2⟩ := hX.mx rfl
    obtain ⟨n, hn⟩ := hg _ hx1
    obtain ⟨u, hu, hur⟩ := hM.cell hn hcell
    cases hur
    refine ⟨_, indexStr_run hx2 hu c1 c2 c3 w rfl, ?_⟩
    unfold place
    generalize subAt _ _ _ 0 = r0
    cases r0 <;> exact .int _ _
  · obtain ⟨q, r, rfl, h1, h2⟩ := a2 rfl
    cases h1; cases h2
    split at h
    · rename_i hb
      have hb := blt_true hb
      cases h
      rename_i s b _ _
      have h3 : (impl .count ps rs #[.string ⟨⟨s⟩⟩, .int .u8 (Int.ofNat b)]).run E.P w = _ := Go.Lib.run_countString (P := E.P) ⟨⟨s⟩⟩ (Int.ofNat b) w
      refine ⟨_, h3, ?_⟩
      rw [countA_spec _ hb]
      simp only [Int.ofNat_eq_natCast, Int.toNat_natCast, Nat.toUInt8_eq, Nat.add_zero]
      exact .int _ _
    · cases h
  · obtain ⟨q, rfl, h1⟩ := a1 rfl
    cases h; cases h1
    exact ⟨_, rfl, .int _ _⟩
  · obtain ⟨q, rfl, h1⟩ := a1 rfl
    cases h; cases h1
    exact ⟨_, rfl, .flt _ _⟩
  · obtain ⟨q, rfl, h1⟩ := a1 rfl
    cases h; cases h1
    exact ⟨_, rfl, .int _ _⟩
  · obtain ⟨q, rfl, h1⟩ := a1 rfl
    cases h; cases h1
    exact ⟨_, rfl, .flt _ _⟩
  · obtain ⟨q, rfl, h1⟩ := a1 rfl
    cases h
    exact ⟨_, rfl, h1⟩
  · cases h
theorem noZero_run {E : Env} {te : TypeId} {args : List AV} {v : AV} {st st' : St} (h : extM st te args = .ok (v, st')) {ps : Array TypeId} {t : TypeId} (ht : E.P.underlying t = some (.slice te)) {N : Nat → Prop} {ρ : Rho} {W w : World} {vs : Array Value} (hM : MR N ρ E.ro st W w) (hv : VRs ρ args vs.toList) :
    ∃ q w' ρ', (impl (.noZero te) ps #[t] vs).run E.P w = .ok q w' ∧ ρ.le ρ' ∧ MR N ρ' E.ro st' W w' ∧ VR ρ' v q := by
  unfold extM at h
  split at h
  case h_2 => cases h
  rename_i n
  split at h
  case h_2 => cases h
  rename_i hn
  have hn := ble_true hn
  cases h
  generalize hm : vs.toList = m at hv
  cases hv with | cons _ q _ _ h2 h3 =>
  cases h3
  cases h2
  obtain rfl : vs = #[.int .i64 (Int.ofNat n)] := by apply Array.ext'; rw [hm]
  obtain ⟨cs, h4, h5, _⟩ := Lib.run_makeNoZero (P := E.P) w ps t te ht n (by omega)
  obtain ⟨ρ', a1, a2, a3⟩ := hM.rowC (cs := .nil) (k := 0) (e := te) (cl := st.next) (rel := 0) (en := 0) (ms := []) (Nat.le_refl _) (Nat.le_refl _)
    (fun j cs' n' e' fz' rel' hj => (no_old_class hM hj).elim) (c := cs) (fun i a hi => by cases hi) (w.drawn + 1 + 1)
  refine ⟨_, _, ρ', h4, a1, a2, .sl _ _ _ _ _ _ _ a3 ⟨?_, .inr (by simp)⟩ h5⟩
  simp
theorem clone_run {E : Env} {args : List AV} {v : AV} {st st' : St} (h : extC st args = .ok (v, st')) {ps rs : Array TypeId} {N : Nat → Prop} {ρ : Rho} {W w : World} {vs : Array Value} (hM : MR N ρ E.ro st W w) (hv : VRs ρ args vs.toList) :
    ∃ q w' ρ', (impl .clone ps rs vs).run E.P w = .ok q w' ∧ ρ.le ρ' ∧ MR N ρ' E.ro st' W w' ∧ VR ρ' v q := by
  unfold extC at h
  split at h
  case h_2 => cases h
  rename_i t id
  split at h
  case h_2 => cases h
  rename_i pr es hg
  cases h
  generalize hm : vs.toList = m at hv
  cases hv with | cons _ q _ _ h2 h3 =>
  cases h3
  cases h2 with | iface _ _ x hx =>
  cases hx with | map _ L hL =>
  obtain rfl : vs = #[.iface t (.map (some L.b))] := by apply Array.ext'; rw [hm]
  obtain ⟨o, ho, arr, clock, rfl, harr, _, hpr⟩ := hM.obs _ L _ hL hg
  have hgo := run_getObj (P := E.P) ho (by intro c e f hh; cases hh)
  obtain ⟨ρ', h1, h2, h3⟩ := hM.make (ob := .map pr es) (o := .map arr clock) (n := 0) (cl0_map _ _) (fun ρ' hle => ⟨arr, clock, rfl, harr.mono hle, rfl, hpr⟩)
  refine ⟨.iface t (.map (some w.heap.size)), _, ρ', ?_, h1, h2, .iface _ _ _ (.map _ _ h3)⟩
  show (Extern.MapsClone.clone #[.iface t (.map (some L.b))]).run E.P w = _
  have hdef : Extern.MapsClone.clone #[.iface t (.map (some L.b))] = (do
    let .map entries clock ← getObj L.b | stuck "maps.clone: a map expected"
    pure (.iface t (.map (some (← newObj (.map entries clock)))))) := rfl
  rw [hdef]
  simp only [Sem.run_bind, hgo, Result.andThen_ok]
  simp
theorem Fit.of {E : Env} (hmix : E.P.follows .mixedOrders = true) (hX : ∀ f e, E.ext f = some e → XF E f e) (hn : ∀ (f : FuncId) (fn : Func), E.P.funcs[f]? = some fn → fn.body.isSome = true → (fn.name == "runtime.NumGoroutine") = false)
    (hfast : ∀ f F, E.fast f = some F → ∀ call, SCall E call → ∀ args st en st', F call args st = .ok (en, st') → ∀ (N : Nat → Prop) (ρ : Rho) (W w : World) (vs : Array Value), MR N ρ E.ro st W w → Gl ρ E.gl → VRs ρ args vs.toList → CallsTo E.P f vs w (EnR N ρ E.ro W en st')) : Fit E := by
  refine ⟨draw_sound E hmix, fun f e he args v st st' h N ρ W w vs hM hg hv => ?_, hn, hfast⟩
  have hx := hX f e he
  obtain ⟨fn, h1, h2, h3, h4, h5, h9⟩ := hx.fn
  by_cases hz : ∃ te, e = .noZero te
  · obtain ⟨te, rfl⟩ := hz
    obtain ⟨s, hs, ht⟩ := h9 te rfl
    rw [hs] at h5
    obtain ⟨q, w', ρ', h6, h7⟩ := noZero_run (ps := fn.params) h ht hM hv
    exact ⟨q, w', ρ', by rw [run_callFunc_extern h1 h2 h3 h4 h5, h6]; rfl, h7⟩
  by_cases hc : e = .clone
  · subst hc
    obtain ⟨q, w', ρ', h6, h7⟩ := clone_run (ps := fn.params) (rs := fn.resultTypes) h hM hv
    exact ⟨q, w', ρ', by rw [run_callFunc_extern h1 h2 h3 h4 h5, h6]; rfl, h7⟩
  · have h' : (extV st E.mx e args).bind (fun v => .ok (v, st)) = .ok (v, st') := by
      unfold extA at h
      split at h
      · exact absurd ⟨_, rfl⟩ hz
      · exact absurd rfl hc
      · exact h
    obtain ⟨v2, hv2, hst⟩ := Rs.bind_ok h'
    cases hst
    obtain ⟨q, h6, h7⟩ := impl_run hx hv2 (ps := fn.params) (rs := fn.resultTypes) hM hg hv
    exact ⟨q, w, ρ, by rw [run_callFunc_extern h1 h2 h3 h4 h5, h6]; rfl, Rho.le_refl _, hM, h7⟩
end Go.Proofs.YtjifnmilimdfdaaGreatDoor.Ab
