import Derived.Test.YtnipmfaikiaipaaGreatDoorAbB
import Derived.Lib.Bytealg
import Derived.Lib.MakeNoZero
import Derived.Lib.LaidU8
import Derived.OpenShut
import Derived.ChangeStays
import Derived.ChangeSame
import Derived.ProofKit
import Derived.Deep.DeepHandedRow
import Derived.Lay
/- Functions without a body. -/
set_option linter.unusedVariables false
set_option linter.unusedSimpArgs false
set_option linter.unnecessarySimpa false
namespace Go.Proofs.YtnipmfaikiaipaaGreatDoor.Ab
open Go Go.RowKit

def impl (e : Ext) (ps rs : Array TypeId) : Array Value → Sem Value := match e with
  | .noZero _ => Extern.BytealgMakeNoZero.makeNoZero ps rs
  | .indexByte => Extern.BytealgIndexByte.indexByte
  | .indexStr => Extern.BytealgIndex.index
  | .count => Extern.BytealgCount.count
  | .f64bits => Extern.MathFloatBits.float64bits
  | .f64of => Extern.MathFloatBits.float64frombits
  | .f32bits => Extern.MathFloatBits.float32bits
  | .f32of => Extern.MathFloatBits.float32frombits
  | .same => Extern.AbiNoEscape.same
structure XF (E : Env) (f : FuncId) (e : Ext) : Prop where
  fn : ∃ fn, E.P.funcs[f]? = some fn ∧ (fn.name == "runtime.NumGoroutine") = false ∧ fn.body.isNone = true ∧ Extern.findNext fn = none ∧ Extern.find fn = some (impl e fn.params fn.resultTypes) ∧ (∀ t, e = .noZero t → ∃ s, fn.resultTypes = #[s] ∧ E.P.underlying s = some (.slice t))
  mx : e = .indexStr → E.mx < E.gl ∧ E.P.globals.findIdx? (·.name == "internal/bytealg.MaxLen") = some E.mx
theorem byteAt_spec (b : Nat) (hb : b < 256) : ∀ (s : List UInt8) (k : Nat), place (byteAt s b k) = .int .i64 (if Go.Lib.indexByte s (UInt8.ofNat b) = -1 then -1 else Go.Lib.indexByte s (UInt8.ofNat b) + k)
  | [], k => by simp [byteAt, place, Go.Lib.indexByte]
  | x :: s, k => by
    have ih := byteAt_spec b hb s (k + 1)
    have hge := Go.Lib.indexByte_ge s (UInt8.ofNat b)
    simp only [byteAt, Go.Lib.indexByte]
    cases hx : Nat.beq x.toNat b with
    | true =>
      have hx := beq_true hx
      have : x = UInt8.ofNat b := by rw [← hx]; simp
      subst this
      simp [place]
    | false =>
      have hx := beq_false hx
      have hne : (x == UInt8.ofNat b) = false := by
        rw [beq_eq_false_iff_ne]
        intro e
        apply hx
        rw [e]
        simp [Nat.mod_eq_of_lt hb]
      simp only [hne, Bool.false_eq_true, if_false]
      rw [ih]
      congr 1
      simp only [beq_iff_eq]
      split
      · rfl
      · rename_i h1
        rw [if_neg (by omega)]
        omega
theorem countA_spec (b : Nat) (hb : b < 256) : ∀ (s : List UInt8) (k : Nat), countA s b k = Go.Lib.countByte s (UInt8.ofNat b) + k
  | [], k => by simp [countA, Go.Lib.countByte]
  | x :: s, k => by
    simp only [countA, Go.Lib.countByte, List.count_cons]
    cases hx : Nat.beq x.toNat b with
    | true =>
      have hx := beq_true hx
      have : x = UInt8.ofNat b := by rw [← hx]; simp
      subst this
      simp only [countA_spec b hb s, Go.Lib.countByte]
      simp
      omega
    | false =>
      have hx := beq_false hx
      have hne : (x == UInt8.ofNat b) = false := by
        rw [beq_eq_false_iff_ne]
        intro e
        apply hx
        rw [e]
        simp [Nat.mod_eq_of_lt hb]
      simp only [countA_spec b hb s, Go.Lib.countByte, hne]
      simp
theorem subAt_spec (s sub : List UInt8) : ∀ (n k : Nat), subAt s sub n k = ((List.range' k n).find? fun i => ((s.drop i).take sub.length == sub))
  | 0, k => rfl
  | n + 1, k => by
    simp only [subAt, List.range'_succ, List.find?_cons, eqBytes_iff]
    cases (List.take sub.length (List.drop k s) == sub) with
    | true => rfl
    | false => exact subAt_spec s sub n (k + 1)
theorem extract_beq (s t : List UInt8) (i : Nat) : ((⟨⟨s⟩⟩ : ByteArray).extract i (i + t.length) == (⟨⟨t⟩⟩ : ByteArray)) = ((s.drop i).take t.length == t) := by
  have h1 : (⟨⟨s⟩⟩ : ByteArray).extract i (i + t.length) = ⟨⟨(s.drop i).take t.length⟩⟩ := by
    apply ByteArray.ext
    rw [ByteArray.data_extract]
    apply Array.ext'
    simp
  rw [h1]
  simp [beq_toListBytes, ByteArray.toList_eq]
theorem indexStr_run {ps rs : Array TypeId} {P : Program} {mx mlen : Nat} {k : IntKind} {s t : List UInt8} (hx : P.globals.findIdx? (·.name == "internal/bytealg.MaxLen") = some mx) {w : World} (hu : w.cell? ⟨mx, 0 + 0, none⟩ = some (.int k (Int.ofNat mlen))) (c1 : 2 ≤ t.length) (c2 : t.length ≤ mlen) (c3 : s.length ≤ 100000)
    (w1 : World) (hw : w1 = w) : (impl .indexStr ps rs #[.string ⟨⟨s⟩⟩, .string ⟨⟨t⟩⟩]).run P w1 = .ok (.int .i64 (match subAt s t (Nat.sub (Nat.succ s.length) t.length) 0 with | some i => Int.ofNat i | none => -1)) w1 := by
  subst hw
  have hs : (⟨⟨s⟩⟩ : ByteArray).size = s.length := by simp [ByteArray.size]
  have ht : (⟨⟨t⟩⟩ : ByteArray).size = t.length := by simp [ByteArray.size]
  have hm : Extern.BytealgIndex.maxLen.run P w1 = .ok (Int.ofNat mlen) w1 := by
    simp only [Extern.BytealgIndex.maxLen, globalAddr, Sem.run_bind, run_program, Result.andThen_ok, hx, Sem.run_pure, run_load]
    rw [show (⟨mx, 0, none⟩ : Addr) = ⟨mx, 0 + 0, none⟩ from rfl, hu]
    rfl
  show (Extern.BytealgIndex.index #[.string ⟨⟨s⟩⟩, .string ⟨⟨t⟩⟩]).run P w1 = _
  have hdef : Extern.BytealgIndex.index #[.string ⟨⟨s⟩⟩, .string ⟨⟨t⟩⟩] = (do
    let a ← Extern.Bytes.bytesOf (.string ⟨⟨s⟩⟩)
    let b ← Extern.Bytes.bytesOf (.string ⟨⟨t⟩⟩)
    if b.size < 2 || (b.size : Int) > (← Extern.BytealgIndex.maxLen) then
      unsupported (.noEntry "extern/internal/bytealg.Index.length")
    if a.size ≥ 2 ^ 32 - 15 then
      unsupported (.noEntry "extern/internal/bytealg.Index: a haystack of 2^32 - 15 bytes or more")
    match (List.range (a.size + 1 - b.size)).find? fun i => a.extract i (i + b.size) == b with
    | some i => pure (goInt i)
    | none => pure (goInt (-1))) := rfl
  rw [hdef]
  have e1 : (decide (t.length < 2) || decide ((t.length : Int) > Int.ofNat mlen)) = false := by
    simp only [Bool.or_eq_false_iff, decide_eq_false_iff_not]
    constructor
    · omega
    · intro h; have : (t.length : Int) > (mlen : Int) := h; omega
  simp only [Extern.Bytes.bytesOf, Sem.run_bind, Sem.run_pure, Result.andThen_ok, hs, ht, hm, e1, Bool.false_eq_true, if_false, if_neg (show ¬ (s.length ≥ 2 ^ 32 - 15) by omega)]
  have e2 : (List.range (s.length + 1 - t.length)).find? (fun i => (⟨⟨s⟩⟩ : ByteArray).extract i (i + t.length) == (⟨⟨t⟩⟩ : ByteArray)) = subAt s t (Nat.sub (Nat.succ s.length) t.length) 0 := by
    rw [subAt_spec, List.range_eq_range']
    congr 1
    funext i
    exact extract_beq s t i
  rw [e2]
  cases subAt s t (Nat.sub (Nat.succ s.length) t.length) 0 <;> rfl
theorem impl_run {E : Env} {f : FuncId} {e : Ext} (hX : XF E f e) {args : List AV} {v : AV} {st : St} (h : extV st E.mx e args = .ok v) {ps rs : Array TypeId} {N : Nat → Prop} {ρ : Rho} {W w : World} {vs : Array Value} (hM : MR N ρ E.ro st W w) (hg : Gl ρ E.gl) (hv : VRs ρ args vs.toList) :
    ∃ q, (impl e ps rs vs).run E.P w = .ok q w ∧ VR ρ v q := by
  have a1 : ∀ {x : AV}, args = [x] → ∃ q, vs = #[q] ∧ VR ρ x q := by
    intro x hx
    rw [hx] at hv
    generalize hm : vs.toList = m at hv
    cases hv with | cons _ q _ _ h2 h3 =>
    cases h3
    exact ⟨q, by apply Array.ext'; rw [hm], h2⟩
  have a2 : ∀ {x y : AV}, args = [x, y] → ∃ q r, vs = #[q, r] ∧ VR ρ x q ∧ VR ρ y r := by
    intro x y hx
    rw [hx] at hv
    generalize hm : vs.toList = m at hv
    cases hv with | cons _ q _ _ h2 h3 =>
    cases h3 with | cons _ r _ _ h4 h5 =>
    cases h5
    exact ⟨q, r, by apply Array.ext'; rw [hm], h2, h4⟩
  unfold extV at h
  split at h
  · obtain ⟨q, r, rfl, h1, h2⟩ := a2 rfl
    cases h1; cases h2
    split at h
    · rename_i hb
      have hb := blt_true hb
      cases h
      rename_i s b _ _
      have h3 : (impl .indexByte ps rs #[.string ⟨⟨s⟩⟩, .int .u8 (Int.ofNat b)]).run E.P w = _ := Go.Lib.run_indexByteString (P := E.P) ⟨⟨s⟩⟩ (Int.ofNat b) w
      refine ⟨_, h3, ?_⟩
      rw [byteAt_spec _ hb]
      simp only [Int.ofNat_eq_natCast, Int.toNat_natCast, Nat.toUInt8_eq]
      have : ∀ x : Int, (if x = -1 then -1 else x + (0 : Nat)) = x := by intro x; split <;> simp_all
      rw [this]
      exact .int _ _
    · cases h
  · obtain ⟨q, r, rfl, h1, h2⟩ := a2 rfl
    cases h1; cases h2
    split at h
    case h_2 => cases h
    rename_i k mlen hcell
    split at h
    case h_2 => cases h
    rename_i c1 c2 c3
    cases h
    have c1 := ble_true c1
    have c2 := ble_true c2
    have c3 := ble_true c3
    obtain ⟨hx1, hx2⟩ := hX.mx rfl
    obtain ⟨n, hn⟩ := hg _ hx1
    obtain ⟨u, hu, hur⟩ := hM.cell hn hcell
    cases hur
    refine ⟨_, indexStr_run hx2 hu c1 c2 c3 w rfl, ?_⟩
    unfold place
    generalize subAt _ _ _ 0 = r0
    cases r0 <;> exact .int _ _
  · obtain ⟨q, r, rfl, h1, h2⟩ := a2 rfl
    cases h1; cases h2
    split at h
    · rename_i hb
      have hb := blt_true hb
      cases h
      rename_i s b _ _
      have h3 : (impl .count ps rs #[.string ⟨⟨s⟩⟩, .int .u8 (Int.ofNat b)]).run E.P w = _ := Go.Lib.run_countString (P := E.P) ⟨⟨s⟩⟩ (Int.ofNat b) w
      refine ⟨_, h3, ?_⟩
      rw [countA_spec _ hb]
      simp only [Int.ofNat_eq_natCast, Int.toNat_natCast, Nat.toUInt8_eq, Nat.add_zero]
      exact .int _ _
    · cases h
  · obtain ⟨q, rfl, h1⟩ := a1 rfl
    cases h; cases h1
    exact ⟨_, rfl, .int _ _⟩
  · obtain ⟨q, rfl, h1⟩ := a1 rfl
    cases h; cases h1
    exact ⟨_, rfl, .flt _ _⟩
  · obtain ⟨q, rfl, h1⟩ := a1 rfl
    cases h; cases h1
    exact ⟨_, rfl, .int _ _⟩
  · obtain ⟨q, rfl, h1⟩ := a1 rfl
    cases h; cases h1
    exact ⟨_, rfl, .flt _ _⟩
  · obtain ⟨q, rfl, h1⟩ := a1 rfl
    cases h
    exact ⟨_, rfl, h1⟩
  · cases h
theorem noZero_run {E : Env} {te : TypeId} {args : List AV} {v : AV} {st st' : St} (h : extM st te args = .ok (v, st')) {ps : Array TypeId} {t : TypeId} (ht : E.P.underlying t = some (.slice te)) {N : Nat → Prop} {ρ : Rho} {W w : World} {vs : Array Value} (hM : MR N ρ E.ro st W w) (hv : VRs ρ args vs.toList) :
    ∃ q w' ρ', (impl (.noZero te) ps #[t] vs).run E.P w = .ok q w' ∧ ρ.le ρ' ∧ MR N ρ' E.ro st' W w' ∧ VR ρ' v q := by
  unfold extM at h
  split at h
  case h_2 => cases h
  rename_i n
  split at h
  case h_2 => cases h
  rename_i hn
  have hn := ble_true hn
  cases h
  generalize hm : vs.toList = m at hv
  cases hv with | cons _ q _ _ h2 h3 =>
  cases h3
  cases h2
  obtain rfl : vs = #[.int .i64 (Int.ofNat n)] := by apply Array.ext'; rw [hm]
  obtain ⟨cs, h4, h5, _⟩ := Lib.run_makeNoZero (P := E.P) w ps t te ht n (by omega)
  obtain ⟨ρ', a1, a2, a3⟩ := hM.rowC (cs := .nil) (k := 0) (e := te) (cl := st.next) (rel := 0) (en := 0) (ms := []) (Nat.le_refl _) (Nat.le_refl _)
    (fun j cs' n' e' fz' rel' hj => (no_old_class hM hj).elim) (c := cs) (fun i a hi => by cases hi) (w.drawn + 1 + 1)
  refine ⟨_, _, ρ', h4, a1, a2, .sl _ _ _ _ _ _ _ a3 ⟨?_, .inr (by simp)⟩ h5⟩
  simp
theorem Fit.of {E : Env} (hmix : E.P.follows .mixedOrders = true) (hX : ∀ f e, E.ext f = some e → XF E f e) (hn : ∀ (f : FuncId) (fn : Func), E.P.funcs[f]? = some fn → fn.body.isSome = true → (fn.name == "runtime.NumGoroutine") = false)
    (hfast : ∀ f F, E.fast f = some F → ∀ call, SCall E call → ∀ args st en st', F call args st = .ok (en, st') → ∀ (N : Nat → Prop) (ρ : Rho) (W w : World) (vs : Array Value), MR N ρ E.ro st W w → Gl ρ E.gl → VRs ρ args vs.toList → CallsTo E.P f vs w (EnR N ρ E.ro W en st')) : Fit E := by
  refine ⟨draw_sound E hmix, fun f e he args v st st' h N ρ W w vs hM hg hv => ?_, hn, hfast⟩
  have hx := hX f e he
  obtain ⟨fn, h1, h2, h3, h4, h5, h9⟩ := hx.fn
  by_cases hz : ∃ te, e = .noZero te
  · obtain ⟨te, rfl⟩ := hz
    obtain ⟨s, hs, ht⟩ := h9 te rfl
    rw [hs] at h5
    obtain ⟨q, w', ρ', h6, h7⟩ := noZero_run (ps := fn.params) h ht hM hv
    exact ⟨q, w', ρ', by rw [run_callFunc_extern h1 h2 h3 h4 h5, h6]; rfl, h7⟩
  · have h' : (extV st E.mx e args).bind (fun v => .ok (v, st)) = .ok (v, st') := by
      unfold extA at h
      split at h
      · exact absurd ⟨_, rfl⟩ hz
      · exact h
    obtain ⟨v2, hv2, hst⟩ := Rs.bind_ok h'
    cases hst
    obtain ⟨q, h6, h7⟩ := impl_run hx hv2 (ps := fn.params) (rs := fn.resultTypes) hM hg hv
    exact ⟨q, w, ρ, by rw [run_callFunc_extern h1 h2 h3 h4 h5, h6]; rfl, Rho.le_refl _, hM, h7⟩
end Go.Proofs.YtnipmfaikiaipaaGreatDoor.Ab
/- The first state: what the listed package-level variables give; and what a run of the reading says of a call. -/
set_option linter.unusedVariables false
set_option linter.unusedSimpArgs false
set_option linter.unnecessarySimpa false
namespace Go.Proofs.YtnipmfaikiaipaaGreatDoor.Ab
open Go Go.RowKit

/-- The cells of what reads as a datum (what it refers to is not told). -/
def flatAll (f : TypeId → DataW Unit → Option (List AV)) (e : TypeId) (s : Nat) (l : List (DataW Unit)) : Option (List AV) := match l with
  | [] => some []
  | d :: r => match f e d, flatAll f e s r with
    | some a, some b => match Nat.beq a.length s with
      | true => some (a ++ b)
      | false => none
    | _, _ => none
def flatEach (f : TypeId → DataW Unit → Option (List AV)) (P : Program) (l : List Field) : List (DataW Unit) → Nat → Option (List AV) := match l with
  | [] => fun ds _ => match ds with
    | [] => some []
    | _ => none
  | x :: l => fun ds off => match ds with
    | [] => none
    | d :: r => match f x.type d, flatEach f P l r (Nat.add off (P.cellsOf x.type)) with
      | some a, some b => match Nat.beq a.length (P.cellsOf x.type), Nat.beq x.offset off with
        | true, true => some (a ++ b)
        | _, _ => none
      | _, _ => none
def flatD (P : Program) (n : Nat) : TypeId → DataW Unit → Option (List AV) := match n with
  | 0 => fun _ _ => none
  | n + 1 => fun t d => match P.underlying t with
    | some (.struct fs) => match d with
      | .agg ds => match flatEach (flatD P n) P fs.toList ds 0 with
        | some l => match Nat.beq l.length (P.cellsOf t) with
          | true => some l
          | false => none
        | none => none
      | _ => none
    | some (.array m e) => match d with
      | .agg ds => match flatAll (flatD P n) e (P.cellsOf e) ds with
        | some l => match Nat.beq l.length (P.cellsOf t), Nat.beq ds.length m with
          | true, true => some l
          | _, _ => none
        | none => none
      | _ => none
    | some .bool => match d with
      | .lit (.bool b) => some [.bool b]
      | _ => none
    | some (.int k) => match d with
      | .lit (.int _ n) => some [.int k n]
      | _ => none
    | some (.float k) => match d with
      | .lit (.float _ n) => some [.flt k n]
      | _ => none
    | some .string => match d with
      | .lit (.string s) => some [.str s]
      | _ => none
    | some (.pointer _) => some [.any]
    | some (.slice _) => some [.any]
    | some (.interface _) => some [.any]
    | _ => none
section
variable {P : Program} {w : World} {base : Nat} {sp : Nat → Bool} {held : Bool} {ρ : Rho}
theorem VRs.take_add {l l' : List AV} {cs : List Value} {a b : Nat} (h : VRs ρ l (cs.take a)) (h' : VRs ρ l' ((cs.drop a).take b)) : VRs ρ (l ++ l') (cs.take (a + b)) := by
  rw [List.take_add]
  exact h.append h'
theorem flatAll_spec {f : TypeId → DataW Unit → Option (List AV)} {e : TypeId} {s : Nat} {cs : List Value} : ∀ {ds : List (DataW Unit)} {l : List AV} (k : Nat), flatAll f e s ds = some l →
    (∀ (i : Nat) (d : DataW Unit) (a : List AV), ds[i]? = some d → f e d = some a → VRs ρ a ((cs.drop ((k + i) * s)).take s)) → VRs ρ l ((cs.drop (k * s)).take (ds.length * s)) ∧ l.length = ds.length * s
  | [], l, k, h, hp => by cases h; simp; exact .nil
  | d :: r, l, k, h, hp => by
    simp only [flatAll] at h
    split at h
    case h_2 => cases h
    rename_i a b ha hb
    split at h
    case h_2 => cases h
    rename_i hl
    have hl := beq_true hl
    cases h
    obtain ⟨h1, h2⟩ := flatAll_spec (k + 1) hb (fun i d' a' h1 h2 => by have := hp (i + 1) d' a' (by simpa using h1) h2; rwa [show k + 1 + i = k + (i + 1) from by omega])
    have h0 := hp 0 d a rfl ha
    have e1 : (List.length (d :: r)) * s = s + r.length * s := by simp [Nat.add_mul]; omega
    refine ⟨?_, by simp [hl, h2, Nat.add_mul]; omega⟩
    rw [e1]
    refine VRs.take_add (by simpa using h0) ?_
    rw [List.drop_drop]
    rwa [show k * s + s = (k + 1) * s from by rw [Nat.add_mul]; omega]
theorem flatEach_spec {f : TypeId → DataW Unit → Option (List AV)} {cs : List Value} : ∀ {fs : List Field} {ds : List (DataW Unit)} {l : List AV} {off : Nat}, flatEach f P fs ds off = some l →
    (∀ (i : Nat) (x : Field) (d : DataW Unit) (a : List AV), fs[i]? = some x → ds[i]? = some d → f x.type d = some a → VRs ρ a ((cs.drop x.offset).take (P.cellsOf x.type))) → VRs ρ l ((cs.drop off).take l.length)
  | [], ds, l, off, h, hp => by
    unfold flatEach at h
    cases ds with
    | nil => cases h; simp; exact .nil
    | cons _ _ => cases h
  | x :: fs, ds, l, off, h, hp => by
    unfold flatEach at h
    cases ds with
    | nil => cases h
    | cons d r =>
      simp only at h
      split at h
      case h_2 => cases h
      rename_i a b ha hb
      split at h
      case h_2 => cases h
      rename_i hl ho
      have hl := beq_true hl
      have ho := beq_true ho
      cases h
      have h1 := flatEach_spec hb (fun i x' d' a' h1 h2 h3 => hp (i + 1) x' d' a' (by simpa using h1) (by simpa using h2) h3)
      have h0 := hp 0 x d a rfl rfl ha
      rw [List.length_append, hl]
      refine VRs.take_add (by rw [← ho]; exact h0) ?_
      rw [List.drop_drop]
      exact h1
theorem flatD_spec : ∀ {n : Nat} {t : TypeId} {d : DataW Unit} {l : List AV} {fuel : Nat} {cs : List Value} {p : List MemPlace}, flatD P n t d = some l →
    DataW.trod (fun _ => ()) P w base sp held fuel t cs = some (d, p) → VRs ρ l cs
  | 0, _, _, _, _, _, _, h, _ => by cases h
  | n + 1, t, d, l, fuel, cs, p, h, ht => by
    simp only [flatD] at h
    split at h
    · rename_i fs hu
      cases d <;> try (cases h; done)
      rename_i ds
      simp only at h
      split at h
      case h_2 => cases h
      rename_i l' hl'
      split at h
      case h_2 => cases h
      rename_i hlen
      have hlen := beq_true hlen
      cases h
      obtain ⟨xs, m, rfl, hx, hc, hxl, hall⟩ := DataW.trod_struct hu ht
      have hds : ds = xs.map (·.1) := by have := congrArg Prod.fst hx; simpa using this
      have := flatEach_spec (ρ := ρ) (cs := cs) hl' (fun i x d' a h1 h2 h3 => by
        have h4 := hall i x (by simpa using h1)
        rw [hds] at h2
        simp only [List.getElem?_map, Option.map_eq_some_iff] at h2
        obtain ⟨y, hy, rfl⟩ := h2
        rw [hy] at h4
        exact flatD_spec (p := y.2) h3 h4)
      rw [List.drop_zero, hlen, ← hc, List.take_length] at this
      exact this
    · rename_i m e hu
      cases d <;> try (cases h; done)
      rename_i ds
      simp only at h
      split at h
      case h_2 => cases h
      rename_i l' hl'
      split at h
      case h_2 => cases h
      rename_i hlen hm
      have hlen := beq_true hlen
      have hm := beq_true hm
      cases h
      obtain ⟨xs, q, rfl, hx, hc, hxl, hall⟩ := DataW.trod_array hu ht
      have hds : ds = xs.map (·.1) := by have := congrArg Prod.fst hx; simpa using this
      have := flatAll_spec (ρ := ρ) (cs := cs) 0 hl' (fun i d' a h2 h3 => by
        have hi : i < m := by have := (List.getElem?_eq_some_iff.1 h2).1; omega
        have h4 := hall i hi
        rw [hds] at h2
        simp only [List.getElem?_map, Option.map_eq_some_iff] at h2
        obtain ⟨y, hy, rfl⟩ := h2
        rw [hy] at h4
        rw [Nat.zero_add]
        exact flatD_spec (p := y.2) h3 h4)
      obtain ⟨h1, h2⟩ := this
      rw [← h2, hlen, Nat.zero_mul, List.drop_zero, ← hc, List.take_length] at h1
      exact h1
    · rename_i hu
      obtain ⟨b, rfl, hx⟩ := DataW.trod_bool hu ht
      cases hx
      cases h
      exact .cons _ _ _ _ (.bool _) .nil
    · rename_i k hu
      obtain ⟨z, rfl, hx, _⟩ := DataW.trod_int hu ht
      cases hx
      cases h
      exact .cons _ _ _ _ (.int _ _) .nil
    · rename_i k hu
      cases fuel with
      | zero => simp [DataW.trod] at ht
      | succ m =>
        unfold DataW.trod at ht
        rw [hu] at ht
        split at ht <;> simp_all
        obtain ⟨_, rfl, _⟩ := ht
        cases h
        exact .cons _ _ _ _ (.flt _ _) .nil
    · rename_i hu
      obtain ⟨s, rfl, hx, _⟩ := DataW.trod_string hu ht
      cases hx
      cases h
      refine .cons _ _ _ _ ?_ .nil
      have : s = ⟨⟨s.data.toList⟩⟩ := by cases s; simp
      rw [this]
      exact .str _
    · rename_i e hu
      cases h
      rcases DataW.trod_pointer hu ht with ⟨rfl, _⟩ | ⟨a, _, _, _, _, rfl, _⟩
      · exact .cons _ _ _ _ (.any _ rfl) .nil
      · exact .cons _ _ _ _ (.any _ rfl) .nil
    · rename_i e hu
      cases h
      rcases DataW.trod_slice hu ht with ⟨rfl, _⟩ | ⟨a, _, _, _, _, _, _, rfl, _⟩
      · exact .cons _ _ _ _ (.any _ rfl) .nil
      · exact .cons _ _ _ _ (.any _ rfl) .nil
    · rename_i e hu
      cases h
      cases fuel with
      | zero => simp [DataW.trod] at ht
      | succ m =>
        unfold DataW.trod at ht
        rw [hu] at ht
        split at ht <;> simp_all
        · exact .cons _ _ _ _ (.any _ rfl) .nil
        · exact .cons _ _ _ _ (.any _ rfl) .nil
    · cases h
end
/-- The rows of the listed variables. -/
noncomputable def seedHeap (P : Program) (l : List (String × DataW Unit)) : PT Ob → PT Ob := match l with
  | [] => fun h => h
  | x :: r => fun h => match P.globalNamed x.1 with
    | none => seedHeap P r h
    | some g => match (P.globals[g]?).map (·.type) with
      | none => seedHeap P r h
      | some t => match flatD P 8 t x.2 with
        | none => seedHeap P r h
        | some cs => seedHeap P r (h.set g (.row (PT.lay cs 0 .nil) cs.length t 2 0 0))
theorem seedHeap_get {P : Program} : ∀ {l : List (String × DataW Unit)} {h : PT Ob} {id : Nat} {ob : Ob}, (seedHeap P l h).get id = some ob →
    h.get id = some ob ∨ ∃ x t cs, x ∈ l ∧ P.globalNamed x.1 = some id ∧ (P.globals[id]?).map (·.type) = some t ∧ flatD P 8 t x.2 = some cs ∧ ob = .row (PT.lay cs 0 .nil) cs.length t 2 0 0
  | [], h, id, ob, hg => .inl hg
  | x :: r, h, id, ob, hg => by
    have rest : ∀ {h' : PT Ob}, (seedHeap P r h').get id = some ob → h'.get id = some ob ∨ ∃ x' t cs, x' ∈ x :: r ∧ P.globalNamed x'.1 = some id ∧ (P.globals[id]?).map (·.type) = some t ∧ flatD P 8 t x'.2 = some cs ∧ ob = .row (PT.lay cs 0 .nil) cs.length t 2 0 0 := fun h1 => by
      rcases seedHeap_get h1 with h2 | ⟨y, t, cs, h2, h3⟩
      · exact .inl h2
      · exact .inr ⟨y, t, cs, .tail _ h2, h3⟩
    unfold seedHeap at hg
    split at hg
    · exact rest hg
    · rename_i g h1
      split at hg
      · exact rest hg
      · rename_i t h2
        split at hg
        · exact rest hg
        · rename_i cs h3
          rcases rest hg with h4 | h4
          · rcases PT.get_set h4 with ⟨rfl, rfl⟩ | ⟨_, h5⟩
            · exact .inr ⟨x, t, cs, .head _, h1, h2, h3, rfl⟩
            · exact .inl h5
          · exact .inr h4
/-- ro: so many blocks are not the call's own (the variables first). -/
noncomputable def seed (P : Program) (l : List (String × DataW Unit)) (ro : Nat) (fx : List (SX × Bool)) : St := { heap := seedHeap P l .nil, next := ro, cls := .nil, facts := fx }
/-- Each variable has a row of its type at the start. -/
def rowsOk (P : Program) : Bool := (List.range P.globals.size).all fun g => match ((begin P (fun _ _ => 0) default).world.heap[g]?).bind Obj.row?, P.globals[g]? with
  | some (_, t), some x => Nat.beq t x.type
  | _, _ => false
def rho0 (gl : Nat) (W : World) (σ : Sg) : Rho := ⟨fun id => match Nat.blt id gl with
  | true => match W.heap[id]? with
    | some (.cells c _ _) => some ⟨id, c.size, 0⟩
    | _ => none
  | false => none, σ⟩
theorem rho0_at (gl : Nat) (W : World) (σ : Sg) (id : Nat) : rho0 gl W σ id = match Nat.blt id gl with
  | true => match W.heap[id]? with
    | some (.cells c _ _) => some ⟨id, c.size, 0⟩
    | _ => none
  | false => none := rfl
/-- As seed_MR, at a world whose package-level variables are those of a world that met the list. -/
theorem seed_MR_at {P : Program} {l : List (String × DataW Unit)} {ro : Nat} {W0 W : World} (hk : ∀ g, g < P.globals.size → W.heap[g]? = W0.heap[g]?) {σ : Sg} {fx : List (SX × Bool)} (hfx : ∀ p ∈ fx, (p.1.den σ).bool = p.2) (hl : laidMet P l W0) (hs : W0.ShapedOpen P) (hr : rowsOk P = true) (hro : P.globals.size ≤ ro) :
    MR (fun _ => False) (rho0 P.globals.size W σ) ro (seed P l ro fx) W W ∧ Gl (rho0 P.globals.size W σ) P.globals.size := by
  have hrow : ∀ g, g < P.globals.size → ∃ cs t, W.heap[g]? = some (.cells cs t (0, 0)) ∧ (P.globals[g]?).map (·.type) = some t := by
    intro g hg
    have h1 := List.all_eq_true.1 hr g (List.mem_range.2 hg)
    split at h1
    · rename_i z t x h2 h3
      obtain ⟨cs, h4, _⟩ := hs.1 g z t hg h2
      rw [← hk g hg] at h4
      exact ⟨cs, t, h4, by rw [h3]; simp [beq_true h1]⟩
    · cases h1
  have hρ : ∀ {id : Nat} {L : Loc}, rho0 P.globals.size W σ id = some L → id < P.globals.size ∧ L.b = id ∧ L.base = 0 ∧ ∃ cs t, W.heap[id]? = some (.cells cs t (0, 0)) ∧ L.n = cs.size ∧ (P.globals[id]?).map (·.type) = some t := by
    intro id L h
    rw [rho0_at] at h
    split at h
    · rename_i hlt
      have hlt := blt_true hlt
      obtain ⟨cs, t, h1, h2⟩ := hrow id hlt
      rw [h1] at h
      cases h
      exact ⟨hlt, rfl, rfl, cs, t, h1, rfl, h2⟩
    · cases h
  have hlt : ∀ {id : Nat} {L : Loc}, rho0 P.globals.size W σ id = some L → L.b < W.heap.size := by
    intro id L h
    obtain ⟨_, h2, _, cs, t, h3, _⟩ := hρ h
    rw [h2]
    exact (Array.getElem?_eq_some_iff.1 h3).1
  have hg : ∀ {id : Nat} {ob : Ob}, (seed P l ro fx).heap.get id = some ob → id < P.globals.size ∧ ∃ x t cs, x ∈ l ∧ P.globalNamed x.1 = some id ∧ (P.globals[id]?).map (·.type) = some t ∧ flatD P 8 t x.2 = some cs ∧ ob = .row (PT.lay cs 0 .nil) cs.length t 2 0 0 := by
    intro id ob h
    rcases seedHeap_get h with h1 | ⟨x, t, cs, h1, h2, h3, h4⟩
    · cases h1
    · refine ⟨?_, x, t, cs, h1, h2, h3, h4⟩
      rcases Nat.lt_or_ge id P.globals.size with h5 | h5
      · exact h5
      · rw [Array.getElem?_eq_none h5] at h3; cases h3
  refine ⟨{ below := Below.refl _ _, no := fun _ h => h.elim, old := fun id L h _ => hlt h, own := fun id L h h1 => ?_, lt := fun id L h => hlt h, next := fun id L h => ?_, ron := Nat.le_refl _, nx := fun id ob h => ?_,
            obs := fun id L ob h h1 => ?_, inj := fun i j L M ob ob' h1 h2 _ _ h3 => .inl ?_, cls := fun id cs n e fz cl rel h => ?_, fx := hfx }, fun g hg' => ?_⟩
  · have := (hρ h).1
    omega
  · have := (hρ h).1
    show id < ro
    omega
  · have := (hg h).1
    show id < ro
    omega
  · obtain ⟨h2, h3, h4, cs, t, h5, h6, h7⟩ := hρ h
    obtain ⟨_, x, t', l', h8, h9, h10, h11, rfl⟩ := hg h1
    obtain rfl : t' = t := Option.some.inj (h10.symm.trans h7)
    obtain ⟨g, t2, cs2, fuel, p, k1, k2, k3, k4⟩ := Lib.laidMet.reads hl h8
    obtain rfl : g = id := Option.some.inj (k1.symm.trans h9)
    obtain rfl : t2 = t' := Option.some.inj (k2.symm.trans h7)
    have hcs : cs2 = cs := by
      unfold World.var? at k3
      rw [k1] at k3
      have hk' := hk _ (hg h1).1
      simp only [Option.bind_some, ← hk', h5] at k3
      exact (Option.some.inj k3).symm
    subst hcs
    refine ⟨_, by rw [h3]; exact h5, cs2, 0, 0, rfl, h6.symm, fun _ => h4, fun i a hi => ?_, (fun h => by cases h), (fun h => by cases h)⟩
    rcases PT.get_lay hi with ⟨_, y⟩ | ⟨_, y⟩
    · have hv := flatD_spec (ρ := rho0 P.globals.size W σ) h11 k4
      obtain ⟨v, hv1, hv2⟩ := hv.get y
      refine ⟨by have := (List.getElem?_eq_some_iff.1 y).1; omega, v, ?_, hv2⟩
      rw [h4, Nat.zero_add]
      simpa using hv1
    · cases y
  · obtain ⟨_, h4, _⟩ := hρ h1
    obtain ⟨_, h5, _⟩ := hρ h2
    omega
  · obtain ⟨_, x, t', l', _, _, _, _, h5⟩ := hg h
    cases h5
  · obtain ⟨cs, t, h1, _⟩ := hrow g hg'
    refine ⟨cs.size, ?_⟩
    rw [rho0_at, show Nat.blt g P.globals.size = true from Nat.ble_eq_true_of_le hg', h1]
theorem seed_MR {P : Program} {l : List (String × DataW Unit)} {ro : Nat} {W : World} {σ : Sg} {fx : List (SX × Bool)} (hfx : ∀ p ∈ fx, (p.1.den σ).bool = p.2) (hl : laidMet P l W) (hs : W.ShapedOpen P) (hr : rowsOk P = true) (hro : P.globals.size ≤ ro) :
    MR (fun _ => False) (rho0 P.globals.size W σ) ro (seed P l ro fx) W W ∧ Gl (rho0 P.globals.size W σ) P.globals.size := seed_MR_at (fun _ _ => rfl) hfx hl hs hr hro
/-- A run of the reading says what the call does, at a world whose package-level variables are those of a world that met the list. -/
theorem ev_calls_at {E : Env} (hF : Fit E) {l : List (String × DataW Unit)} (hgl : E.gl = E.P.globals.size) (hro : E.P.globals.size ≤ E.ro) (hr : rowsOk E.P = true) {n : Nat} {f : FuncId} {fn : Func} {c : Code} (hf : E.P.funcs[f]? = some fn) (hb : fn.body = some c)
    {args : List AV} {v : AV} {st' : St} {σ : Sg} {fx : List (SX × Bool)} (hfx : ∀ p ∈ fx, (p.1.den σ).bool = p.2) (h : (ev E n).call f args (seed E.P l E.ro fx) = .ok (.ret v, st')) {W0 W : World} (hk : ∀ g, g < E.P.globals.size → W.heap[g]? = W0.heap[g]?) (hl : laidMet E.P l W0) (hs : W0.ShapedOpen E.P) {vs : Array Value} (hv : VRs (rho0 E.P.globals.size W σ) args vs.toList) :
    Calls E.P f vs W fun e W' => ∃ (q : Value) (ρ : Rho), e = .returned q ∧ VR ρ v q ∧ Below W.heap.size W W' := by
  obtain ⟨hM, hG⟩ := seed_MR_at hk hfx hl hs hr hro
  rw [← hgl] at hM hG hv
  have := (ev_sound hF n).call f args _ _ _ h _ _ W W vs hM hG hv
  rcases this with ⟨q, w', h1, _⟩ | ⟨_, h1⟩
  · have h2 := enter_call hF hf hb vs W
    rw [h2] at h1
    cases h1
  · refine h1.mono fun e W' ⟨ρ', _, h2, h3⟩ => ?_
    cases e <;> first
      | exact h3.elim
      | exact ⟨_, ρ', rfl, h3, h2.below⟩
/-- ████ A RUN OF THE READING SAYS WHAT THE CALL DOES. -/
theorem ev_calls {E : Env} (hF : Fit E) {l : List (String × DataW Unit)} (hgl : E.gl = E.P.globals.size) (hro : E.P.globals.size ≤ E.ro) (hr : rowsOk E.P = true) {n : Nat} {f : FuncId} {fn : Func} {c : Code} (hf : E.P.funcs[f]? = some fn) (hb : fn.body = some c)
    {args : List AV} {v : AV} {st' : St} {σ : Sg} {fx : List (SX × Bool)} (hfx : ∀ p ∈ fx, (p.1.den σ).bool = p.2) (h : (ev E n).call f args (seed E.P l E.ro fx) = .ok (.ret v, st')) {W : World} (hl : laidMet E.P l W) (hs : W.ShapedOpen E.P) {vs : Array Value} (hv : VRs (rho0 E.P.globals.size W σ) args vs.toList) :
    Calls E.P f vs W fun e W' => ∃ (q : Value) (ρ : Rho), e = .returned q ∧ VR ρ v q ∧ Below W.heap.size W W' := ev_calls_at hF hgl hro hr hf hb hfx h (fun _ _ => rfl) hl hs hv
end Go.Proofs.YtnipmfaikiaipaaGreatDoor.Ab
/- From a run of the reading to what a law's row asks of its call. -/
set_option linter.unusedVariables false
set_option linter.unusedSimpArgs false
set_option linter.unnecessarySimpa false
namespace Go.Proofs.YtnipmfaikiaipaaGreatDoor.Ab
open Go Go.RowKit Go.WideShapes Go.ChangeShapes

section
variable {H : Type} {enc : TypeId × Value → H} {P : Program}
theorem post_below {f : Func} {s : ChangeSpec} {apart fresh handsOn again : Bool} {W W' : World} {args : Array Value} {v : Value} {ds gs : List (DataW H)} {before pa pv : List MemPlace}
    (hW : DataW.Whole enc P f.params.toList s.vars apart W args.toList ds gs before)
    (hres : ∀ (b : Nat) (sp : Nat → Bool) (hd : Bool), DataW.TrodAll enc P W' b sp hd f.resultTypes.toList (v.resultList f.resultTypes.size) (s.fn H (ds ++ gs)).results [])
    (hargs : ∀ sp : Nat → Bool, (∀ p ∈ before, sp p.block = true) → DataW.TrodAll enc P W' 0 sp true f.params.toList args.toList (s.fn H (ds ++ gs)).args pa)
    (hvars : ∀ sp : Nat → Bool, (∀ p ∈ before, sp p.block = true) → DataW.TrodVars enc P W' sp s.vars (s.fn H (ds ++ gs)).vars pv)
    (hps : before = pa ++ pv) (hb : Below W.heap.size W W')
    (hok : ∀ (j : Nat) (t : TypeId) (r : Value), f.resultTypes[j]? = some t → (v.resultList f.resultTypes.size)[j]? = some r → Value.okWide P W' .any 0 t r) :
    s.post enc P f apart fresh handsOn again W args v W' := by
  have hlt : ∀ p ∈ before, p.block < W.heap.size := fun p hp => hW.lt p hp
  have hold : ∀ p ∈ before, (fun b => decide (b < W.heap.size)) p.block = true := fun p hp => by simpa using hlt p hp
  refine ⟨ds, gs, before, [], pa, pv, hW, hres _ _ _, hargs _ hold, hvars _ hold, World.keptBut_mono (fun p hp => ⟨hp, ?_⟩) (hb.frame (· ∈ before)), fun _ => ?_⟩
  · rw [hps, List.mem_append] at hp
    exact Or.inr hp
  · obtain ⟨_, _, _, _, _, hz, hn⟩ := hW
    refine ⟨hok, _, _, ([] ++ pa) ++ pv, ⟨[] ++ pa, pv, trodAll_append (hargs _ (fun _ _ => rfl)) (hres _ _ _), hvars _ (fun _ _ => rfl), rfl, ?_, ?_⟩, ?_⟩
    · intro b off hp
      have hin : MemPlace.cell b off ∈ before := by rw [hps]; simpa using hp
      rw [hb.frozen (hlt _ hin)]
      exact hz b off hin
    · intro ha
      have := hn ha
      rw [hps] at this
      simpa using this
    · intro p hp _
      rw [hps]
      simpa using hp
theorem trodAll_stays {T : TypeId → Prop} (K : Kids P T) (hsz : ∀ {t e : TypeId}, T t → P.underlying t = some (.slice e) → 0 < P.cellsOf e) {W W' : World} {sp : Nat → Bool} :
    ∀ {ts : List TypeId} {vs : List Value} {ds : List (DataW H)} {p : List MemPlace}, DataW.TrodAll enc P W 0 (fun _ => true) true ts vs ds p → (∀ t ∈ ts, T t) → (∀ q ∈ p, W.sameAt W' q) → (∀ q ∈ p, sp q.block = true) → DataW.TrodAll enc P W' 0 sp true ts vs ds p
  | [], [], [], p, h, _, _, _ => h
  | t :: ts, v :: vs, d :: ds, p, h, ht, hs, hsp => by
    obtain ⟨p1, q1, ⟨fuel, h1⟩, h2, rfl⟩ := h
    refine ⟨p1, q1, ⟨fuel, ?_⟩, trodAll_stays K hsz h2 (fun t h => ht t (.tail _ h)) (fun q hq => hs q (List.mem_append_right _ hq)) (fun q hq => hsp q (List.mem_append_right _ hq)), rfl⟩
    exact DataW.trod_stays K hsz (fun h => by cases h) (ht t (.head _)) h1 (fun q hq => hs q (List.mem_append_left _ hq)) (fun q hq => hsp q (List.mem_append_left _ hq))
  | [], [], _ :: _, _, h, _, _, _ => h.elim
  | [], _ :: _, [], _, h, _, _, _ => h.elim
  | [], _ :: _, _ :: _, _, h, _, _, _ => h.elim
  | _ :: _, [], [], _, h, _, _, _ => h.elim
  | _ :: _, [], _ :: _, _, h, _, _, _ => h.elim
  | _ :: _, _ :: _, [], _, h, _, _, _ => h.elim
end
/-- Cells that lie in one each: each one is whatever one cell holds. -/
theorem anys {ρ : Rho} : ∀ {l : List Value}, (∀ v ∈ l, oneV v = true) → VRs ρ (List.replicate l.length .any) l
  | [], _ => .nil
  | v :: _, h => .cons _ _ _ _ (.any v (h v (.head _))) (anys fun v' h' => h v' (.tail _ h'))
theorem one_of_okWide {P : Program} {W : World} {r : Reach} {base : Nat} {t : TypeId} {v : Value} (h : Cell.okWide P W r base t v) : oneV v = true := by
  cases v <;> first
    | rfl
    | (exfalso; unfold Cell.okWide at h; split at h <;> first | (rename_i h1 h2; cases h2; done) | (unfold Cell.ok at h; split at h <;> first | (rename_i h1 h2; cases h2; done) | exact h))
theorem anys_of_okWide {P : Program} {W : World} {r : Reach} {base : Nat} {t : TypeId} {v : Value} {fs : Array Field} (ht : P.underlying t = some (.struct fs)) (h : Value.okWide P W r base t v) {ρ : Rho} {n : Nat} (hn : P.cellsOf t = n) : VR ρ (.agg (List.replicate n .any)) v := by
  unfold Value.okWide at h
  rw [ht] at h
  obtain ⟨cs, rfl, h1, ts, _, _, h2⟩ := h
  refine .agg _ _ ?_
  have : n = cs.toList.length := by simp [h1, hn]
  rw [this]
  refine anys fun v hv => ?_
  obtain ⟨i, hi⟩ := List.getElem?_of_mem hv
  obtain ⟨u, _, h3⟩ := h2 i v (by simpa using hi)
  exact one_of_okWide h3
/-- Each slice's element takes cells; types are laid out. -/
def typesOk (P : Program) : Bool := laidOutB P && mapsRowed P && (List.range P.types.size).all fun t => match P.underlying t with
  | some (.slice e) => Nat.blt 0 (P.cellsOf e)
  | _ => true
theorem laidMet_of_H {P : Program} {l : List (String × DataW Unit)} {w : World} (h0 : (l.filter fun x => x.2.handleName?.isSome).isEmpty = true) (h : laidMetH P l w) : laidMet P l w := by
  unfold laidMetH at h
  split at h
  · exact h
  · rename_i h1
    rw [h1] at h0
    cases h0
/-- A law's row: its call answers true; what came in is as it was. -/
structure LawSpec (s : ChangeSpec) (k : Nat) : Prop where
  vars : s.vars = []
  fn : ∀ (H : Type) (ds : List (DataW H)), ds.length = k → s.fn H ds = { results := [.lit (.bool true)], args := ds }
theorem trodAll_length {H : Type} {enc : TypeId × Value → H} {P : Program} {w : World} {base : Nat} {sp : Nat → Bool} {held : Bool} : ∀ {ts : List TypeId} {vs : List Value} {ds : List (DataW H)} {p : List MemPlace}, DataW.TrodAll enc P w base sp held ts vs ds p → ds.length = ts.length
  | [], [], [], _, _ => rfl
  | _ :: _, _ :: _, _ :: _, _, ⟨_, _, _, h, _⟩ => by simp [trodAll_length h]
  | [], [], _ :: _, _, h => h.elim
  | [], _ :: _, [], _, h => h.elim
  | [], _ :: _, _ :: _, _, h => h.elim
  | _ :: _, [], [], _, h => h.elim
  | _ :: _, [], _ :: _, _, h => h.elim
  | _ :: _, _ :: _, [], _, h => h.elim
theorem law_post {H : Type} {enc : TypeId × Value → H} {P : Program} {fn : Func} {s : ChangeSpec} (hs : LawSpec s fn.params.size) {tb : TypeId} (htb : fn.resultTypes = #[tb]) (hub : P.underlying tb = some .bool) (hK : typesOk P = true) (hp : ∀ t ∈ fn.params.toList, t < P.types.size)
    {W W' : World} {args : Array Value} {ds gs : List (DataW H)} {before : List MemPlace} (hW : DataW.Whole enc P fn.params.toList s.vars false W args.toList ds gs before) (hb : Below W.heap.size W W') :
    s.post enc P fn false true false false W args (.bool true) W' := by
  have hW' := hW
  obtain ⟨p, q, hA, hV, hpq, _, _⟩ := hW'
  rw [hs.vars] at hV
  obtain ⟨hgs, hq⟩ := trodVars_none hV
  unfold typesOk at hK
  simp only [Bool.and_eq_true] at hK
  obtain ⟨⟨k1, k2⟩, k3⟩ := hK
  have K := kids_rows k1 k2
  have hsz : ∀ {t e : TypeId}, t < P.types.size → P.underlying t = some (.slice e) → 0 < P.cellsOf e := fun {t e} h1 h2 => by
    have := List.all_eq_true.1 k3 t (List.mem_range.2 h1)
    rw [h2] at this
    exact blt_true this
  have hl := trodAll_length hA
  have hbp : before = p := by rw [hpq, hq, List.append_nil]
  have hfn : s.fn H (ds ++ gs) = { results := [.lit (.bool true)], args := ds } := by rw [hgs, List.append_nil]; exact hs.fn H ds (by simpa using hl)
  refine post_below (pa := p) (pv := []) hW (fun b sp hd => ?_) (fun sp hsp => ?_) (fun sp _ => ?_) (by rw [hbp, List.append_nil]) hb (ok_one htb rfl (okWide_bool_mk hub _))
  · rw [hfn, htb]
    exact trodAll_cons_mk (shut_bool hub _) trodAll_mk0
  · rw [hfn]
    exact trodAll_stays K hsz hA hp (fun x hx => hb.same (hW.lt x (by rw [hbp]; exact hx))) (fun x hx => hsp x (by rw [hbp]; exact hx))
  · rw [hfn, hs.vars]
    rfl
theorem law_calls {H : Type} {enc : TypeId × Value → H} {E : Env} (hF : Fit E) {l : List (String × DataW Unit)} (h0 : (l.filter fun x => x.2.handleName?.isSome).isEmpty = true) (hgl : E.gl = E.P.globals.size) (hro : E.P.globals.size ≤ E.ro) (hr : rowsOk E.P = true)
    {n : Nat} {f : FuncId} {fn : Func} {c : Code} (hf : E.P.funcs[f]? = some fn) (hb : fn.body = some c) {avs : List AV} {σ : Sg} {fx : List (SX × Bool)} (hfx : ∀ p ∈ fx, (p.1.den σ).bool = p.2) (h : ∃ st', (ev E n).call f avs (seed E.P l E.ro fx) = .ok (.ret (.bool true), st'))
    {s : ChangeSpec} (hs : LawSpec s fn.params.size) {tb : TypeId} (htb : fn.resultTypes = #[tb]) (hub : E.P.underlying tb = some .bool) (hK : typesOk E.P = true) (hp : ∀ t ∈ fn.params.toList, t < E.P.types.size)
    {W : World} {args : Array Value} {ds gs : List (DataW H)} {before : List MemPlace} (hW : DataW.Whole enc E.P fn.params.toList s.vars false W args.toList ds gs before) (hL : laidMetH E.P l W) (hsh : W.ShapedOpen E.P)
    (hv : VRs (rho0 E.P.globals.size W σ) avs args.toList) : Calls E.P f args W fun e W' => ∃ v, e = .returned v ∧ s.post enc E.P fn false true false false W args v W' := by
  obtain ⟨st', h⟩ := h
  refine (ev_calls hF hgl hro hr hf hb hfx h (laidMet_of_H h0 hL) hsh hv).mono fun e W' ⟨q, ρ, h1, h2, h3⟩ => ?_
  cases h2
  exact ⟨_, h1, law_post hs htb hub hK hp hW h3⟩
/-- There is an input that fits: a world that is written out. -/
theorem witness_row {H : Type} {enc : TypeId × Value → H} {C : Checked} {os : Os} {f : FuncId} {fn : Func} {s : OpenSpec} {conds : List PathCond} {apart : Bool} {laid : List (String × DataW Unit)} (w0 : World) (args : Array Value) (hos : w0.os = os)
    (hsh : (w0.forCall (fun _ _ => 0) ⟨#[], args, []⟩).Shaped C.prog) (hok : Input.okWideB C.prog (w0.forCall (fun _ _ => 0) ⟨#[], args, []⟩) f ⟨#[], args, []⟩ = true)
    (hrow : s.preRow enc C.prog fn conds apart laid (w0.forCall (fun _ _ => 0) ⟨#[], args, []⟩).memory args) :
    ∃ (w : World) (tape : Tape) (i : Input), w.os = os ∧ (w.forCall tape i).Shaped C.prog ∧ i.vars = [] ∧ Input.okWide C.prog (w.forCall tape i) .any w.heap.size f i ∧
      s.preRow enc C.prog fn conds apart laid (w.forCall tape i).memory i.args ∧ ({} : Assume).holds C.prog (lone (Frame.enter C.prog f i.args .normal) [] (w.forCall tape i)) :=
  ⟨w0, fun _ _ => 0, ⟨#[], args, []⟩, hos, hsh, (Input.okWide_of_okWideB (base := 0) hok).1, (Input.okWide_of_okWideB hok).2, hrow, by
    simp only [Assume.holds]
    exact ⟨by simp, by simp, fun _ => Modest.zero, by simp, by simp⟩⟩
/-- What the kernel is asked. -/
def saysTrue (r : Rs (En × St)) : Bool := match r with
  | .ok (.ret (.bool true), _) => true
  | _ => false
theorem saysTrue_spec {r : Rs (En × St)} (h : saysTrue r = true) : ∃ st', r = .ok (.ret (.bool true), st') := by
  unfold saysTrue at h
  split at h
  · exact ⟨_, rfl⟩
  · cases h
end Go.Proofs.YtnipmfaikiaipaaGreatDoor.Ab
