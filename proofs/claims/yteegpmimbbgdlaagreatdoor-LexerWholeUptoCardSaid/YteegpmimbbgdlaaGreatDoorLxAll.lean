import Derived.Test.YteegpmimbbgdlaaGreatDoorLxStr
import Derived.OwnWalk
import Derived.LoopTactic
/- The walk of the document's All. -/
namespace Go.Proofs
open Go.RowKit Go.Pf Go.Lx Go.Hb Go.Rb Go.Bg
/-- A token's seven cells. -/
def tkc : TR × Bool → List Value
  | (.ok k tx nu bits a en, ly) => [.int .i64 k, .string tx, .string nu, .int .u64 bits, .int .i64 a, .int .i64 en, .bool ly]
  | (.err p _, _) => [.int .i64 0, .string ⟨#[]⟩, .string ⟨#[]⟩, .int .u64 0, .int .i64 p, .int .i64 p, .bool false]
theorem tkc_vals (R : TR) (ly : Bool) : ∃ (k : Int) (tx nu : ByteArray) (bits a en : Int) (lz : Bool), TR.tokL R ly = .agg #[.int .i64 k, .string tx, .string nu, .int .u64 bits, .int .i64 a, .int .i64 en, .bool lz] ∧ tkc (R, ly) = [.int .i64 k, .string tx, .string nu, .int .u64 bits, .int .i64 a, .int .i64 en, .bool lz] := by
  cases R with
  | ok k tx nu bits a en => exact ⟨_, _, _, _, _, _, _, rfl, rfl⟩
  | err p n => exact ⟨_, _, _, _, _, _, _, rfl, rfl⟩
theorem Tryz.infoTok : (Tryz.prog.info? 25).map (fun i => (i.zero, i.size, i.bytes)) = some (some (.agg #[.int .i64 0, .string ⟨#[]⟩, .string ⟨#[]⟩, .int .u64 0, .int .i64 0, .int .i64 0, .bool false]), 7, 72) := by kernel_rfl
theorem rnext_at {s : ByteArray} {p : Nat} {R : TR} {ly : Bool} (hs : s.size ≤ 100000000) (hp : p ≤ s.size) (h : NxAt s p R ly) (W : World) : Calls Tryz.prog 13 #[.string s, .int .i64 p] W (NextEnd R ly W) := by
  obtain ⟨K, E, h1, rfl, rfl⟩ := h
  exact Tryz.rnext s p K E W (by omega) hp h1
theorem pnext_at {s : ByteArray} {p : Nat} {R : TR} {ly : Bool} (hs : s.size ≤ 100000000) (hp : p ≤ s.size) (h : NxAt s p R ly) (W : World) (hW : Laid1 W) : Calls Tryz.prog 12 #[.string s, .int .i64 p] W (NextEnd R ly W) := by
  obtain ⟨K, E, h1, rfl, rfl⟩ := h
  exact Tryz.pnext s p K E W hs hp (Lib.hid h1) (Lib.hid hW)
theorem _root_.Go.Lx.NxAt.er {s : ByteArray} {p q n : Nat} {ly : Bool} (h : NxAt s p (.err q n) ly) : n ≠ 0 := by
  obtain ⟨K, E, h1, h2, _⟩ := h
  unfold nxR at h2
  split at h2
  · exact tokR_er h2.symm
  · rename_i hE; cases h2; exact hE
/-- What All tells: the tokens one behind the other in a row of its own, and the last one's number. -/
def AllEnd (L : List (TR × Bool)) (w : World) (e : Ending) (w' : World) : Prop :=
  ∃ (v : Value) (er : Nat), e = .returned (.tuple #[v, .int .i64 er]) ∧ w'.ownsRow w.heap.size 25 7 v L.length (L.flatMap tkc) ∧ (∃ x, L.getLast? = some x ∧ er = TR.er x.1) ∧ Below w.heap.size w w'
theorem cells_new (w : World) (t : TypeId) (l : List Value) : ∀ j u, l[j]? = some u → (w.alloc (.cells l.toArray t)).cell? ((⟨w.heap.size, 0, none⟩ : Addr).add j) = some u := by
  intro j u hj
  have e : ((⟨w.heap.size, 0, none⟩ : Addr).add j) = ⟨w.heap.size, j, none⟩ := by
    unfold Addr.add
    split
    · rename_i h; rw [h]
    · simp
  rw [e, Lib.cell_of_heap (heap_alloc_new w _)]
  simpa using hj
/-- The first of all tokens, and what is behind it. -/
theorem _root_.Go.Lx.AllS.open' {s : ByteArray} {p : Nat} {l : List (TR × Bool)} (h : AllS s p l) : ∃ (R : TR) (ly : Bool) (r : List (TR × Bool)), l = (R, ly) :: r ∧ NxAt s p R ly ∧
    ((TR.er R ≠ 0 ∧ r = []) ∨ (TR.er R = 0 ∧ r = [] ∧ ∃ tx nu bits a en, R = .ok 10 tx nu bits a en) ∨ (TR.er R = 0 ∧ ∃ k tx nu bits a en, R = .ok k tx nu bits a en ∧ k ≠ 10 ∧ AllS s en r)) := by
  cases h with
  | fin h => exact ⟨_, _, _, rfl, h, .inr (.inl ⟨rfl, rfl, _, _, _, _, _, rfl⟩)⟩
  | bad h => exact ⟨_, _, _, rfl, h, .inl ⟨h.er, rfl⟩⟩
  | more h hk hl => exact ⟨_, _, _, rfl, h, .inr (.inr ⟨rfl, _, _, _, _, _, _, rfl, hk, hl⟩)⟩
set_option maxRecDepth 100000 in
set_option maxHeartbeats 20000000 in
theorem Tryz.rall (s : ByteArray) (L : List (TR × Bool)) (w : World) (hs : s.size ≤ 1048576) (hL : Hid (AllS s 0 L)) : Calls Tryz.prog 16 #[.string s] w (AllEnd L w) := by
  obtain ⟨i0, hi, hz0, hz1, hz2⟩ := info_parts Tryz.infoTok
  go_enter Tryz.func16, Tryz.ntmps16
  go_wp2_with fail
  go_loopw [4, 5] (fun l i wr => ∃ (done rest : List (TR × Bool)) (p : Nat), Hid (L = done ++ rest ∧ AllS s p rest ∧ p ≤ s.size ∧ wr.ownsRow w.heap.size 25 7 l done.length (done.flatMap tkc) ∧ done.length ≤ p ∧ Below w.heap.size w wr) ∧ i = .int .i64 p) (fun _ i _ => s.size + 1 - (intOf i).toNat)
  case atStart => exact ⟨[], L, 0, Lib.hid ⟨rfl, hL.out, Nat.zero_le _, World.ownsRow_nil _ _ _ _, Nat.zero_le _, Below.refl _ _⟩, rfl⟩
  case round =>
    obtain ⟨done, rest, p, hq, rfl⟩ := hrel
    obtain ⟨e1, hA, hp, hown, hdl, hbel⟩ := hq.out
    obtain ⟨R, ly, rest2, e2, hN, hcase⟩ := hA.open'
    have CN : Hid (∀ W, Calls Tryz.prog 13 #[.string s, .int .i64 p] W (NextEnd R ly W)) := Lib.hid (fun W => rnext_at (by omega) hp hN W)
    obtain ⟨k, tx, nu, bits, a, en, lz, hv, hc⟩ := tkc_vals R ly
    obtain ⟨n, hn⟩ : ∃ n, n = TR.er R := ⟨_, rfl⟩
    have CM : Hid (∀ W, Calls Tryz.prog 13 #[.string s, .int .i64 p] W fun e w' => e = .returned (.tuple #[.agg #[.int .i64 k, .string tx, .string nu, .int .u64 bits, .int .i64 a, .int .i64 en, .bool lz], .int .i64 (n : Nat)]) ∧ Below W.heap.size W w') := Lib.hid (fun W => by
      have h := CN.out W
      unfold NextEnd at h
      rw [hv, ← hn] at h
      exact h)
    have HOWN := Lib.hid hown
    have HBEL := Lib.hid hbel
    have HN := Lib.hid hN
    have HV := Lib.hid hv
    have HC := Lib.hid hc
    have HE1 := Lib.hid e1
    have HE2 := Lib.hid e2
    have HCASE := Lib.hid hcase
    have HNE := Lib.hid hn
    have HDL := Lib.hid hdl
    obtain ⟨m, hm⟩ : ∃ m, m = done.length := ⟨_, rfl⟩
    have HM := Lib.hid hm
    have bm : m ≤ 1048577 := by omega
    have hbs := hbel.size
    clear hq e1 hA hown hbel e2 hN hcase hv hc CN hn hdl hm
    go_upto_region 4 with (go_at_call 13; (with_reducible refine (CM.out _).mono ?_); rintro e W2 ⟨rfl, b2⟩; have B2 := Lib.hid b2; clear b2)
    generalize hX : W2.alloc _ = X
    have T6 : Hid (TkA X W2.heap.size k tx nu bits a en lz) := Lib.hid (by rw [← hX]; exact TkA.of_new W2 _ _ _ _ _ _ _)
    have bX : Below W2.heap.size W2 X := by rw [← hX]; exact (Below.refl _ _).alloc (Nat.le_refl _) _
    have OX : Hid (X.ownsRow w.heap.size 25 7 _ done.length (done.flatMap tkc)) := Lib.hid (own_below (own_below HOWN.out B2.out) bX)
    have BX : Hid (Below w.heap.size w X) := Lib.hid ((HBEL.out.trans (B2.out.mono hbs)).trans (bX.mono (by have := B2.out.size; omega)))
    have ltX : W2.heap.size < X.heap.size := T6.out.lt
    have le2 : w.heap.size ≤ W2.heap.size := by have := B2.out.size; omega
    clear hX bX
    obtain ⟨x10, x11, x12, x13, x14, x15, x16⟩ := T6.out.cs
    go_wp2_with (at_builtin; refine wpList_append_own _ rfl _ _ 31 rfl w.heap.size 25 i0 (.agg #[.int .i64 0, .string ⟨#[]⟩, .string ⟨#[]⟩, .int .u64 0, .int .i64 0, .int .i64 0, .bool false]) 7 72 Tryz.underlying31 hi hz0 hz1 hz2 rfl (by decide) _ _ _ rfl (OX.out.alloc _) ⟨X.heap.size, 0, none⟩ 1 1 [.int .i64 k, .string tx, .string nu, .int .u64 bits, .int .i64 a, .int .i64 en, .bool lz] rfl rfl ?c1 ?c2 ?c3 ?c4 ?c5 ?_)
    case c1 => exact cells_new X 25 _
    case c2 =>
      intro u hu
      simp only [List.mem_cons, List.mem_nil_iff, or_false] at hu
      rcases hu with rfl | rfl | rfl | rfl | rfl | rfl | rfl <;> rfl
    case c3 => have := HM.out; unfold maxLen; omega
    case c4 => have := HM.out; omega
    case c5 => have := BX.out.size; simp; omega
    intro v' w2 hown' hgrow _
    have T7 : Hid (TkA w2 W2.heap.size k tx nu bits a en lz) := Lib.hid ⟨(hgrow.block _ (by simp; omega) (fun e => by have h1 := (HOWN.out.lt _ e.symm).2; have h2 := B2.out.size; omega)).trans ((Lib.alloc_old _ _ _ ltX).trans T6.out.h)⟩
    have B7 : Hid (Below w.heap.size w w2) := Lib.hid ((BX.out.alloc BX.out.size _).grown hgrow (by have := BX.out.size; simp; omega) (fun b hb => (OX.out.lt b hb).1))
    have O7 : Hid (w2.ownsRow w.heap.size 25 7 v' (done ++ [(R, ly)]).length ((done ++ [(R, ly)]).flatMap tkc)) := Lib.hid (by
      rw [List.length_append, List.flatMap_append]
      have e : List.flatMap tkc [(R, ly)] = [.int .i64 k, .string tx, .string nu, .int .u64 bits, .int .i64 a, .int .i64 en, .bool lz] := by rw [List.flatMap_cons, List.flatMap_nil, List.append_nil]; exact HC.out
      rw [e]
      exact hown')
    clear hown' hgrow x10 x11 x12 x13 x14 x15 x16
    obtain ⟨x10, x11, x12, x13, x14, x15, x16⟩ := T7.out.cs
    have KEY : (((n : Int) != 0) = true ∧ Hid (L = done ++ [(R, ly)])) ∨ (((n : Int) != 0) = false ∧ (k == 10) = true ∧ Hid (L = done ++ [(R, ly)])) ∨ (((n : Int) != 0) = false ∧ (k == 10) = false ∧ ∃ en2 : Nat, en = en2 ∧ en2 ≤ 1048576 ∧ Hid (L = (done ++ [(R, ly)]) ++ rest2 ∧ AllS s en2 rest2 ∧ en2 ≤ s.size ∧ p < en2)) := by
      have eL : L = (done ++ [(R, ly)]) ++ rest2 := by rw [HE1.out, HE2.out, List.append_assoc]; rfl
      rcases HCASE.out with ⟨h1, h2⟩ | ⟨h1, h2, tx', nu', b', a', e', h3⟩ | ⟨h1, k', tx', nu', b', a', e', h3, h4, h5⟩
      · refine .inl ⟨bne_of_ne (by rw [HNE.out]; omega), Lib.hid ?_⟩
        rw [eL, h2, List.append_nil]
      · refine .inr (.inl ⟨bne_of_eq (by rw [HNE.out]; omega), ?_, Lib.hid ?_⟩)
        · have hv := HV.out
          rw [h3] at hv
          simp [TR.tokL, tokV] at hv
          exact beq_of_eq hv.1.symm
        · rw [eL, h2, List.append_nil]
      · have hv := HV.out
        have hN := HN.out
        rw [h3] at hv hN
        simp [TR.tokL, tokV] at hv
        have h6 := hN.ok hp
        have h7 := h6.2.2.2.2.2.2.2 h4
        refine .inr (.inr ⟨bne_of_eq (by rw [HNE.out]; omega), beq_of_ne (by omega), e', by omega, by omega, Lib.hid ⟨eL, h5, h6.2.2.2.2.2.1, by omega⟩⟩)
    have HLAST : Hid ((done ++ [(R, ly)]).getLast? = some (R, ly)) := Lib.hid (by simp)
    rcases KEY with ⟨k1, hl⟩ | ⟨k1, k2, hl⟩ | ⟨k1, k2, en2, rfl, hen, hl⟩
    · go_wp2
      refine bodyPost_ret (v := .tuple #[v', .int .i64 n]) ?_ rfl ⟨v', n, rfl, by rw [hl.out]; exact O7.out, ⟨_, by rw [hl.out]; exact HLAST.out, HNE.out⟩, B7.out⟩
      simp only [results, Tryz.results16]
      go_simp
      try rfl
    · go_wp2
      refine bodyPost_ret (v := .tuple #[v', .int .i64 n]) ?_ rfl ⟨v', n, rfl, by rw [hl.out]; exact O7.out, ⟨_, by rw [hl.out]; exact HLAST.out, HNE.out⟩, B7.out⟩
      simp only [results, Tryz.results16]
      go_simp
      try rfl
    · go_wp2
      go_roundw
      case rel => exact ⟨done ++ [(R, ly)], rest2, en2, Lib.hid ⟨hl.out.1, hl.out.2.1, hl.out.2.2.1, O7.out, by have := HDL.out; have := hl.out.2.2.2; rw [List.length_append]; simp; omega, B7.out⟩, rfl⟩
      case measure => have := hl.out.2.2.2; have := hl.out.2.2.1; simp [intOf]; omega
end Go.Proofs
