import Derived.Test.YteegpmimbbgdlaaGreatDoorLxAll
import Derived.Test.YteegpmimbbgdlaaGreatDoorTbm
/- The walk of the laws' tokens. -/
namespace Go.Proofs
open Go.RowKit Go.Pf Go.Lx Go.Hb Go.Rb Go.Bg
/-- What tokens tells: all of them, where nothing is wrong. -/
def TksEnd (L : List (TR × Bool)) (w : World) (e : Ending) (w' : World) : Prop :=
  ((∃ v, e = .returned (.tuple #[v, .bool true]) ∧ w'.ownsRow w.heap.size 25 7 v L.length (L.flatMap tkc) ∧ ∃ x, L.getLast? = some x ∧ TR.er x.1 = 0) ∨
   (e = .returned (.tuple #[.slice none 0 0, .bool false]) ∧ ∃ x, L.getLast? = some x ∧ TR.er x.1 ≠ 0)) ∧ Below w.heap.size w w'
set_option maxRecDepth 100000 in
set_option maxHeartbeats 20000000 in
theorem Tryz.tokens (s : ByteArray) (L : List (TR × Bool)) (w : World) (hs : s.size ≤ 1048577 + 1048577) (hL : Hid (AllS s 0 L)) (hM : Hid (Laid1 w)) : Calls Tryz.prog 17 #[.string s] w (TksEnd L w) := by
  obtain ⟨i0, hi, hz0, hz1, hz2⟩ := info_parts Tryz.infoTok
  go_enter Tryz.func17, Tryz.ntmps17
  go_wp2_with fail
  go_loopw [4, 5, 6] (fun l i c wr => ∃ (done rest : List (TR × Bool)) (p q : Nat), Hid (L = done ++ rest ∧ AllS s p rest ∧ p ≤ s.size ∧ wr.ownsRow w.heap.size 25 7 l done.length (done.flatMap tkc) ∧ done.length ≤ p ∧ Below w.heap.size w wr ∧ q = done.length) ∧ i = .int .i64 p ∧ c = .int .i64 q) (fun _ i _ _ => s.size + 1 - (intOf i).toNat)
  case atStart => exact ⟨[], L, 0, 0, Lib.hid ⟨rfl, hL.out, Nat.zero_le _, World.ownsRow_nil _ _ _ _, Nat.zero_le _, Below.refl _ _, rfl⟩, rfl, rfl⟩
  case round =>
    obtain ⟨done, rest, p, q, hq, rfl, rfl⟩ := hrel
    obtain ⟨e1, hA, hp, hown, hdl, hbel, hqd⟩ := hq.out
    obtain ⟨R, ly, rest2, e2, hN, hcase⟩ := hA.open'
    have CN : Hid (∀ W, Laid1 W → Calls Tryz.prog 12 #[.string s, .int .i64 p] W (NextEnd R ly W)) := Lib.hid (fun W hW => pnext_at (by omega) hp hN W hW)
    have hq1 : q ≤ s.size := by omega
    have hqi : (q : Int) ≤ s.size := by omega
    have HOWN := Lib.hid hown
    have HBEL := Lib.hid hbel
    have HE1 := Lib.hid e1
    have HE2 := Lib.hid e2
    have HQD := Lib.hid hqd
    have HDL := Lib.hid hdl
    have M1 := Lib.hid (hM.out.below hbel)
    have hbs := hbel.size
    have eL : Hid (L = (done ++ [(R, ly)]) ++ rest2) := Lib.hid (by rw [e1, e2, List.append_assoc]; rfl)
    have HLAST : Hid ((done ++ [(R, ly)]).getLast? = some (R, ly)) := Lib.hid (by simp)
    clear hq e1 hA hown hbel e2 hqd hdl
    cases R with
    | err rq rn =>
      have hrn : rn ≠ 0 := hN.er
      have hr2 : rest2 = [] := by
        rcases hcase with ⟨_, h⟩ | ⟨_, h, _⟩ | ⟨_, k', tx', nu', b', a', e', h3, _⟩
        · exact h
        · exact h
        · cases h3
      have e5 : ((rn : Int) != 0) = true := bne_of_ne (by omega)
      have CM : Hid (∀ W, Laid1 W → Calls Tryz.prog 12 #[.string s, .int .i64 p] W fun e w' => e = .returned (.tuple #[.agg #[.int .i64 0, .string ⟨#[]⟩, .string ⟨#[]⟩, .int .u64 0, .int .i64 rq, .int .i64 rq, .bool false], .int .i64 rn]) ∧ Below W.heap.size W w') := Lib.hid CN.out
      have HL : Hid (∃ x, L.getLast? = some x ∧ TR.er x.1 ≠ 0) := Lib.hid ⟨(.err rq rn, ly), by rw [eL.out, hr2, List.append_nil]; exact HLAST.out, hrn⟩
      clear hcase hN hrn hr2 CN
      go_upto_region 7 with (go_at_call 12; (with_reducible refine (CM.out _ M1.out).mono ?_); rintro e W2 ⟨rfl, b2⟩; have B2 := Lib.hid b2; clear b2)
      go_wp2
      refine bodyPost_ret (v := .tuple #[.slice none 0 0, .bool false]) ?_ rfl ⟨.inr ⟨rfl, HL.out⟩, (HBEL.out.trans (B2.out.mono hbs)).trans (((Below.refl _ _).alloc (Nat.le_refl _) _).mono (by have := B2.out.size; omega))⟩
      simp only [results, Tryz.results17]
      go_simp
      try rfl
    | ok k tx nu bits a en =>
      have hok := hN.ok hp
      have CM : Hid (∀ W, Laid1 W → Calls Tryz.prog 12 #[.string s, .int .i64 p] W fun e w' => e = .returned (.tuple #[.agg #[.int .i64 k, .string tx, .string nu, .int .u64 bits, .int .i64 a, .int .i64 en, .bool ly], .int .i64 0]) ∧ Below W.heap.size W w') := Lib.hid CN.out
      have t1 : decide ((a : Int) < p) = false := decide_eq_false (by omega)
      have t2 : decide ((en : Int) < a) = false := decide_eq_false (by
        by_cases hk : k = 10
        · have := hok.2.2.2.2.2.2.1 hk; omega
        · have := hok.2.2.2.2.2.2.2 hk; omega)
      have t3 : decide ((s.size : Int) < en) = false := decide_eq_false (by omega)
      have t1n : decide (a < p) = false := decide_eq_false (by omega)
      have t2n : decide (en < a) = false := by
        have h := of_decide_eq_false t2
        exact decide_eq_false (by omega)
      have t3n : decide (s.size < en) = false := decide_eq_false (by omega)
      have KEY : (((k : Int) != 10) = false ∧ ((k : Int) == 10) = true ∧ ((a : Int) == (s.size : Int)) = true ∧ Hid (L = done ++ [(TR.ok k tx nu bits a en, ly)])) ∨ (((k : Int) != 10) = true ∧ ((k : Int) == 10) = false ∧ ((en : Int) == (a : Int)) = false ∧ Hid (AllS s en rest2 ∧ en ≤ s.size ∧ p < en)) := by
        by_cases hk : k = 10
        · refine .inl ⟨bne_of_eq (by omega), beq_of_eq (by omega), beq_of_eq (by have := hok.2.2.2.2.2.2.1 hk; omega), Lib.hid ?_⟩
          have hr2 : rest2 = [] := by
            rcases hcase with ⟨_, h⟩ | ⟨_, h, _⟩ | ⟨_, k', tx', nu', b', a', e', h3, h4, _⟩
            · exact h
            · exact h
            · cases h3; exact absurd hk h4
          rw [eL.out, hr2, List.append_nil]
        · have h7 := hok.2.2.2.2.2.2.2 hk
          refine .inr ⟨bne_of_ne (by omega), beq_of_ne (by omega), beq_of_ne (by omega), Lib.hid ⟨?_, by omega, by omega⟩⟩
          rcases hcase with ⟨h, _⟩ | ⟨_, _, tx', nu', b', a', e', h3⟩ | ⟨_, k', tx', nu', b', a', e', h3, h4, h5⟩
          · exact absurd rfl h
          · cases h3; exact absurd rfl hk
          · cases h3; exact h5
      have bk : k ≤ 10 ∨ 10 < k := by omega
      have ba : a ≤ s.size := hok.2.2.2.1
      have ben : en ≤ s.size := hok.2.2.2.2.2.1
      clear hcase hN CN hok bk
      go_upto_region 7 with (go_at_call 12; (with_reducible refine (CM.out _ M1.out).mono ?_); rintro e W2 ⟨rfl, b2⟩; have B2 := Lib.hid b2; clear b2)
      generalize hX : W2.alloc _ = X
      have T6 : Hid (TkA X W2.heap.size k tx nu bits a en ly) := Lib.hid (by rw [← hX]; exact TkA.of_new W2 _ _ _ _ _ _ _)
      have bX : Below W2.heap.size W2 X := by rw [← hX]; exact (Below.refl _ _).alloc (Nat.le_refl _) _
      have OX : Hid (X.ownsRow w.heap.size 25 7 _ done.length (done.flatMap tkc)) := Lib.hid (own_below (own_below HOWN.out B2.out) bX)
      have BX : Hid (Below w.heap.size w X) := Lib.hid ((HBEL.out.trans (B2.out.mono hbs)).trans (bX.mono (by have := B2.out.size; omega)))
      have ltX : W2.heap.size < X.heap.size := T6.out.lt
      have le2 : w.heap.size ≤ W2.heap.size := by have := B2.out.size; omega
      clear hX bX
      obtain ⟨x10, x11, x12, x13, x14, x15, x16⟩ := T6.out.cs
      rcases KEY with ⟨k1, k2, k3, hl⟩ | ⟨k1, k2, k3, hl⟩
      all_goals
        go_wp2_with (at_builtin; refine wpList_append_own _ rfl _ _ 31 rfl w.heap.size 25 i0 (.agg #[.int .i64 0, .string ⟨#[]⟩, .string ⟨#[]⟩, .int .u64 0, .int .i64 0, .int .i64 0, .bool false]) 7 72 Tryz.underlying31 hi hz0 hz1 hz2 rfl (by decide) _ _ _ rfl (OX.out.alloc _) ⟨X.heap.size, 0, none⟩ 1 1 [.int .i64 k, .string tx, .string nu, .int .u64 bits, .int .i64 a, .int .i64 en, .bool ly] rfl rfl ?c1 ?c2 ?c3 ?c4 ?c5 ?_)
        case c1 => exact cells_new X 25 _
        case c2 =>
          intro u hu
          simp only [List.mem_cons, List.mem_nil_iff, or_false] at hu
          rcases hu with rfl | rfl | rfl | rfl | rfl | rfl | rfl <;> rfl
        case c3 => have := HQD.out; unfold maxLen; omega
        case c4 => have := HQD.out; omega
        case c5 => have := BX.out.size; simp; omega
        intro v' w2 hown' hgrow _
        have T7 : Hid (TkA w2 W2.heap.size k tx nu bits a en ly) := Lib.hid ⟨(hgrow.block _ (by simp; omega) (fun e => by have h1 := (HOWN.out.lt _ e.symm).2; have h2 := B2.out.size; omega)).trans ((Lib.alloc_old _ _ _ ltX).trans T6.out.h)⟩
        have B7 : Hid (Below w.heap.size w w2) := Lib.hid ((BX.out.alloc BX.out.size _).grown hgrow (by have := BX.out.size; simp; omega) (fun b hb => (OX.out.lt b hb).1))
        have O7 : Hid (w2.ownsRow w.heap.size 25 7 v' (done ++ [(TR.ok k tx nu bits a en, ly)]).length ((done ++ [(TR.ok k tx nu bits a en, ly)]).flatMap tkc)) := Lib.hid (by
          rw [List.length_append, List.flatMap_append]
          exact hown')
        clear hown' hgrow x10 x11 x12 x13 x14 x15 x16
        obtain ⟨x10, x11, x12, x13, x14, x15, x16⟩ := T7.out.cs
        go_wp2
      · go_quiet (fail)
        go_wp2
        refine bodyPost_ret (v := .tuple #[v', .bool true]) ?_ rfl ⟨.inl ⟨v', rfl, ?_, ⟨_, by rw [hl.out]; exact HLAST.out, rfl⟩⟩, below_dn B7.out _⟩
        · simp only [results, Tryz.results17]
          go_simp
          try rfl
        · rw [hl.out]; exact O7.out
      · go_roundw
        case rel => exact ⟨done ++ [(TR.ok k tx nu bits a en, ly)], rest2, en, q + 1, Lib.hid ⟨eL.out, hl.out.1, hl.out.2.1, O7.out, by have := HDL.out; have := hl.out.2.2; rw [List.length_append]; simp; omega, B7.out, by have := HQD.out; rw [List.length_append]; simp; omega⟩, rfl, by go_num⟩
        case measure => have := hl.out.2.2; have := hl.out.2.1; simp [intOf]; omega
end Go.Proofs
