import Derived.Test.YteegpmimbbgdlaaGreatDoorLxRw
/- The law LexerTiles. -/
namespace Go.Proofs
open Go.RowKit Go.Pf Go.Lx Go.Hb Go.Rb Go.Bg
/-- The rest of the tokens: none, or all from a place on, with nothing wrong. -/
def RestS (s : ByteArray) (p : Nat) (l : List (TR × Bool)) : Prop := l = [] ∨ (AllS s p l ∧ ∃ x, l.getLast? = some x ∧ TR.er x.1 = 0)
theorem RestS.open' {s : ByteArray} {p : Nat} {x : TR × Bool} {l : List (TR × Bool)} (hp : p ≤ s.size) (h : RestS s p (x :: l)) :
    ∃ k tx nu bits a en ly, x = (.ok k tx nu bits a en, ly) ∧ ly = decide (p < a) ∧ a ≤ s.size ∧ en ≤ s.size ∧ NxAt s a (.ok k tx nu bits a en) false ∧ RestS s en l := by
  rcases h with h | ⟨h, y, hy, hye⟩
  · cases h
  · obtain ⟨R, ly, r, e1, hN, hc⟩ := h.open'
    simp only [List.cons.injEq] at e1
    obtain ⟨rfl, rfl⟩ := e1
    rcases hc with ⟨h1, h2⟩ | ⟨h1, h2, tx, nu, b, a, e, rfl⟩ | ⟨h1, k, tx, nu, b, a, e, rfl, h2, h3⟩
    · subst h2
      simp only [List.getLast?_singleton, Option.some.injEq] at hy
      subst hy
      exact absurd hye h1
    · have h3 := hN.ok hp
      exact ⟨10, tx, nu, b, a, e, ly, rfl, h3.2.2.2.2.1, h3.2.2.2.1, h3.2.2.2.2.2.1, hN.self hp, .inl h2⟩
    · have h4 := hN.ok hp
      refine ⟨k, tx, nu, b, a, e, ly, rfl, h4.2.2.2.2.1, h4.2.2.2.1, h4.2.2.2.2.2.1, hN.self hp, .inr ⟨h3, y, ?_, hye⟩⟩
      have h5 := (h3.len h4.2.2.2.2.2.1).2
      cases l with
      | nil => simp at h5
      | cons z l => rw [List.getLast?_cons_cons] at hy; exact hy
set_option maxRecDepth 100000 in
set_option maxHeartbeats 20000000 in
theorem lawTilesAt (s : ByteArray) (w : World) (hs : s.size ≤ 1048576) (h : Laid1 w) : Calls Tryz.prog 5 #[.string s] w (LawT w) := by
  obtain ⟨L, hL⟩ := AllS.ex s s.size 0 (Nat.zero_le _) (by omega)
  have HL := Lib.hid hL
  have hM := Lib.hid h
  clear h hL
  go_enter Tryz.func5, Tryz.ntmps5
  go_wp2_with (go_at_call 11; (with_reducible refine hM.out.awake.mono ?_))
  rintro e W1 ⟨rfl, b1⟩
  have B1 := Lib.hid b1
  clear b1
  go_wp2_with (go_at_call 16; (with_reducible refine (Tryz.rall s L _ hs HL).mono ?_))
  rintro e W2 ⟨v1, er, rfl, _, ⟨x, hx, hex⟩, b2⟩
  have B2 := Lib.hid (B1.out.trans (b2.mono B1.out.size))
  have M2 := Lib.hid (hM.out.below B2.out)
  have HX := Lib.hid (And.intro hx hex)
  clear b2 hx hex
  go_wp2_with (go_at_call 17; (with_reducible refine (Tryz.tokens s L _ (by omega) HL M2).mono ?_))
  rintro e W3 ⟨hT, b3⟩
  have B3 := Lib.hid (B2.out.trans (b3.mono B2.out.size))
  have KEY : ∃ (M : List (TR × Bool)) (v : Value) (ok : Bool), e = .returned (.tuple #[v, .bool ok]) ∧ ((er : Int) == 0) = ok ∧ Hid (W3.ownsRow W2.heap.size 25 7 v M.length (M.flatMap tkc) ∧ RestS s 0 M) := by
    rcases hT with ⟨v, rfl, hown, y, hy, hye⟩ | ⟨rfl, y, hy, hye⟩
    · have exy : x = y := Option.some.inj (HX.out.1.symm.trans hy)
      subst exy
      exact ⟨L, v, true, rfl, beq_of_eq (by rw [HX.out.2]; omega), Lib.hid ⟨hown, .inr ⟨HL.out, x, hy, hye⟩⟩⟩
    · have exy : x = y := Option.some.inj (HX.out.1.symm.trans hy)
      subst exy
      exact ⟨[], _, false, rfl, beq_of_ne (by rw [HX.out.2]; omega), Lib.hid ⟨World.ownsRow_nil _ _ _ _, .inl rfl⟩⟩
  obtain ⟨M, v, ok, rfl, k1, HR⟩ := KEY
  clear hT b3
  obtain ⟨va, vc, hv⟩ : ∃ a c, v = .slice a M.length c := by
    rcases HR.out.1.2 with ⟨rfl, h⟩ | ⟨g, cap, cur, rfl, _⟩
    · exact ⟨_, _, by rw [h]⟩
    · exact ⟨_, _, rfl⟩
  subst hv
  obtain ⟨m, hm⟩ : ∃ m, m = M.length := ⟨_, rfl⟩
  rw [← hm]
  have HMM := Lib.hid hm
  have bm : m ≤ 1048577 := by
    rcases HR.out.2 with h | ⟨h, _⟩
    · rw [hm, h]; simp
    · have := (h.len (Nat.zero_le _)).1; omega
  clear hm
  cases ok
  all_goals
    go_wp2
    go_loopw [8, 9] (fun at_ i wr => ∃ (done rest : List (TR × Bool)) (p q : Nat), Hid (M = done ++ rest ∧ RestS s p rest ∧ p ≤ s.size ∧ q = done.length ∧ Below W3.heap.size W3 wr) ∧ at_ = .int .i64 p ∧ i = .int .i64 q) (fun _ i _ => m - (intOf i).toNat)
    case atStart => exact ⟨[], M, 0, 0, Lib.hid ⟨rfl, HR.out.2, Nat.zero_le _, rfl, Below.refl _ _⟩, rfl, rfl⟩
    case round =>
      obtain ⟨done, rest, p, q, hq, rfl, rfl⟩ := hrel
      have hqm : q ≤ m := by
        have h1 := hq.out.1
        have h2 := hq.out.2.2.2.1
        have h3 := HMM.out
        rw [h1, List.length_append] at h3
        omega
      by_cases hlt : q < m
      · obtain ⟨e1, hrs, hp, hqd, hbl⟩ := hq.out
        obtain ⟨x, rest2, rfl⟩ : ∃ x r, rest = x :: r := by
          cases rest with
          | nil => rw [e1, List.append_nil] at HMM; have := HMM.out; omega
          | cons x r => exact ⟨x, r, rfl⟩
        obtain ⟨k, tx, nu, bits, a, en, ly, rfl, hly, ha, hen, hN, hrs2⟩ := hrs.open' hp
        have CN : Hid (∀ W, Laid1 W → Calls Tryz.prog 12 #[.string s, .int .i64 a] W fun e w' => e = .returned (.tuple #[.agg #[.int .i64 k, .string tx, .string nu, .int .u64 bits, .int .i64 a, .int .i64 en, .bool false], .int .i64 0]) ∧ Below W.heap.size W w') := Lib.hid (fun W hW => pnext_at (by omega) ha hN W hW)
        have hown := own_below HR.out.1 hbl
        obtain ⟨g, rfl⟩ : ∃ g, va = some ⟨g, 0, none⟩ := by
          rcases hown.2 with ⟨_, h⟩ | ⟨g, cap, cur, h, _⟩
          · have := HMM.out; omega
          · simp only [Value.slice.injEq] at h; exact ⟨g, h.1⟩
        have hlt2 := (hown.lt g rfl).2
        have CELL : ∀ W', Below wr.heap.size wr W' → ∀ j v, (tkc (TR.ok k tx nu bits a en, ly))[j]? = some v → W'.cell? ⟨g, q * 7 + j, none⟩ = some v := fun W' hb j v hv => by
          have h1 := own_below hown hb
          have hj : j < 7 := by
            rcases Nat.lt_or_ge j (tkc (TR.ok k tx nu bits a en, ly)).length with h1 | h1
            · rw [tkc_len] at h1; exact h1
            · rw [List.getElem?_eq_none h1] at hv; cases hv
          rw [World.ownsRow.cellAt h1 (q * 7 + j) (by have := HMM.out; omega), e1]
          exact tkc_at hqd hv
        have HCELL := Lib.hid CELL
        have c4 := CELL wr (Below.refl _ _) 4 _ rfl
        have li : (q : Int) < m := by omega
        have hly1 : ly = decide (p < a) := hly
        have MW := Lib.hid (hM.out.below (B3.out.trans (hbl.mono (by have := B3.out.size; omega))))
        have HBL := Lib.hid hbl
        have HE1 := Lib.hid e1
        have HRS := Lib.hid hrs2
        have HQD := Lib.hid hqd
        have HLY := Lib.hid hly1
        have hwl := hbl.size
        clear e1 hrs hq hbl hown CELL hly hly1 hN hrs2 hqd
        go_wp2_with (go_at_call 12; (with_reducible refine (CN.out _ MW.out).mono ?_))
        rintro e V ⟨rfl, bV⟩
        have BV := Lib.hid bV
        clear bV c4
        go_upto_region 11 with fail
        generalize hX : V.alloc _ = X
        have T1 : Hid (TkA X V.heap.size k tx nu bits a en false) := Lib.hid (by rw [← hX]; exact TkA.of_new V _ _ _ _ _ _ _)
        have BX : Hid (Below wr.heap.size wr X) := Lib.hid (BV.out.trans (by rw [← hX]; exact ((Below.refl _ _).alloc BV.out.size _)))
        clear hX
        have cX6 := HCELL.out X BX.out 6 _ rfl
        have gV : g ≠ V.heap.size := by have := BV.out.size; omega
        obtain ⟨x10, x11, x12, x13, x14, x15, x16⟩ := T1.out.cs
        have y16 := T1.out.f 6
        go_upto_region 12 with fail
        generalize hY : X.setCell _ _ = Y
        have T2 : Hid (TkA Y V.heap.size k tx nu bits a en ly) := Lib.hid (by rw [← hY]; exact ⟨heap_setCell_same X V.heap.size 6 _ 25 (.bool ly) T1.out.h⟩)
        have BY : Hid (Below wr.heap.size wr Y) := Lib.hid (by rw [← hY]; exact BX.out.setCell (p := ⟨V.heap.size, 6, none⟩) BV.out.size _)
        clear hY cX6 x10 x11 x12 x13 x14 x15 x16 y16
        obtain ⟨x10, x11, x12, x13, x14, x15, x16⟩ := T2.out.cs
        have z0 : Y.cell? ⟨g, q * 7, none⟩ = some (.int .i64 k) := HCELL.out Y BY.out 0 _ rfl
        have z1 := HCELL.out Y BY.out 1 _ rfl
        have z2 := HCELL.out Y BY.out 2 _ rfl
        have z3 := HCELL.out Y BY.out 3 _ rfl
        have z4 := HCELL.out Y BY.out 4 _ rfl
        have z5 := HCELL.out Y BY.out 5 _ rfl
        have z6 := HCELL.out Y BY.out 6 _ rfl
        have l1 : decide (p < a) = ly := HLY.out.symm
        have l2 : decide ((p : Int) < a) = ly := by rw [HLY.out]; exact decide_eq_decide.2 (by omega)
        go_quiet (fail)
        go_wp2
        go_roundw
        case rel => exact ⟨done ++ [(TR.ok k tx nu bits a en, ly)], rest2, en, q + 1, Lib.hid ⟨by rw [HE1.out, List.append_assoc]; rfl, HRS.out, hen, by rw [List.length_append, HQD.out]; rfl, HBL.out.trans ((below_dn BY.out _).mono hwl)⟩, rfl, by go_num⟩
        case measure => simp [intOf]; omega
      · have hnl : ¬ (q : Int) < m := by omega
        go_wp2
        refine bodyPost_ret (v := .bool true) ?_ rfl ⟨rfl, B3.out.trans (hq.out.2.2.2.2.mono B3.out.size)⟩
        simp only [results, Tryz.results5]
        go_simp
        try rfl
end Go.Proofs
