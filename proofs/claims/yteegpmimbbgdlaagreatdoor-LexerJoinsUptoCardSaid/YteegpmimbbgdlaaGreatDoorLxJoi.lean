import Derived.Test.YteegpmimbbgdlaaGreatDoorLxPre
import Derived.Test.YteegpmimbbgdlaaGreatDoorLxTil
import Derived.Laws.Concat
/- The law LexerJoins. -/
namespace Go.Proofs
open Go.RowKit Go.Pf Go.Lx Go.Hb Go.Rb Go.Bg
/-- The tokens of the second text, behind the first one. -/
def yj (n : Nat) : List (TR × Bool) → List (TR × Bool)
  | [] => []
  | x :: r => (x.1.shf n, true) :: r.map (shT n)
theorem yj_len (n : Nat) (Y : List (TR × Bool)) : (yj n Y).length = Y.length := by
  cases Y with
  | nil => rfl
  | cons x r => simp [yj]
theorem yj_at {n : Nat} {done r : List (TR × Bool)} {x : TR × Bool} : ∃ d t, yj n (done ++ x :: r) = d ++ (x.1.shf n, x.2 || decide (done.length = 0)) :: t ∧ d.length = done.length := by
  cases done with
  | nil => exact ⟨[], r.map (shT n), by simp [yj], rfl⟩
  | cons y done => exact ⟨(y.1.shf n, true) :: done.map (shT n), r.map (shT n), by simp [yj, shT], by simp⟩
theorem er_shf (n : Nat) (R : TR) : TR.er (R.shf n) = TR.er R := by cases R <;> rfl
theorem yj_last {n : Nat} {Y : List (TR × Bool)} {x : TR × Bool} (h : Y.getLast? = some x) : ∃ y, (yj n Y).getLast? = some y ∧ TR.er y.1 = TR.er x.1 := by
  cases Y with
  | nil => cases h
  | cons z r =>
    cases r with
    | nil =>
      simp only [List.getLast?_singleton, Option.some.injEq] at h
      subst h
      exact ⟨_, rfl, er_shf n _⟩
    | cons u r =>
      rw [List.getLast?_cons_cons] at h
      refine ⟨shT n x, ?_, er_shf n _⟩
      show ((z.1.shf n, true) :: (u :: r).map (shT n)).getLast? = _
      rw [List.map_cons, List.getLast?_cons_cons, ← List.map_cons, List.getLast?_map, h]
      rfl
/-- All tokens of the two texts with a line's end between. -/
theorem join_ex {a b J : ByteArray} (h : Pre a J) (hS : Shf (a.size + 1) b J) {X Y : List (TR × Bool)} (hX : AllS a 0 X) (hY : AllS b 0 Y) (hx : ∃ x, X.getLast? = some x ∧ TR.er x.1 = 0) (hy : ∃ x, Y.getLast? = some x ∧ TR.er x.1 = 0) :
    ∃ Z e, X = Z ++ [e] ∧ AllS J 0 (Z ++ yj (a.size + 1) Y) ∧ ∃ x, (Z ++ yj (a.size + 1) Y).getLast? = some x ∧ TR.er x.1 = 0 := by
  obtain ⟨y, h1, h2⟩ := hy
  obtain ⟨y', h3, h4⟩ := yj_last (n := a.size + 1) h1
  obtain ⟨R, ly, r, rfl, _⟩ := hY.open'
  obtain ⟨Z, e, h5, h6⟩ := AllS.join h hS hY hX (Nat.zero_le _) hx
  exact ⟨Z, e, h5, h6, y', by rw [List.getLast?_append, h3]; rfl, by omega⟩
/-- What tokens tells, in one form. -/
theorem TksEnd.one {L : List (TR × Bool)} {w w' : World} {e : Ending} (h : TksEnd L w e w') : ∃ (m : Nat) (M : List (TR × Bool)) (va : Option Addr) (vc : Nat) (ok : Bool), e = .returned (.tuple #[.slice va m vc, .bool ok]) ∧
    Hid (m = M.length ∧ w'.ownsRow w.heap.size 25 7 (.slice va m vc) m (M.flatMap tkc) ∧ (ok = true → M = L ∧ ∃ x, L.getLast? = some x ∧ TR.er x.1 = 0) ∧ ((∃ x, L.getLast? = some x ∧ TR.er x.1 = 0) → ok = true)) ∧ Below w.heap.size w w' := by
  obtain ⟨h1, hb⟩ := h
  rcases h1 with ⟨v, rfl, hown, hl⟩ | ⟨rfl, x, hx, hxe⟩
  · obtain ⟨va, vc, rfl⟩ : ∃ a c, v = .slice a L.length c := by
      rcases hown.2 with ⟨rfl, h⟩ | ⟨g, cap, cur, rfl, _⟩
      · exact ⟨_, _, by rw [h]⟩
      · exact ⟨_, _, rfl⟩
    exact ⟨L.length, L, va, vc, true, rfl, Lib.hid ⟨rfl, hown, fun _ => ⟨rfl, hl⟩, fun _ => rfl⟩, hb⟩
  · refine ⟨0, [], none, 0, false, rfl, Lib.hid ⟨rfl, World.ownsRow_nil _ _ _ _, fun h => (by cases h), ?_⟩, hb⟩
    rintro ⟨y, hy, hye⟩
    rw [hx] at hy
    cases hy
    exact absurd hye hxe
set_option maxRecDepth 100000 in
set_option maxHeartbeats 20000000 in
theorem lawJoinsAt (a b : ByteArray) (w : World) (ha : a.size ≤ 1048576) (hb : b.size ≤ 1048576) (h : Laid1 w) : Calls Tryz.prog 6 #[.string a, .string b] w (LawT w) := by
  obtain ⟨X, hX⟩ := AllS.ex a a.size 0 (Nat.zero_le _) (by omega)
  obtain ⟨Y, hY⟩ := AllS.ex b b.size 0 (Nat.zero_le _) (by omega)
  have lX := (hX.len (Nat.zero_le _)).1
  have lY := (hY.len (Nat.zero_le _)).1
  have HX := Lib.hid hX
  have HY := Lib.hid hY
  have hM := Lib.hid h
  clear h hX hY
  go_enter Tryz.func6, Tryz.ntmps6
  go_wp2_with (go_at_call 11; (with_reducible refine hM.out.awake.mono ?_))
  rintro e W1 ⟨rfl, b1⟩
  have B1 := Lib.hid b1
  have M1 := Lib.hid (hM.out.below b1)
  clear b1
  go_wp2_with (go_at_call 17; (with_reducible refine (Tryz.tokens a X _ (by omega) HX M1).mono ?_))
  rintro e W2 hT
  obtain ⟨mx, MX, vxa, vxc, ok1, rfl, RX, b2⟩ := hT.one
  have B2 := Lib.hid (B1.out.trans (b2.mono B1.out.size))
  have M2 := Lib.hid (hM.out.below B2.out)
  clear hT b2
  go_wp2_with (go_at_call 17; (with_reducible refine (Tryz.tokens b Y _ (by omega) HY M2).mono ?_))
  rintro e W3 hT
  obtain ⟨my, MY, vya, vyc, ok2, rfl, RY, b3⟩ := hT.one
  have B3 := Lib.hid (B2.out.trans (b3.mono B2.out.size))
  have M3 := Lib.hid (hM.out.below B3.out)
  have RX3 := Lib.hid (own_below RX.out.2.1 b3)
  have s23 := b3.size
  have s12 := B1.out.size
  clear hT b3
  have RET : Hid (∀ W', Below W3.heap.size W3 W' → LawT w (.returned (.bool true)) W') := Lib.hid (fun W' hb => ⟨rfl, B3.out.trans (hb.mono B3.out.size)⟩)
  cases ok1
  · go_wp2
    refine bodyPost_ret (v := .bool true) ?_ rfl (RET.out _ (Below.refl _ _))
    simp only [results, Tryz.results6]
    go_simp
    try rfl
  cases ok2
  · go_wp2
    refine bodyPost_ret (v := .bool true) ?_ rfl (RET.out _ (Below.refl _ _))
    simp only [results, Tryz.results6]
    go_simp
    try rfl
  have eMX := (RX.out.2.2.1 rfl).1
  have eMY := (RY.out.2.2.1 rfl).1
  subst eMX eMY
  obtain ⟨Z, e, eX, hJ, hL⟩ := join_ex (pre_of a b) (shf_nl a b) HX.out HY.out (RX.out.2.2.1 rfl).2 (RY.out.2.2.1 rfl).2
  obtain ⟨m, rfl⟩ : ∃ m, mx = m + 1 := ⟨Z.length, by rw [RX.out.1, eX]; simp⟩
  have YS : Hid (RestS b 0 MY) := Lib.hid (.inr ⟨HY.out, (RY.out.2.2.1 rfl).2⟩)
  have HJ := Lib.hid hJ
  have HL := Lib.hid hL
  have EX := Lib.hid eX
  have hms : m + 1 ≤ 1048577 := by have := RX.out.1; omega
  have hys : my ≤ 1048577 := by have := RY.out.1; omega
  clear hJ hL eX lX lY
  have z1 : (a ++ (⟨#[10]⟩ : ByteArray)).size = a.size + 1 := by rw [ByteArray.size_append]; rfl
  have A1 : ∀ w : World, (Op.stringOp .add a ⟨#[10]⟩).run Tryz.prog w = .ok (.string (a ++ ⟨#[10]⟩)) w := fun w => run_string_add_sum w _ _ (by show a.size + 1 ≤ _; omega)
  have A2 : ∀ w : World, (Op.stringOp .add (a ++ ⟨#[10]⟩) b).run Tryz.prog w = .ok (.string ((a ++ ⟨#[10]⟩) ++ b)) w := fun w => run_string_add_sum w _ _ (by rw [z1]; omega)
  go_wp2_with (go_at_call 17; (with_reducible refine (Tryz.tokens ((a ++ ⟨#[10]⟩) ++ b) (Z ++ yj (a.size + 1) MY) _ (by rw [ByteArray.size_append, z1]; omega) HJ M3).mono ?_))
  rintro e4 W4 hT
  obtain ⟨mz, MZ, vza, vzc, ok3, rfl, RZ, b4⟩ := hT.one
  obtain rfl : ok3 = true := RZ.out.2.2.2 HL.out
  have eMZ := (RZ.out.2.2.1 rfl).1
  have emz : mz = m + my := by
    have h1 := RX.out.1
    have h2 := RY.out.1
    rw [RZ.out.1, eMZ, List.length_append, yj_len]
    rw [EX.out, List.length_append] at h1
    simp at h1
    omega
  subst emz
  clear A1 A2 z1 hT
  have OX : Hid (W4.ownsRow W1.heap.size 25 7 (.slice vxa (m + 1) vxc) (m + 1) (MX.flatMap tkc)) := Lib.hid (own_below RX3.out b4)
  have OY : Hid (W4.ownsRow W2.heap.size 25 7 (.slice vya my vyc) my (MY.flatMap tkc)) := Lib.hid (own_below RY.out.2.1 b4)
  have OZ : Hid (W4.ownsRow W3.heap.size 25 7 (.slice vza (m + my) vzc) (m + my) (MZ.flatMap tkc)) := Lib.hid RZ.out.2.1
  have LX : Hid (m + 1 = MX.length) := Lib.hid RX.out.1
  have LY : Hid (my = MY.length) := Lib.hid RY.out.1
  have LZ : Hid (m + my = MZ.length) := Lib.hid RZ.out.1
  have EZ := Lib.hid eMZ
  have LZZ : Hid (m = Z.length) := Lib.hid (by have h1 := RX.out.1; rw [EX.out, List.length_append] at h1; simp at h1; omega)
  have RET4 : Hid (∀ W', Below W4.heap.size W4 W' → LawT w (.returned (.bool true)) W') := Lib.hid (fun W' hb => RET.out W' (b4.trans (hb.mono b4.size)))
  clear RX RX3 RY RZ b4 eMZ HL RET HX HY B1 B2 B3 M1 M2 M3 hM HJ s12 s23
  go_wp2_with fail
  go_loopw [12] (fun i wr => ∃ (done rest : List (TR × Bool)) (q : Nat), Hid (Z = done ++ rest ∧ q = done.length ∧ Below W4.heap.size W4 wr) ∧ i = .int .i64 q) (fun i _ => m - (intOf i).toNat)
  case atStart => exact ⟨[], Z, 0, Lib.hid ⟨rfl, rfl, Below.refl _ _⟩, rfl⟩
  case round =>
    obtain ⟨done, rest, q, hq, rfl⟩ := hrel
    have hqm : q ≤ m := by
      have h1 := hq.out.1
      have h2 := hq.out.2.1
      have h3 := LZZ.out
      rw [h1, List.length_append] at h3
      omega
    by_cases hlt : q < m
    · obtain ⟨e1, hqd, hbl⟩ := hq.out
      obtain ⟨x, rest2, rfl⟩ : ∃ x r, rest = x :: r := by
        cases rest with
        | nil => rw [e1, List.append_nil] at LZZ; have := LZZ.out; omega
        | cons x r => exact ⟨x, r, rfl⟩
      obtain ⟨gx, rfl, hgx⟩ := row_ptr (by omega) OX.out
      obtain ⟨gz, rfl, hgz⟩ := row_ptr (by omega) OZ.out
      have CX : Hid (∀ W', Below W4.heap.size W4 W' → ∀ j v, (tkc x)[j]? = some v → W'.cell? ⟨gx, q * 7 + j, none⟩ = some v) := Lib.hid (fun W' hb j v hv => row_cells (r := rest2 ++ [e]) hqd (by rw [EX.out, e1, List.append_assoc]; rfl) LX.out OX.out hb hv)
      have CZ : Hid (∀ W', Below W4.heap.size W4 W' → ∀ j v, (tkc x)[j]? = some v → W'.cell? ⟨gz, q * 7 + j, none⟩ = some v) := Lib.hid (fun W' hb j v hv => row_cells (r := rest2 ++ yj (a.size + 1) MY) hqd (by rw [EZ.out, e1, List.append_assoc]; rfl) LZ.out OZ.out hb hv)
      have HBL := Lib.hid hbl
      have HE1 := Lib.hid e1
      have HQD := Lib.hid hqd
      have hwl := hbl.size
      clear hq e1 hqd hbl
      obtain ⟨k, tx, nu, bits, a0, en, lz, hx⟩ := tkc_form x
      rw [hx] at CX CZ
      have x0 : wr.cell? ⟨gx, q * 7, none⟩ = some (.int .i64 k) := CX.out wr HBL.out 0 _ rfl
      have x1 := CX.out wr HBL.out 1 _ rfl
      have x2 := CX.out wr HBL.out 2 _ rfl
      have x3 := CX.out wr HBL.out 3 _ rfl
      have x4 := CX.out wr HBL.out 4 _ rfl
      have x5 := CX.out wr HBL.out 5 _ rfl
      have x6 := CX.out wr HBL.out 6 _ rfl
      have z0 : wr.cell? ⟨gz, q * 7, none⟩ = some (.int .i64 k) := CZ.out wr HBL.out 0 _ rfl
      have z1 := CZ.out wr HBL.out 1 _ rfl
      have z2 := CZ.out wr HBL.out 2 _ rfl
      have z3 := CZ.out wr HBL.out 3 _ rfl
      have z4 := CZ.out wr HBL.out 4 _ rfl
      have z5 := CZ.out wr HBL.out 5 _ rfl
      have z6 := CZ.out wr HBL.out 6 _ rfl
      have li : (q : Int) < m := by omega
      have li2 : (q : Int) < ((m + my : Nat) : Int) := by omega
      have li3 : (q : Int) < ((m + 1 : Nat) : Int) := by omega
      go_upto_region 12 with fail
      go_quiet (fail)
      go_wp2
      go_roundw
      case rel => exact ⟨done ++ [x], rest2, q + 1, Lib.hid ⟨by rw [HE1.out, List.append_assoc]; rfl, by rw [List.length_append, HQD.out]; rfl, below_dn HBL.out _⟩, by go_num⟩
      case measure => simp [intOf]; omega
    · have hnl : ¬ (q : Int) < m := by omega
      have HBW := Lib.hid hq.out.2.2
      clear hq
      go_wp2_with fail
      go_loopw [13] (fun i ws => ∃ (done rest : List (TR × Bool)) (p q : Nat), Hid (MY = done ++ rest ∧ RestS b p rest ∧ p ≤ b.size ∧ q = done.length ∧ Below W4.heap.size W4 ws) ∧ i = .int .i64 q) (fun i _ => my - (intOf i).toNat)
      case atStart => exact ⟨[], MY, 0, 0, Lib.hid ⟨rfl, YS.out, Nat.zero_le _, rfl, HBW.out⟩, rfl⟩
      case round =>
        obtain ⟨done, rest, p, q, hq, rfl⟩ := hrel
        have hqm : q ≤ my := by
          have h1 := hq.out.1
          have h2 := hq.out.2.2.2.1
          have h3 := LY.out
          rw [h1, List.length_append] at h3
          omega
        by_cases hlt : q < my
        · obtain ⟨e1, hrs, hp, hqd, hbl⟩ := hq.out
          obtain ⟨x, rest2, rfl⟩ : ∃ x r, rest = x :: r := by
            cases rest with
            | nil => rw [e1, List.append_nil] at LY; have := LY.out; omega
            | cons x r => exact ⟨x, r, rfl⟩
          obtain ⟨k, tx, nu, bits, a0, en, ly, rfl, hly, ha0, hen, hN, hrs2⟩ := hrs.open' hp
          clear hly hN
          obtain ⟨gy, rfl, hgy⟩ := row_ptr (by omega) OY.out
          obtain ⟨gz, rfl, hgz⟩ := row_ptr (by omega) OZ.out
          obtain ⟨fd, tl, eyj, hfd⟩ := yj_at (n := a.size + 1) (done := done) (r := rest2) (x := (TR.ok k tx nu bits a0 en, ly))
          have CY : Hid (∀ W', Below W4.heap.size W4 W' → ∀ j v, (tkc (TR.ok k tx nu bits a0 en, ly))[j]? = some v → W'.cell? ⟨gy, q * 7 + j, none⟩ = some v) := Lib.hid (fun W' hb j v hv => row_cells (r := rest2) hqd e1 LY.out OY.out hb hv)
          have CZ : Hid (∀ W', Below W4.heap.size W4 W' → ∀ j v, (tkc (TR.ok k tx nu bits (a.size + 1 + a0) (a.size + 1 + en), ly || decide (done.length = 0)))[j]? = some v → W'.cell? ⟨gz, (m + q) * 7 + j, none⟩ = some v) := Lib.hid (fun W' hb j v hv => row_cells (done := Z ++ fd) (r := tl) (q := m + q) (by rw [List.length_append, hfd, ← hqd, ← LZZ.out]) (by rw [EZ.out, e1, eyj, List.append_assoc]; rfl) LZ.out OZ.out hb hv)
          have HBL := Lib.hid hbl
          have HE1 := Lib.hid e1
          have HQD := Lib.hid hqd
          have HRS := Lib.hid hrs2
          have hwl := hbl.size
          obtain ⟨lf, hlf⟩ : ∃ lf, lf = (ly || decide (done.length = 0)) := ⟨_, rfl⟩
          obtain ⟨za, hza⟩ : ∃ za, za = a.size + 1 + a0 := ⟨_, rfl⟩
          obtain ⟨ze, hze⟩ : ∃ ze, ze = a.size + 1 + en := ⟨_, rfl⟩
          rw [← hlf, ← hza, ← hze] at CZ
          rw [← hqd] at hlf
          clear hq e1 hqd hbl hrs hrs2 eyj hfd
          have y0 : wr.cell? ⟨gy, q * 7, none⟩ = some (.int .i64 k) := CY.out wr HBL.out 0 _ rfl
          have y1 := CY.out wr HBL.out 1 _ rfl
          have y2 := CY.out wr HBL.out 2 _ rfl
          have y3 := CY.out wr HBL.out 3 _ rfl
          have y4 := CY.out wr HBL.out 4 _ rfl
          have y5 := CY.out wr HBL.out 5 _ rfl
          have y6 := CY.out wr HBL.out 6 _ rfl
          have li : (q : Int) < my := by omega
          go_upto_region 18 with fail
          generalize hX : wr.alloc _ = V1
          have T1 : Hid (TkA V1 wr.heap.size k tx nu bits a0 en ly) := Lib.hid (by rw [← hX]; exact TkA.of_new wr _ _ _ _ _ _ _)
          have BX : Hid (Below W4.heap.size W4 V1) := Lib.hid (by rw [← hX]; exact HBL.out.alloc hwl _)
          clear hX y0 y1 y2 y3 y4 y5 y6
          obtain ⟨x10, x11, x12, x13, x14, x15, x16⟩ := T1.out.cs
          have f4 := T1.out.f 4
          have i1 : (a0 : Int) + (a.size : Int) + 1 = (za : Int) := by omega
          have i2 : (en : Int) + (a.size : Int) + 1 = (ze : Int) := by omega
          have HLF := Lib.hid hlf
          clear hza hze hlf
          go_upto_region 19 with fail
          generalize hX : V1.setCell _ _ = V2
          have T2 : Hid (TkA V2 wr.heap.size k tx nu bits za en ly) := Lib.hid (by rw [← hX]; exact ⟨heap_setCell_same V1 wr.heap.size 4 _ 25 (.int .i64 za) T1.out.h⟩)
          have BX2 : Hid (Below W4.heap.size W4 V2) := Lib.hid (by rw [← hX]; exact BX.out.setCell (p := ⟨wr.heap.size, 4, none⟩) hwl _)
          clear hX x10 x11 x12 x13 x14 x15 x16 f4
          obtain ⟨x10, x11, x12, x13, x14, x15, x16⟩ := T2.out.cs
          have f5 := T2.out.f 5
          go_upto_region 20 with fail
          generalize hX : V2.setCell _ _ = V3
          have T3 : Hid (TkA V3 wr.heap.size k tx nu bits za ze ly) := Lib.hid (by rw [← hX]; exact ⟨heap_setCell_same V2 wr.heap.size 5 _ 25 (.int .i64 ze) T2.out.h⟩)
          have BX3 : Hid (Below W4.heap.size W4 V3) := Lib.hid (by rw [← hX]; exact BX2.out.setCell (p := ⟨wr.heap.size, 5, none⟩) hwl _)
          clear hX x10 x11 x12 x13 x14 x15 x16 f5
          obtain ⟨x10, x11, x12, x13, x14, x15, x16⟩ := T3.out.cs
          have f6 := T3.out.f 6
          have KEY : (ly = true ∧ lf = true) ∨ (ly = false ∧ ((q : Int) == 0) = lf) := by
            have h := HLF.out
            cases ly
            · refine .inr ⟨rfl, ?_⟩
              rw [h, Bool.false_or]
              exact Bool.eq_iff_iff.2 (by simp)
            · exact .inl ⟨rfl, by rw [h]; rfl⟩
          rcases KEY with ⟨rfl, rfl⟩ | ⟨rfl, hq0⟩
          all_goals
            go_upto_region 21 with fail
            generalize hX : V3.setCell _ _ = V4
            have T4 : Hid (TkA V4 wr.heap.size k tx nu bits za ze _) := Lib.hid (by rw [← hX]; exact ⟨heap_setCell_same V3 wr.heap.size 6 _ 25 (.bool _) T3.out.h⟩)
            have BX4 : Hid (Below W4.heap.size W4 V4) := Lib.hid (by rw [← hX]; exact BX3.out.setCell (p := ⟨wr.heap.size, 6, none⟩) hwl _)
            clear hX x10 x11 x12 x13 x14 x15 x16 f6
            obtain ⟨x10, x11, x12, x13, x14, x15, x16⟩ := T4.out.cs
            have z0 : V4.cell? ⟨gz, (m + q) * 7, none⟩ = some (.int .i64 k) := CZ.out V4 BX4.out 0 _ rfl
            have z1 := CZ.out V4 BX4.out 1 _ rfl
            have z2 := CZ.out V4 BX4.out 2 _ rfl
            have z3 := CZ.out V4 BX4.out 3 _ rfl
            have z4 := CZ.out V4 BX4.out 4 _ rfl
            have z5 := CZ.out V4 BX4.out 5 _ rfl
            have z6 := CZ.out V4 BX4.out 6 _ rfl
            have li2 : (m : Int) + (q : Int) < ((m + my : Nat) : Int) := by omega
            go_quiet (fail)
            go_wp2
            go_roundw
            case rel => exact ⟨done ++ [(TR.ok k tx nu bits a0 en, _)], rest2, en, q + 1, Lib.hid ⟨by rw [HE1.out, List.append_assoc]; rfl, HRS.out, hen, by rw [List.length_append, HQD.out]; rfl, below_dn BX4.out _⟩, by go_num⟩
            case measure => simp [intOf]; omega
        · have hnl2 : ¬ (q : Int) < my := by omega
          go_wp2
          refine bodyPost_ret (v := .bool true) ?_ rfl (RET4.out _ hq.out.2.2.2.2)
          simp only [results, Tryz.results6]
          go_simp
          try rfl
end Go.Proofs
