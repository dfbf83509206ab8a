import Derived.RangeFuncNested
import Derived.RangeFuncBound
import Derived.RangeFuncCalls
import Derived.RangeFuncLeaves
import Derived.Shelf.Abstract
import Derived.Shelf.RegionOpen
import Derived.OwnWalkIn
import Derived.TacticsInMore
import Derived.LoopNIn
import Derived.LoopIn
import Derived.Test.YteegpmimbbgdlaaGreatDoorLxRw
import Derived.Sort.QuietIn
/- The law LexerWhole: the tokens by an iterator. -/
namespace Go.Proofs
open Go.RowKit Go.Shelf Go.Pf Go.Lx Go.Hb Go.Rb Go.Bg
attribute [local go_sem] Oper.semAt_some
/-- What a round hands on: the token, its number. -/
def encT (x : TR × Bool) : Array Value := #[TR.tokL x.1 x.2, .int .i64 (TR.er x.1)]
/-- What a round keeps: what lay below n₀, and whatever cells lie outside of bx. -/
structure KpB (n₀ : Nat) (bx : List Nat) (W W' : World) : Prop where
  bel : Below n₀ W W'
  cells : ∀ k o, k ∉ bx → W.heap[k]? = some o → o.isCells = true → W'.heap[k]? = some o
theorem KpB.refl (n₀ : Nat) (bx : List Nat) (W : World) : KpB n₀ bx W W := ⟨Below.refl _ _, fun _ _ _ h _ => h⟩
theorem KpB.trans {n₀ : Nat} {bx : List Nat} {A B C : World} (h : KpB n₀ bx A B) (k : KpB n₀ bx B C) : KpB n₀ bx A C := ⟨h.bel.trans k.bel, fun i o hi hA ho => k.cells i o hi (h.cells i o hi hA ho) ho⟩
theorem KpB.put {n₀ : Nat} {bx : List Nat} {w : World} (hn : n₀ ≤ w.heap.size) (W : World) (l : Nat) (o o' : Obj) (hl : w.heap.size ≤ l) (h : W.heap[l]? = some o) (hc : o.isCells = false) (hw : o.isWalk = false) : KpB n₀ bx W (W.putObj l o') :=
  ⟨belowK_b hn W l o o' hl h hc hw, fun k u _ hk hu => (World.putObj_heap_other (fun e => by subst e; rw [h] at hk; cases hk; rw [hc] at hu; cases hu)).trans hk⟩
theorem KpB.of_below {n₀ : Nat} {bx : List Nat} {W W' : World} (hn : n₀ ≤ W.heap.size) (h : Below W.heap.size W W') : KpB n₀ bx W W' := ⟨h.mono hn, fun k _ _ hk _ => (h.block k (Array.getElem?_eq_some_iff.1 hk).1).trans hk⟩
theorem grown_of_below {W W' : World} (h : Below W.heap.size W W') : W.grownBy W' none := ⟨h.os, h.tape, h.output, h.size, fun k hk _ => h.block k hk⟩
set_option maxRecDepth 100000 in
set_option maxHeartbeats 4000000 in
/-- All: the text's block, and a function over it. -/
theorem Tryz.pall (s : ByteArray) (w : World) : Calls Tryz.prog 25 #[.string s] w fun e w' => e = .returned (.func (.func 39) #[] #[.pointer (some ⟨w.heap.size, 0, none⟩)]) ∧ w' = w.alloc (.cells #[.string s] 9) := by
  refine (callsIn_wide (n := 3)).1 ?_
  refine callsIn_of_wp Tryz.func25 rfl trivial ?_ rfl
  simp only [Tryz.ntmps25, List.size_toArray, List.length_cons, List.length_nil, Nat.reduceAdd, Nat.reduceSub, Array.replicate_succ, Array.replicate_zero, List.push_toArray, List.append_toArray, List.nil_append, List.cons_append]
  gi_wp2
  go_ret
  exact ⟨rfl, rfl⟩
set_option maxRecDepth 100000 in
set_option maxHeartbeats 20000000 in
theorem Tryz.pall1 (n : Nat) (hn : 1 ≤ n) (l Bt n₀ : Nat) (bx : List Nat) (s : ByteArray) (L : List (TR × Bool)) (hs : s.size ≤ 1048576) (hL : AllS s 0 L) (J Jx : List (TR × Bool) → World → Prop)
    (hY : ∀ pre x W, J pre W → pre.length < L.length → YieldAt Fence.wide (n - 1) Tryz.prog l (encT x) W fun e W' =>
      (e = .returned (.bool true) ∧ J (pre ++ [x]) W' ∧ KpB n₀ bx W W') ∨ (e = .returned (.bool false) ∧ Jx (pre ++ [x]) W'))
    (W : World) (hJ : AbidesFrom W.heap.size J) (hB : Bt ∉ bx) (hbx : ∀ k ∈ bx, k < W.heap.size) (hn0 : n₀ ≤ W.heap.size) (hBt : W.heap[Bt]? = some (.cells #[.string s] 9 (0, 0))) (hM : ∀ W', Below n₀ W W' → Laid1 W') (h0 : J [] W) :
    CallsIn Fence.wide n Tryz.prog 39 #[.func (.yield l) #[] #[], .pointer (some ⟨Bt, 0, none⟩)] W fun e W' => (∃ v, e = .returned v) ∧
      ((∃ ys, ys = L ∧ J ys W') ∨ (∃ pre, pre <+: L ∧ Jx pre W')) := by
  have hcB : ∀ W' : World, W'.heap[Bt]? = some (.cells #[.string s] 9 (0, 0)) → W'.cell? ⟨Bt, 0, none⟩ = some (.string s) := fun W' h => by simp [World.cell?, h]
  refine callsIn_of_wp Tryz.func39 rfl trivial ?_ rfl
  simp only [Tryz.ntmps39, List.size_toArray, List.length_cons, List.length_nil, Nat.reduceAdd, Nat.reduceSub, Array.replicate_succ, Array.replicate_zero, List.push_toArray, List.append_toArray, List.nil_append, List.cons_append]
  gi_wp2
  gi_loopw [3] (fun p wr => ∃ (pre rest : List (TR × Bool)) (q : Nat), p = .int .i64 q ∧ Hid (L = pre ++ rest ∧ AllS s q rest ∧ q ≤ s.size ∧ J pre wr ∧ KpB n₀ bx W wr ∧ W.heap.size ≤ wr.heap.size))
    (fun p _ => s.size + 1 - (intOf p).toNat)
  case atStart => exact ⟨[], L, 0, rfl, Lib.hid ⟨rfl, hL, Nat.zero_le _, h0, KpB.refl _ _ _, Nat.le_refl _⟩⟩
  case round =>
    obtain ⟨pre, rest, q, rfl, hq⟩ := hrel
    obtain ⟨e1, hA, hp, hJp, hkp, hsz⟩ := hq.out
    obtain ⟨R, ly, rest2, e2, hN, hcase⟩ := hA.open'
    have CN : Hid (∀ W, Laid1 W → Calls Tryz.prog 12 #[.string s, .int .i64 q] W (NextEnd R ly W)) := Lib.hid (fun W hW => pnext_at (by omega) hp hN W hW)
    obtain ⟨k, tx, nu, bits, a, en, lz, hv, hc⟩ := tkc_vals R ly
    obtain ⟨m, hm⟩ : ∃ m, m = TR.er R := ⟨_, rfl⟩
    have CM : Hid (∀ W, Laid1 W → Calls Tryz.prog 12 #[.string s, .int .i64 q] W fun e w' => e = .returned (.tuple #[.agg #[.int .i64 k, .string tx, .string nu, .int .u64 bits, .int .i64 a, .int .i64 en, .bool lz], .int .i64 (m : Nat)]) ∧ Below W.heap.size W w') := Lib.hid (fun W hW => by
      have h := CN.out W hW
      unfold NextEnd at h
      rw [hv, ← hm] at h
      exact h)
    have M1 := Lib.hid (hM wr hkp.bel)
    have cB := hcB wr (hkp.cells Bt _ hB hBt rfl)
    have HY : Hid (∀ W2, Below wr.heap.size wr W2 → YieldAt Fence.wide (n - 1) Tryz.prog l #[.agg #[.int .i64 k, .string tx, .string nu, .int .u64 bits, .int .i64 a, .int .i64 en, .bool lz], .int .i64 (m : Nat)] (W2.alloc (.cells #[.int .i64 k, .string tx, .string nu, .int .u64 bits, .int .i64 a, .int .i64 en, .bool lz] 25)) fun e W' =>
      (e = .returned (.bool true) ∧ Hid (J (pre ++ [(R, ly)]) W' ∧ KpB n₀ bx W W' ∧ TkA W' W2.heap.size k tx nu bits a en lz ∧ W.heap.size ≤ W'.heap.size)) ∨ (e = .returned (.bool false) ∧ Hid (Jx (pre ++ [(R, ly)]) W'))) := Lib.hid (fun W2 b2 => by
      have bX : Below wr.heap.size wr (W2.alloc (.cells #[.int .i64 k, .string tx, .string nu, .int .u64 bits, .int .i64 a, .int .i64 en, .bool lz] 25)) := b2.alloc b2.size _
      have h := hY pre (R, ly) _ (hJ _ _ _ _ hJp (grown_of_below bX) (fun r e => by cases e)) (by rw [e1, e2]; simp)
      unfold encT at h
      simp only [hv, ← hm] at h
      refine h.mono ?_
      rintro e W' (⟨h1, h2, h3⟩ | ⟨h1, h2⟩)
      · refine .inl ⟨h1, Lib.hid ⟨h2, (hkp.trans (KpB.of_below (by omega) bX)).trans h3, ?_, ?_⟩⟩
        · have T := TkA.of_new W2 k tx nu bits a en lz
          exact ⟨h3.cells _ _ (fun hb => by have := hbx _ hb; have := b2.size; omega) T.h rfl⟩
        · have := h3.bel.size; have := bX.size; omega
      · exact .inr ⟨h1, Lib.hid h2⟩)
    have HM := Lib.hid hm
    have HV := Lib.hid hv
    have HCASE := Lib.hid hcase
    have HN := Lib.hid hN
    have HE1 := Lib.hid e1
    have HE2 := Lib.hid e2
    have HP : Hid (q ≤ s.size) := Lib.hid hp
    clear hm hv hc hq e1 hA hJp hkp e2 hN hcase CN hp hY
    gi_wp2_with (refine ⟨trivial, ?_⟩; gi_at_call 12; refine (callsIn_wide.2 (CM.out _ M1.out)).mono ?_; rintro e W2 ⟨rfl, b2⟩; obtain ⟨fn, tmps, assign, body, hy, hR⟩ := HY.out W2 b2)
    refine hR.mono ?_
    rintro e W3 (⟨rfl, H3⟩ | ⟨rfl, H3⟩)
    · obtain ⟨x10, x11, x12, x13, x14, x15, x16⟩ := H3.out.2.2.1.cs
      have KEY : (((m : Int) != 0) = true ∧ Hid (L = pre ++ [(R, ly)])) ∨ (((m : Int) != 0) = false ∧ (k == 10) = true ∧ Hid (L = pre ++ [(R, ly)])) ∨ (((m : Int) != 0) = false ∧ (k == 10) = false ∧ ∃ en2 : Nat, en = en2 ∧ en2 ≤ 1048576 ∧ Hid (AllS s en2 rest2 ∧ en2 ≤ s.size ∧ q < en2)) := by
        have eL : L = (pre ++ [(R, ly)]) ++ rest2 := by rw [HE1.out, HE2.out, List.append_assoc]; rfl
        have hok := HN.out
        rcases HCASE.out with ⟨h1, h2⟩ | ⟨h1, h2, tx', nu', b', a', e', h3⟩ | ⟨h1, k', tx', nu', b', a', e', h3, h4, h5⟩
        · refine .inl ⟨bne_of_ne (by rw [HM.out]; omega), Lib.hid ?_⟩
          rw [eL, h2, List.append_nil]
        · refine .inr (.inl ⟨bne_of_eq (by rw [HM.out]; omega), ?_, Lib.hid ?_⟩)
          · have hv := HV.out
            rw [h3] at hv
            simp [TR.tokL, tokV] at hv
            exact beq_of_eq hv.1.symm
          · rw [eL, h2, List.append_nil]
        · have hv := HV.out
          rw [h3] at hv hok
          have hk := hok.ok HP.out
          simp [TR.tokL, tokV] at hv
          have h6 := hk.2.2.2.2.2.1
          have h7 := hk.2.2.2.2.2.2.2 h4
          have h8 := hk.1
          refine .inr (.inr ⟨bne_of_eq (by rw [HM.out]; omega), beq_of_ne (by rw [← hv.1]; omega), e', hv.2.2.2.2.2.1.symm, by omega, Lib.hid ⟨h5, h6, by omega⟩⟩)
      rcases KEY with ⟨k1, hl⟩ | ⟨k1, k2, hl⟩ | ⟨k1, k2, en2, rfl, ben, hl⟩
      · gi_wp2
        refine bodyPost_ret (results_none rfl _ _ _) rfl ?_
        exact ⟨⟨_, rfl⟩, .inl ⟨_, hl.out.symm, H3.out.1⟩⟩
      · gi_wp2
        refine bodyPost_ret (results_none rfl _ _ _) rfl ?_
        exact ⟨⟨_, rfl⟩, .inl ⟨_, hl.out.symm, H3.out.1⟩⟩
      · gi_wp2
        go_roundw
        case rel => exact ⟨pre ++ [(R, ly)], rest2, en2, rfl, Lib.hid ⟨by rw [HE1.out, HE2.out, List.append_assoc]; rfl, hl.out.1, hl.out.2.1, H3.out.1, H3.out.2.1, H3.out.2.2.2⟩⟩
        case measure => have := hl.out.2.2; have := hl.out.2.1; simp [intOf]; omega
    · gi_wp2
      refine bodyPost_ret (results_none rfl _ _ _) rfl ?_
      exact ⟨⟨_, rfl⟩, .inr ⟨pre ++ [(R, ly)], ⟨rest2, by rw [HE1.out, HE2.out, List.append_assoc]; rfl⟩, H3.out⟩⟩
/-- All's function goes through all tokens, or a part of them. -/
theorem Tryz.pall_stops (n : Nat) (hn : 1 ≤ n) (Bt n₀ : Nat) (bx : List Nat) (s : ByteArray) (L : List (TR × Bool)) (hs : s.size ≤ 1048576) (hL : AllS s 0 L) (w : World) (hB : Bt ∉ bx) (hbx : ∀ k ∈ bx, k < w.heap.size) (hn0 : n₀ ≤ w.heap.size) (hBt : w.heap[Bt]? = some (.cells #[.string s] 9 (0, 0))) (hM : ∀ W', Below n₀ w W' → Laid1 W') :
    SeqStopsK Fence.wide n Tryz.prog 39 #[.pointer (some ⟨Bt, 0, none⟩)] encT (KpB n₀ bx) (fun ys => ys = L) (fun pre => pre <+: L) L.length w := fun l J Jx W hW hJ _ hY h0 =>
  Tryz.pall1 n hn l Bt n₀ bx s L hs hL J Jx hY W hJ hB (fun k hk => Nat.lt_of_lt_of_le (hbx k hk) hW.size) (Nat.le_trans hn0 hW.size) ((hW.block Bt (Array.getElem?_eq_some_iff.1 hBt).1).trans hBt) (fun W' h => hM W' ((hW.mono hn0).trans h)) h0
theorem _root_.Go.Boxed.below {W W' : World} {n B : Nat} {t : TypeId} {v : Value} (h : Boxed W B t v) (hb : Below n W W') (hlt : B < n) : Boxed W' B t v := (hb.block B hlt).trans h
theorem KpB.box {n₀ : Nat} {bx : List Nat} {W W' : World} (h : KpB n₀ bx W W') {B : Nat} {t : TypeId} {v : Value} (hb : Boxed W B t v) (hB : B ∉ bx) : Boxed W' B t v := h.cells _ _ hB hb rfl
theorem ownFrom_kpb {β : Type} {B n₀ : Nat} {bx : List Nat} {V : World} (h1 : n₀ ≤ V.heap.size) (h2 : n₀ ≤ B) : OwnFrom B (fun (_ : β) W => KpB n₀ bx V W) := fun s X Y row hs hg hr =>
  ⟨ownFrom_below (β := Unit) h1 h2 () X Y row hs.bel hg hr, fun k o hk ho hc => (hg.block k (Array.getElem?_eq_some_iff.1 (hs.cells k o hk ho hc)).1 (fun e => by
    obtain ⟨_, o', ho', hc'⟩ := hr k e.symm
    rw [hs.cells k o hk ho hc] at ho'
    cases ho'
    rw [hc] at hc'
    cases hc')).trans (hs.cells k o hk ho hc)⟩
theorem KpB.set {n₀ : Nat} {bx : List Nat} {V W : World} (h : KpB n₀ bx V W) {B : Nat} (h1 : n₀ ≤ B) (hB : B ∈ bx) (v : Value) : KpB n₀ bx V (W.setCell ⟨B, 0, none⟩ v) :=
  ⟨h.bel.setCell (p := ⟨B, 0, none⟩) h1 _, fun k o hk ho hc => ((grownBy_setCell' W B v).block k (Array.getElem?_eq_some_iff.1 (h.cells k o hk ho hc)).1 (fun e => hk (by cases e; exact hB))).trans (h.cells k o hk ho hc)⟩
theorem KpB.row {n₀ : Nat} {bx : List Nat} {V W : World} (h : KpB n₀ bx V W) {base n : Nat} {v : Value} {M : List Value} (hown : V.ownsRow base 25 7 v n M) (hb : ∀ B ∈ bx, some B ≠ v.ownBlock) : W.ownsRow base 25 7 v n M := by
  refine ⟨hown.1, hown.2.imp id ?_⟩
  rintro ⟨g, cap, cur, rfl, h1, h2, h3⟩
  exact ⟨g, cap, cur, rfl, h1, h.cells g _ (fun hg => hb g hg rfl) h2 rfl, h3⟩
theorem KpB.dn {n₀ : Nat} {bx : List Nat} {V W : World} (h : KpB n₀ bx V W) (n : Nat) : KpB n₀ bx V (W.drewN n) := ⟨below_dn h.bel n, h.cells⟩
theorem KeepsOthers.dn (W : World) (n : Nat) : KeepsOthers W (W.drewN n) := ⟨Nat.le_refl _, fun _ _ h _ => h⟩
theorem seven (p0 p1 p2 p3 p4 p5 p6 : Prop) : (p0 ∧ p1 ∧ p2 ∧ p3 ∧ p4 ∧ p5 ∧ p6) ∨ ¬ p0 ∨ (p0 ∧ ¬ p1) ∨ (p0 ∧ p1 ∧ ¬ p2) ∨ (p0 ∧ p1 ∧ p2 ∧ ¬ p3) ∨ (p0 ∧ p1 ∧ p2 ∧ p3 ∧ ¬ p4) ∨ (p0 ∧ p1 ∧ p2 ∧ p3 ∧ p4 ∧ ¬ p5) ∨ (p0 ∧ p1 ∧ p2 ∧ p3 ∧ p4 ∧ p5 ∧ ¬ p6) := by
  by_cases h0 : p0
  · by_cases h1 : p1
    · by_cases h2 : p2
      · by_cases h3 : p3
        · by_cases h4 : p4
          · by_cases h5 : p5
            · by_cases h6 : p6 <;> simp [*]
            · simp [*]
          · simp [*]
        · simp [*]
      · simp [*]
    · simp [*]
  · simp [*]
/-- No operation defers a call. -/
def noDefer (l : List Oper) : Bool := l.all fun o => match o.op with | .defer _ => false | _ => true
theorem noDefer_at {l : List Oper} (h : noDefer l = true) {i : Nat} {o : Oper} (hi : l.toArray[i]? = some o) : ∀ c, o.op ≠ .defer c := by
  intro c hc
  have h1 := List.all_eq_true.1 h o (List.mem_of_getElem? (by simpa using hi))
  rw [hc] at h1
  cases h1
section
variable {F : Fence} {n : Nat} {P : Program} {ops : Array Oper} {C : World → Prop} {l : Nat}
theorem quiet_round_op {i : Nat} {a : Act} {K : Act → Prop} {K' : Act → World → Prop} {Q' : Exit → Act → World → Prop} {w : World} (hC : C w) (hd : ∀ o, ops[i]? = some o → ∀ c, o.op ≠ .defer c) (h : ∀ a w', C w' → K a → K' a w')
    (hh : qOpIn F n P ops C i K a) : wpOpIn (F.inRound l) n P ops Q' i K' a w := by
  unfold qOpIn at hh
  unfold wpOpIn
  cases ho : ops[i]? with
  | none => simp only [ho] at hh; exact h _ _ hC hh
  | some o =>
    simp only [ho] at hh ⊢
    obtain ⟨ha, hh⟩ := hh
    by_cases hw : Region.wanted o (yielded ops a.tmps) = true
    · rw [if_pos hw] at hh ⊢
      obtain ⟨v, h1, h2⟩ := hh
      have h3 := h1 w hC
      unfold Oper.quietAtIn at h3
      refine ⟨ha w hC, ?_⟩
      rw [Fence.inRound_round, Oper.semAt_some l _ o (hd o ho)]
      cases hr : (execOp a.eval o).run P w with
      | halt x w' => rw [hr] at h3; exact h3.elim
      | ok x w' =>
        rw [hr] at h3
        cases x <;> first | exact h3.elim | skip
        · obtain ⟨e1, e2⟩ := h3; subst e1 e2; exact h _ _ hC h2
        · obtain ⟨e1, e2⟩ := h3; subst e1 e2; exact h _ _ hC h2
        · obtain ⟨e1, hn, hc⟩ := h3
          subst e1
          exact ⟨hn, CallsIn.inRound l (hc.mono fun e w'' ⟨he, hw''⟩ => by subst he; exact h _ _ hw'' h2)⟩
    · rw [if_neg hw] at hh ⊢
      exact ⟨ha w hC, h _ _ hC hh⟩
theorem quiet_round_any {md : Region.Mode} {Q : Act → Prop} {Q' : Exit → Act → World → Prop} (hd : ∀ (i : Nat) (o : Oper), ops[i]? = some o → ∀ c, o.op ≠ .defer c) (hQ : ∀ a w, C w → Q a → Q' .normal a w) : ∀ (fuel : Nat) (listed : Array Bool) (a : Act) (w : World), C w →
    wpAnyQIn F n P md ops C Q fuel listed a → wpAnyIn (F.inRound l) n P md ops Q' fuel listed a w
  | 0, _, _, _, hw, h => ⟨h.1, hQ _ _ hw h.2⟩
  | fuel + 1, _, _, _, hw, h => ⟨fun h0 => hQ _ _ hw (h.1 h0), fun i hi => quiet_round_op hw (hd i) (fun a' w' hw' => quiet_round_any hd hQ fuel _ a' w' hw') (h.2 i hi)⟩
/-- A region that draws its order, all quiet, within a round. -/
theorem region_quiet_round {id : Nat} {Q : Exit → Act → World → Prop} {a : Act} {w : World} {r : List Oper} (hm : P.follows .mixedOrders = true) (hB : Region.lexB .any r.toArray = true) (hd : noDefer r = true)
    (h : wpQuietIn F n P r.toArray (fun w' => ∃ n, w' = w.drewN n) (fun a' => ∀ w', (∃ n, w' = w.drewN n) → Q .normal a' w') r a) : (Code.region id r.toArray true).wpIn (F.inRound l) n P Q a w := by
  simp only [Region.lexB, Bool.and_eq_true] at hB
  refine wpIn_region_any hm (quiet_round_any (C := fun w' => ∃ n, w' = w.drewN n) (Q := fun a' => ∀ w', (∃ n, w' = w.drewN n) → Q .normal a' w') (fun i o hi => noDefer_at hd hi) (fun _ w' hw' h => h w' hw') _ _ _ _ ⟨1, rfl⟩ ?_)
  have := wpAnyQIn_lex (F := F) (n := n) (C := fun w' => ∃ n, w' = w.drewN n) (md := .any) hB.1 r 0 (Array.replicate r.toArray.size false) a (by simp) (by simpa using hB.2) h
  simpa using this
end
/-- A loop over an iterator without variables of its own. -/
theorem rangeSkip {F : Fence} {n : Nat} {P : Program} {α : Type} {g : Operand} {ps : Array Tmp} {body : Code} {Q : Exit → Act → World → Prop} {a : Act} {w : World}
    (hro : F.round = none) (h1 : 1 ≤ n) {gf : Nat} {lb : Array Value} (hg : a.eval g = .func (.func gf) #[] lb) (hFg : F.fn gf) (eg : ∀ args w, (callFunc gf args).run P w = .ok (.enter gf args) w)
    {encs : α → Array Value} {Kp : World → World → Prop} {S Sp : List α → Prop} {N : Nat} (hseq : SeqStopsK F (n - 1) P gf lb encs Kp S Sp N w)
    (hKt : ∀ {A B C : World}, Kp A B → Kp B C → Kp A C) (hKb : ∀ (W : World) (l : Nat) (o o' : Obj), w.heap.size ≤ l → W.heap[l]? = some o → o.isCells = false → o.isWalk = false → Kp W (W.putObj l o')) (hps : ∀ x, (encs x).size = ps.size)
    (I : List α → World → Prop) (Ix : Code → List α → World → Prop) (hI : OwnFrom w.heap.size I) (hIx : ∀ c, OwnFrom w.heap.size (Ix c)) (h0 : I [] w)
    (hbody : ∀ (l : Nat) (pre : List α) (x : α) (W : World), I pre W → pre.length < N → body.wpIn (F.inRound l) (n - 1 - 1) P (ownPostK Kp I Ix (pre ++ [x]) W) { tmps := (ps.zip (encs x)).foldl (fun t (p, v) => t.setIfInBounds p v) a.tmps, defers := [] } W)
    (hend : ∀ (D : Nat) (W : World), w.heap.size ≤ D → ((∃ xs, S xs ∧ I xs W) ∨ (∃ pre, Sp pre ∧ Ix (.exit 0) pre W)) → W.heap[D]? = some (.deferred (some [])) → Q .normal { a with defers := { target := .collected D, args := #[] } :: a.defers } W ∧ Q (.exit 0) { a with defers := { target := .collected D, args := #[] } :: a.defers } W)
    (hx : ∀ c pre W, Ix c pre W → c = .exit 0) :
    (Code.rangeFunc g ps .skip body).wpIn F n P Q a w := by
  refine wpIn_rangeFunc_ownF hro h1 hg hFg eg hseq hKt hKb (Below.refl _ _) hps I Ix hI hIx h0 (fun x => { tmps := (ps.zip (encs x)).foldl (fun t (p, v) => t.setIfInBounds p v) a.tmps, defers := [] }) ?_ hbody ?_ ?_
  · intro l x W K hK
    exact wpIn_skip hK
  · intro D xs W hD hS hI hK
    exact (hend D W hD (.inl ⟨xs, hS, hI⟩) hK).1
  · intro D c pre W hD hS hI hK
    obtain rfl := hx c pre W hI
    exact wpIn_exit (hend D W hD (.inr ⟨pre, hS, hI⟩) hK).2
/-- A loop over an iterator whose variables lie in a block of each round. -/
theorem rangeBox {F : Fence} {n : Nat} {P : Program} {α : Type} {g : Operand} {ps : Array Tmp} {assign body : Code} {Q : Exit → Act → World → Prop} {a : Act} {w : World} (f : Array Value → α → Nat → Array Value)
    (hro : F.round = none) (h1 : 1 ≤ n) {gf : Nat} {lb : Array Value} (hg : a.eval g = .func (.func gf) #[] lb) (hFg : F.fn gf) (eg : ∀ args w, (callFunc gf args).run P w = .ok (.enter gf args) w)
    {encs : α → Array Value} {Kp : World → World → Prop} {S Sp : List α → Prop} {N : Nat} (hseq : SeqStopsK F (n - 1) P gf lb encs Kp S Sp N w)
    (hKt : ∀ {A B C : World}, Kp A B → Kp B C → Kp A C) (hKb : ∀ (W : World) (l : Nat) (o o' : Obj), w.heap.size ≤ l → W.heap[l]? = some o → o.isCells = false → o.isWalk = false → Kp W (W.putObj l o')) (hps : ∀ x, (encs x).size = ps.size)
    (I : List α → World → Prop) (Ix : Code → List α → World → Prop) (hI : OwnFrom w.heap.size I) (hIx : ∀ c, OwnFrom w.heap.size (Ix c)) (h0 : I [] w)
    (Px : α → Nat → World → Prop) (hPx : ∀ x B, OwnFrom w.heap.size (fun (_ : Unit) W => Px x B W))
    (hassign : ∀ (l : Nat) (pre : List α) (x : α) (W : World) (K : Act → World → Prop), I pre W → (∀ B W', KeepsFrom w.heap.size W W' → Kp W W' → I pre W' → w.heap.size ≤ B → Px x B W' → K { tmps := f a.tmps x B, defers := [] } W') →
      assign.wpIn (F.inRound l) (n - 1 - 1) P (Exit.then K (fun _ _ _ => False)) { tmps := (ps.zip (encs x)).foldl (fun t (p, v) => t.setIfInBounds p v) a.tmps, defers := [] } W)
    (hbody : ∀ (l : Nat) (pre : List α) (x : α) (B : Nat) (W : World), w.heap.size ≤ B → I pre W → Px x B W → pre.length < N → body.wpIn (F.inRound l) (n - 1 - 1) P (ownPostG w.heap.size Kp I Ix (pre ++ [x]) W) { tmps := f a.tmps x B, defers := [] } W)
    (hdone : ∀ (D : Nat) (xs : List α) (W : World), w.heap.size ≤ D → S xs → I xs W → W.heap[D]? = some (.deferred (some [])) → Q .normal { a with defers := { target := .collected D, args := #[] } :: a.defers } W)
    (hstop : ∀ (c : Code) (pre : List α) (W : World), Sp pre → Ix c pre W → False) :
    (Code.rangeFunc g ps assign body).wpIn F n P Q a w := by
  refine wpIn_rangeFunc_ownH hro h1 hg hFg eg hseq hKt hKb (Below.refl _ _) hps I Ix hI hIx h0 (fun x a' W => ∃ B, w.heap.size ≤ B ∧ Px x B W ∧ a' = { tmps := f a.tmps x B, defers := [] }) ?_ ?_ ?_ hdone ?_
  · rintro x a' _ X Y row ⟨B, hB, hP, e⟩ hg' hr
    exact ⟨B, hB, hPx x B () X Y row hP hg' hr, e⟩
  · intro l pre x W K hI' hK
    exact hassign l pre x W K hI' (fun B W' k1 k2 k3 k4 k5 => hK _ W' k1 k2 k3 ⟨B, k4, k5, rfl⟩)
  · rintro l pre x a' W _ _ hI' ⟨B, hB, hP, rfl⟩ hlen
    exact hbody l pre x B W hB hI' hP hlen
  · intro D c pre W _ hS hI' _
    exact (hstop c pre W hS hI').elim
/-- Behind an answer that is no token there is none. -/
theorem AllS.mid {s : ByteArray} {pre r : List (TR × Bool)} {x : TR × Bool} : ∀ {p : Nat}, AllS s p (pre ++ x :: r) → TR.er x.1 ≠ 0 → r = [] := by
  induction pre with
  | nil =>
    intro p h hx
    obtain ⟨R, ly, r', e1, hN, hc⟩ := h.open'
    simp only [List.nil_append, List.cons.injEq] at e1
    obtain ⟨rfl, rfl⟩ := e1
    rcases hc with ⟨_, h2⟩ | ⟨h1, _⟩ | ⟨h1, _⟩
    · exact h2
    · exact absurd h1 hx
    · exact absurd h1 hx
  | cons y pre ih =>
    intro p h hx
    obtain ⟨R, ly, r', e1, hN, hc⟩ := h.open'
    simp only [List.cons_append, List.cons.injEq] at e1
    obtain ⟨rfl, rfl⟩ := e1
    rcases hc with ⟨_, h2⟩ | ⟨_, h2, _⟩ | ⟨_, k, tx, nu, b, a, e, rfl, _, h3⟩
    · simp at h2
    · simp at h2
    · exact ih h3 hx
set_option maxRecDepth 100000 in
set_option maxHeartbeats 20000000 in
theorem lawWholeAt (s : ByteArray) (early : Int) (w : World) (hs : s.size ≤ 1048576) (_ : (Lit.int .i64 early).wf = true) (h : Laid1 w) : Calls Tryz.prog 10 #[.string s, .int .i64 early] w (LawT w) := by
  obtain ⟨L, hL⟩ := AllS.ex s s.size 0 (Nat.zero_le _) (by omega)
  have HL := Lib.hid hL
  have hM := Lib.hid h
  clear h hL
  refine (callsIn_wide (n := 6)).1 ?_
  refine callsIn_of_wp_marks Tryz.func10 rfl trivial ?_ rfl
  simp only [Tryz.ntmps10, List.size_toArray, List.length_cons, List.length_nil, Nat.reduceAdd, Nat.reduceSub, Array.replicate_succ, Array.replicate_zero, List.push_toArray, List.append_toArray, List.nil_append, List.cons_append]
  have bR0 : Boxed ((w.alloc (.cells #[.int .i64 early] 3)).alloc (.cells #[.bool false] 4)) (w.heap.size + 1) 4 (.bool false) := by simpa using Boxed.new (w.alloc (.cells #[.int .i64 early] 3)) 4 (.bool false)
  have bE0 := (Boxed.new w 3 (.int .i64 early)).alloc (.cells #[.bool false] 4)
  have b0 : Below w.heap.size w ((w.alloc (.cells #[.int .i64 early] 3)).alloc (.cells #[.bool false] 4)) := ((Below.refl _ w).alloc (Nat.le_refl _) _).alloc (by simp) _
  have HB0 := Lib.hid (And.intro bE0 (And.intro bR0 b0))
  clear bR0 bE0 b0
  gi_wp2_with (refine ⟨trivial, ?_⟩; gi_at_call 11; (with_reducible refine (callsIn_wide.2 (hM.out.below HB0.out.2.2).awake).mono ?_); rintro e W1 ⟨rfl, b1⟩)
  have HB1 := Lib.hid (And.intro (HB0.out.1.below b1 HB0.out.1.lt) (And.intro (HB0.out.2.1.below b1 HB0.out.2.1.lt) (HB0.out.2.2.trans (b1.mono HB0.out.2.2.size))))
  have sz0 : ((w.alloc (.cells #[.int .i64 early] 3)).alloc (.cells #[.bool false] 4)).heap.size = w.heap.size + 2 := by simp
  have sz1 : w.heap.size + 2 ≤ W1.heap.size := by have := b1.size; omega
  have HS1 := Lib.hid sz1
  clear b1 sz0 sz1
  gi_wp2_with (refine ⟨trivial, ?_⟩; gi_at_call 16; (with_reducible refine (callsIn_wide.2 (Tryz.rall s L _ hs HL)).mono ?_); rintro e W2 ⟨v, er, rfl, hown, hlast, b2⟩; obtain ⟨va, vc, rfl⟩ := row_form hown)
  have LV := Lib.hid hlast
  have OW := Lib.hid hown
  have HB2 := Lib.hid (And.intro (HB1.out.1.below b2 HB1.out.1.lt) (And.intro (HB1.out.2.1.below b2 HB1.out.2.1.lt) (HB1.out.2.2.trans (b2.mono HB1.out.2.2.size))))
  have sz2 : w.heap.size + 2 ≤ W2.heap.size := by have := b2.size; have := HS1.out; omega
  clear hlast hown b2
  gi_wp2_with (refine ⟨trivial, ?_⟩; gi_at_call 25; (with_reducible refine (callsIn_wide.2 (Tryz.pall s _)).mono ?_); rintro e W3 ⟨rfl, rfl⟩)
  obtain ⟨V, hV⟩ : ∃ V, (((W2.alloc (.cells #[.slice va L.length vc] 31)).alloc (.cells #[.int .i64 er] 26)).alloc (.cells #[.string s] 9)).alloc (.cells #[.int .i64 0] 3) = V := ⟨_, rfl⟩
  rw [hV]
  have hb2 : Below W2.heap.size W2 V := by
    rw [← hV]
    exact ((((Below.refl _ W2).alloc (Nat.le_refl _) _).alloc (by simp) _).alloc (by simp; omega) _).alloc (by simp; omega) _
  have bW : Boxed V W2.heap.size 31 (.slice va L.length vc) := by
    rw [← hV]; exact (((Boxed.new W2 31 _).alloc _).alloc _).alloc _
  have bB : Boxed V (W2.heap.size + 1) 26 (.int .i64 er) := by
    rw [← hV]; have h := (((Boxed.new (W2.alloc (.cells #[.slice va L.length vc] 31)) 26 (.int .i64 er)).alloc (.cells #[.string s] 9)).alloc (.cells #[.int .i64 0] 3)); simpa using h
  have bT : Boxed V (W2.heap.size + 1 + 1) 9 (.string s) := by
    rw [← hV]; have h := ((Boxed.new ((W2.alloc (.cells #[.slice va L.length vc] 31)).alloc (.cells #[.int .i64 er] 26)) 9 (.string s)).alloc (.cells #[.int .i64 0] 3)); simpa using h
  have bN : Boxed V (W2.heap.size + 1 + 1 + 1) 3 (.int .i64 0) := by
    rw [← hV]; have h := Boxed.new (((W2.alloc (.cells #[.slice va L.length vc] 31)).alloc (.cells #[.int .i64 er] 26)).alloc (.cells #[.string s] 9)) 3 (.int .i64 0); simpa using h
  have szV : V.heap.size = W2.heap.size + 4 := by rw [← hV]; simp
  have bE := HB2.out.1.below hb2 HB2.out.1.lt
  have bR := HB2.out.2.1.below hb2 HB2.out.2.1.lt
  have BV : Below w.heap.size w V := HB2.out.2.2.trans (hb2.mono HB2.out.2.2.size)
  have OV := own_below OW.out hb2
  have MV := hM.out.below BV
  clear hV hb2 HB0 HB1 HB2 OW
  generalize W2.heap.size = z at *
  refine rangeSkip (gf := 39) (lb := #[.pointer (some ⟨z + 1 + 1, 0, none⟩)]) rfl (by decide) rfl trivial (enters_of Tryz.func39 (by kernel_rfl) rfl)
    (Tryz.pall_stops 5 (by decide) (z + 1 + 1) w.heap.size [z + 1 + 1 + 1] s L hs HL.out V (by simp) (by simp; omega) BV.size bT (fun W' h => hM.out.below (BV.trans h))) KpB.trans (fun W l o o' hl h hc hw => KpB.put BV.size W l o o' hl h hc hw) (fun _ => rfl)
    (fun pre W => KpB w.heap.size [z + 1 + 1 + 1] V W ∧ Boxed W (z + 1 + 1 + 1) 3 (.int .i64 (pre.length : Nat))) (fun c _ W => c = .exit 0 ∧ KpB w.heap.size [z + 1 + 1 + 1] V W)
    (OwnFrom.and (ownFrom_kpb BV.size BV.size) (Own.from (boxed_own _ _ _) _)) (fun c s X Y row hs hg hr => ⟨hs.1, ownFrom_kpb (β := Unit) BV.size BV.size () X Y row hs.2 hg hr⟩) ⟨KpB.refl _ _ _, bN⟩ ?body ?hend (fun _ _ _ h => h.1)
  case body =>
    rintro l pre x W ⟨hk, hN⟩ hlen
    have cE := (hk.box bE (by simp; omega)).cell
    have cN := hN.cell
    have fN := hN.frozen
    have hl2 : pre.length ≤ 1048577 := by have := (HL.out.len (Nat.zero_le _)).1; omega
    unfold encT
    by_cases hee : (pre.length : Int) = early
    · gi_wp2
      exact ⟨KeepsOthers.refl _, rfl, hk⟩
    · gi_wp2
      exact ⟨KeepsOthers.setCell _ _ _, (KpB.refl _ _ _).set (by omega) (by simp) _, hk.set (by omega) (by simp) _, by rw [List.length_append]; exact hN.set _⟩
  case hend =>
    intro D W hD hor hK
    have hk : KpB w.heap.size [z + 1 + 1 + 1] V W := by
      rcases hor with ⟨_, _, h, _⟩ | ⟨_, _, _, h⟩ <;> exact h
    refine (fun h => ⟨h, h⟩) ?_
    clear hor
    gi_wp2_with fail
    have hD0 : W.heap[D]? = some (.deferred (some [])) := hK
    obtain ⟨V2, hV2⟩ : ∃ V2, W.alloc (.cells #[.int .i64 0] 3) = V2 := ⟨_, rfl⟩
    rw [hV2]
    have hb2 : Below W.heap.size W V2 := by rw [← hV2]; exact (Below.refl _ _).alloc (Nat.le_refl _) _
    have bK : Boxed V2 W.heap.size 3 (.int .i64 0) := by rw [← hV2]; exact Boxed.new _ _ _
    have szV2 : V2.heap.size = W.heap.size + 1 := by rw [← hV2]; simp
    have szW : z + 4 ≤ W.heap.size := by have := hk.bel.size; omega
    have cR := (hk.box bR (by simp; omega)).below hb2 (by omega)
    have cW := (hk.box bW (by simp; omega)).below hb2 (by omega)
    have cB := (hk.box bB (by simp; try omega)).below hb2 (by omega)
    have cT := (hk.box bT (by simp; try omega)).below hb2 (by omega)
    have lD := (Array.getElem?_eq_some_iff.1 hD0).1
    have cD : V2.heap[D]? = some (.deferred (some [])) := (hb2.block D lD).trans hD0
    have BV2 : Below w.heap.size w V2 := (BV.trans (hk.bel)).trans (hb2.mono (by omega))
    have OV2 : V2.ownsRow W1.heap.size 25 7 (.slice va L.length vc) L.length (L.flatMap tkc) := by
      refine own_below (hk.row OV ?_) hb2
      intro B hBm
      simp only [List.mem_singleton] at hBm
      subst hBm
      exact bN.not_row (by decide) OV
    have nR := cR.not_row (by decide) OV2
    have nK := bK.not_row (by decide) OV2
    clear hV2 hb2 hK hD0 hk bE bW bB bT bN bR OV MV BV
    generalize W.heap.size = kx at *
    refine rangeBox (fun t x B => (((t.setIfInBounds 32 (TR.tokL x.1 x.2)).setIfInBounds 33 (.int .i64 (TR.er x.1))).setIfInBounds 11 (.pointer (some ⟨B, 0, none⟩))).setIfInBounds 12 (.int .i64 (TR.er x.1))) (gf := 39) (lb := #[.pointer (some ⟨z + 1 + 1, 0, none⟩)]) rfl (by decide) rfl trivial (enters_of Tryz.func39 (by kernel_rfl) rfl)
      (Tryz.pall_stops 5 (by decide) (z + 1 + 1) w.heap.size [kx, w.heap.size + 1] s L hs HL.out V2 (by simp; omega) (by simp; omega) BV2.size cT (fun W' h => hM.out.below (BV2.trans h))) KpB.trans (fun W l o o' hl h hc hw => KpB.put BV2.size W l o o' hl h hc hw) (fun _ => rfl)
      (fun pre W => (KpB w.heap.size [kx, w.heap.size + 1] V2 W ∧ W.heap[D]? = some (.deferred (some []))) ∧ Boxed W kx 3 (.int .i64 (pre.length : Nat)) ∧ Boxed W (w.heap.size + 1) 4 (.bool false)) (fun c pre _ => c = .ret ∧ ¬ (pre <+: L))
      ?hI (fun c s X Y row hs hg hr => hs) ⟨⟨KpB.refl _ _ _, cD⟩, bK, cR⟩ (fun x B W => W.heap[B]? = some (.cells (tkc x).toArray 25 (0, 0))) ?hPx ?assign ?body ?done ?stop
    case hI =>
      refine OwnFrom.and (OwnFrom.and (ownFrom_kpb BV2.size BV2.size) ?_) (OwnFrom.and (Own.from (boxed_own _ _ _) _) (Own.from (boxed_own _ _ _) _))
      intro s X Y row hs hg hr
      refine (hg.block D (Array.getElem?_eq_some_iff.1 hs).1 (fun e => ?_)).trans hs
      have := (hr D e.symm).1
      omega
    case hPx =>
      intro x B _ X Y row hs hg hr
      refine (hg.block B (Array.getElem?_eq_some_iff.1 hs).1 (fun e => ?_)).trans hs
      obtain ⟨_, o, ho, hc⟩ := hr B e.symm
      rw [hs] at ho
      cases ho
      cases hc
    case stop =>
      rintro c pre W hS ⟨_, h⟩
      exact h hS
    case assign =>
      rintro l pre x W K ⟨⟨hk, hd⟩, hKx, hRx⟩ hK
      obtain ⟨k, tx, nu, bits, a, en, lz, hv, hc⟩ := tkc_vals x.1 x.2
      unfold encT
      simp only [hv] at hK ⊢
      gi_wp2
      have bX : Below W.heap.size W (W.alloc (.cells #[.int .i64 k, .string tx, .string nu, .int .u64 bits, .int .i64 a, .int .i64 en, .bool lz] 25)) := (Below.refl _ _).alloc (Nat.le_refl _) _
      have szX : V2.heap.size ≤ W.heap.size := hk.bel.size
      have h := hK W.heap.size (W.alloc (.cells #[.int .i64 k, .string tx, .string nu, .int .u64 bits, .int .i64 a, .int .i64 en, .bool lz] 25)) ((KeepsOthers.alloc _ _).from _) (KpB.of_below (by have := BV2.size; omega) bX) ⟨⟨hk.trans (KpB.of_below (by have := BV2.size; omega) bX), (bX.block D (Array.getElem?_eq_some_iff.1 hd).1).trans hd⟩, hKx.below bX hKx.lt, hRx.below bX hRx.lt⟩ szX (by rw [hc]; exact heap_alloc_new W _)
      simpa only [List.setIfInBounds_toArray, List.set_cons_succ, List.set_cons_zero] using h
    case body =>
      rintro l pre x B W hB ⟨⟨hk, hd⟩, hKx, hRx⟩ hX hlen
      obtain ⟨k, tx, nu, bits, a, en, lz, hv, hc⟩ := tkc_vals x.1 x.2
      have hc' : tkc x = [.int .i64 k, .string tx, .string nu, .int .u64 bits, .int .i64 a, .int .i64 en, .bool lz] := hc
      rw [hc'] at hX
      simp only [hv, List.setIfInBounds_toArray, List.set_cons_succ, List.set_cons_zero]
      have T : Hid (TkA W B k tx nu bits a en lz) := Lib.hid ⟨hX⟩
      have HC := Lib.hid hc'
      have HX := Lib.hid hX
      clear hX hv hc hc'
      obtain ⟨x10, x11, x12, x13, x14, x15, x16⟩ := T.out.cs
      have cK := hKx.cell
      have fK := hKx.frozen
      have cRR := hRx.cell
      have fR := hRx.frozen
      have cWW := (hk.box cW (by simp; omega)).cell
      have cBB := (hk.box cB (by simp; omega)).cell
      obtain ⟨q, hq⟩ : ∃ q, q = pre.length := ⟨_, rfl⟩
      rw [← hq] at cK
      have HQ := Lib.hid hq
      obtain ⟨m, hm⟩ : ∃ m, m = L.length := ⟨_, rfl⟩
      rw [← hm] at cWW
      have HM := Lib.hid hm
      obtain ⟨ex, hex⟩ : ∃ e, e = TR.er x.1 := ⟨_, rfl⟩
      rw [← hex]
      have HEX := Lib.hid hex
      have hl2 : q < m := by omega
      have bm : m ≤ 1048577 := by have := (HL.out.len (Nat.zero_le _)).1; omega
      clear hq hm hex
      have OWW : Hid (W.ownsRow W1.heap.size 25 7 (.slice va L.length vc) L.length (L.flatMap tkc)) := Lib.hid (hk.row OV2 (by
        intro B' hB'
        simp only [List.mem_cons, List.mem_nil_iff, or_false] at hB'
        rcases hB' with rfl | rfl
        · exact nK
        · exact nR))
      obtain ⟨g, rfl, hg⟩ := row_ptr (by have := HM.out; omega) OWW.out
      have FN : Hid (∀ nq : Nat, KeepsFrom V2.heap.size W ((W.drewN nq).setCell ⟨kx, 0, none⟩ (.int .i64 ((q : Int) + 1))) ∧ KpB w.heap.size [kx, w.heap.size + 1] W ((W.drewN nq).setCell ⟨kx, 0, none⟩ (.int .i64 ((q : Int) + 1))) ∧
          ((KpB w.heap.size [kx, w.heap.size + 1] V2 ((W.drewN nq).setCell ⟨kx, 0, none⟩ (.int .i64 ((q : Int) + 1))) ∧ ((W.drewN nq).setCell ⟨kx, 0, none⟩ (.int .i64 ((q : Int) + 1))).heap[D]? = some (.deferred (some []))) ∧
          Boxed ((W.drewN nq).setCell ⟨kx, 0, none⟩ (.int .i64 ((q : Int) + 1))) kx 3 (.int .i64 ((pre ++ [x]).length : Nat)) ∧ Boxed ((W.drewN nq).setCell ⟨kx, 0, none⟩ (.int .i64 ((q : Int) + 1))) (w.heap.size + 1) 4 (.bool false))) := Lib.hid (fun nq => by
        have hd' : (W.drewN nq).heap[D]? = some (.deferred (some [])) := hd
        have hKx' : Boxed (W.drewN nq) kx 3 (.int .i64 (pre.length : Nat)) := hKx
        have hRx' : Boxed (W.drewN nq) (w.heap.size + 1) 4 (.bool false) := hRx
        have e1 : ((q : Int) + 1) = ((pre ++ [x]).length : Nat) := by rw [HQ.out, List.length_append]; rfl
        refine ⟨((KeepsOthers.dn W nq).trans (KeepsOthers.setCell _ _ _)).from _, ((KpB.refl _ _ W).dn nq).set (by omega) (by simp) _, ⟨(hk.dn nq).set (by omega) (by simp) _, (KeepsOthers.setCell _ _ _).same D _ hd' rfl⟩, ?_, hRx'.other (by omega) _⟩
        rw [e1]
        exact hKx'.set _)
      have FR : Hid (∀ nq : Nat, KeepsFrom V2.heap.size W ((W.drewN nq).setCell ⟨w.heap.size + 1, 0, none⟩ (.bool false))) := Lib.hid (fun nq => ((KeepsOthers.dn W nq).trans (KeepsOthers.setCell _ _ _)).from _)
      have HK := Lib.hid (And.intro hk (And.intro hd (And.intro hKx hRx)))
      clear hk hd hKx hRx nK nR
      by_cases hpre : pre ++ [x] <+: L
      · obtain ⟨r, hr⟩ := hpre
        have hr' : L = pre ++ x :: r := by rw [← hr, List.append_assoc]; rfl
        have CZ : Hid (∀ j v, (tkc x)[j]? = some v → W.cell? ⟨g, q * 7 + j, none⟩ = some v) := Lib.hid (fun j v hv => row_cells HQ.out hr' rfl OWW.out (Below.refl _ _) hv)
        have HR := Lib.hid hr'
        clear hr hr'
        rw [HC.out] at CZ
        have z0 : W.cell? ⟨g, q * 7, none⟩ = some (.int .i64 k) := CZ.out 0 _ rfl
        have z1 := CZ.out 1 _ rfl
        have z2 := CZ.out 2 _ rfl
        have z3 := CZ.out 3 _ rfl
        have z4 := CZ.out 4 _ rfl
        have z5 := CZ.out 5 _ rfl
        have z6 := CZ.out 6 _ rfl
        have lq : (q : Int) < m := by omega
        have KEY : (m = q + 1 ∧ er = ex) ∨ (ex = 0 ∧ q + 1 < m) := by
          have hr := HR.out
          have h1 := HM.out
          have h2 := HQ.out
          cases r with
          | nil =>
            obtain ⟨y, hy, hye⟩ := LV.out
            rw [hr, List.getLast?_append] at hy
            simp only [List.getLast?_singleton, Option.some_or, Option.some.injEq] at hy
            refine .inl ⟨by rw [h1, hr, List.length_append, h2]; rfl, ?_⟩
            rw [hye, HEX.out, hy]
          | cons u r =>
            refine .inr ⟨?_, by rw [h1, hr, List.length_append, List.length_cons, List.length_cons]; omega⟩
            by_cases h0 : TR.er x.1 = 0
            · rw [HEX.out]; exact h0
            · have := AllS.mid (hr ▸ HL.out) h0
              cases this
        have c1 : decide ((m : Int) ≤ (q : Int)) = false := decide_eq_false (by omega)
        have c1n : decide (m ≤ q) = false := decide_eq_false (by omega)
        rcases KEY with ⟨hqm, rfl⟩ | ⟨rfl, hqm⟩
        · have c2 : ((q : Int) != (m : Int) - 1) = false := bne_of_eq (by omega)
          have c3 : ((q : Int) == (m : Int) - 1) = true := beq_of_eq (by omega)
          clear hqm
          have c6 : ((er : Int) != (er : Int)) = false := bne_of_eq rfl
          by_cases h0 : er = 0
          · subst h0
            gi_wp2
            refine region_quiet_round (by kernel_rfl) (by kernel_rfl) (by kernel_rfl) ?_
            repeat (gi_big_quiet_step (fail))
            refine wpQuietIn_nil ?_
            intro _ hw'
            obtain ⟨nq, rfl⟩ := hw'
            gi_wp2
            exact FN.out nq
          · have c4 : ((er : Int) != 0) = true := bne_of_ne (by omega)
            have c5 : ((er : Int) == 0) = false := beq_of_ne (by omega)
            gi_wp2
            refine region_quiet_round (by kernel_rfl) (by kernel_rfl) (by kernel_rfl) ?_
            repeat (gi_big_quiet_step (fail))
            refine wpQuietIn_nil ?_
            intro _ hw'
            obtain ⟨nq, rfl⟩ := hw'
            gi_wp2
            exact FN.out nq
        · have c2 : ((q : Int) != (m : Int) - 1) = true := bne_of_ne (by omega)
          have c3 : ((q : Int) == (m : Int) - 1) = false := beq_of_ne (by omega)
          clear hqm
          gi_wp2
          refine region_quiet_round (by kernel_rfl) (by kernel_rfl) (by kernel_rfl) ?_
          repeat (gi_big_quiet_step (fail))
          refine wpQuietIn_nil ?_
          intro _ hw'
          obtain ⟨nq, rfl⟩ := hw'
          gi_wp2
          exact FN.out nq
      · obtain ⟨d, y, r, hr, hdq⟩ : ∃ d y r, L = d ++ y :: r ∧ q = d.length := by
          have h1 := HM.out
          refine ⟨L.take q, L[q]'(by omega), L.drop (q + 1), ?_, by rw [List.length_take]; omega⟩
          rw [List.getElem_cons_drop, List.take_append_drop]
        have CZ : Hid (∀ j v, (tkc y)[j]? = some v → W.cell? ⟨g, q * 7 + j, none⟩ = some v) := Lib.hid (fun j v hv => row_cells hdq hr rfl OWW.out (Below.refl _ _) hv)
        have HPRE := Lib.hid hpre
        clear hr hdq hpre
        obtain ⟨k', tx', nu', bits', a', en', lz', hy⟩ := tkc_form y
        rw [hy] at CZ
        clear hy
        have z0 : W.cell? ⟨g, q * 7, none⟩ = some (.int .i64 k') := CZ.out 0 _ rfl
        have z1 := CZ.out 1 _ rfl
        have z2 := CZ.out 2 _ rfl
        have z3 := CZ.out 3 _ rfl
        have z4 := CZ.out 4 _ rfl
        have z5 := CZ.out 5 _ rfl
        have z6 := CZ.out 6 _ rfl
        have lq : (q : Int) < m := by omega
        have c1 : decide ((m : Int) ≤ (q : Int)) = false := decide_eq_false (by omega)
        have c1n : decide (m ≤ q) = false := decide_eq_false (by omega)
        have KEY : (ex = 0 ∧ ((q : Int) == (m : Int) - 1) = false) ∨ (ex = 0 ∧ ((q : Int) == (m : Int) - 1) = true ∧ er = 0) ∨ (ex = 0 ∧ ((q : Int) == (m : Int) - 1) = true ∧ ((er : Int) != 0) = true) ∨
            (((ex : Int) != 0) = true ∧ ((ex : Int) == 0) = false ∧ ((q : Int) != (m : Int) - 1) = true) ∨ (((ex : Int) != 0) = true ∧ ((ex : Int) == 0) = false ∧ ((q : Int) != (m : Int) - 1) = false ∧ ((ex : Int) != (er : Int)) = false) ∨ (((ex : Int) != 0) = true ∧ ((ex : Int) == 0) = false ∧ ((q : Int) != (m : Int) - 1) = false ∧ ((ex : Int) != (er : Int)) = true) := by
          simp only [bne_iff_ne, ne_eq, beq_eq_false_iff_ne, beq_iff_eq, bne_eq_false_iff_eq]
          omega
        rcases seven (k = k') (tx.toList = tx'.toList) (nu.toList = nu'.toList) (bits = bits') (a = a') (en = en') (lz = lz') with ⟨rfl, e1, e2, rfl, rfl, rfl, rfl⟩ | e0 | ⟨rfl, e1⟩ | ⟨rfl, e1, e2⟩ | ⟨rfl, e1, e2, e3⟩ | ⟨rfl, e1, e2, rfl, e4⟩ | ⟨rfl, e1, e2, rfl, rfl, e5⟩ | ⟨rfl, e1, e2, rfl, rfl, rfl, e6⟩
        · rcases KEY with ⟨rfl, c3⟩ | ⟨rfl, c3, rfl⟩ | ⟨rfl, c3, c7⟩ | ⟨c4, c5, c2⟩ | ⟨c4, c5, c2, c6⟩ | ⟨c4, c5, c2, c6⟩
          all_goals
            gi_wp2
            refine region_quiet_round (by kernel_rfl) (by kernel_rfl) (by kernel_rfl) ?_
            repeat (gi_big_quiet_step (fail))
            refine wpQuietIn_nil ?_
            intro _ hw'
            obtain ⟨nq, rfl⟩ := hw'
            gi_wp2
            first | exact FN.out nq | exact ⟨FR.out nq, rfl, HPRE.out⟩
        all_goals
          gi_wp2
          refine region_quiet_round (by kernel_rfl) (by kernel_rfl) (by kernel_rfl) ?_
          repeat (gi_big_quiet_step (fail))
          refine wpQuietIn_nil ?_
          intro _ hw'
          obtain ⟨nq, rfl⟩ := hw'
          gi_wp2
          first | exact FN.out nq | exact ⟨FR.out nq, rfl, HPRE.out⟩
    case done =>
      rintro D2 ys W hD2 hys ⟨⟨hk, hd⟩, hKx, hRx⟩ hK2
      rw [hys] at hKx
      have cK := hKx.cell
      have cRR := hRx.cell
      have fR := hRx.frozen
      have cWW := (hk.box cW (by simp; omega)).cell
      have hb := hk.bel
      have lw := hRx.lt
      have hD3 : V.heap.size ≤ D := hD
      gi_wp2
      have k2 := (KeepsOthers.setCell W ⟨w.heap.size + 1, 0, none⟩ (.bool true)).same D2 _ hK2 rfl
      have k1 := (KeepsOthers.setCell W ⟨w.heap.size + 1, 0, none⟩ (.bool true)).same D _ hd rfl
      have r1 := hRx.set (.bool true)
      have b1 : Below w.heap.size w (W.setCell ⟨w.heap.size + 1, 0, none⟩ (.bool true)) := (BV2.trans hb).setCell (p := ⟨w.heap.size + 1, 0, none⟩) (by simp) _
      generalize W.setCell _ _ = W5 at *
      have k3 : (W5.putObj D2 (.deferred none)).heap[D]? = some (.deferred (some [])) := (World.putObj_heap_other (by omega)).trans k1
      have r2 : Boxed (W5.putObj D2 (.deferred none)) (w.heap.size + 1) 4 (.bool true) := (World.putObj_heap_other (by omega)).trans r1
      have b2 : Below w.heap.size w (W5.putObj D2 (.deferred none)) := b1.trans (belowK_b (w := w) (Nat.le_refl _) W5 D2 _ _ (by omega) k2 rfl rfl)
      refine ⟨by simp, .inl ⟨_, _, rfl, run_takeDeferred k2, ?_⟩⟩
      generalize W5.putObj D2 (.deferred none) = W6 at *
      have r3 : Boxed (W6.putObj D (.deferred none)) (w.heap.size + 1) 4 (.bool true) := (World.putObj_heap_other (by omega)).trans r2
      have b3 : Below w.heap.size w (W6.putObj D (.deferred none)) := b2.trans (belowK_b (w := w) (Nat.le_refl _) W6 D _ _ (by omega) k3 rfl rfl)
      refine ⟨by simp, .inl ⟨_, _, rfl, run_takeDeferred k3, ?_⟩⟩
      generalize W6.putObj D (.deferred none) = W7 at *
      have c7 := r3.cell
      refine ⟨.bool true, ?_, rfl, b3⟩
      simp only [results, Tryz.results10]
      go_simp
      try rfl
end Go.Proofs
