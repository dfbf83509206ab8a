/- slices.Sorted over maps.Keys of a map of ints: what stands by values is what the call comes to. -/
import Derived.Shelf.SlGeneric
import Derived.Shelf.SlIterI.Nil
import Derived.Shelf.SortM.Plain
import Derived.Shelf.SortM.SortNone
import Derived.Ground.GgzProg
import Derived.Ground.SlgmProg
import Derived.Test.YtjifnmilimdfdaaGreatDoorEnvD
set_option linter.unusedVariables false
namespace Go.Proofs
open Go.Shelf
def Tryz.keysA_ren : Go.Shelf.Ren := ⟨fun | 7 => 65 | 10 => 136 | n => n, fun | 23 => 131 | 26 => 3 | 3 => 38 | 28 => 135 | 0 => 0 | 27 => 134 | 33 => 96 | 4 => 4 | n => n, fun | n => n⟩
theorem Tryz.keysA : Go.Proofs.SlLaysZI.n7 Tryz.prog Tryz.keysA_ren := {
  mixed := by kernel_rfl
  f7 := ⟨Tryz.f65.name, by decide, Tryz.func65.trans (congrArg some (by kernel_rfl))⟩
  f10 := ⟨Tryz.f136.name, by decide, Tryz.func136.trans (congrArg some (by kernel_rfl))⟩
  t0 := Tryz.underlying0
  a0 := Tryz.isAgg0
  z0 := Tryz.sizeOf0
  v0 := Tryz.zeroValue0
  t4 := Tryz.underlying4
  a4 := Tryz.isAgg4
  z4 := Tryz.sizeOf4
  v4 := Tryz.zeroValue4
  t23 := Tryz.underlying131
  a23 := Tryz.isAgg131
  z23 := Tryz.sizeOf131
  v23 := Tryz.zeroValue131
  t26 := Tryz.underlying3
  a26 := Tryz.isAgg3
  z26 := Tryz.sizeOf3
  v26 := Tryz.zeroValue3
  t27 := Tryz.underlying134
  a27 := Tryz.isAgg134
  z27 := Tryz.sizeOf134
  v27 := Tryz.zeroValue134
  t28 := Tryz.underlying135
  a28 := Tryz.isAgg135
  z28 := Tryz.sizeOf135
  v28 := Tryz.zeroValue135
  t33 := Tryz.underlying96
  a33 := Tryz.isAgg96
  z33 := Tryz.sizeOf96
  v33 := Tryz.zeroValue96 }
def Tryz.sortedA_ren : Go.Shelf.Ren := ⟨fun | 6 => 64 | 8 => 135 | 9 => 38 | 11 => 188 | 13 => 95 | 12 => 94 | 23 => 142 | 24 => 163 | 14 => 154 | 15 => 155 | 16 => 156 | 17 => 157 | 18 => 158 | 19 => 159 | 20 => 160 | 21 => 161 | 22 => 162 | 25 => 204 | 26 => 205 | 27 => 206 | 28 => 207 | 29 => 208 | 30 => 209 | 31 => 239 | n => n, fun | 26 => 3 | 28 => 135 | 24 => 47 | 0 => 0 | 3 => 3 | 37 => 124 | 48 => 123 | 50 => 22 | 4 => 4 | 40 => 227 | 39 => 226 | 45 => 76 | 5 => 5 | 9 => 9 | 51 => 282 | 55 => 286 | 57 => 324 | 58 => 325 | 33 => 96 | n => n, fun | n => n⟩
theorem Tryz.sortedA : Go.Proofs.SlLaysZI.n6 Tryz.prog Tryz.sortedA_ren := {
  mixed := by kernel_rfl
  f6 := ⟨Tryz.f64.name, by decide, Tryz.func64.trans (congrArg some (by kernel_rfl))⟩
  f8 := ⟨Tryz.f135.name, by decide, Tryz.func135.trans (congrArg some (by kernel_rfl))⟩
  f11 := ⟨Tryz.f188.name, by decide, Tryz.func188.trans (congrArg some (by kernel_rfl))⟩
  t0 := Tryz.underlying0
  a0 := Tryz.isAgg0
  z0 := Tryz.sizeOf0
  v0 := Tryz.zeroValue0
  t24 := Tryz.underlying47
  a24 := Tryz.isAgg47
  z24 := Tryz.sizeOf47
  v24 := Tryz.zeroValue47
  t26 := Tryz.underlying3
  a26 := Tryz.isAgg3
  z26 := Tryz.sizeOf3
  v26 := Tryz.zeroValue3
  t28 := Tryz.underlying135
  a28 := Tryz.isAgg135
  z28 := Tryz.sizeOf135
  v28 := Tryz.zeroValue135
  i26 := by kernel_rfl }
def Tryz.sortA_ren : Go.Shelf.Ren := ⟨fun | 5 => 38 | 8 => 95 | 7 => 94 | 19 => 142 | 20 => 163 | 10 => 154 | 11 => 155 | 12 => 156 | 13 => 157 | 14 => 158 | 15 => 159 | 16 => 160 | 17 => 161 | 18 => 162 | 30 => 204 | 31 => 205 | 32 => 206 | 33 => 207 | 34 => 208 | 35 => 209 | 40 => 239 | n => n, fun | 23 => 47 | 25 => 3 | 3 => 3 | 32 => 124 | 22 => 47 | 0 => 0 | 44 => 123 | 46 => 22 | 4 => 4 | 36 => 227 | 35 => 226 | 41 => 76 | 5 => 5 | 9 => 9 | 53 => 282 | 57 => 286 | 63 => 324 | 64 => 325 | n => n, fun | n => n⟩
theorem Tryz.sortA : Go.Proofs.SlLaysM.n5 Tryz.prog Tryz.sortA_ren := {
  mixed := by kernel_rfl
  f5 := ⟨Tryz.f38.name, by decide, Tryz.func38.trans (congrArg some (by kernel_rfl))⟩
  f7 := ⟨Tryz.f94.name, by decide, Tryz.func94.trans (congrArg some (by kernel_rfl))⟩
  f8 := Tryz.func95.trans (congrArg some (by kernel_rfl))
  f10 := ⟨Tryz.f154.name, by decide, Tryz.func154.trans (congrArg some (by kernel_rfl))⟩
  f11 := ⟨Tryz.f155.name, by decide, Tryz.func155.trans (congrArg some (by kernel_rfl))⟩
  f12 := ⟨Tryz.f156.name, by decide, Tryz.func156.trans (congrArg some (by kernel_rfl))⟩
  f13 := ⟨Tryz.f157.name, by decide, Tryz.func157.trans (congrArg some (by kernel_rfl))⟩
  f14 := ⟨Tryz.f158.name, by decide, Tryz.func158.trans (congrArg some (by kernel_rfl))⟩
  f15 := ⟨Tryz.f159.name, by decide, Tryz.func159.trans (congrArg some (by kernel_rfl))⟩
  f16 := ⟨Tryz.f160.name, by decide, Tryz.func160.trans (congrArg some (by kernel_rfl))⟩
  f17 := ⟨Tryz.f161.name, by decide, Tryz.func161.trans (congrArg some (by kernel_rfl))⟩
  f18 := ⟨Tryz.f162.name, by decide, Tryz.func162.trans (congrArg some (by kernel_rfl))⟩
  f19 := Tryz.func142.trans (congrArg some (by kernel_rfl))
  f20 := Tryz.func163.trans (congrArg some (by kernel_rfl))
  f30 := ⟨Tryz.f204.name, by decide, Tryz.func204.trans (congrArg some (by kernel_rfl))⟩
  f31 := Tryz.func205.trans (congrArg some (by kernel_rfl))
  f32 := Tryz.func206.trans (congrArg some (by kernel_rfl))
  f33 := ⟨Tryz.f207.name, by decide, Tryz.func207.trans (congrArg some (by kernel_rfl))⟩
  f34 := ⟨Tryz.f208.name, by decide, Tryz.func208.trans (congrArg some (by kernel_rfl))⟩
  f35 := ⟨Tryz.f209.name, by decide, Tryz.func209.trans (congrArg some (by kernel_rfl))⟩
  f40 := ⟨Tryz.f239.name, by decide, Tryz.func239.trans (congrArg some (by kernel_rfl))⟩
  t0 := Tryz.underlying0
  a0 := Tryz.isAgg0
  z0 := Tryz.sizeOf0
  v0 := Tryz.zeroValue0
  t3 := Tryz.underlying3
  a3 := Tryz.isAgg3
  z3 := Tryz.sizeOf3
  v3 := Tryz.zeroValue3
  t4 := Tryz.underlying4
  a4 := Tryz.isAgg4
  z4 := Tryz.sizeOf4
  v4 := Tryz.zeroValue4
  t5 := Tryz.underlying5
  a5 := Tryz.isAgg5
  z5 := Tryz.sizeOf5
  v5 := Tryz.zeroValue5
  t9 := Tryz.underlying9
  a9 := Tryz.isAgg9
  z9 := Tryz.sizeOf9
  v9 := Tryz.zeroValue9
  t22 := Tryz.underlying47
  a22 := Tryz.isAgg47
  z22 := Tryz.sizeOf47
  v22 := Tryz.zeroValue47
  t23 := Tryz.underlying47
  a23 := Tryz.isAgg47
  z23 := Tryz.sizeOf47
  v23 := Tryz.zeroValue47
  t25 := Tryz.underlying3
  a25 := Tryz.isAgg3
  z25 := Tryz.sizeOf3
  v25 := Tryz.zeroValue3
  t32 := Tryz.underlying124
  a32 := Tryz.isAgg124
  z32 := Tryz.sizeOf124
  v32 := Tryz.zeroValue124
  t35 := Tryz.underlying226
  a35 := Tryz.isAgg226
  z35 := Tryz.sizeOf226
  v35 := Tryz.zeroValue226
  t36 := Tryz.underlying227
  a36 := Tryz.isAgg227
  z36 := Tryz.sizeOf227
  v36 := Tryz.zeroValue227
  t41 := Tryz.underlying76
  a41 := Tryz.isAgg76
  z41 := Tryz.sizeOf76
  v41 := Tryz.zeroValue76
  t44 := Tryz.underlying123
  a44 := Tryz.isAgg123
  z44 := Tryz.sizeOf123
  v44 := Tryz.zeroValue123
  t46 := Tryz.underlying22
  a46 := Tryz.isAgg22
  z46 := Tryz.sizeOf22
  v46 := Tryz.zeroValue22
  t53 := Tryz.underlying282
  a53 := Tryz.isAgg282
  z53 := Tryz.sizeOf282
  v53 := Tryz.zeroValue282
  t57 := Tryz.underlying286
  a57 := Tryz.isAgg286
  z57 := Tryz.sizeOf286
  v57 := Tryz.zeroValue286
  t63 := Tryz.underlying324
  a63 := Tryz.isAgg324
  z63 := Tryz.sizeOf324
  v63 := Tryz.zeroValue324
  t64 := Tryz.underlying325
  a64 := Tryz.isAgg325
  z64 := Tryz.sizeOf325
  v64 := Tryz.zeroValue325 }
end Go.Proofs
namespace Go.Proofs.YtjifnmilimdfdaaGreatDoor.Ab
open Go Go.RowKit
section
variable {P : Program} {N : Nat → Prop} {ρ : Rho} {ro : Nat} {st : St} {W w : World}
theorem MR.later (h : MR N ρ ro st W w) {w' : World} (hb : Below w.heap.size w w') : MR N ρ ro st W w' where
  below := h.below.trans (hb.mono h.below.size)
  no := h.no
  old := h.old
  own := h.own
  lt := fun id L hL => Nat.lt_of_lt_of_le (h.lt id L hL) hb.size
  next := h.next
  ron := h.ron
  nx := h.nx
  obs := fun id L ob hL ho => by
    obtain ⟨o, h1, h2⟩ := h.obs id L ob hL ho
    exact ⟨o, (hb.block _ (h.lt id L hL)).trans h1, h2⟩
  inj := h.inj
  cls := h.cls
  fx := h.fx
/-- A name for a block that is there. -/
theorem MR.here (h : MR N ρ ro st W w) {id : Nat} {ob : Ob} {o : Obj} {L : Loc} (hid : ∀ ob', st.heap.get id = some ob' → ob' = ob) (hidn : id < st.next) (hρ : ρ id = none) (hN : ¬ N id) (hro : ro ≤ id) (hb : w.heap[L.b]? = some o) (hW : W.heap.size ≤ L.b) (hfr : ∀ j M, ρ j = some M → M.b ≠ L.b) (ho : OR (ρ.put id L) L ob o) :
    MR N (ρ.put id L) ro st W w := by
  have hle := Rho.put_le (L := L) hρ
  have hpr : ∀ {j M}, ρ.put id L j = some M → (j = id ∧ M = L) ∨ (j ≠ id ∧ ρ j = some M) := by
    intro j M hj
    rw [Rho.put_at] at hj
    split at hj
    · rename_i e; cases hj; exact .inl ⟨e, rfl⟩
    · rename_i e; exact .inr ⟨e, hj⟩
  refine ⟨h.below, (fun i hi => ⟨by rw [Rho.put_at, if_neg (fun (e : i = id) => hN (e ▸ hi))]; exact (h.no i hi).1, (h.no i hi).2⟩), fun j M hj hjr => ?_, fun j M hj hjr => ?_, fun j M hj => ?_, fun j M hj => ?_, h.ron, h.nx, fun j M ob' hj hob => ?_, fun i j M M' a a' hi hj hoi hoj hbb => ?_, h.cls, h.fx⟩
  · rcases hpr hj with ⟨rfl, rfl⟩ | ⟨_, h'⟩
    · omega
    · exact h.old j M h' hjr
  · rcases hpr hj with ⟨rfl, rfl⟩ | ⟨_, h'⟩
    · exact hW
    · exact h.own j M h' hjr
  · rcases hpr hj with ⟨rfl, rfl⟩ | ⟨_, h'⟩
    · exact lt_of_block hb
    · exact h.lt j M h'
  · rcases hpr hj with ⟨rfl, rfl⟩ | ⟨_, h'⟩
    · exact hidn
    · exact h.next j M h'
  · rcases hpr hj with ⟨rfl, rfl⟩ | ⟨_, h'⟩
    · cases hid _ hob
      exact ⟨o, hb, ho⟩
    · obtain ⟨x, h1, h2⟩ := h.obs j M ob' h' hob
      exact ⟨x, h1, h2.mono hle⟩
  · rcases hpr hi with ⟨rfl, rfl⟩ | ⟨_, hi'⟩
    · rcases hpr hj with ⟨rfl, rfl⟩ | ⟨_, hj'⟩
      · exact .inl rfl
      · exact absurd hbb.symm (hfr j M' hj')
    · rcases hpr hj with ⟨rfl, rfl⟩ | ⟨_, hj'⟩
      · exact absurd hbb (hfr i M hi')
      · exact h.inj i j M M' a a' hi' hj' hoi hoj hbb
end
theorem insI_perm (n : Int) : ∀ l : List Int, (insI n l).Perm (n :: l)
  | [] => .refl _
  | m :: r => by
    unfold insI
    split
    · exact .refl _
    · exact ((insI_perm n r).cons m).trans (.swap n m r)
theorem insI_sorted (n : Int) : ∀ {l : List Int}, l.Pairwise (· ≤ ·) → (insI n l).Pairwise (· ≤ ·)
  | [], _ => by simp [insI]
  | m :: r, h => by
    obtain ⟨h1, h2⟩ := List.pairwise_cons.1 h
    unfold insI
    split
    · rename_i hle
      have hle : n ≤ m := of_decide_eq_true hle
      refine List.pairwise_cons.2 ⟨fun x hx => ?_, h⟩
      rcases List.mem_cons.1 hx with rfl | hx
      · exact hle
      · exact Int.le_trans hle (h1 x hx)
    · rename_i hle
      have hle : ¬ n ≤ m := of_decide_eq_false hle
      refine List.pairwise_cons.2 ⟨fun x hx => ?_, insI_sorted n h2⟩
      rcases List.mem_cons.1 ((insI_perm n r).mem_iff.1 hx) with rfl | hx
      · omega
      · exact h1 x hx
theorem sortI_perm : ∀ l : List Int, (sortI l).Perm l
  | [] => .refl _
  | n :: r => (insI_perm n _).trans ((sortI_perm r).cons n)
theorem sortI_sorted : ∀ l : List Int, (sortI l).Pairwise (· ≤ ·)
  | [] => List.Pairwise.nil
  | n :: r => insI_sorted n (sortI_sorted r)
theorem sortI_merge {l l' : List Int} (h : l'.Perm l) : l'.mergeSort Go.leI = sortI l := by
  have tr : ∀ a b c : Int, Go.leI a b = true → Go.leI b c = true → Go.leI a c = true := fun a b c h1 h2 => by simp only [Go.leI, decide_eq_true_eq] at *; exact Int.le_trans h1 h2
  have to : ∀ a b : Int, (Go.leI a b || Go.leI b a) = true := fun a b => by simp only [Go.leI, Bool.or_eq_true, decide_eq_true_eq]; exact Int.le_total a b
  refine List.Perm.eq_of_pairwise (le := fun a b => a ≤ b) (fun a b _ _ h1 h2 => Int.le_antisymm h1 h2) ?_ (sortI_sorted l) (((List.mergeSort_perm l' Go.leI).trans h).trans (sortI_perm l).symm)
  exact (List.pairwise_mergeSort tr to l').imp fun h => by simpa [Go.leI] using h
theorem intsOf_spec : ∀ {es : List (AV × AV)} {ns : List Int}, intsOf es = some ns → es.map (·.1) = ns.map (AV.int .i64) ∧ ∀ n ∈ ns, -9223372036854775808 ≤ n ∧ n < 9223372036854775808
  | [], ns, h => by cases h; exact ⟨rfl, fun n hn => by cases hn⟩
  | e :: r, ns, h => by
    unfold intsOf at h
    split at h
    · rename_i n l he hl
      split at h
      · rename_i hb
        simp only [Bool.and_eq_true, decide_eq_true_eq] at hb
        cases h
        obtain ⟨h1, h2⟩ := intsOf_spec hl
        refine ⟨by simp only [List.map_cons, he, h1], fun m hm => ?_⟩
        rcases List.mem_cons.1 hm with rfl | hm
        · exact hb
        · exact h2 m hm
      · cases h
    · cases h
theorem distinctK_nodup : ∀ {es : List (AV × AV)} {ns : List Int}, distinctK .i64 es = true → es.map (·.1) = ns.map (AV.int .i64) → ns.Nodup
  | [], ns, _, h => by
    cases ns with
    | nil => exact List.nodup_nil
    | cons _ _ => cases h
  | e :: r, [], _, h => by cases h
  | e :: r, n :: ns, hd, h => by
    obtain ⟨m, h1, h2, h3⟩ := distinctK_cons hd
    simp only [List.map_cons, List.cons.injEq] at h
    obtain ⟨h4, h5⟩ := h
    rw [h1] at h4
    have hmn : m = n := by injection h4
    subst hmn
    refine List.nodup_cons.2 ⟨fun hm => ?_, distinctK_nodup h3 h5⟩
    have : AV.int .i64 m ∈ r.map (·.1) := by rw [h5]; exact List.mem_map_of_mem hm
    obtain ⟨x, hx, hx2⟩ := List.mem_map.1 this
    exact absentK_spec h2 x hx .i64 hx2
def unI (a : AV) : Int := match a with
  | .int _ n => n
  | _ => 0
theorem unI_map (ns : List Int) : (ns.map (AV.int .i64)).map unI = ns := by
  rw [List.map_map]
  exact List.map_id' ns
theorem keys_ints {ρ : Rho} : ∀ {ks : List AV} {vs : List Value}, (∀ k ∈ ks, ∃ n, k = AV.int .i64 n) → VRs ρ ks vs → ks = (ks.map unI).map (AV.int .i64) ∧ vs = (ks.map unI).map (Value.int .i64)
  | [], vs, _, h => by cases h; exact ⟨rfl, rfl⟩
  | k :: ks, vs, ha, h => by
    cases h with | cons _ v _ m h1 h2 =>
    obtain ⟨n, rfl⟩ := ha k (List.mem_cons_self ..)
    obtain ⟨e1, e2⟩ := keys_ints (fun k hk => ha k (List.mem_cons_of_mem _ hk)) h2
    cases h1
    simp only [List.map_cons, unI]
    exact ⟨by rw [← e1], by rw [← e2]⟩
end Go.Proofs.YtjifnmilimdfdaaGreatDoor.Ab
namespace Go.Proofs
open Go.RowKit Go.Maps Go.Sort Go.Shelf
theorem Tryz.sortsA (m : Nat) : AnyZI.SortsIn Tryz.prog Tryz.sortedA_ren Fence.wide m :=
  ⟨fun blk off cap ss W hH hblk hsz => callsIn_wide.2 (AnyM.slices_Sort_int Tryz.sortA blk off cap ss W hH hblk hsz),
   fun p cap W => callsIn_wide.2 (AnyM.slices_Sort_int_none Tryz.sortA p cap W)⟩
theorem Tryz.enters38 : ∀ args w, (callFunc 38 args).run Tryz.prog w = .ok (.enter 38 args) w := enters_of Tryz.func38 (by kernel_rfl) rfl
theorem Tryz.enters136 : ∀ args w, (callFunc 136 args).run Tryz.prog w = .ok (.enter 136 args) w := enters_of Tryz.func136 (by kernel_rfl) rfl
theorem Tryz.enters64 : ∀ args w, (callFunc 64 args).run Tryz.prog w = .ok (.enter 64 args) w := enters_of Tryz.func64 (by kernel_rfl) rfl
/-- slices.Sorted(maps.Keys(m)), at what maps.Keys handed back for a map that is not nil. -/
theorem Tryz.sortedKeys {H : Type} (B b nn : Nat) (D0 : DataW H) (R : Value → Option (DataW H × List MemPlace)) (w : World) (hB : B < w.heap.size) (hm : w.cell? ⟨B, 0, none⟩ = some (.map (some b))) (hown : w.ownsMap Tryz.prog 3 R b nn D0) (hmax : Maps.size D0 ≤ maxLen) (hbytes : Maps.size D0 * 8 ≤ 140737488355328) :
    Calls Tryz.prog 64 #[.func (.func 136) #[] #[.pointer (some ⟨B, 0, none⟩)]] w fun e w' => ∃ (v : Value) (ss : List Int), e = .returned v ∧ ss.Perm (intKeys D0) ∧
      w'.ownsRow w.heap.size 3 1 v ss.length ((ss.mergeSort Go.leI).map encZ) ∧ (v = .slice none 0 0 ↔ ss = []) ∧ Below w.heap.size w w' := by
  have hseq : SeqGives Fence.wide 2 Tryz.prog 136 #[.pointer (some ⟨B, 0, none⟩)] encZ (fun ss => ss.Perm (intKeys D0)) (Maps.size D0) w :=
    AnyZI.keys_gives (ρ := Tryz.keysA_ren) { Tryz.keysA with } Fence.wide _ trivial rfl (by omega) B b nn D0 _ hB hm hown
  have cS := AnyZI.sorted_in Tryz.sortedA Fence.wide 5 trivial trivial trivial trivial rfl (by omega) (Tryz.sortsA _) Tryz.enters38 136 #[.pointer (some ⟨B, 0, none⟩)] trivial Tryz.enters136 _ _ hmax hbytes _ hseq
  change CallsIn _ _ Tryz.prog 64 _ _ _ at cS
  exact (callsIn_wide (n := 5)).1 cS
end Go.Proofs
namespace Go.Proofs.YtjifnmilimdfdaaGreatDoor
open Go Go.RowKit Go.WideElems Go.Proofs.YtjifnmilimdfdaaGreatDoor.Ab
def plainR : Value → Option (DataW Unit × List MemPlace) := fun _ => some (.lit (.bool true), [])
/-- A map of ints, as the shelf's contracts ask for it. -/
theorem owns_ints {w : World} {b clock : Nat} {arr : Array MapEntry} {ms : List Int} (hb : w.heap[b]? = some (.map arr clock)) (hk : arr.toList.map (·.key) = ms.map (Value.int .i64)) (hr : ∀ n ∈ ms, -9223372036854775808 ≤ n ∧ n < 9223372036854775808) (hn : ms.Nodup) (hc : clock = arr.size) (hbo : ∀ (i : Nat) e, arr[i]? = some e → e.born = i) (hlen : arr.size ≤ 100000) :
    ∃ D0 : DataW Unit, w.ownsMap Tryz.prog 3 plainR b arr.size D0 ∧ Maps.size D0 ≤ 100000 ∧ (intKeys D0).Perm ms := by
  have hkey : ∀ x ∈ arr.toList, ∃ n ∈ ms, x.key = Value.int .i64 n := fun x hx => by
    have h1 : x.key ∈ arr.toList.map (·.key) := List.mem_map_of_mem hx
    rw [hk] at h1
    obtain ⟨n, h2, h3⟩ := List.mem_map.1 h1
    exact ⟨n, h2, h3.symm⟩
  have hrd : ∀ x ∈ arr.toList, ∃ n ∈ ms, x.key = Value.int .i64 n ∧ rd Tryz.prog 3 plainR x = some (.int .i64 n, .lit (.bool true)) := fun x hx => by
    obtain ⟨n, h1, h2⟩ := hkey x hx
    obtain ⟨h3, h4⟩ := hr n h1
    have hwf : (Lit.int .i64 n).wf = true := by
      have e1 : IntKind.i64.min = -9223372036854775808 := rfl
      have e2 : IntKind.i64.max = 9223372036854775807 := rfl
      simp only [Lit.wf, e1, e2, Bool.and_eq_true, decide_eq_true_eq]
      omega
    refine ⟨n, h1, h2, ?_⟩
    obtain ⟨k, v, bn⟩ := x
    simp only at h2
    subst h2
    exact rd_mk (yv := (.lit (.bool true), [])) (Maps.keyOf_int_mk Tryz.underlying3 hwf) rfl
  have hfit : Fit Tryz.prog 3 plainR arr clock := by
    refine ⟨by unfold maxLen; omega, ⟨fun x hx => ?_, ?_, ?_⟩, fun x hx => let ⟨n, _, _, h⟩ := hrd x hx; ⟨_, h⟩⟩
    · obtain ⟨i, hi⟩ := List.getElem?_of_mem hx
      have hi' : arr[i]? = some x := by simpa using hi
      have h1 := hbo i x hi'
      have h2 := (Array.getElem?_eq_some_iff.1 hi').1
      omega
    · have : arr.toList.map (·.born) = List.range arr.size := by
        apply List.ext_getElem?
        intro i
        by_cases hi : i < arr.size
        · have h1 : arr[i]? = some arr[i] := by simp [hi]
          have h2 := hbo i _ h1
          simp [hi, h2]
        · simp [hi]
      rw [this]
      exact List.nodup_range
    · rw [hk]
      exact List.Pairwise.map _ (fun a b hne e => hne (by injection e)) hn
  refine ⟨_, ⟨arr, clock, hb, hfit, Nat.le_refl _, rfl⟩, ?_, ?_⟩
  · have h1 := (WideShapes.sorted_perm (arr.toList.map (rg Tryz.prog 3 plainR))).length_eq
    rw [Maps.size_eq, h1]
    simpa using hlen
  · unfold intKeys
    refine ((WideShapes.sorted_perm (arr.toList.map (rg Tryz.prog 3 plainR))).map _).trans ?_
    have : (arr.toList.map (rg Tryz.prog 3 plainR)).map (fun p => Go.intOf p.1) = ms := by
      have h1 : (arr.toList.map (rg Tryz.prog 3 plainR)).map (fun p => Go.intOf p.1) = (arr.toList.map (·.key)).map fun v => match v with | .int _ n => n | _ => 0 := by
        rw [List.map_map, List.map_map]
        apply List.map_congr_left
        intro x hx
        obtain ⟨n, _, h2, h3⟩ := hrd x hx
        simp only [Function.comp_apply, rg_of h3, Go.intOf, h2]
      rw [h1, hk, List.map_map]
      exact List.map_id' ms
    rw [this]
theorem sorted_fast {args : List AV} {st st' : St} {en : En} (h : sortedF 136 3 st args = .ok (en, st')) {N : Nat → Prop} {ρ : Rho} {W w : World} {vs : Array Value} (hM : MR N ρ env.ro st W w) (hv : VRs ρ args vs.toList) : CallsTo env.P 64 vs w (EnR N ρ env.ro W en st') := by
  unfold sortedF at h
  split at h
  case h_2 => cases h
  rename_i f id
  split at h
  case h_2 => cases h
  rename_i m hcond hcell
  simp only [Bool.and_eq_true] at hcond
  obtain ⟨hf, hbox⟩ := hcond
  obtain rfl := beq_true hf
  split at h
  case h_2 => cases h
  rename_i ob hob
  split at h
  case h_2 => cases h
  rename_i es hes
  -- the arguments
  generalize hvl : vs.toList = vl at hv
  cases hv with | cons _ q _ _ hq hr =>
  cases hr
  cases hq with | fn _ _ _ x' c' hx hc =>
  generalize hxl : x'.toList = xl at hx
  cases hx
  obtain rfl : x' = #[] := by apply Array.ext'; rw [hxl]
  generalize hcl : c'.toList = cl at hc
  cases hc with | cons _ p _ _ hp hr =>
  cases hr
  cases hp with | ptr _ _ L hL =>
  obtain rfl : c' = #[.pointer (some ⟨L.b, L.base + 0, none⟩)] := by apply Array.ext'; rw [hcl]
  obtain rfl : vs = #[.func (.func 136) #[] #[.pointer (some ⟨L.b, L.base + 0, none⟩)]] := by apply Array.ext'; rw [hvl]
  have hbase : L.base = 0 := by
    unfold boxed at hbox
    split at hbox
    · rename_i hrow
      obtain ⟨_, _, _, _, _, h1, _⟩ := hM.row hL hrow
      exact h1 rfl
    · cases hbox
  obtain ⟨v, hcv, hmv⟩ := hM.cell hL hcell
  cases hmv with | map _ M hMm =>
  rw [hbase] at hcv ⊢
  simp only [Nat.zero_add] at hcv ⊢
  -- the map
  obtain ⟨arr, clock, l, hmap, hperm, hers, hclk, hborn⟩ : ∃ arr clock l, w.heap[M.b]? = some (.map arr clock) ∧ List.Perm l es ∧ ERs ρ l arr.toList ∧ clock = arr.size ∧ ∀ (i : Nat) e, arr[i]? = some e → e.born = i := by
    obtain ⟨o, ho, hor⟩ := hM.obs _ _ _ hMm hob
    unfold entriesOf at hes
    split at hes
    · cases hes
      obtain ⟨arr, clock, rfl, h1, _, h2⟩ := hor
      obtain ⟨h3, h4⟩ := h2 rfl
      exact ⟨arr, clock, _, ho, .refl _, h1, h3, h4⟩
    · cases hes
      obtain ⟨arr, clock, l, rfl, h1, h2, _, h3, h4⟩ := hor
      exact ⟨arr, clock, l, ho, h1, h2, h3, h4⟩
    · cases hes
  have hBl : L.b < w.heap.size := hM.lt _ _ hL
  have core : ∀ ns, distinctK .i64 es = true → intsOf es = some ns → es.length ≤ 100000 →
      Calls Tryz.prog 64 #[.func (.func 136) #[] #[.pointer (some ⟨L.b, 0, none⟩)]] w fun e w' => ∃ v : Value, e = .returned v ∧ w'.ownsRow w.heap.size 3 1 v ns.length ((sortI ns).map encZ) ∧ (v = .slice none 0 0 ↔ ns = []) ∧ Below w.heap.size w w' := by
    intro ns hd hi hlen
    obtain ⟨e1, e2⟩ := intsOf_spec hi
    have hnd := distinctK_nodup hd e1
    have hkp : (l.map (·.1)).Perm (ns.map (AV.int .i64)) := e1 ▸ hperm.map _
    have hall : ∀ k ∈ l.map (·.1), ∃ n, k = AV.int .i64 n := fun k hk => by
      obtain ⟨n, _, h2⟩ := List.mem_map.1 (hkp.mem_iff.1 hk)
      exact ⟨n, h2.symm⟩
    obtain ⟨k1, k2⟩ := keys_ints hall hers.1
    generalize hms : (l.map (·.1)).map unI = ms at k1 k2
    have hmsp : ms.Perm ns := by
      have := hkp.map unI
      rw [unI_map, hms] at this
      exact this
    have hsz : arr.size = es.length := by
      have h1 := hers.1.length
      have h2 := hperm.length_eq
      simp at h1
      omega
    obtain ⟨D0, o1, o2, o3⟩ := owns_ints (ms := ms) hmap k2 (fun n hn => e2 n (hmsp.mem_iff.1 hn)) (hmsp.nodup_iff.2 hnd) hclk hborn (by omega)
    refine (Tryz.sortedKeys L.b M.b arr.size D0 plainR w hBl hcv o1 (by unfold maxLen; omega) (by omega)).mono fun e w' ⟨v, ss, h1, h2, h3, h4, h5⟩ => ?_
    have hss : ss.Perm ns := (h2.trans o3).trans hmsp
    refine ⟨v, h1, ?_, ?_, h5⟩
    · rw [sortI_merge hss, hss.length_eq] at h3
      exact h3
    · rw [h4]
      constructor
      · intro e; subst e; exact (List.perm_nil.1 hss.symm)
      · intro e; subst e; exact (List.perm_nil.1 hss)
  refine .inr ⟨Tryz.enters64 _ _, ?_⟩
  split at h
  · rename_i hd hi hlen
    cases h
    refine (core [] hd hi (ble_true hlen)).mono fun e w' ⟨v, h1, h2, h3, h4⟩ => ?_
    obtain rfl := h3.2 rfl
    subst h1
    exact ⟨ρ, Rho.le_refl _, hM.later h4, .nilsl⟩
  · rename_i n r hd hi hlen
    cases h
    refine (core (n :: r) hd hi (ble_true hlen)).mono fun e w' ⟨v, h1, h2, h3, h4⟩ => ?_
    subst h1
    obtain ⟨hl, h2⟩ := h2
    rcases h2 with ⟨rfl, hz⟩ | ⟨g, cap, cur, rfl, hg, hcur, hc1, hc2, hc3, hc4⟩
    · cases h3.1 rfl
    have h6 := hM.later h4
    have hf := hM.fresh
    have hp := h6.pendC (cs := PT.lay ((sortI (n :: r)).map fun x => AV.int .i64 x) 0 .nil) (k := Nat.succ r.length) (e := 3) (fz := 0) (cl := st.next) (rel := 0) (en := Nat.succ r.length) (ms := []) (Nat.le_refl _) (by omega)
      (fun j cs' n' e' fz' rel' hj => (no_old_class hM hj).elim)
    refine ⟨ρ.put st.next ⟨g, cur.size, 0⟩, Rho.put_le hf, ?_, ?_⟩
    · refine hp.here (id := st.next) (ob := .row (PT.lay ((sortI (n :: r)).map fun x => AV.int .i64 x) 0 .nil) (Nat.succ r.length) 3 0 (st.next + 1) 0) (fun ob' hob => ?_) (Nat.lt_succ_self _) hf hM.freshN hM.ron hcur (by have := hM.below.size; show _ ≤ g; omega) (fun j M' hj e => ?_) ?_
      · rcases PT.get_set hob with ⟨_, r⟩ | ⟨n, _⟩
        · exact r
        · exact absurd rfl n
      · have := hM.lt _ _ hj
        have e : M'.b = g := e
        omega
      · refine ⟨cur, 0, 0, rfl, rfl, fun _ => rfl, fun i a hi => ?_, fun _ => ⟨rfl, rfl⟩, fun e => by cases e⟩
        rcases PT.get_lay hi with ⟨_, y⟩ | ⟨_, y⟩
        · simp only [Nat.sub_zero, List.getElem?_map, Option.map_eq_some_iff] at y
          obtain ⟨x, hx, rfl⟩ := y
          have hlen2 : (sortI (n :: r)).length = r.length + 1 := by simpa using (sortI_perm (n :: r)).length_eq
          have hxi := (List.getElem?_eq_some_iff.1 hx).1
          refine ⟨by rw [hlen2] at hxi; exact hxi, .int .i64 x, ?_, .int _ _⟩
          have h7 : (cur.toList.take ((n :: r).length * 1))[i]? = some (.int .i64 x) := by
            rw [hc4, List.getElem?_map, hx]; rfl
          rw [List.getElem?_take] at h7
          split at h7
          · simpa using h7
          · cases h7
        · cases y
    · refine .sl _ _ _ _ ⟨g, cur.size, 0⟩ cap 0 Rho.put_same ⟨?_, .inr rfl⟩ ?_
      · show 0 + 0 + cap * 1 = cur.size
        omega
      · simpa using hc1
  · cases h
end Go.Proofs.YtjifnmilimdfdaaGreatDoor
