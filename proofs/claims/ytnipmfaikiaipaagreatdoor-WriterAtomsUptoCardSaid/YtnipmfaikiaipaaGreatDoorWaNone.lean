/- WriterAtoms: the law answers true, for every input that its row lets in. -/
import Derived.Test.YtnipmfaikiaipaaGreatDoorDcQuo
import Derived.Test.YtnipmfaikiaipaaGreatDoorCards
import Derived.Test.YtnipmfaikiaipaaGreatDoorTie
import Derived.SizedLaws
namespace Go.Proofs.YtnipmfaikiaipaaGreatDoor
open Go Go.Proofs.YtnipmfaikiaipaaGreatDoor.Ab Go.ChangeShapes Go.WideShapes Go.ChangeAt Go.RowKit
open Go.ChangeMaps (open_string)
namespace Wa
theorem own : ownKnob Tryz.prog.godebug = none := by kernel_rfl
theorem gW : Nd Tryz.prog = true := by kernel_rfl
theorem spec : Sg Rows.writerAtomsSpec 1 := ⟨rfl, fun H ds h => by
  match ds, h with
  | [d0], _ => rfl⟩
theorem gU : (Rows.writerAtomsUptoRow.laid.filter fun x => x.2.handleName?.isSome).isEmpty = true := by kernel_rfl
theorem gZ : ∀ t ∈ Tryz.f4.params.toList, t < Tryz.prog.types.size := by
  rw [Tryz.params4]
  intro t ht
  have h : ([9].all fun t => decide (t < Tryz.prog.types.size)) = true := by kernel_rfl
  exact of_decide_eq_true (List.all_eq_true.1 h t ht)
theorem gf {H : Type} {l : List (DataW H)} {b : List UInt8} (h : Rows.uptoSmall H l = true) (hm : DataW.lit (.string b) ∈ l) : b.length ≤ 1048576 := by
  have h1 : Rows.uptoBulkAll l ≤ 1048576 := of_decide_eq_true h
  have key : ∀ l : List (DataW H), DataW.lit (.string b) ∈ l → b.length ≤ Rows.uptoBulkAll l := by
    intro l
    induction l with
    | nil => intro h; cases h
    | cons d r ih =>
      intro h
      rw [Rows.uptoBulkAll]
      rcases List.mem_cons.1 h with h | h
      · subst h; rw [Rows.uptoBulk]; omega
      · have := ih h; omega
  have := key l hm
  omega
set_option maxRecDepth 100000 in
theorem contract (H : Type) (enc : TypeId × Value → H) (W : World) (base : Nat) (args : Array Value) (ds gs : List (DataW H)) (before : List MemPlace)
    (hval : ∀ (j : Nat) t v, Tryz.f4.params[j]? = some t → args[j]? = some v → Value.okWide Tryz.prog W .any base t v)
    (hW : DataW.Whole enc Tryz.prog Tryz.f4.params.toList Rows.writerAtomsSpec.vars false W args.toList ds gs before)
    (hk : Rows.uptoSmall H (ds ++ gs) = true)
    (hL : laidMetH Tryz.prog Rows.writerAtomsUptoRow.laid W) (hsh : W.ShapedOpen Tryz.prog) :
    Calls Tryz.prog 4 args W fun e W' => ∃ v, e = .returned v ∧ Rows.writerAtomsSpec.post enc Tryz.prog Tryz.f4 false true false false W args v W' := by
  have hW' := hW
  obtain ⟨p, q, hA0, _, _, _, _⟩ := hW
  have hA : DataW.TrodAll enc Tryz.prog W 0 (fun _ => true) true Tryz.f4.params.toList args.toList ds p := hA0
  rw [Tryz.params4] at hA hval
  obtain ⟨v0, vs0, d0, ds0, p0, q0, hargs0, rfl, rfl, h0, r0⟩ := trodAll_cons hA
  obtain ⟨rfl, rfl, rfl⟩ := trodAll_nil r0
  obtain rfl : args = #[v0] := by cases args; simp_all
  have k0 : Value.okWide Tryz.prog W .any base 9 v0 := hval 0 9 v0 (by simp) (by simp)
  obtain ⟨s0, rfl, rfl, _, _⟩ := open_string Tryz.underlying9 k0 h0
  have z0 : s0.size ≤ 1048576 := by have := gf hk (b := s0.data.toList) (by simp); simpa using this
  have hL2 : laidMet Tryz.prog Rows.writerAtomsUptoRow.laid W := N6 gU hL
  refine (gT s0 W z0 hL2 hsh).mono fun e W' ⟨h1, h2⟩ => ⟨_, h1, ?_⟩
  exact XH spec (by kernel_rfl) Tryz.underlying4 gW gZ hW' h2
end Wa
end Go.Proofs.YtnipmfaikiaipaaGreatDoor
