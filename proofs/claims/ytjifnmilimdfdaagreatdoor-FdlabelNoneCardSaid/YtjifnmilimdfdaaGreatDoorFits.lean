/- The environment fits the program. -/
import Derived.Test.YtjifnmilimdfdaaGreatDoorSrt
import Derived.Test.YtjifnmilimdfdaaGreatDoorEnt
namespace Go.Proofs.YtjifnmilimdfdaaGreatDoor
open Go Go.Proofs.YtjifnmilimdfdaaGreatDoor.Ab
theorem fits : Fit env := by
  refine Fit.of (by kernel_rfl) (fun f e h => ?_) (fun f fn h1 h2 => ?_) (fun f F h => ?_)
  · have := extFind_mem (l := exts) h
    simp only [exts, List.mem_cons, List.mem_nil_iff, or_false, Prod.mk.injEq] at this
    rcases this with ⟨rfl, rfl⟩ | ⟨rfl, rfl⟩ | ⟨rfl, rfl⟩
    · exact xf230
    · exact xf194
    · exact xf164
  · have h3 := List.all_eq_true.1 no_goroutines fn (by
      have := Array.mem_of_getElem? h1
      exact Array.mem_toList_iff.2 this)
    cases hb : fn.body with
    | none => rw [hb] at h2; cases h2
    | some c => rw [hb] at h3; simpa using h3
  · simp only [env] at h
    split at h
    · rename_i hf
      cases h
      obtain rfl := beq_true hf
      exact fun call _ args st en st' hr N ρ W w vs hM hg hv => sorted_fast hr hM hv
    · cases h
end Go.Proofs.YtjifnmilimdfdaaGreatDoor
namespace Go.Proofs.YtjifnmilimdfdaaGreatDoor.Ab
open Go
theorem ok_nil {E : Env} : ∀ x ∈ ([] : List (FuncId × Entry)), EntryOk E x.1 x.2 := fun _ h => by cases h
theorem ok_cons {E : Env} {f : FuncId} {e : Entry} {r : List (FuncId × Entry)} (h : EntryOk E f e) (hr : ∀ x ∈ r, EntryOk E x.1 x.2) : ∀ x ∈ (f, e) :: r, EntryOk E x.1 x.2 := fun x hx => by
  rcases List.mem_cons.1 hx with rfl | hx
  · exact h
  · exact hr x hx
end Go.Proofs.YtjifnmilimdfdaaGreatDoor.Ab
