/- States as lists; tables of calls. -/
import Derived.Test.YtjifnmilimdfdaaGreatDoorEnvD
namespace Go.Proofs.YtjifnmilimdfdaaGreatDoor.Ab
open Go
noncomputable section
def ptOf {α : Type} (l : List (Nat × α)) : PT α := match l with
  | [] => .nil
  | x :: r => (ptOf r).set x.1 x.2
def mkSt (h : List (Nat × Ob)) (n : Nat) (c : List (Nat × (Nat × List Nat))) : St := ⟨ptOf h, n, ptOf c, []⟩
def rowL (l : List AV) (n e fz cl rel : Nat) : Ob := .row (PT.lay l 0 .nil) n e fz cl rel
def rowP (l : List (Nat × AV)) (n e fz cl rel : Nat) : Ob := .row (ptOf l) n e fz cl rel
def tabOf (l : List (FuncId × Entry)) (f : FuncId) : List Entry := match l with
  | [] => []
  | x :: r => match Nat.beq x.1 f with
    | true => x.2 :: tabOf r f
    | false => tabOf r f
theorem tabOf_mem {f : FuncId} {e : Entry} : ∀ {l : List (FuncId × Entry)}, e ∈ tabOf l f → (f, e) ∈ l
  | [], h => by cases h
  | x :: r, h => by
    unfold tabOf at h
    split at h
    · rename_i hx
      have hx := beq_true hx
      subst hx
      rcases List.mem_cons.1 h with rfl | h
      · exact .head _
      · exact .tail _ (tabOf_mem h)
    · exact .tail _ (tabOf_mem h)
theorem entry_ok {E : Env} (hF : Fit E) (l : List (FuncId × Entry)) (hl : ∀ x ∈ l, EntryOk E x.1 x.2) {n : Nat} {f : FuncId} {e : Entry} (h : entryRun e ((ev (E.memo (tabOf l)) n).call f e.args e.st) = true) : EntryOk E f e :=
  EntryOk.of_ev (E := E.memo (tabOf l)) (Fit.memo hF _ fun _ _ he => hl _ (tabOf_mem he)) h
theorem fit_tab {E : Env} (hF : Fit E) (l : List (FuncId × Entry)) (hl : ∀ x ∈ l, EntryOk E x.1 x.2) : Fit (E.memo (tabOf l)) := Fit.memo hF _ fun _ _ he => hl _ (tabOf_mem he)
end
end Go.Proofs.YtjifnmilimdfdaaGreatDoor.Ab
