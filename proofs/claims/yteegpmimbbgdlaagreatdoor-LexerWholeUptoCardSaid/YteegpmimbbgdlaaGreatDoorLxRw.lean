import Derived.Test.YteegpmimbbgdlaaGreatDoorLxTks
import Derived.Deep.AppendLies
/- Rows of tokens, read. -/
namespace Go.Proofs
open Go.RowKit Go.Pf Go.Lx Go.Hb Go.Rb Go.Bg
theorem tkc_len (x : TR × Bool) : (tkc x).length = 7 := by
  obtain ⟨R, ly⟩ := x
  cases R <;> rfl
theorem tkc_all (l : List (TR × Bool)) : (l.flatMap tkc).length = l.length * 7 := by
  induction l with
  | nil => rfl
  | cons x l ih => rw [List.flatMap_cons, List.length_append, tkc_len, ih, List.length_cons]; omega
theorem tkc_at {done r : List (TR × Bool)} {x : TR × Bool} {q j : Nat} {v : Value} (hq : q = done.length) (h : (tkc x)[j]? = some v) : ((done ++ x :: r).flatMap tkc)[q * 7 + j]? = some v := by
  have hj : j < 7 := by
    rcases Nat.lt_or_ge j (tkc x).length with h1 | h1
    · rw [tkc_len] at h1; exact h1
    · rw [List.getElem?_eq_none h1] at h; cases h
  have h1 := tkc_all done
  rw [List.flatMap_append, List.flatMap_cons, List.getElem?_append_right (by rw [h1, hq]; omega), h1, hq, show done.length * 7 + j - done.length * 7 = j by omega, List.getElem?_append_left (by rw [tkc_len]; exact hj)]
  exact h
theorem tkc_form (x : TR × Bool) : ∃ (k : Int) (tx nu : ByteArray) (bits a en : Int) (lz : Bool), tkc x = [.int .i64 k, .string tx, .string nu, .int .u64 bits, .int .i64 a, .int .i64 en, .bool lz] := by
  obtain ⟨k, tx, nu, bits, a, en, lz, _, h⟩ := tkc_vals x.1 x.2
  exact ⟨k, tx, nu, bits, a, en, lz, h⟩
/-- The cells of a row's token at a place. -/
theorem row_cells {w W : World} {g cap n base : Nat} {done r M : List (TR × Bool)} {x : TR × Bool} {q : Nat} (hq : q = done.length) (hM : M = done ++ x :: r) (hn : n = M.length) (hown : w.ownsRow base 25 7 (.slice (some ⟨g, 0, none⟩) n cap) n (M.flatMap tkc)) (hb : Below w.heap.size w W) {j : Nat} {v : Value} (hv : (tkc x)[j]? = some v) : W.cell? ⟨g, q * 7 + j, none⟩ = some v := by
  have h1 := own_below hown hb
  have hj : j < 7 := by
    rcases Nat.lt_or_ge j (tkc x).length with h1 | h1
    · rw [tkc_len] at h1; exact h1
    · rw [List.getElem?_eq_none h1] at hv; cases hv
  have hqn : q < n := by rw [hn, hM, List.length_append, List.length_cons]; omega
  rw [World.ownsRow.cellAt h1 (q * 7 + j) (by omega), hM]
  exact tkc_at hq hv
theorem row_ptr {w : World} {va : Option Addr} {cap n base : Nat} {M : List (TR × Bool)} (hn : 0 < n) (hown : w.ownsRow base 25 7 (.slice va n cap) n (M.flatMap tkc)) : ∃ g, va = some ⟨g, 0, none⟩ ∧ g < w.heap.size := by
  have h0 := hown
  rcases hown.2 with ⟨_, h⟩ | ⟨g, cap, cur, h, _⟩
  · omega
  · simp only [Value.slice.injEq] at h
    have := (h0.lt g (by rw [h.1]; rfl)).2
    exact ⟨g, h.1, this⟩
theorem row_form {w : World} {base n : Nat} {v : Value} {M : List Value} (h : w.ownsRow base 25 7 v n M) : ∃ a c, v = .slice a n c := by
  rcases h.2 with ⟨rfl, h0⟩ | ⟨g, cap, cur, rfl, _⟩
  · exact ⟨_, _, by rw [h0]⟩
  · exact ⟨_, _, rfl⟩
end Go.Proofs
