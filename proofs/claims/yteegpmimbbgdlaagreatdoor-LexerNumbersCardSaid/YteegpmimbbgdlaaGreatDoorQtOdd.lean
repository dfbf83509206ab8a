/- The walk of hornbeamref03.Odd over a whole text: below 0: all is characters. -/
import Derived.Test.YteegpmimbbgdlaaGreatDoorQtChar
namespace Go.Proofs
open Go.RowKit Go.Hb
def OddSays (s : ByteArray) (w : World) (e : Ending) (w' : World) : Prop := ∃ r : Int, e = .returned (.int .i64 r) ∧ (r < 0 → Chars s.data.toList) ∧ w' = w
/-- What stands behind has been read; where it is through, all is characters. -/
def Done (l : List UInt8) (p : Nat) : Prop := Chars (l.drop p) → Chars l
theorem Done.zero (l : List UInt8) : Done l 0 := fun h => by simpa using h
theorem Done.step {l : List UInt8} {p : Nat} (h : Done l p) {v n : Int} (hc : CharOk l p v n) (hn : n ≠ 0) : ∃ m : Nat, n = m ∧ 1 ≤ m ∧ p + m ≤ l.length ∧ Done l (p + m) := by
  rcases hc with hc | ⟨hv, hl, r, hr⟩
  · exact absurd hc hn
  · have h1 := Lib.encodeRuneZ_length v
    have h2 : (Lib.encodeRune v).length = (Lib.encodeRuneZ v).length := by simp [Lib.encodeRune]
    have h3 : (l.drop p).length = (Lib.encodeRune v).length + r.length := by rw [hr, List.length_append]
    rw [List.length_drop] at h3
    refine ⟨(Lib.encodeRune v).length, hl, by omega, by omega, fun hd => h ?_⟩
    rw [hr]
    refine .cons v r hv ?_
    have : l.drop (p + (Lib.encodeRune v).length) = r := by
      rw [← List.drop_drop, hr, List.drop_left]
    rwa [this] at hd
theorem Done.end {l : List UInt8} {p : Nat} (h : Done l p) (hp : l.length ≤ p) : Chars l := h (by rw [List.drop_eq_nil_of_le hp]; exact .nil)
set_option maxRecDepth 100000 in
set_option maxHeartbeats 4000000 in
theorem Tryz.odd (s : ByteArray) (w : World) (hs : s.size ≤ 4611686018427387904) :
    Calls Tryz.prog 18 #[.string s, .int .i64 0, .int .i64 s.size] w (OddSays s w) := by
  go_enter Tryz.func18, Tryz.ntmps18
  go_wp2
  go_loop [1] (fun i => ∃ p : Nat, i = .int .i64 p ∧ p ≤ s.size ∧ Done s.data.toList p) (fun i => s.size - (intOf i).toNat)
  case atStart => exact ⟨0, rfl, by omega, Done.zero _⟩
  case round =>
    obtain ⟨p, rfl, hp, hd⟩ := hrel
    by_cases hlt : p < s.size
    · go_wp2_with (go_at_call 32; refine (Tryz.char s p _ hlt hs).mono ?_)
      rintro e w' ⟨v, n, rfl, hc, rfl⟩
      by_cases hn : n = 0
      · subst hn
        go_wp2
        go_ret
        exact ⟨_, rfl, fun h => absurd h (by omega), rfl⟩
      · obtain ⟨m, rfl, m1, m2, hd2⟩ := hd.step hc hn
        have m3 : p + m ≤ s.size := by simpa using m2
        have hm : ¬ m = 0 := by omega
        clear hd m2 hn hc
        go_wp2
        go_round
        case rel => exact ⟨p + m, by go_num, m3, hd2⟩
        case measure => simp [intOf]; omega
    · go_wp2
      go_ret
      exact ⟨_, rfl, fun _ => hd.end (by simpa using (by omega : s.size ≤ p)), rfl⟩
end Go.Proofs
