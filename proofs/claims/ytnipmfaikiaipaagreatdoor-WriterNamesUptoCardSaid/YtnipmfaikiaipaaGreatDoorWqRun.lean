/- The chapter's examples (writer's awake), and a control character's number in hexadecimal digits, by the reading. -/
import Derived.Test.YtnipmfaikiaipaaGreatDoorEnw
import Derived.Test.YtnipmfaikiaipaaGreatDoorAbC
import Derived.Test.YtnipmfaikiaipaaGreatDoorRows
import Derived.Test.YtnipmfaikiaipaaGreatDoorTal
namespace Go.Proofs.YtnipmfaikiaipaaGreatDoor
open Go Go.Proofs.YtnipmfaikiaipaaGreatDoor.Ab Go.RowKit Go.Bg
set_option maxRecDepth 1000000 in
theorem awake6_run : saysTrue ((ev env 100000).call 9 [] (seed env.P Rows.writerNamesRow.laid env.ro [])) = true := by kernel_rfl
theorem awake6_calls {W : World} (hL : laidMet Tryz.prog Rows.writerNamesRow.laid W) (hsh : W.ShapedOpen Tryz.prog) : Calls Tryz.prog 9 #[] W fun e W' => e = .returned (.bool true) ∧ Below W.heap.size W W' := by
  obtain ⟨st', h⟩ := saysTrue_spec awake6_run
  obtain ⟨c, hc⟩ : ∃ c, Tryz.f9.body = some c := ⟨_, rfl⟩
  refine (ev_calls (E := env) (σ := Rho.no.sg) fits rfl (Nat.le_refl _) rows_ok Tryz.func9 hc (fx := []) (fun p hp => by cases hp) h hL hsh .nil).mono fun e W' ⟨q, ρ, h1, h2, h3⟩ => ?_
  cases h2
  exact ⟨h1, h3⟩
def saysStr (l : List UInt8) (r : Rs (En × St)) : Bool := match r with
  | .ok (.ret (.str m), _) => eqBytes m l
  | _ => false
theorem eqBytes_eq : ∀ {a b : List UInt8}, eqBytes a b = true → a = b
  | [], [], _ => rfl
  | [], _ :: _, h => by cases h
  | _ :: _, [], h => by cases h
  | x :: r, y :: s, h => by
    have h' : (match Nat.beq x.toNat y.toNat with
      | true => eqBytes r s
      | false => false) = true := h
    cases hb : Nat.beq x.toNat y.toNat with
    | true =>
      rw [hb] at h'
      have := UInt8.toNat_inj.1 (Nat.eq_of_beq_eq_true hb)
      rw [this, eqBytes_eq h']
    | false => rw [hb] at h'; cases h'
theorem saysStr_spec {l : List UInt8} {r : Rs (En × St)} (h : saysStr l r = true) : ∃ st', r = .ok (.ret (.str l), st') := by
  unfold saysStr at h
  split at h
  · rw [← eqBytes_eq h]; exact ⟨_, rfl⟩
  · cases h
def ctl : List Nat := [0, 1, 2, 3, 4, 5, 6, 7, 8, 9, 10, 11, 12, 13, 14, 15, 16, 17, 18, 19, 20, 21, 22, 23, 24, 25, 26, 27, 28, 29, 30, 31, 127]
set_option maxRecDepth 1000000 in
theorem fmt_run : (ctl.all fun v => saysStr (numL 16 v) ((ev env 100000).call 59 [.int .i64 (Int.ofNat v), .int .i64 16] (seed env.P Rows.writerNamesRow.laid env.ro []))) = true := by kernel_rfl
theorem ctl_mem {v : Nat} (h : v < 32 ∨ v = 127) : v ∈ ctl := by
  unfold ctl
  simp only [List.mem_cons, List.mem_nil_iff, or_false]
  omega
end Go.Proofs.YtnipmfaikiaipaaGreatDoor
