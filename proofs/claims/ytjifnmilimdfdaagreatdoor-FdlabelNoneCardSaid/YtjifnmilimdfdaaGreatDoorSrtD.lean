/- slices.Sorted over maps.Keys of a map of ints, by values: the keys, sorted, in a row of their own. -/
import Derived.Test.YtjifnmilimdfdaaGreatDoorMemo
namespace Go.Proofs.YtjifnmilimdfdaaGreatDoor.Ab
open Go
noncomputable section
def insI (n : Int) (l : List Int) : List Int := match l with
  | [] => [n]
  | m :: r => match decide (n ≤ m) with
    | true => n :: m :: r
    | false => m :: insI n r
def sortI (l : List Int) : List Int := match l with
  | [] => []
  | n :: r => insI n (sortI r)
/-- The keys, ints all. -/
def intsOf (es : List (AV × AV)) : Option (List Int) := match es with
  | [] => some []
  | e :: r => match e.1, intsOf r with
    | .int .i64 n, some l => match decide (-9223372036854775808 ≤ n) && decide (n < 9223372036854775808) with
      | true => some (n :: l)
      | false => none
    | _, _ => none
/-- A block that no append has made: it lies at its row's beginning. -/
def boxed (st : St) (id : Nat) : Bool := match st.heap.get id with
  | some (.row _ _ _ _ 0 _) => true
  | _ => false
/-- kf: maps.Keys's iterator; t: the type int. -/
def sortedF (kf t : Nat) (st : St) (args : List AV) : Rs (En × St) := match args with
  | [.fn f [] [.ptr id 0]] => match Nat.beq f kf && boxed st id, st.cell id 0 with
    | true, .ok (.map m) => match st.heap.get m with
      | some ob => match entriesOf ob with
        | some es => match distinctK .i64 es, intsOf es, Nat.ble es.length 100000 with
          | true, some [], true => .ok (.ret .nilsl, st)
          | true, some (n :: r), true => .ok (.ret (.sl st.next 0 (Nat.succ r.length) (.g 1)), (st.grown (PT.lay ((sortI (n :: r)).map fun x => AV.int .i64 x) 0 .nil) (Nat.succ r.length) t 1 (Nat.succ r.length)).2)
          | _, _, _ => .bad "sorted keys"
        | none => .bad "sorted map"
      | none => .bad "sorted block"
    | _, _ => .bad "sorted iterator"
  | _ => .bad "sorted args"
end
end Go.Proofs.YtjifnmilimdfdaaGreatDoor.Ab
