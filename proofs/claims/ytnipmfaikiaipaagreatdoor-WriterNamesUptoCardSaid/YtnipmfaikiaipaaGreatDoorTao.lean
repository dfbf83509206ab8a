import Derived.Test.YtnipmfaikiaipaaGreatDoorTal
import Derived.Test.YtnipmfaikiaipaaGreatDoorTaa
set_option maxRecDepth 1000000
set_option maxHeartbeats 40000000
namespace Go.Rb
open Go.Pf
def dgv (c:Nat):Nat:=if 48≤c∧c≤57 then c-48 else if 97≤c∧c≤122 then c-97+10 else if 65≤c∧c≤90 then c-65+10 else 99
def vN (r:Nat) (s:ByteArray):Nat→Nat
 |0=>0
 |k+1=>vN r s k*r+dgv (byte s k)
theorem vN_mono {r:Nat}(hr:1≤r) (s:ByteArray){j k:Nat}(h:j≤k):vN r s j≤vN r s k:=by
 induction h with
 |refl=>exact nR _
 |step _ ih=>exact Nat.le_trans ih (by rw[vN];exact Nat.le_trans (Nat.le_mul_of_pos_right _ hr) (Nat.le_add_right _ _))
end Go.Rb
