import Derived.Test.YtpjcdbjablijkaaGreatDoorTal
import Derived.Test.YtpjcdbjablijkaaGreatDoorTaa
set_option maxRecDepth 1000000
set_option maxHeartbeats 40000000
namespace Go.Rb
open Go.Pf
def dgv (c:Nat):Nat:=if 48≤c∧c≤57 then c-48 else if 97≤c∧c≤122 then c-97+10 else if 65≤c∧c≤90 then c-65+10 else 99
def vN (r:Nat) (s:ByteArray):Nat→Nat
 |0=>0
 |k+1=>vN r s k*r+dgv (byte s k)
end Go.Rb
