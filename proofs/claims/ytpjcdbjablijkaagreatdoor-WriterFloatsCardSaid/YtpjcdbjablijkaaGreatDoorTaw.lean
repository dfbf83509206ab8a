import Derived.Test.YtpjcdbjablijkaaGreatDoorTav
import Derived.Test.YtpjcdbjablijkaaGreatDoorTal
import Derived.Test.YtpjcdbjablijkaaGreatDoorTaa
set_option maxRecDepth 1000000
set_option maxHeartbeats 40000000
namespace Go.Proofs
open Go.RowKit Go.Pf Go.Lx Go.Hb Go.Rb Go.Bg
theorem TokEnd.ok {R:TR} {w w':World} {k bits a E:Nat} {tx nu:ByteArray}(h:R= .ok k tx nu bits a E) (hb:Below w.heap.size w w'):TokEnd R w (.returned (.tuple #[tokV k tx nu bits a E false,.int .i64 0])) w':=by subst h;exact⟨rfl,hb⟩
end Go.Proofs
