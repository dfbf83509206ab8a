import Derived.Test.YtpjcdbjablijkaaGreatDoorTbc
import Derived.Test.YtpjcdbjablijkaaGreatDoorTba
import Derived.Test.YtpjcdbjablijkaaGreatDoorTal
import Derived.Test.YtpjcdbjablijkaaGreatDoorTaa
import Derived.Deep.CutBlock
set_option maxRecDepth 1000000
set_option maxHeartbeats 40000000
namespace Go.Proofs
open Go.RowKit Go.Pf Go.Lx Go.Hb Go.Rb Go.Bg
def ChpEnd (R:Option TR) (w:World) (e:Ending) (w':World):Prop:=
 (match R with
  |none=>∃(k:Int) (tx nu:ByteArray) (bits at_ en:Int) (ly:Bool),e= .returned (.tuple #[tokV k tx nu bits at_ en ly,.int .i64 0,.int .i64 0,.bool false])
  |some (.ok k tx nu bits a en)=>e= .returned (.tuple #[tokV k tx nu bits a en false,.int .i64 0,.int .i64 0,.bool true])
  |some (.err p n)=>∃(k:Int) (tx nu:ByteArray) (bits at_ en:Int) (ly:Bool),e= .returned (.tuple #[tokV k tx nu bits at_ en ly,.int .i64 p,.int .i64 n,.bool true]))∧Below w.heap.size w w'
theorem ChpEnd.ok {R:Option TR} {w w':World} {k bits a E:Nat} {tx nu:ByteArray}(h:R=some (.ok k tx nu bits a E)) (hb:Below w.heap.size w w'):ChpEnd R w (.returned (.tuple #[tokV k tx nu bits a E false,.int .i64 0,.int .i64 0,.bool true])) w':=by subst h;exact⟨rfl,hb⟩
end Go.Proofs
