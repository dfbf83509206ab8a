/- ParserNone: text and place are symbols; the facts that tell which of the three cases it is. -/
import Derived.Test.YtmglkdekjkgflaaGreatDoorEnv
import Derived.Test.YtmglkdekjkgflaaGreatDoorWrap
import Derived.Test.YtmglkdekjkgflaaGreatDoorRows
namespace Go.Proofs.YtmglkdekjkgflaaGreatDoor
open Go Go.Proofs.YtmglkdekjkgflaaGreatDoor.Ab
namespace Pa
def ge : SX := .bin .geq .i64 (.v 1) .i64 (.int 0)
def le : SX := .bin .leq .i64 (.v 1) .i64 (.len (.v 0))
def lt : SX := .bin .lss .i64 (.v 1) .i64 (.int 0)
def gt : SX := .bin .gtr .i64 (.v 1) .i64 (.len (.v 0))
end Pa
end Go.Proofs.YtmglkdekjkgflaaGreatDoor
