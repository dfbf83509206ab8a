/- The closed run of ParserNone, by the kernel, in one of its three cases. -/
import Derived.Test.YtmglkdekjkgflaaGreatDoorPaBase
namespace Go.Proofs.YtmglkdekjkgflaaGreatDoor
open Go Go.Proofs.YtmglkdekjkgflaaGreatDoor.Ab
namespace Pa
theorem runC : saysTrue ((ev env 100000).call 4 [.sx (.v 0), .ix .i64 (.v 1)] (seed env.P Rows.parserNoneRow.laid env.ro [(ge, true), (le, false), (lt, false), (gt, true)])) = true := by kernel_rfl
end Pa
end Go.Proofs.YtmglkdekjkgflaaGreatDoor
