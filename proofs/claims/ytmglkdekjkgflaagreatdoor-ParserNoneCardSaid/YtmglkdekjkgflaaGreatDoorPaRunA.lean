/- The closed run of ParserNone, by the kernel, in one of its three cases. -/
import Derived.Test.YtmglkdekjkgflaaGreatDoorPaBase
namespace Go.Proofs.YtmglkdekjkgflaaGreatDoor
open Go Go.Proofs.YtmglkdekjkgflaaGreatDoor.Ab
namespace Pa
theorem runA : saysTrue ((ev env 100000).call 4 [.sx (.v 0), .ix .i64 (.v 1)] (seed env.P Rows.parserNoneRow.laid env.ro [(ge, true), (le, true)])) = true := by kernel_rfl
end Pa
end Go.Proofs.YtmglkdekjkgflaaGreatDoor
