/- The closed run of WriterNone, by the kernel. -/
import Derived.Test.YtmglkdekjkgflaaGreatDoorEnv
import Derived.Test.YtmglkdekjkgflaaGreatDoorWrap
import Derived.Test.YtmglkdekjkgflaaGreatDoorRows
namespace Go.Proofs.YtmglkdekjkgflaaGreatDoor
open Go Go.Proofs.YtmglkdekjkgflaaGreatDoor.Ab
theorem writer_run : saysTrue ((ev env 100000).call 5 [.agg (List.replicate 6 .any), .agg (List.replicate 3 .any)] (seed env.P Rows.writerNoneRow.laid env.ro)) = true := by kernel_rfl
end Go.Proofs.YtmglkdekjkgflaaGreatDoor
