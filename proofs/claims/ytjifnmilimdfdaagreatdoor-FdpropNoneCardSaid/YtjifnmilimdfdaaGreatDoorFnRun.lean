/- The closed run of FdpropNone, by the kernel, over its table of calls. -/
import Derived.Test.YtjifnmilimdfdaaGreatDoorEntA
import Derived.Test.YtjifnmilimdfdaaGreatDoorWrap
import Derived.Test.YtjifnmilimdfdaaGreatDoorRows
namespace Go.Proofs.YtjifnmilimdfdaaGreatDoor
open Go Go.Proofs.YtjifnmilimdfdaaGreatDoor.Ab
noncomputable def atab : List (FuncId × Entry) := [(9, ae0), (25, ae1), (375, ae2), (375, ae3), (375, ae4), (375, ae5), (375, ae6), (375, ae7), (375, ae8), (375, ae9), (27, ae10), (375, ae11), (375, ae12), (375, ae13), (375, ae14), (375, ae15)]
set_option maxRecDepth 1000000 in
theorem alaw_run : saysTrue ((ev (env.memo (tabOf atab)) 100000).call 3 [.any, .agg (List.replicate 6 .any)] (seed env.P Rows.fdpropNoneRow.laid env.ro [])) = true := by kernel_rfl
end Go.Proofs.YtjifnmilimdfdaaGreatDoor
