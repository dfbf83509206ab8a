/- The closed run of FdlabelNone, by the kernel, over its table of calls. -/
import Derived.Test.YtjifnmilimdfdaaGreatDoorEntB
import Derived.Test.YtjifnmilimdfdaaGreatDoorWrap
import Derived.Test.YtjifnmilimdfdaaGreatDoorRows
namespace Go.Proofs.YtjifnmilimdfdaaGreatDoor
open Go Go.Proofs.YtjifnmilimdfdaaGreatDoor.Ab
noncomputable def btab : List (FuncId × Entry) := [(9, be0), (25, be1), (375, be2), (375, be3), (54, be14), (54, be25), (55, be26)]
set_option maxRecDepth 1000000 in
theorem blaw_run : saysTrue ((ev (env.memo (tabOf btab)) 100000).call 4 [.agg (List.replicate 4 .any)] (seed env.P Rows.fdlabelNoneRow.laid env.ro [])) = true := by kernel_rfl
end Go.Proofs.YtjifnmilimdfdaaGreatDoor
