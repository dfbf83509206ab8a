/- Calls of the table of hornbeamlaw19.FdlabelNone, run by the kernel. -/
import Derived.Test.YtjifnmilimdfdaaGreatDoorEntB
namespace Go.Proofs.YtjifnmilimdfdaaGreatDoor
open Go Go.Proofs.YtjifnmilimdfdaaGreatDoor.Ab
set_option maxRecDepth 1000000 in
theorem brun1 : entryRun be1 ((ev (env.memo (tabOf [])) 100000).call 25 be1.args be1.st) = true := by kernel_rfl
set_option maxRecDepth 1000000 in
theorem brun22 : entryRun be22 ((ev (env.memo (tabOf [])) 100000).call 27 be22.args be22.st) = true := by kernel_rfl
set_option maxRecDepth 1000000 in
theorem brun24 : entryRun be24 ((ev (env.memo (tabOf [])) 100000).call 375 be24.args be24.st) = true := by kernel_rfl
set_option maxRecDepth 1000000 in
theorem brun25 : entryRun be25 ((ev (env.memo (tabOf [(27, be15), (375, be16), (54, be21), (27, be22), (375, be23), (375, be24)])) 100000).call 54 be25.args be25.st) = true := by kernel_rfl
end Go.Proofs.YtjifnmilimdfdaaGreatDoor
