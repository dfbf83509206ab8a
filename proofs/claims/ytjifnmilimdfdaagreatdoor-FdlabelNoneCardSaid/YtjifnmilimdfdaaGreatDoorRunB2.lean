/- Calls of the table of hornbeamlaw19.FdlabelNone, run by the kernel. -/
import Derived.Test.YtjifnmilimdfdaaGreatDoorEntB
namespace Go.Proofs.YtjifnmilimdfdaaGreatDoor
open Go Go.Proofs.YtjifnmilimdfdaaGreatDoor.Ab
set_option maxRecDepth 1000000 in
theorem brun17 : entryRun be17 ((ev (env.memo (tabOf [])) 100000).call 27 be17.args be17.st) = true := by kernel_rfl
set_option maxRecDepth 1000000 in
theorem brun18 : entryRun be18 ((ev (env.memo (tabOf [])) 100000).call 375 be18.args be18.st) = true := by kernel_rfl
set_option maxRecDepth 1000000 in
theorem brun21 : entryRun be21 ((ev (env.memo (tabOf [(27, be17), (375, be18), (27, be19), (375, be20)])) 100000).call 54 be21.args be21.st) = true := by kernel_rfl
end Go.Proofs.YtjifnmilimdfdaaGreatDoor
