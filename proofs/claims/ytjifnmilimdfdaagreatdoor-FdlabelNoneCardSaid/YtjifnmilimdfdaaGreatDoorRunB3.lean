/- Calls of the table of hornbeamlaw19.FdlabelNone, run by the kernel. -/
import Derived.Test.YtjifnmilimdfdaaGreatDoorEntB
namespace Go.Proofs.YtjifnmilimdfdaaGreatDoor
open Go Go.Proofs.YtjifnmilimdfdaaGreatDoor.Ab
set_option maxRecDepth 1000000 in
theorem brun7 : entryRun be7 ((ev (env.memo (tabOf [])) 100000).call 375 be7.args be7.st) = true := by kernel_rfl
set_option maxRecDepth 1000000 in
theorem brun14 : entryRun be14 ((ev (env.memo (tabOf [(27, be4), (375, be5), (54, be10), (27, be11), (375, be12), (375, be13)])) 100000).call 54 be14.args be14.st) = true := by kernel_rfl
set_option maxRecDepth 1000000 in
theorem brun19 : entryRun be19 ((ev (env.memo (tabOf [])) 100000).call 27 be19.args be19.st) = true := by kernel_rfl
end Go.Proofs.YtjifnmilimdfdaaGreatDoor
