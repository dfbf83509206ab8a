/- Calls of the table of hornbeamlaw19.FdlabelNone, run by the kernel. -/
import Derived.Test.YtjifnmilimdfdaaGreatDoorEntB
namespace Go.Proofs.YtjifnmilimdfdaaGreatDoor
open Go Go.Proofs.YtjifnmilimdfdaaGreatDoor.Ab
set_option maxRecDepth 1000000 in
theorem brun3 : entryRun be3 ((ev (env.memo (tabOf [])) 100000).call 375 be3.args be3.st) = true := by kernel_rfl
set_option maxRecDepth 1000000 in
theorem brun6 : entryRun be6 ((ev (env.memo (tabOf [])) 100000).call 27 be6.args be6.st) = true := by kernel_rfl
set_option maxRecDepth 1000000 in
theorem brun10 : entryRun be10 ((ev (env.memo (tabOf [(27, be6), (375, be7), (27, be8), (375, be9)])) 100000).call 54 be10.args be10.st) = true := by kernel_rfl
end Go.Proofs.YtjifnmilimdfdaaGreatDoor
