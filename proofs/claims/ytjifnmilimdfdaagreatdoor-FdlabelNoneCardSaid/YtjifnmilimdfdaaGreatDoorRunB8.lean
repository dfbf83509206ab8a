/- Calls of the table of hornbeamlaw19.FdlabelNone, run by the kernel. -/
import Derived.Test.YtjifnmilimdfdaaGreatDoorEntB
namespace Go.Proofs.YtjifnmilimdfdaaGreatDoor
open Go Go.Proofs.YtjifnmilimdfdaaGreatDoor.Ab
set_option maxRecDepth 1000000 in
theorem brun11 : entryRun be11 ((ev (env.memo (tabOf [])) 100000).call 27 be11.args be11.st) = true := by kernel_rfl
set_option maxRecDepth 1000000 in
theorem brun12 : entryRun be12 ((ev (env.memo (tabOf [])) 100000).call 375 be12.args be12.st) = true := by kernel_rfl
set_option maxRecDepth 1000000 in
theorem brun15 : entryRun be15 ((ev (env.memo (tabOf [])) 100000).call 27 be15.args be15.st) = true := by kernel_rfl
set_option maxRecDepth 1000000 in
theorem brun23 : entryRun be23 ((ev (env.memo (tabOf [])) 100000).call 375 be23.args be23.st) = true := by kernel_rfl
end Go.Proofs.YtjifnmilimdfdaaGreatDoor
