/- Calls of the table of hornbeamlaw19.FdlabelNone, run by the kernel. -/
import Derived.Test.YtjifnmilimdfdaaGreatDoorEntB
namespace Go.Proofs.YtjifnmilimdfdaaGreatDoor
open Go Go.Proofs.YtjifnmilimdfdaaGreatDoor.Ab
set_option maxRecDepth 1000000 in
theorem brun13 : entryRun be13 ((ev (env.memo (tabOf [])) 100000).call 375 be13.args be13.st) = true := by kernel_rfl
set_option maxRecDepth 1000000 in
theorem brun20 : entryRun be20 ((ev (env.memo (tabOf [])) 100000).call 375 be20.args be20.st) = true := by kernel_rfl
set_option maxRecDepth 1000000 in
theorem brun26 : entryRun be26 ((ev (env.memo (tabOf [])) 100000).call 55 be26.args be26.st) = true := by kernel_rfl
end Go.Proofs.YtjifnmilimdfdaaGreatDoor
