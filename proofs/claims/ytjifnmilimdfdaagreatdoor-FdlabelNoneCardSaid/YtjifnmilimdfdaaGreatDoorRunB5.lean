/- Calls of the table of hornbeamlaw19.FdlabelNone, run by the kernel. -/
import Derived.Test.YtjifnmilimdfdaaGreatDoorEntB
namespace Go.Proofs.YtjifnmilimdfdaaGreatDoor
open Go Go.Proofs.YtjifnmilimdfdaaGreatDoor.Ab
set_option maxRecDepth 1000000 in
theorem brun8 : entryRun be8 ((ev (env.memo (tabOf [])) 100000).call 27 be8.args be8.st) = true := by kernel_rfl
set_option maxRecDepth 1000000 in
theorem brun9 : entryRun be9 ((ev (env.memo (tabOf [])) 100000).call 375 be9.args be9.st) = true := by kernel_rfl
set_option maxRecDepth 1000000 in
theorem brun16 : entryRun be16 ((ev (env.memo (tabOf [])) 100000).call 375 be16.args be16.st) = true := by kernel_rfl
end Go.Proofs.YtjifnmilimdfdaaGreatDoor
