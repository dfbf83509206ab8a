/- Calls of the table of hornbeamlaw18.FdpropNone, run by the kernel. -/
import Derived.Test.YtjifnmilimdfdaaGreatDoorEntA
namespace Go.Proofs.YtjifnmilimdfdaaGreatDoor
open Go Go.Proofs.YtjifnmilimdfdaaGreatDoor.Ab
set_option maxRecDepth 1000000 in
theorem arun0 : entryRun ae0 ((ev (env.memo (tabOf [])) 100000).call 9 ae0.args ae0.st) = true := by kernel_rfl
set_option maxRecDepth 1000000 in
theorem arun6 : entryRun ae6 ((ev (env.memo (tabOf [])) 100000).call 375 ae6.args ae6.st) = true := by kernel_rfl
set_option maxRecDepth 1000000 in
theorem arun14 : entryRun ae14 ((ev (env.memo (tabOf [])) 100000).call 375 ae14.args ae14.st) = true := by kernel_rfl
end Go.Proofs.YtjifnmilimdfdaaGreatDoor
