/- Calls of the table of hornbeamlaw18.FdpropNone, run by the kernel. -/
import Derived.Test.YtjifnmilimdfdaaGreatDoorEntA
namespace Go.Proofs.YtjifnmilimdfdaaGreatDoor
open Go Go.Proofs.YtjifnmilimdfdaaGreatDoor.Ab
set_option maxRecDepth 1000000 in
theorem arun1 : entryRun ae1 ((ev (env.memo (tabOf [])) 100000).call 25 ae1.args ae1.st) = true := by kernel_rfl
set_option maxRecDepth 1000000 in
theorem arun9 : entryRun ae9 ((ev (env.memo (tabOf [])) 100000).call 375 ae9.args ae9.st) = true := by kernel_rfl
set_option maxRecDepth 1000000 in
theorem arun13 : entryRun ae13 ((ev (env.memo (tabOf [])) 100000).call 375 ae13.args ae13.st) = true := by kernel_rfl
end Go.Proofs.YtjifnmilimdfdaaGreatDoor
