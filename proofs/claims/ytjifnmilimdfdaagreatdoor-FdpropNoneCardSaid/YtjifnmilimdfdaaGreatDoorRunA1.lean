/- Calls of the table of hornbeamlaw18.FdpropNone, run by the kernel. -/
import Derived.Test.YtjifnmilimdfdaaGreatDoorEntA
namespace Go.Proofs.YtjifnmilimdfdaaGreatDoor
open Go Go.Proofs.YtjifnmilimdfdaaGreatDoor.Ab
set_option maxRecDepth 1000000 in
theorem arun3 : entryRun ae3 ((ev (env.memo (tabOf [])) 100000).call 375 ae3.args ae3.st) = true := by kernel_rfl
set_option maxRecDepth 1000000 in
theorem arun4 : entryRun ae4 ((ev (env.memo (tabOf [])) 100000).call 375 ae4.args ae4.st) = true := by kernel_rfl
end Go.Proofs.YtjifnmilimdfdaaGreatDoor
