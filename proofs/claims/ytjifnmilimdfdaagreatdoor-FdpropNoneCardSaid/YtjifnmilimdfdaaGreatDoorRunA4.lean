/- Calls of the table of hornbeamlaw18.FdpropNone, run by the kernel. -/
import Derived.Test.YtjifnmilimdfdaaGreatDoorEntA
namespace Go.Proofs.YtjifnmilimdfdaaGreatDoor
open Go Go.Proofs.YtjifnmilimdfdaaGreatDoor.Ab
set_option maxRecDepth 1000000 in
theorem arun8 : entryRun ae8 ((ev (env.memo (tabOf [])) 100000).call 375 ae8.args ae8.st) = true := by kernel_rfl
set_option maxRecDepth 1000000 in
theorem arun12 : entryRun ae12 ((ev (env.memo (tabOf [])) 100000).call 375 ae12.args ae12.st) = true := by kernel_rfl
end Go.Proofs.YtjifnmilimdfdaaGreatDoor
