/- Calls of the table of hornbeamlaw18.FdpropNone, run by the kernel. -/
import Derived.Test.YtjifnmilimdfdaaGreatDoorEntA
namespace Go.Proofs.YtjifnmilimdfdaaGreatDoor
open Go Go.Proofs.YtjifnmilimdfdaaGreatDoor.Ab
set_option maxRecDepth 1000000 in
theorem arun5 : entryRun ae5 ((ev (env.memo (tabOf [])) 100000).call 375 ae5.args ae5.st) = true := by kernel_rfl
set_option maxRecDepth 1000000 in
theorem arun10 : entryRun ae10 ((ev (env.memo (tabOf [])) 100000).call 27 ae10.args ae10.st) = true := by kernel_rfl
set_option maxRecDepth 1000000 in
theorem arun11 : entryRun ae11 ((ev (env.memo (tabOf [])) 100000).call 375 ae11.args ae11.st) = true := by kernel_rfl
end Go.Proofs.YtjifnmilimdfdaaGreatDoor
