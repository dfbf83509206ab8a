/- Calls of the table of hornbeamlaw18.FdpropNone, run by the kernel. -/
import Derived.Test.YtjifnmilimdfdaaGreatDoorEntA
namespace Go.Proofs.YtjifnmilimdfdaaGreatDoor
open Go Go.Proofs.YtjifnmilimdfdaaGreatDoor.Ab
set_option maxRecDepth 1000000 in
theorem arun2 : entryRun ae2 ((ev (env.memo (tabOf [])) 100000).call 375 ae2.args ae2.st) = true := by kernel_rfl
set_option maxRecDepth 1000000 in
theorem arun7 : entryRun ae7 ((ev (env.memo (tabOf [])) 100000).call 375 ae7.args ae7.st) = true := by kernel_rfl
set_option maxRecDepth 1000000 in
theorem arun15 : entryRun ae15 ((ev (env.memo (tabOf [])) 100000).call 375 ae15.args ae15.st) = true := by kernel_rfl
end Go.Proofs.YtjifnmilimdfdaaGreatDoor
