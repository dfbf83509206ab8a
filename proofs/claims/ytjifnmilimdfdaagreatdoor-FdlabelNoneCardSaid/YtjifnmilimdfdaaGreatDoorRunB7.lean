/- Calls of the table of hornbeamlaw19.FdlabelNone, run by the kernel. -/
import Derived.Test.YtjifnmilimdfdaaGreatDoorEntB
namespace Go.Proofs.YtjifnmilimdfdaaGreatDoor
open Go Go.Proofs.YtjifnmilimdfdaaGreatDoor.Ab
set_option maxRecDepth 1000000 in
theorem brun0 : entryRun be0 ((ev (env.memo (tabOf [])) 100000).call 9 be0.args be0.st) = true := by kernel_rfl
set_option maxRecDepth 1000000 in
theorem brun2 : entryRun be2 ((ev (env.memo (tabOf [])) 100000).call 375 be2.args be2.st) = true := by kernel_rfl
set_option maxRecDepth 1000000 in
theorem brun4 : entryRun be4 ((ev (env.memo (tabOf [])) 100000).call 27 be4.args be4.st) = true := by kernel_rfl
set_option maxRecDepth 1000000 in
theorem brun5 : entryRun be5 ((ev (env.memo (tabOf [])) 100000).call 375 be5.args be5.st) = true := by kernel_rfl
end Go.Proofs.YtjifnmilimdfdaaGreatDoor
