/- The table of calls of hornbeamlaw18.FdpropNone holds. -/
import Derived.Test.YtjifnmilimdfdaaGreatDoorFits
import Derived.Test.YtjifnmilimdfdaaGreatDoorRunA1
import Derived.Test.YtjifnmilimdfdaaGreatDoorRunA2
import Derived.Test.YtjifnmilimdfdaaGreatDoorRunA3
import Derived.Test.YtjifnmilimdfdaaGreatDoorRunA4
import Derived.Test.YtjifnmilimdfdaaGreatDoorRunA5
import Derived.Test.YtjifnmilimdfdaaGreatDoorRunA6
namespace Go.Proofs.YtjifnmilimdfdaaGreatDoor
open Go Go.Proofs.YtjifnmilimdfdaaGreatDoor.Ab
theorem aok0 : EntryOk env 9 ae0 := entry_ok fits [] ok_nil arun0
theorem aok1 : EntryOk env 25 ae1 := entry_ok fits [] ok_nil arun1
theorem aok2 : EntryOk env 375 ae2 := entry_ok fits [] ok_nil arun2
theorem aok3 : EntryOk env 375 ae3 := entry_ok fits [] ok_nil arun3
theorem aok4 : EntryOk env 375 ae4 := entry_ok fits [] ok_nil arun4
theorem aok5 : EntryOk env 375 ae5 := entry_ok fits [] ok_nil arun5
theorem aok6 : EntryOk env 375 ae6 := entry_ok fits [] ok_nil arun6
theorem aok7 : EntryOk env 375 ae7 := entry_ok fits [] ok_nil arun7
theorem aok8 : EntryOk env 375 ae8 := entry_ok fits [] ok_nil arun8
theorem aok9 : EntryOk env 375 ae9 := entry_ok fits [] ok_nil arun9
theorem aok10 : EntryOk env 27 ae10 := entry_ok fits [] ok_nil arun10
theorem aok11 : EntryOk env 375 ae11 := entry_ok fits [] ok_nil arun11
theorem aok12 : EntryOk env 375 ae12 := entry_ok fits [] ok_nil arun12
theorem aok13 : EntryOk env 375 ae13 := entry_ok fits [] ok_nil arun13
theorem aok14 : EntryOk env 375 ae14 := entry_ok fits [] ok_nil arun14
theorem aok15 : EntryOk env 375 ae15 := entry_ok fits [] ok_nil arun15
theorem afits : Fit (env.memo (tabOf [(9, ae0), (25, ae1), (375, ae2), (375, ae3), (375, ae4), (375, ae5), (375, ae6), (375, ae7), (375, ae8), (375, ae9), (27, ae10), (375, ae11), (375, ae12), (375, ae13), (375, ae14), (375, ae15)])) := fit_tab fits [(9, ae0), (25, ae1), (375, ae2), (375, ae3), (375, ae4), (375, ae5), (375, ae6), (375, ae7), (375, ae8), (375, ae9), (27, ae10), (375, ae11), (375, ae12), (375, ae13), (375, ae14), (375, ae15)] (ok_cons aok0 (ok_cons aok1 (ok_cons aok2 (ok_cons aok3 (ok_cons aok4 (ok_cons aok5 (ok_cons aok6 (ok_cons aok7 (ok_cons aok8 (ok_cons aok9 (ok_cons aok10 (ok_cons aok11 (ok_cons aok12 (ok_cons aok13 (ok_cons aok14 (ok_cons aok15 ok_nil))))))))))))))))
end Go.Proofs.YtjifnmilimdfdaaGreatDoor
