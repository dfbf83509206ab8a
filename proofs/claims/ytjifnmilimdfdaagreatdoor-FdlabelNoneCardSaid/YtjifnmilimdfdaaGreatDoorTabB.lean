/- The table of calls of hornbeamlaw19.FdlabelNone holds. -/
import Derived.Test.YtjifnmilimdfdaaGreatDoorFits
import Derived.Test.YtjifnmilimdfdaaGreatDoorRunB1
import Derived.Test.YtjifnmilimdfdaaGreatDoorRunB2
import Derived.Test.YtjifnmilimdfdaaGreatDoorRunB3
import Derived.Test.YtjifnmilimdfdaaGreatDoorRunB4
import Derived.Test.YtjifnmilimdfdaaGreatDoorRunB5
import Derived.Test.YtjifnmilimdfdaaGreatDoorRunB6
import Derived.Test.YtjifnmilimdfdaaGreatDoorRunB7
import Derived.Test.YtjifnmilimdfdaaGreatDoorRunB8
namespace Go.Proofs.YtjifnmilimdfdaaGreatDoor
open Go Go.Proofs.YtjifnmilimdfdaaGreatDoor.Ab
theorem bok0 : EntryOk env 9 be0 := entry_ok fits [] ok_nil brun0
theorem bok1 : EntryOk env 25 be1 := entry_ok fits [] ok_nil brun1
theorem bok2 : EntryOk env 375 be2 := entry_ok fits [] ok_nil brun2
theorem bok3 : EntryOk env 375 be3 := entry_ok fits [] ok_nil brun3
theorem bok4 : EntryOk env 27 be4 := entry_ok fits [] ok_nil brun4
theorem bok5 : EntryOk env 375 be5 := entry_ok fits [] ok_nil brun5
theorem bok6 : EntryOk env 27 be6 := entry_ok fits [] ok_nil brun6
theorem bok7 : EntryOk env 375 be7 := entry_ok fits [] ok_nil brun7
theorem bok8 : EntryOk env 27 be8 := entry_ok fits [] ok_nil brun8
theorem bok9 : EntryOk env 375 be9 := entry_ok fits [] ok_nil brun9
theorem bok10 : EntryOk env 54 be10 := entry_ok fits [(27, be6), (375, be7), (27, be8), (375, be9)] (ok_cons bok6 (ok_cons bok7 (ok_cons bok8 (ok_cons bok9 ok_nil)))) brun10
theorem bok11 : EntryOk env 27 be11 := entry_ok fits [] ok_nil brun11
theorem bok12 : EntryOk env 375 be12 := entry_ok fits [] ok_nil brun12
theorem bok13 : EntryOk env 375 be13 := entry_ok fits [] ok_nil brun13
theorem bok14 : EntryOk env 54 be14 := entry_ok fits [(27, be4), (375, be5), (54, be10), (27, be11), (375, be12), (375, be13)] (ok_cons bok4 (ok_cons bok5 (ok_cons bok10 (ok_cons bok11 (ok_cons bok12 (ok_cons bok13 ok_nil)))))) brun14
theorem bok15 : EntryOk env 27 be15 := entry_ok fits [] ok_nil brun15
theorem bok16 : EntryOk env 375 be16 := entry_ok fits [] ok_nil brun16
theorem bok17 : EntryOk env 27 be17 := entry_ok fits [] ok_nil brun17
theorem bok18 : EntryOk env 375 be18 := entry_ok fits [] ok_nil brun18
theorem bok19 : EntryOk env 27 be19 := entry_ok fits [] ok_nil brun19
theorem bok20 : EntryOk env 375 be20 := entry_ok fits [] ok_nil brun20
theorem bok21 : EntryOk env 54 be21 := entry_ok fits [(27, be17), (375, be18), (27, be19), (375, be20)] (ok_cons bok17 (ok_cons bok18 (ok_cons bok19 (ok_cons bok20 ok_nil)))) brun21
theorem bok22 : EntryOk env 27 be22 := entry_ok fits [] ok_nil brun22
theorem bok23 : EntryOk env 375 be23 := entry_ok fits [] ok_nil brun23
theorem bok24 : EntryOk env 375 be24 := entry_ok fits [] ok_nil brun24
theorem bok25 : EntryOk env 54 be25 := entry_ok fits [(27, be15), (375, be16), (54, be21), (27, be22), (375, be23), (375, be24)] (ok_cons bok15 (ok_cons bok16 (ok_cons bok21 (ok_cons bok22 (ok_cons bok23 (ok_cons bok24 ok_nil)))))) brun25
theorem bok26 : EntryOk env 55 be26 := entry_ok fits [] ok_nil brun26
theorem bfits : Fit (env.memo (tabOf [(9, be0), (25, be1), (375, be2), (375, be3), (54, be14), (54, be25), (55, be26)])) := fit_tab fits [(9, be0), (25, be1), (375, be2), (375, be3), (54, be14), (54, be25), (55, be26)] (ok_cons bok0 (ok_cons bok1 (ok_cons bok2 (ok_cons bok3 (ok_cons bok14 (ok_cons bok25 (ok_cons bok26 ok_nil)))))))
end Go.Proofs.YtjifnmilimdfdaaGreatDoor
