import Derived.Test.YtnipmfaikiaipaaGreatDoorTal
import Derived.Test.YtnipmfaikiaipaaGreatDoorTbd
import Derived.StillTailTactics
import Derived.Deep.RegionWith
import Derived.Test.YtnipmfaikiaipaaGreatDoorTaa
set_option maxRecDepth 1000000
set_option maxHeartbeats 40000000
namespace Go.Proofs
open Go.RowKit Go.Bg Go.Hb
theorem Tryz.textTen (v:Value) (x m:Nat) (w:World) (hm:m≤70368744177664) (hv:Hid (LimV w v x m)) (hsz:Hid (∀m',Tight x m'→sz x m'≤4096)):
 Calls Tryz.prog 170 #[.agg #[.bool false,v],.int .i64 10] w fun e w'=>e= .returned (.tuple #[.string ⟨(numL 10 x).toArray⟩,.int .i64 0])∧Below w.heap.size w w':=by
 refine(Tryz.text v x m 10 w hm (by omega) (by omega) hv hsz).mono fun e w' ⟨t,h1,h2,h3⟩=>⟨?_,h3⟩
 have:t=⟨(numL 10 x).toArray⟩:=by
  apply ByteArray.ext
  apply Array.toList_inj.1
  rw[h2]
 rw[h1,this]
end Go.Proofs
