import Derived.Test.YtnipmfaikiaipaaGreatDoorTbd
set_option linter.unusedSimpArgs false
set_option maxRecDepth 1000000
set_option maxHeartbeats 40000000
namespace Go.Proofs
open Go.RowKit Go.Bg Go.Hb
theorem X2 (v:Value) (x m:Nat) (w:World) (hm:m<=70368744177664) (hv:Hid (Co w v x m)) (hsz:Hid (∀m',Bj x m'->sz x m'<=4096)):
 Calls Tryz.prog 170 #[.agg #[.bool false,v],.int .i64 10] w fun e w'=>e= .returned (.tuple #[.string ⟨(Ca 10 x).toArray⟩,.int .i64 0])/\Below w.heap.size w w':=by
 refine(Tryz.text v x m 10 w hm (by omega) (by omega) hv hsz).mono fun e w' ⟨t,h1,h2,h3⟩=>⟨?_,h3⟩;have:t=⟨(Ca 10 x).toArray⟩:=by
  apply ByteArray.ext;apply Array.toList_inj.1;rw[h2]
 rw[h1,this]
end Go.Proofs
