import Derived.Test.YtpjcdbjablijkaaGreatDoorTbc
import Derived.Test.YtpjcdbjablijkaaGreatDoorTal
import Derived.Test.YtpjcdbjablijkaaGreatDoorTba
import Derived.Test.YtpjcdbjablijkaaGreatDoorTaa
import Derived.StillTailTactics
import Derived.Deep.RegionWith
import Derived.RegionTactic
import Derived.ChangeAlike
import Derived.BigRegion
import Derived.Test.YtpjcdbjablijkaaGreatDoorTbg
import Derived.Test.YtpjcdbjablijkaaGreatDoorTbi
set_option maxRecDepth 1000000
set_option maxHeartbeats 40000000
namespace Go.Proofs
open Go.RowKit Go.Pf Go.Lx Go.Hb Go.Rb Go.Bg
structure NW (w:World) (b:Nat) (s:ByteArray) (a:Nat) (W:World):Prop where
 f:FW w b s a W
 ld:Laid0 W
theorem NW.call {w:World} {b:Nat} {s:ByteArray} {a:Nat} {W W':World}(h:NW w b s a W) (hbw:b<w.heap.size) (hb:Below W.heap.size W W'):NW w b s a W':=⟨h.f.call hbw hb,h.ld.below hb⟩
theorem NW.drewN {w:World} {b:Nat} {s:ByteArray} {a:Nat} {W:World}(h:NW w b s a W) (n:Nat):NW w b s a (W.drewN n):=⟨h.f.drewN n,h.ld.drewN n⟩
end Go.Proofs
