import Derived.Test.YtpjcdbjablijkaaGreatDoorTbk
import Derived.Test.YtpjcdbjablijkaaGreatDoorTbc
import Derived.Deep.CutBlock
import Derived.RegionTactic
import Derived.ChangeAlike
import Derived.BigRegion
import Derived.Test.YtpjcdbjablijkaaGreatDoorTaa
import Derived.Test.YtpjcdbjablijkaaGreatDoorTax
import Derived.Test.YtpjcdbjablijkaaGreatDoorTas
import Derived.Test.YtpjcdbjablijkaaGreatDoorTar
import Derived.Deep.CutRange
set_option maxRecDepth 1000000
set_option maxHeartbeats 40000000
namespace Go.Proofs
open Go.RowKit Go.Pf Go.Lx Go.Hb Go.Rb Go.Bg
structure TW (w:World) (b:Nat) (s:ByteArray) (a k en:Nat) (W:World):Prop where
 t0:Tk7 W w.heap.size
 t1:TkA W (w.heap.size+1) k ⟨#[]⟩ ⟨#[]⟩ 0 a en false
 st:St W b s a
 bel:Below w.heap.size w W
 ld:Laid0 W
 tab:TabP W W.heap.size
 sz:w.heap.size+2≤W.heap.size
theorem TW.drewN {w:World} {b:Nat} {s:ByteArray} {a k en:Nat} {W:World}(h:TW w b s a k en W) (n:Nat):TW w b s a k en (W.drewN n):=
 ⟨⟨h.t0.h⟩,⟨h.t1.h⟩,⟨h.st.h⟩,below_dn h.bel n,h.ld.drewN n,h.tab.drewN n,h.sz⟩
theorem TW.drew {w:World} {b:Nat} {s:ByteArray} {a k en:Nat} {W:World}(h:TW w b s a k en W):TW w b s a k en W.drew:=h.drewN 1
end Go.Proofs
