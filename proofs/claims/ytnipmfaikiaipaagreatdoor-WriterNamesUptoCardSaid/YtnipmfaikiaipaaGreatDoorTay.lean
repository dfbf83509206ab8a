import Derived.Test.YtnipmfaikiaipaaGreatDoorTax
import Derived.Test.YtnipmfaikiaipaaGreatDoorTau
import Derived.Test.YtnipmfaikiaipaaGreatDoorTar
import Derived.Test.YtnipmfaikiaipaaGreatDoorTaa
set_option maxRecDepth 1000000
set_option maxHeartbeats 40000000
namespace Go.Lx
open Go.Hb Go.Rb Go.Bg Go.Pf
theorem lngR_err {s:ByteArray} {k a t:Nat}(h:1000<t-a):lngR s k a t= .err a 35:=by unfold lngR;rw[if_pos h]
theorem lngR_ok {s:ByteArray} {k a t:Nat}(h:¬1000<t-a):lngR s k a t= .ok k (s.extract a t) ⟨#[]⟩ 0 a t:=by unfold lngR;rw[if_neg h]
end Go.Lx
