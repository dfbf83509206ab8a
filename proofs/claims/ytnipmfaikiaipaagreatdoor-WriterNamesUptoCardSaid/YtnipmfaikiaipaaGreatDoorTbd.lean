import Derived.Test.YtnipmfaikiaipaaGreatDoorTba
import Derived.Test.YtnipmfaikiaipaaGreatDoorTal
import Derived.Test.YtnipmfaikiaipaaGreatDoorTaa
set_option maxRecDepth 1000000
set_option maxHeartbeats 40000000
namespace Go.Proofs
open Go.RowKit Go.Bg Go.Hb
theorem dec_digits (u:Nat):Lib.decDigits u=numL 10 u:=by
 induction u using Nat.strongRecOn with
 |_ u ih=>
  rw[Lib.decDigits]
  by_cases h:u<10
  ·rw[dif_pos h]
   have key:∀k:Fin 10,[UInt8.ofNat (48+k.val)]=numL 10 k.val:=by decide
   exact key ⟨u,h⟩
  ·rw[dif_neg h,ih (u/10) (by omega)]
   unfold numL
   rw[if_neg (by omega),if_neg (by omega),digs_pos (by omega) (show u≠0 by omega),List.map_cons,List.reverse_cons]
   have key:∀k:Fin 10,UInt8.ofNat (48+k.val)=sgn k.val:=by decide
   rw[key ⟨u %10,by omega⟩]
theorem itoa_num (v:Nat):Lib.itoa (v:Int)=numL 10 v:=by
 unfold Lib.itoa
 rw[if_neg (by omega),Int.toNat_natCast,dec_digits]
theorem Tryz.itoa (v:Nat) (w:World) (hv:v≤1114111) (hL:Laid0 w):Calls Tryz.prog 55 #[.int .i64 v] w fun e w'=>e= .returned (.string ⟨(numL 10 v).toArray⟩)∧Below w.heap.size w w':=by
 refine(Tryz.strconv_Itoa v (by omega) (by omega) w hL.pow10).mono fun e w' ⟨h1,k,os,h2⟩=>⟨by rw[h1,itoa_num],?_⟩
 rw[h2]
 refine⟨rfl,rfl,rfl,by simp[Go.Sort.grow,World.drewN],fun j hj=> ?_⟩
 show(w.heap++os)[j]? =_
 rw[Array.getElem?_append_left hj]
end Go.Proofs
