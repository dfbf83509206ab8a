import Derived.Test.YtnipmfaikiaipaaGreatDoorTba
set_option linter.unusedSimpArgs false
set_option maxRecDepth 1000000
set_option maxHeartbeats 40000000
namespace Go.Proofs
open Go.RowKit Go.Bg Go.Hb
theorem RP (u:Nat):Lib.decDigits u=Ca 10 u:=by
 induction u using Nat.strongRecOn with
 |_ u ih=>
  rw[Lib.decDigits];by_cases h:u<10
  ·rw[dif_pos h];have key:∀k:Fin 10,[UInt8.ofNat (48+k.val)]=Ca 10 k.val:=by decide
   exact key ⟨u,h⟩
  ·rw[dif_neg h,ih (u/10) (by omega)];unfold Ca;rw[if_neg (by omega),if_neg (by omega),D9 (by omega) (show u≠0 by omega),List.map_cons,List.reverse_cons];have key:∀k:Fin 10,UInt8.ofNat (48+k.val)=J5 k.val:=by decide
   rw[key ⟨u %10,by omega⟩]
theorem XI (v:Nat):Lib.itoa (v:Int)=Ca 10 v:=by
 unfold Lib.itoa;rw[if_neg (by omega),IT,RP]
theorem Tryz.itoa (v:Nat) (w:World) (hv:v<=1114111) (hL:Aj w):Calls Tryz.prog 55 #[.int .i64 v] w fun e w'=>e= .returned (.string ⟨(Ca 10 v).toArray⟩)/\Below w.heap.size w w':=by
 refine(Tryz.strconv_Itoa v (by omega) (by omega) w hL.dM).mono fun e w' ⟨h1,k,os,h2⟩=>⟨by rw[h1,XI],?_⟩;rw[h2];refine⟨rfl,rfl,rfl,by simp[Go.Sort.grow,World.drewN],fun j hj=> ?_⟩;show(w.heap++os)[j]? =_;rw[Array.getElem?_append_left hj]
end Go.Proofs
