import Derived.Test.YtpjcdbjablijkaaGreatDoorTax
import Derived.Test.YtpjcdbjablijkaaGreatDoorTaj
import Derived.Test.YtpjcdbjablijkaaGreatDoorTba
import Derived.Test.YtpjcdbjablijkaaGreatDoorTaa
set_option maxRecDepth 1000000
set_option maxHeartbeats 40000000
namespace Go.Proofs
open Go.RowKit Go.Pf Go.Lx Go.Hb Go.Rb Go.Bg
def TokpEnd (R:TR) (w:World) (e:Ending) (w':World):Prop:=
 (match R with
  | .ok k tx nu bits a en=>e= .returned (.tuple #[tokV k tx nu bits a en false,.int .i64 0,.int .i64 0])
  | .err p n=>∃(k:Int) (tx nu:ByteArray) (bits at_ en:Int) (ly:Bool),e= .returned (.tuple #[tokV k tx nu bits at_ en ly,.int .i64 p,.int .i64 n]))∧Below w.heap.size w w'
theorem TokpEnd.er {R:TR} {w w':World} {p n:Nat} {k bits at_ en:Int} {tx nu:ByteArray} {ly:Bool}(h:R= .err p n) (hb:Below w.heap.size w w'):TokpEnd R w (.returned (.tuple #[tokV k tx nu bits at_ en ly,.int .i64 p,.int .i64 n])) w':=by subst h;exact⟨⟨_,_,_,_,_,_,_,rfl⟩,hb⟩
theorem TokpEnd.ok {R:TR} {w w':World} {k bits a E:Nat} {tx nu:ByteArray}(h:R= .ok k tx nu bits a E) (hb:Below w.heap.size w w'):TokpEnd R w (.returned (.tuple #[tokV k tx nu bits a E false,.int .i64 0,.int .i64 0])) w':=by subst h;exact⟨rfl,hb⟩
structure TkA (w:World) (b:Nat) (k:Int) (tx nu:ByteArray) (bits a en:Int) (ly:Bool):Prop where
 h:w.heap[b]? =some (.cells #[.int .i64 k,.string tx,.string nu,.int .u64 bits,.int .i64 a,.int .i64 en,.bool ly] 28 (0,0))
section
variable {w:World} {b:Nat} {k bits a en:Int} {tx nu:ByteArray} {ly:Bool}
theorem TkA.cs (h:TkA w b k tx nu bits a en ly):w.cell? ⟨b,0,none⟩=some (.int .i64 k)∧w.cell? ⟨b,1,none⟩=some (.string tx)∧w.cell? ⟨b,2,none⟩=some (.string nu)∧w.cell? ⟨b,3,none⟩=some (.int .u64 bits)∧w.cell? ⟨b,4,none⟩=some (.int .i64 a)∧w.cell? ⟨b,5,none⟩=some (.int .i64 en)∧w.cell? ⟨b,6,none⟩=some (.bool ly):=by
 refine⟨?_,?_,?_,?_,?_,?_,?_⟩<;>(rw[Lib.cell_of_heap h.h];rfl)
theorem TkA.f (h:TkA w b k tx nu bits a en ly) (i:Nat):w.frozen? ⟨b,i,none⟩=false:=Lib.frozen_of_heap h.h i
theorem TkA.fs (h:TkA w b k tx nu bits a en ly):w.frozen? ⟨b,0,none⟩=false∧w.frozen? ⟨b,1,none⟩=false∧w.frozen? ⟨b,2,none⟩=false∧w.frozen? ⟨b,3,none⟩=false∧w.frozen? ⟨b,4,none⟩=false∧w.frozen? ⟨b,5,none⟩=false∧w.frozen? ⟨b,6,none⟩=false:=⟨h.f 0,h.f 1,h.f 2,h.f 3,h.f 4,h.f 5,h.f 6⟩
theorem TkA.lt (h:TkA w b k tx nu bits a en ly):b<w.heap.size:=(Array.getElem?_eq_some_iff.1 h.h).1
end
structure QW (w:World) (b:Nat) (s:ByteArray) (a K:Nat) (te:TypeId) (pe:Value) (W:World):Prop where
 t0:Tk7 W w.heap.size
 t1:TkA W (w.heap.size+1) K ⟨#[]⟩ ⟨#[]⟩ 0 a 0 false
 st:St W b s a
 bel:Below w.heap.size w W
 ld:Laid0 W
 e6:W.cell? ⟨8,0,none⟩=some (.iface te pe)
 six:8<w.heap.size
 gl:Tryz.prog.globals.size≤w.heap.size
 sz:w.heap.size+2≤W.heap.size
theorem QW.call {w:World} {b:Nat} {s:ByteArray} {a K:Nat} {te:TypeId} {pe:Value} {W W':World}(h:QW w b s a K te pe W) (hbw:b<w.heap.size) (hb:Below (w.heap.size+2) W W'):QW w b s a K te pe W':=by
 have h6:=h.six
 have hz:=h.sz
 have hs:=hb.size
 exact⟨⟨(hb.block _ (by omega)).trans h.t0.h⟩,⟨(hb.block _ (by omega)).trans h.t1.h⟩,⟨(hb.block _ (by omega)).trans h.st.h⟩,h.bel.trans (hb.mono (by omega)),h.ld.belowB hb (by have:=h.gl;omega) hs,(hb.cell (p:=⟨8,0,none⟩) (by show 8<_;omega)).trans h.e6,h6,h.gl,by omega⟩
theorem QW.drewN {w:World} {b:Nat} {s:ByteArray} {a K:Nat} {te:TypeId} {pe:Value} {W:World}(h:QW w b s a K te pe W) (n:Nat):QW w b s a K te pe (W.drewN n):=
 ⟨⟨h.t0.h⟩,⟨h.t1.h⟩,⟨h.st.h⟩,⟨h.bel.os,h.bel.tape,h.bel.output,h.bel.size,h.bel.block⟩,h.ld.drewN n,h.e6,h.six,h.gl,h.sz⟩
theorem QR.zero {t:ByteArray} {B:Nat} {W3:World} {acc:List UInt8} {pos:Nat} {wn W1:World}(h:QR t B W3 acc pos wn) (hb:Below wn.heap.size wn W1):QR t B W3 acc pos W1:=by
 have hlt:B+3<wn.heap.size:=(Array.getElem?_eq_some_iff.1 h.it).1
 exact⟨isB_below h.bld hb,(hb.block _ hlt).trans h.it,h.bel.trans (hb.mono (by omega))⟩
theorem QR.drewN {t:ByteArray} {B:Nat} {W3:World} {acc:List UInt8} {pos:Nat} {wn:World}(h:QR t B W3 acc pos wn) (n:Nat):QR t B W3 acc pos (wn.drewN n):=
 ⟨h.bld,h.it,⟨h.bel.os,h.bel.tape,h.bel.output,h.bel.size,h.bel.block⟩⟩
theorem QW.drew {w:World} {b:Nat} {s:ByteArray} {a K:Nat} {te:TypeId} {pe:Value} {W:World}(h:QW w b s a K te pe W):QW w b s a K te pe W.drew:=
 ⟨⟨h.t0.h⟩,⟨h.t1.h⟩,⟨h.st.h⟩,⟨h.bel.os,h.bel.tape,h.bel.output,h.bel.size,h.bel.block⟩,h.ld.below (Below.refl _ _).drew,h.e6,h.six,h.gl,h.sz⟩
theorem below_tok7 {B b:Nat} {w W:World}(h:Below B w W) (hb:B≤b) (v0 v1 v2 v3 v4 v5 v6:Value):Below B w (((((((W.setCell ⟨b,0,none⟩ v0).setCell ⟨b,1,none⟩ v1).setCell ⟨b,2,none⟩ v2).setCell ⟨b,3,none⟩ v3).setCell ⟨b,4,none⟩ v4).setCell ⟨b,5,none⟩ v5).setCell ⟨b,6,none⟩ v6):=
 ((((((h.setCell (p:=⟨b,0,none⟩) hb v0).setCell (p:=⟨b,1,none⟩) hb v1).setCell (p:=⟨b,2,none⟩) hb v2).setCell (p:=⟨b,3,none⟩) hb v3).setCell (p:=⟨b,4,none⟩) hb v4).setCell (p:=⟨b,5,none⟩) hb v5).setCell (p:=⟨b,6,none⟩) hb v6
end Go.Proofs
