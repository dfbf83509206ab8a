import Derived.Test.YtpjcdbjablijkaaGreatDoorTaz
import Derived.Test.YtpjcdbjablijkaaGreatDoorTak
import Derived.Lib.LaidU8T
import Derived.Lib.LaidTab
import Derived.StillTailTactics
import Derived.IntWalk
import Derived.Test.YtpjcdbjablijkaaGreatDoorTat
import Derived.Test.YtpjcdbjablijkaaGreatDoorTav
import Derived.Shelf.Strings.Builder1
import Derived.Shelf.Small.Utf8
import Derived.Shelf.Small.Bits
import Derived.Shelf.Small.Strs
import Derived.Shelf.Strings.BuilderF
import Derived.Shelf.Strings.BuilderK
import Derived.Shelf.Strings.BuilderRune
import Derived.Shelf.Strconv.Itoa0
import Derived.Shelf.Strconv.Itoa1
import Derived.Shelf.LaysM
import Derived.Shelf.Strconv.Itoa2
import Derived.Shelf.Strconv.Itoa3
import Derived.Shelf.Strconv.Clone
import Derived.Shelf.Strconv.Lower
import Derived.Shelf.Strconv.ParseUint10Empty
import Derived.Shelf.Strconv.ParseUintEmpty
import Derived.Shelf.Strings.Search1
import Derived.Shelf.Strings.Search2
import Derived.Shelf.Strings.Search3
import Derived.Shelf.Strings.Shaped
import Derived.Shelf.Strings.Prefix
import Derived.Shelf.Unicode.Decode
import Derived.Shelf.Bits.Mul64
import Derived.Shelf.Unicode.DecodeSlow
import Derived.Shelf.Unicode.DecodeAny
import Derived.Test.YtpjcdbjablijkaaGreatDoorProg
import Derived.Test.YtpjcdbjablijkaaGreatDoorTax
import Derived.Test.YtpjcdbjablijkaaGreatDoorTaa
set_option maxRecDepth 1000000
set_option maxHeartbeats 40000000
section
namespace Go.Proofs
open Go.RowKit Go.Hb
structure QR (t:ByteArray) (B:Nat) (W3:World) (acc:List UInt8) (pos:Nat) (wr:World):Prop where
 bld:Lib.IsBuilderF 90 5 (B+1+1) (B+1+1) (Lib.byteCells acc) wr
 it:wr.heap[B+3]? =some (.stringIter t pos)
 bel:Below (B+1+1) W3 wr
theorem QR.next {t:ByteArray} {B:Nat} {W3:World} {acc:List UInt8} {pos:Nat} {wr:World}(h:QR t B W3 acc pos wr) (hp:pos<t.size) (n c:Nat) (hd:Utf8.decode t pos=(c,n)):
 ∃wn,(∀ty,(Instr.next (.pointer (some ⟨B+3,0,none⟩)) true ty).run Tryz.prog wr= .ok (.tuple #[.bool true,.int .i64 pos,.int .i32 c]) wn)∧QR t B W3 acc (pos+n) wn:=by
 refine⟨_,fun ty=> ?_,h.bld.iterAt h.it (pos+n),Lib.iterAt_heap wr (B+3) t pos _ h.it,Lib.below_iterAt h.bel (k:=B+3) (by omega) t _⟩
 have:=Lib.run_next_any_at (P:=Tryz.prog) wr (B+3) t pos ty h.it hp
 rw[hd]at this
 exact this
theorem QR.write {t:ByteArray} {B:Nat} {W3:World} {acc x:List UInt8} {cells:List Value}(hx:Lib.byteCells x=cells){pos n:Nat} {wn W1:World}(h:QR t B W3 acc pos wn)
 (b0:Lib.BuilderAtF 90 5 (B+1+1) (B+1+1) (.pointer (some ⟨B+1+1,0,none⟩)) (Lib.byteCells acc++cells) W1) (b1:Below (B+1+1) (wn.drewN n) W1) (b2:Lib.OthersKept 5 (some (B+1+1)) (wn.drewN n) W1):QR t B W3 (acc++x) pos W1:=by
 subst hx
 refine⟨.inr ?_,?_,h.bel.trans (⟨b1.os,b1.tape,b1.output,b1.size,b1.block⟩:Below _ wn W1)⟩
 ·rw[Lib.byteCells_append];exact b0
 ·exact b2.iter (show(wn.drewN n).heap[B+3]? =_ from h.it) (by omega)
theorem QR.call {t:ByteArray} {B:Nat} {W3:World} {acc:List UInt8} {pos:Nat} {wn W1:World}(h:QR t B W3 acc pos wn) (hb:Below wn.drew.heap.size wn.drew W1):QR t B W3 acc pos W1:=by
 have hb':Below wn.heap.size wn W1:=⟨hb.os,hb.tape,hb.output,hb.size,hb.block⟩
 have hlt:B+3<wn.heap.size:=(Array.getElem?_eq_some_iff.1 h.it).1
 exact⟨isB_below h.bld hb',(hb'.block _ hlt).trans h.it,h.bel.trans (hb'.mono (by omega))⟩
end Go.Proofs
end
section
namespace Go.Proofs
open Go.RowKit Go.Pf Go.Lx Go.Hb Go.Rb
structure ItAt (t:ByteArray) (B:Nat) (w0:World) (pos:Nat) (wr:World):Prop where
 it:wr.heap[B]? =some (.stringIter t pos)
 bel:Below B w0 wr
theorem ItAt.next {t:ByteArray} {B:Nat} {w0:World} {pos:Nat} {wr:World}(h:ItAt t B w0 pos wr) (hp:pos<t.size) (n c:Nat) (hd:Utf8.decode t pos=(c,n)):
 ∃wn,(∀ty,(Instr.next (.pointer (some ⟨B,0,none⟩)) true ty).run Tryz.prog wr= .ok (.tuple #[.bool true,.int .i64 pos,.int .i32 c]) wn)∧ItAt t B w0 (pos+n) wn:=by
 refine⟨_,fun ty=> ?_,Lib.iterAt_heap wr B t pos _ h.it,Lib.below_iterAt h.bel (k:=B) (nR _) t _⟩
 have:=Lib.run_next_any_at (P:=Tryz.prog) wr B t pos ty h.it hp
 rw[hd]at this
 exact this
theorem ItAt.call {t:ByteArray} {B:Nat} {w0:World} {pos:Nat} {wr w1:World}(h:ItAt t B w0 pos wr) (hb:Below wr.heap.size wr w1):ItAt t B w0 pos w1:=by
 have hlt:B<wr.heap.size:=(Array.getElem?_eq_some_iff.1 h.it).1
 exact⟨(hb.block _ hlt).trans h.it,h.bel.trans (hb.mono (by omega))⟩
end Go.Proofs
end
section
namespace Go.Proofs
open Go.RowKit Go.Pf Go.Lx Go.Hb Go.Rb
structure St (w:World) (b:Nat) (s:ByteArray) (p:Nat):Prop where
 h:w.heap[b]? =some (.cells #[.string s,.int .i64 p] 70 (0,0))
theorem St.c0 {w:World} {b p:Nat} {s:ByteArray}(h:St w b s p):w.cell? ⟨b,0,none⟩=some (.string s):=by rw[Lib.cell_of_heap h.h];rfl
theorem St.c1 {w:World} {b p:Nat} {s:ByteArray}(h:St w b s p):w.cell? ⟨b,1,none⟩=some (.int .i64 p):=by rw[Lib.cell_of_heap h.h];rfl
theorem St.f {w:World} {b p:Nat} {s:ByteArray}(h:St w b s p) (i:Nat):w.frozen? ⟨b,i,none⟩=false:=Lib.frozen_of_heap h.h i
theorem St.lt {w:World} {b p:Nat} {s:ByteArray}(h:St w b s p):b<w.heap.size:=(Array.getElem?_eq_some_iff.1 h.h).1
theorem St.below {w w':World} {b p:Nat} {s:ByteArray}(h:St w b s p) (hb:Below w.heap.size w w'):St w' b s p:=⟨(hb.block b h.lt).trans h.h⟩
theorem St.set {w:World} {b p:Nat} {s:ByteArray}(h:St w b s p) (q:Nat):St (w.setCell ⟨b,1,none⟩ (.int .i64 q)) b s q:=⟨heap_setCell_same w b 1 _ 70 (.int .i64 q) h.h⟩
theorem Laid0.belowB {W W':World} {B:Nat}(h:Laid0 W) (hb:Below B W W') (hB:Tryz.prog.globals.size≤B) (hs:W.heap.size≤W'.heap.size):Laid0 W':=by
 obtain⟨W0,h1,h2,h3,h4⟩:=h
 exact⟨W0,h1,h2,fun g hg=>(hb.block g (by omega)).trans (h3 g hg),by omega⟩
theorem Laid0.drewN {W:World}(h:Laid0 W) (n:Nat):Laid0 (W.drewN n):=by
 obtain⟨W0,h1,h2,h3,h4⟩:=h
 exact⟨W0,h1,h2,h3,h4⟩
end Go.Proofs
end
