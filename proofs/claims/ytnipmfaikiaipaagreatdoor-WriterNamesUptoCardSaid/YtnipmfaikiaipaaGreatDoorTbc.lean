import Derived.Test.YtnipmfaikiaipaaGreatDoorTbb
import Derived.Test.YtnipmfaikiaipaaGreatDoorTba
import Derived.Test.YtnipmfaikiaipaaGreatDoorTaa
set_option maxRecDepth 1000000
set_option maxHeartbeats 40000000
namespace Go.Lx
open Go.Hb Go.Rb
theorem dec_off {s:ByteArray} {a p:Nat} :Utf8.decode (s.extract a s.size) p=Utf8.decode s (a+p):=by
 have e:(s.extract a s.size).data.toList.drop p=s.data.toList.drop (a+p):=by rw[ext_all,List.drop_drop]
 rw[decode_drop _ p _ rfl,decode_drop s (a+p) _ rfl,e]
theorem byt_ext0 {s:ByteArray} {t k:Nat}(_ht:t≤s.size) (hk:k<t):byt (s.extract 0 t) k=byt s k:=by
 unfold byt
 rw[Lib.extract_data,List.drop_zero,List.getD_eq_getElem?_getD,List.getD_eq_getElem?_getD,List.getElem?_take,if_pos (by omega)]
theorem byt_ext0' {s:ByteArray} {t k:Nat}(_ht:t≤s.size) (hk:t≤k):byt (s.extract 0 t) k=0:=byt_out _ _ (by rw[ByteArray.size_extract];omega)
theorem chv_ext0 {s:ByteArray} {p t:Nat} {v n:Int}(ht:t≤s.size) (h:ChV (s.extract 0 t) p v n):ChV s p v n:=by
 have hz:(s.extract 0 t).size=t:=by rw[ByteArray.size_extract];omega
 have h0:p<t:=by have:=h.size.1;omega
 have e0:=byt_ext0 ht h0
 have e1:byt (s.extract 0 t) (p+1)=byt s (p+1)∨byt (s.extract 0 t) (p+1)=0:=by
  rcases Nat.lt_or_ge (p+1) t with h1|h1
  ·exact .inl (byt_ext0 ht h1)
  ·exact .inr (byt_ext0' ht h1)
 have e2:byt (s.extract 0 t) (p+2)=byt s (p+2)∨byt (s.extract 0 t) (p+2)=0:=by
  rcases Nat.lt_or_ge (p+2) t with h1|h1
  ·exact .inl (byt_ext0 ht h1)
  ·exact .inr (byt_ext0' ht h1)
 have e3:byt (s.extract 0 t) (p+3)=byt s (p+3)∨byt (s.extract 0 t) (p+3)=0:=by
  rcases Nat.lt_or_ge (p+3) t with h1|h1
  ·exact .inl (byt_ext0 ht h1)
  ·exact .inr (byt_ext0' ht h1)
 unfold ChV cont at h⊢
 rw[e0]at h
 rcases h with⟨h1,h2,h3⟩|⟨h1,h2,h3,h4⟩|⟨h1,h2,h3,h4,h5⟩|⟨h1,h2,h3,h4,h5,h6⟩
 ·exact .inl ⟨h1,by omega,h3⟩
 ·have e1:byt (s.extract 0 t) (p+1)=byt s (p+1):=by rcases e1 with e|e<;>omega
  rw[e1]at h3 h4
  exact .inr (.inl ⟨h1,h2,h3,h4⟩)
 ·have e1:byt (s.extract 0 t) (p+1)=byt s (p+1):=by rcases e1 with e|e<;>omega
  have e2:byt (s.extract 0 t) (p+2)=byt s (p+2):=by rcases e2 with e|e<;>omega
  rw[e1]at h3 h5
  rw[e2]at h4 h5
  exact .inr (.inr (.inl ⟨h1,h2,h3,h4,h5⟩))
 ·have e1:byt (s.extract 0 t) (p+1)=byt s (p+1):=by rcases e1 with e|e<;>omega
  have e2:byt (s.extract 0 t) (p+2)=byt s (p+2):=by rcases e2 with e|e<;>omega
  have e3:byt (s.extract 0 t) (p+3)=byt s (p+3):=by rcases e3 with e|e<;>omega
  rw[e1]at h3 h6
  rw[e2]at h4 h6
  rw[e3]at h5 h6
  exact .inr (.inr (.inr ⟨h1,h2,h3,h4,h5,h6⟩))
theorem odd_no {s:ByteArray} {p:Nat}(h:NoCh s p) (hp:p<s.size):OddAt (s.extract p (min s.size (p+3))) 0 0:=by
 refine .bad (by rw[ByteArray.size_extract];omega) fun v n hc=> ?_
 rw[chv_part (Nat.min_le_left _ _) (by omega)]at hc
 exact h v n (chv_ext0 (Nat.min_le_left _ _) hc)
theorem odd_yes {s:ByteArray} {p v:Nat}(h:ChV s p v (3:Nat)):OddAt (s.extract p (min s.size (p+3))) 0 (-1):=by
 have hl:=h.last
 have hz:(s.extract p (min s.size (p+3))).size=3:=by rw[ByteArray.size_extract];omega
 have hc:ChV (s.extract p (min s.size (p+3))) 0 v (3:Nat):=by
  rw[chv_part (Nat.min_le_left _ _) (by omega)]
  unfold ChV at h⊢
  rw[Nat.add_zero,byt_ext0 (Nat.min_le_left _ _) (by omega),byt_ext0 (Nat.min_le_left _ _) (by omega),byt_ext0 (Nat.min_le_left _ _) (by omega)]
  rcases h with h|h|h|h
  ·omega
  ·omega
  ·exact .inr (.inr (.inl h))
  ·omega
 exact .step (m:=3) hc (.done (by omega))
theorem escL_lt {c v:Nat}(h:escL c=some v):c<128:=by
 unfold escL at h
 repeat' split at h
 all_goals first|omega|cases h
theorem escV_low {s:ByteArray} {p v t:Nat}(h:escV s p=some (v,t)):∀j,p<j→j<t→byt s j<128:=by
 have hD:∀{r:Nat} {pr:Nat→Bool} {f:Nat}(hp:∀c,pr c=true→c<128),escD r pr s f=some (v,t)→∀j,f≤j→j<t→byt s j<128:=by
  intro r pr f hp hd j h1 h2
  unfold escD at hd
  split at hd
  ·cases hd
  ·rename_i hn
   split at hd
   ·simp only[Option.some.injEq,Prod.mk.injEq]at hd
    have h3:byt s (rowE pr s f)=92:=by apply Classical.byContradiction;intro h;exact hn (.inr h)
    rcases Nat.lt_or_ge j (rowE pr s f)with h4|h4
    ·have h5:j<s.size:=by
      have:rowE pr s f<s.size:=by
       rcases Nat.lt_or_ge (rowE pr s f) s.size with h6|h6
       ·exact h6
       ·rw[byt_out s _ h6]at h3;omega
      omega
     have:=hp _ (rowE_all j h5 h1 h4)
     rw[byt_in s j h5];omega
    ·obtain rfl:j=rowE pr s f:=by omega
     omega
   ·cases hd
 have hh:∀c,hexB c=true→c<128:=by intro c h;simp[hexB,digB]at h;omega
 have ho:∀c,octB c=true→c<128:=by intro c h;simp[octB]at h;omega
 intro j h1 h2
 unfold escV at h
 split at h
 ·rename_i x hx
  split at hx
  ·rename_i hlt
   simp only[Option.some.injEq,Prod.mk.injEq]at h
   obtain rfl:j=p+1:=by omega
   have hb:=escL_lt hx
   omega
  ·cases hx
 ·split at h
  ·rename_i h120
   rcases Nat.lt_or_ge j (p+2)with h3|h3
   ·obtain rfl:j=p+1:=by omega
    omega
   ·exact hD hh h j h3 h2
  ·exact hD ho h j h1 h2
end Go.Lx
namespace Go.Proofs
open Go.RowKit Go.Pf Go.Lx Go.Hb Go.Rb Go.Bg
def TokpEnd (R:TR) (w:World) (e:Ending) (w':World):Prop:=
 (match R with
  | .ok k tx nu bits a en=>e= .returned (.tuple #[tokV k tx nu bits a en false,.int .i64 0,.int .i64 0])
  | .err p n=>∃(k:Int) (tx nu:ByteArray) (bits at_ en:Int) (ly:Bool),e= .returned (.tuple #[tokV k tx nu bits at_ en ly,.int .i64 p,.int .i64 n]))∧Below w.heap.size w w'
theorem TokpEnd.er {R:TR} {w w':World} {p n:Nat} {k bits at_ en:Int} {tx nu:ByteArray} {ly:Bool}(h:R= .err p n) (hb:Below w.heap.size w w'):TokpEnd R w (.returned (.tuple #[tokV k tx nu bits at_ en ly,.int .i64 p,.int .i64 n])) w':=by subst h;exact⟨⟨_,_,_,_,_,_,_,rfl⟩,hb⟩
theorem TokpEnd.ok {R:TR} {w w':World} {k bits a E:Nat} {tx nu:ByteArray}(h:R= .ok k tx nu bits a E) (hb:Below w.heap.size w w'):TokpEnd R w (.returned (.tuple #[tokV k tx nu bits a E false,.int .i64 0,.int .i64 0])) w':=by subst h;exact⟨rfl,hb⟩
structure TkA (w:World) (b:Nat) (k:Int) (tx nu:ByteArray) (bits a en:Int) (ly:Bool):Prop where
 h:w.heap[b]? =some (.cells #[.int .i64 k,.string tx,.string nu,.int .u64 bits,.int .i64 a,.int .i64 en,.bool ly] 30 (0,0))
section
variable {w:World} {b:Nat} {k bits a en:Int} {tx nu:ByteArray} {ly:Bool}
theorem TkA.cs (h:TkA w b k tx nu bits a en ly):w.cell? ⟨b,0,none⟩=some (.int .i64 k)∧w.cell? ⟨b,1,none⟩=some (.string tx)∧w.cell? ⟨b,2,none⟩=some (.string nu)∧w.cell? ⟨b,3,none⟩=some (.int .u64 bits)∧w.cell? ⟨b,4,none⟩=some (.int .i64 a)∧w.cell? ⟨b,5,none⟩=some (.int .i64 en)∧w.cell? ⟨b,6,none⟩=some (.bool ly):=by
 refine⟨?_,?_,?_,?_,?_,?_,?_⟩<;>(rw[Lib.cell_of_heap h.h];rfl)
theorem TkA.f (h:TkA w b k tx nu bits a en ly) (i:Nat):w.frozen? ⟨b,i,none⟩=false:=Lib.frozen_of_heap h.h i
theorem TkA.fs (h:TkA w b k tx nu bits a en ly):w.frozen? ⟨b,0,none⟩=false∧w.frozen? ⟨b,1,none⟩=false∧w.frozen? ⟨b,2,none⟩=false∧w.frozen? ⟨b,3,none⟩=false∧w.frozen? ⟨b,4,none⟩=false∧w.frozen? ⟨b,5,none⟩=false∧w.frozen? ⟨b,6,none⟩=false:=⟨h.f 0,h.f 1,h.f 2,h.f 3,h.f 4,h.f 5,h.f 6⟩
theorem TkA.lt (h:TkA w b k tx nu bits a en ly):b<w.heap.size:=(Array.getElem?_eq_some_iff.1 h.h).1
theorem TkA.set0 (h:TkA w b k tx nu bits a en ly) (x:Int):TkA (w.setCell ⟨b,0,none⟩ (.int .i64 x)) b x tx nu bits a en ly:=⟨heap_setCell_same w b 0 _ 30 (.int .i64 x) h.h⟩
theorem TkA.set1 (h:TkA w b k tx nu bits a en ly) (x:ByteArray):TkA (w.setCell ⟨b,1,none⟩ (.string x)) b k x nu bits a en ly:=⟨heap_setCell_same w b 1 _ 30 (.string x) h.h⟩
theorem TkA.set5 (h:TkA w b k tx nu bits a en ly) (x:Int):TkA (w.setCell ⟨b,5,none⟩ (.int .i64 x)) b k tx nu bits a x ly:=⟨heap_setCell_same w b 5 _ 30 (.int .i64 x) h.h⟩
end
structure QW (w:World) (b:Nat) (s:ByteArray) (a K:Nat) (te:TypeId) (pe:Value) (W:World):Prop where
 t0:Tk7 W w.heap.size
 t1:TkA W (w.heap.size+1) K ⟨#[]⟩ ⟨#[]⟩ 0 a 0 false
 st:St W b s a
 bel:Below w.heap.size w W
 ld:Laid0 W
 e6:W.cell? ⟨8,0,none⟩=some (.iface te pe)
 six:8<w.heap.size
 gl:Tryz.prog.globals.size≤w.heap.size
 sz:w.heap.size+2≤W.heap.size
theorem QW.call {w:World} {b:Nat} {s:ByteArray} {a K:Nat} {te:TypeId} {pe:Value} {W W':World}(h:QW w b s a K te pe W) (hbw:b<w.heap.size) (hb:Below (w.heap.size+2) W W'):QW w b s a K te pe W':=by
 have h6:=h.six
 have hz:=h.sz
 have hs:=hb.size
 exact⟨⟨(hb.block _ (by omega)).trans h.t0.h⟩,⟨(hb.block _ (by omega)).trans h.t1.h⟩,⟨(hb.block _ (by omega)).trans h.st.h⟩,h.bel.trans (hb.mono (by omega)),h.ld.belowB hb (by have:=h.gl;omega) hs,(hb.cell (p:=⟨8,0,none⟩) (by show 8<_;omega)).trans h.e6,h6,h.gl,by omega⟩
theorem QW.drewN {w:World} {b:Nat} {s:ByteArray} {a K:Nat} {te:TypeId} {pe:Value} {W:World}(h:QW w b s a K te pe W) (n:Nat):QW w b s a K te pe (W.drewN n):=
 ⟨⟨h.t0.h⟩,⟨h.t1.h⟩,⟨h.st.h⟩,⟨h.bel.os,h.bel.tape,h.bel.output,h.bel.size,h.bel.block⟩,h.ld.drewN n,h.e6,h.six,h.gl,h.sz⟩
theorem QR.zero {t:ByteArray} {B:Nat} {W3:World} {acc:List UInt8} {pos:Nat} {wn W1:World}(h:QR t B W3 acc pos wn) (hb:Below wn.heap.size wn W1):QR t B W3 acc pos W1:=by
 have hlt:B+3<wn.heap.size:=(Array.getElem?_eq_some_iff.1 h.it).1
 exact⟨isB_below h.bld hb,(hb.block _ hlt).trans h.it,h.bel.trans (hb.mono (by omega))⟩
theorem QR.callN' {t:ByteArray} {B:Nat} {W3:World} {acc:List UInt8} {pos n:Nat} {wn W1:World}(h:QR t B W3 acc pos wn) (hb:Below (wn.drewN n).heap.size (wn.drewN n) W1):QR t B W3 acc pos W1:=h.zero ⟨hb.os,hb.tape,hb.output,hb.size,hb.block⟩
theorem QR.drewN {t:ByteArray} {B:Nat} {W3:World} {acc:List UInt8} {pos:Nat} {wn:World}(h:QR t B W3 acc pos wn) (n:Nat):QR t B W3 acc pos (wn.drewN n):=
 ⟨h.bld,h.it,⟨h.bel.os,h.bel.tape,h.bel.output,h.bel.size,h.bel.block⟩⟩
theorem QW.drew {w:World} {b:Nat} {s:ByteArray} {a K:Nat} {te:TypeId} {pe:Value} {W:World}(h:QW w b s a K te pe W):QW w b s a K te pe W.drew:=
 ⟨⟨h.t0.h⟩,⟨h.t1.h⟩,⟨h.st.h⟩,⟨h.bel.os,h.bel.tape,h.bel.output,h.bel.size,h.bel.block⟩,h.ld.below (Below.refl _ _).drew,h.e6,h.six,h.gl,h.sz⟩
theorem TkA.set15 {w:World} {b:Nat} {k bits a en:Int} {tx nu:ByteArray} {ly:Bool}(h:TkA w b k tx nu bits a en ly) (x:Int) (y:ByteArray):TkA ((w.setCell ⟨b,5,none⟩ (.int .i64 x)).setCell ⟨b,1,none⟩ (.string y)) b k y nu bits a x ly:=(h.set5 x).set1 y
theorem below_tok7 {B b:Nat} {w W:World}(h:Below B w W) (hb:B≤b) (v0 v1 v2 v3 v4 v5 v6:Value):Below B w (((((((W.setCell ⟨b,0,none⟩ v0).setCell ⟨b,1,none⟩ v1).setCell ⟨b,2,none⟩ v2).setCell ⟨b,3,none⟩ v3).setCell ⟨b,4,none⟩ v4).setCell ⟨b,5,none⟩ v5).setCell ⟨b,6,none⟩ v6):=
 ((((((h.setCell (p:=⟨b,0,none⟩) hb v0).setCell (p:=⟨b,1,none⟩) hb v1).setCell (p:=⟨b,2,none⟩) hb v2).setCell (p:=⟨b,3,none⟩) hb v3).setCell (p:=⟨b,4,none⟩) hb v4).setCell (p:=⟨b,5,none⟩) hb v5).setCell (p:=⟨b,6,none⟩) hb v6
theorem below_t15 {B b:Nat} {w W:World}(h:Below B w W) (hb:B≤b) (v5 v1:Value):Below B w ((W.setCell ⟨b,5,none⟩ v5).setCell ⟨b,1,none⟩ v1):=
 (h.setCell (p:=⟨b,5,none⟩) hb v5).setCell (p:=⟨b,1,none⟩) hb v1
theorem runeLen_of {v n:Nat} {s:ByteArray} {p:Nat}(h:ChV s p v n):Lib.runeLen v=n:=by rw[runeLen_ok h.pos.2,chv_len h]
end Go.Proofs
