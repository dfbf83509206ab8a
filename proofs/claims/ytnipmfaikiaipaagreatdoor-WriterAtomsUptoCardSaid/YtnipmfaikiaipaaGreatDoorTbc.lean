import Derived.Test.YtnipmfaikiaipaaGreatDoorTbb
set_option linter.unusedVariables false
set_option linter.unusedSimpArgs false
set_option maxRecDepth 1000000
set_option maxHeartbeats 40000000
namespace Go.Lx
open Go.Hb Go.Rb
theorem Mo {s:ByteArray} {a p:Nat} :Utf8.decode (s.extract a s.size) p=Utf8.decode s (a+p):=by
 have e:(s.extract a s.size).data.toList.drop p=s.data.toList.drop (a+p):=by rw[EI,List.drop_drop]
 rw[EX _ p _ rfl,EX s (a+p) _ rfl,e]
theorem EA {s:ByteArray} {t k:Nat}(_ht:t<=s.size) (hk:k<t):AE (s.extract 0 t) k=AE s k:=by
 unfold AE;rw[Lib.extract_data,gU,SM,SM,List.getElem?_take,if_pos (by omega)]
theorem JP {s:ByteArray} {t k:Nat}(_ht:t<=s.size) (hk:t<=k):AE (s.extract 0 t) k=0:=Am _ _ (by rw[Of];omega)
theorem VI {s:ByteArray} {p t:Nat} {v n:Int}(ht:t<=s.size) (h:B8 (s.extract 0 t) p v n):B8 s p v n:=by
 have hz:(s.extract 0 t).size=t:=by rw[Of];omega
 have h0:p<t:=by have:=h.size.1;omega
 have e0:=EA ht h0;have e1:AE (s.extract 0 t) (p+1)=AE s (p+1)\/AE (s.extract 0 t) (p+1)=0:=by
  rcases BY (p+1) t with h1|h1
  ·exact .inl (EA ht h1)
  ·exact .inr (JP ht h1)
 have e2:AE (s.extract 0 t) (p+2)=AE s (p+2)\/AE (s.extract 0 t) (p+2)=0:=by
  rcases BY (p+2) t with h1|h1
  ·exact .inl (EA ht h1)
  ·exact .inr (JP ht h1)
 have e3:AE (s.extract 0 t) (p+3)=AE s (p+3)\/AE (s.extract 0 t) (p+3)=0:=by
  rcases BY (p+3) t with h1|h1
  ·exact .inl (EA ht h1)
  ·exact .inr (JP ht h1)
 unfold B8 cont at h⊢;rw[e0]at h;rcases h with⟨h1,h2,h3⟩|⟨h1,h2,h3,h4⟩|⟨h1,h2,h3,h4,h5⟩|⟨h1,h2,h3,h4,h5,h6⟩
 ·exact .inl ⟨h1,by omega,h3⟩
 ·have e1:AE (s.extract 0 t) (p+1)=AE s (p+1):=by rcases e1 with e|e<;>omega
  rw[e1]at h3 h4;exact .inr (.inl ⟨h1,h2,h3,h4⟩)
 ·have e1:AE (s.extract 0 t) (p+1)=AE s (p+1):=by rcases e1 with e|e<;>omega
  have e2:AE (s.extract 0 t) (p+2)=AE s (p+2):=by rcases e2 with e|e<;>omega
  rw[e1]at h3 h5;rw[e2]at h4 h5;exact .inr (.inr (.inl ⟨h1,h2,h3,h4,h5⟩))
 ·have e1:AE (s.extract 0 t) (p+1)=AE s (p+1):=by rcases e1 with e|e<;>omega
  have e2:AE (s.extract 0 t) (p+2)=AE s (p+2):=by rcases e2 with e|e<;>omega
  have e3:AE (s.extract 0 t) (p+3)=AE s (p+3):=by rcases e3 with e|e<;>omega
  rw[e1]at h3 h6;rw[e2]at h4 h6;rw[e3]at h5 h6;exact .inr (.inr (.inr ⟨h1,h2,h3,h4,h5,h6⟩))
theorem bB {s:ByteArray} {p:Nat}(h:EG s p) (hp:p<s.size):Az (s.extract p (min s.size (p+3))) 0 0:=by
 refine .bad (by rw[Of];omega) fun v n hc=> ?_;rw[IE (Nat.min_le_left _ _) (by omega)]at hc;exact h v n (VI (Nat.min_le_left _ _) hc)
theorem ZS {s:ByteArray} {p v:Nat}(h:B8 s p v (3:Nat)):Az (s.extract p (min s.size (p+3))) 0 (-1):=by
 have hl:=h.last;have hz:(s.extract p (min s.size (p+3))).size=3:=by rw[Of];omega
 have hc:B8 (s.extract p (min s.size (p+3))) 0 v (3:Nat):=by
  rw[IE (Nat.min_le_left _ _) (by omega)];unfold B8 at h⊢;rw[gZ,EA (Nat.min_le_left _ _) (by omega),EA (Nat.min_le_left _ _) (by omega),EA (Nat.min_le_left _ _) (by omega)];rcases h with h|h|h|h
  ·omega
  ·omega
  ·exact .inr (.inr (.inl h))
  ·omega
 exact .step (m:=3) hc (.done (by omega))
theorem ZD {c v:Nat}(h:He c=some v):c<128:=by
 unfold He at h
 repeat' split at h
 all_goals first|omega|cases h
theorem V2 {s:ByteArray} {p v t:Nat}(h:Dp s p=some (v,t)):∀j,p<j->j<t->AE s j<128:=by
 have hD:∀{r:Nat} {pr:Nat->Bool} {f:Nat}(hp:∀c,pr c=true->c<128),GR r pr s f=some (v,t)->∀j,f<=j->j<t->AE s j<128:=by
  intro r pr f hp hd j h1 h2;unfold GR at hd;split at hd
  ·cases hd
  ·rename_i hn;split at hd
   ·simp only[Option.some.injEq,Prod.mk.injEq]at hd;have h3:AE s (AF pr s f)=92:=by apply No;intro h;exact hn (.inr h)
    rcases BY j (AF pr s f)with h4|h4
    ·have h5:j<s.size:=by
      have:AF pr s f<s.size:=by
       rcases BY (AF pr s f) s.size with h6|h6
       ·exact h6
       ·rw[Am s _ h6]at h3;omega
      omega
     have:=hp _ (Bv j h5 h1 h4);rw[AO s j h5];omega
    ·obtain rfl:j=AF pr s f:=by omega
     omega
   ·cases hd
 have hh:∀c,Ah c=true->c<128:=by intro c h;simp[Ah,AM]at h;omega
 have ho:∀c,A6 c=true->c<128:=by intro c h;simp[A6]at h;omega
 intro j h1 h2;unfold Dp at h;split at h
 ·rename_i x hx;split at hx
  ·rename_i hlt;simp only[Option.some.injEq,Prod.mk.injEq]at h;obtain rfl:j=p+1:=by omega
   have hb:=ZD hx;omega
  ·cases hx
 ·split at h
  ·rename_i h120;rcases BY j (p+2)with h3|h3
   ·obtain rfl:j=p+1:=by omega
    omega
   ·exact hD hh h j h3 h2
  ·exact hD ho h j h1 h2
end Go.Lx
namespace Go.Proofs
open Go.RowKit Go.Pf Go.Lx Go.Hb Go.Rb Go.Bg
def TR.fo:TR->Prop
 | .ok k _ _ _ _ _=>k=5
 | .err _ n=>n=34
def Z5 (R:TR) (w:World) (e:Ending) (w':World):Prop:=
 (match R with
  | .ok k tx nu bits a en=>e= .returned (.tuple #[AK k tx nu bits a en false,.int .i64 0,.int .i64 0])
  | .err p n=>∃(k:Int) (tx nu:ByteArray) (bits at_ en:Int) (ly:Bool),e= .returned (.tuple #[AK k tx nu bits at_ en ly,.int .i64 p,.int .i64 n]))/\Below w.heap.size w w'
def AL (R:TR) (w:World) (e:Ending) (w':World):Prop:=∃R',(R'=R\/TR.fo R/\TR.fo R')/\Z5 R' w e w'
theorem AL.er {R:TR} {w w':World} {p n:Nat} {k bits at_ en:Int} {tx nu:ByteArray} {ly:Bool}(h:R= .err p n) (hb:Below w.heap.size w w'):AL R w (.returned (.tuple #[AK k tx nu bits at_ en ly,.int .i64 p,.int .i64 n])) w':=by subst h;exact⟨_,.inl rfl,⟨_,_,_,_,_,_,_,rfl⟩,hb⟩
theorem AL.ok {R:TR} {w w':World} {k bits a E:Nat} {tx nu:ByteArray}(h:R= .ok k tx nu bits a E) (hb:Below w.heap.size w w'):AL R w (.returned (.tuple #[AK k tx nu bits a E false,.int .i64 0,.int .i64 0])) w':=by subst h;exact⟨_,.inl rfl,rfl,hb⟩
theorem AL.fe {R:TR} {w w':World} {p:Nat} {k bits at_ en:Int} {tx nu:ByteArray} {ly:Bool}(h:TR.fo R) (hb:Below w.heap.size w w'):AL R w (.returned (.tuple #[AK k tx nu bits at_ en ly,.int .i64 p,.int .i64 34])) w':=⟨.err p 34,.inr ⟨h,rfl⟩,⟨_,_,_,_,_,_,_,rfl⟩,hb⟩
theorem AL.fk {R:TR} {w w':World} {bits a E:Nat} {tx nu:ByteArray}(h:TR.fo R) (hb:Below w.heap.size w w'):AL R w (.returned (.tuple #[AK 5 tx nu bits a E false,.int .i64 0,.int .i64 0])) w':=⟨.ok 5 tx nu bits a E,.inr ⟨h,rfl⟩,rfl,hb⟩
structure F9 (w:World) (b:Nat) (k:Int) (tx nu:ByteArray) (bits a en:Int) (ly:Bool):Prop where
 h:w.heap[b]? =some (.cells #[.int .i64 k,.string tx,.string nu,.int .u64 bits,.int .i64 a,.int .i64 en,.bool ly] 30 (0,0))
section
variable {w:World} {b:Nat} {k bits a en:Int} {tx nu:ByteArray} {ly:Bool}
theorem F9.cs (h:F9 w b k tx nu bits a en ly):w.cell? ⟨b,0,none⟩=some (.int .i64 k)/\w.cell? ⟨b,1,none⟩=some (.string tx)/\w.cell? ⟨b,2,none⟩=some (.string nu)/\w.cell? ⟨b,3,none⟩=some (.int .u64 bits)/\w.cell? ⟨b,4,none⟩=some (.int .i64 a)/\w.cell? ⟨b,5,none⟩=some (.int .i64 en)/\w.cell? ⟨b,6,none⟩=some (.bool ly):=by
 refine⟨?_,?_,?_,?_,?_,?_,?_⟩<;>(rw[Lib.cell_of_heap h.h];rfl)
theorem F9.f (h:F9 w b k tx nu bits a en ly) (i:Nat):w.frozen? ⟨b,i,none⟩=false:=Lib.frozen_of_heap h.h i
theorem F9.fs (h:F9 w b k tx nu bits a en ly):w.frozen? ⟨b,0,none⟩=false/\w.frozen? ⟨b,1,none⟩=false/\w.frozen? ⟨b,2,none⟩=false/\w.frozen? ⟨b,3,none⟩=false/\w.frozen? ⟨b,4,none⟩=false/\w.frozen? ⟨b,5,none⟩=false/\w.frozen? ⟨b,6,none⟩=false:=⟨h.f 0,h.f 1,h.f 2,h.f 3,h.f 4,h.f 5,h.f 6⟩
theorem F9.lt (h:F9 w b k tx nu bits a en ly):b<w.heap.size:=(OF.1 h.h).1
theorem F9.eY (h:F9 w b k tx nu bits a en ly) (x:Int):F9 (w.setCell ⟨b,0,none⟩ (.int .i64 x)) b x tx nu bits a en ly:=⟨heap_setCell_same w b 0 _ 30 (.int .i64 x) h.h⟩
theorem F9.eS (h:F9 w b k tx nu bits a en ly) (x:ByteArray):F9 (w.setCell ⟨b,1,none⟩ (.string x)) b k x nu bits a en ly:=⟨heap_setCell_same w b 1 _ 30 (.string x) h.h⟩
theorem F9.fA (h:F9 w b k tx nu bits a en ly) (x:Int):F9 (w.setCell ⟨b,5,none⟩ (.int .i64 x)) b k tx nu bits a x ly:=⟨heap_setCell_same w b 5 _ 30 (.int .i64 x) h.h⟩
end
structure QW (w:World) (b:Nat) (s:ByteArray) (a K:Nat) (te:TypeId) (pe:Value) (W:World):Prop where
 t0:A8 W w.heap.size
 t1:F9 W (w.heap.size+1) K ⟨#[]⟩ ⟨#[]⟩ 0 a 0 false
 st:St W b s a
 Ad:Below w.heap.size w W
 ld:Aj W
 e6:W.cell? ⟨8,0,none⟩=some (.iface te pe)
 fY:8<w.heap.size
 gl:Tryz.prog.globals.size<=w.heap.size
 sz:w.heap.size+2<=W.heap.size
theorem QW.call {w:World} {b:Nat} {s:ByteArray} {a K:Nat} {te:TypeId} {pe:Value} {W W':World}(h:QW w b s a K te pe W) (hbw:b<w.heap.size) (hb:Below (w.heap.size+2) W W'):QW w b s a K te pe W':=by
 have h6:=h.fY;have hz:=h.sz;have hs:=hb.size;exact⟨⟨(hb.block _ (by omega)).trans h.t0.h⟩,⟨(hb.block _ (by omega)).trans h.t1.h⟩,⟨(hb.block _ (by omega)).trans h.st.h⟩,h.Ad.trans (hb.mono (by omega)),h.ld.VT hb (by have:=h.gl;omega) hs,(hb.cell (p:=⟨8,0,none⟩) (by show 8<_;omega)).trans h.e6,h6,h.gl,by omega⟩
theorem QW.drewN {w:World} {b:Nat} {s:ByteArray} {a K:Nat} {te:TypeId} {pe:Value} {W:World}(h:QW w b s a K te pe W) (n:Nat):QW w b s a K te pe (W.drewN n):=
 ⟨⟨h.t0.h⟩,⟨h.t1.h⟩,⟨h.st.h⟩,⟨h.Ad.os,h.Ad.tape,h.Ad.output,h.Ad.size,h.Ad.block⟩,h.ld.drewN n,h.e6,h.fY,h.gl,h.sz⟩
theorem QR.zero {t:ByteArray} {B:Nat} {W3:World} {acc:List UInt8} {pos:Nat} {wn W1:World}(h:QR t B W3 acc pos wn) (hb:Below wn.heap.size wn W1):QR t B W3 acc pos W1:=by
 have hlt:B+3<wn.heap.size:=(OF.1 h.it).1;exact⟨I6 h.MW hb,(hb.block _ hlt).trans h.it,h.Ad.trans (hb.mono (by omega))⟩
theorem QR.WX {t:ByteArray} {B:Nat} {W3:World} {acc:List UInt8} {pos n:Nat} {wn W1:World}(h:QR t B W3 acc pos wn) (hb:Below (wn.drewN n).heap.size (wn.drewN n) W1):QR t B W3 acc pos W1:=h.zero ⟨hb.os,hb.tape,hb.output,hb.size,hb.block⟩
theorem QR.drewN {t:ByteArray} {B:Nat} {W3:World} {acc:List UInt8} {pos:Nat} {wn:World}(h:QR t B W3 acc pos wn) (n:Nat):QR t B W3 acc pos (wn.drewN n):=
 ⟨h.MW,h.it,⟨h.Ad.os,h.Ad.tape,h.Ad.output,h.Ad.size,h.Ad.block⟩⟩
theorem QW.drew {w:World} {b:Nat} {s:ByteArray} {a K:Nat} {te:TypeId} {pe:Value} {W:World}(h:QW w b s a K te pe W):QW w b s a K te pe W.drew:=
 ⟨⟨h.t0.h⟩,⟨h.t1.h⟩,⟨h.st.h⟩,⟨h.Ad.os,h.Ad.tape,h.Ad.output,h.Ad.size,h.Ad.block⟩,h.ld.below (AH _ _).drew,h.e6,h.fY,h.gl,h.sz⟩
theorem F9.de {w:World} {b:Nat} {k bits a en:Int} {tx nu:ByteArray} {ly:Bool}(h:F9 w b k tx nu bits a en ly) (x:Int) (y:ByteArray):F9 ((w.setCell ⟨b,5,none⟩ (.int .i64 x)).setCell ⟨b,1,none⟩ (.string y)) b k y nu bits a x ly:=(h.fA x).eS y
theorem AJ {B b:Nat} {w W:World}(h:Below B w W) (hb:B<=b) (v0 v1 v2 v3 v4 v5 v6:Value):Below B w (((((((W.setCell ⟨b,0,none⟩ v0).setCell ⟨b,1,none⟩ v1).setCell ⟨b,2,none⟩ v2).setCell ⟨b,3,none⟩ v3).setCell ⟨b,4,none⟩ v4).setCell ⟨b,5,none⟩ v5).setCell ⟨b,6,none⟩ v6):=
 ((((((h.setCell (p:=⟨b,0,none⟩) hb v0).setCell (p:=⟨b,1,none⟩) hb v1).setCell (p:=⟨b,2,none⟩) hb v2).setCell (p:=⟨b,3,none⟩) hb v3).setCell (p:=⟨b,4,none⟩) hb v4).setCell (p:=⟨b,5,none⟩) hb v5).setCell (p:=⟨b,6,none⟩) hb v6
theorem MI {B b:Nat} {w W:World}(h:Below B w W) (hb:B<=b) (v5 v1:Value):Below B w ((W.setCell ⟨b,5,none⟩ v5).setCell ⟨b,1,none⟩ v1):=
 (h.setCell (p:=⟨b,5,none⟩) hb v5).setCell (p:=⟨b,1,none⟩) hb v1
theorem RH {v n:Nat} {s:ByteArray} {p:Nat}(h:B8 s p v n):Lib.runeLen v=n:=by rw[LI h.pos.2,Iw h]
end Go.Proofs
