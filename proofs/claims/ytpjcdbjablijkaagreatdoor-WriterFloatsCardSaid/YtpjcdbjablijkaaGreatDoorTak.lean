import Derived.Test.YtpjcdbjablijkaaGreatDoorChecked
import Derived.WalkKit
import Derived.BigCall
import Derived.LoopTactic
import Derived.Lib.Hide
import Derived.Outline
import Derived.Shelf.Small.Utf8
import Derived.Shelf.Small.Bits
import Derived.Shelf.Strconv.Itoa0
import Derived.Shelf.Strconv.Itoa1
import Derived.Shelf.LaysM
import Derived.Shelf.Strconv.Itoa2
import Derived.Shelf.Strconv.Itoa3
import Derived.Shelf.Unicode.Decode
import Derived.Shelf.Unicode.DecodeSlow
import Derived.Shelf.Unicode.DecodeAny
import Derived.Test.YtpjcdbjablijkaaGreatDoorProg
import Derived.OwnWalk
import Derived.Laws.CopyOwn
import Derived.Deep.QuietTactic
import Derived.BigQuiet
import Derived.RegionTactic
import Derived.ChangeAlike
import Derived.Lib.RuneBytes
import Derived.Lib.TrimUEq
import Derived.Lib.Small
import Derived.Laws.AppendOwn
import Derived.Laws.OwnMore
import Derived.Lib.UnsafeStr
import Derived.Laws.BytesArg
import Derived.Lib.Builder
import Derived.Lib.FrozenHead
import Derived.Test.YtpjcdbjablijkaaGreatDoorTaa
set_option maxRecDepth 1000000
set_option maxHeartbeats 40000000
section
namespace Go.Bg
def B:Nat:=4294967296
def limb (x j:Nat):Nat:=x/B^j %B
theorem B_pos:0<B:=by decide
theorem pow_pos' (j:Nat):0<B^j:=Nat.pow_pos B_pos
theorem limb_zero {x j:Nat}(h:x<B^j):limb x j=0:=by unfold limb;rw[Nat.div_eq_of_lt h];rfl
theorem lt_step {x m:Nat}(h:x<B^(m+1)) (h0:limb x m=0):x<B^m:=by
 unfold limb at h0
 rw[Nat.pow_succ]at h
 have h1:x/B^m<B:=Nat.div_lt_of_lt_mul h
 rw[Nat.mod_eq_of_lt h1]at h0
 exact(Nat.div_eq_zero_iff_lt (pow_pos' m)).1 h0
theorem ge_step {x m:Nat}(h0:limb x m≠0):B^m≤x:=by
 rcases Nat.lt_or_ge x (B^m)with h1|h1
 ·exact absurd (limb_zero h1) h0
 ·exact h1
def Tight (x m:Nat):Prop:=x<B^m∧(m=0∨B^(m-1)≤x)
theorem Tight.zero_iff {x m:Nat}(h:Tight x m):m=0↔x=0:=by
 obtain⟨h1,h2⟩:=h
 constructor
 ·rintro rfl;simpa using h1
 ·rintro rfl
  rcases h2 with h2|h2
  ·exact h2
  ·have:=pow_pos' (m-1);omega
theorem Tight.inj {x m n:Nat}(h:Tight x m) (h':Tight x n):m=n:=by
 have key:∀{a b:Nat},Tight x a→Tight x b→¬a<b:=by
  intro a b ha hb hab
  rcases hb.2 with h2|h2
  ·omega
  ·have h3:B^a≤B^(b-1):=Nat.pow_le_pow_right B_pos (by omega)
   have:=ha.1
   omega
 have h1:=key h h'
 have h2:=key h' h
 omega
def dgl (r:Nat):Nat→Nat→List Nat
 |0,_=> []
 |f+1,n=>if n=0 then []else n %r::dgl r f (n/r)
def digs (r n:Nat):List Nat:=dgl r n n
theorem dgl_more {r:Nat}(hr:2≤r):∀(f n:Nat),n≤f→dgl r f n=dgl r n n:=by
 intro f
 induction f using Nat.strongRecOn with
 |_ f ih=>
  intro n hn
  match f,n,hn with
  |0,0,_=>rfl
  |f+1,0,_=>rfl
  |f+1,n+1,hn=>
   have hd:(n+1)/r≤n:=by
    have:(n+1)/r<n+1:=Nat.div_lt_self (by omega) (by omega)
    omega
   unfold dgl
   rw[if_neg (by omega),if_neg (by omega),ih f (by omega) _ (by omega)]
   rcases Nat.lt_or_ge n (f+1)with h|h
   ·rw[ih n (by omega) _ hd]
   ·omega
theorem digs_zero (r:Nat):digs r 0= []:=rfl
theorem digs_pos {r n:Nat}(hr:2≤r) (hn:n≠0):digs r n=n %r::digs r (n/r):=by
 obtain⟨m,rfl⟩:∃m,n=m+1:=⟨n-1,by omega⟩
 have hd:(m+1)/r≤m:=by
  have:(m+1)/r<m+1:=Nat.div_lt_self (by omega) (by omega)
  omega
 unfold digs
 conv=>lhs;unfold dgl
 rw[if_neg (by omega),dgl_more hr m _ hd]
def sgn (d:Nat):UInt8:=if d<10 then(48+d).toUInt8 else(87+d).toUInt8
def numL (r n:Nat):List UInt8:=if n=0 then [48]else((digs r n).map sgn).reverse
end Go.Bg
namespace Go.Proofs
open Go.RowKit Go.Bg
def Lim (w:World) (b o x m:Nat):Prop:=x<B^m∧∀j,j<m→w.cell? ⟨b,o+j,none⟩=some (.int .u32 (limb x j))
def LimV (w:World) (v:Value) (x m:Nat):Prop:=(v= .slice none 0 0∧x=0∧m=0)∨∃b o c,v= .slice (some ⟨b,o,none⟩) m c∧m≤c∧c≤maxLen∧Lim w b o x m
end Go.Proofs
end
section
set_option linter.unusedVariables false
end
section
namespace Go.Proofs
open Go.RowKit Go.Bg
def sz (x m:Nat):Nat:=if m=0 then 0 else 32*(m-1)+Lib.bitLen (limb x (m-1))
theorem Lim.below {w w':World} {b o x m:Nat}(h:Lim w b o x m) (hb:Below w.heap.size w w'):Lim w' b o x m:=by
 refine⟨h.1,fun j hj=> ?_⟩
 have h1:=h.2 j hj
 have hlt:b<w.heap.size:=by
  rcases Nat.lt_or_ge b w.heap.size with h2|h2
  ·exact h2
  ·simp[World.cell?,Array.getElem?_eq_none h2]at h1
 rw[hb.cell (p:=⟨b,o+j,none⟩) hlt,h1]
theorem LimV.below {w w':World} {v:Value} {x m:Nat}(h:LimV w v x m) (hb:Below w.heap.size w w'):LimV w' v x m:=by
 rcases h with h|⟨b,o,c,h1,h2,h3,h4⟩
 ·exact .inl h
 ·exact .inr ⟨b,o,c,h1,h2,h3,h4.below hb⟩
theorem LimV.slice {w:World} {v:Value} {x m:Nat}(h:LimV w v x m):∃a c,v= .slice a m c:=by
 rcases h with⟨rfl,_,rfl⟩|⟨b,o,c,rfl,_⟩
 ·exact⟨_,_,rfl⟩
 ·exact⟨_,_,rfl⟩
end Go.Proofs
end
section
namespace Go.Hb
def okRune (v:Int):Prop:=0≤v∧v≤1114111∧(v<55296∨57343<v)
def byt (s:ByteArray) (k:Nat):Int:=((s.data.toList.getD k 0).toNat:Int)
theorem byt_lo (s:ByteArray) (k:Nat):0≤byt s k:=by unfold byt;omega
theorem byt_in (s:ByteArray) (k:Nat) (h:k<s.size):byt s k=(s[k].toNat:Int):=by
 unfold byt
 rw[List.getD_eq_getElem?_getD,List.getElem?_eq_getElem (by simpa using h)]
 rfl
theorem byt_out (s:ByteArray) (k:Nat) (h:s.size≤k):byt s k=0:=by
 unfold byt
 rw[List.getD_eq_getElem?_getD,List.getElem?_eq_none (by simpa using h)]
 rfl
instance (v:Int):Decidable (okRune v):=by unfold okRune;infer_instance
def Acc (b1 b2 b3 v0:Int) (k:Nat) (v:Int):Prop:=
 (k=1∧v=v0)∨(k=2∧(128≤b1∧b1<192)∧v=v0*64+b1-128)∨(k=3∧(128≤b1∧b1<192)∧(128≤b2∧b2<192)∧v=(v0*64+b1-128)*64+b2-128)∨
  (k=4∧(128≤b1∧b1<192)∧(128≤b2∧b2<192)∧(128≤b3∧b3<192)∧v=((v0*64+b1-128)*64+b2-128)*64+b3-128)
theorem lt_of_high (s:ByteArray) (k:Nat) (h:128≤byt s k):k<s.size:=by
 rcases Nat.lt_or_ge k s.size with h1|h1
 ·exact h1
 ·rw[byt_out s k h1]at h;omega
theorem Acc.step {b1 b2 b3 v0:Int} {k:Nat} {v b:Int}(h:Acc b1 b2 b3 v0 k v) (hk:k<4) (hb:128≤b∧b<192) (e:(k=1→b=b1)∧(k=2→b=b2)∧(k=3→b=b3)):Acc b1 b2 b3 v0 (k+1) (v*64+b-128):=by
 rcases h with⟨h,h1⟩|⟨h,h1,h2⟩|⟨h,h1,h2,h3⟩|⟨h,_⟩
 ·have:=e.1 h;subst this h1 h;exact .inr (.inl ⟨rfl,hb,rfl⟩)
 ·have:=e.2.1 h;subst this h2 h;exact .inr (.inr (.inl ⟨rfl,h1,hb,rfl⟩))
 ·have:=e.2.2 h;subst this h3 h;exact .inr (.inr (.inr ⟨rfl,h1,h2,hb,rfl⟩))
 ·omega
end Go.Hb
end
section
namespace Go.Proofs
open Go.RowKit Go.Hb
theorem Tryz.infoU8:(Tryz.prog.info? 5).map (fun i=>(i.zero,i.size,i.bytes))=some (some (.int .u8 0),1,1):=by kernel_rfl
end Go.Proofs
end
section
namespace Go.Proofs
open Go.RowKit Go.Bg
theorem heap_setCell_row {w:World} {g q:Nat} {arr:Array Value} {t:TypeId} {fz:Nat×Nat}(h:w.heap[g]? =some (.cells arr t fz)) (v:Value):(w.setCell ⟨g,q,none⟩ v).heap[g]? =some (.cells (arr.setIfInBounds q v) t fz):=by
 unfold World.setCell
 simp[Array.getElem?_modify,h]
def RowIs (w:World) (g n:Nat) (t:TypeId) (f:Nat→Value):Prop:=∃cur:Array Value,w.heap[g]? =some (.cells cur t (0,0))∧n≤cur.size∧∀j,j<n→cur[j]? =some (f j)
theorem RowIs.cell {w:World} {g n:Nat} {t:TypeId} {f:Nat→Value}(h:RowIs w g n t f){j:Nat}(hj:j<n):w.cell? ⟨g,j,none⟩=some (f j):=by
 obtain⟨cur,h1,_,h3⟩:=h
 rw[Lib.cell_of_heap h1]
 simpa using h3 j hj
theorem RowIs.frozen {w:World} {g n:Nat} {t:TypeId} {f:Nat→Value}(h:RowIs w g n t f) (j:Nat):w.frozen? ⟨g,j,none⟩=false:=by
 obtain⟨cur,h1,_,_⟩:=h
 exact Lib.frozen_of_heap h1 j
theorem RowIs.set {w:World} {g n q:Nat} {t:TypeId} {f f':Nat→Value}(h:RowIs w g n t f) (v:Value) (hq:q<n) (hf:∀j,j<n→f' j=if j=q then v else f j):RowIs (w.setCell ⟨g,q,none⟩ v) g n t f':=by
 obtain⟨cur,h1,h2,h3⟩:=h
 refine⟨_,heap_setCell_row h1 v,by simpa using h2,fun j hj=> ?_⟩
 rw[hf j hj,Array.getElem?_setIfInBounds]
 by_cases e:q=j
 ·subst e;simp;omega
 ·rw[if_neg e,if_neg (Ne.symm e),h3 j hj]
theorem RowIs.drewN {w:World} {g n:Nat} {t:TypeId} {f:Nat→Value}(h:RowIs w g n t f) (k:Nat):RowIs (w.drewN k) g n t f:=h
theorem RowIs.block {w w':World} {g n:Nat} {t:TypeId} {f:Nat→Value}(h:RowIs w g n t f) (hb:w'.heap[g]? =w.heap[g]?):RowIs w' g n t f:=by
 obtain⟨cur,h1,h2,h3⟩:=h
 exact⟨cur,hb.trans h1,h2,h3⟩
theorem RowIs.lt {w:World} {g n:Nat} {t:TypeId} {f:Nat→Value}(h:RowIs w g n t f):g<w.heap.size:=by
 obtain⟨cur,h1,_⟩:=h
 exact(Array.getElem?_eq_some_iff.1 h1).1
theorem LimV.cut {w:World} {a:Option Addr} {c x m m1:Nat}(h:LimV w (.slice a m c) x m) (hle:m1≤m) (hx:x<B^m1):LimV w (.slice a m1 c) x m1:=by
 rcases h with⟨h1,h2,h3⟩|⟨b,o,c',h1,h2,h3,h4⟩
 ·subst h2 h3
  obtain rfl:m1=0:=by omega
  exact .inl ⟨h1,rfl,rfl⟩
 ·simp only[Value.slice.injEq]at h1
  obtain⟨rfl,_,rfl⟩:=h1
  exact .inr ⟨b,o,c,rfl,by omega,h3,hx,fun j hj=>h4.2 j (by omega)⟩
def mix (x r q:Nat) (j:Nat):Value:= .int .u32 ((if j<q then limb x j else limb (x/r) j:Nat):Int)
structure TQ (r x g:Nat) (W3:World) (X k:Nat) (ds:List Nat) (o:Value) (wr:World):Prop where
 tight:Tight X k
 dig:digs r x=ds++digs r X
 row:RowIs wr g k 142 (fun j=> .int .u32 (limb X j:Nat))
 own:wr.ownsRow (g+1) 5 1 o ds.length (Lib.byteCells (ds.map sgn))
 bel:Below g W3 wr
structure IQ (r X g:Nat) (W3:World) (k:Nat) (ds:List Nat) (o:Value) (q n:Nat) (wr:World):Prop where
 le:q≤k
 rest:n=X/B^q %r
 row:RowIs wr g k 142 (mix X r q)
 own:wr.ownsRow (g+1) 5 1 o ds.length (Lib.byteCells (ds.map sgn))
 bel:Below g W3 wr
theorem TQ.next {r x g:Nat} {W3:World} {X k k2 n:Nat} {ds:List Nat} {o v':Value} {wo wr w2:World} {ob:Obj}(h:TQ r x g W3 X k ds o wo) (hr:2≤r) (hx:X≠0) (hi:IQ r X g W3 k ds o 0 n wr) (hn:n=X %r) (ht:Tight (X/r) k2)
 (hown:w2.ownsRow (g+1) 5 1 v' (ds.length+1) (Lib.byteCells (ds.map sgn)++ [.int .u8 ((sgn n).toNat:Nat)])) (hg:(wr.alloc ob).grownBy w2 o.ownBlock):TQ r x g W3 (X/r) k2 (ds++ [n]) v' w2:=by
 have hgl:=hi.row.lt
 have hle:k2≤k:=by
  rcases ht.2 with h1|h1
  ·omega
  ·rcases Nat.lt_or_ge k k2 with h4|h4
   ·have h5:B^k≤B^(k2-1):=Nat.pow_le_pow_right B_pos (by omega)
    have h6:X/r≤X:=Nat.div_le_self _ _
    have:=h.tight.1
    omega
   ·exact h4
 have hno:some g≠o.ownBlock:=fun e=>by have:=(hi.own.lt g e.symm).1;omega
 have hb:w2.heap[g]? =wr.heap[g]? :=by
  rw[hg.block g (by simp;omega) hno]
  exact Lib.alloc_old wr _ g hgl
 refine⟨ht,?_,?_,?_,?_⟩
 ·rw[h.dig,digs_pos hr hx,←hn,List.append_assoc];rfl
 ·obtain⟨cur,h1,h2,h3⟩:=hi.row.block hb
  exact⟨cur,h1,by omega,fun j hj=>by rw[h3 j (by omega)];simp[mix]⟩
 ·have e:Lib.byteCells ((ds++ [n]).map sgn)=Lib.byteCells (ds.map sgn)++ [.int .u8 ((sgn n).toNat:Nat)]:=by simp[Lib.byteCells]
  rw[e,List.length_append,List.length_singleton]
  exact hown
 ·exact(hi.bel.alloc (by omega) _).grown hg (by simp;omega) (fun b hb=>by have:=(hi.own.lt b hb).1;omega)
theorem IQ.next {r X g:Nat} {W3:World} {k p n dq dr:Nat} {ds:List Nat} {o:Value} {wr:World}(h:IQ r X g W3 k ds o (p+1) n wr) (hdq:dq=limb (X/r) p) (hdr:dr=X/B^p %r) (q:Nat):
 IQ r X g W3 k ds o p dr ((wr.drewN q).setCell ⟨g,p,none⟩ (.int .u32 (dq:Nat))):=by
 have hno:o.ownBlock=none∨o.ownBlock≠some g:=by
  refine .inr fun e=> ?_
  have:=(h.own.lt g e).1;omega
 refine⟨by have:=h.le;omega,hdr,?_,?_,?_⟩
 ·refine(h.row.drewN q).set _ (by have:=h.le;omega) fun j hj=> ?_
  unfold mix
  by_cases e:j=p
  ·subst e;rw[if_pos rfl,if_neg (by omega),hdq]
  ·rw[if_neg e]
   by_cases e2:j<p
   ·rw[if_pos e2,if_pos (by omega)]
   ·rw[if_neg e2,if_neg (by omega)]
 ·exact World.ownsRow.kept (row:=some g) h.own ⟨rfl,rfl,rfl,by simp[World.setCell,World.drewN],fun b hb hne=>Below.heap_setCell _ _ _ _ (fun e=>hne (by rw[e]))⟩ hno
 ·exact(h.bel.trans (⟨rfl,rfl,rfl,nR _,fun _ _=>rfl⟩:Below g wr (wr.drewN q))).setCell (p:=⟨g,p,none⟩) (nR _) _
theorem own_slice {w:World} {b:Nat} {v:Value} {n:Nat} {xs:List Value}(h:w.ownsRow b 5 1 v n xs):∃a c,v= .slice a n c:=by
 rcases h.2 with⟨rfl,rfl⟩|⟨g,cap,cur,rfl,_⟩
 ·exact⟨_,_,rfl⟩
 ·exact⟨_,_,rfl⟩
theorem Tight.le {x y m k:Nat}(h:Tight y k) (hx:x<B^m) (hy:y≤x):k≤m:=by
 rcases h.2 with h1|h1
 ·omega
 ·rcases Nat.lt_or_ge m k with h4|h4
  ·have h5:B^m≤B^(k-1):=Nat.pow_le_pow_right B_pos (by omega)
   omega
  ·exact h4
theorem own_row {w:World} {b:Nat} {oa:Option Addr} {oc:Nat} {ds:List Nat} {L:List UInt8}(h:w.ownsRow b 5 1 (.slice oa ds.length oc) ds.length (Lib.byteCells (ds.map sgn))) (hL:L=ds.map sgn) (hp:0<L.length):
 ∃g,oa=some ⟨g,0,none⟩∧b≤g∧RowIs w g L.length 5 (fun j=> .int .u8 ((L.getD j 0).toNat:Nat)):=by
 have hl:L.length=ds.length:=by rw[hL,List.length_map]
 rcases h.2 with⟨h1,h2⟩|⟨g,cap,cur,h1,h2,h3,h4,h5,h6,h7⟩
 ·omega
 ·simp only[Value.slice.injEq]at h1
  obtain⟨rfl,_,rfl⟩:=h1
  refine⟨g,rfl,h2,cur,h3,by omega,fun j hj=> ?_⟩
  have h8:cur.toList[j]? =(Lib.byteCells (ds.map sgn))[j]? :=by rw[←h7,List.getElem?_take,if_pos (by omega)]
  rw[←Array.getElem?_toList,h8,←hL]
  simp[Lib.byteCells,List.getD,List.getElem?_eq_getElem hj]
theorem alpha_at (n:Nat) (h:n<36):((⟨#[48,49,50,51,52,53,54,55,56,57,97,98,99,100,101,102,103,104,105,106,107,108,109,110,111,112,113,114,115,116,117,118,119,120,121,122]⟩:ByteArray)[n]'h).toNat=(sgn n).toNat:=by
 have key:∀k:Fin 36,((⟨#[48,49,50,51,52,53,54,55,56,57,97,98,99,100,101,102,103,104,105,106,107,108,109,110,111,112,113,114,115,116,117,118,119,120,121,122]⟩:ByteArray)[k.val]'k.isLt).toNat=(sgn k.val).toNat:=by decide
 exact key ⟨n,h⟩
end Go.Proofs
end
