import Derived.Test.YtnipmfaikiaipaaGreatDoorTal
import Derived.Test.YtnipmfaikiaipaaGreatDoorTas
import Derived.Test.YtnipmfaikiaipaaGreatDoorTan
import Derived.Test.YtnipmfaikiaipaaGreatDoorTat
import Derived.Test.YtnipmfaikiaipaaGreatDoorTap
import Derived.Test.YtnipmfaikiaipaaGreatDoorTaa
set_option maxRecDepth 1000000
set_option maxHeartbeats 40000000
section
namespace Go.Proofs
open Go.RowKit Go.Pf Go.Rb Go.Bg
def mixb (X r i:Nat) (j:Nat):Value:= .int .i64 ((if j<i then 0 else bit2 (X/r) j:Nat):Int)
structure TT (r x B1:Nat) (W1:World) (X k:Nat) (ds:List Nat) (lv o:Value) (wr:World):Prop where
 tight:T2 X k
 dig:digs r x=ds++digs r X
 bits:BtV wr lv X k
 own:wr.ownsRow B1 5 1 o ds.length (Lib.byteCells (ds.map sgn))
 bel:Below B1 W1 wr
 le:B1≤wr.heap.size
structure TI (r X k g:Nat) (w0:World) (i R:Nat) (wr:World):Prop where
 le:i≤k
 rest:R=X/2^i %r
 row:RowIs wr g k 3 (mixb X r i)
 bel:Below g w0 wr
 g0:g=w0.heap.size
theorem own_below {w w':World} {B:Nat} {e:TypeId} {size n:Nat} {v:Value} {xs:List Value}(h:w.ownsRow B e size v n xs) (hb:Below w.heap.size w w'):w'.ownsRow B e size v n xs:=by
 refine⟨h.1,?_⟩
 rcases h.2 with h2|⟨g,cap,cur,h1,h2,h3,h4⟩
 ·exact .inl h2
 ·exact .inr ⟨g,cap,cur,h1,h2,(hb.block g (Array.getElem?_eq_some_iff.1 h3).1).trans h3,h4⟩
theorem TT.below {r x B1:Nat} {W1:World} {X k:Nat} {ds:List Nat} {lv o:Value} {w w':World}(h:TT r x B1 W1 X k ds lv o w) (hb:Below w.heap.size w w'):TT r x B1 W1 X k ds lv o w':=
 ⟨h.tight,h.dig,h.bits.below hb,own_below h.own hb,h.bel.trans (hb.mono h.le),Nat.le_trans h.le hb.size⟩
theorem mixb_top {X k r:Nat}(j:Nat) (hj:j<k):mixb X r k j= .int .i64 0:=by
 unfold mixb
 rw[if_pos hj];rfl
theorem TI.start {r X k:Nat} {w0:World}(h:X<2^k){M:Array Value}(hM:M.size=k) (h0:∀j,j<k→M[j]? =some (.int .i64 0)):TI r X k w0.heap.size w0 k 0 (w0.alloc (.cells M 3)):=by
 refine⟨nR _,by rw[Nat.div_eq_of_lt h];simp,⟨M,heap_alloc_new w0 _,by omega,fun j hj=> ?_⟩,(Below.refl _ _).alloc (nR _) _,rfl⟩
 rw[h0 j hj,mixb_top j hj]
theorem TI.next {r X k g i R R':Nat} {w0 wr:World}(h:TI r X k g w0 (i+1) R wr) (hR:R'=X/2^i %r) (hb:bit2 (X/r) i=0):TI r X k g w0 i R' wr:=by
 refine⟨by have:=h.le;omega,hR,?_,h.bel,h.g0⟩
 obtain⟨cur,h1,h2,h3⟩:=h.row
 refine⟨cur,h1,h2,fun j hj=> ?_⟩
 rw[h3 j hj]
 unfold mixb
 by_cases e:j=i
 ·subst e;rw[if_pos (by omega),if_neg (by omega),hb]
 ·by_cases e2:j<i
  ·rw[if_pos (by omega),if_pos e2]
  ·rw[if_neg (by omega),if_neg e2]
theorem TI.one {r X k g i R R':Nat} {w0 wr:World}(h:TI r X k g w0 (i+1) R wr) (hR:R'=X/2^i %r) (hb:bit2 (X/r) i=1):TI r X k g w0 i R' (wr.setCell ⟨g,i,none⟩ (.int .i64 1)):=by
 have hl:=h.le
 refine⟨by omega,hR,h.row.set _ (by omega) fun j hj=> ?_,h.bel.setCell (p:=⟨g,i,none⟩) (nR _) _,h.g0⟩
 unfold mixb
 by_cases e:j=i
 ·subst e;rw[if_pos rfl,if_neg (by omega),hb];rfl
 ·rw[if_neg e]
  by_cases e2:j<i
  ·rw[if_pos e2,if_pos (by omega)]
  ·rw[if_neg e2,if_neg (by omega)]
theorem TI.done {r X k g R:Nat} {w0 wr:World}(h:TI r X k g w0 0 R wr) (hX:X/r<2^k) (hk:k≤1000000000):BtV wr (.slice (some ⟨g,0,none⟩) k k) (X/r) k:=by
 refine .inr ⟨g,0,k,rfl,nR _,by omega,h.row.lt,hX,fun j hj=> ?_⟩
 rw[Nat.zero_add,h.row.cell hj]
 unfold mixb
 rw[if_neg (by omega)]
theorem BtV.block {w w':World} {g c x m:Nat}(h:BtV w (.slice (some ⟨g,0,none⟩) m c) x m) (hb:w'.heap[g]? =w.heap[g]?) (hs:w.heap.size≤w'.heap.size):BtV w' (.slice (some ⟨g,0,none⟩) m c) x m:=by
 rcases h with⟨h1,_⟩|⟨b,o,c',h1,h2,h3,h4,h5,h6⟩
 ·simp at h1
 ·simp only[Value.slice.injEq,Option.some.injEq,Addr.mk.injEq]at h1
  obtain⟨⟨rfl,rfl,_⟩,_,rfl⟩:=h1
  exact .inr ⟨g,0,c,rfl,h2,h3,by omega,h5,fun j hj=>(World.cell?_of_block hb).trans (h6 j hj)⟩
end Go.Proofs
end
section
namespace Go.Proofs
open Go.RowKit Go.Pf Go.Lx Go.Rb Go.Bg
structure Tk7 (w:World) (b:Nat):Prop where
 h:w.heap[b]? =some (.cells #[.int .i64 0,.string ⟨#[]⟩,.string ⟨#[]⟩,.int .u64 0,.int .i64 0,.int .i64 0,.bool false] 30 (0,0))
theorem Tk7.below {w w':World} {b:Nat}(h:Tk7 w b) (hb:Below w.heap.size w w'):Tk7 w' b:=⟨(hb.block b (Array.getElem?_eq_some_iff.1 h.h).1).trans h.h⟩
theorem Tk7.cs {w:World} {b:Nat}(h:Tk7 w b):w.cell? ⟨b,0,none⟩=some (.int .i64 0)∧w.cell? ⟨b,1,none⟩=some (.string ⟨#[]⟩)∧w.cell? ⟨b,2,none⟩=some (.string ⟨#[]⟩)∧w.cell? ⟨b,3,none⟩=some (.int .u64 0)∧w.cell? ⟨b,4,none⟩=some (.int .i64 0)∧w.cell? ⟨b,5,none⟩=some (.int .i64 0)∧w.cell? ⟨b,6,none⟩=some (.bool false):=by
 refine⟨?_,?_,?_,?_,?_,?_,?_⟩<;>(rw[Lib.cell_of_heap h.h];rfl)
theorem Tk7.f {w:World} {b:Nat}(h:Tk7 w b) (i:Nat):w.frozen? ⟨b,i,none⟩=false:=Lib.frozen_of_heap h.h i
theorem Tk7.fs {w:World} {b:Nat}(h:Tk7 w b):w.frozen? ⟨b,0,none⟩=false∧w.frozen? ⟨b,1,none⟩=false∧w.frozen? ⟨b,2,none⟩=false∧w.frozen? ⟨b,3,none⟩=false∧w.frozen? ⟨b,4,none⟩=false∧w.frozen? ⟨b,5,none⟩=false∧w.frozen? ⟨b,6,none⟩=false:=⟨h.f 0,h.f 1,h.f 2,h.f 3,h.f 4,h.f 5,h.f 6⟩
end Go.Proofs
end
section
namespace Go.Proofs
open Go.RowKit Go.Pf Go.Lx Go.Hb Go.Rb Go.Bg
def ChrEnd (o:Option TR) (w:World) (e:Ending) (w':World):Prop:=
 (e=match o with
  |none=> .returned (.tuple #[badV 0,.int .i64 0,.bool false])
  |some R=> .returned (.tuple #[TR.tok R,.int .i64 (TR.er R),.bool true]))∧Below w.heap.size w w'
theorem ChrEnd.ok {o:Option TR} {w w':World} {x a E:Nat} {nu:ByteArray}(h:o=some (.ok 4 ⟨#[]⟩ (numB x) 0 a E)) (hn:nu.data.toList=numL 10 x) (hb:Below w.heap.size w w'):ChrEnd o w (.returned (.tuple #[tokV 4 ⟨#[]⟩ nu 0 a E false,.int .i64 0,.bool true])) w':=by
 subst h;rw[numB_of hn];exact⟨rfl,hb⟩
theorem bne_of_ne {a:Int} {n:Int}(h:a≠n):(a !=n)=true:=by rw[bne,Bool.not_eq_true',Bool.eq_false_iff];intro e;exact h (eq_of_beq e)
theorem bne_of_eq {a:Int} {n:Int}(h:a=n):(a !=n)=false:=by rw[bne,h,beq_self_eq_true];rfl
theorem beq_of_ne {a:Int} {n:Int}(h:a≠n):(a==n)=false:=by rw[Bool.eq_false_iff];intro e;exact h (eq_of_beq e)
theorem beq_of_eq {a:Int} {n:Int}(h:a=n):(a==n)=true:=by rw[h];exact beq_self_eq_true _
theorem Tk7.new (w:World):Tk7 (w.alloc (.cells #[.int .i64 0,.string ⟨#[]⟩,.string ⟨#[]⟩,.int .u64 0,.int .i64 0,.int .i64 0,.bool false] 30)) w.heap.size:=⟨heap_alloc_new w _⟩
theorem Tk7.lt {w:World} {b:Nat}(h:Tk7 w b):b<w.heap.size:=(Array.getElem?_eq_some_iff.1 h.h).1
end Go.Proofs
end
