import Derived.Test.YtnipmfaikiaipaaGreatDoorTaa
import Derived.Test.YtnipmfaikiaipaaGreatDoorTak
import Derived.Lib.ConvBytes
import Derived.OwnWalk
set_option maxRecDepth 1000000
set_option maxHeartbeats 40000000
section
namespace Go.Rb
def bit2 (x j:Nat):Nat:=x/2^j %2
def T2 (x m:Nat):Prop:=x<2^m∧(m=0∨2^(m-1)≤x)
theorem bit2_beyond {x m j:Nat}(h:x<2^m) (hj:m≤j):bit2 x j=0:=by
 unfold bit2
 rw[Nat.div_eq_of_lt (Nat.lt_of_lt_of_le h (Nat.pow_le_pow_right (by decide) hj))]
theorem T2.inj {x m k:Nat}(h:T2 x m) (h':T2 x k):m=k:=by
 have key:∀{a b:Nat},T2 x a→T2 x b→a≤b:=by
  intro a b ha hb
  rcases ha.2 with h0|h0
  ·omega
  ·rcases Nat.lt_or_ge b a with hlt|hge
   ·have:=Nat.pow_le_pow_right (n:=2) (by decide) (show b≤a-1 by omega)
    have:=hb.1
    omega
   ·exact hge
 exact Nat.le_antisymm (key h h') (key h' h)
theorem T2.zero_iff {x m:Nat}(h:T2 x m):m=0↔x=0:=by
 constructor
 ·intro e;subst e;have:=h.1;omega
 ·intro e
  rcases h.2 with h0|h0
  ·exact h0
  ·have:=Nat.two_pow_pos (m-1);omega
theorem T2.le {x y m k:Nat}(h:T2 y k) (hx:x<2^m) (hy:y≤x):k≤m:=by
 rcases h.2 with h1|h1
 ·omega
 ·rcases Nat.lt_or_ge m k with h4|h4
  ·have h5:=Nat.pow_le_pow_right (n:=2) (by decide) (show m≤k-1 by omega)
   omega
  ·exact h4
theorem lt_step {x k:Nat}(h:x<2^(k+1)) (h0:bit2 x k=0):x<2^k:=by
 unfold bit2 at h0
 have h1:x/2^k<2:=by rw[Nat.div_lt_iff_lt_mul (Nat.two_pow_pos k),Nat.mul_comm,←Nat.pow_succ];exact h
 have h2:x/2^k=0:=by generalize x/2^k=q at*;omega
 rcases Nat.lt_or_ge x (2^k)with h3|h3
 ·exact h3
 ·have:=(Nat.le_div_iff_mul_le (Nat.two_pow_pos k)).2 (show 1*2^k≤x by omega)
  omega
theorem ge_step {x k:Nat}(h0:bit2 x k≠0):2^k≤x:=by
 rcases Nat.lt_or_ge x (2^k)with h3|h3
 ·exact absurd (by unfold bit2;rw[Nat.div_eq_of_lt h3]) h0
 ·exact h3
theorem bit2_succ (x j:Nat):bit2 x (j+1)=bit2 (x/2) j:=by
 unfold bit2
 rw[Nat.pow_succ,Nat.mul_comm,Nat.div_div_eq_div_mul]
theorem bit2_zero (x:Nat):bit2 x 0=x %2:=by unfold bit2;rw[Nat.pow_zero,Nat.div_one]
end Go.Rb
namespace Go.Proofs
open Go.RowKit Go.Pf Go.Rb
def Bt (w:World) (b o x m:Nat):Prop:=x<2^m∧∀j,j<m→w.cell? ⟨b,o+j,none⟩=some (.int .i64 (bit2 x j))
def BtV (w:World) (v:Value) (x m:Nat):Prop:=(v= .slice none 0 0∧x=0∧m=0)∨∃b o c,v= .slice (some ⟨b,o,none⟩) m c∧m≤c∧c≤9223372036854775807∧b<w.heap.size∧Bt w b o x m
theorem BtV.below {w w':World} {v:Value} {x m:Nat}(h:BtV w v x m) (hb:Below w.heap.size w w'):BtV w' v x m:=by
 rcases h with h|⟨b,o,c,h1,h2,h3,h4,h5,h6⟩
 ·exact .inl h
 ·exact .inr ⟨b,o,c,h1,h2,h3,Nat.lt_of_lt_of_le h4 hb.size,h5,fun j hj=>(hb.cell (p:=⟨b,o+j,none⟩) h4).trans (h6 j hj)⟩
theorem BtV.slice {w:World} {v:Value} {x m:Nat}(h:BtV w v x m):∃a c,v= .slice a m c:=by
 rcases h with⟨rfl,_,rfl⟩|⟨b,o,c,rfl,_⟩
 ·exact⟨_,_,rfl⟩
 ·exact⟨_,_,rfl⟩
theorem BtV.lt {w:World} {v:Value} {x m:Nat}(h:BtV w v x m):x<2^m:=by
 rcases h with⟨_,h7,_⟩|⟨_,_,_,_,_,_,_,h7⟩
 ·rw[h7];exact Nat.two_pow_pos m
 ·exact h7.1
theorem BtV.cut {w:World} {a:Option Addr} {c x m m1:Nat}(h:BtV w (.slice a m c) x m) (hle:m1≤m) (hx:x<2^m1):BtV w (.slice a m1 c) x m1:=by
 rcases h with⟨h1,h2,h3⟩|⟨b,o,c',h1,h2,h3,h4,h5⟩
 ·subst h2 h3
  obtain rfl:m1=0:=by omega
  exact .inl ⟨h1,rfl,rfl⟩
 ·simp only[Value.slice.injEq]at h1
  obtain⟨rfl,_,rfl⟩:=h1
  exact .inr ⟨b,o,c,rfl,by omega,h3,h4,hx,fun j hj=>h5.2 j (by omega)⟩
def BigSays (neg:Bool) (x:Nat) (w:World) (e:Ending) (w':World):Prop:=∃(sl:Value) (m:Nat),e= .returned (.agg #[.bool (neg&&decide (0<x)),sl])∧T2 x m∧BtV w' sl x m∧Below w.heap.size w w'
end Go.Proofs
end
section
namespace Go.Proofs
open Go.RowKit Go.Bg
def IntSays (x:Nat) (w:World) (e:Ending) (w':World):Prop:=∃(sl:Value) (m:Nat),e= .returned (.agg #[.bool false,sl])∧Tight x m∧LimV w' sl x m∧Below w.heap.size w w'
theorem LimV.setCell {w:World} {v:Value} {x m:Nat}(h:LimV w v x m){a:Addr} {u0:Value}(h0:w.cell? a=some u0) (hne:∀k n,u0≠ .int k n) (u:Value):LimV (w.setCell a u) v x m:=by
 rcases h with h|⟨b,o,c,rfl,h2,h3,h4⟩
 ·exact .inl h
 ·refine .inr ⟨b,o,c,rfl,h2,h3,h4.1,fun j hj=> ?_⟩
  have h5:=h4.2 j hj
  rw[World.cell?_setCell_other,h5]
  rintro rfl
  rw[h0]at h5
  exact hne _ _ (Option.some.inj h5)
theorem LimV.lt {w:World} {v:Value} {x m:Nat}(h:LimV w v x m):x<B^m:=by
 rcases h with⟨_,h7,_⟩|⟨_,_,_,_,_,_,h7⟩
 ·rw[h7];exact pow_pos' m
 ·exact h7.1
theorem Tryz.laid (v:Value) (x m:Nat) (w:World) (hv:Hid (LimV w v x m)):Calls Tryz.prog 218 #[.bool false,v] w (IntSays x w):=by
 obtain⟨a,c,rfl⟩:=hv.out.slice
 have hb:=(Below.refl w.heap.size w).alloc (nR _)
 have hv1:Hid (∀o,LimV (w.alloc o) (.slice a m c) x m):=Hi fun o=>hv.out.below (hb o)
 clear hb
 go_enter Tryz.func218,Tryz.ntmps218
 go_wp2_with (go_at_call 221;(with_reducible refine(Tryz.trim (.slice a m c) x m _ (hv1.out _)).mono ?_))
 rintro e w' ⟨m',ht,rfl,rfl⟩
 have HL:=Hi (hv.out.cut (Tight.le ht hv.out.lt (nR _)) ht.1)
 go_wp2
 refine bodyPost_ret (v:= .agg #[.bool false,.slice a m' c]) ?_ rfl ⟨_,m',rfl,ht,?_,?_⟩
 ·simp only[results,Tryz.results218]
  go_simp
 ·exact HL.out.below ((Below.refl _ _).alloc (nR _) _)
 ·exact(Below.refl _ _).alloc (nR _) _
end Go.Proofs
end
section
namespace Go.Proofs
open Go.RowKit Go.Bg
theorem Tryz.lower (c:Nat) (h1:97≤c) (h2:c≤102) (w:World):Calls Tryz.prog 229 #[.int .u8 c] w fun e w'=>e= .returned (.int .u8 c)∧w=w':=by
 have:c=97∨c=98∨c=99∨c=100∨c=101∨c=102:=by omega
 clear h1 h2
 rcases this with rfl|rfl|rfl|rfl|rfl|rfl
 all_goals
  go_enter Tryz.func229,Tryz.ntmps229
  go_wp2
  go_ret
  exact⟨rfl,rfl⟩
theorem below_bytes (w:World) (s:ByteArray):Below w.heap.size w (Lib.bytesWorld w 5 s):=
 ⟨rfl,rfl,rfl,by rw[Lib.bytesWorld_size];omega,fun k hk=>Lib.bytesWorld_at_old w 5 s k hk⟩
end Go.Proofs
end
section
namespace Go.Proofs
open Go.RowKit Go.Bg Go.Hb
theorem ne_fact {c:Nat} {n:Nat}(h:c≠n):((c:Int)==(n:Int))=false:=by rw[Bool.eq_false_iff];intro e;have:=eq_of_beq e;omega
theorem valid_ok {v:Nat}(h:okRune v):Lib.validRune v=true:=by
 unfold Lib.validRune okRune at*
 exact decide_eq_true (by omega)
end Go.Proofs
end
section
namespace Go.Bg
open Go Go.Proofs
theorem bitAux_spec:∀(f x:Nat),x<2^f→x<2^Lib.bitLenAux f x∧(x≠0→1≤Lib.bitLenAux f x∧2^(Lib.bitLenAux f x-1)≤x)
 |0,x,h=>by
  have:x=0:=by simpa using h
  subst this
  exact⟨by simp[Lib.bitLenAux],fun h=>absurd rfl h⟩
 |f+1,x,h=>by
  unfold Lib.bitLenAux
  by_cases h0:x=0
  ·subst h0;exact⟨by simp,fun h=>absurd rfl h⟩
  ·rw[if_neg h0]
   have h1:x/2<2^f:=by rw[Nat.pow_succ]at h;omega
   obtain⟨a,b⟩:=bitAux_spec f (x/2) h1
   refine⟨?_,fun _=>⟨by omega,?_⟩⟩
   ·rw[Nat.add_comm,Nat.pow_succ];omega
   ·rw[Nat.add_comm,Nat.add_sub_cancel]
    by_cases h2:x/2=0
    ·rw[h2]
     have e:Lib.bitLenAux f 0=0:=by cases f<;>simp[Lib.bitLenAux]
     rw[e];simp;omega
    ·obtain⟨c,d⟩:=b h2
     obtain⟨k,hk⟩:∃k,Lib.bitLenAux f (x/2)=k+1:=⟨Lib.bitLenAux f (x/2)-1,by omega⟩
     rw[hk]at d⊢
     rw[Nat.add_sub_cancel]at d
     rw[Nat.pow_succ];omega
theorem bitLen_spec {x:Nat}(h:x<4294967296) (h0:x≠0):1≤Lib.bitLen x∧2^(Lib.bitLen x-1)≤x∧x<2^Lib.bitLen x:=by
 obtain⟨a,b⟩:=bitAux_spec 64 x (by omega)
 exact⟨(b h0).1,(b h0).2,a⟩
theorem sz_spec {x m:Nat}(h:Tight x m) (h0:x≠0):1≤sz x m∧2^(sz x m-1)≤x∧x<2^sz x m:=by
 have hm:m≠0:=fun e=>h0 (h.zero_iff.1 e)
 obtain⟨k,rfl⟩:∃k,m=k+1:=⟨m-1,by omega⟩
 have ht:limb x k=x/B^k:=by
  unfold limb
  refine Nat.mod_eq_of_lt (Nat.div_lt_of_lt_mul ?_)
  have:=h.1
  rwa [Nat.pow_succ]at this
 have hge:B^k≤x:=by
  rcases h.2 with h1|h1
  ·omega
  ·simpa using h1
 have htn:limb x k≠0:=by
  rw[ht]
  have:=(Nat.le_div_iff_mul_le (pow_pos' k)).2 (by rw[Nat.one_mul];exact hge)
  omega
 obtain⟨b1,b2,b3⟩:=bitLen_spec (limb_lt x k) htn
 have hB:B^k=2^(32*k):=by rw[show B=2^32 from rfl,←Nat.pow_mul]
 unfold sz
 rw[if_neg hm,Nat.add_sub_cancel]
 generalize hb:Lib.bitLen (limb x k)=b at*
 rw[ht]at b2 b3
 refine⟨by omega,?_,?_⟩
 ·rw[show 32*k+b-1=32*k+(b-1) by omega,Nat.pow_add,←hB]
  exact Nat.le_trans (Nat.mul_le_mul_left _ b2) (Nat.mul_div_le x (B^k))
 ·rw[Nat.pow_add,←hB]
  have:=(Nat.div_lt_iff_lt_mul (pow_pos' k)).1 b3
  rwa [Nat.mul_comm]at this
def carry (x r d k:Nat):Nat:=(x %B^k*r+d)/B^k
theorem carry_zero (x r d:Nat):carry x r d 0=d:=by unfold carry;simp[Nat.mod_one]
theorem carry_lt {x r d k:Nat}(hd:d<r):carry x r d k<r:=by
 unfold carry
 refine Nat.div_lt_of_lt_mul ?_
 have h1:x %B^k<B^k:=Nat.mod_lt _ (pow_pos' k)
 have h2:(x %B^k+1)*r≤B^k*r:=Nat.mul_le_mul_right r h1
 rw[Nat.add_mul,Nat.one_mul]at h2
 omega
theorem mod_top (x k:Nat):x %B^(k+1)=limb x k*B^k+x %B^k:=by
 unfold limb
 rw[Nat.pow_succ,Nat.mod_mul,Nat.mul_comm (x/B^k %B)]
 omega
theorem carry_eq (x r d k:Nat):(x %B^(k+1)*r+d)/B^k=limb x k*r+carry x r d k:=by
 unfold carry
 rw[mod_top,Nat.add_mul,Nat.add_assoc,Nat.mul_right_comm,Nat.mul_comm (limb x k*r),Nat.mul_add_div (pow_pos' k)]
theorem carry_next (x r d k:Nat):carry x r d (k+1)=(limb x k*r+carry x r d k)/B:=by
 rw[←carry_eq]
 unfold carry
 rw[Nat.pow_succ,Nat.div_div_eq_div_mul]
theorem limb_next (x r d k:Nat):limb (x*r+d) k=(limb x k*r+carry x r d k) %B:=by
 rw[←carry_eq]
 unfold limb
 have e:x*r+d=B^k*(x/B^(k+1)*r*B)+(x %B^(k+1)*r+d):=by
  have h:=Nat.div_add_mod x (B^(k+1))
  conv=>lhs;rw[←h]
  rw[Nat.add_mul,Nat.add_assoc,Nat.pow_succ]
  congr 1
  rw[Nat.mul_assoc (B^k),Nat.mul_assoc (B^k)]
  congr 1
  rw[Nat.mul_comm B,Nat.mul_right_comm]
 rw[e,Nat.mul_add_div (pow_pos' k),Nat.add_comm,Nat.add_mul_mod_self_right]
theorem carry_top {x r d m:Nat}(h:x<B^m):carry x r d m=(x*r+d)/B^m:=by unfold carry;rw[Nat.mod_eq_of_lt h]
end Go.Bg
namespace Go.Proofs
open Go.RowKit Go.Bg
def mulCells (x r d j m:Nat):List Value:=(List.range m).map fun i=>Value.int .u32 ((if i<j then limb (x*r+d) i else limb x i:Nat):Int)
theorem mulCells_zero (x r d m:Nat):mulCells x r d 0 m=limbCells x m:=by simp[mulCells,limbCells]
theorem mulCells_end (x r d m:Nat):mulCells x r d m m=limbCells (x*r+d) m:=by
 unfold mulCells limbCells
 apply List.map_congr_left
 intro i hi
 rw[if_pos (List.mem_range.1 hi)]
theorem mulCells_get (x r d j m:Nat) (h:j<m):(mulCells x r d j m)[j]? =some (.int .u32 (limb x j:Nat)):=by simp[mulCells,h]
theorem mulCells_set (x r d j m:Nat) (_h:j<m):(mulCells x r d j m).set j (.int .u32 (limb (x*r+d) j:Nat))=mulCells x r d (j+1) m:=by
 apply List.ext_getElem?
 intro i
 rw[List.getElem?_set]
 by_cases e:j=i
 ·subst e
  rw[if_pos rfl]
  simp[mulCells,_h]
 ·rw[if_neg e]
  unfold mulCells
  by_cases hi:i<m
  ·simp only[List.getElem?_map,List.getElem?_range hi,Option.map_some]
   by_cases h1:i<j
   ·rw[if_pos h1,if_pos (by omega)]
   ·rw[if_neg h1,if_neg (by omega)]
  ·rw[List.getElem?_eq_none (by simpa using hi),List.getElem?_eq_none (by simpa using hi)]
theorem limbCells_succ (x m:Nat) (c:Nat) (h:limb x m=c):limbCells x (m+1)=limbCells x m++ [.int .u32 (c:Nat)]:=by
 unfold limbCells
 rw[List.range_succ,List.map_append,←h]
 rfl
theorem LimV.of_own {w:World} {b:Nat} {v:Value} {x m:Nat}(h:w.ownsRow b 176 1 v m (limbCells x m)) (hx:x<B^m):LimV w v x m:=by
 rcases h.2 with⟨rfl,rfl⟩|⟨g,cap,cur,rfl,_,hg,hnc,hcm,hcs,htake⟩
 ·refine .inl ⟨rfl,by simpa using hx,rfl⟩
 ·refine .inr ⟨g,0,cap,rfl,hnc,hcm,hx,fun j hj=> ?_⟩
  have h1:=World.ownsRow.cellAt h j (by omega)
  rw[Nat.zero_add,h1,limbCells_get x m j hj]
theorem own_slice67 {w:World} {b:Nat} {v:Value} {n:Nat} {xs:List Value}(h:w.ownsRow b 176 1 v n xs):∃a c,v= .slice a n c:=by
 rcases h.2 with⟨rfl,rfl⟩|⟨g,cap,cur,rfl,_⟩
 ·exact⟨_,_,rfl⟩
 ·exact⟨_,_,rfl⟩
def ParseSays (X:Nat) (w:World) (e:Ending) (w':World):Prop:=∃(sl:Value) (m:Nat),e= .returned (.tuple #[.agg #[.bool false,sl],.int .i64 0])∧Tight X m∧LimV w' sl X m∧Below w.heap.size w w'
structure PQ (r:Nat) (B1:Nat) (W1:World) (X m:Nat) (l:Value) (wr:World):Prop where
 tight:Tight X m
 own:wr.ownsRow B1 176 1 l m (limbCells X m)
 bel:Below B1 W1 wr
structure PI (r d:Nat) (B1:Nat) (W1:World) (X m:Nat) (l:Value) (j c:Nat) (wr:World):Prop where
 le:j≤m
 car:c=carry X r d j
 own:wr.ownsRow B1 176 1 l m (mulCells X r d j m)
 bel:Below B1 W1 wr
theorem PI.next {r d B1:Nat} {W1:World} {x m g lc j q lq cq:Nat} {wr:World}(h:PI r d B1 W1 x m (.slice (some ⟨g,0,none⟩) m lc) j q wr) (hlq:lq=limb (x*r+d) j) (hcq:cq=carry x r d (j+1)) (hj:j<m):
 PI r d B1 W1 x m (.slice (some ⟨g,0,none⟩) m lc) (j+1) cq (wr.setCell ⟨g,j,none⟩ (.int .u32 (lq:Nat))):=by
 obtain⟨h1,h2⟩:=World.ownsRow.stored h.own j (.int .u32 (lq:Nat))
 have hb:=(h.own.lt g rfl).1
 refine⟨by omega,hcq,?_,h.bel.setCell (p:=⟨g,j,none⟩) hb _⟩
 rw[←mulCells_set x r d j m hj,←hlq]
 exact h1
end Go.Proofs
end
section
namespace Go.Proofs
open Go.RowKit Go.Pf Go.Rb
def bitCells (x m:Nat):List Value:=(List.range m).map fun j=>Value.int .i64 (bit2 x j:Nat)
theorem bitCells_length (x m:Nat):(bitCells x m).length=m:=by simp[bitCells]
theorem bitCells_get (x m j:Nat) (h:j<m):(bitCells x m)[j]? =some (.int .i64 (bit2 x j:Nat)):=by simp[bitCells,h]
theorem bitCells_succ (x m c:Nat) (h:bit2 x m=c):bitCells x (m+1)=bitCells x m++ [.int .i64 (c:Nat)]:=by
 unfold bitCells
 rw[List.range_succ,List.map_append,←h]
 rfl
structure OB (B1:Nat) (W1:World) (x k:Nat) (v:Value) (wr:World):Prop where
 own:wr.ownsRow B1 3 1 v k (bitCells x k)
 bel:Below B1 W1 wr
 le:B1≤wr.heap.size
theorem OB.next {B1:Nat} {W1:World} {x k c:Nat} {v v':Value} {wr w2:World} {ob:Obj}(h:OB B1 W1 x k v wr) (hc:bit2 x k=c) (hown:w2.ownsRow B1 3 1 v' (k+1) (bitCells x k++ [.int .i64 (c:Nat)])) (hg:(wr.alloc ob).grownBy w2 v.ownBlock):OB B1 W1 x (k+1) v' w2:=by
 have hb:=(h.bel.alloc h.le ob).grown hg (by have:=h.le;simp;omega) (fun b hb=>by have:=(h.own.lt b hb).1;omega)
 refine⟨by rw[bitCells_succ x k c hc];exact hown,hb,?_⟩
 have:=hg.size
 have:=h.le
 simp at*
 omega
def RowSays (x:Nat) (w:World) (e:Ending) (w':World):Prop:=∃(sl:Value) (m:Nat),e= .returned sl∧T2 x m∧BtV w' sl x m∧Below w.heap.size w w'
end Go.Proofs
end
section
namespace Go.Proofs
open Go.RowKit Go.Pf Go.Rb
theorem OB.drewN {B1:Nat} {W1:World} {x k:Nat} {v:Value} {wr:World}(h:OB B1 W1 x k v wr) (n:Nat):OB B1 W1 x k v (wr.drewN n):=⟨h.own,h.bel.trans ⟨rfl,rfl,rfl,nR _,fun _ _=>rfl⟩,h.le⟩
theorem BtV.cellAt {w:World} {a:Option Addr} {c x m:Nat}(h:BtV w (.slice a m c) x m){j:Nat}(hj:j<m):∃b o,a=some ⟨b,o,none⟩∧w.cell? ⟨b,o+j,none⟩=some (.int .i64 (bit2 x j)):=by
 rcases h with⟨_,_,h3⟩|⟨b,o,c',h1,h2,h3,h4,h5⟩
 ·omega
 ·simp only[Value.slice.injEq]at h1
  exact⟨b,o,h1.1,h5.2 j hj⟩
end Go.Proofs
end
section
namespace Go.Proofs
open Go.RowKit Go.Pf Go.Rb
theorem BtV.setCell {w:World} {v:Value} {x m:Nat}(h:BtV w v x m){a:Addr} {u0:Value}(h0:w.cell? a=some u0) (hne:∀k n,u0≠ .int k n) (u:Value):BtV (w.setCell a u) v x m:=by
 rcases h with h|⟨b,o,c,rfl,h2,h3,h4,h5,h6⟩
 ·exact .inl h
 ·refine .inr ⟨b,o,c,rfl,h2,h3,by simpa[World.setCell]using h4,h5,fun j hj=> ?_⟩
  have h7:=h6 j hj
  rw[World.cell?_setCell_other,h7]
  rintro rfl
  rw[h0]at h7
  exact hne _ _ (Option.some.inj h7)
structure Tok (w:World) (b:Nat):Prop where
 h:w.heap[b]? =some (.cells #[.bool false,.slice none 0 0] 135 (0,0))
theorem Tok.below {w w':World} {b:Nat}(h:Tok w b) (hb:Below w.heap.size w w'):Tok w' b:=⟨(hb.block b (Array.getElem?_eq_some_iff.1 h.h).1).trans h.h⟩
theorem Tok.c0 {w:World} {b:Nat}(h:Tok w b):w.cell? ⟨b,0,none⟩=some (.bool false):=by rw[Lib.cell_of_heap h.h];rfl
theorem Tok.c1 {w:World} {b:Nat}(h:Tok w b):w.cell? ⟨b,1,none⟩=some (.slice none 0 0):=by rw[Lib.cell_of_heap h.h];rfl
theorem Tok.f {w:World} {b:Nat}(h:Tok w b) (i:Nat):w.frozen? ⟨b,i,none⟩=false:=Lib.frozen_of_heap h.h i
theorem Tok.lt {w:World} {b:Nat}(h:Tok w b):b<w.heap.size:=(Array.getElem?_eq_some_iff.1 h.h).1
end Go.Proofs
end
