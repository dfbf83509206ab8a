import Derived.Test.YtpjcdbjablijkaaGreatDoorTaa
import Derived.Test.YtpjcdbjablijkaaGreatDoorTak
import Derived.Lib.ConvBytes
import Derived.OwnWalk
set_option maxRecDepth 1000000
set_option maxHeartbeats 40000000
section
namespace Go.Rb
def bit2 (x j:Nat):Nat:=x/2^j %2
def T2 (x m:Nat):Prop:=x<2^m∧(m=0∨2^(m-1)≤x)
theorem bit2_lt (x j:Nat):bit2 x j<2:=Nat.mod_lt _ (by decide)
theorem bit2_beyond {x m j:Nat}(h:x<2^m) (hj:m≤j):bit2 x j=0:=by
 unfold bit2
 rw[Nat.div_eq_of_lt (Nat.lt_of_lt_of_le h (Nat.pow_le_pow_right (by decide) hj))]
theorem T2.inj {x m k:Nat}(h:T2 x m) (h':T2 x k):m=k:=by
 have key:∀{a b:Nat},T2 x a→T2 x b→a≤b:=by
  intro a b ha hb
  rcases ha.2 with h0|h0
  ·omega
  ·rcases Nat.lt_or_ge b a with hlt|hge
   ·have:=Nat.pow_le_pow_right (n:=2) (by decide) (show b≤a-1 by omega)
    have:=hb.1
    omega
   ·exact hge
 exact Nat.le_antisymm (key h h') (key h' h)
theorem T2.zero_iff {x m:Nat}(h:T2 x m):m=0↔x=0:=by
 constructor
 ·intro e;subst e;have:=h.1;omega
 ·intro e
  rcases h.2 with h0|h0
  ·exact h0
  ·have:=Nat.two_pow_pos (m-1);omega
theorem T2.le {x y m k:Nat}(h:T2 y k) (hx:x<2^m) (hy:y≤x):k≤m:=by
 rcases h.2 with h1|h1
 ·omega
 ·rcases Nat.lt_or_ge m k with h4|h4
  ·have h5:=Nat.pow_le_pow_right (n:=2) (by decide) (show m≤k-1 by omega)
   omega
  ·exact h4
theorem lt_step {x k:Nat}(h:x<2^(k+1)) (h0:bit2 x k=0):x<2^k:=by
 unfold bit2 at h0
 have h1:x/2^k<2:=by rw[Nat.div_lt_iff_lt_mul (Nat.two_pow_pos k),Nat.mul_comm,←Nat.pow_succ];exact h
 have h2:x/2^k=0:=by generalize x/2^k=q at*;omega
 rcases Nat.lt_or_ge x (2^k)with h3|h3
 ·exact h3
 ·have:=(Nat.le_div_iff_mul_le (Nat.two_pow_pos k)).2 (show 1*2^k≤x by omega)
  omega
theorem ge_step {x k:Nat}(h0:bit2 x k≠0):2^k≤x:=by
 rcases Nat.lt_or_ge x (2^k)with h3|h3
 ·exact absurd (by unfold bit2;rw[Nat.div_eq_of_lt h3]) h0
 ·exact h3
theorem bit2_succ (x j:Nat):bit2 x (j+1)=bit2 (x/2) j:=by
 unfold bit2
 rw[Nat.pow_succ,Nat.mul_comm,Nat.div_div_eq_div_mul]
theorem bit2_zero (x:Nat):bit2 x 0=x %2:=by unfold bit2;rw[Nat.pow_zero,Nat.div_one]
theorem mod_step (x k:Nat):x %2^(k+1)=x %2^k+2^k*bit2 x k:=by rw[Nat.pow_succ,Nat.mod_mul];rfl
end Go.Rb
namespace Go.Proofs
open Go.RowKit Go.Pf Go.Rb
def Bt (w:World) (b o x m:Nat):Prop:=x<2^m∧∀j,j<m→w.cell? ⟨b,o+j,none⟩=some (.int .i64 (bit2 x j))
def BtV (w:World) (v:Value) (x m:Nat):Prop:=(v= .slice none 0 0∧x=0∧m=0)∨∃b o c,v= .slice (some ⟨b,o,none⟩) m c∧m≤c∧c≤9223372036854775807∧b<w.heap.size∧Bt w b o x m
theorem BtV.below {w w':World} {v:Value} {x m:Nat}(h:BtV w v x m) (hb:Below w.heap.size w w'):BtV w' v x m:=by
 rcases h with h|⟨b,o,c,h1,h2,h3,h4,h5,h6⟩
 ·exact .inl h
 ·exact .inr ⟨b,o,c,h1,h2,h3,Nat.lt_of_lt_of_le h4 hb.size,h5,fun j hj=>(hb.cell (p:=⟨b,o+j,none⟩) h4).trans (h6 j hj)⟩
theorem BtV.slice {w:World} {v:Value} {x m:Nat}(h:BtV w v x m):∃a c,v= .slice a m c:=by
 rcases h with⟨rfl,_,rfl⟩|⟨b,o,c,rfl,_⟩
 ·exact⟨_,_,rfl⟩
 ·exact⟨_,_,rfl⟩
theorem BtV.lt {w:World} {v:Value} {x m:Nat}(h:BtV w v x m):x<2^m:=by
 rcases h with⟨_,h7,_⟩|⟨_,_,_,_,_,_,_,h7⟩
 ·rw[h7];exact Nat.two_pow_pos m
 ·exact h7.1
theorem BtV.max {w:World} {v:Value} {x m:Nat}(h:BtV w v x m):m≤9223372036854775807:=by
 rcases h with⟨_,_,h⟩|⟨_,_,_,_,_,_,_⟩
 ·omega
 ·omega
theorem BtV.cut {w:World} {a:Option Addr} {c x m m1:Nat}(h:BtV w (.slice a m c) x m) (hle:m1≤m) (hx:x<2^m1):BtV w (.slice a m1 c) x m1:=by
 rcases h with⟨h1,h2,h3⟩|⟨b,o,c',h1,h2,h3,h4,h5⟩
 ·subst h2 h3
  obtain rfl:m1=0:=by omega
  exact .inl ⟨h1,rfl,rfl⟩
 ·simp only[Value.slice.injEq]at h1
  obtain⟨rfl,_,rfl⟩:=h1
  exact .inr ⟨b,o,c,rfl,by omega,h3,h4,hx,fun j hj=>h5.2 j (by omega)⟩
theorem Tryz.rbit (v:Value) (x m i:Nat) (w:World) (hv:Hid (BtV w v x m)):Calls Tryz.prog 201 #[v,.int .i64 i] w fun e w'=>e= .returned (.int .i64 (bit2 x i))∧w=w':=by
 obtain⟨a,c,rfl⟩:=hv.out.slice
 have i0:decide ((0:Int)≤(i:Int))=true:=dTo
 have mm:=hv.out.max
 by_cases h:i<m
 ·rcases hv.out with⟨_,_,h3⟩|⟨b,o,c',h1,h2,h3,h4,h5⟩
  ·omega
  ·simp only[Value.slice.injEq]at h1
   obtain⟨rfl,_,rfl⟩:=h1
   have hc:=h5.2 i h
   have hi:(i:Int)<m:=by omega
   have hi2:decide ((i:Int)<m)=true:=decide_eq_true hi
   clear h5
   go_enter Tryz.func201,Tryz.ntmps201
   go_wp2
   go_ret
   exact⟨rfl,rfl⟩
 ·have e:=bit2_beyond hv.out.lt (show m≤i by omega)
  rw[e]
  have hi2:decide ((i:Int)<m)=false:=dFo
  clear e
  go_enter Tryz.func201,Tryz.ntmps201
  go_wp2
  go_ret
  exact⟨rfl,rfl⟩
def CutSays (v:Value) (w:World) (x:Nat) (e:Ending) (w':World):Prop:=
 ∃m',T2 x m'∧e= .returned (match v with| .slice a _ c=> .slice a m' c|v=>v)∧w=w'
theorem Tryz.cut_nil (w:World):Calls Tryz.prog 57 #[.slice none 0 0] w (CutSays (.slice none 0 0) w 0):=by
 go_enter Tryz.func57,Tryz.ntmps57
 go_wp2
 refine wp_loop_rounds 1 ?_
 rw[rounds_succ]
 go_wp2
 go_ret
 exact⟨0,⟨by decide,.inl rfl⟩,rfl,rfl⟩
theorem Tryz.cut_row (b o c x m:Nat) (w:World) (hc:m≤c) (hmax:c≤9223372036854775807) (hl:Hid (Bt w b o x m)):Calls Tryz.prog 57 #[.slice (some ⟨b,o,none⟩) m c] w (CutSays (.slice (some ⟨b,o,none⟩) m c) w x):=by
 go_enter Tryz.func57,Tryz.ntmps57
 go_wp2
 go_loop [3] (fun v=>∃k:Nat,k≤m∧x<2^k∧v= .int .i64 k) (fun v=>(intOf v).toNat)
 case atStart=>exact⟨m,nR _,hl.out.1,rfl⟩
 case round=>
  obtain⟨k,hk,hx,rfl⟩:=hrel
  have HX:=Hi hx
  clear hx
  cases k with
  |zero=>
   have z0:((0:Nat):Int)=0:=rfl
   go_wp2
   go_ret
   exact⟨0,⟨HX.out,.inl rfl⟩,rfl,rfl⟩
  |succ k=>
   have hcell:w.cell? ⟨b,o+k,none⟩=some (.int .i64 (bit2 x k)):=hl.out.2 k (by omega)
   have kk:(k:Int)<m:=by omega
   have k1:((k+1:Nat):Int)-1=k:=by omega
   by_cases h0:bit2 x k=0
   ·have t0:((bit2 x k:Int)==0)=true:=by rw[h0];rfl
    have H0:=Hi h0
    clear h0
    go_wp2
    go_round
    case rel=>exact⟨k,by omega,lt_step HX.out H0.out,by go_num⟩
    case measure=>simp[intOf]
   ·have t0:((bit2 x k:Int)==0)=false:=by rw[Bool.eq_false_iff];intro h;have:=eq_of_beq h;omega
    have H0:=Hi h0
    clear h0
    go_wp2
    go_ret
    exact⟨k+1,⟨HX.out,.inr (ge_step H0.out)⟩,rfl,rfl⟩
theorem Tryz.rcut (v:Value) (x m:Nat) (w:World) (hv:BtV w v x m):Calls Tryz.prog 57 #[v] w (CutSays v w x):=by
 rcases hv with⟨rfl,rfl,rfl⟩|⟨b,o,c,rfl,h1,h2,_,h3⟩
 ·exact Tryz.cut_nil w
 ·exact Tryz.cut_row b o c x m w h1 h2 (Hi h3)
def BigSays (neg:Bool) (x:Nat) (w:World) (e:Ending) (w':World):Prop:=∃(sl:Value) (m:Nat),e= .returned (.agg #[.bool (neg&&decide (0<x)),sl])∧T2 x m∧BtV w' sl x m∧Below w.heap.size w w'
theorem Tryz.rlaid (neg:Bool) (v:Value) (x m:Nat) (w:World) (hv:Hid (BtV w v x m)):Calls Tryz.prog 58 #[.bool neg,v] w (BigSays neg x w):=by
 obtain⟨a,c,rfl⟩:=hv.out.slice
 have hb:=(Below.refl w.heap.size w).alloc (nR _)
 have hv1:Hid (∀o,BtV (w.alloc o) (.slice a m c) x m):=Hi fun o=>hv.out.below (hb o)
 clear hb
 cases neg with
 |false=>
  go_enter Tryz.func58,Tryz.ntmps58
  go_wp2_with (go_at_call 57;(with_reducible refine(Tryz.rcut (.slice a m c) x m _ (hv1.out _)).mono ?_))
  rintro e w' ⟨m',ht,rfl,rfl⟩
  have HL:=Hi (hv.out.cut (T2.le ht hv.out.lt (nR _)) ht.1)
  go_wp2
  refine bodyPost_ret (v:= .agg #[.bool false,.slice a m' c]) ?_ rfl ⟨_,m',rfl,ht,?_,?_⟩
  ·simp only[results,Tryz.results58]
   go_simp
  ·exact HL.out.below ((Below.refl _ _).alloc (nR _) _)
  ·exact(Below.refl _ _).alloc (nR _) _
 |true=>
  go_enter Tryz.func58,Tryz.ntmps58
  go_wp2_with (go_at_call 57;(with_reducible refine(Tryz.rcut (.slice a m c) x m _ (hv1.out _)).mono ?_))
  rintro e w' ⟨m',ht,rfl,rfl⟩
  have HL:=Hi (hv.out.cut (T2.le ht hv.out.lt (nR _)) ht.1)
  have hd:decide ((0:Int)<(m':Int))=decide (0<x):=by
   have:=ht.zero_iff
   by_cases h:0<x
   ·rw[decide_eq_true h,decide_eq_true (by omega)]
   ·rw[decide_eq_false h,decide_eq_false (by omega)]
  go_wp2
  refine bodyPost_ret (v:= .agg #[.bool (decide (0<x)),.slice a m' c]) ?_ rfl ⟨_,m',rfl,ht,?_,?_⟩
  ·simp only[results,Tryz.results58]
   go_simp
   have:=ht.zero_iff
   omega
  ·exact HL.out.below ((Below.refl _ _).alloc (nR _) _)
  ·exact(Below.refl _ _).alloc (nR _) _
end Go.Proofs
end
section
namespace Go.Proofs
open Go.RowKit Go.Bg
theorem LimV.setCell {w:World} {v:Value} {x m:Nat}(h:LimV w v x m){a:Addr} {u0:Value}(h0:w.cell? a=some u0) (hne:∀k n,u0≠ .int k n) (u:Value):LimV (w.setCell a u) v x m:=by
 rcases h with h|⟨b,o,c,rfl,h2,h3,h4⟩
 ·exact .inl h
 ·refine .inr ⟨b,o,c,rfl,h2,h3,h4.1,fun j hj=> ?_⟩
  have h5:=h4.2 j hj
  rw[World.cell?_setCell_other,h5]
  rintro rfl
  rw[h0]at h5
  exact hne _ _ (Option.some.inj h5)
theorem LimV.lt {w:World} {v:Value} {x m:Nat}(h:LimV w v x m):x<B^m:=by
 rcases h with⟨_,h7,_⟩|⟨_,_,_,_,_,_,h7⟩
 ·rw[h7];exact pow_pos' m
 ·exact h7.1
end Go.Proofs
end
section
namespace Go.Bg
open Go Go.Proofs
def carry (x r d k:Nat):Nat:=(x %B^k*r+d)/B^k
end Go.Bg
namespace Go.Proofs
open Go.RowKit Go.Bg
def mulCells (x r d j m:Nat):List Value:=(List.range m).map fun i=>Value.int .u32 ((if i<j then limb (x*r+d) i else limb x i:Nat):Int)
theorem mulCells_set (x r d j m:Nat) (_h:j<m):(mulCells x r d j m).set j (.int .u32 (limb (x*r+d) j:Nat))=mulCells x r d (j+1) m:=by
 apply List.ext_getElem?
 intro i
 rw[List.getElem?_set]
 by_cases e:j=i
 ·subst e
  rw[if_pos rfl]
  simp[mulCells,_h]
 ·rw[if_neg e]
  unfold mulCells
  by_cases hi:i<m
  ·simp only[List.getElem?_map,List.getElem?_range hi,Option.map_some]
   by_cases h1:i<j
   ·rw[if_pos h1,if_pos (by omega)]
   ·rw[if_neg h1,if_neg (by omega)]
  ·rw[List.getElem?_eq_none (by simpa using hi),List.getElem?_eq_none (by simpa using hi)]
structure PI (r d:Nat) (B1:Nat) (W1:World) (X m:Nat) (l:Value) (j c:Nat) (wr:World):Prop where
 le:j≤m
 car:c=carry X r d j
 own:wr.ownsRow B1 142 1 l m (mulCells X r d j m)
 bel:Below B1 W1 wr
theorem PI.next {r d B1:Nat} {W1:World} {x m g lc j q lq cq:Nat} {wr:World}(h:PI r d B1 W1 x m (.slice (some ⟨g,0,none⟩) m lc) j q wr) (hlq:lq=limb (x*r+d) j) (hcq:cq=carry x r d (j+1)) (hj:j<m):
 PI r d B1 W1 x m (.slice (some ⟨g,0,none⟩) m lc) (j+1) cq (wr.setCell ⟨g,j,none⟩ (.int .u32 (lq:Nat))):=by
 obtain⟨h1,h2⟩:=World.ownsRow.stored h.own j (.int .u32 (lq:Nat))
 have hb:=(h.own.lt g rfl).1
 refine⟨by omega,hcq,?_,h.bel.setCell (p:=⟨g,j,none⟩) hb _⟩
 rw[←mulCells_set x r d j m hj,←hlq]
 exact h1
end Go.Proofs
end
section
namespace Go.Rb
def addc (a b k:Nat):Nat:=(a %2^k+b %2^k)/2^k
theorem addc_zero (a b:Nat):addc a b 0=0:=by simp[addc,Nat.mod_one]
theorem add_div (a b k:Nat):(a+b)/2^k=a/2^k+b/2^k+addc a b k:=by
 have h1:2^k*(a/2^k)+a %2^k=a:=Nat.div_add_mod a _
 have h2:2^k*(b/2^k)+b %2^k=b:=Nat.div_add_mod b _
 have e:a+b=(a %2^k+b %2^k)+2^k*(a/2^k+b/2^k):=by rw[Nat.mul_add];omega
 conv=>lhs;rw[e]
 rw[Nat.add_mul_div_left _ _ (Nat.two_pow_pos k)]
 unfold addc
 omega
theorem addc_lt (a b k:Nat):addc a b k<2:=by
 unfold addc
 rw[Nat.div_lt_iff_lt_mul (Nat.two_pow_pos k)]
 have h1:a %2^k<2^k:=Nat.mod_lt _ (Nat.two_pow_pos k)
 have h2:b %2^k<2^k:=Nat.mod_lt _ (Nat.two_pow_pos k)
 omega
theorem add_bit (a b k:Nat):(bit2 a k+bit2 b k+addc a b k) %2=bit2 (a+b) k∧(bit2 a k+bit2 b k+addc a b k)/2=addc a b (k+1):=by
 constructor
 ·unfold bit2
  rw[add_div]
  omega
 ·have h1:=add_div a b (k+1)
  have h2:=add_div a b k
  have e:∀x:Nat,x/2^(k+1)=x/2^k/2:=fun x=>by rw[Nat.pow_succ,Nat.div_div_eq_div_mul]
  rw[e,e,e]at h1
  unfold bit2
  generalize(a+b)/2^k=s at*
  generalize a/2^k=p at*
  generalize b/2^k=q at*
  omega
def sbw (a b k:Nat):Nat:=if a %2^k<b %2^k then 1 else 0
theorem sub_div {a b:Nat}(h:b≤a) (k:Nat):(a-b)/2^k+b/2^k+sbw a b k=a/2^k:=by
 have h1:2^k*(a/2^k)+a %2^k=a:=Nat.div_add_mod a _
 have h2:2^k*(b/2^k)+b %2^k=b:=Nat.div_add_mod b _
 have p:=Nat.two_pow_pos k
 have m1:a %2^k<2^k:=Nat.mod_lt _ p
 have m2:b %2^k<2^k:=Nat.mod_lt _ p
 have d:b/2^k≤a/2^k:=Nat.div_le_div_right h
 obtain⟨q,hq⟩:∃q,a/2^k=b/2^k+q:=⟨a/2^k-b/2^k,by omega⟩
 have e:2^k*(a/2^k)=2^k*(b/2^k)+2^k*q:=by rw[hq,Nat.mul_add]
 unfold sbw
 split
 ·rename_i hl
  obtain⟨r,rfl⟩:∃r,q=r+1:=by
   cases q with
   |zero=>rw[Nat.mul_zero]at e;omega
   |succ r=>exact⟨r,rfl⟩
  rw[Nat.mul_add,Nat.mul_one]at e
  have:(a-b)/2^k=r:=by
   refine Nat.div_eq_of_lt_le ?_ ?_
   ·rw[Nat.mul_comm];omega
   ·rw[Nat.add_mul,Nat.mul_comm r,Nat.one_mul];omega
  omega
 ·rename_i hl
  have:(a-b)/2^k=q:=by
   refine Nat.div_eq_of_lt_le ?_ ?_
   ·rw[Nat.mul_comm];omega
   ·rw[Nat.add_mul,Nat.mul_comm q,Nat.one_mul];omega
  omega
theorem sbw_le (a b k:Nat):sbw a b k≤1:=by unfold sbw;split<;>omega
theorem sub_bit {a b:Nat}(h:b≤a) (k:Nat):(bit2 b k+sbw a b k≤bit2 a k∧bit2 (a-b) k=bit2 a k-bit2 b k-sbw a b k∧sbw a b (k+1)=0)∨(bit2 a k<bit2 b k+sbw a b k∧bit2 (a-b) k+bit2 b k+sbw a b k=bit2 a k+2∧sbw a b (k+1)=1):=by
 have h1:=sub_div h (k+1)
 have h2:=sub_div h k
 have e:∀x:Nat,x/2^(k+1)=x/2^k/2:=fun x=>by rw[Nat.pow_succ,Nat.div_div_eq_div_mul]
 have s1:=sbw_le a b k
 have s2:=sbw_le a b (k+1)
 rw[e,e,e]at h1
 unfold bit2
 generalize(a-b)/2^k=s at*
 generalize a/2^k=p at*
 generalize b/2^k=q at*
 omega
theorem sbw_zero (a b:Nat):sbw a b 0=0:=by simp[sbw,Nat.mod_one]
end Go.Rb
namespace Go.Proofs
open Go.RowKit Go.Pf Go.Rb
theorem Tryz.infoInt:(Tryz.prog.info? 3).map (fun i=>(i.zero,i.size,i.bytes))=some (some (.int .i64 0),1,8):=by kernel_rfl
def bitCells (x m:Nat):List Value:=(List.range m).map fun j=>Value.int .i64 (bit2 x j:Nat)
theorem bitCells_length (x m:Nat):(bitCells x m).length=m:=by simp[bitCells]
theorem bitCells_get (x m j:Nat) (h:j<m):(bitCells x m)[j]? =some (.int .i64 (bit2 x j:Nat)):=by simp[bitCells,h]
theorem bitCells_succ (x m c:Nat) (h:bit2 x m=c):bitCells x (m+1)=bitCells x m++ [.int .i64 (c:Nat)]:=by
 unfold bitCells
 rw[List.range_succ,List.map_append,←h]
 rfl
theorem BtV.of_own {w:World} {b:Nat} {v:Value} {x m:Nat}(h:w.ownsRow b 3 1 v m (bitCells x m)) (hx:x<2^m):BtV w v x m:=by
 rcases h.2 with⟨rfl,rfl⟩|⟨g,cap,cur,rfl,_,hg,hnc,hcm,hcs,htake⟩
 ·refine .inl ⟨rfl,by simpa using hx,rfl⟩
 ·refine .inr ⟨g,0,cap,rfl,hnc,hcm,(Array.getElem?_eq_some_iff.1 hg).1,hx,fun j hj=> ?_⟩
  have h1:=World.ownsRow.cellAt h j (by omega)
  rw[Nat.zero_add,h1,bitCells_get x m j hj]
theorem own_slice3 {w:World} {b:Nat} {v:Value} {n:Nat} {xs:List Value}(h:w.ownsRow b 3 1 v n xs):∃a c,v= .slice a n c:=by
 rcases h.2 with⟨rfl,rfl⟩|⟨g,cap,cur,rfl,_⟩
 ·exact⟨_,_,rfl⟩
 ·exact⟨_,_,rfl⟩
structure OB (B1:Nat) (W1:World) (x k:Nat) (v:Value) (wr:World):Prop where
 own:wr.ownsRow B1 3 1 v k (bitCells x k)
 bel:Below B1 W1 wr
 le:B1≤wr.heap.size
theorem OB.next {B1:Nat} {W1:World} {x k c:Nat} {v v':Value} {wr w2:World} {ob:Obj}(h:OB B1 W1 x k v wr) (hc:bit2 x k=c) (hown:w2.ownsRow B1 3 1 v' (k+1) (bitCells x k++ [.int .i64 (c:Nat)])) (hg:(wr.alloc ob).grownBy w2 v.ownBlock):OB B1 W1 x (k+1) v' w2:=by
 have hb:=(h.bel.alloc h.le ob).grown hg (by have:=h.le;simp;omega) (fun b hb=>by have:=(h.own.lt b hb).1;omega)
 refine⟨by rw[bitCells_succ x k c hc];exact hown,hb,?_⟩
 have:=hg.size
 have:=h.le
 simp at*
 omega
def RowSays (x:Nat) (w:World) (e:Ending) (w':World):Prop:=∃(sl:Value) (m:Nat),e= .returned sl∧T2 x m∧BtV w' sl x m∧Below w.heap.size w w'
theorem Tryz.radd (va vb:Value) (a b la lb:Nat) (w:World) (ha:Hid (BtV w va a la)) (hb:Hid (BtV w vb b lb)) (hla:la≤1000000000) (hlb:lb≤1000000000):
 Calls Tryz.prog 150 #[va,vb] w (RowSays (a+b) w):=by
 obtain⟨aa,ac,rfl⟩:=ha.out.slice
 obtain⟨ba,bc,rfl⟩:=hb.out.slice
 obtain⟨i0,hi,hz0,hz1,hz2⟩:=info_parts Tryz.infoInt
 obtain⟨M,hM⟩:∃M,M=max la lb:=⟨_,rfl⟩
 go_enter Tryz.func150,Tryz.ntmps150
 go_wp2
 go_loopw [5,6,7] (fun out cr iv wr=>∃k:Nat,k≤M+1∧iv= .int .i64 k∧cr= .int .i64 (addc a b k)∧OB w.heap.size w (a+b) k out wr∧(k=M+1→addc a b k=0)) (fun _ _ iv _=>M+1-(intOf iv).toNat)
 case atStart=>exact⟨0,by omega,rfl,by rw[addc_zero];rfl,⟨World.ownsRow_nil _ _ _ _,Below.refl _ _,nR _⟩,fun h=>by omega⟩
 case round=>
  obtain⟨k,hk,rfl,rfl,hob,hend⟩:=hrel
  obtain⟨oa,oc,ho⟩:=own_slice3 hob.own
  subst ho
  have hlt:=addc_lt a b k
  obtain⟨c,hc⟩:∃c,c=addc a b k:=⟨_,rfl⟩
  obtain⟨p,hp⟩:∃c,c=bit2 a k:=⟨_,rfl⟩
  obtain⟨q,hq⟩:∃c,c=bit2 b k:=⟨_,rfl⟩
  have hp2:=bit2_lt a k
  have hq2:=bit2_lt b k
  obtain⟨t,ht⟩:∃t,t=p+q+c:=⟨_,rfl⟩
  obtain⟨n1,n2⟩:=add_bit a b k
  rw[←hc,←hp,←hq,←ht]at n1 n2
  rw[←hc]at hlt hend⊢
  rw[←hp]at hp2
  rw[←hq]at hq2
  obtain⟨t1,ht1⟩:∃t1,t1=t %2:=⟨_,rfl⟩
  obtain⟨t2,ht2⟩:∃t2,t2=t/2:=⟨_,rfl⟩
  have a1:=Hi (ha.out.below (w':=wr) hob.bel)
  have b1:=Hi (hb.out.below (w':=wr) hob.bel)
  have CA:Hid (Calls Tryz.prog 201 #[.slice aa la ac,.int .i64 k] wr fun e w'=>e= .returned (.int .i64 p)∧wr=w'):=Hi (by rw[hp];exact Tryz.rbit _ a la k wr a1)
  have CB:Hid (Calls Tryz.prog 201 #[.slice ba lb bc,.int .i64 k] wr fun e w'=>e= .returned (.int .i64 q)∧wr=w'):=Hi (by rw[hq];exact Tryz.rbit _ b lb k wr b1)
  have e1:(p:Int)+(q:Int)+(c:Int)=(t:Int):=by omega
  have e2:(t:Int) %2=(t1:Int):=by omega
  have e3:(t:Int)/2=(t2:Int):=by omega
  have HB1:Hid (bit2 (a+b) k=t1):=Hi (by rw[←n1,ht1])
  have HB2:Hid (addc a b (k+1)=t2):=Hi (by rw[←n2,ht2])
  have pb:(p:Int)≤1:=by omega
  have qb:(q:Int)≤1:=by omega
  have cb:(c:Int)≤1:=by omega
  have tb:(t:Int)≤3:=by omega
  have HOB:=Hi hob
  have HC:=Hi hc
  have HEND:=Hi hend
  have hown:=hob.own
  have hsz:=hob.le
  by_cases hgo:k<la∨k<lb∨0<c
  ·have kM:k≤M:=by
    rcases hgo with h|h|h
    ·omega
    ·omega
    ·rcases Nat.lt_or_ge M k with h4|h4
     ·have:=HEND.out (by omega);omega
     ·exact h4
   have hE:Hid (k+1=M+1→t2=0):=Hi (fun h=>by
    have pz:p=0:=by rw[hp];exact bit2_beyond ha.out.lt (by omega)
    have qz:q=0:=by rw[hq];exact bit2_beyond hb.out.lt (by omega)
    omega)
   have guard:(decide (k<la)=true)∨(decide (k<la)=false∧decide (k<lb)=true)∨(decide (k<la)=false∧decide (k<lb)=false∧decide (0<c)=true):=by
    by_cases h1:k<la
    ·exact .inl (decide_eq_true (by omega))
    ·by_cases h2:k<lb
     ·exact .inr (.inl ⟨decide_eq_false (by omega),decide_eq_true (by omega)⟩)
     ·exact .inr (.inr ⟨decide_eq_false (by omega),decide_eq_false (by omega),decide_eq_true (by omega)⟩)
   clear hgo hc hp hq ht n1 n2 ht1 ht2 hend hob hlt hp2 hq2
   rcases guard with g1|⟨g1,g2⟩|⟨g1,g2,g3⟩
   all_goals
    go_wp2_with (first|(go_at_call 201;(first|(with_reducible refine CA.out.mono ?_)|(with_reducible refine CB.out.mono ?_));rintro e w' ⟨rfl,rfl⟩)|(at_builtin;refine wpList_append_own _ rfl _ _ 63 rfl w.heap.size 3 i0 (.int .i64 0) 1 8 Tryz.underlying63 hi hz0 hz1 hz2 rfl (by decide) _ _ _ rfl (hown.alloc _) ⟨wr.heap.size,0,none⟩ 1 1 [.int .i64 (t1:Nat)] rfl rfl ?c1 ?c2 ?c3 ?c4 ?c5 ?_))
    case c1=>
     intro j u hj
     match j,hj with
     |0,hj=>simp at hj;subst hj;simp[Addr.add]
    case c2=>intro u hu;simp at hu;subst hu;rfl
    case c3=>unfold maxLen;omega
    case c4=>omega
    case c5=>simp;omega
    intro v' w2 hown' hgrow _
    have HN:=Hi (HOB.out.next HB1.out hown' hgrow)
    clear hown' hgrow
    go_wp2
    go_roundw
    case rel=>exact⟨k+1,by omega,by go_num,by rw[HB2.out],HN.out,fun h=>by rw[HB2.out];exact hE.out h⟩
    case measure=>simp[intOf];omega
  ·have g1:decide (k<la)=false:=dFo
   have g2:decide (k<lb)=false:=dFo
   have g3:decide (0<c)=false:=dFo
   have hfin:a+b<2^k:=by
    have h1:=add_div a b k
    rw[Nat.div_eq_of_lt (Nat.lt_of_lt_of_le ha.out.lt (Nat.pow_le_pow_right (by decide) (by omega))),Nat.div_eq_of_lt (Nat.lt_of_lt_of_le hb.out.lt (Nat.pow_le_pow_right (by decide) (by omega))),←HC.out]at h1
    have h2:(a+b)/2^k=0:=by omega
    exact(Nat.div_eq_zero_iff_lt (Nat.two_pow_pos k)).1 h2
   have HV:=Hi (BtV.of_own hown hfin)
   have HBL:=Hi hob.bel
   have HFIN:=Hi hfin
   clear hgo hc hp hq ht n1 n2 ht1 ht2 hend hob hlt hp2 hq2 hown hfin HOB
   go_wp2_with (go_at_call 57;(with_reducible refine(Tryz.rcut _ (a+b) k _ HV.out).mono ?_);rintro e w' ⟨m',ht,rfl,rfl⟩)
   go_ret
   exact⟨_,m',rfl,ht,HV.out.cut (T2.le ht HFIN.out (nR _)) ht.1,HBL.out⟩
end Go.Proofs
end
section
namespace Go.Proofs
open Go.RowKit Go.Pf Go.Rb
theorem OB.drewN {B1:Nat} {W1:World} {x k:Nat} {v:Value} {wr:World}(h:OB B1 W1 x k v wr) (n:Nat):OB B1 W1 x k v (wr.drewN n):=⟨h.own,h.bel.trans ⟨rfl,rfl,rfl,nR _,fun _ _=>rfl⟩,h.le⟩
theorem Tryz.rbit' (v:Value) (x m i:Nat) (w:World) (hv:Hid (BtV w v x m)):Calls Tryz.prog 201 #[v,.int .i64 i] w fun e w'=>e= .returned (.int .i64 (bit2 x i))∧w'=w:=
 (Tryz.rbit v x m i w hv).mono fun _ _ ⟨h1,h2⟩=>⟨h1,h2.symm⟩
theorem BtV.cellAt {w:World} {a:Option Addr} {c x m:Nat}(h:BtV w (.slice a m c) x m){j:Nat}(hj:j<m):∃b o,a=some ⟨b,o,none⟩∧w.cell? ⟨b,o+j,none⟩=some (.int .i64 (bit2 x j)):=by
 rcases h with⟨_,_,h3⟩|⟨b,o,c',h1,h2,h3,h4,h5⟩
 ·omega
 ·simp only[Value.slice.injEq]at h1
  exact⟨b,o,h1.1,h5.2 j hj⟩
theorem Tryz.rsub (va vb:Value) (a b la lb:Nat) (w:World) (ha:Hid (BtV w va a la)) (hb:Hid (BtV w vb b lb)) (hle:b≤a) (hla:la≤1000000000):
 Calls Tryz.prog 152 #[va,vb] w (RowSays (a-b) w):=by
 obtain⟨aa,ac,rfl⟩:=ha.out.slice
 obtain⟨ba,bc,rfl⟩:=hb.out.slice
 obtain⟨i0,hi,hz0,hz1,hz2⟩:=info_parts Tryz.infoInt
 have HLE:=Hi hle
 clear hle
 go_enter Tryz.func152,Tryz.ntmps152
 go_wp2
 go_loopw [5,6,7] (fun out cr iv wr=>∃k:Nat,k≤la∧iv= .int .i64 k∧cr= .int .i64 (sbw a b k)∧OB w.heap.size w (a-b) k out wr) (fun _ _ iv _=>la-(intOf iv).toNat)
 case atStart=>exact⟨0,by omega,rfl,by rw[sbw_zero];rfl,⟨World.ownsRow_nil _ _ _ _,Below.refl _ _,nR _⟩⟩
 case round=>
  obtain⟨k,hk,rfl,rfl,hob⟩:=hrel
  obtain⟨oa,oc,ho⟩:=own_slice3 hob.own
  subst ho
  by_cases hlt:k<la
  ·have a1:=ha.out.below (w':=wr) hob.bel
   obtain⟨g,o,rfl,hcell⟩:=a1.cellAt hlt
   obtain⟨c,hc⟩:∃c,c=sbw a b k:=⟨_,rfl⟩
   obtain⟨c2,hc2⟩:∃c,c=sbw a b (k+1):=⟨_,rfl⟩
   obtain⟨p,hp⟩:∃c,c=bit2 a k:=⟨_,rfl⟩
   obtain⟨q,hq⟩:∃c,c=bit2 b k:=⟨_,rfl⟩
   obtain⟨t1,ht1⟩:∃c,c=bit2 (a-b) k:=⟨_,rfl⟩
   have hp2:=bit2_lt a k
   have hq2:=bit2_lt b k
   have hs1:=sbw_le a b k
   have sb:=sub_bit HLE.out k
   rw[←hp]at hcell hp2 sb
   rw[←hq]at hq2 sb
   rw[←hc]at hs1 sb⊢
   rw[←hc2,←ht1]at sb
   have b1:=Hi (hb.out.below (w':=wr) hob.bel)
   have CB:Hid (∀n,Calls Tryz.prog 201 #[.slice ba lb bc,.int .i64 k] (wr.drewN n) fun e w'=>e= .returned (.int .i64 q)∧w'=wr.drewN n):=Hi (fun n=>by rw[hq];exact Tryz.rbit' _ b lb k (wr.drewN n) b1)
   have HB1:Hid (bit2 (a-b) k=t1):=Hi ht1.symm
   have HB2:Hid (sbw a b (k+1)=c2):=Hi hc2.symm
   have pb:(p:Int)≤1:=by omega
   have qb:(q:Int)≤1:=by omega
   have cb:(c:Int)≤1:=by omega
   have HOB:=Hi hob
   have hown:=hob.own
   have hsz:=hob.le
   have ki:(k:Int)<la:=by omega
   rcases sb with⟨s1,s2,s3⟩|⟨s1,s2,s3⟩
   ·have d0:decide ((p:Int)-q-c<0)=false:=dFo
    have d1:(p:Int)-q-c=t1:=by omega
    have d2:decide ((t1:Int)<0)=false:=dFo
    have E2:Hid (c2=0):=Hi s3
    clear hc hc2 hp hq ht1 hp2 hq2 hs1 s1 s2 s3 hob a1
    go_wp2
    go_quiet ((go_at_call 201;exact Calls.quiet_of_same (CB.out _)))
    go_wp2_with (at_builtin;refine wpList_append_own _ rfl _ _ 63 rfl w.heap.size 3 i0 (.int .i64 0) 1 8 Tryz.underlying63 hi hz0 hz1 hz2 rfl (by decide) _ _ _ rfl (((HOB.out.drewN nq).own).alloc _) ⟨(wr.drewN nq).heap.size,0,none⟩ 1 1 [.int .i64 (t1:Nat)] rfl rfl ?c1 ?c2 ?c3 ?c4 ?c5 ?_)
    case c1=>
     intro j u hj
     match j,hj with
     |0,hj=>simp at hj;subst hj;exact World.cell?_alloc_new (wr.drewN nq) _ _ 0
    case c2=>intro u hu;simp at hu;subst hu;rfl
    case c3=>unfold maxLen;omega
    case c4=>omega
    case c5=>simp;omega
    intro v' w2 hown' hgrow _
    have HN:=Hi ((HOB.out.drewN nq).next HB1.out hown' hgrow)
    clear hown' hgrow
    go_wp2
    go_roundw
    case rel=>exact⟨k+1,by omega,by go_num,by rw[HB2.out,E2.out];rfl,HN.out⟩
    case measure=>simp[intOf];omega
   ·have d1:(p:Int)-q-c=(t1:Int)-2:=by omega
    have d2:decide ((t1:Int)-2<0)=true:=dTo
    have d3:(t1:Int)-2+2=t1:=by omega
    have E2:Hid (c2=1):=Hi s3
    have t1b:(t1:Int)≤1:=by omega
    clear hc hc2 hp hq ht1 hp2 hq2 hs1 s1 s2 s3 hob a1
    go_wp2
    go_quiet ((go_at_call 201;exact Calls.quiet_of_same (CB.out _)))
    go_wp2_with (at_builtin;refine wpList_append_own _ rfl _ _ 63 rfl w.heap.size 3 i0 (.int .i64 0) 1 8 Tryz.underlying63 hi hz0 hz1 hz2 rfl (by decide) _ _ _ rfl (((HOB.out.drewN nq).own).alloc _) ⟨(wr.drewN nq).heap.size,0,none⟩ 1 1 [.int .i64 (t1:Nat)] rfl rfl ?c1 ?c2 ?c3 ?c4 ?c5 ?_)
    case c1=>
     intro j u hj
     match j,hj with
     |0,hj=>simp at hj;subst hj;exact World.cell?_alloc_new (wr.drewN nq) _ _ 0
    case c2=>intro u hu;simp at hu;subst hu;rfl
    case c3=>unfold maxLen;omega
    case c4=>omega
    case c5=>simp;omega
    intro v' w2 hown' hgrow _
    have HN:=Hi ((HOB.out.drewN nq).next HB1.out hown' hgrow)
    clear hown' hgrow
    go_wp2
    go_roundw
    case rel=>exact⟨k+1,by omega,by go_num,by rw[HB2.out,E2.out];rfl,HN.out⟩
    case measure=>simp[intOf];omega
  ·obtain rfl:k=la:=by omega
   have hfin:a-b<2^k:=Nat.lt_of_le_of_lt (Nat.sub_le _ _) ha.out.lt
   have HV:=Hi (BtV.of_own hob.own hfin)
   have HBL:=Hi hob.bel
   have HFIN:=Hi hfin
   clear hob hfin
   go_wp2_with (go_at_call 57;(with_reducible refine(Tryz.rcut _ (a-b) k _ HV.out).mono ?_);rintro e w' ⟨m',ht,rfl,rfl⟩)
   go_ret
   exact⟨_,m',rfl,ht,HV.out.cut (T2.le ht HFIN.out (nR _)) ht.1,HBL.out⟩
end Go.Proofs
end
section
namespace Go.Rb
theorem T2.lt_of_lt {a b m k:Nat}(ha:T2 a m) (hb:T2 b k) (h:m<k):a<b:=by
 have h1:=ha.1
 rcases hb.2 with h2|h2
 ·omega
 ·have:=Nat.pow_le_pow_right (n:=2) (by decide) (show m≤k-1 by omega)
  omega
theorem top_step {a b k:Nat}(h:a/2^(k+1)=b/2^(k+1)):(bit2 a k=bit2 b k→a/2^k=b/2^k)∧(bit2 a k<bit2 b k→a<b)∧(bit2 b k<bit2 a k→b<a):=by
 have e:∀x:Nat,x/2^(k+1)=x/2^k/2:=fun x=>by rw[Nat.pow_succ,Nat.div_div_eq_div_mul]
 rw[e,e]at h
 have key:∀x y:Nat,x/2^k<y/2^k→x<y:=fun x y hh=>by
  rcases Nat.lt_or_ge x y with h1|h1
  ·exact h1
  ·have:=Nat.div_le_div_right (c:=2^k) h1
   omega
 unfold bit2
 refine⟨fun h1=> ?_,fun h1=>key _ _ ?_,fun h1=>key _ _ ?_⟩
 all_goals
  generalize a/2^k=p at*
  generalize b/2^k=q at*
  omega
end Go.Rb
namespace Go.Proofs
open Go.RowKit Go.Pf Go.Rb
theorem drewN_three (w:World) (n k j:Nat):∃m,((w.drewN n).drewN k).drewN j=w.drewN m:=⟨n+k+j,by simp[Nat.add_assoc]⟩
theorem Tryz.rless (va vb:Value) (a b la lb:Nat) (w:World) (ha:Hid (BtV w va a la)) (hb:Hid (BtV w vb b lb)) (ta:T2 a la) (tb:T2 b lb) (hla:la≤1000000000):
 Calls Tryz.prog 151 #[va,vb] w fun e w'=>e= .returned (.bool (decide (a<b)))∧∃n,w'=w.drewN n:=by
 obtain⟨aa,ac,rfl⟩:=ha.out.slice
 obtain⟨ba,bc,rfl⟩:=hb.out.slice
 obtain⟨R,hR⟩:∃R,R=decide (a<b):=⟨_,rfl⟩
 rw[←hR]
 have HR:=Hi hR
 clear hR
 by_cases hl:la=lb
 ·subst hl
  have hfin:Hid (a/2^la=b/2^la):=Hi (by rw[Nat.div_eq_of_lt ta.1,Nat.div_eq_of_lt tb.1])
  have lz:((la:Int)==(la:Int))=true:=beq_self_eq_true _
  clear ta tb
  go_enter Tryz.func151,Tryz.ntmps151
  go_wp2
  go_loopw [5] (fun iv wr=>∃(k n:Nat),k≤la∧iv= .int .i64 ((k:Int)-1)∧a/2^k=b/2^k∧wr=w.drewN n) (fun iv _=>(intOf iv+1).toNat)
  case atStart=>exact⟨la,0,nR _,rfl,hfin.out,rfl⟩
  case round=>
   obtain⟨k,n,hk,rfl,heq,rfl⟩:=hrel
   cases k with
   |zero=>
    have hab:decide (a<b)=false:=by
     rw[Nat.pow_zero,Nat.div_one,Nat.div_one]at heq
     exact decide_eq_false (by omega)
    have HAB:=Hi hab
    clear heq hab
    go_wp2
    go_ret
    exact⟨by rw[HR.out,HAB.out];rfl,n,rfl⟩
   |succ k=>
    have hlt:k<la:=by omega
    obtain⟨g,o,ga,hc1⟩:=ha.out.cellAt hlt
    obtain⟨g2,o2,gb,hc2⟩:=hb.out.cellAt hlt
    have ts:=top_step heq
    obtain⟨p,hp⟩:∃c,c=bit2 a k:=⟨_,rfl⟩
    obtain⟨q,hq⟩:∃c,c=bit2 b k:=⟨_,rfl⟩
    rw[←hp]at hc1 ts
    rw[←hq]at hc2 ts
    have hd1:(w.drewN n).cell? ⟨g,o+k,none⟩=some (.int .i64 p):=hc1
    have hd2:(w.drewN n).cell? ⟨g2,o2+k,none⟩=some (.int .i64 q):=hc2
    have ki:(k:Int)<la:=by omega
    have k1:((k+1:Nat):Int)-1=k:=by omega
    rw[k1]
    have k0:decide ((0:Int)≤(k:Int))=true:=dTo
    have TS:=Hi ts
    clear hp hq ts heq
    subst ga gb
    by_cases hpq:p=q
    ·have ne:((p:Int)==q)=true:=by rw[hpq];exact beq_self_eq_true _
     have nb:((p:Int) !=q)=false:=by rw[bne,ne];rfl
     have HE:=Hi (TS.out.1 hpq)
     clear hpq
     go_wp2
     go_quiet (fail)
     go_wp2
     go_roundw
     case rel=>exact⟨k,n+nq,by omega,rfl,HE.out,by first|rfl|rw[World.drewN_drewN]⟩
     case measure=>simp[intOf]
    ·have ne:((p:Int)==q)=false:=by rw[Bool.eq_false_iff];intro h;have:=eq_of_beq h;omega
     have nb:((p:Int) !=q)=true:=by rw[bne,ne];rfl
     have hab:decide ((p:Int)<q)=decide (a<b):=by
      rcases Nat.lt_or_gt_of_ne hpq with h|h
      ·rw[decide_eq_true (TS.out.2.1 h),decide_eq_true (by omega)]
      ·have:=TS.out.2.2 h
       rw[decide_eq_false (by omega),decide_eq_false (by omega)]
     have HAB:=Hi hab
     clear hpq hab
     go_wp2
     go_quiet (fail)
     go_wp2
     go_quiet (fail)
     go_wp2
     go_ret
     refine⟨by rw[HR.out,←HAB.out];first|rfl|simp,drewN_three _ _ _ _⟩
 ·have lz:((la:Int)==(lb:Int))=false:=by rw[Bool.eq_false_iff];intro h;have:=eq_of_beq h;omega
  have hab:decide (la<lb)=decide (a<b):=by
   rcases Nat.lt_or_gt_of_ne hl with h|h
   ·rw[decide_eq_true h,decide_eq_true (ta.lt_of_lt tb h)]
   ·have:=tb.lt_of_lt ta h
    rw[decide_eq_false (by omega),decide_eq_false (by omega)]
  have HAB:=Hi hab
  clear hl hab
  go_enter Tryz.func151,Tryz.ntmps151
  go_wp2
  go_ret
  exact⟨by rw[HR.out,←HAB.out];first|done|rfl,0,rfl⟩
theorem BtV.setCell {w:World} {v:Value} {x m:Nat}(h:BtV w v x m){a:Addr} {u0:Value}(h0:w.cell? a=some u0) (hne:∀k n,u0≠ .int k n) (u:Value):BtV (w.setCell a u) v x m:=by
 rcases h with h|⟨b,o,c,rfl,h2,h3,h4,h5,h6⟩
 ·exact .inl h
 ·refine .inr ⟨b,o,c,rfl,h2,h3,by simpa[World.setCell]using h4,h5,fun j hj=> ?_⟩
  have h7:=h6 j hj
  rw[World.cell?_setCell_other,h7]
  rintro rfl
  rw[h0]at h7
  exact hne _ _ (Option.some.inj h7)
structure Tok (w:World) (b:Nat):Prop where
 h:w.heap[b]? =some (.cells #[.bool false,.slice none 0 0] 65 (0,0))
theorem Tok.below {w w':World} {b:Nat}(h:Tok w b) (hb:Below w.heap.size w w'):Tok w' b:=⟨(hb.block b (Array.getElem?_eq_some_iff.1 h.h).1).trans h.h⟩
theorem Tok.c0 {w:World} {b:Nat}(h:Tok w b):w.cell? ⟨b,0,none⟩=some (.bool false):=by rw[Lib.cell_of_heap h.h];rfl
theorem Tok.c1 {w:World} {b:Nat}(h:Tok w b):w.cell? ⟨b,1,none⟩=some (.slice none 0 0):=by rw[Lib.cell_of_heap h.h];rfl
theorem Tok.f {w:World} {b:Nat}(h:Tok w b) (i:Nat):w.frozen? ⟨b,i,none⟩=false:=Lib.frozen_of_heap h.h i
theorem Tok.lt {w:World} {b:Nat}(h:Tok w b):b<w.heap.size:=(Array.getElem?_eq_some_iff.1 h.h).1
theorem Tok.new1 (w:World):Tok (w.alloc (.cells #[.bool false,.slice none 0 0] 65)) w.heap.size:=⟨heap_alloc_new w _⟩
theorem Tok.new2 (w:World) (o:Obj):Tok ((w.alloc o).alloc (.cells #[.bool false,.slice none 0 0] 65)) (w.heap.size+1):=by
 have h:=Tok.new1 (w.alloc o)
 rwa [show(w.alloc o).heap.size=w.heap.size+1 by simp]at h
theorem Tok.new3 (w:World) (o o2:Obj):Tok (((w.alloc o).alloc o2).alloc (.cells #[.bool false,.slice none 0 0] 65)) (w.heap.size+2):=by
 have h:=Tok.new2 (w.alloc o) o2
 rwa [show(w.alloc o).heap.size+1=w.heap.size+2 by simp]at h
theorem BtV.tok {w:World} {v:Value} {x m b:Nat}(h:BtV w v x m) (t:Tok w b) (u0 u1:Value):BtV ((w.setCell ⟨b,0,none⟩ u0).setCell ⟨b,1,none⟩ u1) v x m:=by
 refine(h.setCell t.c0 (by intro k n h;cases h) u0).setCell (a:=⟨b,1,none⟩) (u0:= .slice none 0 0) ?_ (by intro k n h;cases h) u1
 rw[World.cell?_setCell_other (h:=fun e=>by simp at e)]
 exact t.c1
theorem Tryz.rminus (neg:Bool) (v:Value) (x m:Nat) (w:World) (hv:Hid (BtV w v x m)):Calls Tryz.prog 102 #[.agg #[.bool neg,v]] w (BigSays (!neg) x w):=by
 go_enter Tryz.func102,Tryz.ntmps102
 go_wp2_with fail
 generalize hW:(w.alloc _).alloc _=W1
 have bl:Below w.heap.size w W1:=by subst hW;exact((Below.refl _ _).alloc (nR _) _).alloc (by simp) _
 have c0:W1.cell? ⟨w.heap.size,0,none⟩=some (.bool neg):=by subst hW;go_simp
 have c1:W1.cell? ⟨w.heap.size,1,none⟩=some v:=by subst hW;go_simp
 have tk:Tok W1 (w.heap.size+1):=by subst hW;exact Tok.new2 w _
 have hv1:=Hi (hv.out.below bl)
 clear hW
 go_wp2_with (go_at_call 58;(with_reducible refine(Tryz.rlaid (!neg) v x m _ hv1).mono ?_))
 rintro e W2 ⟨sl,m',rfl,ht,hv2,b2⟩
 obtain⟨a,c,rfl⟩:=hv2.slice
 have t2:=tk.below b2
 have x0:=t2.c0
 have x1:=t2.c1
 have y0:=t2.f 0
 have y1:=t2.f 1
 have HV:=Hi (hv2.tok t2 (.bool (!neg&&decide (0<x))) (.slice a m' c))
 have BL:=Hi (bl.trans (b2.mono bl.size))
 clear hv2 b2 tk t2 c0 c1 bl
 obtain⟨B,hB⟩:∃B,B=(!neg&&decide (0<x)):=⟨_,rfl⟩
 rw[←hB]at HV⊢
 have HB:=Hi hB
 clear hB
 go_wp2
 refine bodyPost_ret (v:= .agg #[.bool B,.slice a m' c]) ?_ rfl ⟨_,m',by rw[HB.out],ht,HV.out,?_⟩
 ·simp only[results,Tryz.results102]
  go_simp
 ·iterate 2 refine Below.setCell ?_ (by simp) _
  exact BL.out
end Go.Proofs
end
