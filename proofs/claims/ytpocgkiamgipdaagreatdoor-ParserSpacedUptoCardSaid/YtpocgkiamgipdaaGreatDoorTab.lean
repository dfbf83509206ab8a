import Derived.Below
import Derived.Shelf.Small.Utf8
import Derived.Shelf.Small.Bits
import Derived.Shelf.Small.Strs
import Derived.Shelf.Unicode.Decode
import Derived.Shelf.Bits.Mul64
import Derived.Test.YtpocgkiamgipdaaGreatDoorProg
import Derived.Test.YtpocgkiamgipdaaGreatDoorChecked
import Derived.WalkKit
import Derived.BigCall
import Derived.BigQuiet
import Derived.LoopTactic
import Derived.Lib.Hide
import Derived.Outline
import Derived.OwnWalk
import Derived.RegionTactic
import Derived.ChangeAlike
import Derived.StillTailTactics
import Derived.Deep.QuietTactic
import Derived.Deep.RegionWith
import Derived.Deep.DeepCutAuto
import Derived.WalkMore
set_option maxRecDepth 1000000
set_option maxHeartbeats 0
open Go.Proofs.Tryz
namespace Go
theorem RowKit.Hid.o{p:Prop}(h:RowKit.Hid p):p:=h.out
abbrev zV:Array Value:=#[.int .i64 0,.string ⟨#[]⟩,.string ⟨#[]⟩,.int .u64 0,.int .i64 0,.slice none 0 0]
abbrev zW:Array Value:=#[.int .i64 0,.string ⟨#[]⟩,.string ⟨#[]⟩,.int .u64 0,.int .i64 0,.int .i64 0,.bool false]
theorem Hi {p:Prop}(h:p):RowKit.Hid p:=Lib.hid h
theorem Dq {p:Prop} [Decidable p] (h:p:=by omega):decide p=true:=decide_eq_true h
theorem Ej {p:Prop} [Decidable p] (h:¬p:=by omega):decide p=false:=decide_eq_false h
theorem lK:type_of% @Go.Lib.hid:=@Go.Lib.hid
theorem lL:type_of% @if_neg:=@if_neg
theorem lM:type_of% @Nat.le_refl:=@Nat.le_refl
theorem Bzz{w:World}(o:Obj):RowKit.Below w.heap.size w (w.alloc o):=(RowKit.Below.refl _ _).alloc (lM _) o
theorem lN:type_of% @Array.getElem?_eq_some_iff:=@Array.getElem?_eq_some_iff
theorem lO:type_of% @decide_eq_false:=@decide_eq_false
theorem lQ:type_of% @if_pos:=@if_pos
theorem lR:type_of% @Nat.lt_of_lt_of_le:=@Nat.lt_of_lt_of_le
theorem lS:type_of% @Go.bodyPost_ret:=@Go.bodyPost_ret
theorem lT:type_of% @Go.heap_alloc_new:=@Go.heap_alloc_new
theorem lU:type_of% @decide_eq_true:=@decide_eq_true
theorem lV:type_of% @Nat.mul_le_mul_right:=@Nat.mul_le_mul_right
theorem lW:type_of% @Nat.pow_add:=@Nat.pow_add
theorem lX:type_of% @Nat.pow_le_pow_right:=@Nat.pow_le_pow_right
theorem lY:type_of% @beq_eq_false_iff_ne:=@beq_eq_false_iff_ne
theorem lZ:type_of% @List.getD_eq_getElem?_getD:=@List.getD_eq_getElem?_getD
theorem lg:type_of% @Nat.le_trans:=@Nat.le_trans
theorem lh:type_of% @of_decide_eq_true:=@of_decide_eq_true
theorem lj:type_of% @Nat.two_pow_pos:=@Nat.two_pow_pos
theorem ls:type_of% @Nat.lt_or_ge:=@Nat.lt_or_ge
theorem lu:type_of% @List.getElem?_eq_getElem:=@List.getElem?_eq_getElem
theorem l5:type_of% @Nat.mul_assoc:=@Nat.mul_assoc
theorem l6:type_of% @List.length_append:=@List.length_append
theorem l8:type_of% @ByteArray.size_extract:=@ByteArray.size_extract
theorem l9:type_of% @Nat.pow_succ:=@Nat.pow_succ
theorem mA:type_of% @Nat.mul_lt_mul_of_pos_right:=@Nat.mul_lt_mul_of_pos_right
theorem mB:type_of% @Int.toNat_natCast:=@Int.toNat_natCast
theorem mC:type_of% @List.getElem?_eq_some_iff:=@List.getElem?_eq_some_iff
theorem mD:type_of% @Option.some.injEq:=@Option.some.injEq
theorem mE:type_of% @Go.Proofs.Tryz.underlying31:=@Go.Proofs.Tryz.underlying31
theorem mF:type_of% @Go.setRow_heap:=@Go.setRow_heap
theorem mG:type_of% @Nat.lt_of_le_of_lt:=@Nat.lt_of_le_of_lt
theorem mH:type_of% @Go.setRow_other:=@Go.setRow_other
theorem mI:type_of% @Nat.add_mul:=@Nat.add_mul
theorem mJ:type_of% @Bool.and_eq_true:=@Bool.and_eq_true
theorem mK:type_of% @Nat.zero_le:=@Nat.zero_le
theorem mL:type_of% @decide_eq_true_eq:=@decide_eq_true_eq
theorem mM:type_of% @Classical.byContradiction:=@Classical.byContradiction
theorem mN:type_of% @decide_eq_false_iff_not:=@decide_eq_false_iff_not
theorem mO:type_of% @Nat.le_succ:=@Nat.le_succ
theorem mP:type_of% @List.mem_of_getElem?:=@List.mem_of_getElem?
theorem mQ:type_of% @congrArg:=@congrArg
theorem mR:type_of% @Nat.mul_comm:=@Nat.mul_comm
theorem mS:type_of% @Go.Proofs.Tryz.underlying9:=@Go.Proofs.Tryz.underlying9
theorem mT:type_of% @Go.cell_of_row:=@Go.cell_of_row
theorem mU:type_of% @Nat.mul_le_mul_left:=@Nat.mul_le_mul_left
theorem mV:type_of% @Array.getElem?_toList:=@Array.getElem?_toList
theorem mW:type_of% @Nat.le_of_lt:=@Nat.le_of_lt
theorem mX:type_of% @Go.Value.slice.injEq:=@Go.Value.slice.injEq
theorem mY:type_of% @Nat.div_lt_iff_lt_mul:=@Nat.div_lt_iff_lt_mul
theorem mZ:type_of% @decide_eq_decide:=@decide_eq_decide
theorem mc:type_of% @Nat.lt_of_mul_lt_mul_right:=@Nat.lt_of_mul_lt_mul_right
theorem me:type_of% @Nat.zero_add:=@Nat.zero_add
theorem mf:type_of% @Nat.div_div_eq_div_mul:=@Nat.div_div_eq_div_mul
theorem mh:type_of% @Nat.eq_zero_or_pos:=@Nat.eq_zero_or_pos
theorem mj:type_of% @List.getElem?_map:=@List.getElem?_map
theorem mq:type_of% @Go.World.ownsRow_nil:=@Go.World.ownsRow_nil
theorem mr:type_of% @List.getElem?_eq_none:=@List.getElem?_eq_none
theorem mv:type_of% @Nat.mod_eq_of_lt:=@Nat.mod_eq_of_lt
theorem mw:type_of% @Nat.mod_lt:=@Nat.mod_lt
theorem mx:type_of% @Nat.mul_pos:=@Nat.mul_pos
theorem my:type_of% @Go.Proofs.Tryz.underlying143:=@Go.Proofs.Tryz.underlying143
theorem nC:type_of% @Nat.pow_zero:=@Nat.pow_zero
theorem nD:type_of% @Bool.eq_false_iff:=@Bool.eq_false_iff
theorem nE:type_of% @Nat.one_mul:=@Nat.one_mul
theorem nF:type_of% @List.length_cons:=@List.length_cons
theorem nG:type_of% @Array.length_toList:=@Array.length_toList
theorem nH:type_of% @beq_iff_eq:=@beq_iff_eq
theorem nI:type_of% @List.drop_zero:=@List.drop_zero
theorem nJ:type_of% @Nat.div_eq_of_lt:=@Nat.div_eq_of_lt
theorem nK:type_of% @Nat.add_zero:=@Nat.add_zero
theorem nL:type_of% @List.take_succ_cons:=@List.take_succ_cons
theorem nM:type_of% @Nat.ne_of_lt:=@Nat.ne_of_lt
theorem nN:type_of% @List.length_map:=@List.length_map
theorem nO:type_of% @List.take_of_length_le:=@List.take_of_length_le
theorem nP:type_of% @Nat.pow_lt_pow_iff_right:=@Nat.pow_lt_pow_iff_right
theorem nQ:type_of% @Prod.mk.injEq:=@Prod.mk.injEq
theorem nS:type_of% @List.all_eq_true:=@List.all_eq_true
theorem nU:type_of% @Go.Proofs.Tryz.underlying3:=@Go.Proofs.Tryz.underlying3
theorem nV:type_of% @Go.Proofs.Tryz.underlying5:=@Go.Proofs.Tryz.underlying5
theorem nX:type_of% @List.getElem?_cons_zero:=@List.getElem?_cons_zero
theorem nY:type_of% @Nat.le_div_iff_mul_le:=@Nat.le_div_iff_mul_le
theorem nZ:type_of% @List.drop_succ_cons:=@List.drop_succ_cons
theorem nf:type_of% @Nat.mul_one:=@Nat.mul_one
theorem nj:type_of% @List.append_nil:=@List.append_nil
theorem nr:type_of% @Go.wp_region_still_tail:=@Go.wp_region_still_tail
theorem nt:type_of% @Go.Oper.upon_value:=@Go.Oper.upon_value
theorem nw:type_of% @Go.info_parts:=@Go.info_parts
theorem nx:type_of% @Nat.add_sub_cancel:=@Nat.add_sub_cancel
theorem ny:type_of% @List.take_zero:=@List.take_zero
theorem n7:type_of% @Nat.le_of_ble_eq_true:=@Nat.le_of_ble_eq_true
theorem n9:type_of% @bne_eq_false_iff_eq:=@bne_eq_false_iff_eq
theorem oA:type_of% @Go.wpList_append_own:=@Go.wpList_append_own
theorem oB:type_of% @Go.heap_setCell_other:=@Go.heap_setCell_other
theorem oC:type_of% @List.map_append:=@List.map_append
theorem oD:type_of% @Nat.div_add_mod:=@Nat.div_add_mod
theorem oE:type_of% @Nat.lt_succ_self:=@Nat.lt_succ_self
theorem oF:type_of% @Go.Proofs.Tryz.underlying4:=@Go.Proofs.Tryz.underlying4
theorem oG:type_of% @Go.Lib.extract_data:=@Go.Lib.extract_data
theorem oH:type_of% @Nat.zero_mul:=@Nat.zero_mul
theorem oI:type_of% @Go.Proofs.Tryz.ntmps92:=@Go.Proofs.Tryz.ntmps92
theorem oJ:type_of% @List.getElem?_toArray:=@List.getElem?_toArray
theorem oK:type_of% @List.mem_cons:=@List.mem_cons
theorem oL:type_of% @List.getElem?_append_right:=@List.getElem?_append_right
theorem oM:type_of% @Nat.le_of_mul_le_mul_right:=@Nat.le_of_mul_le_mul_right
theorem oN:type_of% @Nat.and_two_pow_sub_one_eq_mod:=@Nat.and_two_pow_sub_one_eq_mod
theorem oO:type_of% @Go.Proofs.Tryz.underlying164:=@Go.Proofs.Tryz.underlying164
theorem oP:type_of% @Int.natCast_mul:=@Int.natCast_mul
theorem oQ:type_of% @Go.World.cell?_of_block:=@Go.World.cell?_of_block
theorem oR:type_of% @Nat.mul_right_comm:=@Nat.mul_right_comm
theorem oS:type_of% @Array.getElem?_eq_none:=@Array.getElem?_eq_none
theorem oT:type_of% @Bool.not_eq_true:=@Bool.not_eq_true
theorem oU:type_of% @Go.Proofs.Tryz.func92:=@Go.Proofs.Tryz.func92
theorem oV:type_of% @Go.World.cell?_setCell_other:=@Go.World.cell?_setCell_other
theorem oW:type_of% @List.flatMap_append:=@List.flatMap_append
theorem oX:type_of% @Nat.add_assoc:=@Nat.add_assoc
theorem oY:type_of% @Go.World.frozen?_setCell:=@Go.World.frozen?_setCell
theorem oZ:type_of% @Bool.eq_iff_iff:=@Bool.eq_iff_iff
theorem od:type_of% @Go.Proofs.Tryz.zeroValue4:=@Go.Proofs.Tryz.zeroValue4
theorem oe:type_of% @Nat.pow_pos:=@Nat.pow_pos
theorem og:type_of% @List.mem_singleton:=@List.mem_singleton
theorem oh:type_of% @Nat.two_pow_add_eq_or_of_lt:=@Nat.two_pow_add_eq_or_of_lt
theorem oj:type_of% @Nat.sub_self:=@Nat.sub_self
theorem om:type_of% @Go.Proofs.Tryz.ntmps18:=@Go.Proofs.Tryz.ntmps18
theorem oo:type_of% @Nat.eq_of_mul_eq_mul_right:=@Nat.eq_of_mul_eq_mul_right
theorem oq:type_of% @Go.Proofs.Tryz.ntmps117:=@Go.Proofs.Tryz.ntmps117
theorem ot:type_of% @List.drop_eq_nil_of_le:=@List.drop_eq_nil_of_le
theorem ou:type_of% @Go.Proofs.Tryz.results74:=@Go.Proofs.Tryz.results74
theorem ox:type_of% @Nat.div_eq_zero_iff_lt:=@Nat.div_eq_zero_iff_lt
theorem oy:type_of% @Go.Proofs.Tryz.results38:=@Go.Proofs.Tryz.results38
theorem oz:type_of% @Go.beq_toListBytes:=@Go.beq_toListBytes
theorem pA:type_of% @bne_iff_ne:=@bne_iff_ne
theorem pB:type_of% @List.drop_eq_getElem_cons:=@List.drop_eq_getElem_cons
theorem pC:type_of% @Go.Proofs.Tryz.zeroValue3:=@Go.Proofs.Tryz.zeroValue3
theorem pD:type_of% @Go.Proofs.Tryz.zeroValue5:=@Go.Proofs.Tryz.zeroValue5
theorem pE:type_of% @Int.mul_le_mul_of_nonneg_right:=@Int.mul_le_mul_of_nonneg_right
theorem pF:type_of% @List.getElem?_take:=@List.getElem?_take
theorem pG:type_of% @Go.Proofs.Tryz.func117:=@Go.Proofs.Tryz.func117
theorem pH:type_of% @ByteArray.ext:=@ByteArray.ext
theorem pI:type_of% @Go.Proofs.Tryz.func18:=@Go.Proofs.Tryz.func18
theorem pJ:type_of% @List.append_assoc:=@List.append_assoc
theorem pK:type_of% @List.flatMap_cons:=@List.flatMap_cons
theorem pL:type_of% @Go.Proofs.Tryz.zeroValue164:=@Go.Proofs.Tryz.zeroValue164
theorem pM:type_of% @Nat.min_eq_left:=@Nat.min_eq_left
theorem pN:type_of% @Nat.div_le_self:=@Nat.div_le_self
theorem pO:type_of% @Go.Proofs.Tryz.zeroValue9:=@Go.Proofs.Tryz.zeroValue9
theorem pP:type_of% @List.length_reverse:=@List.length_reverse
theorem pQ:type_of% @Nat.div_eq_of_lt_le:=@Nat.div_eq_of_lt_le
theorem pR:type_of% @Nat.le_of_eq:=@Nat.le_of_eq
theorem pS:type_of% @Go.wpStill_nil:=@Go.wpStill_nil
theorem pT:type_of% @Go.Proofs.Tryz.sizeOf4:=@Go.Proofs.Tryz.sizeOf4
theorem pU:type_of% @Nat.add_comm:=@Nat.add_comm
theorem pV:type_of% @Go.World.size_alloc:=@Go.World.size_alloc
theorem pW:type_of% @Go.run_slice_string:=@Go.run_slice_string
theorem pX:type_of% @List.mem_range:=@List.mem_range
theorem pY:type_of% @List.getElem?_append_left:=@List.getElem?_append_left
theorem pZ:type_of% @and_true:=@and_true
theorem pf:type_of% @List.length_nil:=@List.length_nil
theorem pg:type_of% @Nat.succ_pos:=@Nat.succ_pos
theorem ph:type_of% @Go.ByteArray.toList_eq:=@Go.ByteArray.toList_eq
theorem pj:type_of% @Nat.div_mul_le_self:=@Nat.div_mul_le_self
theorem pn:type_of% @Nat.mul_le_mul:=@Nat.mul_le_mul
theorem po:type_of% @Array.toList_inj:=@Array.toList_inj
theorem pt:type_of% @Go.IntWalk.i64_in:=@Go.IntWalk.i64_in
theorem p9:type_of% @UInt8.toNat_lt:=@UInt8.toNat_lt
theorem qA:type_of% @List.getElem?_drop:=@List.getElem?_drop
theorem qB:type_of% @UInt8.toNat_inj:=@UInt8.toNat_inj
theorem nR (n:Nat):n<=n:=Nat.le.refl
end Go
section
namespace Go.Proofs
open Go.Shelf
def Pk:Go.Shelf.Ren:=⟨fun|137=>52|217=>79|266=>107|n=>n,fun|9=>9|5=>5|3=>3|n=>n,fun|n=>n⟩
theorem aQ:Go.Proofs.Lays.n137 prog Pk:= {
 mixed:=by kernel_rfl
 f137:=Tryz.func52.trans (congrArg some (by kernel_rfl))
 f217:=Tryz.func79.trans (congrArg some (by kernel_rfl))
 f266:=Tryz.func107.trans (congrArg some (by kernel_rfl))
 t3:=underlying3
 a3:=isAgg3
 z3:=sizeOf3
 v3:=zeroValue3
 t5:=underlying5
 a5:=isAgg5
 z5:=sizeOf5
 v5:=zeroValue5
 t9:=underlying9
 a9:=isAgg9
 z9:=sizeOf9
 v9:=zeroValue9}
open Go.RowKit in
theorem Tryz.strings_IndexByte (s:ByteArray) (c:Int) (w:World):
 Calls prog 52 #[.string s,.int .u8 c] w fun e w'=>e= .returned (.int .i64 (Lib.indexByte s.data.toList c.toNat.toUInt8))/\w'=w:=Any.strings_IndexByte aQ s c w
def Oz:Go.Shelf.Ren:=⟨fun|129=>160|n=>n,fun|53=>28|3=>3|4=>4|46=>164|5=>5|9=>9|n=>n,fun|n=>n⟩
theorem Ye:Go.Proofs.Lays.n129 prog Oz:= {
 mixed:=by kernel_rfl
 f129:=Tryz.func160.trans (congrArg some (by kernel_rfl))
 t3:=underlying3
 a3:=isAgg3
 z3:=sizeOf3
 v3:=zeroValue3
 t4:=underlying4
 a4:=isAgg4
 z4:=sizeOf4
 v4:=zeroValue4
 t5:=underlying5
 a5:=isAgg5
 z5:=sizeOf5
 v5:=zeroValue5
 t9:=underlying9
 a9:=isAgg9
 z9:=sizeOf9
 v9:=zeroValue9
 t46:=underlying164
 a46:=isAgg164
 z46:=sizeOf164
 v46:=zeroValue164
 t53:=underlying28
 a53:=isAgg28
 z53:=sizeOf28
 v53:=zeroValue28}
theorem Tryz.bits_Len64 (x:Int) (w:World) (h0:0<=x) (h1:x<=18446744073709551615):
 Calls prog 160 #[.int .u64 x] w fun e w'=>e= .returned (.int .i64 (Lib.bitLen x.toNat))/\w'=w:=Any.bits_Len64 Ye x w h0 h1
def Pe:Go.Shelf.Ren:=⟨fun|264=>191|n=>n,fun|53=>28|46=>164|n=>n,fun|n=>n⟩
theorem aC:Go.Proofs.Lays.n264 prog Pe:= {
 mixed:=by kernel_rfl
 f264:=Tryz.func191.trans (congrArg some (by kernel_rfl))
 t46:=underlying164
 a46:=isAgg164
 z46:=sizeOf164
 v46:=zeroValue164
 t53:=underlying28
 a53:=isAgg28
 z53:=sizeOf28
 v53:=zeroValue28}
open Go.RowKit Go.Lib in
theorem Tryz.bits_Mul64 (x y:Nat) (hx:x<18446744073709551616) (hy:y<18446744073709551616) (w:World):
 Calls prog 191 #[.int .u64 x,.int .u64 y] w fun e w'=>e= .returned (.tuple #[.int .u64 ((x*y/18446744073709551616:Nat):Int),.int .u64 ((x*y %18446744073709551616:Nat):Int)])/\w'=w:=Any.bits_Mul64 aC x y hx hy w
end Go.Proofs
end
section
namespace Go.Pf
structure RF where
 DT:Nat
 nd:Nat
 N0:Nat
 dp:Int
 GV:Bool
def Ed (r:RF) (c:Nat):RF:=
 if c=46 then {r with dp:=r.nd}
 else if c=48/\r.nd=0 then {r with dp:=r.dp-1}
 else if r.N0<19 then {r with nd:=r.nd+1,DT:=r.DT*10+(c-48),N0:=r.N0+1}
 else {r with nd:=r.nd+1,GV:=r.GV||(c !=48)}
def byte (s:ByteArray) (k:Nat):Nat:=(s.data.toList.getD k 0).toNat
theorem DA {s:ByteArray} {k:Nat}(h:k<s.size):byte s k=s[k].toNat:=by
 unfold byte;rw[List.getD_eq_getElem?_getD,List.getElem?_eq_getElem (by simpa using h)];rfl
def rf (s:ByteArray):Nat->RF
 |0=>⟨0,0,0,0,false⟩
 |k+1=>Ed (rf s k) (byte s k)
structure NC (r:RF) (k:Nat):Prop where
 m19:r.N0<=19
 mn:r.N0<=r.nd
 nk:r.nd<=k
 lt:r.DT<10^r.N0
 lo: -(k:Int)<=r.dp
 hi:r.dp<=k
theorem NC.zero:NC ⟨0,0,0,0,false⟩ 0:=⟨by decide,by decide,by decide,by decide,by decide,by decide⟩
theorem NC.step {r:RF} {k:Nat}(h:NC r k){c:Nat}(hc:c=46\/(48<=c/\c<=57)):NC (Ed r c) (k+1):=by
 have a1:=h.m19;have a2:=h.mn;have a3:=h.nk;have a4:=h.lt;have a5:=h.lo;have a6:=h.hi;unfold Ed;split
 ·exact⟨a1,a2,by simp only;omega,a4,by simp only;omega,by simp only;omega⟩
 split
 ·exact⟨a1,a2,by simp only;omega,a4,by simp only;omega,by simp only;omega⟩
 split
 ·refine⟨by simp only;omega,by simp only;omega,by simp only;omega,?_,by simp only;omega,by simp only;omega⟩;simp only[Nat.pow_succ];omega
 ·exact⟨a1,by simp only;omega,by simp only;omega,a4,by simp only;omega,by simp only;omega⟩
def ef (s:ByteArray) (f:Nat):Nat->Nat
 |0=>0
 |j+1=>ef s f j*10+(byte s (f+j)-48)
theorem Em (s:ByteArray) (f:Nat):∀j,(∀i,i<j->byte s (f+i)<=57)->ef s f j<10^j
 |0,_=>by simp[ef]
 |j+1,h=>by
  have h1:=Em s f j (fun i hi=>h i (by omega));have h2:=h j (by omega);simp only[ef,Nat.pow_succ];omega
structure DW (s:ByteArray) (p q f:Nat) (sg:Int):Prop where
 p0:0<p
 pq:p+1<q
 qs:q<=s.size
 Ca:∀j,j<q->j≠p->48<=byte s j/\byte s j<=57
 dot:byte s p=46
 tail:(q=s.size/\f=s.size/\sg=1)\/(q<s.size/\(byte s q=101\/byte s q=69)/\((f=q+1/\sg=1)\/(f=q+2/\sg=1/\byte s (q+1)=43)\/(f=q+2/\sg= -1/\byte s (q+1)=45))/\f<s.size/\s.size<=f+4/\∀j,f<=j->j<s.size->48<=byte s j/\byte s j<=57)
theorem DW.ok {s:ByteArray} {p q f:Nat} {sg:Int}(h:DW s p q f sg):∀k,k<=q->NC (rf s k) k
 |0,_=>NC.zero
 |k+1,hk=>by
  refine(h.ok k (by omega)).step ?_;by_cases hp:k=p
  ·subst hp;exact .inl h.dot
  ·exact .inr (h.Ca k (by omega) hp)
def Co (s:ByteArray) (q f:Nat) (sg:Int):Int:=
 if(rf s q).DT=0 then 0 else(rf s q).dp+ef s f (s.size-f)*sg-(rf s q).N0
theorem Su {r:RF} {k:Nat}(h:NC r k):r.DT<10^19:=Nat.lt_of_lt_of_le h.lt (Nat.pow_le_pow_right (by decide) h.m19)
theorem Uq {r:RF} {k:Nat}(h:NC r k) (h2:r.N0<19):r.DT<10^18:=Nat.lt_of_lt_of_le h.lt (Nat.pow_le_pow_right (by decide) (by omega))
end Go.Pf
end
section
namespace Go.Pf
def gX (c:Nat):Prop:=48<=c/\c<=57
theorem DC {c:Nat} {n:Nat}(h:c≠n):((c:Int)==(n:Int))=false:=by rw[Bool.eq_false_iff];intro e;have:=eq_of_beq e;omega
theorem Pv {c:Nat} {n:Nat}(h:c=n):((c:Int)==(n:Int))=true:=by rw[h];exact beq_self_eq_true _
end Go.Pf
end
section
namespace Go.Pf
end Go.Pf
end
section
namespace Go.Pf
def FI (a b:Nat):Nat:=if b<2*(a %b)\/(2*(a %b)=b/\a/b %2=1)then a/b+1 else a/b
def KE:Nat:=1074
def KZ:Nat:=2^KE
theorem Vg:0<KZ:=lj KE
theorem LM:KE=1074:=rfl
def Jv (N D b:Nat):Prop:=∃u,(u=0\/4503599627370496*(D*2^u)<=N*KZ)/\N*KZ<9007199254740992*(D*2^u)/\b=u*4503599627370496+FI (N*KZ) (D*2^u)
def AW:Nat:=9218868437227405312
def Fl (N D r:Nat):Prop:=∃b,Jv N D b/\r=min b AW
theorem Mn {a b a' b':Nat}(hb:0<b) (rF:0<b') (h:a*b'=a'*b):a/b=a'/b'/\a %b*b'=a' %b'*b:=by
 constructor
 ·rw[<-Nat.mul_div_mul_right a b rF,<-Nat.mul_div_mul_right a' b' hb,h,mR b b']
 ·rw[<-Nat.mul_mod_mul_right,<-Nat.mul_mod_mul_right,h,mR b b']
theorem ER {a b a' b':Nat}(hb:0<b) (rF:0<b') (h:a*b'=a'*b):FI a b=FI a' b':=by
 obtain⟨h1,h2⟩:=Mn hb rF h;have h3:b<2*(a %b)↔b'<2*(a' %b'):=by
  rw[<-Nat.mul_lt_mul_right (a:=b') rF (b:=b),<-Nat.mul_lt_mul_right (a:=b) hb (b:=b'),l5 2,l5 2,h2,mR b b']
 have h4:2*(a %b)=b↔2*(a' %b')=b':=by
  constructor
  ·intro e;apply oo hb;rw[l5,<-h2,<-l5,e,mR]
  ·intro e;apply oo rF;rw[l5,h2,<-l5,e,mR]
 unfold FI;rw[h1];simp only[h3,h4]
theorem Jv.ratio {N D N' D' b:Nat}(hD:0<D) (hD':0<D') (h:N*D'=N'*D) (hr:Jv N D b):Jv N' D' b:=by
 unfold Jv at hr⊢;generalize KZ=KZ at*;obtain⟨u,h1,h2,h3⟩:=hr;have e1:∀c,D*(c*(D'*2^u))=c*(D*2^u)*D':=fun c=>by ac_rfl
 have e2:D*(N'*KZ)=N*KZ*D':=by
  calc D*(N'*KZ)=N'*D*KZ:=by ac_rfl
   _=N*KZ*D':=by rw[<-h];ac_rfl
 refine⟨u,?_,?_,?_⟩
 ·rcases h1 with h1|h1
  ·exact .inl h1
  ·refine .inr (Nat.le_of_mul_le_mul_left ?_ hD);rw[e1,e2];exact lV _ h1
 ·refine Nat.lt_of_mul_lt_mul_left (a:=D) ?_;rw[e1,e2];exact mA h2 hD'
 ·rw[h3];congr 1;refine ER (mx hD (lj u)) (mx hD' (lj u)) ?_
  calc N*KZ*(D'*2^u)=N*D'*(KZ*2^u):=by ac_rfl
   _=N'*KZ*(D*2^u):=by rw[h];ac_rfl
theorem Jv.unit {N D u v K:Nat}(h2:N*K<9007199254740992*(D*2^u)) (h1:v=0\/4503599627370496*(D*2^v)<=N*K):v<=u:=by
 rcases ls u v with h|h
 ·exfalso;rcases h1 with h1|h1
  ·omega
  ·have e:2^u*2<=2^v:=by rw[<-l9];exact lX (by decide) h
   have e2:D*(2^u*2)<=D*2^v:=mU D e;rw[<-l5]at e2;omega
 ·exact h
theorem Jv.unique {N D b b':Nat}(h:Jv N D b) (h':Jv N D b'):b=b':=by
 obtain⟨u,h1,h2,h3⟩:=h;obtain⟨v,k1,k2,k3⟩:=h';obtain rfl:u=v:=Nat.le_antisymm (Jv.unit k2 h1) (Jv.unit h2 k1);rw[h3,k3]
theorem Fl.ratio {N D N' D' b:Nat}(hD:0<D) (hD':0<D') (h:N*D'=N'*D) (hr:Fl N D b):Fl N' D' b:=by
 obtain⟨c,h1,h2⟩:=hr;exact⟨c,h1.ratio hD hD' h,h2⟩
theorem Fl.unique {N D b b':Nat}(h:Fl N D b) (h':Fl N D b'):b=b':=by
 obtain⟨c,h1,h2⟩:=h;obtain⟨c',k1,k2⟩:=h';rw[h2,k2,h1.unique k1]
def OQ (a b:Nat):Nat:=(4*a/b)|||(if 4*a %b=0 then 0 else 1)
theorem Qx (t:Nat):t|||1=t/2*2+1:=by
 have h:=oh (i:=1) (b:=t %2) (by omega) (t/2);have h2:=oh (i:=1) (b:=1) (by omega) (t/2);have h3:t=2^1*(t/2)|||t %2:=by omega
 have h4:t %2|||1=1:=by
  rcases Nat.mod_two_eq_zero_or_one t with e|e<;>rw[e]<;>rfl
 calc t|||1=(2^1*(t/2)|||t %2)|||1:=by rw[<-h3]
  _=2^1*(t/2)|||1:=by rw[Nat.or_assoc,h4]
  _=t/2*2+1:=by omega
theorem Qf (a b:Nat):OQ a b=if 4*a %b=0 then 4*a/b else 4*a/b/2*2+1:=by
 unfold OQ;split
 ·rw[Nat.or_zero]
 ·rw[Qx]
theorem SL (a b:Nat) (hb:0<b):(OQ a b+1+OQ a b/4 %2)/4=FI a b:=by
 have h1:b*(a/b)+a %b=a:=oD a b;have h2:a %b<b:=mw _ hb;have h3:b*(4*a/b)+4*a %b=4*a:=oD (4*a) b;have h4:4*a %b<b:=mw _ hb;have h5:4*a/b=4*(a/b)+4*(a %b)/b:=by
  rw[pU,<-Nat.add_mul_div_left _ _ hb];congr 1;have:b*(4*(a/b))=4*(b*(a/b)):=by ac_rfl
  omega
 obtain⟨f,hf⟩:∃f,f=4*(a %b)/b:=⟨_,rfl⟩;have h6:f<4:=by rw[hf,mY hb];omega
 rw[<-hf]at h5;rw[Qf,h5];rw[h5,Nat.mul_add]at h3;have h7:b*(4*(a/b))=4*(b*(a/b)):=by ac_rfl
 rw[h7]at h3;unfold FI;generalize a/b=q at*;generalize a %b=c at*;generalize 4*a %b=r at*;generalize b*q=z at*;have h8:f=0\/f=1\/f=2\/f=3:=by omega
 clear hf;rcases h8 with rfl|rfl|rfl|rfl
 all_goals
  split
  ·split<;>omega
  ·split<;>omega
theorem VG (a b:Nat):OQ a (2*b)=OQ a b/2|||(OQ a b&&&1):=by
 have h1:4*a/(2*b)=4*a/b/2:=by rw[mR 2 b,mf]
 have h2:4*a %(2*b)=4*a %b+b*(4*a/b %2):=by rw[mR 2 b,Nat.mod_mul]
 rw[Nat.and_one_is_mod,Qf a b,OQ,h1,h2];obtain⟨t,ht⟩:∃t,t=4*a/b:=⟨_,rfl⟩;rw[<-ht];by_cases hr:4*a %b=0
 ·rw[lQ hr,hr];rcases Nat.mod_two_eq_zero_or_one t with e|e
  ·rw[e,Nat.mul_zero,lQ rfl]
  ·rw[e,nf,me];by_cases hb:b=0
   ·subst hb;rw[Nat.div_zero]at ht;omega
   ·rw[lL hb]
 ·rw[lL hr,lL (by omega)];congr 1<;>omega
theorem br (a b:Nat):OQ a b|||(OQ a b&&&1)=OQ a b:=by
 rw[Nat.and_one_is_mod];rcases Nat.mod_two_eq_zero_or_one (OQ a b)with e|e
 ·rw[e,Nat.or_zero]
 ·rw[e,Qx];omega
theorem Ft {Y B Q:Nat}(h1:Q*B<=Y) (h2:Y<(Q+1)*B):Y/B=Q/\(Y %B=0↔Y=Q*B):=by
 have e:Y/B=Q:=pQ h1 h2;refine⟨e,?_⟩;have h:=Nat.div_add_mod' Y B;rw[e]at h;omega
end Go.Pf
end
section
namespace Go.Pf
def km (hi lo Pn Pd x:Nat):Prop:=∀n,x*hi*18446744073709551616<=n*87112285931760246646623899502532662132736+x*lo+18446744073709551616->
 n*87112285931760246646623899502532662132736+x*lo<x*hi*18446744073709551616+18446744073709551616->x*Pn=n*87112285931760246646623899502532662132736*Pd
def dN (i:Nat):Int:=((i:Int)-345)*108853/32768
def Jk (i:Nat):Nat:=10^(i-345)*2^(2127-dN i).toNat
def PZ:Nat:=2000
theorem jN:PZ=2000:=rfl
def He (i:Nat):Nat:=10^(345-i)*2^PZ
def MF (i hi lo q1 q2:Nat):Bool:=
 let Pn:=Jk i
 let Pd:=He i
 let pm:=hi*18446744073709551616-lo
 Nat.blt (hi*18446744073709551616*Pd) (Pn+(lo+1)*Pd)&&Nat.ble (Pn+lo*Pd) (hi*18446744073709551616*Pd)&&Nat.ble 9223372036854775808 hi&&Nat.blt hi 18446744073709551616&&Nat.blt lo 18446744073709551616
 &&(Nat.ble (170141183460469231731687303715884105728*Pd) Pn&&Nat.blt Pn (340240828546070184842346363461134450688*Pd))
 &&(if Nat.ble 345 i&&Nat.ble i 372 then Nat.beq (pm %36893488147419103232) 0&&Nat.beq Pn (pm*Pd)
  else
   let r1:=q1*pm %87112285931760246646623899502532662132736
   let r2:=87112285931760246646623899502532662132736-q2*pm %87112285931760246646623899502532662132736
   Nat.beq (q1*r2+q2*r1) 87112285931760246646623899502532662132736&&Nat.ble 18446744073709551616 (q1+q2)&&Nat.blt 18446744073709551616 (r1+r2)
   &&(Nat.blt 18446744073709551616 r1||Nat.beq (q1*Pn) (q1*pm/87112285931760246646623899502532662132736*87112285931760246646623899502532662132736*Pd))
   &&(Nat.ble 18446744073709551616 r2||(Nat.blt q2 9223372036854775808&&Nat.ble 18446744073709551616 (2*r2))))
def MR (f:Nat->Nat->Nat->Nat->Nat->Bool):List (Nat×Nat)->List (Nat×Nat)->Nat->Bool
 |r::rs,c::cs,i=>f i r.1 r.2 c.1 c.2&&MR f rs cs (i+1)
 |_,[],_=>true
 | [],_::_,_=>false
theorem Mj (f:Nat->Nat->Nat->Nat->Nat->Bool):∀(rs cs:List (Nat×Nat)) (i j:Nat),MR f rs cs i=true->j<cs.length->f (i+j) (rs.getD j (0,0)).1 (rs.getD j (0,0)).2 (cs.getD j (0,0)).1 (cs.getD j (0,0)).2=true
 |_,[],_,j,_,hj=>by simp at hj
 | [],_::_,_,_,h,_=>by simp[MR]at h
 |r::rs,c::cs,i,0,h,_=>by
  simp only[MR,mJ]at h;simpa using h.1
 |r::rs,c::cs,i,j+1,h,hj=>by
  simp only[MR,mJ]at h;have:=Mj f rs cs (i+1) j h.2 (by simpa using hj);simpa[oX,pU 1 j]using this
theorem basis {q1 q2 r1 r2 k1 k2 x n pm:Int}(hd:q1*k2-q2*k1=1) (e1:q1*pm-k1*87112285931760246646623899502532662132736=r1) (e2:q2*pm-k2*87112285931760246646623899502532662132736= -r2)
 (g1:0<=q1) (g2:0<=q2) (g3:0<=r1) (g4:0<=r2) (hx:0<x) (ya:x<18446744073709551616) (hq:18446744073709551616<=q1+q2) (hr:18446744073709551616<r1+r2)
 (y1:x*pm-n*87112285931760246646623899502532662132736<=18446744073709551616) (y2: -18446744073709551616<x*pm-n*87112285931760246646623899502532662132736):
 (∃u,1<=u/\x=u*q1/\n=u*k1/\x*pm-n*87112285931760246646623899502532662132736=u*r1)\/(∃v,1<=v/\x=v*q2/\n=v*k2/\x*pm-n*87112285931760246646623899502532662132736= -(v*r2)):=by
 obtain⟨u,hu⟩:∃u,u=x*k2-n*q2:=⟨_,rfl⟩;obtain⟨v,hv⟩:∃v,v=n*q1-x*k1:=⟨_,rfl⟩;have a1:x=u*q1+v*q2:=by
  have:u*q1+v*q2=x*(q1*k2-q2*k1):=by rw[hu,hv];grind
  rw[this,hd,Int.mul_one]
 have a2:n=u*k1+v*k2:=by
  have:u*k1+v*k2=n*(q1*k2-q2*k1):=by rw[hu,hv];grind
  rw[this,hd,Int.mul_one]
 have a3:x*pm-n*87112285931760246646623899502532662132736=u*r1-v*r2:=by
  have:x*pm-n*87112285931760246646623899502532662132736=(u*q1+v*q2)*pm-(u*k1+v*k2)*87112285931760246646623899502532662132736:=by rw[<-a1,<-a2]
  rw[this,<-e1];have e2':r2=k2*87112285931760246646623899502532662132736-q2*pm:=by omega
  rw[e2']
  grind
 rw[a3]at y1 y2⊢;clear hu hv;have up:∀{a b:Int},1<=a->0<=b->b<=a*b:=fun {a b} h h'=>by have:=pE h h';omega
 have dn:∀{a b:Int},a<=0->0<=b->a*b<=0:=fun {a b} h h'=>Int.mul_nonpos_of_nonpos_of_nonneg h h';have ng:∀{a b:Int},a<= -1->0<=b->a*b<= -b:=fun {a b} h h'=>by
  have:=pE h h';omega
 rcases(show 1<=u\/u<=0 by omega)with hu|hu
 ·have p1:=up hu g1;have p2:=up hu g3;rcases(show 1<=v\/v<=0 by omega)with hv|hv
  ·have p3:=up hv g2;omega
  ·by_cases h0:v=0
   ·subst h0;exact .inl ⟨u,hu,by omega,by omega,by omega⟩
   ·have p3:=ng (show v<= -1 by omega) g4;omega
 ·rcases(show 1<=v\/v<=0 by omega)with hv|hv
  ·by_cases h0:u=0
   ·subst h0;exact .inr ⟨v,hv,by omega,by omega,by omega⟩
   ·have p3:=ng (show u<= -1 by omega) g3;have p4:=up hv g4;omega
  ·have p1:=dn hu g1;have p2:=dn hv g2;omega
theorem jq {a b c:Nat}(h:a+b<=c+b+18446744073709551616):a<=c+18446744073709551616:=by omega
theorem kH {a b c:Nat}(h:c+b<a+b+18446744073709551616):c<a+18446744073709551616:=by omega
theorem Zn {i hi lo q1 q2 x:Nat}(h:MF i hi lo q1 q2=true) (hx:9223372036854775808<=x) (ya:x<18446744073709551616):km hi lo (Jk i) (He i) x:=by
 unfold MF at h;simp only[mJ,Nat.blt_eq,Nat.ble_eq]at h;obtain⟨⟨⟨⟨⟨⟨h1,h2⟩,h3⟩,h4⟩,h5⟩,h6⟩,h7⟩:=h;generalize Jk i=Pn at*;generalize He i=Pd at*;obtain⟨pm,hpm⟩:∃pm,pm=hi*18446744073709551616-lo:=⟨_,rfl⟩;have hpm2:hi*18446744073709551616=pm+lo:=by omega
 rw[<-hpm]at h7;intro n y1 y2;have ex:x*hi*18446744073709551616=x*pm+x*lo:=by rw[l5,hpm2,Nat.mul_add]
 rw[ex]at y1 y2;clear ex h1 h2 h3 h4 h5 h6 hpm hpm2;have y1':x*pm<=n*87112285931760246646623899502532662132736+18446744073709551616:=jq y1;have y2':n*87112285931760246646623899502532662132736<x*pm+18446744073709551616:=kH y2;clear y1 y2;split at h7
 ·simp only[mJ,Nat.beq_eq]at h7;obtain⟨k1,k2⟩:=h7;obtain⟨c,rfl⟩:∃c,pm=36893488147419103232*c:=⟨pm/36893488147419103232,by omega⟩;have e:x*(36893488147419103232*c)=36893488147419103232*(x*c):=by ac_rfl
  rw[e]at y1' y2';have z:36893488147419103232*(x*c)=n*87112285931760246646623899502532662132736:=by omega
  rw[k2,<-l5,e,z]
 ·simp only[mJ,Bool.or_eq_true,Nat.beq_eq,Nat.blt_eq,Nat.ble_eq]at h7;obtain⟨⟨⟨⟨k1,k2⟩,k3⟩,k4⟩,k5⟩:=h7;obtain⟨r1,vT⟩:∃r,r=q1*pm %87112285931760246646623899502532662132736:=⟨_,rfl⟩;obtain⟨r2,rL⟩:∃r,r=87112285931760246646623899502532662132736-q2*pm %87112285931760246646623899502532662132736:=⟨_,rfl⟩;obtain⟨m1,qw⟩:∃r,r=q1*pm/87112285931760246646623899502532662132736:=⟨_,rfl⟩;obtain⟨m2,si⟩:∃r,r=q2*pm/87112285931760246646623899502532662132736+1:=⟨_,rfl⟩;rw[<-vT,<-rL]at k1 k3;rw[<-vT,<-qw]at k4;rw[<-rL]at k5;have w1:q1*pm=m1*87112285931760246646623899502532662132736+r1:=by omega
  have w2:q2*pm+r2=m2*87112285931760246646623899502532662132736:=by omega
  clear vT rL qw si;have W1:(q1:Int)*(pm:Int)-(m1:Int)*87112285931760246646623899502532662132736=(r1:Int):=by
   have:((q1*pm:Nat):Int)=((m1*87112285931760246646623899502532662132736+r1:Nat):Int):=mQ _ w1;simp only[oP,Int.natCast_add]at this;omega
  have W2:(q2:Int)*(pm:Int)-(m2:Int)*87112285931760246646623899502532662132736= -(r2:Int):=by
   have:((q2*pm+r2:Nat):Int)=((m2*87112285931760246646623899502532662132736:Nat):Int):=mQ _ w2;simp only[oP,Int.natCast_add]at this;omega
  have W3:(q1:Int)*(m2:Int)-(q2:Int)*(m1:Int)=1:=by
   have a:((q1*r2+q2*r1:Nat):Int)=87112285931760246646623899502532662132736:=mQ _ k1;simp only[oP,Int.natCast_add]at a;have b1:(r1:Int)=(q1:Int)*(pm:Int)-(m1:Int)*87112285931760246646623899502532662132736:=W1.symm;have b2:(r2:Int)=(m2:Int)*87112285931760246646623899502532662132736-(q2:Int)*(pm:Int):=by omega
   rw[b1,b2]at a;have c:(q1:Int)*((m2:Int)*87112285931760246646623899502532662132736-(q2:Int)*(pm:Int))+(q2:Int)*((q1:Int)*(pm:Int)-(m1:Int)*87112285931760246646623899502532662132736)=((q1:Int)*(m2:Int)-(q2:Int)*(m1:Int))*87112285931760246646623899502532662132736:=by grind
   rw[c]at a;omega
  have Y1:(x:Int)*(pm:Int)-(n:Int)*87112285931760246646623899502532662132736<=18446744073709551616:=by
   have:((x*pm:Nat):Int)<=((n*87112285931760246646623899502532662132736+18446744073709551616:Nat):Int):=Int.ofNat_le.2 y1';simp only[oP,Int.natCast_add]at this;omega
  have Y2: -18446744073709551616<(x:Int)*(pm:Int)-(n:Int)*87112285931760246646623899502532662132736:=by
   have:((n*87112285931760246646623899502532662132736:Nat):Int)<((x*pm+18446744073709551616:Nat):Int):=Int.ofNat_lt.2 y2';simp only[oP,Int.natCast_add]at this;omega
  rcases basis W3 W1 W2 (by omega) (by omega) (by omega) (by omega) (by omega) (by omega) (by omega) (by omega) Y1 Y2 with⟨u,u1,u2,u3,u4⟩|⟨v,v1,v2,v3,v4⟩
  ·rcases k4 with k4|k4
   ·exfalso;have:=pE u1 (show(0:Int)<=(r1:Int) by omega);omega
   ·obtain⟨t,rfl⟩:∃t:Nat,u=t:=⟨u.toNat,by omega⟩;have x1:x=t*q1:=by
     have:((x:Nat):Int)=((t*q1:Nat):Int):=by rw[oP];exact u2
     exact Int.ofNat.inj this
    have n1:n=t*m1:=by
     have:((n:Nat):Int)=((t*m1:Nat):Int):=by rw[oP];exact u3
     exact Int.ofNat.inj this
    rw[x1,n1,l5,k4]
    ac_rfl
  ·exfalso;have z:=pE v1 (show(0:Int)<=(r2:Int) by omega);rcases k5 with k5|⟨k5,k6⟩
   ·omega
   ·by_cases hv:v=1
    ·subst hv;omega
    ·have z2:=pE (show(2:Int)<=v by omega) (show(0:Int)<=(r2:Int) by omega);omega
end Go.Pf
end
