import Derived.Shelf.Small.Utf8
import Derived.Shelf.Small.Bits
import Derived.Shelf.Small.Strs
import Derived.Shelf.Unicode.Decode
import Derived.Shelf.Bits.Mul64
import Derived.Test.YtnipmfaikiaipaaGreatDoorProg
import Derived.Test.YtnipmfaikiaipaaGreatDoorChecked
import Derived.WalkKit
import Derived.BigCall
import Derived.BigQuiet
import Derived.LoopTactic
import Derived.Lib.Hide
import Derived.Outline
import Derived.OwnWalk
import Derived.RegionTactic
import Derived.ChangeAlike
import Derived.StillTailTactics
import Derived.Deep.QuietTactic
import Derived.Deep.RegionWith
import Derived.Deep.DeepCutAuto
import Derived.WalkMore
set_option maxRecDepth 1000000
set_option maxHeartbeats 40000000
namespace Go
theorem Hi {p:Prop}(h:p):RowKit.Hid p:=Lib.hid h
theorem A5 {p:Prop} [Decidable p] (h:p:=by omega):decide p=true:=decide_eq_true h
theorem BC {p:Prop} [Decidable p] (h:¬p:=by omega):decide p=false:=decide_eq_false h
theorem AH:type_of% @Go.RowKit.Below.refl:=@Go.RowKit.Below.refl
theorem AI:type_of% @Go.bodyPost_ret:=@Go.bodyPost_ret
theorem AN:type_of% @decide_eq_true:=@decide_eq_true
theorem AS:type_of% @decide_eq_false:=@decide_eq_false
theorem AT:type_of% @Nat.pow_le_pow_right:=@Nat.pow_le_pow_right
theorem An:type_of% @Nat.two_pow_pos:=@Nat.two_pow_pos
theorem BY:type_of% @Nat.lt_or_ge:=@Nat.lt_or_ge
theorem By:type_of% @Go.RowKit.Below.setCell:=@Go.RowKit.Below.setCell
theorem E3:type_of% @Nat.pow_add:=@Nat.pow_add
theorem FF:type_of% @Nat.mul_le_mul_right:=@Nat.mul_le_mul_right
theorem G0:type_of% @Nat.mul_assoc:=@Nat.mul_assoc
theorem IN:type_of% @Nat.lt_of_lt_of_le:=@Nat.lt_of_lt_of_le
theorem IS:type_of% @Nat.lt_of_le_of_lt:=@Nat.lt_of_le_of_lt
theorem IT:type_of% @Int.toNat_natCast:=@Int.toNat_natCast
theorem Lq:type_of% @Bool.eq_false_iff:=@Bool.eq_false_iff
theorem NO:type_of% @decide_eq_decide:=@decide_eq_decide
theorem No:type_of% @Classical.byContradiction:=@Classical.byContradiction
theorem OF:type_of% @Array.getElem?_eq_some_iff:=@Array.getElem?_eq_some_iff
theorem ON:type_of% @List.getElem?_eq_some_iff:=@List.getElem?_eq_some_iff
theorem Of:type_of% @ByteArray.size_extract:=@ByteArray.size_extract
theorem SM:type_of% @List.getD_eq_getElem?_getD:=@List.getD_eq_getElem?_getD
theorem SO:type_of% @Nat.div_div_eq_div_mul:=@Nat.div_div_eq_div_mul
theorem So:type_of% @Nat.mul_comm:=@Nat.mul_comm
theorem To:type_of% @Nat.le_trans:=@Nat.le_trans
theorem UP:type_of% @Nat.add_mul:=@Nat.add_mul
theorem ad:type_of% @Nat.div_lt_iff_lt_mul:=@Nat.div_lt_iff_lt_mul
theorem bh:type_of% @Nat.div_eq_of_lt:=@Nat.div_eq_of_lt
theorem cS:type_of% @Nat.lt_of_mul_lt_mul_right:=@Nat.lt_of_mul_lt_mul_right
theorem cX:type_of% @Go.Calls.quiet_of_same:=@Go.Calls.quiet_of_same
theorem c8:type_of% @Nat.mul_lt_mul_of_pos_right:=@Nat.mul_lt_mul_of_pos_right
theorem dT:type_of% @Nat.eq_zero_or_pos:=@Nat.eq_zero_or_pos
theorem dg:type_of% @Nat.mul_le_mul_left:=@Nat.mul_le_mul_left
theorem dk:type_of% @Go.heap_alloc_new:=@Go.heap_alloc_new
theorem eE:type_of% @Go.run_slice_string:=@Go.run_slice_string
theorem eR:type_of% @List.length_append:=@List.length_append
theorem e8:type_of% @Nat.mod_eq_of_lt:=@Nat.mod_eq_of_lt
theorem gP:type_of% @Nat.le_div_iff_mul_le:=@Nat.le_div_iff_mul_le
theorem gQ:type_of% @List.getElem?_eq_none:=@List.getElem?_eq_none
theorem gR:type_of% @Nat.mod_lt:=@Nat.mod_lt
theorem gT:type_of% @Go.ByteArray.toList_eq:=@Go.ByteArray.toList_eq
theorem gU:type_of% @List.drop_zero:=@List.drop_zero
theorem gV:type_of% @Go.IntWalk.i64_in:=@Go.IntWalk.i64_in
theorem gW:type_of% @Go.heap_setCell_other:=@Go.heap_setCell_other
theorem gX:type_of% @Nat.zero_add:=@Nat.zero_add
theorem gY:type_of% @Nat.mul_one:=@Nat.mul_one
theorem gZ:type_of% @Nat.add_zero:=@Nat.add_zero
theorem gf:type_of% @Nat.pow_zero:=@Nat.pow_zero
theorem gh:type_of% @Bool.not_eq_true:=@Bool.not_eq_true
theorem gj:type_of% @Nat.pow_succ:=@Nat.pow_succ
theorem nR (n:Nat):n<=n:=Nat.le.refl
end Go
section
namespace Go.Proofs
open Go.Shelf
def Om:Go.Shelf.Ren:=⟨fun|137=>67|217=>110|266=>165|n=>n,fun|9=>9|5=>5|3=>3|n=>n,fun|n=>n⟩
theorem YG:Go.Proofs.Lays.n137 Tryz.prog Om:= {
 mixed:=by kernel_rfl
 f137:=Tryz.func67.trans (congrArg some (by kernel_rfl))
 f217:=Tryz.func110.trans (congrArg some (by kernel_rfl))
 f266:=Tryz.func165.trans (congrArg some (by kernel_rfl))
 t3:=Tryz.underlying3
 a3:=Tryz.isAgg3
 z3:=Tryz.sizeOf3
 v3:=Tryz.zeroValue3
 t5:=Tryz.underlying5
 a5:=Tryz.isAgg5
 z5:=Tryz.sizeOf5
 v5:=Tryz.zeroValue5
 t9:=Tryz.underlying9
 a9:=Tryz.isAgg9
 z9:=Tryz.sizeOf9
 v9:=Tryz.zeroValue9}
open Go.RowKit in
theorem Tryz.strings_IndexByte (s:ByteArray) (c:Int) (w:World):
 Calls Tryz.prog 67 #[.string s,.int .u8 c] w fun e w'=>e= .returned (.int .i64 (Lib.indexByte s.data.toList c.toNat.toUInt8))/\w'=w:=Any.strings_IndexByte YG s c w
def PJ:Go.Shelf.Ren:=⟨fun|129=>191|n=>n,fun|53=>28|3=>3|4=>4|46=>121|5=>5|9=>9|n=>n,fun|n=>n⟩
theorem Y0:Go.Proofs.Lays.n129 Tryz.prog PJ:= {
 mixed:=by kernel_rfl
 f129:=Tryz.func191.trans (congrArg some (by kernel_rfl))
 t3:=Tryz.underlying3
 a3:=Tryz.isAgg3
 z3:=Tryz.sizeOf3
 v3:=Tryz.zeroValue3
 t4:=Tryz.underlying4
 a4:=Tryz.isAgg4
 z4:=Tryz.sizeOf4
 v4:=Tryz.zeroValue4
 t5:=Tryz.underlying5
 a5:=Tryz.isAgg5
 z5:=Tryz.sizeOf5
 v5:=Tryz.zeroValue5
 t9:=Tryz.underlying9
 a9:=Tryz.isAgg9
 z9:=Tryz.sizeOf9
 v9:=Tryz.zeroValue9
 t46:=Tryz.underlying121
 a46:=Tryz.isAgg121
 z46:=Tryz.sizeOf121
 v46:=Tryz.zeroValue121
 t53:=Tryz.underlying28
 a53:=Tryz.isAgg28
 z53:=Tryz.sizeOf28
 v53:=Tryz.zeroValue28}
theorem Tryz.bits_Len64 (x:Int) (w:World) (h0:0<=x) (h1:x<=18446744073709551615):
 Calls Tryz.prog 191 #[.int .u64 x] w fun e w'=>e= .returned (.int .i64 (Lib.bitLen x.toNat))/\w'=w:=Any.bits_Len64 Y0 x w h0 h1
def Pw:Go.Shelf.Ren:=⟨fun|264=>150|n=>n,fun|53=>28|46=>121|n=>n,fun|n=>n⟩
theorem Xr:Go.Proofs.Lays.n264 Tryz.prog Pw:= {
 mixed:=by kernel_rfl
 f264:=Tryz.func150.trans (congrArg some (by kernel_rfl))
 t46:=Tryz.underlying121
 a46:=Tryz.isAgg121
 z46:=Tryz.sizeOf121
 v46:=Tryz.zeroValue121
 t53:=Tryz.underlying28
 a53:=Tryz.isAgg28
 z53:=Tryz.sizeOf28
 v53:=Tryz.zeroValue28}
open Go.RowKit Go.Lib in
theorem Tryz.bits_Mul64 (x y:Nat) (hx:x<18446744073709551616) (hy:y<18446744073709551616) (w:World):
 Calls Tryz.prog 150 #[.int .u64 x,.int .u64 y] w fun e w'=>e= .returned (.tuple #[.int .u64 ((x*y/18446744073709551616:Nat):Int),.int .u64 ((x*y %18446744073709551616:Nat):Int)])/\w'=w:=Any.bits_Mul64 Xr x y hx hy w
end Go.Proofs
end
section
namespace Go.Pf
structure RF where
 Hx:Nat
 nd:Nat
 OL:Nat
 dp:Int
 Ir:Bool
def D3 (r:RF) (c:Nat):RF:=
 if c=46 then {r with dp:=r.nd}
 else if c=48/\r.nd=0 then {r with dp:=r.dp-1}
 else if r.OL<19 then {r with nd:=r.nd+1,Hx:=r.Hx*10+(c-48),OL:=r.OL+1}
 else {r with nd:=r.nd+1,Ir:=r.Ir||(c !=48)}
def byte (s:ByteArray) (k:Nat):Nat:=(s.data.toList.getD k 0).toNat
theorem FK {s:ByteArray} {k:Nat}(h:k<s.size):byte s k=s[k].toNat:=by
 unfold byte;rw[List.getD_eq_getElem?_getD,List.getElem?_eq_getElem (by simpa using h)];rfl
def rf (s:ByteArray):Nat->RF
 |0=>⟨0,0,0,0,false⟩
 |k+1=>D3 (rf s k) (byte s k)
structure NQ (r:RF) (k:Nat):Prop where
 m19:r.OL<=19
 mn:r.OL<=r.nd
 nk:r.nd<=k
 lt:r.Hx<10^r.OL
 lo: -(k:Int)<=r.dp
 hi:r.dp<=k
theorem NQ.zero:NQ ⟨0,0,0,0,false⟩ 0:=⟨by decide,by decide,by decide,by decide,by decide,by decide⟩
theorem NQ.step {r:RF} {k:Nat}(h:NQ r k){c:Nat}(hc:c=46\/(48<=c/\c<=57)):NQ (D3 r c) (k+1):=by
 have a1:=h.m19;have a2:=h.mn;have a3:=h.nk;have a4:=h.lt;have a5:=h.lo;have a6:=h.hi;unfold D3;split
 ·exact⟨a1,a2,by simp only;omega,a4,by simp only;omega,by simp only;omega⟩
 split
 ·exact⟨a1,a2,by simp only;omega,a4,by simp only;omega,by simp only;omega⟩
 split
 ·refine⟨by simp only;omega,by simp only;omega,by simp only;omega,?_,by simp only;omega,by simp only;omega⟩;simp only[Nat.pow_succ];omega
 ·exact⟨a1,by simp only;omega,by simp only;omega,a4,by simp only;omega,by simp only;omega⟩
def ef (s:ByteArray) (f:Nat):Nat->Nat
 |0=>0
 |j+1=>ef s f j*10+(byte s (f+j)-48)
theorem EM (s:ByteArray) (f:Nat):∀j,(∀i,i<j->byte s (f+i)<=57)->ef s f j<10^j
 |0,_=>by simp[ef]
 |j+1,h=>by
  have h1:=EM s f j (fun i hi=>h i (by omega));have h2:=h j (by omega);simp only[ef,Nat.pow_succ];omega
structure Fc (s:ByteArray) (p q f:Nat) (sg:Int):Prop where
 p0:0<p
 pq:p+1<q
 qs:q<=s.size
 Bq:∀j,j<q->j≠p->48<=byte s j/\byte s j<=57
 dot:byte s p=46
 tail:(q=s.size/\f=s.size/\sg=1)\/(q<s.size/\(byte s q=101\/byte s q=69)/\((f=q+1/\sg=1)\/(f=q+2/\sg=1/\byte s (q+1)=43)\/(f=q+2/\sg= -1/\byte s (q+1)=45))/\f<s.size/\s.size<=f+4/\∀j,f<=j->j<s.size->48<=byte s j/\byte s j<=57)
theorem Fc.ok {s:ByteArray} {p q f:Nat} {sg:Int}(h:Fc s p q f sg):∀k,k<=q->NQ (rf s k) k
 |0,_=>NQ.zero
 |k+1,hk=>by
  refine(h.ok k (by omega)).step ?_;by_cases hp:k=p
  ·subst hp;exact .inl h.dot
  ·exact .inr (h.Bq k (by omega) hp)
def ID (s:ByteArray) (q f:Nat) (sg:Int):Int:=
 if(rf s q).Hx=0 then 0 else(rf s q).dp+ef s f (s.size-f)*sg-(rf s q).OL
theorem ZL {r:RF} {k:Nat}(h:NQ r k):r.Hx<10^19:=Nat.lt_of_lt_of_le h.lt (Nat.pow_le_pow_right (by decide) h.m19)
theorem UA {r:RF} {k:Nat}(h:NQ r k) (h2:r.OL<19):r.Hx<10^18:=Nat.lt_of_lt_of_le h.lt (Nat.pow_le_pow_right (by decide) (by omega))
end Go.Pf
end
section
namespace Go.Pf
def cN (c:Nat):Prop:=48<=c/\c<=57
theorem Bn {c:Nat} {n:Nat}(h:c≠n):((c:Int)==(n:Int))=false:=by rw[Bool.eq_false_iff];intro e;have:=eq_of_beq e;omega
theorem QC {c:Nat} {n:Nat}(h:c=n):((c:Int)==(n:Int))=true:=by rw[h];exact beq_self_eq_true _
end Go.Pf
end
