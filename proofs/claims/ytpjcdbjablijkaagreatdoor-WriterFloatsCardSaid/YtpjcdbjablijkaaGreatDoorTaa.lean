import Derived.Shelf.Small.Utf8
import Derived.Shelf.Small.Bits
import Derived.Shelf.Small.Strs
import Derived.Shelf.Unicode.Decode
import Derived.Shelf.Bits.Mul64
import Derived.Test.YtpjcdbjablijkaaGreatDoorProg
import Derived.Test.YtpjcdbjablijkaaGreatDoorChecked
import Derived.WalkKit
import Derived.BigCall
import Derived.BigQuiet
import Derived.LoopTactic
import Derived.Lib.Hide
import Derived.Outline
import Derived.OwnWalk
import Derived.RegionTactic
import Derived.ChangeAlike
import Derived.StillTailTactics
import Derived.Deep.QuietTactic
import Derived.Deep.RegionWith
import Derived.Deep.DeepCutAuto
import Derived.WalkMore
set_option maxRecDepth 1000000
set_option maxHeartbeats 40000000
namespace Go
theorem Hi {p:Prop}(h:p):RowKit.Hid p:=Lib.hid h
theorem dTo {p:Prop} [Decidable p] (h:p:=by omega):decide p=true:=decide_eq_true h
theorem dFo {p:Prop} [Decidable p] (h:¬p:=by omega):decide p=false:=decide_eq_false h
theorem nR (n:Nat):n≤n:=Nat.le.refl
end Go
section
namespace Go.Proofs
open Go.Shelf
def Tryz.lays129_ren:Go.Shelf.Ren:=⟨fun|129=>133|n=>n,fun|53=>22|3=>3|4=>4|46=>51|5=>5|9=>9|n=>n,fun|n=>n⟩
theorem Tryz.lays129:Go.Proofs.Lays.n129 Tryz.prog Tryz.lays129_ren:= {
 mixed:=by kernel_rfl
 f129:=Tryz.func133.trans (congrArg some (by kernel_rfl))
 t3:=Tryz.underlying3
 a3:=Tryz.isAgg3
 z3:=Tryz.sizeOf3
 v3:=Tryz.zeroValue3
 t4:=Tryz.underlying4
 a4:=Tryz.isAgg4
 z4:=Tryz.sizeOf4
 v4:=Tryz.zeroValue4
 t5:=Tryz.underlying5
 a5:=Tryz.isAgg5
 z5:=Tryz.sizeOf5
 v5:=Tryz.zeroValue5
 t9:=Tryz.underlying9
 a9:=Tryz.isAgg9
 z9:=Tryz.sizeOf9
 v9:=Tryz.zeroValue9
 t46:=Tryz.underlying51
 a46:=Tryz.isAgg51
 z46:=Tryz.sizeOf51
 v46:=Tryz.zeroValue51
 t53:=Tryz.underlying22
 a53:=Tryz.isAgg22
 z53:=Tryz.sizeOf22
 v53:=Tryz.zeroValue22}
theorem Tryz.bits_Len64 (x:Int) (w:World) (h0:0≤x) (h1:x≤18446744073709551615):
 Calls Tryz.prog 133 #[.int .u64 x] w fun e w'=>e= .returned (.int .i64 (Lib.bitLen x.toNat))∧w'=w:=Any.bits_Len64 Tryz.lays129 x w h0 h1
def Tryz.lays264_ren:Go.Shelf.Ren:=⟨fun|264=>96|n=>n,fun|53=>22|46=>51|n=>n,fun|n=>n⟩
theorem Tryz.lays264:Go.Proofs.Lays.n264 Tryz.prog Tryz.lays264_ren:= {
 mixed:=by kernel_rfl
 f264:=Tryz.func96.trans (congrArg some (by kernel_rfl))
 t46:=Tryz.underlying51
 a46:=Tryz.isAgg51
 z46:=Tryz.sizeOf51
 v46:=Tryz.zeroValue51
 t53:=Tryz.underlying22
 a53:=Tryz.isAgg22
 z53:=Tryz.sizeOf22
 v53:=Tryz.zeroValue22}
open Go.RowKit Go.Lib in
theorem Tryz.bits_Mul64 (x y:Nat) (hx:x<18446744073709551616) (hy:y<18446744073709551616) (w:World):
 Calls Tryz.prog 96 #[.int .u64 x,.int .u64 y] w fun e w'=>e= .returned (.tuple #[.int .u64 ((x*y/18446744073709551616:Nat):Int),.int .u64 ((x*y %18446744073709551616:Nat):Int)])∧w'=w:=Any.bits_Mul64 Tryz.lays264 x y hx hy w
end Go.Proofs
end
section
namespace Go.Pf
structure RF where
 mant:Nat
 nd:Nat
 ndm:Nat
 dp:Int
 trunc:Bool
def rfStep (r:RF) (c:Nat):RF:=
 if c=46 then {r with dp:=r.nd}
 else if c=48∧r.nd=0 then {r with dp:=r.dp-1}
 else if r.ndm<19 then {r with nd:=r.nd+1,mant:=r.mant*10+(c-48),ndm:=r.ndm+1}
 else {r with nd:=r.nd+1,trunc:=r.trunc||(c !=48)}
def byte (s:ByteArray) (k:Nat):Nat:=(s.data.toList.getD k 0).toNat
theorem byte_get {s:ByteArray} {k:Nat}(h:k<s.size):byte s k=s[k].toNat:=by
 unfold byte
 rw[List.getD_eq_getElem?_getD,List.getElem?_eq_getElem (by simpa using h)]
 rfl
def rf (s:ByteArray):Nat→RF
 |0=>⟨0,0,0,0,false⟩
 |k+1=>rfStep (rf s k) (byte s k)
structure RFok (r:RF) (k:Nat):Prop where
 m19:r.ndm≤19
 mn:r.ndm≤r.nd
 nk:r.nd≤k
 lt:r.mant<10^r.ndm
 lo: -(k:Int)≤r.dp
 hi:r.dp≤k
theorem RFok.zero:RFok ⟨0,0,0,0,false⟩ 0:=⟨by decide,by decide,by decide,by decide,by decide,by decide⟩
theorem RFok.step {r:RF} {k:Nat}(h:RFok r k){c:Nat}(hc:c=46∨(48≤c∧c≤57)):RFok (rfStep r c) (k+1):=by
 have a1:=h.m19;have a2:=h.mn;have a3:=h.nk;have a4:=h.lt;have a5:=h.lo;have a6:=h.hi
 unfold rfStep
 split
 ·exact⟨a1,a2,by simp only;omega,a4,by simp only;omega,by simp only;omega⟩
 split
 ·exact⟨a1,a2,by simp only;omega,a4,by simp only;omega,by simp only;omega⟩
 split
 ·refine⟨by simp only;omega,by simp only;omega,by simp only;omega,?_,by simp only;omega,by simp only;omega⟩
  simp only[Nat.pow_succ]
  omega
 ·exact⟨a1,by simp only;omega,by simp only;omega,a4,by simp only;omega,by simp only;omega⟩
def ef (s:ByteArray) (f:Nat):Nat→Nat
 |0=>0
 |j+1=>ef s f j*10+(byte s (f+j)-48)
theorem ef_lt (s:ByteArray) (f:Nat):∀j,(∀i,i<j→byte s (f+i)≤57)→ef s f j<10^j
 |0,_=>by simp[ef]
 |j+1,h=>by
  have h1:=ef_lt s f j (fun i hi=>h i (by omega))
  have h2:=h j (by omega)
  simp only[ef,Nat.pow_succ]
  omega
structure FTxt (s:ByteArray) (p q f:Nat) (sg:Int):Prop where
 p0:0<p
 pq:p+1<q
 qs:q≤s.size
 dig:∀j,j<q→j≠p→48≤byte s j∧byte s j≤57
 dot:byte s p=46
 tail:(q=s.size∧f=s.size∧sg=1)∨(q<s.size∧(byte s q=101∨byte s q=69)∧((f=q+1∧sg=1)∨(f=q+2∧sg=1∧byte s (q+1)=43)∨(f=q+2∧sg= -1∧byte s (q+1)=45))∧f<s.size∧s.size≤f+4∧∀j,f≤j→j<s.size→48≤byte s j∧byte s j≤57)
theorem FTxt.ok {s:ByteArray} {p q f:Nat} {sg:Int}(h:FTxt s p q f sg):∀k,k≤q→RFok (rf s k) k
 |0,_=>RFok.zero
 |k+1,hk=>by
  refine(h.ok k (by omega)).step ?_
  by_cases hp:k=p
  ·subst hp;exact .inl h.dot
  ·exact .inr (h.dig k (by omega) hp)
def rfExp (s:ByteArray) (q f:Nat) (sg:Int):Int:=
 if(rf s q).mant=0 then 0 else(rf s q).dp+ef s f (s.size-f)*sg-(rf s q).ndm
theorem mant_lt {r:RF} {k:Nat}(h:RFok r k):r.mant<10^19:=Nat.lt_of_lt_of_le h.lt (Nat.pow_le_pow_right (by decide) h.m19)
theorem mant_lt18 {r:RF} {k:Nat}(h:RFok r k) (h2:r.ndm<19):r.mant<10^18:=Nat.lt_of_lt_of_le h.lt (Nat.pow_le_pow_right (by decide) (by omega))
end Go.Pf
end
section
namespace Go.Pf
def dgc (c:Nat):Prop:=48≤c∧c≤57
theorem eqf {c:Nat} {n:Nat}(h:c≠n):((c:Int)==(n:Int))=false:=by rw[Bool.eq_false_iff];intro e;have:=eq_of_beq e;omega
theorem eqt {c:Nat} {n:Nat}(h:c=n):((c:Int)==(n:Int))=true:=by rw[h];exact beq_self_eq_true _
end Go.Pf
end
