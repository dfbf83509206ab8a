import Derived.Test.YtpjcdbjablijkaaGreatDoorTae
import Derived.Test.YtpjcdbjablijkaaGreatDoorTah
import Derived.Test.YtpjcdbjablijkaaGreatDoorTai
import Derived.Test.YtpjcdbjablijkaaGreatDoorTaiB
import Derived.Lib.Strings
import Derived.Lib.Walk
import Derived.Lib.BufferWrite
import Derived.Lib.UnsafeStr
import Derived.Lib.Hide
import Derived.Lib.AtoiErrMem
import Derived.Laws.MakeOwn
import Derived.WalkKit
import Derived.Deep.RegionWith
import Derived.Test.YtpjcdbjablijkaaGreatDoorTaa
set_option maxRecDepth 1000000
set_option maxHeartbeats 40000000
section
namespace Go.Pf
open Go.RowKit
structure TabA (w:World) (B:Nat):Prop where
 f:TabF w B
 t13:Tab13 w B
 t16:Tab16 w
 o9:w.cell? ⟨4,0,none⟩=some (.bool true)
theorem TabA.below {w w':World} {B:Nat}(h:TabA w B) (hb:Below B w w'):TabA w' B:=by
 have hl:=h.f.lim
 exact⟨h.f.below hb,h.t13.below hb,h.t16.below hb (by omega),(hb.cell (p:=⟨4,0,none⟩) (by show 4<B;omega)).trans h.o9⟩
def AtSays (s:ByteArray) (p q f:Nat) (sg:Int) (w:World) (e:Ending) (w':World):Prop:=
 ∃b er,e= .returned (.tuple #[.float .f64 b,.int .i64 s.size,er])∧(er= .nilIface∨er= .iface 136 (.int .i64 1))∧(q≤401→FlT s p q f sg b)∧Below w.heap.size w w'
theorem errRange_or (b:Bool):errRange b= .nilIface∨errRange b= .iface 136 (.int .i64 1):=by
 cases b
 ·exact .inl rfl
 ·exact .inr rfl
end Go.Pf
namespace Go.Proofs
open Go.RowKit Go.Pf
theorem Tryz.atof64 (s:ByteArray) (p q f:Nat) (sg:Int) (w:World) (hF:Hid (FTxt s p q f sg)) (hn:Hid ((rf s q).trunc=false)) (hs:s.size≤4611686018427387904) (hT:Hid (TabA w w.heap.size)):
 Calls Tryz.prog 224 #[.string s] w (AtSays s p q f sg w):=by
 have p0:=hF.out.p0
 have pq:=hF.out.pq
 have qs:=hF.out.qs
 have h0:0<s.size:=by omega
 have hd:Hid (dgc s[0].toNat):=Hi (by have:=hF.out.dig 0 (by omega) (by omega);rw[byte_get h0]at this;exact this)
 have CS:=Hi (Tryz.special s w h0 hd)
 have CR:=Hi (Tryz.readFloat s p q f sg w hF hs)
 obtain⟨m,hm⟩:∃m,m=(rf s q).mant:=⟨_,rfl⟩
 obtain⟨x,hx⟩:∃x,x=rfExp s q f sg:=⟨_,rfl⟩
 obtain⟨tr,htr⟩:∃t,t=(rf s q).trunc:=⟨_,rfl⟩
 have htr0:Hid (tr=false):=Hi (htr.trans hn.out)
 unfold ReadSays at CR
 rw[←hm,←hx,←htr]at CR
 have o9:=hT.out.o9
 have a0:bits .or .u64 0 0=0:=by decide
 have a1:bits .or .u64 0 9218868437227405312=9218868437227405312:=by decide
 have zf:Tryz.prog=Tryz.prog:=rfl
 by_cases hz:m=0
 ·have HX:Hid (AtSays s p q f sg w (.returned (.tuple #[.float .f64 0,.int .i64 s.size,.nilIface])) w):=Hi ⟨0,_,rfl,.inl rfl,fun _=>at_nil hF.out (by rw[←hm];exact hz),Below.refl _ _⟩
  have mz:((m:Int)==0)=true:=eqt (n:=0) hz
  clear hm hx htr hz zf
  go_enter Tryz.func224,Tryz.ntmps224
  go_wp2_with ((first|(go_at_call 226;(with_reducible refine CS.out.mono ?_))|(go_at_call 227;(with_reducible refine CR.out.mono ?_))|(go_at_call 212;(with_reducible refine(Tryz.bool2u _ _).mono ?_)));rintro e w' ⟨rfl,rfl⟩)
  rw[show(0:Int)=((0:Nat):Int)from rfl,frombits_nat,Oper.upon_value]
  go_wp2
  go_ret3
  exact HX.out
 ·have mz:((m:Int)==0)=false:=eqf (n:=0) hz
  have hmz:(rf s q).mant≠0:=by rw[←hm];exact hz
  have ml:=mant_lt (hF.out.ok q (nR _))
  rw[←hm]at ml
  have ml2:m<10000000000000000000:=ml
  by_cases h3:310<x
  ·have HX:Hid (AtSays s p q f sg w (.returned (.tuple #[.float .f64 9218868437227405312,.int .i64 s.size,.iface 136 (.int .i64 1)])) w):=Hi ⟨_,_,rfl,.inr rfl,fun _=>at_inf hF.out hmz (by rw[←hx];exact h3),Below.refl _ _⟩
   have c3:decide (310<x)=true:=decide_eq_true h3
   clear hm hx htr hz zf hmz
   go_enter Tryz.func224,Tryz.ntmps224
   go_wp2_with ((first|(go_at_call 226;(with_reducible refine CS.out.mono ?_))|(go_at_call 227;(with_reducible refine CR.out.mono ?_))|(go_at_call 212;(with_reducible refine(Tryz.bool2u _ _).mono ?_)));rintro e w' ⟨rfl,rfl⟩)
   rw[show(9218868437227405312:Int)=((9218868437227405312:Nat):Int)from rfl,frombits_nat,Oper.upon_value]
   go_wp2
   go_ret3
   exact HX.out
  ·by_cases h4:x< -345
   ·have HX:Hid (AtSays s p q f sg w (.returned (.tuple #[.float .f64 0,.int .i64 s.size,.nilIface])) w):=Hi ⟨_,_,rfl,.inl rfl,fun _=>at_low hF.out hmz (by rw[←hx];exact h4),Below.refl _ _⟩
    have c3:decide (310<x)=false:=decide_eq_false h3
    have c4:decide (x< -345)=true:=decide_eq_true h4
    clear hm hx htr hz zf hmz
    go_enter Tryz.func224,Tryz.ntmps224
    go_wp2_with ((first|(go_at_call 226;(with_reducible refine CS.out.mono ?_))|(go_at_call 227;(with_reducible refine CR.out.mono ?_))|(go_at_call 212;(with_reducible refine(Tryz.bool2u _ _).mono ?_)));rintro e w' ⟨rfl,rfl⟩)
    rw[show(0:Int)=((0:Nat):Int)from rfl,frombits_nat,Oper.upon_value]
    go_wp2
    go_ret3
    exact HX.out
   ·have c3:decide (310<x)=false:=decide_eq_false h3
    have c4:decide (x< -345)=false:=decide_eq_false h4
    have lim:=hT.out.f.lim
    have CP:=Hi (fun W (hW:Hid (TabA W w.heap.size)) (hl:w.heap.size≤W.heap.size)=>Tryz.parseFloat64 m x W hz (by omega) (by omega) (by omega) (Hi hW.out.t16) (by omega))
    have PO:=pfN_ok m x hz (by omega) (by omega) (by omega)
    obtain⟨R,hR⟩:∃R,R=pfN m x:=⟨_,rfl⟩
    rw[←hR]at CP PO
    have CPw:=Hi (CP.out w hT (nR _))
    cases htr2:tr with
    |false=>
     rw[htr2]at CR htr
     have HP:Hid (∀w',Below w.heap.size w w'→AtSays s p q f sg w (.returned (.tuple #[.float .f64 R.1,.int .i64 s.size,errRange R.2])) w'):=Hi (fun w' hb=>⟨_,_,rfl,errRange_or _,fun _=>at_eq hF.out hmz htr.symm (by rw[←hm,←hx];exact PO),hb⟩)
     cases hax:axN m x with
     |some r=>
      have CE:Hid (Calls Tryz.prog 236 #[.int .u64 m,.int .i64 x,.bool false] w fun e w'=>e= .returned (.tuple #[.float .f64 r,.bool true])∧w=w'):=Hi ((Tryz.exact m x w.heap.size w (by omega) (by omega) (by omega) (by omega) (Hi hT.out.t13) hT.out.f.i0).mono (by
       rintro e w' ⟨y,h1,h2,h3⟩
       rw[h2 r hax,hax]at h1
       exact⟨h1,h3⟩))
      have HX:Hid (AtSays s p q f sg w (.returned (.tuple #[.float .f64 r,.int .i64 s.size,.nilIface])) w):=Hi ⟨_,_,rfl,.inl rfl,fun _=>at_eq hF.out hmz htr.symm (by rw[←hm,←hx];exact axN_ok (by omega) hax),Below.refl _ _⟩
      clear hm hx htr hz zf hmz CP PO hR hax ml ml2 h3 h4
      go_enter Tryz.func224,Tryz.ntmps224
      go_wp2_with ((first|(go_at_call 226;(with_reducible refine CS.out.mono ?_))|(go_at_call 227;(with_reducible refine CR.out.mono ?_))|(go_at_call 212;(with_reducible refine(Tryz.bool2u _ _).mono ?_))|(go_at_call 236;(with_reducible refine CE.out.mono ?_)));rintro e w' ⟨rfl,rfl⟩)
      go_ret3
      exact HX.out
     |none=>
      have CE:Hid (Calls Tryz.prog 236 #[.int .u64 m,.int .i64 x,.bool false] w fun e w'=>∃y,e= .returned (.tuple #[.float .f64 y,.bool false])∧w=w'):=Hi ((Tryz.exact m x w.heap.size w (by omega) (by omega) (by omega) (by omega) (Hi hT.out.t13) hT.out.f.i0).mono (by
       rintro e w' ⟨y,h1,h2,h3⟩
       rw[hax]at h1
       exact⟨y,h1,h3⟩))
      clear hm hx htr hz zf hmz CP PO hR hax ml ml2 h3 h4
      go_enter Tryz.func224,Tryz.ntmps224
      go_wp2_with ((first|(go_at_call 226;(with_reducible refine CS.out.mono ?_))|(go_at_call 227;(with_reducible refine CR.out.mono ?_))|(go_at_call 212;(with_reducible refine(Tryz.bool2u _ _).mono ?_)));rintro e w' ⟨rfl,rfl⟩)
      go_wp2_with (go_at_call 236;(with_reducible refine CE.out.mono ?_);rintro e w' ⟨y,rfl,rfl⟩)
      go_wp2_with (go_at_call 237;(with_reducible refine CPw.out.mono ?_);rintro e w' ⟨rfl,hb⟩)
      go_ret3
      exact HP.out _ hb
    |true=>exact absurd (htr2.symm.trans htr0.out) (by decide)
end Go.Proofs
end
section
namespace Go.Proofs
open Go.RowKit Go.Pf
theorem Tryz.infoB:(Tryz.prog.info? 5).map (fun i=>(i.zero,i.size,i.bytes))=some (some (.int .u8 0),1,1):=by kernel_rfl
theorem Tryz.clone (s:ByteArray) (w:World) (hlim:s.size≤281474976710656):Calls Tryz.prog 145 #[.string s] w fun e w'=>e= .returned (.string s)∧Below w.heap.size w w':=by
 by_cases h0:s.size=0
 ·have hs:s=⟨#[]⟩:=by
   apply ByteArray.ext
   exact Array.eq_empty_of_size_eq_zero h0
  subst hs
  go_enter Tryz.func145,Tryz.ntmps145
  go_wp2
  go_ret
  exact⟨rfl,Below.refl _ _⟩
 ·obtain⟨i0,hi,hz0,hz1,hz2⟩:=info_parts Tryz.infoB
  have hinfo:(Tryz.prog.info? 5).map (·.size)=some 1:=by rw[hi];simp[hz1]
  have hco:Tryz.prog.cellsOf 5=1:=by simp[Program.cellsOf,hi,hz1]
  obtain⟨M,hM⟩:∃M,M=madeCells (Value.int .u8 0).cells (((s.size:Nat):Int).toNat*i0.size):=⟨_,rfl⟩
  have hMs:M.size=s.size:=by rw[hM,size_madeCells,hz1];simp
  have hmk:∀W:World,(Instr.makeSlice 88 (.int .i64 (s.size:Int)) (.int .i64 (s.size:Int))).run Tryz.prog W= .ok (.slice (some ⟨W.heap.size,0,none⟩) s.size s.size) (W.alloc (.cells M 5)):=fun W=>by
   have h:=run_make (P:=Tryz.prog) W 88 5 i0 (.int .u8 0) Tryz.underlying88 hi hz0 .i64 .i64 (s.size:Int) (s.size:Int) (by omega) (by omega) (by rw[hz2];omega) (by omega)
   rw[←hM]at h
   simpa using h
  clear hM
  have hcp:=Lib.run_copy_row_string (P:=Tryz.prog) (w.alloc (.cells M 5)) 88 9 3 5 w.heap.size 0 s.size s.size s M 5 Tryz.underlying88 hinfo (heap_alloc_new w _) (nR _) (by omega)
  obtain⟨Y,hY⟩:∃Y,Y=(M.toList.take 0++Lib.byteCells s.data.toList++M.toList.drop (0+s.size)).toArray:=⟨_,rfl⟩
  rw[←hY]at hcp
  have hYl:Y.toList=Lib.byteCells s.data.toList:=by
   rw[hY,List.toList_toArray,List.take_zero,List.nil_append,List.drop_of_length_le (by rw[Array.length_toList];omega),List.append_nil]
  have hYs:Y.size=s.size:=by rw[←Array.length_toList,hYl,Lib.byteCells_length,←Lib.size_eq]
  have hgY:((w.alloc (.cells M 5)).setRow w.heap.size Y).heap[w.heap.size]? =some (.cells Y 5 (0,0)):=setRow_heap _ _ M _ 5 (0,0) (heap_alloc_new w _)
  have hne:s.data.toList≠ []:=fun e=>h0 (by rw[Lib.size_eq,e];rfl)
  have hUS:=Lib.run_unsafeString_row (P:=Tryz.prog) ((w.alloc (.cells M 5)).setRow w.heap.size Y) 128 3 9 5 Tryz.underlying128 hco w.heap.size Y.size (by unfold World.shape?;rw[hgY]) s.data.toList hne (by rw[←Lib.size_eq];omega) (by rw[←Lib.size_eq];omega)
   (fun j x hx=>Lib.cells_of_row hgY Y.size j _ (by rw[List.take_of_length_le (by rw[Array.length_toList];exact nR _),hYl];simp[Lib.byteCells,hx]))
  rw[←Lib.size_eq]at hUS
  clear hY
  go_enter Tryz.func145,Tryz.ntmps145
  go_wp2
  go_ret
  have hb1:Below w.heap.size w (w.alloc (.cells M 5)):=(Below.refl _ w).alloc (nR _) _
  have hb2:Below w.heap.size (w.alloc (.cells M 5)) ((w.alloc (.cells M 5)).setRow w.heap.size Y):=⟨rfl,rfl,rfl,by simp,fun k hk=>setRow_other _ _ _ _ (by omega)⟩
  exact⟨rfl,Lib.below_freeze (hb1.trans hb2) (p:=⟨w.heap.size,0,none⟩) (nR _) _⟩
theorem Tryz.rangeErr (fn s:ByteArray) (te:TypeId) (pe:Value) (w:World) (hlim:s.size≤281474976710656) (hv:w.cell? ⟨8,0,none⟩=some (.iface te pe)):
 Calls Tryz.prog 91 #[.string fn,.string s] w fun e w'=>∃N,e= .returned (.pointer (some ⟨N,0,none⟩))∧Below w.heap.size w w':=by
 have hG:8<w.heap.size:=Lib.lt_of_cell hv
 have hvd:w.drew.cell? ⟨8,0,none⟩=some (.iface te pe):=hv
 go_enter Tryz.func91,Tryz.ntmps91
 go_wp2
 go_region_with (go_at_call 145;(with_reducible refine(Tryz.clone s _ hlim).mono ?_);rintro e w2 ⟨rfl,hbel⟩;have hv2:w2.cell? ⟨8,0,none⟩=some (.iface te pe):=(hbel.cell (p:=⟨8,0,none⟩) (show 8<w.drew.heap.size from hG)).trans hvd)
 all_goals
  go_wp2
  go_ret
  have hs2:w.heap.size≤w2.heap.size:=hbel.size
  exact⟨_,rfl,((Below.drew (Below.refl _ w)).trans hbel).alloc hs2 _⟩
theorem Tryz.toErrRange (fn s:ByteArray) (a b:Int) (te:TypeId) (pe:Value) (w:World) (hlim:s.size≤281474976710656) (hv:w.cell? ⟨8,0,none⟩=some (.iface te pe)):
 Calls Tryz.prog 49 #[.string fn,.string s,.int .i64 a,.int .i64 b,.iface 136 (.int .i64 1)] w fun e w'=>∃v,e= .returned v∧Below w.heap.size w w':=by
 have h1:∀w,(binOp .eql 37 (.iface 136 (.int .i64 1)) (.iface 136 (.int .i64 2))).run Tryz.prog w= .ok (.bool false) w:=fun _=>by kernel_rfl
 have h2:∀w,(binOp .eql 37 (.iface 136 (.int .i64 1)) (.iface 136 (.int .i64 1))).run Tryz.prog w= .ok (.bool true) w:=fun _=>by kernel_rfl
 go_enter Tryz.func49,Tryz.ntmps49
 go_wp2_with (go_at_call 91;(with_reducible refine(Tryz.rangeErr _ _ te pe _ hlim hv).mono ?_);rintro e w' ⟨N,rfl,hb⟩)
 go_ret
 exact⟨_,rfl,hb⟩
structure TabP (w:World) (B:Nat):Prop where
 a:TabA w B
 e6:∃te pe,w.cell? ⟨8,0,none⟩=some (.iface te pe)
theorem TabP.below {w w':World} {B:Nat}(h:TabP w B) (hb:Below B w w'):TabP w' B:=by
 obtain⟨te,pe,h6⟩:=h.e6
 have hl:=h.a.f.lim
 exact⟨h.a.below hb,te,pe,(hb.cell (p:=⟨8,0,none⟩) (by show 8<B;omega)).trans h6⟩
theorem Tryz.parseFloatPrefix (s:ByteArray) (p q f:Nat) (sg:Int) (w:World) (hF:Hid (FTxt s p q f sg)) (hn:Hid ((rf s q).trunc=false)) (hs:s.size≤4611686018427387904) (hT:Hid (TabA w w.heap.size)):
 Calls Tryz.prog 218 #[.string s,.int .i64 64] w (AtSays s p q f sg w):=by
 go_enter Tryz.func218,Tryz.ntmps218
 go_wp2_with (go_at_call 224;(with_reducible refine(Tryz.atof64 s p q f sg _ hF hn hs hT).mono ?_);rintro e w' ⟨b,er,rfl,he,hf,hb⟩)
 go_ret3
 exact⟨b,er,rfl,he,hf,hb⟩
def IfSays (s:ByteArray) (p q f:Nat) (sg:Int) (w:World) (e:Ending) (w':World):Prop:=
 ∃b er,e= .returned (.tuple #[.float .f64 b,er])∧(er= .nilIface∨er= .iface 136 (.int .i64 1))∧(q≤401→FlT s p q f sg b)∧Below w.heap.size w w'
theorem Tryz.innerParseFloat (s:ByteArray) (p q f:Nat) (sg:Int) (w:World) (hF:Hid (FTxt s p q f sg)) (hn:Hid ((rf s q).trunc=false)) (hs:s.size≤4611686018427387904) (hT:Hid (TabA w w.heap.size)):
 Calls Tryz.prog 209 #[.string s,.int .i64 64] w (IfSays s p q f sg w):=by
 go_enter Tryz.func209,Tryz.ntmps209
 go_wp2_with (go_at_call 218;(with_reducible refine(Tryz.parseFloatPrefix s p q f sg _ hF hn hs hT).mono ?_);rintro e w' ⟨b,er,rfl,he,hf,hb⟩)
 go_ret2
 exact⟨b,er,rfl,he,hf,hb⟩
def FlSays (s:ByteArray) (p q f:Nat) (sg:Int) (w:World) (e:Ending) (w':World):Prop:=
 ∃b er,e= .returned (.tuple #[.float .f64 b,er])∧(q≤401→FlT s p q f sg b)∧Below w.heap.size w w'
theorem Tryz.parseFloat (s:ByteArray) (p q f:Nat) (sg:Int) (w:World) (hF:Hid (FTxt s p q f sg)) (hn:Hid ((rf s q).trunc=false)) (hs:s.size≤140737488355328) (hT:Hid (TabP w w.heap.size)):
 Calls Tryz.prog 159 #[.string s,.int .i64 64] w (FlSays s p q f sg w):=by
 go_enter Tryz.func159,Tryz.ntmps159
 go_upto_region 1 with fail
 go_cut [6,7]from 8 (fun s6 s7 wx=>∃b er,s6= .float .f64 b∧s7=er∧(er= .nilIface∨er= .iface 136 (.int .i64 1))∧(q≤401→FlT s p q f sg b)∧Below w.heap.size w wx)
 case first=>
  go_wp2_with (go_at_call 209;(with_reducible refine(Tryz.innerParseFloat s p q f sg _ hF hn (by omega) (Hi hT.out.a)).mono ?_);rintro e w1 ⟨b,er,rfl,he,hf,hb⟩)
  go_meet
  exact⟨b,er,rfl,rfl,he,hf,hb⟩
 case rest=>
  obtain⟨b,er,rfl,rfl,he,hf,hb⟩:=hcut
  rcases he with rfl|rfl
  ·go_wp2
   go_ret2
   exact⟨b,_,rfl,hf,hb⟩
  ·obtain⟨te,pe,h6⟩:=(hT.out.below hb).e6
   go_wp2_with (go_at_call 49;(with_reducible refine(Tryz.toErrRange _ _ _ _ te pe _ (by omega) h6).mono ?_);rintro e w2 ⟨v,rfl,hb2⟩)
   go_ret2
   exact⟨b,_,rfl,hf,hb.trans (hb2.mono hb.size)⟩
end Go.Proofs
end
