import Derived.Test.YtnipmfaikiaipaaGreatDoorTay
import Derived.ChangeStays
import Derived.ChangeSame
import Derived.ProofKit
import Derived.OpenShut
import Derived.Deep.DeepHandedRow
import Derived.Lay
import Derived.ChangeBears2
import Derived.Shelf.Small.Utf8
import Derived.Shelf.Strings.BuilderK
import Derived.Shelf.Strings.BuilderRune
import Derived.Shelf.Strings.Prefix
import Derived.Test.YtnipmfaikiaipaaGreatDoorProg
import Derived.Test.YtnipmfaikiaipaaGreatDoorChecked
import Derived.WalkKit
import Derived.BigCall
import Derived.Test.YtnipmfaikiaipaaGreatDoorTak
import Derived.Deep.QuietTactic
import Derived.BigQuiet
import Derived.Test.YtnipmfaikiaipaaGreatDoorRows
import Derived.KernelRfl
import Derived.Test.YtnipmfaikiaipaaGreatDoorTaa
set_option maxRecDepth 1000000
set_option maxHeartbeats 40000000
section
namespace Go.Lx
theorem Lay.le {s:ByteArray} {p k e:Nat}(h:Lay s p k e):p≤s.size→e=0→k≤s.size:=by
 induction h with
 |done _=>exact fun h _=>h
 |stop _ _=>exact fun h _=>h
 |opn _ _=>exact fun _ h=>by cases h
 |bad _ _ _=>exact fun _ h=>by cases h
 |step h1 h2 _ _ ih=>exact fun _ h=>ih (layTo_bound h1 h2).2 h
end Go.Lx
namespace Go.Proofs
open Go.RowKit Go.Pf Go.Lx Go.Hb Go.Rb Go.Bg
def TR.tokL (R:TR) (ly:Bool):Value:=match R with
 | .ok k tx nu bits a en=>tokV k tx nu bits a en ly
 | .err p _=>badV p
def NextEnd (R:TR) (ly:Bool) (w:World) (e:Ending) (w':World):Prop:=e= .returned (.tuple #[TR.tokL R ly,.int .i64 (TR.er R:Nat)])∧Below w.heap.size w w'
theorem NextEnd.er {R:TR} {ly:Bool} {w w':World} {p n:Nat}(h:R= .err p n) (hb:Below w.heap.size w w'):NextEnd R ly w (.returned (.tuple #[badV p,.int .i64 n])) w':=by subst h;exact⟨rfl,hb⟩
theorem NextEnd.ok {R:TR} {ly:Bool} {w w':World} {k bits a E:Nat} {tx nu:ByteArray}(h:R= .ok k tx nu bits a E) (hb:Below w.heap.size w w'):NextEnd R ly w (.returned (.tuple #[tokV k tx nu bits a E ly,.int .i64 0])) w':=by subst h;exact⟨rfl,hb⟩
noncomputable def nxR (s:ByteArray) (K E:Nat):TR:=if E=0 then tokR s K else .err K E
def TR.nz:TR→Prop
 | .ok .. =>True
 | .err _ n=>n≠0
theorem nz_err (p:Nat){n:Nat}(h:n≠0):TR.nz (.err p n):=h
theorem chrR_nz {s:ByteArray} {a:Nat} {R:TR}(h:chrR s a=some R):TR.nz R:=by
 unfold chrR at h
 repeat' split at h
 all_goals first|(cases h;done)|(cases h;exact True.intro)|(cases h;exact nz_err _ (by decide))
theorem intR_nz (s:ByteArray) (a f t r:Nat):TR.nz (intR s a f t r):=by
 have key:∀(A B:TR),TR.nz A→TR.nz B→∀(c:Prop) [Decidable c],TR.nz (if c then A else B):=fun A B hA hB c _=>by
  split
  ·exact hA
  ·exact hB
 unfold intR
 refine key _ _ ?_ ?_ _
 ·exact True.intro
 ·exact nz_err _ (by decide)
theorem fltF_nz (s:ByteArray) (a p:Nat) (x:Int) (t:Nat):TR.nz (fltF s a p x t):=by
 unfold fltF
 split
 ·exact nz_err _ (by decide)
 ·split
  ·exact True.intro
  ·exact nz_err _ (by decide)
theorem fltR_nz (s:ByteArray) (a p:Nat):TR.nz (fltR s a p):=by
 unfold fltR
 split
 ·split
  ·exact nz_err _ (by decide)
  ·exact fltF_nz _ _ _ _ _
 ·exact fltF_nz _ _ _ _ _
theorem numR_nz (s:ByteArray) (a:Nat):TR.nz (numR s a):=by
 unfold numR
 split
 ·exact chrR_nz (by assumption)
 ·repeat' split
  all_goals first
   | (with_reducible exact intR_nz _ _ _ _ _)
   | (with_reducible exact fltR_nz _ _ _)
theorem quoS_nz {s:ByteArray} {a q p:Nat} {out:List UInt8} {R:TR}(h:quoS s a q p out= .inl R):TR.nz R:=by
 unfold quoS at h
 repeat' split at h
 all_goals first|(cases h;done)|(cases h;exact True.intro)|(cases h;exact nz_err _ (by decide))
theorem quoN_nz (s:ByteArray) (a q:Nat):∀(f p:Nat) (out:List UInt8),TR.nz (quoN s a q f p out)
 |0,_,_=>nz_err _ (by decide)
 |f+1,p,out=>by
  unfold quoN
  split
  ·exact quoS_nz (by assumption)
  ·exact quoN_nz s a q f _ _
theorem quoE_nz (s:ByteArray) (a q p:Nat) (out:List UInt8):TR.nz (quoE s a q p out):=quoN_nz _ _ _ _ _ _
theorem lngR_nz (s:ByteArray) (k a t:Nat):TR.nz (lngR s k a t):=by
 unfold lngR
 split
 ·exact nz_err _ (by decide)
 ·exact True.intro
theorem tokR_nz (s:ByteArray) (a:Nat):TR.nz (tokR s a):=by
 unfold tokR
 repeat' split
 all_goals first
  | (with_reducible exact numR_nz _ _)
  | (with_reducible exact quoE_nz _ _ _ _ _)
  | (with_reducible exact lngR_nz _ _ _ _)
  | (with_reducible exact nz_err _ (by decide))
  |exact True.intro
theorem tokR_er {s:ByteArray} {a p n:Nat}(h:tokR s a= .err p n):n≠0:=by
 have:=tokR_nz s a
 rw[h]at this
 exact this
end Go.Proofs
end
section
set_option linter.unusedVariables false
namespace Go.Proofs
open Go.Shelf
def Tryz.lays169_ren:Go.Shelf.Ren:=⟨fun|169=>47|n=>n,fun|70=>103|9=>9|0=>0|72=>106|37=>104|127=>156|3=>3|5=>5|n=>n,fun|n=>n⟩
theorem Tryz.lays169:Go.Proofs.Lays.n169 Tryz.prog Tryz.lays169_ren:= {
 mixed:=by kernel_rfl
 f169:=Tryz.func47.trans (congrArg some (by kernel_rfl))
 t0:=Tryz.underlying0
 a0:=Tryz.isAgg0
 z0:=Tryz.sizeOf0
 v0:=Tryz.zeroValue0
 t3:=Tryz.underlying3
 a3:=Tryz.isAgg3
 z3:=Tryz.sizeOf3
 v3:=Tryz.zeroValue3
 t9:=Tryz.underlying9
 a9:=Tryz.isAgg9
 z9:=Tryz.sizeOf9
 v9:=Tryz.zeroValue9
 t37:=Tryz.underlying104
 a37:=Tryz.isAgg104
 z37:=Tryz.sizeOf104
 v37:=Tryz.zeroValue104
 t70:=Tryz.underlying103
 a70:=Tryz.isAgg103
 z70:=Tryz.sizeOf103
 v70:=Tryz.zeroValue103
 t72:=Tryz.underlying106
 a72:=Tryz.isAgg106
 z72:=Tryz.sizeOf106
 v72:=Tryz.zeroValue106
 t127:=Tryz.underlying156
 a127:=Tryz.isAgg156
 z127:=Tryz.sizeOf156
 v127:=Tryz.zeroValue156}
theorem Tryz.Builder_Extra_169:Builder.Extra Tryz.prog Tryz.lays169_ren:= {
 sizeBuilder:=by kernel_rfl
 liesBuilder:=by kernel_rfl
 t5:=Tryz.underlying5
 a5:=Tryz.isAgg5
 z5:=Tryz.sizeOf5
 v5:=Tryz.zeroValue5
 infoByte:=by kernel_rfl
 cellsByte:=by kernel_rfl
 sizeByte:=by kernel_rfl
 neB5:=by decide}
open Go.RowKit in
theorem Tryz.Builder_String_any_k (B b:Nat) (l:List UInt8) (w:World) (h:Lib.IsBuilderF 106 5 B b (Lib.byteCells l) w) (hBw:B≤w.heap.size):
 Calls Tryz.prog 47 #[.pointer (some ⟨b,0,none⟩)] w fun e w'=>e= .returned (.string ⟨l.toArray⟩)∧(Lib.IsBuilderF 106 5 B b (Lib.byteCells l) w'∧Below B w w'∧Lib.OthersKept 5 (some b) w w'):=Any.Builder_String_any_k Tryz.lays169 Tryz.Builder_Extra_169 B b l w h hBw
def Tryz.lays118_ren:Go.Shelf.Ren:=⟨fun|118=>119|n=>n,fun|21=>21|3=>3|4=>4|n=>n,fun|n=>n⟩
theorem Tryz.lays118:Go.Proofs.Lays.n118 Tryz.prog Tryz.lays118_ren:= {
 mixed:=by kernel_rfl
 f118:=Tryz.func119.trans (congrArg some (by kernel_rfl))
 t3:=Tryz.underlying3
 a3:=Tryz.isAgg3
 z3:=Tryz.sizeOf3
 v3:=Tryz.zeroValue3
 t4:=Tryz.underlying4
 a4:=Tryz.isAgg4
 z4:=Tryz.sizeOf4
 v4:=Tryz.zeroValue4
 t21:=Tryz.underlying21
 a21:=Tryz.isAgg21
 z21:=Tryz.sizeOf21
 v21:=Tryz.zeroValue21}
theorem Tryz.utf8_RuneLen (r:Int) (w:World):
 Calls Tryz.prog 119 #[.int .i32 r] w fun e w'=>e= .returned (.int .i64 (Lib.runeLen r))∧w'=w:=Any.utf8_RuneLen Tryz.lays118 r w
def Tryz.lays99_ren:Go.Shelf.Ren:=⟨fun|99=>68|206=>111|n=>n,fun|9=>9|4=>4|3=>3|n=>n,fun|n=>n⟩
theorem Tryz.lays99:Go.Proofs.Lays.n99 Tryz.prog Tryz.lays99_ren:= {
 mixed:=by kernel_rfl
 f99:=Tryz.func68.trans (congrArg some (by kernel_rfl))
 f206:=Tryz.func111.trans (congrArg some (by kernel_rfl))
 t3:=Tryz.underlying3
 a3:=Tryz.isAgg3
 z3:=Tryz.sizeOf3
 v3:=Tryz.zeroValue3
 t4:=Tryz.underlying4
 a4:=Tryz.isAgg4
 z4:=Tryz.sizeOf4
 v4:=Tryz.zeroValue4
 t9:=Tryz.underlying9
 a9:=Tryz.isAgg9
 z9:=Tryz.sizeOf9
 v9:=Tryz.zeroValue9}
open Go.RowKit Go.Lib in
theorem Tryz.strings_HasPrefix (s p:ByteArray) (w:World):
 Calls Tryz.prog 68 #[.string s,.string p] w fun e w'=>e= .returned (.bool (Lib.hasPrefix s.data.toList p.data.toList))∧w'=w:=Any.strings_HasPrefix Tryz.lays99 s p w
def Tryz.lays242_ren:Go.Shelf.Ren:=⟨fun|242=>102|278=>151|n=>n,fun|72=>106|37=>104|21=>21|51=>176|4=>4|5=>5|46=>121|n=>n,fun|n=>n⟩
theorem Tryz.lays242:Go.Proofs.Lays.n242 Tryz.prog Tryz.lays242_ren:= {
 mixed:=by kernel_rfl
 f242:=Tryz.func102.trans (congrArg some (by kernel_rfl))
 f278:=Tryz.func151.trans (congrArg some (by kernel_rfl))
 t4:=Tryz.underlying4
 a4:=Tryz.isAgg4
 z4:=Tryz.sizeOf4
 v4:=Tryz.zeroValue4
 t5:=Tryz.underlying5
 a5:=Tryz.isAgg5
 z5:=Tryz.sizeOf5
 v5:=Tryz.zeroValue5
 t21:=Tryz.underlying21
 a21:=Tryz.isAgg21
 z21:=Tryz.sizeOf21
 v21:=Tryz.zeroValue21
 t37:=Tryz.underlying104
 a37:=Tryz.isAgg104
 z37:=Tryz.sizeOf104
 v37:=Tryz.zeroValue104
 t46:=Tryz.underlying121
 a46:=Tryz.isAgg121
 z46:=Tryz.sizeOf121
 v46:=Tryz.zeroValue121
 t51:=Tryz.underlying176
 a51:=Tryz.isAgg176
 z51:=Tryz.sizeOf176
 v51:=Tryz.zeroValue176}
theorem Tryz.Builder_Extra_242:Builder.Extra Tryz.prog Tryz.lays242_ren:= {
 sizeBuilder:=by kernel_rfl
 liesBuilder:=by kernel_rfl
 t5:=Tryz.underlying5
 a5:=Tryz.isAgg5
 z5:=Tryz.sizeOf5
 v5:=Tryz.zeroValue5
 infoByte:=by kernel_rfl
 cellsByte:=by kernel_rfl
 sizeByte:=by kernel_rfl
 neB5:=by decide}
open Go.RowKit in
theorem Tryz.utf8_AppendRune_own (B:Nat) (v:Value) (n:Nat) (xs:List Value) (r:Int) (hr0: -2147483648≤r) (hr1:r≤2147483647) (w:World) (hown:w.ownsRowF B 5 1 v n xs) (hlen:n+4≤140737488355328) (hBw:B≤w.heap.size):
 Calls Tryz.prog 102 #[v,.int .i32 r] w fun e w'=>∃v',e= .returned v'∧w'.ownsRowF B 5 1 v' (n+(Lib.runeCells r).length) (xs++Lib.runeCells r)∧∃o,(w.alloc o).grownBy w' v.ownBlock:=
 Any.utf8_AppendRune_own Tryz.lays242 Tryz.Builder_Extra_242 B v n xs r hr0 hr1 w hown hlen hBw
end Go.Proofs
end
section
namespace Go.Proofs
open Go.Shelf Go.RowKit
theorem Tryz.sizeBuilder:(Tryz.prog.info? 106).map (·.size)=some 2:=by kernel_rfl
theorem Tryz.liesBuilder:liesAt Tryz.prog Tryz.prog.depth 106 (2/Tryz.prog.cellsOf 106) 0 106 1=true:=by kernel_rfl
theorem Tryz.infoByte:(Tryz.prog.info? 5).map (fun i=>(i.zero,i.size,i.bytes))=some (some (.int .u8 0),1,1):=by kernel_rfl
theorem Tryz.copyCheck_used (b:Nat) (w:World) (h0:w.cell? ⟨b,0,none⟩=some (.pointer (some ⟨b,0,none⟩))):
 Calls Tryz.prog 89 #[.pointer (some ⟨b,0,none⟩)] w fun e w'=>e= .returned (.tuple #[])∧w'=w:=by
 obtain⟨j,hj,_⟩:=Option.map_eq_some_iff.1 Tryz.sizeBuilder
 go_enter Tryz.func89,Tryz.ntmps89
 go_wp2
 rw[Lib.run_neq_ptr_same w _ Tryz.underlying103 hj]
 go_wp2
 go_end0
 exact⟨rfl,rfl⟩
theorem Tryz.copyCheck_fresh (b:Nat) (w:World) (h0:w.cell? ⟨b,0,none⟩=some (.pointer none)) (hsh:w.shape? b=some (106,2)) (hfz:w.frozen? ⟨b,0,none⟩=false):
 Calls Tryz.prog 89 #[.pointer (some ⟨b,0,none⟩)] w fun e w'=>e= .returned (.tuple #[])∧w'=w.setCell ⟨b,0,none⟩ (.pointer (some ⟨b,0,none⟩)):=by
 obtain⟨j,hj,hjs⟩:=Option.map_eq_some_iff.1 Tryz.sizeBuilder
 go_enter Tryz.func89,Tryz.ntmps89
 go_wp2
 rw[Lib.run_to_unsafe w ⟨b,0,none⟩ Tryz.underlying103 Tryz.underlying187 hj (by rw[hjs];decide) hsh (Nat.zero_lt_succ 1)]
 simp only[Result.andThen]
 rw[Oper.upon_value]
 go_wp2
 rw[run_callFunc_extern Tryz.func133 (by kernel_rfl) (by kernel_rfl) (by kernel_rfl) (e:=Extern.AbiNoEscape.same) (by kernel_rfl)]
 rw[Lib.run_noEscape]
 simp only[Result.andThen]
 rw[Oper.upon_value]
 go_wp2
 rw[Lib.run_from_unsafe w ⟨b,0,none⟩ Tryz.underlying187 Tryz.underlying103 hj hsh Tryz.liesBuilder]
 simp only[Result.andThen]
 rw[Oper.upon_value]
 go_wp2
 go_end0
 exact⟨rfl,rfl⟩
theorem Tryz.copyCheck_k (B b:Nat) (bs:List Value) (w:World) (h:Lib.IsBuilderF 106 5 B b bs w):
 Calls Tryz.prog 89 #[.pointer (some ⟨b,0,none⟩)] w fun e w'=>e= .returned (.tuple #[])∧(Lib.BuilderAtF 106 5 B b (.pointer (some ⟨b,0,none⟩)) bs w'∧Below B w w'∧Lib.OthersKept 5 (some b) w w'):=by
 rcases h with h|h
 ·refine(Tryz.copyCheck_fresh b w h.cell0 h.shape h.frozen0).mono ?_
  rintro e w' ⟨rfl,rfl⟩
  exact⟨rfl,h.used _,(Below.refl B w).setCell (p:=⟨b,0,none⟩) h.1 _,(Lib.OthersKept.refl _ _ w).setCell ⟨b,0,none⟩ rfl _⟩
 ·refine(Tryz.copyCheck_used b w h.cell0).mono ?_
  rintro e w' ⟨rfl,rfl⟩
  exact⟨rfl,h,Below.refl B _,Lib.OthersKept.refl _ _ _⟩
theorem Tryz.WriteByte_k (B b:Nat) (bs:List Value) (c:Int) (w:World) (h:Lib.IsBuilderF 106 5 B b bs w) (hlen:bs.length+1≤140737488355328) (hBw:B≤w.heap.size):
 Calls Tryz.prog 57 #[.pointer (some ⟨b,0,none⟩),.int .u8 c] w fun e w'=>e= .returned .nilIface∧(Lib.BuilderAtF 106 5 B b (.pointer (some ⟨b,0,none⟩)) (bs++ [.int .u8 c]) w'∧Below B w w'∧Lib.OthersKept 5 (some b) w w'):=by
 obtain⟨i0,hi,hz0,hz1,hz2⟩:=info_parts Tryz.infoByte
 go_enter Tryz.func57,Tryz.ntmps57
 go_wp2_with (go_at_call 89;refine(Tryz.copyCheck_k B b bs _ h).mono ?_)
 rintro e w1 ⟨rfl,h1,hb1,hk1⟩
 obtain⟨hB,v,hbk,hown,hne⟩:=h1
 have c0:w1.cell? ⟨b,0,none⟩=some (.pointer (some ⟨b,0,none⟩)):=by rw[Lib.cell_of_heap hbk];rfl
 have c1:w1.cell? ⟨b,1,none⟩=some v:=by rw[Lib.cell_of_heap hbk];rfl
 go_wp2_with (at_builtin;refine wpList_append_ownF _ rfl _ _ 104 rfl B 5 i0 (.int .u8 0) 1 1 Tryz.underlying104 hi hz0 hz1 hz2 rfl (by decide) _ _ _ rfl (hown.alloc _) ⟨w1.heap.size,0,none⟩ 1 1 [.int .u8 c] rfl rfl ?c1 ?c2 ?c3 ?c4 ?c5 ?_)
 case c1=>
  intro j u hj
  match j,hj with
  |0,hj=>simp at hj;subst hj;simp[Addr.add]
 case c2=>intro u hu;simp at hu;subst hu;rfl
 case c3=>unfold maxLen;omega
 case c4=>omega
 case c5=>have:=hb1.size;simp;omega
 intro v' w2 hown' hgrow _
 have hlt:b<w1.heap.size:=by
  rcases Nat.lt_or_ge b w1.heap.size with h'|h'
  ·exact h'
  ·simp[Array.getElem?_eq_none h']at hbk
 have hb2:w2.heap[b]? =some (.cells #[.pointer (some ⟨b,0,none⟩),v] 106 (0,0)):=by
  rw[hgrow.block b (by simp;omega) (fun e=>hne e.symm),Lib.alloc_old w1 _ b hlt]
  exact hbk
 have d0:w2.cell? ⟨b,0,none⟩=some (.pointer (some ⟨b,0,none⟩)):=by rw[Lib.cell_of_heap hb2];rfl
 have d1:w2.cell? ⟨b,1,none⟩=some v:=by rw[Lib.cell_of_heap hb2];rfl
 have f1:w2.frozen? ⟨b,1,none⟩=false:=Lib.frozen_of_heap hb2 1
 obtain⟨g,cap,rfl⟩:∃g cap,v'= .slice (some ⟨g,0,none⟩) (bs.length+1) cap:=by
  rcases hown'.2 with⟨_,h0⟩|⟨g,cap,cur,fz,hv,_⟩
  ·omega
  ·exact⟨g,cap,hv⟩
 go_wp2
 go_ret
 refine⟨rfl,?_,?_,((hk1.alloc _).grown hgrow (Lib.ownsRowF_kind (hown.alloc _))).setCell ⟨b,1,none⟩ rfl _⟩
 ·exact Lib.BuilderAtF.put (T:=106) (e:=5) hB hb2 (bs':=bs++ [.int .u8 c]) (by simpa using hown') (by decide)
 ·exact((hb1.alloc (by have:=hb1.size;omega) _).grown hgrow (by have:=hb1.size;simp;omega) (fun k hk=>(hown.lt k hk).1)).setCell (p:=⟨b,1,none⟩) hB _
theorem Tryz.WriteRune_k (B b:Nat) (bs:List Value) (r:Int) (hr0: -2147483648≤r) (hr1:r≤2147483647) (w:World) (h:Lib.IsBuilderF 106 5 B b bs w) (hlen:bs.length+4≤140737488355328) (hBw:B≤w.heap.size):
 Calls Tryz.prog 58 #[.pointer (some ⟨b,0,none⟩),.int .i32 r] w fun e w'=>e= .returned (.tuple #[.int .i64 (Lib.runeCells r).length,.nilIface])∧(Lib.BuilderAtF 106 5 B b (.pointer (some ⟨b,0,none⟩)) (bs++Lib.runeCells r) w'∧Below B w w'∧Lib.OthersKept 5 (some b) w w'):=by
 have hk4:=Lib.runeCells_le r
 go_enter Tryz.func58,Tryz.ntmps58
 go_wp2_with (go_at_call 89;refine(Tryz.copyCheck_k B b bs _ h).mono ?_)
 rintro e w1 ⟨rfl,h1,hb1,hk1⟩
 obtain⟨hB,v,hbk,hown,hne⟩:=h1
 obtain⟨ao,cap,rfl⟩:∃ao cap,v= .slice ao bs.length cap:=by
  rcases hown.2 with⟨hv,h0⟩|⟨g,cap,cur,fz,hv,_⟩
  ·exact⟨none,0,by rw[hv,h0]⟩
  ·exact⟨_,_,hv⟩
 have c0:w1.cell? ⟨b,0,none⟩=some (.pointer (some ⟨b,0,none⟩)):=by rw[Lib.cell_of_heap hbk];rfl
 have c1:w1.cell? ⟨b,1,none⟩=some (.slice ao bs.length cap):=by rw[Lib.cell_of_heap hbk];rfl
 go_wp2_with (go_at_call 102;refine(Tryz.utf8_AppendRune_own B _ bs.length bs r hr0 hr1 _ hown hlen (by have:=hb1.size;omega)).mono ?_)
 rintro e w2 ⟨v',rfl,hown',o,hgrow⟩
 have hlt:b<w1.heap.size:=by
  rcases Nat.lt_or_ge b w1.heap.size with h'|h'
  ·exact h'
  ·simp[Array.getElem?_eq_none h']at hbk
 have hb2:w2.heap[b]? =some (.cells #[.pointer (some ⟨b,0,none⟩),.slice ao bs.length cap] 106 (0,0)):=by
  rw[hgrow.block b (by simp;omega) (fun e=>hne e.symm),Lib.alloc_old w1 _ b hlt]
  exact hbk
 have d0:w2.cell? ⟨b,0,none⟩=some (.pointer (some ⟨b,0,none⟩)):=by rw[Lib.cell_of_heap hb2];rfl
 have d1:w2.cell? ⟨b,1,none⟩=some (.slice ao bs.length cap):=by rw[Lib.cell_of_heap hb2];rfl
 have f1:w2.frozen? ⟨b,1,none⟩=false:=Lib.frozen_of_heap hb2 1
 obtain⟨g,cap',rfl⟩:∃g cap',v'= .slice (some ⟨g,0,none⟩) (bs.length+(Lib.runeCells r).length) cap':=by
  rcases hown'.2 with⟨_,h0⟩|⟨g,cap',cur,fz,hv,_⟩
  ·omega
  ·exact⟨g,cap',hv⟩
 go_wp2
 go_ret2
 refine⟨?_,?_,?_,((hk1.alloc _).grown hgrow (Lib.ownsRowF_kind (hown.alloc _))).setCell ⟨b,1,none⟩ rfl _⟩
 ·have e:((bs.length:Int)+((Lib.runeCells r).length:Int)-(bs.length:Int))=((Lib.runeCells r).length:Int):=by omega
  simp[e]
 ·exact Lib.BuilderAtF.put (T:=106) (e:=5) hB hb2 (bs':=bs++Lib.runeCells r) (by simpa using hown') (by decide)
 ·exact((hb1.alloc (by have:=hb1.size;omega) _).grown hgrow (by have:=hb1.size;simp;omega) (fun k hk=>(hown.lt k hk).1)).setCell (p:=⟨b,1,none⟩) hB _
end Go.Proofs
end
section
namespace Go.Proofs
open Go.RowKit Go.Hb
open Go.Proofs.YtnipmfaikiaipaaGreatDoor
def Laid0 (W:World):Prop:=∃W0:World,laidMet Tryz.prog Rows.writerNamesRow.laid W0∧W0.ShapedOpen Tryz.prog∧(∀g,g<Tryz.prog.globals.size→W.heap[g]? =W0.heap[g]?)∧Tryz.prog.globals.size≤W.heap.size
theorem Laid0.below {W W':World}(h:Laid0 W) (hb:Below W.heap.size W W'):Laid0 W':=by
 obtain⟨W0,h1,h2,h3,h4⟩:=h
 refine⟨W0,h1,h2,fun g hg=> ?_,?_⟩
 ·rw[hb.block g (by omega),h3 g hg]
 ·have:=hb.size;omega
theorem heap_more0 {P:Program} {W0:World}(h:W0.ShapedOpen P){k:Nat}(h1:Nat.ble P.globals.size k=true) (h2:Nat.ble (k+1) (begin P (fun _ _=>0) default).world.heap.size=true):k<W0.heap.size:=by
 obtain⟨o,_,ho,_⟩:=h.2 k (Nat.le_of_ble_eq_true h1) (Nat.le_of_ble_eq_true h2)
 exact(Array.getElem?_eq_some_iff.1 ho).1
theorem heap_more {W0:World}(h:W0.ShapedOpen Tryz.prog){k:Nat}(h1:Nat.ble Tryz.prog.globals.size k=true) (h2:Nat.ble (k+1) (begin Tryz.prog (fun _ _=>0) default).world.heap.size=true):k<W0.heap.size:=heap_more0 h h1 h2
theorem Laid0.of {W:World}(h1:laidMet Tryz.prog Rows.writerNamesRow.laid W) (h2:W.ShapedOpen Tryz.prog):Laid0 W:=by
 have h3:21<W.heap.size:=heap_more h2 (k:=21) (by kernel_rfl) (by kernel_rfl)
 have h4:Tryz.prog.globals.size≤21:=Nat.le_of_ble_eq_true (by kernel_rfl)
 exact⟨W,h1,h2,fun _ _=>rfl,by omega⟩
theorem isB_below {T e:TypeId} {B b:Nat} {bs:List Value} {W W':World}(h:Lib.IsBuilderF T e B b bs W) (hb:Below W.heap.size W W'):Lib.IsBuilderF T e B b bs W':=by
 have key:∀{p:Value},Lib.BuilderAtF T e B b p bs W→Lib.BuilderAtF T e B b p bs W':=by
  intro p h
  have hlt:=h.lt
  obtain⟨hB,v,hv,hown,hne⟩:=h
  exact⟨hB,v,(hb.block b hlt).trans hv,hown.kept (row:=none) ⟨hb.os,hb.tape,hb.output,hb.size,fun k hk _=>hb.block k hk⟩ (Classical.em _),hne⟩
 exact h.elim (fun x=> .inl (key x)) (fun x=> .inr (key x))
end Go.Proofs
end
