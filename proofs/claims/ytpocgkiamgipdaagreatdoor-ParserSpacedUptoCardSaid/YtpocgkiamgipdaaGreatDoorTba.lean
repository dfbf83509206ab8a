import Derived.Test.YtpocgkiamgipdaaGreatDoorTay
import Derived.ChangeStays
import Derived.ChangeSame
import Derived.ProofKit
import Derived.OpenShut
import Derived.Deep.DeepHandedRow
import Derived.Lay
import Derived.ChangeBears2
import Derived.Shelf.Strings.BuilderK
import Derived.Shelf.Strings.BuilderRune
import Derived.Shelf.Strings.Prefix
import Derived.Test.YtpocgkiamgipdaaGreatDoorRows
import Derived.KernelRfl
import Derived.Lib.LaidU8T
import Derived.Lib.LaidTab
import Derived.IntWalk
import Derived.Shelf.Strings.Builder1
import Derived.Shelf.Strings.BuilderF
import Derived.Shelf.Strconv.Clone
import Derived.Shelf.Strconv.Lower
import Derived.Shelf.Strconv.ParseUint10Empty
import Derived.Shelf.Strconv.ParseUintEmpty
import Derived.Shelf.Strings.Search1
import Derived.Shelf.Strings.Search2
import Derived.Shelf.Strings.Search3
import Derived.Shelf.Strings.Shaped
set_option maxRecDepth 1000000
set_option maxHeartbeats 0
set_option linter.unusedVariables false
set_option linter.unusedSimpArgs false
open Go.Proofs.Tryz
section
namespace Go.Lx
theorem Lay.le {s:ByteArray} {p k e:Nat}(h:Lay s p k e):p<=s.size->e=0->k<=s.size:=by
 induction h with
 |done _=>exact fun h _=>h
 |stop _ _=>exact fun h _=>h
 |Si _ _=>exact fun _ h=>by cases h
 |bad _ _ _=>exact fun _ h=>by cases h
 |step h1 h2 _ _ ih=>exact fun _ h=>ih (Ex h1 h2).2 h
end Go.Lx
namespace Go.Proofs
open Go.RowKit Go.Pf Go.Lx Go.Hb Go.Rb Go.Bg
def TR.gq (R:TR) (ly:Bool):Value:=match R with
 | .ok k tx nu bits a en=>Ai k tx nu bits a en ly
 | .err p _=>Nw p
def Dv (R:TR) (ly:Bool) (w:World) (e:Ending) (w':World):Prop:=e= .returned (.tuple #[TR.gq R ly,.int .i64 (TR.er R:Nat)])/\Below w.heap.size w w'
theorem Dv.er {R:TR} {ly:Bool} {w w':World} {p n:Nat}(h:R= .err p n) (hb:Below w.heap.size w w'):Dv R ly w (.returned (.tuple #[Nw p,.int .i64 n])) w':=by subst h;exact⟨rfl,hb⟩
theorem Dv.ok {R:TR} {ly:Bool} {w w':World} {k bits a E:Nat} {tx nu:ByteArray}(h:R= .ok k tx nu bits a E) (hb:Below w.heap.size w w'):Dv R ly w (.returned (.tuple #[Ai k tx nu bits a E ly,.int .i64 0])) w':=by subst h;exact⟨rfl,hb⟩
noncomputable def Pp (s:ByteArray) (K E:Nat):TR:=if E=0 then Dy s K else .err K E
def TR.nz:TR->Prop
 | .ok .. =>True
 | .err _ n=>n≠0
theorem Fi (p:Nat){n:Nat}(h:n≠0):TR.nz (.err p n):=h
theorem bP {s:ByteArray} {a:Nat} {R:TR}(h:De s a=some R):TR.nz R:=by
 unfold De at h
 repeat' split at h
 all_goals first|(cases h;done)|(cases h;exact True.intro)|(cases h;exact Fi _ (by decide))
theorem bV (s:ByteArray) (a f t r:Nat):TR.nz (Cy s a f t r):=by
 have key:∀(A B:TR),TR.nz A->TR.nz B->∀(c:Prop) [Decidable c],TR.nz (if c then A else B):=fun A B hA hB c _=>by
  split
  ·exact hA
  ·exact hB
 unfold Cy;refine key _ _ ?_ ?_ _
 ·exact True.intro
 ·exact Fi _ (by decide)
theorem R9 (s:ByteArray) (a p:Nat) (x:Int) (t:Nat):TR.nz (Hr s a p x t):=by
 unfold Hr;split
 ·exact Fi _ (by decide)
 ·split
  ·exact True.intro
  ·exact Fi _ (by decide)
theorem ZE (s:ByteArray) (a p:Nat):TR.nz (Ek s a p):=by
 unfold Ek;split
 ·split
  ·exact Fi _ (by decide)
  ·exact R9 _ _ _ _ _
 ·exact R9 _ _ _ _ _
theorem Yo (s:ByteArray) (a:Nat):TR.nz (GL s a):=by
 unfold GL;split
 ·exact bP (by assumption)
 ·repeat' split
  all_goals first
   | (with_reducible exact bV _ _ _ _ _)
   | (with_reducible exact ZE _ _ _)
theorem ZT {s:ByteArray} {a q p:Nat} {out:List UInt8} {R:TR}(h:Dd s a q p out= .inl R):TR.nz R:=by
 unfold Dd at h
 repeat' split at h
 all_goals first|(cases h;done)|(cases h;exact True.intro)|(cases h;exact Fi _ (by decide))
theorem TJ (s:ByteArray) (a q:Nat):∀(f p:Nat) (out:List UInt8),TR.nz (Gv s a q f p out)
 |0,_,_=>Fi _ (by decide)
 |f+1,p,out=>by
  unfold Gv;split
  ·exact ZT (by assumption)
  ·exact TJ s a q f _ _
theorem ZS (s:ByteArray) (a q p:Nat) (out:List UInt8):TR.nz (Cz s a q p out):=TJ _ _ _ _ _ _
theorem bE (s:ByteArray) (k a t:Nat):TR.nz (Cw s k a t):=by
 unfold Cw;split
 ·exact Fi _ (by decide)
 ·exact True.intro
theorem Zx (s:ByteArray) (a:Nat):TR.nz (Dy s a):=by
 unfold Dy
 repeat' split
 all_goals first
  | (with_reducible exact Yo _ _)
  | (with_reducible exact ZS _ _ _ _ _)
  | (with_reducible exact bE _ _ _ _)
  | (with_reducible exact Fi _ (by decide))
  |exact True.intro
theorem SS {s:ByteArray} {a p n:Nat}(h:Dy s a= .err p n):n≠0:=by
 have:=Zx s a;rw[h]at this;exact this
end Go.Proofs
end
section
namespace Go.Proofs
open Go.Shelf
def Jf:Go.Shelf.Ren:=⟨fun|169=>91|n=>n,fun|70=>142|9=>9|0=>0|72=>145|37=>143|127=>186|3=>3|5=>5|n=>n,fun|n=>n⟩
theorem av:Go.Proofs.Lays.n169 prog Jf:= {
 mixed:=by kernel_rfl
 f169:=Tryz.func91.trans (mQ some (by kernel_rfl))
 t0:=underlying0
 a0:=isAgg0
 z0:=sizeOf0
 v0:=zeroValue0
 t3:=nU
 a3:=isAgg3
 z3:=sizeOf3
 v3:=pC
 t9:=mS
 a9:=isAgg9
 z9:=sizeOf9
 v9:=pO
 t37:=my
 a37:=isAgg143
 z37:=sizeOf143
 v37:=zeroValue143
 t70:=underlying142
 a70:=isAgg142
 z70:=sizeOf142
 v70:=zeroValue142
 t72:=underlying145
 a72:=isAgg145
 z72:=sizeOf145
 v72:=zeroValue145
 t127:=underlying186
 a127:=isAgg186
 z127:=sizeOf186
 v127:=zeroValue186}
theorem IG:Builder.Extra prog Jf:= {
 sizeBuilder:=by kernel_rfl
 liesBuilder:=by kernel_rfl
 t5:=nV
 a5:=isAgg5
 z5:=sizeOf5
 v5:=pD
 infoByte:=by kernel_rfl
 cellsByte:=by kernel_rfl
 sizeByte:=by kernel_rfl
 neB5:=by decide}
open Go.RowKit in
theorem Tryz.Builder_String_any_k (B b:Nat) (l:List UInt8) (w:World) (h:Lib.IsBuilderF 145 5 B b (Lib.byteCells l) w) (hBw:B<=w.heap.size):
 Calls prog 91 #[.pointer (some ⟨b,0,none⟩)] w fun e w'=>e= .returned (.string ⟨l.toArray⟩)/\(Lib.IsBuilderF 145 5 B b (Lib.byteCells l) w'/\Below B w w'/\Lib.OthersKept 5 (some b) w w'):=Any.Builder_String_any_k av IG B b l w h hBw
def Ou:Go.Shelf.Ren:=⟨fun|118=>89|n=>n,fun|21=>21|3=>3|4=>4|n=>n,fun|n=>n⟩
theorem aY:Go.Proofs.Lays.n118 prog Ou:= {
 mixed:=by kernel_rfl
 f118:=Tryz.func89.trans (mQ some (by kernel_rfl))
 t3:=nU
 a3:=isAgg3
 z3:=sizeOf3
 v3:=pC
 t4:=oF
 a4:=isAgg4
 z4:=pT
 v4:=od
 t21:=underlying21
 a21:=isAgg21
 z21:=sizeOf21
 v21:=zeroValue21}
theorem Tryz.utf8_RuneLen (r:Int) (w:World):
 Calls prog 89 #[.int .i32 r] w fun e w'=>e= .returned (.int .i64 (Lib.runeLen r))/\w'=w:=Any.utf8_RuneLen aY r w
def Qp:Go.Shelf.Ren:=⟨fun|99=>53|206=>80|n=>n,fun|9=>9|4=>4|3=>3|n=>n,fun|n=>n⟩
theorem eI:Go.Proofs.Lays.n99 prog Qp:= {
 mixed:=by kernel_rfl
 f99:=Tryz.func53.trans (mQ some (by kernel_rfl))
 f206:=Tryz.func80.trans (mQ some (by kernel_rfl))
 t3:=nU
 a3:=isAgg3
 z3:=sizeOf3
 v3:=pC
 t4:=oF
 a4:=isAgg4
 z4:=pT
 v4:=od
 t9:=mS
 a9:=isAgg9
 z9:=sizeOf9
 v9:=pO}
open Go.RowKit Go.Lib in
theorem Tryz.strings_HasPrefix (s p:ByteArray) (w:World):
 Calls prog 53 #[.string s,.string p] w fun e w'=>e= .returned (.bool (Lib.hasPrefix s.data.toList p.data.toList))/\w'=w:=Any.strings_HasPrefix eI s p w
def Jg:Go.Shelf.Ren:=⟨fun|242=>120|278=>141|n=>n,fun|72=>145|37=>143|21=>21|51=>133|4=>4|5=>5|46=>164|n=>n,fun|n=>n⟩
theorem YX:Go.Proofs.Lays.n242 prog Jg:= {
 mixed:=by kernel_rfl
 f242:=Tryz.func120.trans (mQ some (by kernel_rfl))
 f278:=Tryz.func141.trans (mQ some (by kernel_rfl))
 t4:=oF
 a4:=isAgg4
 z4:=pT
 v4:=od
 t5:=nV
 a5:=isAgg5
 z5:=sizeOf5
 v5:=pD
 t21:=underlying21
 a21:=isAgg21
 z21:=sizeOf21
 v21:=zeroValue21
 t37:=my
 a37:=isAgg143
 z37:=sizeOf143
 v37:=zeroValue143
 t46:=oO
 a46:=isAgg164
 z46:=sizeOf164
 v46:=pL
 t51:=underlying133
 a51:=isAgg133
 z51:=sizeOf133
 v51:=zeroValue133}
theorem Ie:Builder.Extra prog Jg:= {
 sizeBuilder:=by kernel_rfl
 liesBuilder:=by kernel_rfl
 t5:=nV
 a5:=isAgg5
 z5:=sizeOf5
 v5:=pD
 infoByte:=by kernel_rfl
 cellsByte:=by kernel_rfl
 sizeByte:=by kernel_rfl
 neB5:=by decide}
open Go.RowKit in
theorem Tryz.utf8_AppendRune_own (B:Nat) (v:Value) (n:Nat) (xs:List Value) (r:Int) (qO: -2147483648<=r) (vT:r<=2147483647) (w:World) (qD:w.ownsRowF B 5 1 v n xs) (hlen:n+4<=140737488355328) (hBw:B<=w.heap.size):
 Calls prog 120 #[v,.int .i32 r] w fun e w'=>∃v',e= .returned v'/\w'.ownsRowF B 5 1 v' (n+(Lib.runeCells r).length) (xs++Lib.runeCells r)/\∃o,(w.alloc o).grownBy w' v.ownBlock:=
 Any.utf8_AppendRune_own YX Ie B v n xs r qO vT w qD hlen hBw
end Go.Proofs
end
section
namespace Go.Proofs
open Go.Shelf Go.RowKit
theorem Tryz.sizeBuilder:(Tryz.prog.info? 145).map (·.size)=some 2:=by kernel_rfl
theorem Tryz.liesBuilder:liesAt prog Tryz.prog.depth 145 (2/Tryz.prog.cellsOf 145) 0 145 1=true:=by kernel_rfl
theorem Tryz.infoByte:(Tryz.prog.info? 5).map (fun i=>(i.zero,i.size,i.bytes))=some (some (.int .u8 0),1,1):=by kernel_rfl
theorem Lo (b:Nat) (w:World) (h0:w.cell? ⟨b,0,none⟩=some (.pointer (some ⟨b,0,none⟩))):
 Calls prog 116 #[.pointer (some ⟨b,0,none⟩)] w fun e w'=>e= .returned (.tuple #[])/\w'=w:=by
 obtain⟨j,hj,_⟩:=Option.map_eq_some_iff.1 Tryz.sizeBuilder;go_enter func116,ntmps116;go_wp2;rw[Lib.run_neq_ptr_same w _ underlying142 hj];go_wp2
 go_end0
 exact⟨rfl,rfl⟩
theorem Jl (b:Nat) (w:World) (h0:w.cell? ⟨b,0,none⟩=some (.pointer none)) (hsh:w.shape? b=some (145,2)) (hfz:w.frozen? ⟨b,0,none⟩=false):
 Calls prog 116 #[.pointer (some ⟨b,0,none⟩)] w fun e w'=>e= .returned (.tuple #[])/\w'=w.setCell ⟨b,0,none⟩ (.pointer (some ⟨b,0,none⟩)):=by
 obtain⟨j,hj,sw⟩:=Option.map_eq_some_iff.1 Tryz.sizeBuilder;go_enter func116,ntmps116;go_wp2;rw[Lib.run_to_unsafe w ⟨b,0,none⟩ underlying142 underlying211 hj (by rw[sw];decide) hsh (Nat.zero_lt_succ 1)];simp only[Result.andThen];rw[nt];go_wp2;rw[run_callFunc_extern func139 (by kernel_rfl) (by kernel_rfl) (by kernel_rfl) (e:=Extern.AbiNoEscape.same) (by kernel_rfl)];rw[Lib.run_noEscape];simp only[Result.andThen];rw[nt];go_wp2;rw[Lib.run_from_unsafe w ⟨b,0,none⟩ underlying211 underlying142 hj hsh Tryz.liesBuilder];simp only[Result.andThen];rw[nt];go_wp2
 go_end0
 exact⟨rfl,rfl⟩
theorem Jd (B b:Nat) (bs:List Value) (w:World) (h:Lib.IsBuilderF 145 5 B b bs w):
 Calls prog 116 #[.pointer (some ⟨b,0,none⟩)] w fun e w'=>e= .returned (.tuple #[])/\(Lib.BuilderAtF 145 5 B b (.pointer (some ⟨b,0,none⟩)) bs w'/\Below B w w'/\Lib.OthersKept 5 (some b) w w'):=by
 rcases h with h|h
 ·refine(Jl b w h.cell0 h.shape h.frozen0).mono ?_;rintro e w' ⟨rfl,rfl⟩;exact⟨rfl,h.used _,(Below.refl B w).setCell (p:=⟨b,0,none⟩) h.1 _,(Lib.OthersKept.refl _ _ w).setCell ⟨b,0,none⟩ rfl _⟩
 ·refine(Lo b w h.cell0).mono ?_;rintro e w' ⟨rfl,rfl⟩;exact⟨rfl,h,Below.refl B _,Lib.OthersKept.refl _ _ _⟩
theorem PY (B b:Nat) (bs:List Value) (c:Int) (w:World) (h:Lib.IsBuilderF 145 5 B b bs w) (hlen:bs.length+1<=140737488355328) (hBw:B<=w.heap.size):
 Calls prog 90 #[.pointer (some ⟨b,0,none⟩),.int .u8 c] w fun e w'=>e= .returned .nilIface/\(Lib.BuilderAtF 145 5 B b (.pointer (some ⟨b,0,none⟩)) (bs++ [.int .u8 c]) w'/\Below B w w'/\Lib.OthersKept 5 (some b) w w'):=by
 obtain⟨i0,hi,qX,qg,qe⟩:=nw Tryz.infoByte;go_enter func90,ntmps90
 go_wp2_with (go_at_call 116;refine(Jd B b bs _ h).mono ?_)
 rintro e w1 ⟨rfl,h1,ql,wK⟩;obtain⟨hB,v,um,qD,qP⟩:=h1;have c0:w1.cell? ⟨b,0,none⟩=some (.pointer (some ⟨b,0,none⟩)):=by rw[Lib.cell_of_heap um];rfl
 have c1:w1.cell? ⟨b,1,none⟩=some v:=by rw[Lib.cell_of_heap um];rfl
 go_wp2_with (at_builtin;refine wpList_append_ownF _ rfl _ _ 143 rfl B 5 i0 (.int .u8 0) 1 1 my hi qX qg qe rfl (by decide) _ _ _ rfl (qD.alloc _) ⟨w1.heap.size,0,none⟩ 1 1 [.int .u8 c] rfl rfl ?c1 ?c2 ?c3 ?c4 ?c5 ?_)
 case c1=>
  intro j u hj
  match j,hj with
  |0,hj=>simp at hj;subst hj;simp[Addr.add]
 case c2=>intro u hu;simp at hu;subst hu;rfl
 case c3=>unfold maxLen;omega
 case c4=>omega
 case c5=>have:=ql.size;simp;omega
 intro v' w2 hown' qC _;have qE:b<w1.heap.size:=by
  rcases ls b w1.heap.size with h'|h'
  ·exact h'
  ·simp[oS h']at um
 have qM:w2.heap[b]? =some (.cells #[.pointer (some ⟨b,0,none⟩),v] 145 (0,0)):=by
  rw[qC.block b (by simp;omega) (fun e=>qP e.symm),Lib.alloc_old w1 _ b qE];exact um
 have d0:w2.cell? ⟨b,0,none⟩=some (.pointer (some ⟨b,0,none⟩)):=by rw[Lib.cell_of_heap qM];rfl
 have d1:w2.cell? ⟨b,1,none⟩=some v:=by rw[Lib.cell_of_heap qM];rfl
 have f1:w2.frozen? ⟨b,1,none⟩=false:=Lib.frozen_of_heap qM 1;obtain⟨g,cap,rfl⟩:∃g cap,v'= .slice (some ⟨g,0,none⟩) (bs.length+1) cap:=by
  rcases hown'.2 with⟨_,h0⟩|⟨g,cap,cur,fz,hv,_⟩
  ·omega
  ·exact⟨g,cap,hv⟩
 go_wp2;go_ret;refine⟨rfl,?_,?_,((wK.alloc _).grown qC (Lib.ownsRowF_kind (qD.alloc _))).setCell ⟨b,1,none⟩ rfl _⟩
 ·exact Lib.BuilderAtF.put (T:=145) (e:=5) hB qM (bs':=bs++ [.int .u8 c]) (by simpa using hown') (by decide)
 ·exact((ql.alloc (by have:=ql.size;omega) _).grown qC (by have:=ql.size;simp;omega) (fun k hk=>(qD.lt k hk).1)).setCell (p:=⟨b,1,none⟩) hB _
theorem GH (B b:Nat) (bs:List Value) (r:Int) (qO: -2147483648<=r) (vT:r<=2147483647) (w:World) (h:Lib.IsBuilderF 145 5 B b bs w) (hlen:bs.length+4<=140737488355328) (hBw:B<=w.heap.size):
 Calls prog 93 #[.pointer (some ⟨b,0,none⟩),.int .i32 r] w fun e w'=>e= .returned (.tuple #[.int .i64 (Lib.runeCells r).length,.nilIface])/\(Lib.BuilderAtF 145 5 B b (.pointer (some ⟨b,0,none⟩)) (bs++Lib.runeCells r) w'/\Below B w w'/\Lib.OthersKept 5 (some b) w w'):=by
 have hk4:=Lib.runeCells_le r;go_enter func93,ntmps93
 go_wp2_with (go_at_call 116;refine(Jd B b bs _ h).mono ?_)
 rintro e w1 ⟨rfl,h1,ql,wK⟩;obtain⟨hB,v,um,qD,qP⟩:=h1;obtain⟨ao,cap,rfl⟩:∃ao cap,v= .slice ao bs.length cap:=by
  rcases qD.2 with⟨hv,h0⟩|⟨g,cap,cur,fz,hv,_⟩
  ·exact⟨none,0,by rw[hv,h0]⟩
  ·exact⟨_,_,hv⟩
 have c0:w1.cell? ⟨b,0,none⟩=some (.pointer (some ⟨b,0,none⟩)):=by rw[Lib.cell_of_heap um];rfl
 have c1:w1.cell? ⟨b,1,none⟩=some (.slice ao bs.length cap):=by rw[Lib.cell_of_heap um];rfl
 go_wp2_with (go_at_call 120;refine(Tryz.utf8_AppendRune_own B _ bs.length bs r qO vT _ qD hlen (by have:=ql.size;omega)).mono ?_)
 rintro e w2 ⟨v',rfl,hown',o,qC⟩;have qE:b<w1.heap.size:=by
  rcases ls b w1.heap.size with h'|h'
  ·exact h'
  ·simp[oS h']at um
 have qM:w2.heap[b]? =some (.cells #[.pointer (some ⟨b,0,none⟩),.slice ao bs.length cap] 145 (0,0)):=by
  rw[qC.block b (by simp;omega) (fun e=>qP e.symm),Lib.alloc_old w1 _ b qE];exact um
 have d0:w2.cell? ⟨b,0,none⟩=some (.pointer (some ⟨b,0,none⟩)):=by rw[Lib.cell_of_heap qM];rfl
 have d1:w2.cell? ⟨b,1,none⟩=some (.slice ao bs.length cap):=by rw[Lib.cell_of_heap qM];rfl
 have f1:w2.frozen? ⟨b,1,none⟩=false:=Lib.frozen_of_heap qM 1;obtain⟨g,vt,rfl⟩:∃g vt,v'= .slice (some ⟨g,0,none⟩) (bs.length+(Lib.runeCells r).length) vt:=by
  rcases hown'.2 with⟨_,h0⟩|⟨g,vt,cur,fz,hv,_⟩
  ·omega
  ·exact⟨g,vt,hv⟩
 go_wp2;go_ret2;refine⟨?_,?_,?_,((wK.alloc _).grown qC (Lib.ownsRowF_kind (qD.alloc _))).setCell ⟨b,1,none⟩ rfl _⟩
 ·have e:((bs.length:Int)+((Lib.runeCells r).length:Int)-(bs.length:Int))=((Lib.runeCells r).length:Int):=by omega
  simp[e]
 ·exact Lib.BuilderAtF.put (T:=145) (e:=5) hB qM (bs':=bs++Lib.runeCells r) (by simpa using hown') (by decide)
 ·exact((ql.alloc (by have:=ql.size;omega) _).grown qC (by have:=ql.size;simp;omega) (fun k hk=>(qD.lt k hk).1)).setCell (p:=⟨b,1,none⟩) hB _
end Go.Proofs
end
section
namespace Go.Proofs
open Go.RowKit Go.Hb
open Go.Proofs.YtpocgkiamgipdaaGreatDoor
def Ag (W:World):Prop:=∃W0:World,laidMet prog Rows.parserSoundRow.laid W0/\W0.ShapedOpen prog/\(∀g,g<Tryz.prog.globals.size->W.heap[g]? =W0.heap[g]?)/\Tryz.prog.globals.size<=W.heap.size
theorem Ag.below {W W':World}(h:Ag W) (hb:Below W.heap.size W W'):Ag W':=by
 obtain⟨W0,h1,h2,h3,h4⟩:=h;refine⟨W0,h1,h2,fun g hg=> ?_,?_⟩
 ·rw[hb.block g (by omega),h3 g hg]
 ·have:=hb.size;omega
theorem P7 {P:Program} {W0:World}(h:W0.ShapedOpen P){k:Nat}(h1:Nat.ble P.globals.size k=true) (h2:Nat.ble (k+1) (begin P (fun _ _=>0) default).world.heap.size=true):k<W0.heap.size:=by
 obtain⟨o,_,ho,_⟩:=h.2 k (n7 h1) (n7 h2);exact(lN.1 ho).1
theorem MO {W0:World}(h:W0.ShapedOpen prog){k:Nat}(h1:Nat.ble Tryz.prog.globals.size k=true) (h2:Nat.ble (k+1) (begin prog (fun _ _=>0) default).world.heap.size=true):k<W0.heap.size:=P7 h h1 h2
theorem Ag.of {W:World}(h1:laidMet prog Rows.parserSoundRow.laid W) (h2:W.ShapedOpen prog):Ag W:=by
 have h3:21<W.heap.size:=MO h2 (k:=21) (by kernel_rfl) (by kernel_rfl);have h4:Tryz.prog.globals.size<=21:=n7 (by kernel_rfl);exact⟨W,h1,h2,fun _ _=>rfl,by omega⟩
theorem Md {T e:TypeId} {B b:Nat} {bs:List Value} {W W':World}(h:Lib.IsBuilderF T e B b bs W) (hb:Below W.heap.size W W'):Lib.IsBuilderF T e B b bs W':=by
 have key:∀{p:Value},Lib.BuilderAtF T e B b p bs W->Lib.BuilderAtF T e B b p bs W':=by
  intro p h;have qE:=h.lt;obtain⟨hB,v,hv,qD,qP⟩:=h;exact⟨hB,v,(hb.block b qE).trans hv,qD.kept (row:=none) ⟨hb.os,hb.tape,hb.output,hb.size,fun k hk _=>hb.block k hk⟩ (Classical.em _),qP⟩
 exact h.elim (fun x=> .inl (key x)) (fun x=> .inr (key x))
end Go.Proofs
end
section
namespace Go.Proofs
open Go.RowKit Go.Shelf
open Go.Proofs.YtpocgkiamgipdaaGreatDoor
def gZ:Ren:=⟨fun n=>n,fun|119=>110|138=>194|139=>195|n=>n,fun|3=>3|4=>4|n=>n⟩
theorem az:U8Types prog gZ:=⟨nV,underlying110,underlying194,underlying195⟩
theorem Zy:U8Extra prog gZ:=⟨by kernel_rfl,by kernel_rfl,by kernel_rfl,by kernel_rfl,by kernel_rfl,by kernel_rfl,by kernel_rfl⟩
theorem QJ:Rows.parserSoundRow.laid[16]? =some ("unicode/utf8.first",Lib.firstData):=by kernel_rfl
theorem OX:Rows.parserSoundRow.laid[9]? =some ("unicode/utf8.acceptRanges",Lib.acceptData):=by kernel_rfl
theorem Q8:Rows.parserSoundRow.laid[8]? =some ("internal/strconv.uint64pow10",Lib.tabData .u64 Lib.pow10Tab):=by kernel_rfl
theorem Ag.utf8 {W:World}(h:Ag W):Lib.Utf8Tabs 3 4 W:=by
 obtain⟨W0,h1,_,h3,_⟩:=h;have r1:=Lib.laidMet.reads h1 (mP QJ);have r2:=Lib.laidMet.reads h1 (mP OX);have k:=utf8Tabs_of_readsT az Zy r1 r2;have hs:5<=Tryz.prog.globals.size:=by
  have:Nat.ble 5 Tryz.prog.globals.size=true:=by kernel_rfl
  exact n7 this
 have e2:∀c,W.cell? ⟨3,c,none⟩=W0.cell? ⟨3,c,none⟩:=fun c=>oQ (a:=⟨3,c,none⟩) (h3 3 (by omega));have e3:∀c,W.cell? ⟨4,c,none⟩=W0.cell? ⟨4,c,none⟩:=fun c=>oQ (a:=⟨4,c,none⟩) (h3 4 (by omega));exact⟨fun c hc=>(e2 c).trans (k.1 c hc),fun i hi=>⟨(e3 _).trans (k.2 i hi).1,(e3 _).trans (k.2 i hi).2⟩⟩
theorem Pg:∃g,Tryz.prog.globalNamed "internal/strconv.uint64pow10" =some g/\(Tryz.prog.globals[g]?).map (·.type)=some 236/\g<Tryz.prog.globals.size:=by
 have h:(match Tryz.prog.globalNamed "internal/strconv.uint64pow10" with|some g=>((Tryz.prog.globals[g]?).map (·.type)==some 236)&&Nat.blt g Tryz.prog.globals.size|none=>false)=true:=by kernel_rfl
 split at h
 ·rename_i g hg;simp only[mJ]at h;exact⟨g,hg,by simpa using h.1,by simpa using h.2⟩
 ·cases h
theorem cM:Tryz.prog.cellsOf 28=1:=by kernel_rfl
theorem WT:Tryz.prog.cellsOf 236=20:=by kernel_rfl
theorem Ag.jM {W:World}(h:Ag W):Lib.TabIs prog W "internal/strconv.uint64pow10" .u64 Lib.pow10Tab:=by
 obtain⟨W0,h1,_,h3,_⟩:=h;obtain⟨g,t,cs,fuel,p,hg,u9,ti,hd⟩:=Lib.laidMet.reads h1 (mP Q8);obtain⟨g',hg',hty',qE⟩:=Pg;obtain rfl:=Option.some.inj (hg.symm.trans hg');obtain rfl:=Option.some.inj (u9.symm.trans hty');have qy:=Lib.cells_of_tab underlying236 underlying28 cM WT hd;unfold Lib.TabIs;have e:W.var? prog "internal/strconv.uint64pow10" =W0.var? prog "internal/strconv.uint64pow10" :=by
  unfold World.var?;rw[hg];simp only[Option.bind_some,h3 g qE]
 rw[e,ti,<-qy]
end Go.Proofs
end
section
namespace Go.Proofs
open Go.RowKit Go.Hb
def DF (k:Int):Array Value:= #[.int .i64 k,.string ⟨#[]⟩,.string ⟨#[]⟩,.int .u64 0,.int .i64 0,.int .i64 0,.bool false]
structure QR (t:ByteArray) (B:Nat) (W3:World) (acc:List UInt8) (pos:Nat) (wr:World):Prop where
 ZI:Lib.IsBuilderF 145 5 (B+1+1) (B+1+1) (Lib.byteCells acc) wr
 it:wr.heap[B+3]? =some (.stringIter t pos)
 Ac:Below (B+1+1) W3 wr
theorem QR.next {t:ByteArray} {B:Nat} {W3:World} {acc:List UInt8} {pos:Nat} {wr:World}(h:QR t B W3 acc pos wr) (hp:pos<t.size) (n c:Nat) (hd:Utf8.decode t pos=(c,n)):
 ∃wn,(∀ty,(Instr.next (.pointer (some ⟨B+3,0,none⟩)) true ty).run prog wr= .ok (.tuple #[.bool true,.int .i64 pos,.int .i32 c]) wn)/\QR t B W3 acc (pos+n) wn:=by
 refine⟨_,fun ty=> ?_,h.ZI.iterAt h.it (pos+n),Lib.iterAt_heap wr (B+3) t pos _ h.it,Lib.below_iterAt h.Ac (k:=B+3) (by omega) t _⟩;have:=Lib.run_next_any_at (P:=prog) wr (B+3) t pos ty h.it hp;rw[hd]at this;exact this
theorem QR.write {t:ByteArray} {B:Nat} {W3:World} {acc x:List UInt8} {cells:List Value}(hx:Lib.byteCells x=cells){pos n:Nat} {wn W1:World}(h:QR t B W3 acc pos wn)
 (b0:Lib.BuilderAtF 145 5 (B+1+1) (B+1+1) (.pointer (some ⟨B+1+1,0,none⟩)) (Lib.byteCells acc++cells) W1) (b1:Below (B+1+1) (wn.drewN n) W1) (b2:Lib.OthersKept 5 (some (B+1+1)) (wn.drewN n) W1):QR t B W3 (acc++x) pos W1:=by
 subst hx;refine⟨.inr ?_,?_,h.Ac.trans (⟨b1.os,b1.tape,b1.output,b1.size,b1.block⟩:Below _ wn W1)⟩
 ·rw[Lib.byteCells_append];exact b0
 ·exact b2.iter (show(wn.drewN n).heap[B+3]? =_ from h.it) (by omega)
theorem Bo {w:World} {k:Nat} {s:ByteArray} {pos:Nat}(h:w.heap[k]? =some (.stringIter s pos)):w.iterPos k=pos:=by simp[World.iterPos,h]
theorem QR.call {t:ByteArray} {B:Nat} {W3:World} {acc:List UInt8} {pos:Nat} {wn W1:World}(h:QR t B W3 acc pos wn) (hb:Below wn.drew.heap.size wn.drew W1):QR t B W3 acc pos W1:=by
 have rF:Below wn.heap.size wn W1:=⟨hb.os,hb.tape,hb.output,hb.size,hb.block⟩;have qE:B+3<wn.heap.size:=(lN.1 h.it).1;exact⟨Md h.ZI rF,(rF.block _ qE).trans h.it,h.Ac.trans (rF.mono (by omega))⟩
theorem Cc (v:Int) (n:Nat) (h:Hid (Lib.runeLen v=n)) (w:World):Calls prog 89 #[.int .i32 v] w fun e w'=>e= .returned (.int .i64 n)/\w=w':=by
 have:=Tryz.utf8_RuneLen v w;rw[h.o]at this;exact this.mono fun _ _ ⟨h1,h2⟩=>⟨h1,h2.symm⟩
end Go.Proofs
end
section
namespace Go.Hb
theorem FN (s:ByteArray) (p:Nat) (hp:p<s.size):(∃v n:Nat,D4 s p v n/\Utf8.decode s p=(v,n))\/(Le s p/\Utf8.decode s p=(65533,1)):=by
 rw[Lib.decode_N];have hl:s.data.toList.length=s.size:=by simp
 rw[hl];have e0:AI s p=((s.data.toList.getD p 0).toNat:Int):=rfl;have e1:AI s (p+1)=((s.data.toList.getD (p+1) 0).toNat:Int):=rfl;have e2:AI s (p+2)=((s.data.toList.getD (p+2) 0).toNat:Int):=rfl;have e3:AI s (p+3)=((s.data.toList.getD (p+3) 0).toNat:Int):=rfl;have o1:s.size<=p+1->AI s (p+1)=0:=Ax s (p+1);have o2:s.size<=p+2->AI s (p+2)=0:=Ax s (p+2);have o3:s.size<=p+3->AI s (p+3)=0:=Ax s (p+3);have h0:=Ka s p;have h1:=Ka s (p+1);have h2:=Ka s (p+2);have h3:=Ka s (p+3);generalize(s.data.toList.getD p 0).toNat=b0 at*;generalize(s.data.toList.getD (p+1) 0).toNat=b1 at*;generalize(s.data.toList.getD (p+2) 0).toNat=b2 at*;generalize(s.data.toList.getD (p+3) 0).toNat=b3 at*;have key:(∀v n:Int,D4 s p v n->False)->Le s p:=fun h v n hc=>h v n hc;unfold Lib.decodeN;by_cases c0:b0<128
 ·rw[lQ c0];exact .inl ⟨b0,1,.inl ⟨rfl,hp,by omega,by omega⟩,rfl⟩
 rw[lL c0];by_cases c1:b0/32=6/\(1<s.size-p/\b1/64=2)
 ·rw[lQ c1];by_cases c:b0 %32*64+b1 %64>=128
  ·rw[lQ c];exact .inl ⟨_,2,.inr (.inl ⟨rfl,⟨by omega,by omega⟩,⟨by omega,by omega⟩,by omega,by omega,by unfold Ah;omega⟩),rfl⟩
  ·rw[lL c];refine .inr ⟨key fun v n hc=> ?_,rfl⟩;unfold D4 cont Ah at hc;omega
 rw[lL c1];by_cases c2:b0/16=14/\(1<s.size-p/\b1/64=2)/\(2<s.size-p/\b2/64=2)
 ·rw[lQ c2];split
  ·rename_i c;exact .inl ⟨_,3,.inr (.inr (.inl ⟨rfl,⟨by omega,by omega⟩,⟨by omega,by omega⟩,⟨by omega,by omega⟩,by omega,by omega,by unfold Ah;omega⟩)),rfl⟩
  ·refine .inr ⟨key fun v n hc=> ?_,rfl⟩;unfold D4 cont Ah at hc;omega
 rw[lL c2];by_cases c3:b0/8=30/\(1<s.size-p/\b1/64=2)/\(2<s.size-p/\b2/64=2)/\(3<s.size-p/\b3/64=2)
 ·rw[lQ c3];split
  ·rename_i c;exact .inl ⟨_,4,.inr (.inr (.inr ⟨rfl,⟨by omega,by omega⟩,⟨by omega,by omega⟩,⟨by omega,by omega⟩,⟨by omega,by omega⟩,by omega,by omega,by unfold Ah;omega⟩)),rfl⟩
  ·refine .inr ⟨key fun v n hc=> ?_,rfl⟩;unfold D4 cont Ah at hc;omega
 rw[lL c3];refine .inr ⟨key fun v n hc=> ?_,rfl⟩;unfold D4 cont Ah at hc;omega
theorem cE (s:ByteArray) (p:Nat):Utf8.decode (s.extract p s.size) 0=Utf8.decode s p:=by
 have e:(s.extract p s.size).data.toList=s.data.toList.drop p:=by
  rw[oG,nO (by simp)]
 rw[Ew (s.extract p s.size) 0 _ rfl,Ew s p _ rfl,nI,e]
theorem Iy (s:ByteArray) (p:Nat) (hp:p<s.size):Lib.decodeGo (s.extract p s.size)=Utf8.decode s p:=by
 unfold Lib.decodeGo;rw[lL (by rw[l8];omega),cE]
end Go.Hb
namespace Go.Proofs
open Go.RowKit Go.Pf Go.Lx Go.Hb Go.Rb
theorem run_next_end_at {P:Program}(w:World) (k:Nat) (s:ByteArray) (pos:Nat) (ty:TypeId) (hk:w.heap[k]? =some (.stringIter s pos)) (h:¬pos<s.size):
 (Instr.next (.pointer (some ⟨k,0,none⟩)) true ty).run P w= .ok (.tuple #[.bool false]) w:=by
 simp[Instr.next,getObj,Sem.run,hk,h]
def OH (R:Int) (w:World) (e:Ending) (w':World):Prop:=e= .returned (.int .i64 R)/\Below w.heap.size w w'
theorem PV {p q:Int} {w w':World}(h:p=q) (hb:Below w.heap.size w w'):OH q w (.returned (.int .i64 p)) w':=by subst h;exact⟨rfl,hb⟩
structure PM (t:ByteArray) (B:Nat) (w0:World) (pos:Nat) (wr:World):Prop where
 it:wr.heap[B]? =some (.stringIter t pos)
 Ac:Below B w0 wr
theorem PM.next {t:ByteArray} {B:Nat} {w0:World} {pos:Nat} {wr:World}(h:PM t B w0 pos wr) (hp:pos<t.size) (n c:Nat) (hd:Utf8.decode t pos=(c,n)):
 ∃wn,(∀ty,(Instr.next (.pointer (some ⟨B,0,none⟩)) true ty).run prog wr= .ok (.tuple #[.bool true,.int .i64 pos,.int .i32 c]) wn)/\PM t B w0 (pos+n) wn:=by
 refine⟨_,fun ty=> ?_,Lib.iterAt_heap wr B t pos _ h.it,Lib.below_iterAt h.Ac (k:=B) (nR _) t _⟩;have:=Lib.run_next_any_at (P:=prog) wr B t pos ty h.it hp;rw[hd]at this;exact this
theorem PM.call {t:ByteArray} {B:Nat} {w0:World} {pos:Nat} {wr w1:World}(h:PM t B w0 pos wr) (hb:Below wr.heap.size wr w1):PM t B w0 pos w1:=by
 have qE:B<wr.heap.size:=(lN.1 h.it).1;exact⟨(hb.block _ qE).trans h.it,h.Ac.trans (hb.mono (by omega))⟩
theorem fV (t:ByteArray) (r:Int) (w:World) (hs:t.size<=140737488355000) (hr:Hid (Bc t 0 r)) (hL:Ag w):
 Calls prog 55 #[.string t] w (OH r w):=by
 obtain⟨B,hB⟩:∃B,B=w.heap.size:=⟨_,rfl⟩;go_enter func55,ntmps55;go_wp2;have h0:PM t B w 0 (w.iter t 0):=⟨by rw[hB];exact World.iter_heap w t 0,by rw[hB];exact Bzz _⟩;rw[<-hB];have HL:=Hi hL;have HB:=Hi hB;clear hL hB
 go_loopw [3,4,5,6] (fun _ _ _ _ wr=>∃pos:Nat,pos<=t.size/\PM t B w pos wr/\Bc t pos r) (fun _ _ _ _ wr=>t.size-wr.iterPos B)
 case atStart=>exact⟨0,by omega,h0,hr.o⟩
 case round=>
  obtain⟨pos,tN,hit,hod⟩:=hrel;have HO:=Hi hod;clear hod h0;have i1:=Bo hit.it;by_cases hp:pos<t.size
  ·have tU:∀W,(Instr.slice 9 (.string t) (some (.int .i64 (pos:Int))) none none).run prog W= .ok (.string (t.extract pos t.size)) W:=fun W=>by
    have:=run_slice_string_l (P:=prog) (w:=W) (t:=9) (s:=t) mS .i64 (pos:Int) (by omega) (by omega);rw[show((pos:Int)).toNat=pos by omega]at this;exact this
   rcases FN t pos hp with⟨v,n,hc,hd⟩|⟨hn,hd⟩
   ·have h1:=hc.size;have h2:=hc.last;have HN:=Hi (HO.o.IP hc);obtain⟨wn,uw,vi⟩:=hit.next hp n v hd;have i2:=Bo vi.it;by_cases h65:v=65533
    ·have hn3:n=3:=by unfold D4 cont at hc;omega
     subst h65 hn3;have t1:(((65533:Nat):Int)==65533)=true:=rfl;have LN:Ag wn:=HL.o.below (by rw[<-HB.o];exact vi.Ac);have CD:Hid (Calls prog 82 #[.string (t.extract pos t.size)] wn fun e w'=>e= .returned (.tuple #[.int .i32 (65533:Nat),.int .i64 (3:Nat)])/\Below wn.heap.size wn w'):=Hi (by
      have h:=Tryz.utf8_DecodeRuneInString (t.extract pos t.size) wn LN.utf8;rw[Iy t pos hp,hd]at h;exact h)
     have SC:=tU wn;have t2:(((3:Nat):Int)==1)=false:=rfl;have I:=Hi (show t.size-(pos+3)<t.size-wr.iterPos B by rw[i1];omega);have vC:pos+3<=t.size:=by omega
     clear hc hd h1 h2 i1 tU LN
     go_wp2_with (go_at_call 82;(with_reducible refine CD.o.mono ?_);rintro e w' ⟨rfl,hb⟩)
     have hit3:=vi.call hb;have i3:=Bo hit3.it;go_roundw
     case rel=>exact⟨pos+3,vC,hit3,HN.o⟩
     case measure=>rw[i3];exact I.o
    ·have t1:((v:Int)==65533)=false:=AD (by omega);have I:=Hi (show t.size-wn.iterPos B<t.size-wr.iterPos B by rw[i1,i2];omega);clear hc hd h1 i1 i2 h65 tU;go_wp2;go_roundw
     case rel=>exact⟨pos+n,h2,vi,HN.o⟩
     case measure=>exact I.o
   ·have HF:Hid (r=pos):=Hi (HO.o.OK hp hn);obtain⟨wn,uw,vi⟩:=hit.next hp 1 65533 hd;have t1:(((65533:Nat):Int)==65533)=true:=rfl;have LN:Ag wn:=HL.o.below (by rw[<-HB.o];exact vi.Ac);have CD:Hid (Calls prog 82 #[.string (t.extract pos t.size)] wn fun e w'=>e= .returned (.tuple #[.int .i32 (65533:Nat),.int .i64 (1:Nat)])/\Below wn.heap.size wn w'):=Hi (by
     have h:=Tryz.utf8_DecodeRuneInString (t.extract pos t.size) wn LN.utf8;rw[Iy t pos hp,hd]at h;exact h)
    have SC:=tU wn;have t2:(((1:Nat):Int)==1)=true:=rfl;clear hd hn i1 tU LN
    go_wp2_with (go_at_call 82;(with_reducible refine CD.o.mono ?_);rintro e w' ⟨rfl,hb⟩)
    go_ret;exact PV HF.o.symm (by rw[<-HB.o];exact(vi.call hb).Ac)
  ·have HF:Hid (r= -1):=Hi (HO.o.J3 (by omega));have uw:∀ty,(Instr.next (.pointer (some ⟨B,0,none⟩)) true ty).run prog wr= .ok (.tuple #[.bool false]) wr:=fun ty=>run_next_end_at wr B t pos ty hit.it hp;go_wp2;go_ret;exact PV HF.o.symm (by rw[<-HB.o];exact hit.Ac)
end Go.Proofs
end
section
namespace Go.Proofs
open Go.Shelf
def PJ:Go.Shelf.Ren:=⟨fun|143=>54|219=>81|217=>79|225=>108|224=>109|267=>110|266=>107|314=>129|n=>n,fun|9=>9|3=>3|4=>4|5=>5|46=>164|146=>203|51=>133|n=>n,fun|1=>2|n=>n⟩
theorem bw:Go.Proofs.Lays.n143 prog PJ:= {
 mixed:=by kernel_rfl
 f143:=Tryz.func54.trans (mQ some (by kernel_rfl))
 f217:=Tryz.func79.trans (mQ some (by kernel_rfl))
 f219:=Tryz.func81.trans (mQ some (by kernel_rfl))
 f224:=Tryz.func109.trans (mQ some (by kernel_rfl))
 f225:=Tryz.func108.trans (mQ some (by kernel_rfl))
 f266:=Tryz.func107.trans (mQ some (by kernel_rfl))
 f267:=Tryz.func110.trans (mQ some (by kernel_rfl))
 f314:=Tryz.func129.trans (mQ some (by kernel_rfl))
 t3:=nU
 a3:=isAgg3
 z3:=sizeOf3
 v3:=pC
 t4:=oF
 a4:=isAgg4
 z4:=pT
 v4:=od
 t5:=nV
 a5:=isAgg5
 z5:=sizeOf5
 v5:=pD
 t9:=mS
 a9:=isAgg9
 z9:=sizeOf9
 v9:=pO
 t46:=oO
 a46:=isAgg164
 z46:=sizeOf164
 v46:=pL
 t51:=underlying133
 a51:=isAgg133
 z51:=sizeOf133
 v51:=zeroValue133
 t146:=underlying203
 a146:=isAgg203
 z146:=sizeOf203
 v146:=zeroValue203
 g1:=by kernel_rfl}
open Go.RowKit Go.Lib in
theorem Tryz.strings_Index (s sub:ByteArray) (m:Int) (w:World) (hs:s.size<4294967281) (hm:w.cell? ⟨2,0,none⟩=some (.int .i64 m)):
 Calls prog 54 #[.string s,.string sub] w fun e w'=>e= .returned (.int .i64 (Lib.index s.data.toList sub.data.toList))/\w'=w:=Any.strings_Index bw s sub m w hs hm
def Nj:Go.Shelf.Ren:=⟨fun|143=>54|219=>81|217=>79|225=>108|224=>109|267=>110|266=>107|314=>129|n=>n,fun|9=>9|3=>3|4=>4|5=>5|46=>164|146=>203|51=>133|n=>n,fun|1=>2|n=>n⟩
theorem VW:Go.Proofs.LaysM.n143 prog Nj:= {
 mixed:=by kernel_rfl
 f143:=Tryz.func54.trans (mQ some (by kernel_rfl))
 f217:=Tryz.func79.trans (mQ some (by kernel_rfl))
 f219:=Tryz.func81.trans (mQ some (by kernel_rfl))
 f224:=Tryz.func109.trans (mQ some (by kernel_rfl))
 f225:=Tryz.func108.trans (mQ some (by kernel_rfl))
 f266:=Tryz.func107.trans (mQ some (by kernel_rfl))
 f267:=Tryz.func110.trans (mQ some (by kernel_rfl))
 f314:=Tryz.func129.trans (mQ some (by kernel_rfl))
 t3:=nU
 a3:=isAgg3
 z3:=sizeOf3
 v3:=pC
 t4:=oF
 a4:=isAgg4
 z4:=pT
 v4:=od
 t5:=nV
 a5:=isAgg5
 z5:=sizeOf5
 v5:=pD
 t9:=mS
 a9:=isAgg9
 z9:=sizeOf9
 v9:=pO
 t46:=oO
 a46:=isAgg164
 z46:=sizeOf164
 v46:=pL
 t51:=underlying133
 a51:=isAgg133
 z51:=sizeOf133
 v51:=zeroValue133
 t146:=underlying203
 a146:=isAgg203
 z146:=sizeOf203
 v146:=zeroValue203
 g1:=by kernel_rfl
 i3:=by kernel_rfl
 i4:=by kernel_rfl
 i5:=by kernel_rfl
 i9:=by kernel_rfl
 i46:=by kernel_rfl
 i51:=by kernel_rfl
 i146:=by kernel_rfl
 m1:=by kernel_rfl
 s1_3:=fun w h=>Go.Proofs.cell_of_shapedOpen_int (zero:= #[.int .i64 0]) (t:=3) h (lh (by kernel_rfl)) (by kernel_rfl) rfl (by kernel_rfl) (by kernel_rfl) nU}
end Go.Proofs
end
section
namespace Go.Lx
open Go.Hb Go.Pf
theorem drop_cons {s:ByteArray} {p:Nat}(h:p<s.size):s.data.toList.drop p=s[p]::s.data.toList.drop (p+1):=by
 have h1:p<s.data.toList.length:=by simpa using h
 rw[pB h1];rfl
theorem Dk {s:ByteArray} {p:Nat}(h:s.size<=p):s.data.toList.drop p= []:=ot (by simpa using h)
theorem bW (s:ByteArray):∀n p,s.size-p<=n->p<=s.size->Lib.indexByte (s.data.toList.drop p) 10=if AF (U2 10) s p<s.size then((AF (U2 10) s p-p:Nat):Int)else-1:=by
 intro n
 induction n with
 |zero=>
  intro p h hp;rw[Dk (by omega),Bl (by omega),lL (by omega)];rfl
 |succ n ih=>
  intro p h hp;rcases ls p s.size with h1|h1
  ·rw[drop_cons h1,Lib.indexByte];by_cases hc:s[p]=10
   ·have e:AF (U2 10) s p=p:=Cu h1 (by rw[hc];rfl);rw[e,lQ h1,oj];simp[hc]
   ·have hn:U2 10 s[p].toNat=true:=by
     unfold U2;simp only[Bool.not_eq_true',mN];intro hh;exact hc (qB.1 hh)
    have e:=Bb (p:=U2 10) h1 hn;have i1:=ih (p+1) (by omega) (by omega);have uj:=BN (U2 10) s (p+1);rw[e,i1];by_cases hr:AF (U2 10) s (p+1)<s.size
    ·rw[lQ hr];have qP:¬((AF (U2 10) s (p+1)-(p+1):Nat):Int)= -1:=by omega
     simp[hc,qP,hr];omega
    ·rw[lL hr];simp[hc,hr]
  ·rw[Dk h1,Bl h1,lL (by omega)];rfl
theorem bS (s:ByteArray):∀n p,s.size-p<=n->Lib.index (s.data.toList.drop p) [42,47]=if Dz s p+1<s.size then((Dz s p-p:Nat):Int)else-1:=by
 intro n
 induction n with
 |zero=>
  intro p h;rw[Dk (by omega),Ij (by omega),lL (by omega)];rfl
 |succ n ih=>
  intro p h;rcases ls p s.size with h1|h1
  ·rw[drop_cons h1,Lib.index];have i1:=ih (p+1) (by omega);have uj:=Na s (p+1);by_cases hm:p+1<s.size/\AI s p=42/\AI s (p+1)=47
   ·obtain⟨m0,m1,m2⟩:=hm;rw[AP s p h1]at m1;have m3:=m2;rw[AP s (p+1) m0]at m2;have e0:s[p]=42:=qB.1 (by show s[p].toNat=42;omega);have e1:s[p+1]=47:=qB.1 (by show s[p+1].toNat=47;omega);rw[UI m0 ⟨by rw[AP s p h1];exact m1,m3⟩,lQ m0,drop_cons m0,e0,e1];simp[List.isPrefixOf]
   ·have qd:([42,47]:List UInt8).isPrefixOf (s[p]::s.data.toList.drop (p+1))=false:=by
     rcases ls (p+1) s.size with h2|h2
     ·rw[drop_cons h2];simp only[List.isPrefixOf,Bool.and_eq_false_iff,lY,ne_eq,Bool.and_true];by_cases h3:(42:UInt8)=s[p]
      ·right;intro h4;refine hm ⟨h2,?_,?_⟩
       ·rw[AP s p h1,<-h3];rfl
       ·rw[AP s (p+1) h2,<-h4];rfl
      ·exact .inl h3
     ·rw[Dk h2];simp[List.isPrefixOf]
    have e:Dz s p=Dz s (p+1)\/(s.size<=p+1/\Dz s p=p):=by
     rcases ls (p+1) s.size with h2|h2
     ·exact .inl (Tu h2 (fun h3=>hm ⟨h2,h3⟩))
     ·exact .inr ⟨h2,Ij h2⟩
    rw[qd];simp only[Bool.false_eq_true,if_false];rcases e with e|⟨h2,e⟩
    ·rw[e];by_cases hr:Dz s (p+1)+1<s.size
     ·rw[lQ hr]at i1;rw[lQ hr,i1];have qP:(((Dz s (p+1)-(p+1):Nat):Int)== -1)=false:=by rw[nD];intro hh;have:=eq_of_beq hh;omega
      rw[qP];simp only[Bool.false_eq_true,if_false];omega
     ·rw[lL hr]at i1;rw[lL hr,i1];rfl
    ·have e2:Dz s (p+1)=p+1:=Ij (by omega);rw[e2,lL (by omega)]at i1;rw[e,i1,lL (show¬p+1<s.size by omega)];rfl
  ·rw[Dk h1,Ij (by omega),lL (by omega)];rfl
theorem Yy {s:ByteArray} {p:Nat}(h:p<s.size):Lib.hasPrefix (s.data.toList.drop p) [47,42]=decide (AI s p=47/\AI s (p+1)=42):=by
 rw[drop_cons h];rcases ls (p+1) s.size with h2|h2
 ·rw[drop_cons h2,AP s p h,AP s (p+1) h2];have e0:(s[p]=47)↔((s[p].toNat:Int)=47):=⟨fun h=>by rw[h];rfl,fun h=>qB.1 (by show s[p].toNat=47;omega)⟩;have e1:(s[p+1]=42)↔((s[p+1].toNat:Int)=42):=⟨fun h=>by rw[h];rfl,fun h=>qB.1 (by show s[p+1].toNat=42;omega)⟩;have key:Lib.hasPrefix (s[p]::s[p+1]::s.data.toList.drop (p+1+1)) [47,42]=decide (s[p]=47/\s[p+1]=42):=by
   unfold Lib.hasPrefix;simp only[List.isPrefixOf,Bool.and_true];rw[oZ];simp only[mJ,nH,mL];exact⟨fun⟨h1,h2⟩=>⟨h1.symm,h2.symm⟩,fun⟨h1,h2⟩=>⟨h1.symm,h2.symm⟩⟩
  rw[key];exact mZ.2 (by rw[e0,e1])
 ·rw[Dk h2,Ax s (p+1) h2];simp[Lib.hasPrefix,List.isPrefixOf]
theorem ext_list (s:ByteArray) (p t:Nat):(s.extract p t).data.toList=(s.data.toList.drop p).take (t-p):=oG s p t
theorem Dt (s:ByteArray) (p:Nat):(s.extract p s.size).data.toList=s.data.toList.drop p:=by
 rw[oG,nO (by simp)]
theorem IE {s:ByteArray} {p t:Nat}(_ht:t<=s.size) (hp:p<=t) (k:Nat):AI (s.extract p t) k=AI (s.extract 0 t) (p+k):=by
 unfold AI;rw[oG,oG,nI,Nat.sub_zero];congr 2;rw[lZ,lZ,pF,pF,qA];by_cases h:k<t-p
 ·rw[lQ h,lQ (by omega)]
 ·rw[lL h,lL (by omega)]
theorem GC {s:ByteArray} {p t:Nat}(ht:t<=s.size) (hp:p<=t) (k:Nat) (v n:Int):D4 (s.extract p t) k v n↔D4 (s.extract 0 t) (p+k) v n:=by
 have hz:(s.extract p t).size=t-p:=by rw[l8];omega
 have qX:(s.extract 0 t).size=t:=by rw[l8];omega
 have qE:(k<(s.extract p t).size)=(p+k<(s.extract 0 t).size):=by rw[hz,qX];exact propext ⟨fun h=>by omega,fun h=>by omega⟩
 unfold D4;rw[IE ht hp k,IE ht hp (k+1),IE ht hp (k+2),IE ht hp (k+3),qE,<-oX,<-oX,<-oX]
theorem V7 {s:ByteArray} {p t:Nat}(ht:t<=s.size) (hp:p<=t){q:Nat} {r:Int}(h:Bc (s.extract 0 t) q r):∀k,q=p+k->Bc (s.extract p t) k (if r= -1 then-1 else r-p):=by
 have hz:(s.extract p t).size=t-p:=by rw[l8];omega
 have qX:(s.extract 0 t).size=t:=by rw[l8];omega
 induction h with
 |done h1=>exact fun k hk=>by rw[lQ rfl];exact .done (by rw[hz];rw[qX]at h1;omega)
 | @bad q h1 h2=>
  intro k hk;subst hk;have e:(if((p+k:Nat):Int)= -1 then(-1:Int)else((p+k:Nat):Int)-p)=(k:Int):=by rw[lL (by omega)];omega
  rw[e];exact .bad (by rw[hz];rw[qX]at h1;omega) (fun v n hc=>h2 v n ((GC ht hp k v n).1 hc))
 | @step q m v r hc _ ih=>
  intro k hk;subst hk;exact .step ((GC ht hp k v m).2 hc) (ih (k+m) (by omega))
end Go.Lx
end
section
namespace Go.Proofs
open Go.RowKit Go.Pf Go.Lx Go.Hb Go.Rb
structure St (w:World) (b:Nat) (s:ByteArray) (p:Nat):Prop where
 h:w.heap[b]? =some (.cells #[.string s,.int .i64 p] 99 (0,0))
theorem St.c0 {w:World} {b p:Nat} {s:ByteArray}(h:St w b s p):w.cell? ⟨b,0,none⟩=some (.string s):=by rw[Lib.cell_of_heap h.h];rfl
theorem St.c1 {w:World} {b p:Nat} {s:ByteArray}(h:St w b s p):w.cell? ⟨b,1,none⟩=some (.int .i64 p):=by rw[Lib.cell_of_heap h.h];rfl
theorem St.f {w:World} {b p:Nat} {s:ByteArray}(h:St w b s p) (i:Nat):w.frozen? ⟨b,i,none⟩=false:=Lib.frozen_of_heap h.h i
theorem St.lt {w:World} {b p:Nat} {s:ByteArray}(h:St w b s p):b<w.heap.size:=(lN.1 h.h).1
theorem St.below {w w':World} {b p:Nat} {s:ByteArray}(h:St w b s p) (hb:Below w.heap.size w w'):St w' b s p:=⟨(hb.block b h.lt).trans h.h⟩
theorem St.set {w:World} {b p:Nat} {s:ByteArray}(h:St w b s p) (q:Nat):St (w.setCell ⟨b,1,none⟩ (.int .i64 q)) b s q:=⟨heap_setCell_same w b 1 _ 99 (.int .i64 q) h.h⟩
def jW (w:World) (b:Nat):Nat:=match w.heap[b]?with
 |some (.cells cs _ _)=>(match cs[1]?with|some (Value.int _ z)=>z.toNat|_=>0)
 |_=>0
theorem St.p {w:World} {b p:Nat} {s:ByteArray}(h:St w b s p):jW w b=p:=by unfold jW;rw[h.h];simp
theorem Ag.WB {W W':World} {B:Nat}(h:Ag W) (hb:Below B W W') (hB:Tryz.prog.globals.size<=B) (hs:W.heap.size<=W'.heap.size):Ag W':=by
 obtain⟨W0,h1,h2,h3,h4⟩:=h;exact⟨W0,h1,h2,fun g hg=>(hb.block g (by omega)).trans (h3 g hg),by omega⟩
theorem Ag.drewN {W:World}(h:Ag W) (n:Nat):Ag (W.drewN n):=by
 obtain⟨W0,h1,h2,h3,h4⟩:=h;exact⟨W0,h1,h2,h3,h4⟩
theorem Ag.maxLen {W:World}(h:Ag W):∃m,W.cell? ⟨2,0,none⟩=some (.int .i64 m):=by
 obtain⟨W0,_,h2,h3,_⟩:=h;obtain⟨m,hm⟩:=VW.s1_3 W0 h2;have hg:2<Tryz.prog.globals.size:=by
  have:Nat.ble 3 Tryz.prog.globals.size=true:=by kernel_rfl
  have:=n7 this;omega
 exact⟨m,(oQ (a:=⟨2,0,none⟩) (h3 2 hg)).trans hm⟩
structure bX (s:ByteArray) (b K E:Nat) (w:World) (e:Ending) (w':World):Prop where
 ok:E=0->e= .returned (.tuple #[.int .i64 0,.int .i64 0])/\St w' b s K
 er:E≠0->e= .returned (.tuple #[.int .i64 K,.int .i64 E])
 Ac:Below b w w'
 sz:w.heap.size<=w'.heap.size
theorem J2 {s:ByteArray} {b K E k n:Nat} {w w':World}(hk:k=K) (hn:n=E) (h0:n≠0) (hb:Below b w w') (hs:w.heap.size<=w'.heap.size):bX s b K E w (.returned (.tuple #[.int .i64 k,.int .i64 n])) w':=by
 subst hk hn;exact⟨fun h=>absurd h h0,fun _=>rfl,hb,hs⟩
theorem Sp {s:ByteArray} {b K E k:Nat} {w w':World}(hk:k=K) (hn:0=E) (h:St w' b s k) (hb:Below b w w') (hs:w.heap.size<=w'.heap.size):bX s b K E w (.returned (.tuple #[.int .i64 0,.int .i64 0])) w':=by
 subst hk hn;exact⟨fun _=>⟨rfl,h⟩,fun h=>absurd rfl h,hb,hs⟩
theorem Tp {s:ByteArray} {p:Nat}(h:p<s.size) (hb:AI s p<128):Bc (s.extract 0 (p+1)) p (-1):=by
 have hz:(s.extract 0 (p+1)).size=p+1:=by rw[l8];omega
 have e:AI (s.extract 0 (p+1)) p=AI s p:=by
  unfold AI;rw[oG,nI,lZ,lZ,pF,lQ (by omega)]
 have hc:=Jx (s:=s.extract 0 (p+1)) (p:=p) (by omega) (by rw[e];exact hb);exact .step (m:=1) hc (.done (by omega))
theorem Zf {s:ByteArray} {p q:Nat}(hq:p+q<=s.size):(s.extract p s.size).extract q (s.extract p s.size).size=s.extract (p+q) s.size:=by
 apply pH;apply po.1;have hz:(s.extract p s.size).size=s.size-p:=by rw[l8];omega
 have hl:s.data.toList.length=s.size:=by simp
 rw[oG,Dt,Dt,List.drop_drop,hz,nO (by rw[List.length_drop];omega)]
theorem WW {s:ByteArray} {p n:Nat}(_hn:p+n<=s.size):(s.extract p s.size).extract 0 n=s.extract p (p+n):=by
 apply pH;apply po.1;rw[oG,Dt,nI,ext_list,show n-0=n by omega,show p+n-p=n by omega]
theorem aj (b:Nat) (s:ByteArray) (a K E:Nat) (w:World) (hs:s.size<=100000000) (ha:a<=s.size) (hL:Hid (Lay s a K E)) (qk:St w b s a) (hLd:Ag w) (hgb:Tryz.prog.globals.size<=b):
 Calls prog 37 #[.pointer (some ⟨b,0,none⟩)] w (bX s b K E w):=by
 have yV:=Hi hLd;have HST0:=Hi qk;have HGB:=Hi hgb;clear hLd qk hgb;go_enter func37,ntmps37;go_wp2
 go_loopw [4,5,6] (fun _ _ _ wr=>∃p:Nat,St wr b s p/\p<=s.size/\Lay s p K E/\Below b w wr/\w.heap.size<=wr.heap.size) (fun _ _ _ wr=>s.size-jW wr b)
 case atStart=>exact⟨a,HST0.o,ha,hL.o,Below.refl _ _,nR _⟩
 case round=>
  obtain⟨p,st,hp,hl,qq,wX⟩:=hrel;have c0:=st.c0;have c1:=st.c1;have cf:=st.f 1;have HL:=Hi hl;have HPP:Hid (jW wr b=p):=Hi st.p;have LD:Ag wr:=yV.o.WB qq HGB.o wX;have zZ:Hid (∀n,Ag (wr.drewN n)):=Hi (fun n=>LD.drewN n);have wy:Hid (∀n,St (wr.drewN n) b s p):=Hi (fun n=>⟨st.h⟩);have yY:Hid (∀n,Below b w (wr.drewN n)):=Hi (fun n=>⟨qq.os,qq.tape,qq.output,qq.size,qq.block⟩);have yQ:Hid (∀n,w.heap.size<=(wr.drewN n).heap.size):=Hi (fun n=>wX);clear hl LD qq wX st;by_cases qE:p<s.size
  ·obtain⟨c,hc⟩:∃c,c=s[p].toNat:=⟨_,rfl⟩;have hb:AI s p=(c:Int):=by rw[AP s p qE,hc]
   have wQ:(AI s p).toNat=c:=by rw[hb];exact mB c
   have pi:(p:Int)<s.size:=by omega
   have pd:decide ((p:Int)<s.size)=true:=lU pi;obtain⟨u,hu⟩:∃u,u=s.extract p s.size:=⟨_,rfl⟩;have eu:s.extract p s.size=u:=hu.symm;have zu:u.size=s.size-p:=by rw[hu,l8];omega
   have u0:0<u.size:=by omega
   have eu0:u[0].toNat=c:=by
    have h1:AI u 0=AI s p:=by
     unfold AI;rw[hu,Dt,lZ,lZ,qA,nK]
    rw[hb,AP u 0 u0]at h1;omega
   have ul:u.data.toList=s.data.toList.drop p:=by rw[hu,Dt]
   have bu:u.size<=100000000:=by omega
   have vA:Hid (∀t:Nat,DM s p= .JI t->p<t/\t<=s.size/\∃r:Int,(∀w,Ag w->Calls prog 55 #[.string (s.extract p t)] w (OH r w))/\((r= -1/\Lay s t K E)\/∃M:Nat,r=M/\M<=t/\p+M=K/\30=E)):=Hi (fun t ht=>by
    have h3:=Ex qE ht;obtain⟨r,hr⟩:=Bc.ex (s.extract 0 t) _ p (nR _);have rL:=V7 h3.2 (mW h3.1) hr 0 rfl;refine⟨h3.1,h3.2,_,fun w hw=>fV _ _ w (by rw[l8];omega) (Hi rL) hw,?_⟩;rcases Bc.Pa hr with rfl|⟨m,rfl⟩
    ·exact .inl ⟨rfl,HL.o.IP qE ht hr⟩
    ·right;have h4:=HL.o.OK qE ht hr;have h5:p<=m/\m<t:=by
      have qX:(s.extract 0 t).size=t:=by rw[l8];omega
      have key:∀{q:Nat} {r:Int},Bc (s.extract 0 t) q r->∀m:Nat,r=m->q<=m/\m<t:=by
       intro q r h
       induction h with
       |done _=>intro m hm;omega
       |bad h1 _=>intro m hm;rw[qX]at h1;omega
       |step hc _ ih=>intro m hm;have:=ih m hm;omega
      exact key hr m rfl
     refine⟨m-p,?_,by omega,by omega,h4.2.symm⟩;rw[lL (by omega)];omega)
   have PB:∀w,Calls prog 51 #[.int .u8 c] w (AR (JO c) w):=fun w=>Q9 c w;by_cases qV:JO c=true
   ·rw[qV]at PB;have PB:=Hi PB;have wS:DM s p= .JI (p+1):=by unfold DM;rw[wQ,lQ qV]
    have c128:AI s p<128:=by rw[hb];simp[JO]at qV;omega
    have H2:=Hi (HL.o.IP qE wS (Tp qE c128));obtain⟨t,sU⟩:∃t,t=p+1:=⟨_,rfl⟩;rw[<-sU]at H2;have et:(p:Int)+1=t:=by omega
    have bt:t<=s.size:=by omega
    have HTT:=Hi sU;clear zu wS qV hb wQ hc sU vA ul hu c128;go_wp2
    go_quiet (fail)
    go_wp2
    go_quiet (fail)
    go_wp2_with (go_at_call 51;(with_reducible refine(PB.o _).mono ?_);rintro e w' ⟨rfl,rfl⟩)
    go_roundw
    case rel=>exact⟨t,(wy.o _).set t,bt,H2.o,(yY.o _).setCell (p:=⟨b,1,none⟩) (nR _) _,by have:=yQ.o 0;simpa using this⟩
    case measure=>rw[((wy.o _).set t).p,HPP.o];have:=HTT.o;omega
   ·rw[oT]at qV;rw[qV]at PB;have PB:=Hi PB;by_cases h37:c=37
    ·have b37:((c:Int)==37)=true:=by rw[h37];rfl
     obtain⟨f,hf⟩:∃f,f=AF (U2 10) s p:=⟨_,rfl⟩;have wS:DM s p= .JI (min (f+1) s.size):=by
      unfold DM;rw[wQ,qV,lL (by decide),lQ (by rw[hb,h37];rfl),hf]
     have hfg:p<=f:=by rw[hf];exact BN _ _ _
     have zF:=bW s _ p (nR _) hp;rw[<-hf,<-ul]at zF;have CI:=fun w=>Tryz.strings_IndexByte u 10 w;rw[show(10:Int).toNat.toUInt8=10 from rfl,zF]at CI;obtain⟨t,sU⟩:∃t,t=min (f+1) s.size:=⟨_,rfl⟩;rw[<-sU]at wS;obtain⟨t1,bt,r,vM,hr⟩:=vA.o t wS;have CO:=Hi vM;have uO:=Hi hr;clear vM hr;obtain⟨N,hN⟩:∃N,N=t-p:=⟨_,rfl⟩;have eN:(p:Int)+N=t:=by omega
     have hv:u.extract 0 N=s.extract p t:=by rw[hu,WW (by omega),show p+N=t by rw[hN];exact Nat.add_sub_of_le (mW t1)]
     have bN:N<=u.size:=by omega
     have bN2:(N:Int)<=u.size:=by omega
     have tS:=Hi (wy.o);by_cases hfs:f<s.size
     ·rw[lQ hfs]at CI;have e1:((f-p:Nat):Int)+1=N:=by omega
      obtain⟨i,hi⟩:∃i,i=f-p:=⟨_,rfl⟩;rw[<-hi]at CI e1;have CI:=Hi CI;have n0:((N:Int)==0)=false:=AD (by omega);clear zu wS qV hb wQ hc sU vA ul hu hN zF hf hfg h37 hfs hi;go_wp2
      go_quiet (fail)
      go_wp2
      go_quiet (fail)
      rcases uO.o with⟨rfl,uL⟩|⟨M,rfl,hM,hk,he⟩
      ·have H2:=Hi uL;clear uL
       go_wp2_with (first
        | (go_at_call 51;(with_reducible refine(PB.o _).mono ?_);rintro e w' ⟨rfl,rfl⟩)
        | (go_at_call 52;(with_reducible refine(CI.o _).mono ?_);rintro e w' ⟨rfl,rfl⟩))
       refine(CO.o _ (zZ.o _)).mono ?_;rintro e w5 ⟨rfl,hb5⟩;have s9:=(tS.o _).below hb5;have hb6:=(yY.o _).trans (hb5.mono (mW (tS.o _).lt));have sz6:=lg (yQ.o _) hb5.size;have s0:=s9.c0;have s1:=s9.c1;have sf:=s9.f 1;have ST5:=Hi (s9.set t);have uf:=Hi (hb6.setCell (p:=⟨b,1,none⟩) (nR _) (.int .i64 t));have yC:Hid (w.heap.size<=(w5.setCell ⟨b,1,none⟩ (.int .i64 t)).heap.size):=Hi (by simpa using sz6);clear hb5 hb6 sz6 s9;go_wp2;go_roundw
       case rel=>exact⟨t,ST5.o,bt,H2.o,uf.o,yC.o⟩
       case measure=>rw[ST5.o.p,HPP.o];omega
      ·obtain⟨Q,hQ⟩:∃Q,Q=p+M:=⟨_,rfl⟩;have eM:(p:Int)+M=Q:=by omega
       have bQ:Q<=300000000:=by omega
       rw[<-hQ]at hk;have HK:=Hi hk;have HE:=Hi he;clear hk he;have m0:decide ((0:Int)<=(M:Int))=true:=Dq;clear hQ
       go_wp2_with (first
        | (go_at_call 51;(with_reducible refine(PB.o _).mono ?_);rintro e w' ⟨rfl,rfl⟩)
        | (go_at_call 52;(with_reducible refine(CI.o _).mono ?_);rintro e w' ⟨rfl,rfl⟩))
       refine(CO.o _ (zZ.o _)).mono ?_;rintro e w5 ⟨rfl,hb5⟩;have s9:=(tS.o _).below hb5;have uf:=Hi ((yY.o _).trans (hb5.mono (mW (tS.o _).lt)));have yC:=Hi (lg (yQ.o _) hb5.size);have s0:=s9.c0;have s1:=s9.c1;clear hb5 s9;go_wp2;go_ret2;exact J2 HK.o HE.o (by decide) uf.o yC.o
     ·rw[lL hfs]at CI;have CI:=Hi CI;have n0:((N:Int)==0)=false:=AD (by omega);have eul:u.size=N:=by omega
      clear zu wS qV hb wQ hc sU vA ul hu hN zF hf hfg h37 hfs;go_wp2
      go_quiet (fail)
      go_wp2
      go_quiet (fail)
      rcases uO.o with⟨rfl,uL⟩|⟨M,rfl,hM,hk,he⟩
      ·have H2:=Hi uL;clear uL
       go_wp2_with (first
        | (go_at_call 51;(with_reducible refine(PB.o _).mono ?_);rintro e w' ⟨rfl,rfl⟩)
        | (go_at_call 52;(with_reducible refine(CI.o _).mono ?_);rintro e w' ⟨rfl,rfl⟩))
       refine(CO.o _ (zZ.o _)).mono ?_;rintro e w5 ⟨rfl,hb5⟩;have s9:=(tS.o _).below hb5;have hb6:=(yY.o _).trans (hb5.mono (mW (tS.o _).lt));have sz6:=lg (yQ.o _) hb5.size;have s0:=s9.c0;have s1:=s9.c1;have sf:=s9.f 1;have ST5:=Hi (s9.set t);have uf:=Hi (hb6.setCell (p:=⟨b,1,none⟩) (nR _) (.int .i64 t));have yC:Hid (w.heap.size<=(w5.setCell ⟨b,1,none⟩ (.int .i64 t)).heap.size):=Hi (by simpa using sz6);clear hb5 hb6 sz6 s9;go_wp2;go_roundw
       case rel=>exact⟨t,ST5.o,bt,H2.o,uf.o,yC.o⟩
       case measure=>rw[ST5.o.p,HPP.o];omega
      ·obtain⟨Q,hQ⟩:∃Q,Q=p+M:=⟨_,rfl⟩;have eM:(p:Int)+M=Q:=by omega
       have bQ:Q<=300000000:=by omega
       rw[<-hQ]at hk;have HK:=Hi hk;have HE:=Hi he;clear hk he;have m0:decide ((0:Int)<=(M:Int))=true:=Dq;clear hQ
       go_wp2_with (first
        | (go_at_call 51;(with_reducible refine(PB.o _).mono ?_);rintro e w' ⟨rfl,rfl⟩)
        | (go_at_call 52;(with_reducible refine(CI.o _).mono ?_);rintro e w' ⟨rfl,rfl⟩))
       refine(CO.o _ (zZ.o _)).mono ?_;rintro e w5 ⟨rfl,hb5⟩;have s9:=(tS.o _).below hb5;have uf:=Hi ((yY.o _).trans (hb5.mono (mW (tS.o _).lt)));have yC:=Hi (lg (yQ.o _) hb5.size);have s0:=s9.c0;have s1:=s9.c1;clear hb5 s9;go_wp2;go_ret2;exact J2 HK.o HE.o (by decide) uf.o yC.o
    ·have b37:((c:Int)==37)=false:=DC h37;have CP:=fun w=>Tryz.strings_HasPrefix u ⟨#[47,42]⟩ w;rw[show(⟨#[47,42]⟩:ByteArray).data.toList= [47,42]from rfl,ul,Yy qE]at CP;by_cases h47:AI s p=47/\AI s (p+1)=42
     ·rw[lU h47]at CP;have CP:=Hi CP;have qj:p+1<s.size:=by
       rcases ls (p+1) s.size with h|h
       ·exact h
       ·have:=Ax s (p+1) h;omega
      obtain⟨q,hq⟩:∃q,q=p+2:=⟨_,rfl⟩;have LT:DM s p=if Dz s q+1<s.size then .JI (Dz s q+2)else .Si:=by
       unfold DM;rw[wQ,qV,lL (by decide),lL (by rw[hb];omega),lQ h47,hq]
      obtain⟨x,hx⟩:∃x,x=s.extract q s.size:=⟨_,rfl⟩;have ex:u.extract 2 u.size=x:=by rw[hu,Zf (by omega),hx,hq]
      have u2:(2:Int)<=u.size:=by omega
      have zF:=bS s _ q (nR _);have xl:x.data.toList=s.data.toList.drop q:=by rw[hx,Dt]
      rw[<-xl]at zF;have CI:=fun(w:World) (hw:Ag w)=>(by
       obtain⟨m,hm⟩:=hw.maxLen;have h:=Tryz.strings_Index x ⟨#[42,47]⟩ m w (by rw[hx,l8];omega) hm;rw[show(⟨#[42,47]⟩:ByteArray).data.toList= [42,47]from rfl,zF]at h;exact h:Calls prog 54 #[.string x,.string ⟨#[42,47]⟩] w fun e w'=>e= .returned (.int .i64 (if Dz s q+1<s.size then((Dz s q-q:Nat):Int)else-1))/\w'=w)
      have uj:=Na s q;by_cases qy:Dz s q+1<s.size
      ·rw[lQ qy]at LT;simp only[lQ qy]at CI;obtain⟨i,hi⟩:∃i,i=Dz s q-q:=⟨_,rfl⟩;rw[<-hi]at CI;have CI:=Hi CI;obtain⟨t,sU⟩:∃t,t=Dz s q+2:=⟨_,rfl⟩;rw[<-sU]at LT;obtain⟨t1,bt,r,vM,hr⟩:=vA.o t LT;have CO:=Hi vM;have uO:=Hi hr;clear vM hr;obtain⟨N,hN⟩:∃N,N=t-p:=⟨_,rfl⟩;have eN:(p:Int)+N=t:=by omega
       have e1:(i:Int)+4=N:=by omega
       have i0:decide ((i:Int)<0)=false:=Ej;have bi:i<=100000000:=by omega
       have hv:u.extract 0 N=s.extract p t:=by rw[hu,WW (by omega),show p+N=t by rw[hN];exact Nat.add_sub_of_le (mW t1)]
       have bN:N<=u.size:=by omega
       have bN2:(N:Int)<=u.size:=by omega
       have tS:=Hi (wy.o);clear zu LT qV hb wQ hc sU vA ul hu hN zF xl hx h37 h47 qy hi uj hq qj;go_wp2
       go_quiet (fail)
       go_wp2
       go_quiet (fail)
       rcases uO.o with⟨rfl,uL⟩|⟨M,rfl,hM,hk,he⟩
       ·have H2:=Hi uL;clear uL
        go_wp2_with (first
         | (go_at_call 51;(with_reducible refine(PB.o _).mono ?_);rintro e w' ⟨rfl,rfl⟩)
         | (go_at_call 53;(with_reducible refine(CP.o _).mono ?_);rintro e w' ⟨rfl,rfl⟩)
         | (go_at_call 54;(with_reducible refine(CI.o _ (zZ.o _)).mono ?_);rintro e w' ⟨rfl,rfl⟩))
        refine(CO.o _ (zZ.o _)).mono ?_;rintro e w5 ⟨rfl,hb5⟩;have s9:=(tS.o _).below hb5;have hb6:=(yY.o _).trans (hb5.mono (mW (tS.o _).lt));have sz6:=lg (yQ.o _) hb5.size;have s0:=s9.c0;have s1:=s9.c1;have sf:=s9.f 1;have ST5:=Hi (s9.set t);have uf:=Hi (hb6.setCell (p:=⟨b,1,none⟩) (nR _) (.int .i64 t));have yC:Hid (w.heap.size<=(w5.setCell ⟨b,1,none⟩ (.int .i64 t)).heap.size):=Hi (by simpa using sz6);clear hb5 hb6 sz6 s9;go_wp2;go_roundw
        case rel=>exact⟨t,ST5.o,bt,H2.o,uf.o,yC.o⟩
        case measure=>rw[ST5.o.p,HPP.o];omega
       ·obtain⟨Q,hQ⟩:∃Q,Q=p+M:=⟨_,rfl⟩;have eM:(p:Int)+M=Q:=by omega
        have bQ:Q<=300000000:=by omega
        rw[<-hQ]at hk;have HK:=Hi hk;have HE:=Hi he;clear hk he;have m0:decide ((0:Int)<=(M:Int))=true:=Dq;clear hQ
        go_wp2_with (first
         | (go_at_call 51;(with_reducible refine(PB.o _).mono ?_);rintro e w' ⟨rfl,rfl⟩)
         | (go_at_call 53;(with_reducible refine(CP.o _).mono ?_);rintro e w' ⟨rfl,rfl⟩)
         | (go_at_call 54;(with_reducible refine(CI.o _ (zZ.o _)).mono ?_);rintro e w' ⟨rfl,rfl⟩))
        refine(CO.o _ (zZ.o _)).mono ?_;rintro e w5 ⟨rfl,hb5⟩;have s9:=(tS.o _).below hb5;have uf:=Hi ((yY.o _).trans (hb5.mono (mW (tS.o _).lt)));have yC:=Hi (lg (yQ.o _) hb5.size);have s0:=s9.c0;have s1:=s9.c1;clear hb5 s9;go_wp2;go_ret2;exact J2 HK.o HE.o (by decide) uf.o yC.o
      ·rw[lL qy]at LT;simp only[lL qy]at CI;have CI:=Hi CI;obtain⟨hk,he⟩:=HL.o.da qE LT;have HK:=Hi hk;have HE:=Hi he;clear zu LT qV hb wQ hc vA ul hu zF xl hx h37 h47 qy uj hq qj hk he;go_wp2
       go_quiet (fail)
       go_wp2
       go_quiet (fail)
       go_wp2_with (first
        | (go_at_call 51;(with_reducible refine(PB.o _).mono ?_);rintro e w' ⟨rfl,rfl⟩)
        | (go_at_call 53;(with_reducible refine(CP.o _).mono ?_);rintro e w' ⟨rfl,rfl⟩)
        | (go_at_call 54;(with_reducible refine(CI.o _ (zZ.o _)).mono ?_);rintro e w' ⟨rfl,rfl⟩))
       go_ret2;exact J2 HK.o.symm HE.o.symm (by decide) (yY.o _) (yQ.o _)
     ·rw[lO h47]at CP;have CP:=Hi CP;have wS:DM s p= .stop:=by
       unfold DM;rw[wQ,qV,lL (by decide),lL (by rw[hb];omega),lL h47]
      obtain⟨hk,he⟩:=HL.o.Zg qE wS;have HK:=Hi hk;have HE:=Hi he;clear zu wS qV hb wQ hc vA ul hu h37 h47 hk he;go_wp2
      go_quiet (fail)
      go_wp2
      go_quiet (fail)
      go_wp2_with (first
       | (go_at_call 51;(with_reducible refine(PB.o _).mono ?_);rintro e w' ⟨rfl,rfl⟩)
       | (go_at_call 53;(with_reducible refine(CP.o _).mono ?_);rintro e w' ⟨rfl,rfl⟩))
      go_ret2;exact Sp HK.o.symm HE.o.symm (wy.o _) (yY.o _) (yQ.o _)
  ·obtain⟨hk,he⟩:=HL.o.J3 (by omega);have HK:=Hi hk;have HE:=Hi he;have pd:decide ((p:Int)<s.size)=false:=Ej;clear hk he;go_wp2
   go_quiet (fail)
   go_wp2;go_ret2;exact Sp HK.o.symm HE.o.symm (wy.o _) (yY.o _) (yQ.o _)
end Go.Proofs
end
