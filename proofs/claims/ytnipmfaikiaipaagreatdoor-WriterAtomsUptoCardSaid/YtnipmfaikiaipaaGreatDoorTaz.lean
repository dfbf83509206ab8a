import Derived.Test.YtnipmfaikiaipaaGreatDoorTay
import Derived.ChangeStays
import Derived.ChangeSame
import Derived.ProofKit
import Derived.OpenShut
import Derived.Deep.DeepHandedRow
import Derived.Lay
import Derived.ChangeBears2
import Derived.Shelf.Strings.BuilderK
import Derived.Shelf.Strings.BuilderRune
import Derived.Shelf.Strings.Prefix
import Derived.Test.YtnipmfaikiaipaaGreatDoorRows
import Derived.KernelRfl
set_option linter.unusedSimpArgs false
set_option maxRecDepth 1000000
set_option maxHeartbeats 40000000
section
namespace Go.Lx
theorem Lay.le {s:ByteArray} {p k e:Nat}(h:Lay s p k e):p<=s.size->e=0->k<=s.size:=by
 induction h with
 |done _=>exact fun h _=>h
 |stop _ _=>exact fun h _=>h
 |QB _ _=>exact fun _ h=>by cases h
 |bad _ _ _=>exact fun _ h=>by cases h
 |step h1 h2 _ _ ih=>exact fun _ h=>ih (Ea h1 h2).2 h
theorem Lay.er {s:ByteArray} {p k e:Nat}(h:Lay s p k e):e=0\/e=30\/e=33:=by
 induction h with
 |done _=>exact .inl rfl
 |stop _ _=>exact .inl rfl
 |QB _ _=>exact .inr (.inr rfl)
 |bad _ _ _=>exact .inr (.inl rfl)
 |step _ _ _ _ ih=>exact ih
end Go.Lx
namespace Go.Proofs
open Go.RowKit Go.Pf Go.Lx Go.Hb Go.Rb Go.Bg
def TR.fh (R:TR) (ly:Bool):Value:=match R with
 | .ok k tx nu bits a en=>AK k tx nu bits a en ly
 | .err p _=>As p
def Cb (R:TR) (ly:Bool) (w:World) (e:Ending) (w':World):Prop:=e= .returned (.tuple #[TR.fh R ly,.int .i64 (TR.er R:Nat)])/\Below w.heap.size w w'
theorem Cb.er {R:TR} {ly:Bool} {w w':World} {p n:Nat}(h:R= .err p n) (hb:Below w.heap.size w w'):Cb R ly w (.returned (.tuple #[As p,.int .i64 n])) w':=by subst h;exact⟨rfl,hb⟩
theorem Cb.ok {R:TR} {ly:Bool} {w w':World} {k bits a E:Nat} {tx nu:ByteArray}(h:R= .ok k tx nu bits a E) (hb:Below w.heap.size w w'):Cb R ly w (.returned (.tuple #[AK k tx nu bits a E ly,.int .i64 0])) w':=by subst h;exact⟨rfl,hb⟩
noncomputable def UY (s:ByteArray) (K E:Nat):TR:=if E=0 then Dr s K else .err K E
def TR.nz:TR->Prop
 | .ok .. =>True
 | .err _ n=>n≠0
theorem Fy (p:Nat){n:Nat}(h:n≠0):TR.nz (.err p n):=h
theorem Y8 {s:ByteArray} {a:Nat} {R:TR}(h:DU s a=some R):TR.nz R:=by
 unfold DU at h
 repeat' split at h
 all_goals first|(cases h;done)|(cases h;exact True.intro)|(cases h;exact Fy _ (by decide))
theorem YM (s:ByteArray) (a f t r:Nat):TR.nz (B5 s a f t r):=by
 have key:∀(A B:TR),TR.nz A->TR.nz B->∀(c:Prop) [Decidable c],TR.nz (if c then A else B):=fun A B hA hB c _=>by
  split
  ·exact hA
  ·exact hB
 unfold B5;refine key _ _ ?_ ?_ _
 ·exact True.intro
 ·exact Fy _ (by decide)
theorem Se (s:ByteArray) (a p:Nat) (x:Int) (t:Nat):TR.nz (LH s a p x t):=by
 unfold LH;split
 ·exact Fy _ (by decide)
 ·split
  ·exact True.intro
  ·exact Fy _ (by decide)
theorem XT (s:ByteArray) (a p:Nat):TR.nz (E4 s a p):=by
 unfold E4;split
 ·split
  ·exact Fy _ (by decide)
  ·exact Se _ _ _ _ _
 ·exact Se _ _ _ _ _
theorem YT (s:ByteArray) (a:Nat):TR.nz (F7 s a):=by
 unfold F7;split
 ·exact Y8 (by assumption)
 ·repeat' split
  all_goals first
   | (with_reducible exact YM _ _ _ _ _)
   | (with_reducible exact XT _ _ _)
theorem YE {s:ByteArray} {a q p:Nat} {out:List UInt8} {R:TR}(h:Ei s a q p out= .inl R):TR.nz R:=by
 unfold Ei at h
 repeat' split at h
 all_goals first|(cases h;done)|(cases h;exact True.intro)|(cases h;exact Fy _ (by decide))
theorem R3 (s:ByteArray) (a q:Nat):∀(f p:Nat) (out:List UInt8),TR.nz (J9 s a q f p out)
 |0,_,_=>Fy _ (by decide)
 |f+1,p,out=>by
  unfold J9;split
  ·exact YE (by assumption)
  ·exact R3 s a q f _ _
theorem XW (s:ByteArray) (a q p:Nat) (out:List UInt8):TR.nz (Br s a q p out):=R3 _ _ _ _ _ _
theorem Xl (s:ByteArray) (k a t:Nat):TR.nz (Dc s k a t):=by
 unfold Dc;split
 ·exact Fy _ (by decide)
 ·exact True.intro
theorem ZK (s:ByteArray) (a:Nat):TR.nz (Dr s a):=by
 unfold Dr
 repeat' split
 all_goals first
  | (with_reducible exact YT _ _)
  | (with_reducible exact XW _ _ _ _ _)
  | (with_reducible exact Xl _ _ _ _)
  | (with_reducible exact Fy _ (by decide))
  |exact True.intro
theorem KF {s:ByteArray} {a p n:Nat}(h:Dr s a= .err p n):n≠0:=by
 have:=ZK s a;rw[h]at this;exact this
theorem ez (s:ByteArray) (p K E:Nat) (w:World) (hs:s.size<=140737488355000) (hp:p<=s.size) (hL:Lay s p K E):
 Calls Tryz.prog 61 #[.string s,.int .i64 p] w (Cb (UY s K E) (decide (p<K)) w):=by
 obtain⟨R,hR⟩:∃R,R=UY s K E:=⟨_,rfl⟩;obtain⟨ly,hly⟩:∃ly,ly=decide (p<K):=⟨_,rfl⟩;rw[<-hR,<-hly];unfold UY at hR;have q1:decide ((p:Int)<0)=false:=BC;have q2:decide ((s.size:Int)<p)=false:=BC;have q2b:decide (s.size<p)=false:=BC;have q3:¬(s.size:Int)<p:=by omega
 have CS:Hid (∀w,Calls Tryz.prog 106 #[.string s,.int .i64 p] w (OA K E w)):=Hi (fun w=>eW s p K E w (by omega) hp (Hi hL));have hle:=hL.le hp;have her:=hL.er;clear hL;by_cases hE:E=0
 ·rw[if_pos hE]at hR;have kle:=hle hE;have CT:=fun w=>bO s K w hs kle;rw[<-hR]at CT;have CT:=Hi CT;have e0:((E:Int) !=0)=false:=BI (by omega);have HLY:=Hi hly;have hlk:decide (p<K)=ly:=hly.symm;have hlk2:decide ((p:Int)<K)=ly:=by rw[hly];exact NO.2 (by omega)
  cases R with
  |err rp rn=>
   have hrn:rn≠0:=KF hR.symm;have e1:((rn:Int)==0)=false:=AA (by omega);have CT:Hid (∀w,Calls Tryz.prog 107 #[.string s,.int .i64 K] w fun e w'=>e= .returned (.tuple #[As rp,.int .i64 rn])/\Below w.heap.size w w'):=Hi CT.out;clear hR hle her hE hly hlk hlk2 hrn;go_enter Tryz.func61,Tryz.ntmps61
   go_wp2_with (go_at_call 106;(with_reducible refine(CS.out _).mono ?_);rintro e w' ⟨rfl,rfl⟩)
   generalize hW:w.alloc _=W1;have HBL:Hid (Below w.heap.size w W1):=Hi (by subst hW;exact(AH _ _).alloc (nR _) _);have HK:Hid (A8 W1 w.heap.size):=Hi (by subst hW;exact A8.new w);clear hW;refine(CT.out _).mono ?_;rintro e W4 ⟨rfl,b4⟩;have HKX:=HK.out.below b4;have hlt:=HKX.lt;obtain⟨k0,k1,k2,k3,k4,k5,k6⟩:=HKX.cs;obtain⟨f0,f1,f2,f3,f4,f5,f6⟩:=HKX.fs;have HB:=Hi (HBL.out.trans (b4.mono HBL.out.size));clear b4 HKX;unfold As AK;go_wp2;refine AI (v:= .tuple #[As rp,.int .i64 rn]) ?_ rfl (Cb.er rfl ?_)
   ·simp only[results,Tryz.results61];go_simp;rfl
   ·refine Below.al ?_ _
    iterate 7 refine By ?_ (by first|omega|(simp only;omega)) _
    exact HB.out
  |ok k tx nu bits a en=>
   have CT:Hid (∀w,Calls Tryz.prog 107 #[.string s,.int .i64 K] w fun e w'=>e= .returned (.tuple #[AK k tx nu bits a en false,.int .i64 0])/\Below w.heap.size w w'):=Hi CT.out;clear hR hle her hE hly;go_enter Tryz.func61,Tryz.ntmps61
   go_wp2_with (go_at_call 106;(with_reducible refine(CS.out _).mono ?_);rintro e w' ⟨rfl,rfl⟩)
   generalize hW:w.alloc _=W1;have HBL:Hid (Below w.heap.size w W1):=Hi (by subst hW;exact(AH _ _).alloc (nR _) _);have HK:Hid (A8 W1 w.heap.size):=Hi (by subst hW;exact A8.new w);clear hW;refine(CT.out _).mono ?_;rintro e W4 ⟨rfl,b4⟩;have HKX:=HK.out.below b4;have hlt:=HKX.lt;obtain⟨k0,k1,k2,k3,k4,k5,k6⟩:=HKX.cs;obtain⟨f0,f1,f2,f3,f4,f5,f6⟩:=HKX.fs;have HB:=Hi (HBL.out.trans (b4.mono HBL.out.size));clear b4 HKX;unfold AK;go_wp2;refine AI (v:= .tuple #[AK k tx nu bits a en ly,.int .i64 0]) ?_ rfl (Cb.ok rfl ?_)
   ·simp only[results,Tryz.results61];go_simp;rfl
   ·refine Below.al ?_ _
    iterate 7 refine By ?_ (by first|omega|(simp only;omega)) _
    exact HB.out
 ·rw[if_neg hE]at hR;have HF:=Hi hR;have e0:((E:Int) !=0)=true:=Cd (by omega);have bE:E<=33:=by omega
  clear hR hle hE her hly;go_enter Tryz.func61,Tryz.ntmps61
  go_wp2_with (go_at_call 106;(with_reducible refine(CS.out _).mono ?_);rintro e w' ⟨rfl,rfl⟩)
  generalize hW:w.alloc _=W1;have HBL:Hid (Below w.heap.size w W1):=Hi (by subst hW;exact(AH _ _).alloc (nR _) _);have HK:Hid (A8 W1 w.heap.size):=Hi (by subst hW;exact A8.new w);clear hW;refine(Ew K E _).mono ?_;rintro e W4 ⟨rfl,b4⟩;unfold As AK;have HKX:=HK.out.below b4;obtain⟨k0,k1,k2,k3,k4,k5,k6⟩:=HKX.cs;obtain⟨f0,f1,f2,f3,f4,f5,f6⟩:=HKX.fs;have HB:=Hi (HBL.out.trans (b4.mono HBL.out.size));clear b4 HKX;go_wp2;refine AI (v:= .tuple #[As K,.int .i64 E]) ?_ rfl (Cb.er HF.out ?_)
  ·simp only[results,Tryz.results61];go_simp;rfl
  ·iterate 7 refine By ?_ (by first|omega|(simp only;omega)) _
   exact HB.out
end Go.Proofs
end
section
set_option linter.unusedVariables false
namespace Go.Proofs
open Go.Shelf
def Jj:Go.Shelf.Ren:=⟨fun|169=>47|n=>n,fun|70=>103|9=>9|0=>0|72=>106|37=>104|127=>156|3=>3|5=>5|n=>n,fun|n=>n⟩
theorem ZZ:Go.Proofs.Lays.n169 Tryz.prog Jj:= {
 mixed:=by kernel_rfl
 f169:=Tryz.func47.trans (congrArg some (by kernel_rfl))
 t0:=Tryz.underlying0
 a0:=Tryz.isAgg0
 z0:=Tryz.sizeOf0
 v0:=Tryz.zeroValue0
 t3:=Tryz.underlying3
 a3:=Tryz.isAgg3
 z3:=Tryz.sizeOf3
 v3:=Tryz.zeroValue3
 t9:=Tryz.underlying9
 a9:=Tryz.isAgg9
 z9:=Tryz.sizeOf9
 v9:=Tryz.zeroValue9
 t37:=Tryz.underlying104
 a37:=Tryz.isAgg104
 z37:=Tryz.sizeOf104
 v37:=Tryz.zeroValue104
 t70:=Tryz.underlying103
 a70:=Tryz.isAgg103
 z70:=Tryz.sizeOf103
 v70:=Tryz.zeroValue103
 t72:=Tryz.underlying106
 a72:=Tryz.isAgg106
 z72:=Tryz.sizeOf106
 v72:=Tryz.zeroValue106
 t127:=Tryz.underlying156
 a127:=Tryz.isAgg156
 z127:=Tryz.sizeOf156
 v127:=Tryz.zeroValue156}
theorem Ic:Builder.Extra Tryz.prog Jj:= {
 sizeBuilder:=by kernel_rfl
 liesBuilder:=by kernel_rfl
 t5:=Tryz.underlying5
 a5:=Tryz.isAgg5
 z5:=Tryz.sizeOf5
 v5:=Tryz.zeroValue5
 infoByte:=by kernel_rfl
 cellsByte:=by kernel_rfl
 sizeByte:=by kernel_rfl
 neB5:=by decide}
open Go.RowKit in
theorem Tryz.Builder_String_any_k (B b:Nat) (l:List UInt8) (w:World) (h:Lib.IsBuilderF 106 5 B b (Lib.byteCells l) w) (hBw:B<=w.heap.size):
 Calls Tryz.prog 47 #[.pointer (some ⟨b,0,none⟩)] w fun e w'=>e= .returned (.string ⟨l.toArray⟩)/\(Lib.IsBuilderF 106 5 B b (Lib.byteCells l) w'/\Below B w w'/\Lib.OthersKept 5 (some b) w w'):=Any.Builder_String_any_k ZZ Ic B b l w h hBw
def Ol:Go.Shelf.Ren:=⟨fun|118=>119|n=>n,fun|21=>21|3=>3|4=>4|n=>n,fun|n=>n⟩
theorem Y6:Go.Proofs.Lays.n118 Tryz.prog Ol:= {
 mixed:=by kernel_rfl
 f118:=Tryz.func119.trans (congrArg some (by kernel_rfl))
 t3:=Tryz.underlying3
 a3:=Tryz.isAgg3
 z3:=Tryz.sizeOf3
 v3:=Tryz.zeroValue3
 t4:=Tryz.underlying4
 a4:=Tryz.isAgg4
 z4:=Tryz.sizeOf4
 v4:=Tryz.zeroValue4
 t21:=Tryz.underlying21
 a21:=Tryz.isAgg21
 z21:=Tryz.sizeOf21
 v21:=Tryz.zeroValue21}
theorem Tryz.utf8_RuneLen (r:Int) (w:World):
 Calls Tryz.prog 119 #[.int .i32 r] w fun e w'=>e= .returned (.int .i64 (Lib.runeLen r))/\w'=w:=Any.utf8_RuneLen Y6 r w
def QQ:Go.Shelf.Ren:=⟨fun|99=>68|206=>111|n=>n,fun|9=>9|4=>4|3=>3|n=>n,fun|n=>n⟩
theorem bU:Go.Proofs.Lays.n99 Tryz.prog QQ:= {
 mixed:=by kernel_rfl
 f99:=Tryz.func68.trans (congrArg some (by kernel_rfl))
 f206:=Tryz.func111.trans (congrArg some (by kernel_rfl))
 t3:=Tryz.underlying3
 a3:=Tryz.isAgg3
 z3:=Tryz.sizeOf3
 v3:=Tryz.zeroValue3
 t4:=Tryz.underlying4
 a4:=Tryz.isAgg4
 z4:=Tryz.sizeOf4
 v4:=Tryz.zeroValue4
 t9:=Tryz.underlying9
 a9:=Tryz.isAgg9
 z9:=Tryz.sizeOf9
 v9:=Tryz.zeroValue9}
open Go.RowKit Go.Lib in
theorem Tryz.strings_HasPrefix (s p:ByteArray) (w:World):
 Calls Tryz.prog 68 #[.string s,.string p] w fun e w'=>e= .returned (.bool (Lib.hasPrefix s.data.toList p.data.toList))/\w'=w:=Any.strings_HasPrefix bU s p w
def Jq:Go.Shelf.Ren:=⟨fun|242=>102|278=>151|n=>n,fun|72=>106|37=>104|21=>21|51=>176|4=>4|5=>5|46=>121|n=>n,fun|n=>n⟩
theorem YJ:Go.Proofs.Lays.n242 Tryz.prog Jq:= {
 mixed:=by kernel_rfl
 f242:=Tryz.func102.trans (congrArg some (by kernel_rfl))
 f278:=Tryz.func151.trans (congrArg some (by kernel_rfl))
 t4:=Tryz.underlying4
 a4:=Tryz.isAgg4
 z4:=Tryz.sizeOf4
 v4:=Tryz.zeroValue4
 t5:=Tryz.underlying5
 a5:=Tryz.isAgg5
 z5:=Tryz.sizeOf5
 v5:=Tryz.zeroValue5
 t21:=Tryz.underlying21
 a21:=Tryz.isAgg21
 z21:=Tryz.sizeOf21
 v21:=Tryz.zeroValue21
 t37:=Tryz.underlying104
 a37:=Tryz.isAgg104
 z37:=Tryz.sizeOf104
 v37:=Tryz.zeroValue104
 t46:=Tryz.underlying121
 a46:=Tryz.isAgg121
 z46:=Tryz.sizeOf121
 v46:=Tryz.zeroValue121
 t51:=Tryz.underlying176
 a51:=Tryz.isAgg176
 z51:=Tryz.sizeOf176
 v51:=Tryz.zeroValue176}
theorem Ih:Builder.Extra Tryz.prog Jq:= {
 sizeBuilder:=by kernel_rfl
 liesBuilder:=by kernel_rfl
 t5:=Tryz.underlying5
 a5:=Tryz.isAgg5
 z5:=Tryz.sizeOf5
 v5:=Tryz.zeroValue5
 infoByte:=by kernel_rfl
 cellsByte:=by kernel_rfl
 sizeByte:=by kernel_rfl
 neB5:=by decide}
open Go.RowKit in
theorem Tryz.utf8_AppendRune_own (B:Nat) (v:Value) (n:Nat) (xs:List Value) (r:Int) (hr0: -2147483648<=r) (hr1:r<=2147483647) (w:World) (hown:w.ownsRowF B 5 1 v n xs) (hlen:n+4<=140737488355328) (hBw:B<=w.heap.size):
 Calls Tryz.prog 102 #[v,.int .i32 r] w fun e w'=>∃v',e= .returned v'/\w'.ownsRowF B 5 1 v' (n+(Lib.runeCells r).length) (xs++Lib.runeCells r)/\∃o,(w.alloc o).grownBy w' v.ownBlock:=
 Any.utf8_AppendRune_own YJ Ih B v n xs r hr0 hr1 w hown hlen hBw
end Go.Proofs
end
section
namespace Go.Proofs
open Go.Shelf Go.RowKit
theorem Tryz.sizeBuilder:(Tryz.prog.info? 106).map (·.size)=some 2:=by kernel_rfl
theorem Tryz.liesBuilder:liesAt Tryz.prog Tryz.prog.depth 106 (2/Tryz.prog.cellsOf 106) 0 106 1=true:=by kernel_rfl
theorem Tryz.infoByte:(Tryz.prog.info? 5).map (fun i=>(i.zero,i.size,i.bytes))=some (some (.int .u8 0),1,1):=by kernel_rfl
theorem LJ (b:Nat) (w:World) (h0:w.cell? ⟨b,0,none⟩=some (.pointer (some ⟨b,0,none⟩))):
 Calls Tryz.prog 89 #[.pointer (some ⟨b,0,none⟩)] w fun e w'=>e= .returned (.tuple #[])/\w'=w:=by
 obtain⟨j,hj,_⟩:=Option.map_eq_some_iff.1 Tryz.sizeBuilder;go_enter Tryz.func89,Tryz.ntmps89;go_wp2;rw[Lib.run_neq_ptr_same w _ Tryz.underlying103 hj];go_wp2
 go_end0
 exact⟨rfl,rfl⟩
theorem Jz (b:Nat) (w:World) (h0:w.cell? ⟨b,0,none⟩=some (.pointer none)) (hsh:w.shape? b=some (106,2)) (hfz:w.frozen? ⟨b,0,none⟩=false):
 Calls Tryz.prog 89 #[.pointer (some ⟨b,0,none⟩)] w fun e w'=>e= .returned (.tuple #[])/\w'=w.setCell ⟨b,0,none⟩ (.pointer (some ⟨b,0,none⟩)):=by
 obtain⟨j,hj,hjs⟩:=Option.map_eq_some_iff.1 Tryz.sizeBuilder;go_enter Tryz.func89,Tryz.ntmps89;go_wp2;rw[Lib.run_to_unsafe w ⟨b,0,none⟩ Tryz.underlying103 Tryz.underlying187 hj (by rw[hjs];decide) hsh (Nat.zero_lt_succ 1)];simp only[Result.andThen];rw[Oper.upon_value];go_wp2;rw[run_callFunc_extern Tryz.func133 (by kernel_rfl) (by kernel_rfl) (by kernel_rfl) (e:=Extern.AbiNoEscape.same) (by kernel_rfl)];rw[Lib.run_noEscape];simp only[Result.andThen];rw[Oper.upon_value];go_wp2;rw[Lib.run_from_unsafe w ⟨b,0,none⟩ Tryz.underlying187 Tryz.underlying103 hj hsh Tryz.liesBuilder];simp only[Result.andThen];rw[Oper.upon_value];go_wp2
 go_end0
 exact⟨rfl,rfl⟩
theorem GV (B b:Nat) (bs:List Value) (w:World) (h:Lib.IsBuilderF 106 5 B b bs w):
 Calls Tryz.prog 89 #[.pointer (some ⟨b,0,none⟩)] w fun e w'=>e= .returned (.tuple #[])/\(Lib.BuilderAtF 106 5 B b (.pointer (some ⟨b,0,none⟩)) bs w'/\Below B w w'/\Lib.OthersKept 5 (some b) w w'):=by
 rcases h with h|h
 ·refine(Jz b w h.cell0 h.shape h.frozen0).mono ?_;rintro e w' ⟨rfl,rfl⟩;exact⟨rfl,h.used _,(AH B w).setCell (p:=⟨b,0,none⟩) h.1 _,(Lib.OthersKept.refl _ _ w).setCell ⟨b,0,none⟩ rfl _⟩
 ·refine(LJ b w h.cell0).mono ?_;rintro e w' ⟨rfl,rfl⟩;exact⟨rfl,h,AH B _,Lib.OthersKept.refl _ _ _⟩
theorem ES (B b:Nat) (bs:List Value) (c:Int) (w:World) (h:Lib.IsBuilderF 106 5 B b bs w) (hlen:bs.length+1<=140737488355328) (hBw:B<=w.heap.size):
 Calls Tryz.prog 57 #[.pointer (some ⟨b,0,none⟩),.int .u8 c] w fun e w'=>e= .returned .nilIface/\(Lib.BuilderAtF 106 5 B b (.pointer (some ⟨b,0,none⟩)) (bs++ [.int .u8 c]) w'/\Below B w w'/\Lib.OthersKept 5 (some b) w w'):=by
 obtain⟨i0,hi,hz0,hz1,hz2⟩:=info_parts Tryz.infoByte;go_enter Tryz.func57,Tryz.ntmps57
 go_wp2_with (go_at_call 89;refine(GV B b bs _ h).mono ?_)
 rintro e w1 ⟨rfl,h1,hb1,hk1⟩;obtain⟨hB,v,hbk,hown,hne⟩:=h1;have c0:w1.cell? ⟨b,0,none⟩=some (.pointer (some ⟨b,0,none⟩)):=by rw[Lib.cell_of_heap hbk];rfl
 have c1:w1.cell? ⟨b,1,none⟩=some v:=by rw[Lib.cell_of_heap hbk];rfl
 go_wp2_with (at_builtin;refine wpList_append_ownF _ rfl _ _ 104 rfl B 5 i0 (.int .u8 0) 1 1 Tryz.underlying104 hi hz0 hz1 hz2 rfl (by decide) _ _ _ rfl (hown.alloc _) ⟨w1.heap.size,0,none⟩ 1 1 [.int .u8 c] rfl rfl ?c1 ?c2 ?c3 ?c4 ?c5 ?_)
 case c1=>
  intro j u hj
  match j,hj with
  |0,hj=>simp at hj;subst hj;simp[Addr.add]
 case c2=>intro u hu;simp at hu;subst hu;rfl
 case c3=>unfold maxLen;omega
 case c4=>omega
 case c5=>have:=hb1.size;simp;omega
 intro v' w2 hown' hgrow _;have hlt:b<w1.heap.size:=by
  rcases BY b w1.heap.size with h'|h'
  ·exact h'
  ·simp[Array.getElem?_eq_none h']at hbk
 have hb2:w2.heap[b]? =some (.cells #[.pointer (some ⟨b,0,none⟩),v] 106 (0,0)):=by
  rw[hgrow.block b (by simp;omega) (fun e=>hne e.symm),Lib.alloc_old w1 _ b hlt];exact hbk
 have d0:w2.cell? ⟨b,0,none⟩=some (.pointer (some ⟨b,0,none⟩)):=by rw[Lib.cell_of_heap hb2];rfl
 have d1:w2.cell? ⟨b,1,none⟩=some v:=by rw[Lib.cell_of_heap hb2];rfl
 have f1:w2.frozen? ⟨b,1,none⟩=false:=Lib.frozen_of_heap hb2 1;obtain⟨g,cap,rfl⟩:∃g cap,v'= .slice (some ⟨g,0,none⟩) (bs.length+1) cap:=by
  rcases hown'.2 with⟨_,h0⟩|⟨g,cap,cur,fz,hv,_⟩
  ·omega
  ·exact⟨g,cap,hv⟩
 go_wp2;go_ret;refine⟨rfl,?_,?_,((hk1.alloc _).grown hgrow (Lib.ownsRowF_kind (hown.alloc _))).setCell ⟨b,1,none⟩ rfl _⟩
 ·exact Lib.BuilderAtF.put (T:=106) (e:=5) hB hb2 (bs':=bs++ [.int .u8 c]) (by simpa using hown') (by decide)
 ·exact((hb1.alloc (by have:=hb1.size;omega) _).grown hgrow (by have:=hb1.size;simp;omega) (fun k hk=>(hown.lt k hk).1)).setCell (p:=⟨b,1,none⟩) hB _
theorem De (B b:Nat) (bs:List Value) (r:Int) (hr0: -2147483648<=r) (hr1:r<=2147483647) (w:World) (h:Lib.IsBuilderF 106 5 B b bs w) (hlen:bs.length+4<=140737488355328) (hBw:B<=w.heap.size):
 Calls Tryz.prog 58 #[.pointer (some ⟨b,0,none⟩),.int .i32 r] w fun e w'=>e= .returned (.tuple #[.int .i64 (Lib.runeCells r).length,.nilIface])/\(Lib.BuilderAtF 106 5 B b (.pointer (some ⟨b,0,none⟩)) (bs++Lib.runeCells r) w'/\Below B w w'/\Lib.OthersKept 5 (some b) w w'):=by
 have hk4:=Lib.runeCells_le r;go_enter Tryz.func58,Tryz.ntmps58
 go_wp2_with (go_at_call 89;refine(GV B b bs _ h).mono ?_)
 rintro e w1 ⟨rfl,h1,hb1,hk1⟩;obtain⟨hB,v,hbk,hown,hne⟩:=h1;obtain⟨ao,cap,rfl⟩:∃ao cap,v= .slice ao bs.length cap:=by
  rcases hown.2 with⟨hv,h0⟩|⟨g,cap,cur,fz,hv,_⟩
  ·exact⟨none,0,by rw[hv,h0]⟩
  ·exact⟨_,_,hv⟩
 have c0:w1.cell? ⟨b,0,none⟩=some (.pointer (some ⟨b,0,none⟩)):=by rw[Lib.cell_of_heap hbk];rfl
 have c1:w1.cell? ⟨b,1,none⟩=some (.slice ao bs.length cap):=by rw[Lib.cell_of_heap hbk];rfl
 go_wp2_with (go_at_call 102;refine(Tryz.utf8_AppendRune_own B _ bs.length bs r hr0 hr1 _ hown hlen (by have:=hb1.size;omega)).mono ?_)
 rintro e w2 ⟨v',rfl,hown',o,hgrow⟩;have hlt:b<w1.heap.size:=by
  rcases BY b w1.heap.size with h'|h'
  ·exact h'
  ·simp[Array.getElem?_eq_none h']at hbk
 have hb2:w2.heap[b]? =some (.cells #[.pointer (some ⟨b,0,none⟩),.slice ao bs.length cap] 106 (0,0)):=by
  rw[hgrow.block b (by simp;omega) (fun e=>hne e.symm),Lib.alloc_old w1 _ b hlt];exact hbk
 have d0:w2.cell? ⟨b,0,none⟩=some (.pointer (some ⟨b,0,none⟩)):=by rw[Lib.cell_of_heap hb2];rfl
 have d1:w2.cell? ⟨b,1,none⟩=some (.slice ao bs.length cap):=by rw[Lib.cell_of_heap hb2];rfl
 have f1:w2.frozen? ⟨b,1,none⟩=false:=Lib.frozen_of_heap hb2 1;obtain⟨g,cap',rfl⟩:∃g cap',v'= .slice (some ⟨g,0,none⟩) (bs.length+(Lib.runeCells r).length) cap':=by
  rcases hown'.2 with⟨_,h0⟩|⟨g,cap',cur,fz,hv,_⟩
  ·omega
  ·exact⟨g,cap',hv⟩
 go_wp2;go_ret2;refine⟨?_,?_,?_,((hk1.alloc _).grown hgrow (Lib.ownsRowF_kind (hown.alloc _))).setCell ⟨b,1,none⟩ rfl _⟩
 ·have e:((bs.length:Int)+((Lib.runeCells r).length:Int)-(bs.length:Int))=((Lib.runeCells r).length:Int):=by omega
  simp[e]
 ·exact Lib.BuilderAtF.put (T:=106) (e:=5) hB hb2 (bs':=bs++Lib.runeCells r) (by simpa using hown') (by decide)
 ·exact((hb1.alloc (by have:=hb1.size;omega) _).grown hgrow (by have:=hb1.size;simp;omega) (fun k hk=>(hown.lt k hk).1)).setCell (p:=⟨b,1,none⟩) hB _
end Go.Proofs
end
section
namespace Go.Proofs
open Go.RowKit Go.Hb
open Go.Proofs.YtnipmfaikiaipaaGreatDoor
def Aj (W:World):Prop:=∃W0:World,laidMet Tryz.prog Rows.writerAtomsRow.laid W0/\W0.ShapedOpen Tryz.prog/\(∀g,g<Tryz.prog.globals.size->W.heap[g]? =W0.heap[g]?)/\Tryz.prog.globals.size<=W.heap.size
theorem Aj.below {W W':World}(h:Aj W) (hb:Below W.heap.size W W'):Aj W':=by
 obtain⟨W0,h1,h2,h3,h4⟩:=h;refine⟨W0,h1,h2,fun g hg=> ?_,?_⟩
 ·rw[hb.block g (by omega),h3 g hg]
 ·have:=hb.size;omega
theorem Q0 {P:Program} {W0:World}(h:W0.ShapedOpen P){k:Nat}(h1:Nat.ble P.globals.size k=true) (h2:Nat.ble (k+1) (begin P (fun _ _=>0) default).world.heap.size=true):k<W0.heap.size:=by
 obtain⟨o,_,ho,_⟩:=h.2 k (Nat.le_of_ble_eq_true h1) (Nat.le_of_ble_eq_true h2);exact(OF.1 ho).1
theorem L9 {W0:World}(h:W0.ShapedOpen Tryz.prog){k:Nat}(h1:Nat.ble Tryz.prog.globals.size k=true) (h2:Nat.ble (k+1) (begin Tryz.prog (fun _ _=>0) default).world.heap.size=true):k<W0.heap.size:=Q0 h h1 h2
theorem Aj.of {W:World}(h1:laidMet Tryz.prog Rows.writerAtomsRow.laid W) (h2:W.ShapedOpen Tryz.prog):Aj W:=by
 have h3:21<W.heap.size:=L9 h2 (k:=21) (by kernel_rfl) (by kernel_rfl);have h4:Tryz.prog.globals.size<=21:=Nat.le_of_ble_eq_true (by kernel_rfl);exact⟨W,h1,h2,fun _ _=>rfl,by omega⟩
theorem I6 {T e:TypeId} {B b:Nat} {bs:List Value} {W W':World}(h:Lib.IsBuilderF T e B b bs W) (hb:Below W.heap.size W W'):Lib.IsBuilderF T e B b bs W':=by
 have key:∀{p:Value},Lib.BuilderAtF T e B b p bs W->Lib.BuilderAtF T e B b p bs W':=by
  intro p h;have hlt:=h.lt;obtain⟨hB,v,hv,hown,hne⟩:=h;exact⟨hB,v,(hb.block b hlt).trans hv,hown.kept (row:=none) ⟨hb.os,hb.tape,hb.output,hb.size,fun k hk _=>hb.block k hk⟩ (Classical.em _),hne⟩
 exact h.elim (fun x=> .inl (key x)) (fun x=> .inr (key x))
end Go.Proofs
end
