import Derived.Test.YtpocgkiamgipdaaGreatDoorPrS
import Derived.Laws.Tables
import Derived.Laws.Rows
import Derived.Deep.WholeRow
import Derived.Test.YtpocgkiamgipdaaGreatDoorTam
import Derived.Deep.CutBlock
import Derived.Deep.CutRange
import Derived.MapKept
import Derived.WalkLawsBesides
import Derived.Maps.OwnSet
import Derived.Maps.OwnOps
set_option maxRecDepth 1000000
set_option maxHeartbeats 0
set_option linter.unusedVariables false
set_option linter.unusedSimpArgs false
open Go.Proofs.Tryz
namespace Go.Proofs
open Go Go.RowKit Go.Pz
theorem Al (W:World) (b:Nat) (cs:Array Value):(W.setRow b cs).heap.size=W.heap.size:=size_setRow W b cs
theorem A0.row {C:Cx}(hC:C.Ok){w:World} {s:RS} {nv tv:Value}(h:A0 C w s nv tv){b:Nat}(ha:Sf C nv tv w b) (cs:Array Value):A0 C (w.setRow b cs) s nv tv:=
 h.same hC ⟨rfl,rfl,rfl⟩ (pR (Al _ _ _).symm) (fun k hb=>mH _ _ _ _ (by have:=ha.1;omega)) (fun k hb=>mH _ _ _ _ (fun e=>ha.2.2.1 (e▸hb))) (fun k hb=>mH _ _ _ _ (fun e=>ha.2.2.2 (e▸hb)))
theorem D8.row {C:Cx}(hC:C.Ok){w0 w:World} {n0 t0 nv tv:Value} {s:RS}(h:D8 C w0 n0 t0 w s nv tv){b:Nat}(ha:Sf C nv tv w b) (h0:w0.heap.size<=b) (cs:Array Value):D8 C w0 n0 t0 (w.setRow b cs) s nv tv:=
 ⟨h.inv.row hC ha cs,⟨⟨h.Bj.kept.os,h.Bj.kept.tape,h.Bj.kept.output,by rw[Al];exact h.Bj.kept.size,fun k hb hx=>(mH _ _ _ _ (by omega)).trans (h.Bj.kept.block k hb hx)⟩,h.Bj.nb,h.Bj.tb⟩⟩
theorem Lc.row {C:Cx} {w:World} {nv tv:Value} {b:Nat} {cs:Array Value} {T:TypeId}(h:Lc C nv tv w b cs T) (cs':Array Value):Lc C nv tv (w.setRow b cs') b cs' T:=
 ⟨⟨h.sf.1,by rw[Al];exact h.sf.2.1,h.sf.2.2⟩,mF _ _ _ _ _ _ h.h⟩
theorem Lc.Bu {C:Cx} {w:World} {nv tv:Value} {b:Nat} {cs:Array Value} {T:TypeId}(h:Lc C nv tv w b cs T){k:Nat}(hk:b≠k) (cs':Array Value):Lc C nv tv (w.setRow k cs') b cs T:=
 ⟨⟨h.sf.1,by rw[Al];exact h.sf.2.1,h.sf.2.2⟩,(mH _ _ _ _ hk).trans h.h⟩
theorem Below.row {B:Nat} {a w:World}(h:Below B a w){b:Nat}(hb:B<=b) (cs:Array Value):Below B a (w.setRow b cs):=
 h.trans ⟨rfl,rfl,rfl,pR (Al _ _ _).symm,fun k hk=>mH _ _ _ _ (by omega)⟩
theorem results_cell_tmp {P:Program} {fn:Func} {p q:Tmp} {ty:TypeId}(h:fn.results= #[.cell p ty,.tmp q]) (tmps:Array Value) (w:World) (g:Nat) (t:TypeId) (cs:Array Value) (fr:Nat×Nat) (d:TypeDesc) (v:Value)
  (hp:tmps.getD p undef= .pointer (some ⟨g,0,none⟩)) (hq:tmps.getD q undef=v) (hg:w.heap[g]? =some (.cells cs t fr))
  (hu:P.underlying ty=some d) (hd:(match d with| .struct _| .array _ _=>true|_=>false)=true) (hi:(P.info? ty).map (·.size)=some cs.size):
  (results fn tmps).run P w= .ok (.tuple #[.agg cs,v]) w:=by
 have hp':tmps[p]?.getD undef= .pointer (some ⟨g,0,none⟩):=by simpa using hp
 have hq':tmps[q]?.getD undef=v:=by simpa using hq
 simp[results,h,hp',hq',asAddr,run_loadVar_row w g t ty cs fr d hg hu hd hi]
end Go.Proofs
namespace Go.Proofs
open Go.RowKit
def YU (k:Int) (tx nu:ByteArray) (bits a en:Int) (ly:Bool):Value:= .agg #[.int .i64 k,.string tx,.string nu,.int .u64 bits,.int .i64 a,.int .i64 en,.bool ly]
theorem ed (k:Nat) (tx nu:ByteArray) (bits a en:Int) (ly:Bool) (w:World):
  Calls prog 40 #[YU k tx nu bits a en ly] w fun e w'=>e= .returned (.bool (decide (k=1)||decide (k=2)))/\Below w.heap.size w w':=by
 obtain⟨p,hp⟩:∃p:Bool,p=decide (k=1):=⟨_,rfl⟩;have cp:((k:Int)==1)=p:=by rw[hp];exact oZ.2 (by simp;omega)
 obtain⟨q,hq⟩:∃q:Bool,q=decide (k=2):=⟨_,rfl⟩;have cq:((k:Int)==2)=q:=by rw[hq];exact oZ.2 (by simp;omega)
 unfold YU;rw[<-hp,<-hq];clear hp hq;cases p
 all_goals cases q
 all_goals
  go_enter func40,ntmps40;go_wp2;go_ret;exact⟨rfl,Bzz _⟩
end Go.Proofs
namespace Go.Proofs
open Go.RowKit Go.Hb
theorem AN {w:World} {b:Nat} {o:Nat} {v:Value}(h:w.cell? ⟨b,o,none⟩=some v) (x:Obj):(w.alloc x).cell? ⟨b,o,none⟩=some v:=by
 have hb:b<w.heap.size:=by
  rcases ls b w.heap.size with h1|h1
  ·exact h1
  ·unfold World.cell? at h;rw[oS h1]at h;cases h
 unfold World.cell? at h⊢;rw[Lib.alloc_old _ _ _ hb];exact h
theorem VD {B b:Nat} {w W:World}(h:Below B w W) (hb:B<=b) (v0 v1 v2 v3 v4 v5 v6:Value):Below B w (((((((W.setCell ⟨b,0,none⟩ v0).setCell ⟨b,1,none⟩ v1).setCell ⟨b,2,none⟩ v2).setCell ⟨b,3,none⟩ v3).setCell ⟨b,4,none⟩ v4).setCell ⟨b,5,none⟩ v5).setCell ⟨b,6,none⟩ v6):=
 ((((((h.setCell (p:=⟨b,0,none⟩) hb v0).setCell (p:=⟨b,1,none⟩) hb v1).setCell (p:=⟨b,2,none⟩) hb v2).setCell (p:=⟨b,3,none⟩) hb v3).setCell (p:=⟨b,4,none⟩) hb v4).setCell (p:=⟨b,5,none⟩) hb v5).setCell (p:=⟨b,6,none⟩) hb v6
theorem Ad {B:Nat} {w X:World}(h:Below B w X):Below B w X.drew:=⟨h.os,h.tape,h.output,h.size,h.block⟩
theorem jF (R L n cap k:Nat) (o:Value) (qt:Int) (nv sv:Value) (vars:Nat) (tv:Value) (kd:Int) (tx nu:ByteArray) (bits a en:Int) (ly:Bool) (w:World)
  (hR:N4 w R L n cap k o qt nv sv vars tv) (hk:k<n) (hn:n<=100000000) (hT:Nt w L k kd tx nu bits a en ly):
  Calls prog 25 #[.pointer (some ⟨R,0,none⟩)] w fun e w'=>e= .returned (YU kd tx nu bits a en ly)/\Below w.heap.size w w':=by
 have qE:R<w.heap.size:=(lN.1 hR.h).1;have HW:Hid (∀W,W=w.alloc (.cells zW 71)->W.heap[R]? =w.heap[R]? /\Below w.heap.size w W/\Nt W L k kd tx nu bits a en ly/\W.heap[w.heap.size]? =some (.cells zW 71)):=lK (by
  rintro W rfl;exact⟨Lib.alloc_old _ _ _ qE,Bzz _,⟨AN hT.c0 _,AN hT.c1 _,AN hT.c2 _,AN hT.c3 _,AN hT.c4 _,AN hT.c5 _,AN hT.c6 _⟩,lT w _⟩)
 have li:(k:Int)<n:=by omega
 have qP:w.heap.size≠R:=by omega
 unfold YU;go_enter func25,ntmps25;go_wp2;generalize hW1:w.alloc _=W;obtain⟨h1,h2,h3,h4⟩:=HW.o W hW1.symm;rw[hR.h]at h1;have r0:W.cell? ⟨R,0,none⟩=some (.slice (some ⟨L,0,none⟩) n cap):=by rw[Lib.cell_of_heap h1];rfl
 have r1:W.cell? ⟨R,1,none⟩=some (.int .i64 k):=by rw[Lib.cell_of_heap h1];rfl
 obtain⟨c0,c1,c2,c3,c4,c5,c6⟩:=h3;have HB:=lK (VD h2 (lM _) (.int .i64 kd) (.string tx) (.string nu) (.int .u64 bits) (.int .i64 a) (.int .i64 en) (.bool ly));have f0:=Lib.frozen_of_heap h4 0;have f1:=Lib.frozen_of_heap h4 1;have f2:=Lib.frozen_of_heap h4 2;have f3:=Lib.frozen_of_heap h4 3;have f4:=Lib.frozen_of_heap h4 4;have f5:=Lib.frozen_of_heap h4 5;have f6:=Lib.frozen_of_heap h4 6;have d0:W.cell? ⟨w.heap.size,0,none⟩=some (.int .i64 0):=by rw[Lib.cell_of_heap h4];rfl
 have d1:W.cell? ⟨w.heap.size,1,none⟩=some (.string ⟨#[]⟩):=by rw[Lib.cell_of_heap h4];rfl
 have d2:W.cell? ⟨w.heap.size,2,none⟩=some (.string ⟨#[]⟩):=by rw[Lib.cell_of_heap h4];rfl
 have d3:W.cell? ⟨w.heap.size,3,none⟩=some (.int .u64 0):=by rw[Lib.cell_of_heap h4];rfl
 have d4:W.cell? ⟨w.heap.size,4,none⟩=some (.int .i64 0):=by rw[Lib.cell_of_heap h4];rfl
 have d5:W.cell? ⟨w.heap.size,5,none⟩=some (.int .i64 0):=by rw[Lib.cell_of_heap h4];rfl
 have d6:W.cell? ⟨w.heap.size,6,none⟩=some (.bool false):=by rw[Lib.cell_of_heap h4];rfl
 clear hW1 HW h1 h2 hR hT h4;refine nr 10 (by kernel_rfl) (by kernel_rfl) ?_;simp only[nL,ny,nZ,nI];change wpStill _ _ W.drew _ _ _
 repeat still_step
 refine pS ?_;change wpList _ _ _ _ _ W.drew
 all_goals
  go_wp2;refine lS (v:= .agg #[.int .i64 kd,.string tx,.string nu,.int .u64 bits,.int .i64 a,.int .i64 en,.bool ly]) ?_ rfl ?_
  ·simp only[results,results25];go_simp
   try rfl
  ·exact⟨rfl,Ad HB.o⟩
theorem Du (a b:ByteArray):(a==b)=decide (a=b):=oZ.2 (by rw[Go.MapKept.bytes_beq,mL])
theorem aX (k:Nat) (tx nu:ByteArray) (bits a en:Int) (ly:Bool) (s:ByteArray) (w:World):
  Calls prog 41 #[YU k tx nu bits a en ly,.string s] w fun e w'=>e= .returned (.bool (decide (k=8)&&decide (tx=s)))/\Below w.heap.size w w':=by
 obtain⟨p,hp⟩:∃p:Bool,p=decide (k=8):=⟨_,rfl⟩;have cp:((k:Int)==8)=p:=by rw[hp];exact oZ.2 (by simp;omega)
 obtain⟨q,hq⟩:∃q:Bool,q=decide (tx=s):=⟨_,rfl⟩;have cq:(tx.toList==s.toList)=q:=by rw[hq,<-oz];exact Du tx s
 unfold YU;rw[<-hp,<-hq];clear hp hq;cases p
 all_goals cases q
 all_goals
  go_enter func41,ntmps41;go_wp2;go_ret;exact⟨rfl,Bzz _⟩
def Wj (k:Int):Int:=if k=1\/k=2 then 0 else if k=3\/k=4\/k=5 then 1 else if k=6\/k=7 then 2 else-1
theorem cB (k:Int) (w:World):Calls prog 32 #[.int .i64 k] w fun e w'=>e= .returned (.int .i64 (Wj k))/\w=w':=by
 rcases Classical.em (1<=k/\k<=7)with h|h
 ·have h7:k=1\/k=2\/k=3\/k=4\/k=5\/k=6\/k=7:=by omega
  clear h;rcases h7 with rfl|rfl|rfl|rfl|rfl|rfl|rfl
  all_goals
   go_enter func32,ntmps32;go_wp2;go_ret;exact⟨rfl,rfl⟩
 ·have t1:(k==1)=false:=by rw[lY];omega
  have t2:(k==2)=false:=by rw[lY];omega
  have t3:(k==3)=false:=by rw[lY];omega
  have t4:(k==4)=false:=by rw[lY];omega
  have t5:(k==5)=false:=by rw[lY];omega
  have t6:(k==6)=false:=by rw[lY];omega
  have t7:(k==7)=false:=by rw[lY];omega
  have e:Wj k= -1:=by
   unfold Wj;rw[lL (by omega),lL (by omega),lL (by omega)]
  rw[e];clear h e;go_enter func32,ntmps32;go_wp2;go_ret;exact⟨rfl,rfl⟩
def j8 (t p:Int):Int:=if t=3 then p-1 else if t=4 then p-1 else if t=5 then p else if t=6 then p-1 else if t=7 then p else 0
def kR (t p:Int):Int:=if t=1 then p-1 else if t=2 then p else if t=3 then p-1 else if t=4 then p else if t=5 then p-1 else 0
theorem J9 (nm:ByteArray) (t p:Int) (w:World) (h0:0<=p) (h1:p<=1200):
  Calls prog 43 #[.agg #[.string nm,.int .i64 t,.int .i64 p]] w fun e w'=>e= .returned (.tuple #[.int .i64 (j8 t p),.int .i64 (kR t p)])/\Below w.heap.size w w':=by
 rcases Classical.em (1<=t/\t<=7)with h|h
 ·have h7:t=1\/t=2\/t=3\/t=4\/t=5\/t=6\/t=7:=by omega
  clear h;rcases h7 with rfl|rfl|rfl|rfl|rfl|rfl|rfl
  all_goals
   go_enter func43,ntmps43;go_wp2;go_ret2;exact⟨rfl,Bzz _⟩
 ·have t1:(t==1)=false:=by rw[lY];omega
  have t2:(t==2)=false:=by rw[lY];omega
  have t3:(t==3)=false:=by rw[lY];omega
  have t4:(t==4)=false:=by rw[lY];omega
  have t5:(t==5)=false:=by rw[lY];omega
  have t6:(t==6)=false:=by rw[lY];omega
  have t7:(t==7)=false:=by rw[lY];omega
  have e1:j8 t p=0:=by
   unfold j8;rw[lL (by omega),lL (by omega),lL (by omega),lL (by omega),lL (by omega)]
  have e2:kR t p=0:=by
   unfold kR;rw[lL (by omega),lL (by omega),lL (by omega),lL (by omega),lL (by omega)]
  rw[e1,e2];clear h e1 e2;go_enter func43,ntmps43;go_wp2;go_ret2;exact⟨rfl,Bzz _⟩
end Go.Proofs
namespace Go.Proofs
open Go.RowKit Go.Hb Go.Pz
def Me (wd:ByteArray) (a:Int):Value:= .iface 63 (.agg #[.string wd,.int .i64 a])
def YV (k:Nat):ByteArray:=if k=1 then⟨#[101,110,100,95,111,102,95,116,101,120,116]⟩else if k=2 then⟨#[101,110,100,95,111,102,95,99,108,97,117,115,101]⟩else if k=3 then⟨#[116,111,111,95,108,97,114,103,101]⟩else⟨#[117,110,101,120,112,101,99,116,101,100,95,116,111,107,101,110]⟩
def MU (wd a:Nat):List PanicEntry:= [{v:=Me (YV wd) a,recovered:=false}]
def Fk (t:Tk):Value:=YU t.kind (bs t.tx) (bs t.nu) t.bits t.at_ t.en t.ly
theorem OT (t:Tk) (w:World):(Instr.field 71 (Fk t) 0).run prog w= .ok (.int .i64 t.kind) w:=rfl
theorem fZ (t:Tk) (w:World):(Instr.field 71 (Fk t) 4).run prog w= .ok (.int .i64 t.at_) w:=rfl
theorem ff (t:Tk) (w:World):(Instr.field 71 (Fk t) 5).run prog w= .ok (.int .i64 t.en) w:=rfl
theorem dX (t:Tk) (w:World):(Instr.field 71 (Fk t) 6).run prog w= .ok (.bool t.ly) w:=rfl
theorem Ru (t:Tk) (w:World):Calls prog 40 #[Fk t] w fun e w'=>e= .returned (.bool (Cb t))/\Below w.heap.size w w':=ed t.kind _ _ _ _ _ _ w
theorem Fv {a b:Bs} :bs a=bs b↔a=b:=⟨fun h=>by injection h with h;injection h,fun h=>by rw[h]⟩
theorem gB (c:UInt8):(⟨#[c]⟩:ByteArray)=bs [c]:=rfl
theorem Au (t:Tk) (c:UInt8) (w:World):Calls prog 41 #[Fk t,.string ⟨#[c]⟩] w fun e w'=>e= .returned (.bool (Pz.AG t c))/\Below w.heap.size w w':=by
 have h:=aX t.kind (bs t.tx) (bs t.nu) t.bits t.at_ t.en t.ly ⟨#[c]⟩ w;rw[gB,show decide (bs t.tx=bs [c])=decide (t.tx= [c])from mZ.2 Fv]at h;exact h
theorem JK {C:Cx}(hC:C.Ok){w:World} {s:RS} {nv tv:Value}(h:A0 C w s nv tv):Calls prog 25 #[.pointer (some ⟨C.R,0,none⟩)] w fun e w'=>e= .returned (Fk (now C.ts s))/\Below w.heap.size w w':=
 jF C.R C.L C.ts.length C.cap s.k C.o C.qt nv _ s.vars tv _ _ _ _ _ _ _ w h.hR h.bd.kl hC.len (h.VT s.k _ (Iw h.bd.kl))
theorem Q7 {C:Cx}(hC:C.Ok){w:World} {s:RS} {nv tv:Value}(h:A0 C w s nv tv):Calls prog 26 #[.pointer (some ⟨C.R,0,none⟩)] w fun e w'=>e= .panicked (MU (if(now C.ts s).kind=10 then 1 else if(now C.ts s).kind=9 then 2 else 0) (now C.ts s).at_)/\Below w.heap.size w w':=by
 have CN:Hid (∀W,Below w.heap.size w W->Calls prog 25 #[.pointer (some ⟨C.R,0,none⟩)] W fun e w'=>e= .returned (Fk (now C.ts s))/\Below W.heap.size W w'):=lK (fun W hb=>JK hC (h.below hC hb));generalize now C.ts s=t at CN⊢;clear h;have f0:=fun w=>OT t w;have f4:=fun w=>fZ t w;have qU:(((t.kind:Int)==10)=true/\(if t.kind=10 then 1 else if t.kind=9 then 2 else 0)=1)\/(((t.kind:Int)==10)=false/\((t.kind:Int)==9)=true/\(if t.kind=10 then 1 else if t.kind=9 then 2 else 0)=2)\/(((t.kind:Int)==10)=false/\((t.kind:Int)==9)=false/\(if t.kind=10 then 1 else if t.kind=9 then 2 else 0)=0):=by
  by_cases h1:t.kind=10
  ·exact .inl ⟨by rw[nH];omega,by rw[lQ h1]⟩
  ·by_cases h2:t.kind=9
   ·exact .inr (.inl ⟨by rw[lY];omega,by rw[nH];omega,by rw[lL h1,lQ h2]⟩)
   ·exact .inr (.inr ⟨by rw[lY];omega,by rw[lY];omega,by rw[lL h1,lL h2]⟩)
 have xX:Hid (Below w.heap.size w w):=lK (Below.refl _ _);rcases qU with⟨t1,e1⟩|⟨t1,t2,e1⟩|⟨t1,t2,e1⟩
 all_goals
  rw[e1];clear e1;go_enter func26,ntmps26
  go_wp2_with (go_at_call 25;(with_reducible refine(CN.o _ xX.o).mono ?_))
  rintro e W1 ⟨rfl,b1⟩;have B1:=lK b1;clear b1
  go_wp2_with (go_at_call 25;(with_reducible refine(CN.o _ B1.o).mono ?_))
  rintro e W2 ⟨rfl,b2⟩;have B2:=lK (B1.o.trans (b2.mono B1.o.size));clear b2;go_wp2;exact⟨rfl,rfl,B2.o⟩
theorem N4.cells {w:World} {R L n cap k:Nat} {o:Value} {qt:Int} {nv sv:Value} {vars:Nat} {tv:Value}(h:N4 w R L n cap k o qt nv sv vars tv):
  w.cell? ⟨R,0,none⟩=some (.slice (some ⟨L,0,none⟩) n cap)/\w.cell? ⟨R,1,none⟩=some (.int .i64 k)/\w.cell? ⟨R,2,none⟩=some o/\w.cell? ⟨R,3,none⟩=some (.int .i64 qt)/\w.cell? ⟨R,10,none⟩=some nv/\w.cell? ⟨R,14,none⟩=some (.int .i64 vars)/\w.cell? ⟨R,15,none⟩=some tv:=by
 refine⟨?_,?_,?_,?_,?_,?_,?_⟩<;>(rw[Lib.cell_of_heap h.h];rfl)
def Pass (C:Cx) (w:World) (nv tv:Value):Rz RS->Ending->World->Prop
 | .ok s',e,w'=>e= .returned (.tuple #[])/\D8 C w nv tv w' s' nv tv
 | .stop wd a,e,w'=>e= .panicked (MU wd a)/\F5 C w nv tv w' nv tv
theorem Og {C:Cx}(hC:C.Ok){w:World} {s:RS} {nv tv:Value}(h:A0 C w s nv tv) (c:UInt8):Calls prog 67 #[.pointer (some ⟨C.R,0,none⟩),.string ⟨#[c]⟩] w (Pass C w nv tv (pass C.ts s c)):=by
 have CN:Hid (Calls prog 25 #[.pointer (some ⟨C.R,0,none⟩)] w fun e w'=>e= .returned (Fk (now C.ts s))/\Below w.heap.size w w'):=lK (JK hC h);have CS:Hid (∀W,Below w.heap.size w W->Calls prog 26 #[.pointer (some ⟨C.R,0,none⟩)] W fun e w'=>e= .panicked (MU (if(now C.ts s).kind=10 then 1 else if(now C.ts s).kind=9 then 2 else 0) (now C.ts s).at_)/\Below W.heap.size W w'):=lK (fun W hb=>Q7 hC (h.below hC hb));have HI:=lK h;have lk:s.k<100000000:=lR h.bd.kl hC.len;have ll:=hC.len;clear h;cases hp:AG (now C.ts s) c with
 |false=>
  have HP:pass C.ts s c= .stop (if(now C.ts s).kind=10 then 1 else if(now C.ts s).kind=9 then 2 else 0) (now C.ts s).at_:=by
   unfold pass;rw[hp];rfl
  rw[HP];unfold Pass;generalize(if(now C.ts s).kind=10 then 1 else if(now C.ts s).kind=9 then 2 else 0)=wd at*;have CP:=lK (fun W=>Au (now C.ts s) c W);rw[hp]at CP;clear HP hp;generalize now C.ts s=t at*;go_enter func67,ntmps67
  go_wp2_with (first|(go_at_call 25;(with_reducible refine CN.o.mono ?_))|(go_at_call 41;(with_reducible refine(CP.o _).mono ?_)))
  rintro e W1 ⟨rfl,b1⟩;have B1:=lK b1;clear b1
  go_wp2_with (go_at_call 41;(with_reducible refine(CP.o _).mono ?_))
  rintro e W2 ⟨rfl,b2⟩;have B2:=lK (B1.o.trans (b2.mono B1.o.size));clear b2
  go_wp2_with (go_at_call 26;(with_reducible refine(CS.o _ B2.o).mono ?_))
  rintro e W3 ⟨rfl,b3⟩;have B3:=lK (B2.o.trans (b3.mono B2.o.size));clear b3;go_wp2;exact⟨rfl,rfl,F5.AY B3.o⟩
 |true=>
  have HP:pass C.ts s c= .ok (s.on 1):=by unfold pass;rw[hp];rfl
  rw[HP];unfold Pass;have rD:Hid (Bd C.ts (s.on 1)):=lK (HI.o.bd.AG hC.last hp);have CP:=lK (fun W=>Au (now C.ts s) c W);rw[hp]at CP;clear HP hp CS;generalize now C.ts s=t at*;go_enter func67,ntmps67
  go_wp2_with (first|(go_at_call 25;(with_reducible refine CN.o.mono ?_))|(go_at_call 41;(with_reducible refine(CP.o _).mono ?_)))
  rintro e W1 ⟨rfl,b1⟩;have B1:=lK b1;clear b1
  go_wp2_with (go_at_call 41;(with_reducible refine(CP.o _).mono ?_))
  rintro e W2 ⟨rfl,b2⟩;have B2:=lK (B1.o.trans (b2.mono B1.o.size));clear b2;have ST:=lK ((D8.start HI.o).below hC B2.o);have r1:=ST.o.inv.hR.cells.2.1;have q1:=Lib.frozen_of_heap ST.o.inv.hR.h 1;go_wp2
  go_end0
  exact⟨rfl,ST.o.on hC rD.o rfl⟩
theorem Vc {B:Nat} {a w:World}(h:Below B a w) (n:Nat):Below B a (w.drewN n):=⟨h.os,h.tape,h.output,h.size,h.block⟩
theorem fA (R L n cap k i:Nat) (o:Value) (qt:Int) (nv sv:Value) (vars:Nat) (tv:Value) (kd:Int) (tx nu:ByteArray) (bits a en:Int) (ly:Bool) (w:World)
  (hR:N4 w R L n cap k o qt nv sv vars tv) (hk:k<n) (hn:n<=100000000) (hi:i=if n<=k+1 then n-1 else k+1) (hT:Nt w L i kd tx nu bits a en ly):
  Calls prog 68 #[.pointer (some ⟨R,0,none⟩),.int .i64 1] w fun e w'=>e= .returned (YU kd tx nu bits a en ly)/\Below w.heap.size w w':=by
 have qE:R<w.heap.size:=(lN.1 hR.h).1;have HW:Hid (∀W,W=w.alloc (.cells zW 71)->W.heap[R]? =w.heap[R]? /\Below w.heap.size w W/\Nt W L i kd tx nu bits a en ly/\W.heap[w.heap.size]? =some (.cells zW 71)):=lK (by
  rintro W rfl;exact⟨Lib.alloc_old _ _ _ qE,Bzz _,⟨AN hT.c0 _,AN hT.c1 _,AN hT.c2 _,AN hT.c3 _,AN hT.c4 _,AN hT.c5 _,AN hT.c6 _⟩,lT w _⟩)
 have qP:w.heap.size≠R:=by omega
 unfold YU;have key:(decide ((n:Int)<=(k:Int)+1)=true/\(i:Int)=(n:Int)-1/\i=n-1)\/(decide ((n:Int)<=(k:Int)+1)=false/\(i:Int)=(k:Int)+1/\i=k+1):=by
  split at hi
  ·left;refine⟨lU (by omega),by omega,hi⟩
  ·right;refine⟨lO (by omega),by omega,hi⟩
 have li:i<n:=by split at hi<;>omega
 clear hi;go_enter func68,ntmps68;go_wp2;generalize hW1:w.alloc _=W;obtain⟨h1,h2,h3,h4⟩:=HW.o W hW1.symm;rw[hR.h]at h1;have r0:W.cell? ⟨R,0,none⟩=some (.slice (some ⟨L,0,none⟩) n cap):=by rw[Lib.cell_of_heap h1];rfl
 have r1:W.cell? ⟨R,1,none⟩=some (.int .i64 k):=by rw[Lib.cell_of_heap h1];rfl
 have xX:=lK h2;have HR:=lK h1;have H3:=lK h3;have H4:=lK h4;have vG:(0:Int)<=(n:Int)-1:=by omega
 clear hW1 HW h1 h2 hR hT h3 h4;rcases key with⟨k1,e1,e2⟩|⟨k1,e1,e2⟩
 all_goals
  have E1:=lK e1;have E2:=lK e2;clear e1 e2
  go_quiet (fail)
  go_wp2;have HD:Hid (∀b:Nat,(W.drewN nq).heap[b]? =W.heap[b]?):=lK (fun b=>rfl);have BD:=lK (Vc xX.o nq);generalize hX:W.drewN _=X at HD BD⊢;clear hX r0 r1;have h1:=(HD.o R).trans HR.o;have r0:X.cell? ⟨R,0,none⟩=some (.slice (some ⟨L,0,none⟩) n cap):=by rw[Lib.cell_of_heap h1];rfl
  have r1:X.cell? ⟨R,1,none⟩=some (.int .i64 k):=by rw[Lib.cell_of_heap h1];rfl
  have h4:=(HD.o w.heap.size).trans H4.o;obtain⟨c0,c1,c2,c3,c4,c5,c6⟩:=H3.o.Ak (HD.o L);have f0:=Lib.frozen_of_heap h4 0;have f1:=Lib.frozen_of_heap h4 1;have f2:=Lib.frozen_of_heap h4 2;have f3:=Lib.frozen_of_heap h4 3;have f4:=Lib.frozen_of_heap h4 4;have f5:=Lib.frozen_of_heap h4 5;have f6:=Lib.frozen_of_heap h4 6;have d0:X.cell? ⟨w.heap.size,0,none⟩=some (.int .i64 0):=by rw[Lib.cell_of_heap h4];rfl
  have d1:X.cell? ⟨w.heap.size,1,none⟩=some (.string ⟨#[]⟩):=by rw[Lib.cell_of_heap h4];rfl
  have d2:X.cell? ⟨w.heap.size,2,none⟩=some (.string ⟨#[]⟩):=by rw[Lib.cell_of_heap h4];rfl
  have d3:X.cell? ⟨w.heap.size,3,none⟩=some (.int .u64 0):=by rw[Lib.cell_of_heap h4];rfl
  have d4:X.cell? ⟨w.heap.size,4,none⟩=some (.int .i64 0):=by rw[Lib.cell_of_heap h4];rfl
  have d5:X.cell? ⟨w.heap.size,5,none⟩=some (.int .i64 0):=by rw[Lib.cell_of_heap h4];rfl
  have d6:X.cell? ⟨w.heap.size,6,none⟩=some (.bool false):=by rw[Lib.cell_of_heap h4];rfl
  have HB:=lK (VD BD.o (lM _) (.int .i64 kd) (.string tx) (.string nu) (.int .u64 bits) (.int .i64 a) (.int .i64 en) (.bool ly));have e1:=E1.o.symm;have li0:(i:Int)<n:=by omega
  have wi:IntKind.i64.wrap (i:Int)=i:=by rw[IntKind.wrap_i64];omega
  clear h1 h4 HD BD H3 H4 xX HR E1 E2;refine nr 12 (by kernel_rfl) (by kernel_rfl) ?_;simp only[nL,ny,nZ,nI];change wpStill _ _ X.drew _ _ _
  iterate 10 still_step
  clear e1 wi vG k1
  iterate 2 still_step
  refine pS ?_;change wpList _ _ _ _ _ X.drew;clear r0 r1 c0 c1 c2 c3 c4 c5 c6;go_wp2;refine lS (v:= .agg #[.int .i64 kd,.string tx,.string nu,.int .u64 bits,.int .i64 a,.int .i64 en,.bool ly]) ?_ rfl ?_
  ·simp only[results,results68];go_simp
   try rfl
  ·exact⟨rfl,Ad HB.o⟩
theorem fi {ts:List Tk} {s:RS}(h:s.k<ts.length):ts[if ts.length<=s.k+1 then ts.length-1 else s.k+1]? =some (Jc ts s 1):=by
 unfold Jc;split
 ·rw[lZ,lu (by omega)];rfl
 ·rw[lZ,lu (by omega)];rfl
theorem Ot {C:Cx}(hC:C.Ok){w:World} {s:RS} {nv tv:Value}(h:A0 C w s nv tv):Calls prog 68 #[.pointer (some ⟨C.R,0,none⟩),.int .i64 1] w fun e w'=>e= .returned (Fk (Jc C.ts s 1))/\Below w.heap.size w w':=
 fA C.R C.L C.ts.length C.cap s.k _ C.o C.qt nv _ s.vars tv _ _ _ _ _ _ _ w h.hR h.bd.kl hC.len rfl (h.VT _ _ (fi h.bd.kl))
end Go.Proofs
namespace Go.Proofs
open Go.RowKit Go.Hb Go.Pz Go.Maps
def Bf (v:Value):Option (DataW Unit×List MemPlace):=match v with
 | .agg a=>match a.toList with
  | [.string nm,.int .i64 t,.int .i64 p]=>some (.agg [.lit (.string nm.data.toList),.lit (.int .i64 t),.lit (.int .i64 p)],[])
  |_=>none
 |_=>none
def U4 (nm:Bs) (o:DH):DataW Unit:= .agg [.lit (.string nm),.lit (.int .i64 o.ty),.lit (.int .i64 o.pr)]
def Dl (nm:Bs) (o:DH):Value:= .agg #[.string (bs nm),.int .i64 o.ty,.int .i64 o.pr]
def EL (nm:Bs) (r:Option DH):Bs:=if r.isSome then nm else []
def EC (r:Option DH):DH:=r.getD ⟨0,0⟩
def AM (nm:Bs) (r:Option DH):Value:= .tuple #[Dl (EL nm r) (EC r),.bool r.isSome]
theorem Jj (b:ByteArray):b=bs b.data.toList:=rfl
theorem LJ {v:Value} {nm:Bs} {o:DH} {ps:List MemPlace}(h:Bf v=some (U4 nm o,ps)):v=Dl nm o:=by
 unfold Bf at h;split at h
 ·rename_i a;split at h
  ·rename_i b t p he;unfold U4 at h;simp only[mD,nQ,DataW.agg.injEq,List.cons.injEq,DataW.lit.injEq,Lit.string.injEq,Lit.int.injEq,true_and,pZ]at h;obtain⟨⟨h1,h2,h3⟩,_⟩:=h;unfold Dl;rw[show a=⟨[.string b,.int .i64 t,.int .i64 p]⟩from by cases a;simp at he;rw[he],Jj b,h1,h2,h3]
  ·cases h
 ·cases h
theorem Gn (nm:Bs) (o:DH):Bf (Dl nm o)=some (U4 nm o,[]):=rfl
structure Db (D:DataW Unit) (f:Bs->Option DH):Prop where
 isMap:Maps.IsMap D
 has:∀nm,Maps.has D (.string nm)=(f nm).isSome
 at_:∀nm o z,f nm=some o->D.atKey (.string nm) z=U4 nm o
theorem Db.look {D:DataW Unit} {f:Bs->Option DH}(h:Db D f){nm:Bs} {v:Value} {ps:List MemPlace}(hv:Bf v=some (D.atKey (.string nm) (U4 [] ⟨0,0⟩),ps)):
  Value.tuple #[v,.bool (Maps.has D (.string nm))]=AM nm (f nm):=by
 cases hf:f nm with
 |none=>
  have h1:Maps.has D (.string nm)=false:=by rw[h.has,hf];rfl
  rw[Maps.atKey_of_not_has h1]at hv;rw[LJ hv,h1];rfl
 |some o=>
  have h1:Maps.has D (.string nm)=true:=by rw[h.has,hf];rfl
  rw[h.at_ nm o _ hf]at hv;rw[LJ hv,h1];rfl
theorem To:Keyed prog 9:=string_keyed mS
theorem fQ (w:World):(zeroValue 61).run prog w= .ok (Dl [] ⟨0,0⟩) w:=by kernel_rfl
theorem fY {nm:Bs}(h:nm.length<=1000000000):keyOf prog 9 (.string (bs nm))=some (.string nm):=
 WideMaps.keyOf_string_mk mS (by have:(bs nm).size=nm.length:=rfl;unfold maxLen;omega)
theorem Ae {ops:Array Oper} {rest:List Oper} {o:Oper} {a:Act} {Q:Exit->Act->World->Prop}(w:World) (hg:o.guard=none) (m x:Operand) (hop:o.op=Op.lookup 84 m x true)
  (b n:Nat) (D:DataW Unit) (f:Bs->Option DH) (hf:Db D f) (hm:a.eval m= .map (some b)) (qD:w.ownsMap prog 9 Bf b n D) (nm:Bs) (hx:a.eval x= .string (bs nm)) (hl:nm.length<=1000000000)
  (hK:wpList prog ops Q rest (a.put o.dst (AM nm (f nm))) w):wpList prog ops Q (o::rest) a w:=
 wpList_lookup_own_ok w hg m x 84 hop 9 61 To underlying84 Bf (fQ w) (U4 [] ⟨0,0⟩) [] (Gn [] ⟨0,0⟩) b n D hm qD (.string (bs nm)) (.string nm) hx (fY hl)
  (fun v ps hv=>by rw[hf.look hv];exact hK)
theorem QX (ob c m n:Nat) (D:DataW Unit) (f:Bs->Option DH) (nm:Bs) (w:World) (hc:c=0\/c=1\/c=2) (qW:w.cell? ⟨ob,c,none⟩=some (.map (some m))) (qD:w.ownsMap prog 9 Bf m n D) (hf:Db D f) (hl:nm.length<=1000000000):
  Calls prog 72 #[.pointer (some ⟨ob,0,none⟩),.int .i64 c,.string (bs nm)] w fun e w'=>e= .returned (AM nm (f nm))/\Below w.heap.size w w':=by
 have HO:=lK qD;have uv:ob<w.heap.size:=by
  rcases ls ob w.heap.size with h1|h1
  ·exact h1
  ·unfold World.cell? at qW;rw[oS h1]at qW;cases qW
 clear qD;rcases hc with rfl|rfl|rfl
 all_goals
  have uB:=AN qW;cases hfo:f nm with
  |none=>
   have KL:=lK hf;clear hf;go_enter func72,ntmps72
   go_wp2_with (at_lookup;refine Ae _ rfl _ _ rfl m n D f KL.o rfl (HO.o.alloc _) nm rfl hl ?_;rw[hfo];unfold AM EL EC Dl)
   refine lS (v:=AM nm none) ?_ rfl ⟨rfl,(Bzz _).alloc (by simp) _⟩;simp only[results,results72];go_simp;rfl
  |some o=>
   have KL:=lK hf;clear hf;go_enter func72,ntmps72
   go_wp2_with (at_lookup;refine Ae _ rfl _ _ rfl m n D f KL.o rfl (HO.o.alloc _) nm rfl hl ?_;rw[hfo];unfold AM EL EC Dl)
   refine lS (v:=AM nm (some o)) ?_ rfl ⟨rfl,(Bzz _).alloc (by simp) _⟩;simp only[results,results72];go_simp;rfl
theorem Oh:(Tryz.prog.info? 61).map (·.size)=some 3:=by kernel_rfl
theorem aa:(Tryz.prog.info? 71).map (·.size)=some 7:=by kernel_rfl
theorem Cg:(Tryz.prog.info? 31).map (·.size)=some 6:=by kernel_rfl
def Fa (nm:Bs) (o:DH):Array Value:= #[.string (bs nm),.int .i64 o.ty,.int .i64 o.pr]
def BH (t:Tk):Array Value:= #[.int .i64 t.kind,.string (bs t.tx),.string (bs t.nu),.int .u64 t.bits,.int .i64 t.at_,.int .i64 t.en,.bool t.ly]
theorem Sc (nm:Bs) (o:DH):(Fa nm o).all (·.oneCell')=true:=by simp[Fa,Value.oneCell']
theorem TU (t:Tk):(BH t).all (·.oneCell')=true:=by simp[BH,Value.oneCell']
section
variable {ops:Array Oper} {rest:List Oper} {o:Oper} {a:Act} {w:World} {Q:Exit->Act->World->Prop}
theorem dM (hgd:o.guard=none) (x y:Operand) (ho:o.op= .store 61 x y) (g:Nat) (nm:Bs) (p:DH) (hx:a.eval x= .pointer (some ⟨g,0,none⟩)) (hy:a.eval y=Dl nm p) (JR:Array Value) (hg:w.heap[g]? =some (.cells JR 61 (0,0))) (hold:JR.size=3)
  (h:wpList prog ops Q rest (a.put o.dst undef) (w.setRow g (Fa nm p))):wpList prog ops Q (o::rest) a w:=
 wpList_store_row hgd 61 x y ho g (Fa nm p) hx hy 61 JR hg Oh hold (Sc _ _) h
theorem jZ (hgd:o.guard=none) (x:Operand) (ho:o.op= .load 61 x) (g:Nat) (nm:Bs) (p:DH) (hx:a.eval x= .pointer (some ⟨g,0,none⟩)) (hg:w.heap[g]? =some (.cells (Fa nm p) 61 (0,0)))
  (h:wpList prog ops Q rest (a.put o.dst (Dl nm p)) w):wpList prog ops Q (o::rest) a w:=
 wpList_load_row hgd 61 x ho g hx 61 (Fa nm p) (0,0) _ hg underlying61 rfl Oh h
theorem YS (hgd:o.guard=none) (x y:Operand) (ho:o.op= .store 71 x y) (g:Nat) (t:Tk) (hx:a.eval x= .pointer (some ⟨g,0,none⟩)) (hy:a.eval y=Fk t) (JR:Array Value) (hg:w.heap[g]? =some (.cells JR 71 (0,0))) (hold:JR.size=7)
  (h:wpList prog ops Q rest (a.put o.dst undef) (w.setRow g (BH t))):wpList prog ops Q (o::rest) a w:=
 wpList_store_row hgd 71 x y ho g (BH t) hx hy 71 JR hg aa hold (TU _) h
theorem Ei (hgd:o.guard=none) (x:Operand) (ho:o.op= .load 71 x) (g:Nat) (t:Tk) (hx:a.eval x= .pointer (some ⟨g,0,none⟩)) (hg:w.heap[g]? =some (.cells (BH t) 71 (0,0)))
  (h:wpList prog ops Q rest (a.put o.dst (Fk t)) w):wpList prog ops Q (o::rest) a w:=
 wpList_load_row hgd 71 x ho g hx 71 (BH t) (0,0) _ hg underlying71 rfl aa h
theorem F8 (hgd:o.guard=none) (x y:Operand) (ho:o.op= .store 31 x y) (g:Nat) (c:Array Value) (hx:a.eval x= .pointer (some ⟨g,0,none⟩)) (hy:a.eval y= .agg c) (JR:Array Value) (hg:w.heap[g]? =some (.cells JR 31 (0,0))) (hold:JR.size=6) (hc:c.size=6) (h1:c.all (·.oneCell')=true)
  (h:wpList prog ops Q rest (a.put o.dst undef) (w.setRow g c)):wpList prog ops Q (o::rest) a w:=
 wpList_store_row hgd 31 x y ho g c hx hy 31 JR hg (by rw[hc];exact Cg) (by rw[hold,hc]) h1 h
theorem KK (hgd:o.guard=none) (x:Operand) (ho:o.op= .load 31 x) (g:Nat) (c:Array Value) (hc:c.size=6) (hx:a.eval x= .pointer (some ⟨g,0,none⟩)) (hg:w.heap[g]? =some (.cells c 31 (0,0)))
  (h:wpList prog ops Q rest (a.put o.dst (.agg c)) w):wpList prog ops Q (o::rest) a w:=
 wpList_load_row hgd 31 x ho g hx 31 c (0,0) _ hg mE rfl (by rw[hc];exact Cg) h
end
structure Dh (w:World) (ob m0 m1 m2:Nat) (O:Am):Prop where
 h:∃T,w.heap[ob]? =some (.cells #[.map (some m0),.map (some m1),.map (some m2)] T)
 pre:∃n D,w.ownsMap prog 9 Bf m0 n D/\Db D O.pre
 inf:∃n D,w.ownsMap prog 9 Bf m1 n D/\Db D O.inf
 post:∃n D,w.ownsMap prog 9 Bf m2 n D/\Db D O.post
theorem At {H:Type} {P:Program} {k:TypeId} {R:Value->Option (DataW H×List MemPlace)} {w w':World} {b n:Nat} {D:DataW H}(h:w.ownsMap P k R b n D) (hb:w'.heap[b]? =w.heap[b]?):w'.ownsMap P k R b n D:=by
 obtain⟨es,clock,he,F,hs,hD⟩:=h;exact⟨es,clock,hb.trans he,F,hs,hD⟩
theorem Dh.same {w w':World} {ob m0 m1 m2:Nat} {O:Am}(h:Dh w ob m0 m1 m2 O) (h0:w'.heap[ob]? =w.heap[ob]?) (h1:w'.heap[m0]? =w.heap[m0]?) (h2:w'.heap[m1]? =w.heap[m1]?) (h3:w'.heap[m2]? =w.heap[m2]?):Dh w' ob m0 m1 m2 O:=by
 obtain⟨⟨T,a⟩,⟨n0,D0,b0,c0⟩,⟨n1,D1,b1,c1⟩,⟨n2,D2,b2,c2⟩⟩:=h;exact⟨⟨T,h0.trans a⟩,⟨n0,D0,At b0 h1,c0⟩,⟨n1,D1,At b1 h2,c1⟩,⟨n2,D2,At b2 h3,c2⟩⟩
theorem Dh.ja {w:World} {ob m0 m1 m2:Nat} {O:Am}(h:Dh w ob m0 m1 m2 O):ob<w.heap.size/\m0<w.heap.size/\m1<w.heap.size/\m2<w.heap.size:=by
 obtain⟨⟨T,a⟩,⟨n0,D0,b0,c0⟩,⟨n1,D1,b1,c1⟩,⟨n2,D2,b2,c2⟩⟩:=h;exact⟨(lN.1 a).1,b0.lt,b1.lt,b2.lt⟩
theorem Dh.below {w w':World} {ob m0 m1 m2:Nat} {O:Am}(h:Dh w ob m0 m1 m2 O) (hb:Below w.heap.size w w'):Dh w' ob m0 m1 m2 O:=by
 have:=h.ja;exact h.same (hb.block _ this.1) (hb.block _ this.2.1) (hb.block _ this.2.2.1) (hb.block _ this.2.2.2)
theorem Dh.cells {w:World} {ob m0 m1 m2:Nat} {O:Am}(h:Dh w ob m0 m1 m2 O):w.cell? ⟨ob,0,none⟩=some (.map (some m0))/\w.cell? ⟨ob,1,none⟩=some (.map (some m1))/\w.cell? ⟨ob,2,none⟩=some (.map (some m2)):=by
 obtain⟨T,a⟩:=h.h;refine⟨?_,?_,?_⟩<;>(rw[Lib.cell_of_heap a];rfl)
theorem Ww {w:World} {ob m0 m1 m2:Nat} {O:Am}(h:Dh w ob m0 m1 m2 O) (nm:Bs) (hl:nm.length<=1000000000):Calls prog 95 #[.pointer (some ⟨ob,0,none⟩),.string (bs nm)] w fun e w'=>e= .returned (AM nm (O.pre nm))/\Below w.heap.size w w':=by
 have CF:Hid (∀W,Below w.heap.size w W->Calls prog 72 #[.pointer (some ⟨ob,0,none⟩),.int .i64 0,.string (bs nm)] W fun e w'=>e= .returned (AM nm (O.pre nm))/\Below W.heap.size W w'):=lK (fun W hb=>by
  have h:=h.below hb;obtain⟨n,D,h1,h2⟩:=h.pre;exact QX ob 0 m0 n D O.pre nm W (by omega) h.cells.1 h1 h2 hl)
 clear h;generalize O.pre nm=r at CF⊢;unfold AM at CF⊢;go_enter func95,ntmps95
 go_wp2_with (go_at_call 72;(with_reducible refine(CF.o _ (Bzz _)).mono ?_))
 rintro e W1 ⟨rfl,b1⟩;have HC:W1.heap[w.heap.size]? =some (.cells #[.string ⟨#[]⟩,.int .i64 0,.int .i64 0] 61):=(b1.block _ (by simp)).trans (lT w _);have B1:=lK (((Below.refl w.heap.size w).alloc (lM _) (.cells #[.string ⟨#[]⟩,.int .i64 0,.int .i64 0] 61)).trans (b1.mono (by simp)));clear b1
 go_wp2_with (refine dM rfl _ _ rfl w.heap.size _ _ rfl rfl _ HC rfl ?_)
 refine lS (v:=AM nm r) ?_ rfl ⟨rfl,Below.row B1.o (lM _) _⟩;exact results_cell_tmp rfl _ _ w.heap.size 61 (Fa (EL nm r) (EC r)) (0,0) _ (.bool r.isSome) rfl rfl (mF _ _ _ _ _ _ HC) underlying61 rfl Oh
theorem Yj {w:World} {ob m0 m1 m2:Nat} {O:Am}(h:Dh w ob m0 m1 m2 O) (nm:Bs) (hl:nm.length<=1000000000):Calls prog 42 #[.pointer (some ⟨ob,0,none⟩),.string (bs nm)] w fun e w'=>e= .returned (AM nm (O.inf nm))/\Below w.heap.size w w':=by
 have CF:Hid (∀W,Below w.heap.size w W->Calls prog 72 #[.pointer (some ⟨ob,0,none⟩),.int .i64 1,.string (bs nm)] W fun e w'=>e= .returned (AM nm (O.inf nm))/\Below W.heap.size W w'):=lK (fun W hb=>by
  have h:=h.below hb;obtain⟨n,D,h1,h2⟩:=h.inf;exact QX ob 1 m1 n D O.inf nm W (by omega) h.cells.2.1 h1 h2 hl)
 clear h;generalize O.inf nm=r at CF⊢;unfold AM at CF⊢;go_enter func42,ntmps42
 go_wp2_with (go_at_call 72;(with_reducible refine(CF.o _ (Bzz _)).mono ?_))
 rintro e W1 ⟨rfl,b1⟩;have HC:W1.heap[w.heap.size]? =some (.cells #[.string ⟨#[]⟩,.int .i64 0,.int .i64 0] 61):=(b1.block _ (by simp)).trans (lT w _);have B1:=lK (((Below.refl w.heap.size w).alloc (lM _) (.cells #[.string ⟨#[]⟩,.int .i64 0,.int .i64 0] 61)).trans (b1.mono (by simp)));clear b1
 go_wp2_with (refine dM rfl _ _ rfl w.heap.size _ _ rfl rfl _ HC rfl ?_)
 refine lS (v:=AM nm r) ?_ rfl ⟨rfl,Below.row B1.o (lM _) _⟩;exact results_cell_tmp rfl _ _ w.heap.size 61 (Fa (EL nm r) (EC r)) (0,0) _ (.bool r.isSome) rfl rfl (mF _ _ _ _ _ _ HC) underlying61 rfl Oh
theorem Tz {w:World} {ob m0 m1 m2:Nat} {O:Am}(h:Dh w ob m0 m1 m2 O) (nm:Bs) (hl:nm.length<=1000000000):Calls prog 44 #[.pointer (some ⟨ob,0,none⟩),.string (bs nm)] w fun e w'=>e= .returned (AM nm (O.post nm))/\Below w.heap.size w w':=by
 have CF:Hid (∀W,Below w.heap.size w W->Calls prog 72 #[.pointer (some ⟨ob,0,none⟩),.int .i64 2,.string (bs nm)] W fun e w'=>e= .returned (AM nm (O.post nm))/\Below W.heap.size W w'):=lK (fun W hb=>by
  have h:=h.below hb;obtain⟨n,D,h1,h2⟩:=h.post;exact QX ob 2 m2 n D O.post nm W (by omega) h.cells.2.2 h1 h2 hl)
 clear h;generalize O.post nm=r at CF⊢;unfold AM at CF⊢;go_enter func44,ntmps44
 go_wp2_with (go_at_call 72;(with_reducible refine(CF.o _ (Bzz _)).mono ?_))
 rintro e W1 ⟨rfl,b1⟩;have HC:W1.heap[w.heap.size]? =some (.cells #[.string ⟨#[]⟩,.int .i64 0,.int .i64 0] 61):=(b1.block _ (by simp)).trans (lT w _);have B1:=lK (((Below.refl w.heap.size w).alloc (lM _) (.cells #[.string ⟨#[]⟩,.int .i64 0,.int .i64 0] 61)).trans (b1.mono (by simp)));clear b1
 go_wp2_with (refine dM rfl _ _ rfl w.heap.size _ _ rfl rfl _ HC rfl ?_)
 refine lS (v:=AM nm r) ?_ rfl ⟨rfl,Below.row B1.o (lM _) _⟩;exact results_cell_tmp rfl _ _ w.heap.size 61 (Fa (EL nm r) (EC r)) (0,0) _ (.bool r.isSome) rfl rfl (mF _ _ _ _ _ _ HC) underlying61 rfl Oh
end Go.Proofs
