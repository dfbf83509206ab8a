import Derived.Test.YtpocgkiamgipdaaGreatDoorSdK
import Derived.Test.YtpocgkiamgipdaaGreatDoorCards
import Derived.Deep.Strs
import Derived.WideShapes
import Derived.ChangeArms
set_option maxRecDepth 1000000
set_option maxHeartbeats 0
set_option linter.unusedVariables false
set_option linter.unusedSimpArgs false
open Go.Proofs.Tryz
namespace Go.Proofs
open Go.RowKit Go.Hb Go.Pz
theorem ZG (vs:Array Value) (w:World):(callFunc 15 vs).run prog w= .ok (.enter 15 vs) w:=by kernel_rfl
theorem AT.two {w:World} {S:Nat->Prop} {c d:List Value} {t:Tm}(h:AT w S c t) (h':AT w S d t):∃k nm nu bits v a cap a' vt,c= [.int .i64 k,.string nm,.string nu,.int .u64 bits,.int .i64 v,.slice a (AJ t).length cap]/\d= [.int .i64 k,.string nm,.string nu,.int .u64 bits,.int .i64 v,.slice a' (AJ t).length vt]/\(AJ t= []\/(∃b off cs,a=some ⟨b,off,none⟩/\S b/\(∀j,j<cs.length->w.cell? ⟨b,off+j,none⟩=cs[j]?)/\BJ w S cs (AJ t))/\∃b off cs,a'=some ⟨b,off,none⟩/\S b/\(∀j,j<cs.length->w.cell? ⟨b,off+j,none⟩=cs[j]?)/\BJ w S cs (AJ t)):=by
 cases h with
 |var n=>cases h';exact⟨1,_,_,0,n,none,0,none,0,rfl,rfl,.inl rfl⟩
 |atom s=>cases h';exact⟨2,_,_,0,0,none,0,none,0,rfl,rfl,.inl rfl⟩
 |int s=>cases h';exact⟨3,_,_,0,0,none,0,none,0,rfl,rfl,.inl rfl⟩
 |Hs b=>cases h';exact⟨4,_,_,b,0,none,0,none,0,rfl,rfl,.inl rfl⟩
 |cmp s l b off cap cs hb hc h=>
  cases h' with
  |cmp _ _ b2 off2 qQ cs2 qM uB h2=>exact⟨5,_,_,0,0,_,cap,_,qQ,rfl,rfl,.inr ⟨⟨b,off,cs,rfl,hb,hc,h⟩,b2,off2,cs2,rfl,qM,uB,h2⟩⟩
theorem BJ.arg {w:World} {S:Nat->Prop} {cs:List Value} {l:List Tm} {b off i:Nat} {x:Tm}(qy:∀j,j<cs.length->w.cell? ⟨b,off+j,none⟩=cs[j]?) (tW:BJ w S cs l) (hx:l[i]? =some x):∃c0:Array Value,c0.size=6/\AT w S c0.toList x/\w.rangeAt b (off+i*6) c0.toList:=by
 obtain⟨d0,sJ,uW⟩:=tW.at hx;refine⟨⟨d0⟩,by have:=sJ.len;simpa using this,sJ,fun j v hv=> ?_⟩;have hj:j<6:=by
  have h1:=(mC.1 hv).1;have h2:=sJ.len;change j<d0.length at h1;omega
 have h1:=uW j hj;have h2:6*i+j<cs.length:=by
  rcases ls (6*i+j) cs.length with h|h
  ·exact h
  ·rw[mr h]at h1;change d0[j]? =some v at hv;rw[<-h1]at hv;cases hv
 rw[show off+i*6+j=off+(6*i+j) by omega,qy _ h2,h1];exact hv
theorem WV {P:Tm->Prop}(hP:∀t,P t->∀x∈AJ t,P x) (hl64:∀t,P t->(AJ t).length<=64) (n:Nat):∀(t:Tm),SizeOf.sizeOf t<=n->P t->∀(c d:Array Value) (S:Nat->Prop) (w:World),(∀b,S b->b<w.heap.size)->AT w S c.toList t->AT w S d.toList t->
  Calls prog 15 #[.agg c,.agg d] w fun e w'=>e= .returned (.bool true)/\Below w.heap.size w w':=by
 induction n with
 |zero=>intro t ht;cases t<;>simp at ht
 |succ n ih=>
  intro t ht hp c d S w hS h h';have L64:=hl64 t hp;obtain⟨c⟩:=c;obtain⟨d⟩:=d;obtain⟨kd,nm,nu,bits,v,a,cap,a2,qQ,hc,hd,hl⟩:=AT.two h h';have hc:c=_:=hc;have hd:d=_:=hd;subst hc hd;obtain⟨len,hlen⟩:∃len,len=(AJ t).length:=⟨_,rfl⟩;rw[<-hlen]at L64⊢;have l64:(len:Int)<=64:=by omega
  have IH:=lK (fun x (hx:x∈AJ t)=>ih x (Nat.le_of_lt_succ (lR (EP hx) ht)) (hP t hp x hx));have HS:=lK hS;have HL:=lK hl;have rz:=lK hlen;clear h h' ih ht hS hl hlen hp hP hl64;show Calls prog 15 #[.agg #[.int .i64 kd,.string nm,.string nu,.int .u64 bits,.int .i64 v,.slice a len cap],.agg #[.int .i64 kd,.string nm,.string nu,.int .u64 bits,.int .i64 v,.slice a2 len qQ]] w _;go_enter func15,ntmps15
  go_upto_region 1 with fail
  have BW:Hid (Below w.heap.size w ((w.alloc (.cells #[.int .i64 kd,.string nm,.string nu,.int .u64 bits,.int .i64 v,.slice a len cap] 31)).alloc (.cells #[.int .i64 kd,.string nm,.string nu,.int .u64 bits,.int .i64 v,.slice a2 len qQ] 31))):=lK ((Bzz _).alloc (by simp) _);have H1:Hid (((w.alloc (.cells #[.int .i64 kd,.string nm,.string nu,.int .u64 bits,.int .i64 v,.slice a len cap] 31)).alloc (.cells #[.int .i64 kd,.string nm,.string nu,.int .u64 bits,.int .i64 v,.slice a2 len qQ] 31)).heap[w.heap.size]? =some (.cells #[.int .i64 kd,.string nm,.string nu,.int .u64 bits,.int .i64 v,.slice a len cap] 31)):=lK ((Lib.alloc_old _ _ _ (by simp)).trans (lT w _));have H2:Hid (((w.alloc (.cells #[.int .i64 kd,.string nm,.string nu,.int .u64 bits,.int .i64 v,.slice a len cap] 31)).alloc (.cells #[.int .i64 kd,.string nm,.string nu,.int .u64 bits,.int .i64 v,.slice a2 len qQ] 31)).heap[w.heap.size+1]? =some (.cells #[.int .i64 kd,.string nm,.string nu,.int .u64 bits,.int .i64 v,.slice a2 len qQ] 31)):=lK (FU w _ _);have LA:Hid (w.heap.size+1<((w.alloc (.cells #[.int .i64 kd,.string nm,.string nu,.int .u64 bits,.int .i64 v,.slice a len cap] 31)).alloc (.cells #[.int .i64 kd,.string nm,.string nu,.int .u64 bits,.int .i64 v,.slice a2 len qQ] 31)).heap.size):=lK (by simp);generalize((w.alloc (.cells #[.int .i64 kd,.string nm,.string nu,.int .u64 bits,.int .i64 v,.slice a len cap] 31)).alloc (.cells #[.int .i64 kd,.string nm,.string nu,.int .u64 bits,.int .i64 v,.slice a2 len qQ] 31))=W at*;have x0:W.cell? ⟨w.heap.size,0,none⟩=some (.int .i64 kd):=by rw[Lib.cell_of_heap H1.o];rfl
  have x1:W.cell? ⟨w.heap.size,1,none⟩=some (.string nm):=by rw[Lib.cell_of_heap H1.o];rfl
  have x2:W.cell? ⟨w.heap.size,2,none⟩=some (.string nu):=by rw[Lib.cell_of_heap H1.o];rfl
  have x3:W.cell? ⟨w.heap.size,3,none⟩=some (.int .u64 bits):=by rw[Lib.cell_of_heap H1.o];rfl
  have x4:W.cell? ⟨w.heap.size,4,none⟩=some (.int .i64 v):=by rw[Lib.cell_of_heap H1.o];rfl
  have x5:W.cell? ⟨w.heap.size,5,none⟩=some (.slice a len cap):=by rw[Lib.cell_of_heap H1.o];rfl
  have y0:W.cell? ⟨w.heap.size+1,0,none⟩=some (.int .i64 kd):=by rw[Lib.cell_of_heap H2.o];rfl
  have y1:W.cell? ⟨w.heap.size+1,1,none⟩=some (.string nm):=by rw[Lib.cell_of_heap H2.o];rfl
  have y2:W.cell? ⟨w.heap.size+1,2,none⟩=some (.string nu):=by rw[Lib.cell_of_heap H2.o];rfl
  have y3:W.cell? ⟨w.heap.size+1,3,none⟩=some (.int .u64 bits):=by rw[Lib.cell_of_heap H2.o];rfl
  have y4:W.cell? ⟨w.heap.size+1,4,none⟩=some (.int .i64 v):=by rw[Lib.cell_of_heap H2.o];rfl
  have y5:W.cell? ⟨w.heap.size+1,5,none⟩=some (.slice a2 len qQ):=by rw[Lib.cell_of_heap H2.o];rfl
  go_wp2_with fail
  clear x0 y0 x1 y1 x2 y2 x3 y3 x4 y4 x5 y5
  go_loopw [5] (fun v5 wr=>∃i:Nat,v5= .int .i64 i/\Hid (i<=len/\Below W.heap.size W wr)) (fun v5 _=>match v5 with| .int .i64 i=>len-i.toNat|_=>0)
  case atStart=>exact⟨0,rfl,lK ⟨mK _,Below.refl _ _⟩⟩
  case round=>
   obtain⟨i,rfl,hq⟩:=hrel;obtain⟨g1,g2⟩:=hq.o;have bi:(i:Int)<=64:=by omega
   have yM:=lK g2;have X5:Hid (∀V:World,Below W.heap.size W V->V.cell? ⟨w.heap.size,5,none⟩=some (.slice a len cap)):=lK (fun V hV=>by rw[Lib.cell_of_heap ((hV.block w.heap.size (by have:=LA.o;omega)).trans H1.o)];rfl);have Y5:Hid (∀V:World,Below W.heap.size W V->V.cell? ⟨w.heap.size+1,5,none⟩=some (.slice a2 len qQ)):=lK (fun V hV=>by rw[Lib.cell_of_heap ((hV.block (w.heap.size+1) LA.o).trans H2.o)];rfl);have x5:=X5.o wr g2;clear g2 hq;by_cases hi:i<len
   ·have ui:(i:Int)<len:=by omega
    obtain⟨x,hx⟩:∃x,(AJ t)[i]? =some x:=⟨_,lu (by have:=rz.o;omega)⟩;obtain⟨⟨b,off,cs,rfl,uR,qy,tW⟩,b2,off2,cs2,rfl,hSb2,hcs2,hts2⟩:(∃b off cs,a=some ⟨b,off,none⟩/\S b/\(∀j,j<cs.length->w.cell? ⟨b,off+j,none⟩=cs[j]?)/\BJ w S cs (AJ t))/\∃b off cs,a2=some ⟨b,off,none⟩/\S b/\(∀j,j<cs.length->w.cell? ⟨b,off+j,none⟩=cs[j]?)/\BJ w S cs (AJ t):=by
     rcases HL.o with h1|h1
     ·rw[h1]at hx;cases hx
     ·exact h1
    obtain⟨c0,z1,t1,r1⟩:=BJ.arg qy tW hx;obtain⟨d0,z2,t2,r2⟩:=BJ.arg hcs2 hts2 hx;have Z1:=lK z1;have Z2:=lK z2;have BV:Hid (∀V:World,Below W.heap.size W V->Below w.heap.size w V):=lK (fun V hV=>BW.o.trans (hV.mono BW.o.size));have R1:Hid (∀V:World,Below W.heap.size W V->V.rangeAt b (off+i*6) c0.toList):=lK (fun V hV j u hu=>((BV.o V hV).cell (p:=⟨b,off+i*6+j,none⟩) (HS.o b uR)).trans (r1 j u hu));have R2:Hid (∀V:World,Below W.heap.size W V->V.rangeAt b2 (off2+i*6) d0.toList):=lK (fun V hV j u hu=>((BV.o V hV).cell (p:=⟨b2,off2+i*6+j,none⟩) (HS.o b2 hSb2)).trans (r2 j u hu));have HC:Hid (∀V:World,Below W.heap.size W V->Calls prog 15 #[.agg c0,.agg d0] V fun e w'=>e= .returned (.bool true)/\Below V.heap.size V w'):=lK (fun V hV=>IH.o x (mP hx) c0 d0 S V (fun b hb=>lR (HS.o b hb) (BV.o V hV).size) (AT.Ak (fun b hb=>(BV.o V hV).block b (HS.o b hb)) (fun _ h=>h) t1) (AT.Ak (fun b hb=>(BV.o V hV).block b (HS.o b hb)) (fun _ h=>h) t2));have vD:=lK hi;clear hx uR qy tW hSb2 hcs2 hts2 z1 z2 t1 t2 r1 r2 hi g1
    go_upto_region 6 with fail
    clear x5;refine wp_region_held_drew (S:=fun V=>Below W.heap.size W V) (by kernel_rfl) (Ad yM.o) (fun hS=> ?_);refine tk 0 (.pointer (some ⟨w.heap.size,5,none⟩)) rfl hS ?_;refine DQ 1 (.slice (some ⟨b,off,none⟩) len cap) rfl hS (fun W hSW=> ?_) ?_
    ·have e1:=X5.o _ hSW;go_simp
    refine tk 2 (.int .i64 i) rfl hS ?_;refine tk 3 (.pointer (some ⟨b,off+i*6,none⟩)) rfl hS ?_
    try simp only[uu,Act.put]
    refine wpAnyH_take (i:=4) (oi:=_) (v:= .agg c0) rfl (by kernel_rfl) (by kernel_rfl) (by kernel_rfl) (fun _ _ _ h=>h) (M5 rfl _ rfl b (off+i*6) c0 Z1.o rfl (fun V h=>R1.o V h)) hS ?_;refine tk 5 (.pointer (some ⟨w.heap.size+1,5,none⟩)) rfl hS ?_;refine DQ 6 (.slice (some ⟨b2,off2,none⟩) len qQ) rfl hS (fun W hSW=> ?_) ?_
    ·have e1:=Y5.o _ hSW;go_simp
    refine tk 7 (.int .i64 i) rfl hS ?_;refine tk 8 (.pointer (some ⟨b2,off2+i*6,none⟩)) rfl hS ?_
    try simp only[uu,Act.put]
    refine wpAnyH_take (i:=9) (oi:=_) (v:= .agg d0) rfl (by kernel_rfl) (by kernel_rfl) (by kernel_rfl) (fun _ _ _ h=>h) (M5 rfl _ rfl b2 (off2+i*6) d0 Z2.o rfl (fun V h=>R2.o V h)) hS ?_
    try simp only[uu,Act.put]
    refine DD 10 rfl (fun K hK=> ?_);refine As (by rfl) 15 [.tmp 60,.tmp 65] #[31,31] (by rfl) #[.agg c0,.agg d0] (by kernel_rfl) ZG ((HC.o _ (Ad yM.o)).mono ?_);rintro e' W6 ⟨rfl,b6⟩;refine⟨_,rfl,?_⟩;have B6:Hid (Below W.heap.size W W6):=lK ((Ad yM.o).trans (b6.mono yM.o.size));clear b6;refine hK.o _ _ B6.o (fun hS=> ?_);refine tk 11 (.bool true) rfl hS ?_
    try simp only[uu,Act.put]
    refine wpAnyH_done (by kernel_rfl) ?_ _;go_wp2;go_roundw
    case rel=>exact⟨i+1,by first|rfl|(congr 1),lK ⟨vD.o,B6.o⟩⟩
    case measure=>
     have:=vD.o;show len-((i+1:Nat):Int).toNat<len-((i:Nat):Int).toNat;rw[mB,mB];omega
   ·have ui:¬(i:Int)<len:=by omega
    have BE:Hid (Below w.heap.size w wr):=lK (BW.o.trans (yM.o.mono BW.o.size));clear g1;go_wp2;refine lS (v:= .bool true) ?_ rfl ⟨rfl,BE.o⟩;simp[results,results15]
theorem VP (n:Nat) (w:World):Calls prog 14 #[.int .i64 n] w fun e w'=>e= .returned (.agg (BI n))/\Below w.heap.size w w':=by
 go_enter func14,ntmps14;go_wp2;have HN:=lT w (.cells (BI n) 31);refine lS (v:= .agg (BI n)) ?_ rfl ⟨rfl,Bzz _⟩;exact results_cell_row rfl _ _ w.heap.size 31 (BI n) (0,0) _ rfl HN mE rfl Cg
def jG:Bs:= [115,121,110,116,97,120,95,101,114,114,111,114]
def eU (wd:ByteArray):Tm:= .cmp jG [.atom wd.data.toList]
theorem VF {V:World} {S:Nat->Prop} {wd:ByteArray} {b:Nat}(hb:S b) (h:V.heap[b]? =some (.cells (BO wd) 31)):AT V S (Aa b).toList (eU wd):=
 AT.cmp jG [.atom wd.data.toList] b 0 1 (BO wd).toList hb (fun j _=>by rw[Lib.cell_of_heap h,me,mV]) (BJ.one (AT.atom wd.data.toList))
theorem Vj (wd:ByteArray) (V:World) (b b2:Nat) (h:V.heap[b]? =some (.cells (BO wd) 31)) (h2:V.heap[b2]? =some (.cells (BO wd) 31)):Calls prog 15 #[.agg (Aa b),.agg (Aa b2)] V fun e w'=>e= .returned (.bool true)/\Below V.heap.size V w':=by
 refine WV (P:=fun t=>t=eU wd\/t= .atom wd.data.toList) ?_ ?_ _ (eU wd) (lM _) (.inl rfl) (Aa b) (Aa b2) (fun b=>b<V.heap.size) V (fun _ h=>h) (VF (lN.1 h).1 h) (VF (lN.1 h2).1 h2)
 ·rintro t (rfl|rfl) x hx
  ·exact .inr (og.1 hx)
  ·cases hx
 ·rintro t (rfl|rfl)
  ·exact(by decide:1<=64)
  ·exact mK _
theorem fc {w:World} {b:Nat}(wd:ByteArray) (h0:w.heap[b]? =some (.cells (BO wd) 31)) (h1:w.heap[b+1]? =some (.cells (Aa b) 83)):
  Calls prog 12 #[.iface 80 (.pointer (some ⟨b+1,0,none⟩))] w fun e w'=>e= .returned (.tuple #[.string wd,.bool true])/\Below w.heap.size w w':=by
 have H0:=lK h0;have H1:=lK h1;have ZL:Hid ((Tryz.prog.info? 31).map (·.size)=some (Aa b).toList.length):=lK Cg;have RG:Hid (w.rangeAt (b+1) 0 (Aa b).toList):=lK (fun j v hv=>by rw[me,mT w (b+1) j (Aa b) 83 (0,0) h1];simpa using hv);have LB:Hid (b<w.heap.size):=lK (lN.1 h0).1;clear h0 h1;have hta:∀w:World,(Instr.typeAssert (.iface 80 (.pointer (some ⟨b+1,0,none⟩))) 37 80 true).run prog w= .ok (.tuple #[.pointer (some ⟨b+1,0,none⟩),.bool true]) w:=fun _=>by kernel_rfl
 have NE:=lK (lT w (.cells zV 31));have tu:Hid ((Aa b).all (·.oneCell')=true):=lK (by simp[Aa,Value.oneCell']);have BX:=lK (Below.row ((Below.refl w.heap.size w).alloc (lM _) (.cells zV 31)) (lM _) (Aa b));have uC:Hid (((w.alloc (.cells zV 31)).setRow w.heap.size (Aa b)).heap[w.heap.size]? =some (.cells (Aa b) 31)):=lK (mF _ _ _ _ _ _ NE.o);go_enter func12,ntmps12
 go_upto_region 5 with(first|(refine wpList_load_mid rfl 31 _ rfl (b+1) 0 rfl (Aa b).toList _ RG.o mE rfl ZL.o ?_)|(refine F8 rfl _ _ rfl w.heap.size (Aa b) rfl rfl _ NE.o rfl rfl tu.o ?_))
 generalize(w.alloc (.cells zV 31)).setRow w.heap.size (Aa b)=X at*;have x0:X.cell? ⟨w.heap.size,0,none⟩=some (.int .i64 5):=by rw[Lib.cell_of_heap uC.o];rfl
 have x1:X.cell? ⟨w.heap.size,1,none⟩=some (.string ⟨#[115,121,110,116,97,120,95,101,114,114,111,114]⟩):=by rw[Lib.cell_of_heap uC.o];rfl
 have x5:X.cell? ⟨w.heap.size,5,none⟩=some (.slice (some ⟨b,0,none⟩) 1 1):=by rw[Lib.cell_of_heap uC.o];rfl
 have hb:=(BX.o.block b LB.o).trans H0.o;have y0:X.cell? ⟨b,0,none⟩=some (.int .i64 2):=by rw[Lib.cell_of_heap hb];rfl
 have y1:X.cell? ⟨b,1,none⟩=some (.string wd):=by rw[Lib.cell_of_heap hb];rfl
 have HBX:=lK hb;clear hb
 go_upto_region 8 with fail
 have LX:Hid (b<X.heap.size):=lK (lN.1 HBX.o).1;have SX:Hid (Calls prog 15 #[.agg (Aa b),.agg (Aa X.heap.size)] (X.alloc (.cells (BO wd) 31)) fun e w'=>e= .returned (.bool true)/\Below (X.alloc (.cells (BO wd) 31)).heap.size (X.alloc (.cells (BO wd) 31)) w'):=lK (Vj wd _ b X.heap.size ((Lib.alloc_old X _ _ LX.o).trans HBX.o) (lT X _));have BXA:Hid (Below w.heap.size w (X.alloc (.cells (BO wd) 31))):=lK (BX.o.trans ((Bzz _).mono BX.o.size));clear x0 x1 x5 y0 y1
 go_wp2_with (first|(refine KK rfl _ rfl w.heap.size (Aa b) rfl rfl uC.o ?_)|(refine Hn rfl _ rfl (BO wd) rfl rfl ?_)|(go_at_call 15;(refine SX.o.mono ?_)))
 rintro e W2 ⟨rfl,b2⟩;have B2:Hid (Below w.heap.size w W2):=lK (BXA.o.trans (b2.mono BXA.o.size));clear b2;go_wp2;go_ret2;exact⟨rfl,B2.o⟩
end Go.Proofs
namespace Go.Proofs
open Go.RowKit Go.Bg Go.Hb Go.Lx Go.Rb Go.Pf Go.Pz Go.Ps
theorem cD (i j k:Nat) (w:World):(Instr.buildSlice 29 3 #[(0,.agg (BI i)),(1,.agg (BI j)),(2,.agg (BI k))]).run prog w= .ok (.slice (some ⟨w.heap.size,0,none⟩) 3 3) (w.alloc (.cells (BI i++BI j++BI k) 31)):=by kernel_rfl
theorem QT {ops:Array Oper} {rest:List Oper} {o:Oper} {a:Act} {w:World} {Q:Exit->Act->World->Prop}(hgd:o.guard=none) (x y z:Operand) (ho:o.op= .buildSlice 29 3 #[(0,x),(1,y),(2,z)]) (i j k:Nat) (hx:a.eval x= .agg (BI i)) (hy:a.eval y= .agg (BI j)) (hz:a.eval z= .agg (BI k)) (h:wpList prog ops Q rest (a.put o.dst (.slice (some ⟨w.heap.size,0,none⟩) 3 3)) (w.alloc (.cells (BI i++BI j++BI k) 31))):wpList prog ops Q (o::rest) a w:=
 wpList_plain hgd fun _ hK=>by
  unfold Oper.wp;have hr:(execOp a.eval o).run prog w= .ok (.value (.slice (some ⟨w.heap.size,0,none⟩) 3 3)) (w.alloc (.cells (BI i++BI j++BI k) 31)):=by
   simp[execOp,ho,hx,hy,hz,cD,Result.andThen]
  rw[hr];exact hK _ _ h
theorem Uj {W:World} {S:Nat->Prop} {c:Array Value}(h:AT W S c.toList Ym):∃b off cap,c= #[.int .i64 5,.string (bs [61]),.string ⟨#[]⟩,.int .u64 0,.int .i64 0,.slice (some ⟨b,off,none⟩) 2 cap]:=by
 obtain⟨c⟩:=c;change AT W S c Ym at h;cases h with
 |cmp s l b off cap cs hb hc h=>exact⟨b,off,cap,rfl⟩
theorem Kd {ops:Array Oper} {rest:List Oper} {o:Oper} {a:Act} {w:World} {Q:Exit->Act->World->Prop}(hgd:o.guard=none) (v:Value) (w':World) (hr:(execOp a.eval o).run prog w= .ok (.value v) w') (h:wpList prog ops Q rest (a.put o.dst v) w'):wpList prog ops Q (o::rest) a w:=
 wpList_plain hgd fun _ hK=>by
  unfold Oper.wp;rw[hr];exact hK _ _ h
theorem AV {w W:World}(hb:Below w.heap.size w W){b o:Nat} {v:Value}(h:w.cell? ⟨b,o,none⟩=some v):W.cell? ⟨b,o,none⟩=some v:=by
 have qE:b<w.heap.size:=by
  unfold World.cell? at h;split at h
  ·rename_i _ _ _ hk;exact(lN.1 hk).1
  ·cases h
 rw[AO (hb.block b qE)];exact h
theorem Th {W:World} {S:Nat->Prop} {g1 g2:Nat}(h1:W.heap[g1]? =some (.cells (BI 1++BI 2++BI 0) 31)) (h2:W.heap[g2]? =some (.cells (BI 0++ #[.int .i64 5,.string (bs [102]),.string ⟨#[]⟩,.int .u64 0,.int .i64 0,.slice (some ⟨g1,0,none⟩) 3 3]) 31)) (s1:S g1) (s2:S g2):
  AT W S (#[.int .i64 5,.string (bs [61]),.string ⟨#[]⟩,.int .u64 0,.int .i64 0,.slice (some ⟨g2,0,none⟩) 2 2]:Array Value).toList Ym:=by
 have uQ:∀j,j<(((BI 1).toList++((BI 2).toList++((BI 0).toList++ []))):List Value).length->W.cell? ⟨g1,0+j,none⟩=((BI 1).toList++((BI 2).toList++((BI 0).toList++ [])))[j]? :=fun j hj=>by
  rw[me,mT W g1 j _ 31 (0,0) h1,<-mV];rfl
 have uB:∀j,j<(((BI 0).toList++([.int .i64 5,.string (bs [102]),.string ⟨#[]⟩,.int .u64 0,.int .i64 0,.slice (some ⟨g1,0,none⟩) 3 3]++ [])):List Value).length->W.cell? ⟨g2,0+j,none⟩=((BI 0).toList++([.int .i64 5,.string (bs [102]),.string ⟨#[]⟩,.int .u64 0,.int .i64 0,.slice (some ⟨g1,0,none⟩) 3 3]++ []))[j]? :=fun j hj=>by
  rw[me,mT W g2 j _ 31 (0,0) h2,<-mV];rfl
 exact .cmp [61] [.var 0,.cmp [102] [.var 1,.var 2,.var 0]] g2 0 2 ((BI 0).toList++([.int .i64 5,.string (bs [102]),.string ⟨#[]⟩,.int .u64 0,.int .i64 0,.slice (some ⟨g1,0,none⟩) 3 3]++ [])) s2 uB (.cons _ _ _ _ (.var 0) (.cons _ _ _ _ (.cmp [102] [.var 1,.var 2,.var 0] g1 0 3 ((BI 1).toList++((BI 2).toList++((BI 0).toList++ []))) s1 uQ (.cons _ _ _ _ (.var 1) (.cons _ _ _ _ (.var 2) (.cons _ _ _ _ (.var 0) .nil)))) .nil))
theorem WA {W:World} {S:Nat->Prop} {c d:Array Value}(hS:∀b,S b->b<W.heap.size) (h:AT W S c.toList Ym) (h':AT W S d.toList Ym):Calls prog 15 #[.agg c,.agg d] W fun e w'=>e= .returned (.bool true)/\Below W.heap.size W w':=by
 refine WV (P:=fun t=>t=Ym\/t= .cmp [102] [.var 1,.var 2,.var 0]\/∃n,t= .var n) ?_ ?_ _ Ym (lM _) (.inl rfl) c d S W hS h h'
 ·rintro t (rfl|rfl|⟨n,rfl⟩) x hx
  ·simp only[Ym,AJ,oK,List.not_mem_nil,or_false]at hx;rcases hx with rfl|rfl
   ·exact .inr (.inr ⟨_,rfl⟩)
   ·exact .inr (.inl rfl)
  ·simp only[AJ,oK,List.not_mem_nil,or_false]at hx;rcases hx with rfl|rfl|rfl<;>exact .inr (.inr ⟨_,rfl⟩)
  ·simp only[AJ,List.not_mem_nil]at hx
 ·rintro t (rfl|rfl|⟨n,rfl⟩)
  ·decide
  ·decide
  ·exact mK _
theorem gR {w:World}(hL:DK w):Calls prog 5 #[] w fun e w'=>e= .returned (.bool true)/\Below w.heap.size w w':=by
 have C13:=lK (ca w (MG hL));have HM:=lK hL;have CR:Hid (∀(W:World) (s:ByteArray) (L:List Tk),Below w.heap.size w W->s.size<=100->Dh W w.heap.size (w.heap.size+1) (w.heap.size+2) (w.heap.size+3) Jn->Ct s 0 L none->Calls prog 7 #[.string s,.int .i64 0,.pointer (some ⟨w.heap.size,0,none⟩),.agg #[.int .i64 0]] W (Ce s W (Sw Jn 0 F3 0 L none))):=lK (fun W s L hb hs hT hK=>Xu (at_:=0) (by omega) (mK _) (by decide) (HM.o.below hb) hT Xg hK);clear hL;go_enter func5,ntmps5
 go_wp2_with (go_at_call 13;(with_reducible refine C13.o.mono ?_);rintro e W1 ⟨rfl,sE,ql⟩)
 have zX:=lK sE.at;have vE:=lK ql;clear sE ql C13
 go_wp2_with (go_at_call 7;(refine(CR.o _ tA kA vE.o (by decide) zX.o aq).mono ?_))
 intro e W2 h2;rw[Yw]at h2;unfold Ce at h2;obtain⟨b2,c,nv,sv,rfl,htm,yT,vv⟩:=h2;obtain⟨tb,xk,xS,rfl⟩:=Uj htm;obtain⟨na,nc,rfl⟩:=Ap yT;obtain⟨sa,sc,rfl⟩:=Ap vv;have TM:=lK htm;have SV:=lK vv;have B2:=lK (vE.o.trans (b2.mono vE.o.size));have wO:=lK (zX.o.below b2);clear htm yT vv b2;have EA:Ug #[.int .i64 5,.string (bs [61]),.string ⟨#[]⟩,.int .u64 0,.int .i64 0,.slice (some ⟨tb,xk,none⟩) 2 xS] (.slice na jX.names.length nc) (.slice sa (Aw jX.names jX.times).length sc) 15= #[.int .i64 5,.string (bs [61]),.string ⟨#[]⟩,.int .u64 0,.int .i64 0,.slice (some ⟨tb,xk,none⟩) 2 xS,.slice na 2 nc,.slice sa 1 sc,.int .i64 15,.bool false]:=by kernel_rfl
 rw[EA];clear EA
 go_upto_region 5 with fail
 generalize yx:World.alloc W2 _=X2;have uz:Hid (X2.heap[W2.heap.size]? =some (.cells #[.int .i64 5,.string (bs [61]),.string ⟨#[]⟩,.int .u64 0,.int .i64 0,.slice (some ⟨tb,xk,none⟩) 2 xS,.slice na 2 nc,.slice sa 1 sc,.int .i64 15,.bool false] 35)):=lK (by rw[<-yx];exact lT W2 _);have wC:Hid (Below W2.heap.size W2 X2):=lK (by rw[<-yx];exact Bzz _);have wZ:Hid (Below w.heap.size w X2):=lK (B2.o.trans (wC.o.mono B2.o.size));have ve:=lK (wO.o.below wC.o);clear yx
 go_wp2_with (go_at_call 7;(refine(CR.o _ tB kO wZ.o (by decide) ve.o ZD).mono ?_))
 intro e W3 h3;rw[ZB]at h3;unfold Ce at h3;obtain⟨b3,eb,rfl,uj,yI,ql⟩:=h3;have EB:=lK (And.intro uj (And.intro yI ql));have B3:=lK b3;have yc:Hid (Below w.heap.size w W3):=lK (wZ.o.trans (b3.mono wZ.o.size));have HT4:=lK (ve.o.below b3);clear b3 uj yI ql;have ES:Ch (DE tB 2)= #[.int .i64 0,.string ⟨#[]⟩,.string ⟨#[]⟩,.int .u64 0,.int .i64 0,.slice none 0 0,.slice none 0 0,.slice none 0 0,.int .i64 4,.bool false]:=by kernel_rfl
 rw[ES];clear ES
 go_upto_region 6 with fail
 have BX4:Hid (∀o,Below w.heap.size w (W3.alloc o)):=lK (fun o=>yc.o.trans ((Bzz o).mono yc.o.size));generalize hX3:World.alloc W3 _=X3;have BX3:Hid (Below W3.heap.size W3 X3):=lK (by rw[<-hX3];exact Bzz _);clear hX3 BX4;have HB5:Hid (Below w.heap.size w X3):=lK (yc.o.trans (BX3.o.mono yc.o.size));have HT5:=lK (HT4.o.below BX3.o)
 go_wp2_with (go_at_call 7;(refine(CR.o _ tC kQ HB5.o (by decide) HT5.o aA).mono ?_))
 intro e W5 h5;rw[aU]at h5;unfold Ce at h5;obtain⟨b5,rfl⟩:=h5;have B5:=lK b5;have uf:Hid (Below w.heap.size w W5):=lK (HB5.o.trans (b5.mono HB5.o.size));clear b5;have EE:Jp 4= #[.int .i64 0,.string ⟨#[]⟩,.string ⟨#[]⟩,.int .u64 0,.int .i64 0,.slice none 0 0,.slice none 0 0,.slice none 0 0,.int .i64 4,.bool true]:=by kernel_rfl
 rw[EE];clear EE
 go_upto_region 7 with fail
 generalize hX6:World.alloc W5 _=X6;have HX6:Hid (X6.heap[W5.heap.size]? =some (.cells #[.int .i64 0,.string ⟨#[]⟩,.string ⟨#[]⟩,.int .u64 0,.int .i64 0,.slice none 0 0,.slice none 0 0,.slice none 0 0,.int .i64 4,.bool true] 35)):=lK (by rw[<-hX6];exact lT W5 _);have BX6:Hid (Below W5.heap.size W5 X6):=lK (by rw[<-hX6];exact Bzz _);clear hX6
 have K3:Hid (Below W3.heap.size W3 X6):=lK (BX3.o.trans (B5.o.trans (BX6.o.mono B5.o.size)|>.mono BX3.o.size));have K2:Hid (Below X2.heap.size X2 X6):=lK (B3.o.trans (K3.o.mono B3.o.size));have HB7:Hid (Below w.heap.size w X6):=lK (yc.o.trans (K3.o.mono yc.o.size));have C12:=lK (fc (w:=X6) (b:=eb) (YV 0) ((K3.o.block eb (lN.1 EB.o.2.1).1).trans EB.o.2.1) ((K3.o.block (eb+1) (lN.1 EB.o.2.2).1).trans EB.o.2.2))
 go_wp2_with (go_at_call 12;(with_reducible refine C12.o.mono ?_);rintro e W7 ⟨rfl,b7⟩)
 have B7:Hid (Below X6.heap.size X6 W7):=lK b7;clear b7 C12;have V0:Hid (∀W,Calls prog 14 #[.int .i64 0] W fun e w'=>e= .returned (.agg (BI 0))/\Below W.heap.size W w'):=lK (fun W=>VP 0 W);have V1:Hid (∀W,Calls prog 14 #[.int .i64 1] W fun e w'=>e= .returned (.agg (BI 1))/\Below W.heap.size W w'):=lK (fun W=>VP 1 W);have V2:Hid (∀W,Calls prog 14 #[.int .i64 2] W fun e w'=>e= .returned (.agg (BI 2))/\Below W.heap.size W w'):=lK (fun W=>VP 2 W)
 go_upto_region 9 with fail
 have BB:Hid (Below X6.heap.size X6 W7):=B7;have V0':=V0
 go_wp2_with (first
  | (go_at_call 14;first
    | ((with_reducible refine(V0.o _).mono ?_);clear V0;rintro e W8 ⟨rfl,b8⟩;have BB:=lK (BB.o.trans (b8.mono BB.o.size));clear b8)
    | ((with_reducible refine(V1.o _).mono ?_);rintro e W8 ⟨rfl,b8⟩;have BB:=lK (BB.o.trans (b8.mono BB.o.size));clear b8)
    | ((with_reducible refine(V2.o _).mono ?_);rintro e W8 ⟨rfl,b8⟩;have BB:=lK (BB.o.trans (b8.mono BB.o.size));clear b8;clear V1 V2)))
 refine(V0'.o _).mono ?_;rintro e W8 ⟨rfl,b8⟩;have BB:=lK (BB.o.trans (b8.mono BB.o.size));clear b8;dsimp only;rename_i hK;refine hK _ _ ?_;refine QT rfl (.tmp 42) (.tmp 44) (.tmp 46) rfl 1 2 0 rfl rfl rfl ?_;generalize hWa:World.alloc W8 _=Wa;have HA:Hid (Wa.heap[W8.heap.size]? =some (.cells (BI 1++BI 2++BI 0) 31)):=lK (by rw[<-hWa];exact lT W8 _);have BA:Hid (Below W8.heap.size W8 Wa):=lK (by rw[<-hWa];exact Bzz _);clear hWa;refine Kd rfl (.agg #[.int .i64 5,.string (bs [102]),.string ⟨#[]⟩,.int .u64 0,.int .i64 0,.slice (some ⟨W8.heap.size,0,none⟩) 3 3]) Wa (by kernel_rfl) ?_;refine Qk rfl (.tmp 40) (.tmp 48) rfl (BI 0) #[.int .i64 5,.string (bs [102]),.string ⟨#[]⟩,.int .u64 0,.int .i64 0,.slice (some ⟨W8.heap.size,0,none⟩) 3 3] rfl rfl rfl rfl ?_;generalize hWb:World.alloc Wa _=Wb;have HB:Hid (Wb.heap[Wa.heap.size]? =some (.cells (BI 0++ #[.int .i64 5,.string (bs [102]),.string ⟨#[]⟩,.int .u64 0,.int .i64 0,.slice (some ⟨W8.heap.size,0,none⟩) 3 3]) 31)):=lK (by rw[<-hWb];exact lT Wa _);have BA2:Hid (Below Wa.heap.size Wa Wb):=lK (by rw[<-hWb];exact Bzz _);clear hWb;refine Kd rfl (.agg #[.int .i64 5,.string (bs [61]),.string ⟨#[]⟩,.int .u64 0,.int .i64 0,.slice (some ⟨Wa.heap.size,0,none⟩) 2 2]) Wb (by kernel_rfl) ?_
 go_upto_region 10 with fail
 generalize hWc:World.alloc Wb _=Wc;have BC:Hid (Below Wb.heap.size Wb Wc):=lK (by rw[<-hWc];exact Bzz _);have qm:Wc.heap[Wb.heap.size]? =some (.cells #[.int .i64 5,.string (bs [61]),.string ⟨#[]⟩,.int .u64 0,.int .i64 0,.slice (some ⟨Wa.heap.size,0,none⟩) 2 2] 31):=by rw[<-hWc];exact lT Wb _
 clear hWc;have B9:Hid (Below Wa.heap.size Wa Wc):=lK (BA2.o.trans (BC.o.mono BA2.o.size));have B10:Hid (Below W8.heap.size W8 Wc):=lK (BA.o.trans (B9.o.mono BA.o.size));have B11:Hid (Below X6.heap.size X6 Wc):=lK (BB.o.trans (B10.o.mono BB.o.size));have B12:Hid (Below X2.heap.size X2 Wc):=lK (K2.o.trans (B11.o.mono K2.o.size));have B13:Hid (Below W2.heap.size W2 Wc):=lK (wC.o.trans (B12.o.mono wC.o.size));have HB14:Hid (Below w.heap.size w Wc):=lK (HB7.o.trans (B11.o.mono HB7.o.size));have qR:Wc.heap[W2.heap.size]? =some (.cells #[.int .i64 5,.string (bs [61]),.string ⟨#[]⟩,.int .u64 0,.int .i64 0,.slice (some ⟨tb,xk,none⟩) 2 xS,.slice na 2 nc,.slice sa 1 sc,.int .i64 15,.bool false] 35):=
  (B12.o.block _ (lN.1 uz.o).1).trans uz.o
 have hd6:Wc.heap[W5.heap.size]? =some (.cells #[.int .i64 0,.string ⟨#[]⟩,.string ⟨#[]⟩,.int .u64 0,.int .i64 0,.slice none 0 0,.slice none 0 0,.slice none 0 0,.int .i64 4,.bool true] 35):=
  (B11.o.block _ (lN.1 HX6.o).1).trans HX6.o
 have C15:Hid (Calls prog 15 #[.agg #[.int .i64 5,.string (bs [61]),.string ⟨#[]⟩,.int .u64 0,.int .i64 0,.slice (some ⟨tb,xk,none⟩) 2 xS],.agg #[.int .i64 5,.string (bs [61]),.string ⟨#[]⟩,.int .u64 0,.int .i64 0,.slice (some ⟨Wa.heap.size,0,none⟩) 2 2]] Wc fun e w'=>e= .returned (.bool true)/\Below Wc.heap.size Wc w'):=lK (by
  refine WA (S:=fun b=>b<Wc.heap.size) (fun _ h=>h) (AT.Ak (fun b hb=>B13.o.block b hb.2) (fun b hb=>lR hb.2 B13.o.size) TM.o) (Th ((B9.o.block _ (lN.1 HA.o).1).trans HA.o) ((BC.o.block _ (lN.1 HB.o).1).trans HB.o) ?_ ?_)
  ·exact lR (lN.1 HA.o).1 B9.o.size
  ·exact lR (lN.1 HB.o).1 BC.o.size)
 have q0:=mT Wc W2.heap.size 0 _ 35 (0,0) qR;have q1:=mT Wc W2.heap.size 1 _ 35 (0,0) qR;have q2:=mT Wc W2.heap.size 2 _ 35 (0,0) qR;have q3:=mT Wc W2.heap.size 3 _ 35 (0,0) qR;have q4:=mT Wc W2.heap.size 4 _ 35 (0,0) qR;have q5:=mT Wc W2.heap.size 5 _ 35 (0,0) qR;have q6:=mT Wc W2.heap.size 6 _ 35 (0,0) qR;have q7:=mT Wc W2.heap.size 7 _ 35 (0,0) qR;have q8:=mT Wc W2.heap.size 8 _ 35 (0,0) qR;have q9:=mT Wc W2.heap.size 9 _ 35 (0,0) qR;have r0:=mT Wc Wb.heap.size 0 _ 31 (0,0) qm;have r1:=mT Wc Wb.heap.size 1 _ 31 (0,0) qm;have r2:=mT Wc Wb.heap.size 2 _ 31 (0,0) qm;have r3:=mT Wc Wb.heap.size 3 _ 31 (0,0) qm;have r4:=mT Wc Wb.heap.size 4 _ 31 (0,0) qm;have r5:=mT Wc Wb.heap.size 5 _ 31 (0,0) qm;have uA:=lK qR;have HD6:=lK hd6;clear qm qR hd6;simp only[oJ,nX,List.getElem?_cons_succ]at q0 q1 q2 q3 q4 q5 q6 q7 q8 q9 r0 r1 r2 r3 r4 r5;clear TM uz HX6 HA HB K2 K3 EB wC BX3 BX6 B3 B5 BA BA2 BC B9 B10 B12 wZ yc HB5 uf zX wO ve HT4 HT5 CR BB B11 B7 B2 vE;have B14:Hid (Below W2.heap.size W2 Wc):=B13
 go_upto_region 11 with(go_at_call 15;(with_reducible refine C15.o.mono ?_);rintro e Wd ⟨rfl,b15⟩)
 have SV1:W2.ownsRow W1.heap.size 9 1 (.slice sa 1 sc) 1 [.string (bs [89])]:=SV.o;obtain⟨g,cap,hv,_,_⟩:=SV1.form (by decide);have se:sa=some ⟨g,0,none⟩:=by
  simp only[mX]at hv;exact hv.1
 subst se;have B15:Hid (Below W2.heap.size W2 Wd):=lK (B14.o.trans (b15.mono B14.o.size));have HB15:Hid (Below w.heap.size w Wd):=lK (HB14.o.trans (b15.mono HB14.o.size));have y0:Wd.cell? ⟨g,0,none⟩=some (.string (bs [89])):=AV B15.o (World.ownsRow.cellAt SV1 0 (by decide));have d6:=AV b15 q6;have d7:=AV b15 q7;have d8:=AV b15 q8;have e8:Wd.cell? ⟨W5.heap.size,8,none⟩=some (.int .i64 4):=AV b15 (mT Wc W5.heap.size 8 _ 35 (0,0) HD6.o);have e9:Wd.cell? ⟨W5.heap.size,9,none⟩=some (.bool true):=AV b15 (mT Wc W5.heap.size 9 _ 35 (0,0) HD6.o);have hy:(bs [89]).toList= [89]:=by kernel_rfl
 have hw:(YV 0).toList= [117,110,101,120,112,101,99,116,101,100,95,116,111,107,101,110]:=by kernel_rfl
 have CS:Hid (∀W,Calls prog 16 #[.string ⟨#[97,46,98,46,32,99]⟩,.int .i64 0] W (H8 4 W)):=lK (fun W=>cZ ⟨#[97,46,98,46,32,99]⟩ 0 W (by decide));clear q0 q1 q2 q3 q4 q5 q6 q7 q8 q9 r0 r1 r2 r3 r4 r5 SV SV1 hv b15 uA HD6 B14 B13 C15 HB14 HB7
 go_wp2_with (go_at_call 16;(with_reducible refine(CS.o _).mono ?_);rintro e We ⟨rfl,rfl⟩)
 refine lS (v:= .bool true) ?_ rfl ⟨rfl,HB15.o⟩;simp only[results,results5];go_simp
end Go.Proofs
namespace Go.Pz
open Go.Proofs Go.RowKit Go.Bg Go.Hb Go.Lx Go.Rb Go.Pf Go.Ps
mutual
theorem Hj:∀(t:Tm) (k:Nat),k<=Dx t k
 | .var _,k=>mO k
 | .atom _,k=>mO k
 | .int _,k=>mO k
 | .Hs _,k=>mO k
 | .cmp _ l,k=>lg (mO k) (Gg l (k+1))
theorem Gg:∀(l:List Tm) (k:Nat),k<=El l k
 | [],k=>lM k
 |x::l,k=>by
  simp only[El];split
  ·exact lM k
  ·exact lg (Hj x k) (Gg l _)
end
mutual
theorem Oa:∀(t:Tm) (k:Nat) (out:List Nat),Dx t k<=4000->(vars t out).length+k<=out.length+Dx t k
 | .var n,k,out,h=>by
  simp only[vars,E8,Dx];split
  ·omega
  ·rw[l6,List.length_singleton];omega
 | .atom _,k,out,h=>by simp only[vars,Dx];omega
 | .int _,k,out,h=>by simp only[vars,Dx];omega
 | .Hs _,k,out,h=>by simp only[vars,Dx];omega
 | .cmp _ l,k,out,h=>by
  simp only[vars,Dx]at h⊢;have:=Mi l (k+1) out h;omega
theorem Mi:∀(l:List Tm) (k:Nat) (out:List Nat),El l k<=4000->(Ck l out).length+k<=out.length+El l k
 | [],k,out,h=>by simp only[Ck,El];omega
 |x::l,k,out,h=>by
  simp only[Ck,El]at h⊢;split at h
  ·omega
  ·rename_i hk;rw[lL hk];have h1:=Gg l (Dx x k);have h2:=Oa x k out (by omega);have h3:=Mi l (Dx x k) (vars x out) h;omega
end
theorem PA:∀(l:List Nat) (lo v:Nat),l.Pairwise (· < ·)->(∀x∈l,lo<=x/\x<v)->l.length+lo<=max v lo
 | [],lo,v,_,_=>by simp only[pf];omega
 |x::l,lo,v,hp,h=>by
  have h0:=h x List.mem_cons_self;have hc:=List.pairwise_cons.1 hp;have:=PA l (x+1) v hc.2 fun y hy=>⟨hc.1 y hy,(h y (List.mem_cons_of_mem _ hy)).2⟩;rw[nF];omega
theorem Sm {t:Tm}(h:F3 t=0):Dx t 0<=4000:=by
 unfold F3 GR at h;split at h
 ·cases h
 ·omega
theorem JS.jh {s:ByteArray} {t:Tm} {st:RS} {n:Nat}(h:JS s t st n):st.vars<=4000:=by
 have h1:=Oa t 0 [] (Sm h.F7);have h2:=Sm h.F7;rw[h.vars,List.length_range]at h1;simp only[pf]at h1;omega
theorem JS.jm {s:ByteArray} {t:Tm} {st:RS} {n:Nat}(h:JS s t st n):st.names.length<=st.vars:=by
 have h1:=PA (st.names.map (·.2)) 0 st.vars h.ok.Tj fun x hx=>by
  obtain⟨y,hy,rfl⟩:=List.mem_map.1 hx;exact⟨mK _,h.ok.lt y hy⟩
 rw[nN]at h1;omega
theorem RS.Ok.at {st:RS}(h:st.Ok){i:Nat} {x:Bs×Nat}(hx:st.names[i]? =some x):x.1≠ [95]/\x.2<st.vars/\(∀(j:Nat) (y:Bs×Nat),j<i->st.names[j]? =some y->y.2<x.2/\y.1≠x.1):=by
 have hm:=mP hx;refine⟨h.anon x hm,h.lt x hm,fun j y hj hy=> ?_⟩;obtain⟨hi,ex⟩:=mC.1 hx;obtain⟨vY,ey⟩:=mC.1 hy;have h1:=List.pairwise_iff_getElem.1 h.Tj j i (by simpa using vY) (by simpa using hi) hj;have h2:=List.pairwise_iff_getElem.1 h.once j i (by simpa using vY) (by simpa using hi) hj;simp only[List.getElem_map,ex,ey]at h1 h2;exact⟨h1,h2⟩
theorem YK {s:ByteArray} {a:Nat}(h:0<s.size):0<DE s a:=by
 have key:∀(n a:Nat),s.size-a<=n->0<DE s a:=by
  intro n
  induction n with
  |zero=>intro a ha;rw[Kq (by omega)];exact h
  |succ n ih=>
   intro a ha;rcases ls a s.size with h1|h1
   ·cases he:Ir s a with
    |true=>rw[Ki h1 he];omega
    |false=>rw[Np h1 he];exact ih (a+1) (by omega)
   ·rw[Kq h1];exact h
 exact key _ a (lM _)
end Go.Pz
namespace Go.Proofs
open Go.RowKit Go.Bg Go.Hb Go.Lx Go.Rb Go.Pf Go.Pz Go.Ps
theorem Lg.below {w W:World} {g o:Nat} {xs:Be}(h:Lg w g o xs) (hb:Below w.heap.size w W):Lg W g o xs:=
 ⟨fun i x hx j v hv=>by
  have qE:=h.lt (by rintro rfl;simp at hx);exact(AO (hb.block g qE) _).trans (h.cell i x hx j v hv),h.name,fun hn=>lR (h.lt hn) hb.size⟩
theorem WH {w:World} :Hw w w.heap.size (.slice none 0 0) []:=mq _ _ _ _
theorem Xx {t:Tm}(hg:ME t) (h0:F3 t=0):Ks t:=by
 unfold F3 GR at h0;split at h0
 ·cases h0
 ·exact⟨hg.1,h0⟩
theorem Tryz.law3 {w:World}(hL:DK w) (s:ByteArray) (la:Option Addr) (lc g o:Nat) (xs:Be) (q:Int) (hs:s.size<=20000000) (vU:xs≠ []->la=some ⟨g,o,none⟩) (hx:Lg w g o xs) (uT:xs.length<=10000000) (hq: -9223372036854775808<=q/\q<=9223372036854775807):
  Calls prog 3 #[.string s,.slice la xs.length lc,.int .i64 q] w fun e w'=>e= .returned (.bool true)/\Below w.heap.size w w':=by
 obtain⟨L,fin,hT⟩:=Ct.ex s s.size 0 (mK _) (by omega);have CA:=lK (gR hL);have CT:Hid (∀W,Below w.heap.size w W->Calls prog 6 #[.slice la xs.length lc] W (I5 W)):=lK (fun W hb=>Zl W la lc g o xs vU (hx.below hb) uT (MG (hL.below hb)));have CR:Hid (∀(W:World) (ob m0 m1 m2:Nat) (O:Am),Below w.heap.size w W->Dh W ob m0 m1 m2 O->Nl O->Calls prog 7 #[.string s,.int .i64 0,.pointer (some ⟨ob,0,none⟩),.agg #[.int .i64 q]] W (Ce s W (Sw O q F3 0 L fin))):=lK (fun W ob m0 m1 m2 O hb ht hp=>Xu (at_:=0) hs (mK _) hq (hL.below hb) ht hp hT);have RK:Hid (∀(O:Am) t st n,Sw O q F3 0 L fin= .ok t st n->JS s t st n):=lK (fun O t st n h=>dH hs (mK _) hT h);generalize xs.length=xl at CT⊢;have yP:(s.size:Int)<=20000000:=by omega
 clear hL hT vU hx uT;go_enter func3,ntmps3
 go_wp2_with (go_at_call 5;(with_reducible refine CA.o.mono ?_);rintro e W1 ⟨rfl,b1⟩)
 have B1:=lK b1;clear b1 CA
 go_wp2_with (go_at_call 6;(with_reducible refine(CT.o _ B1.o).mono ?_);rintro e W2 ⟨Q,db,lv,N,O,l,rfl,hti⟩)
 have B2:Hid (Below w.heap.size w W2):=lK (B1.o.trans (hti.Ac.mono B1.o.size));have C7:=lK (CR.o W2 W1.heap.size _ _ _ O B2.o hti.Fm.at hti.pr);clear hti CT CR
 go_wp2_with (go_at_call 7;(with_reducible refine C7.o.mono ?_))
 intro e W3 h3;clear C7;unfold Ce at h3;obtain⟨b3,h3⟩:=h3;have B3:Hid (Below w.heap.size w W3):=lK (B2.o.trans (b3.mono B2.o.size));clear b3;cases hR:Sw O q F3 0 L fin with
 |eof a=>
  rw[hR]at h3;dsimp only at h3;subst h3;unfold Jp;clear RK hR;go_wp2;refine lS (v:= .bool true) ?_ rfl ⟨rfl,B3.o.trans ((Bzz _).mono B3.o.size)⟩;simp only[results,results3];go_simp
 |stop wd a=>
  rw[hR]at h3;dsimp only at h3;obtain⟨b,rfl,-,-,-⟩:=h3;unfold Ch;clear RK hR;have HP:Hid (0<s.size->0<DE s a):=lK (fun h=>YK h);generalize DE s a=k at HP⊢;rcases mh k with hk|hk
  ·subst hk;have hz:s.size=0:=by
    rcases mh s.size with h|h
    ·exact h
    ·exact absurd (HP.o h) (Nat.lt_irrefl 0)
   have he:s=⟨#[]⟩:=by
    apply pH;exact Array.size_eq_zero_iff.1 hz
   subst he;go_wp2;refine lS (v:= .bool true) ?_ rfl ⟨rfl,B3.o.trans ((Bzz _).mono B3.o.size)⟩;simp only[results,results3];go_simp
  ·have sW:(0:Int)<k:=by omega
   go_wp2;refine lS (v:= .bool true) ?_ rfl ⟨rfl,B3.o.trans ((Bzz _).mono B3.o.size)⟩;simp only[results,results3];go_simp
 |ok t st n=>
  rw[hR]at h3;dsimp only at h3;have RO:=lK (RK.o _ _ _ _ hR);clear RK hR;obtain⟨c,nv,sv,rfl,htm,yT,vv⟩:=h3;obtain⟨c⟩:=c;obtain⟨kd,nm,nu,bits,v,a,cap,hc,-⟩:=AT.form htm;have hc:c=_:=hc;subst hc;obtain⟨na,nc,rfl⟩:=Ap yT;obtain⟨sa,sc,rfl⟩:=Ap vv;have TM:=lK htm;have NV:=lK yT;have tU:=JX st.names st.times;have hv4:=RO.o.jh;have hn4:=RO.o.jm;obtain⟨nn,hnn⟩:∃nn,nn=st.names.length:=⟨_,rfl⟩;have HN:=lK hnn;rw[<-hnn]at tU hn4⊢;generalize(Aw st.names st.times).length=sn at tU⊢;generalize(AJ t).length=al at*;clear htm yT vv hnn;have EA:Ug #[.int .i64 kd,.string nm,.string nu,.int .u64 bits,.int .i64 v,.slice a al cap] (.slice na nn nc) (.slice sa sn sc) n= #[.int .i64 kd,.string nm,.string nu,.int .u64 bits,.int .i64 v,.slice a al cap,.slice na nn nc,.slice sa sn sc,.int .i64 n,.bool false]:=rfl;rw[EA];clear EA
  go_upto_region 6 with fail
  generalize hX:World.alloc W3 _=X;have HX:X.heap[W3.heap.size]? =some (.cells #[.int .i64 kd,.string nm,.string nu,.int .u64 bits,.int .i64 v,.slice a al cap,.slice na nn nc,.slice sa sn sc,.int .i64 n,.bool false] 35):=by rw[<-hX];exact lT W3 _
  have BX:Hid (Below W3.heap.size W3 X):=lK (by rw[<-hX];exact Bzz _);clear hX;have BX4:Hid (Below w.heap.size w X):=lK (B3.o.trans (BX.o.mono B3.o.size));have q0:=mT X W3.heap.size 0 _ 35 (0,0) HX;have q1:=mT X W3.heap.size 1 _ 35 (0,0) HX;have q2:=mT X W3.heap.size 2 _ 35 (0,0) HX;have q3:=mT X W3.heap.size 3 _ 35 (0,0) HX;have q4:=mT X W3.heap.size 4 _ 35 (0,0) HX;have q5:=mT X W3.heap.size 5 _ 35 (0,0) HX;have q6:=mT X W3.heap.size 6 _ 35 (0,0) HX;have q7:=mT X W3.heap.size 7 _ 35 (0,0) HX;have q8:=mT X W3.heap.size 8 _ 35 (0,0) HX;have q9:=mT X W3.heap.size 9 _ 35 (0,0) HX;simp only[oJ,nX,List.getElem?_cons_succ]at q0 q1 q2 q3 q4 q5 q6 q7 q8 q9;clear HX;have tQ:(1:Int)<=n:=by have:=RO.o.pos;omega
  have sy:(n:Int)<=s.size:=by have:=RO.o.le;omega
  have hh:n-1<s.size:=by have:=RO.o.pos;have:=RO.o.le;omega
  have hb:(((s[n-1]'hh).toNat:Int) !=46)=false:=by
   have h1:=RO.o.dot;rw[AP s _ hh]at h1;rw[h1];rfl
  have rH:¬s.size<n:=Nat.not_lt.2 RO.o.le;have C8:Hid (Calls prog 8 #[.agg #[.int .i64 kd,.string nm,.string nu,.int .u64 bits,.int .i64 v,.slice a al cap]] X fun e w'=>e= .returned (.int .i64 0)/\Below X.heap.size X w'):=lK (eR (S:=fun b=>b<W3.heap.size) RO.o.Kf RO.o.F7 (fun b hb=>lR hb BX.o.size) (AT.Ak (fun b hb=>BX.o.block b hb.2) (fun b hb=>hb.2) TM.o))
  go_upto_region 10 with(go_at_call 8;(with_reducible refine C8.o.mono ?_);rintro e X8 ⟨rfl,b8⟩;have p8:=AV b8 q8)
  have B8:=lK b8;have B84:Hid (Below w.heap.size w X8):=lK (BX4.o.trans (b8.mono BX4.o.size));have C9:Hid (Calls prog 9 #[.agg #[.int .i64 kd,.string nm,.string nu,.int .u64 bits,.int .i64 v,.slice a al cap],.slice none 0 0] X8 (Nv X8 X8.heap.size (.slice none 0 0) (List.range st.vars))):=lK (by
   have h1:=ga (P:=Ks) Mf Rq _ t (lM _) (Xx RO.o.Kf RO.o.F7) _ (fun b=>b<W3.heap.size) X8 X8.heap.size (.slice none 0 0) [] (fun b hb=>lR hb (lg BX.o.size B8.o.size)) (lM _) (AT.Ak (fun b hb=>(B8.o.block b (lR hb.2 BX.o.size)).trans (BX.o.block b hb.2)) (fun b hb=>hb.2) TM.o) WH (by rw[RO.o.vars,List.length_range];omega)
   rwa [RO.o.vars]at h1)
  have p0:=AV b8 q0;have p1:=AV b8 q1;have p2:=AV b8 q2;have p3:=AV b8 q3;have p4:=AV b8 q4;have p5:=AV b8 q5;have p6:=AV b8 q6;have p7:=AV b8 q7;clear q0 q1 q2 q3 q4 q5 q6 q7 q8 q9 b8 hb hh rH C8
  go_upto_region 11 with(go_at_call 9;(with_reducible refine C9.o.mono ?_);rintro e X9 ⟨va,vc,rfl,qK,hb9,-,-,-⟩)
  have B9:=lK hb9;have B94:Hid (Below w.heap.size w X9):=lK (B84.o.trans (hb9.mono B84.o.size));unfold Hw at qK;simp only[List.length_range]at qK;have ROW:=lK qK;have o6:=AV hb9 p6;have o7:=AV hb9 p7;have o8:=AV hb9 p8;have lv:(st.vars:Int)<=4000:=by omega
  have ln:(nn:Int)<=4000:=by omega
  have lsn:(sn:Int)<=nn:=by omega
  have RK:Hid st.Ok:=lK RO.o.ok;have NR:Hid (X9.ownsRow W2.heap.size 47 2 (.slice na nn nc) nn (st.names.flatMap QN)):=lK (by
   have h1:=NV.o;rw[<-HN.o]at h1;exact AS h1 fun b hb=>by
    have h2:=(h1.lt b hb).2;have h3:=BX.o.size;have h4:=B8.o.size;rw[hb9.block b (by omega),B8.o.block b (by omega),BX.o.block b h2])
  clear p0 p1 p2 p3 p4 p5 p6 p7 p8 hb9 qK C9 TM NV RO B8 BX BX4 B84 B3 B2 B1;generalize vv:st.vars=sv at*
  go_wp2_with fail
  have HSV:=lK vv;clear vv
  go_loop [14] (fun v=>∃i:Nat,v= .int .i64 i/\i<=sv) (fun v=>sv-(intOf v).toNat)
  case atStart=>exact⟨0,rfl,mK _⟩
  case round=>
   obtain⟨i,rfl,hi⟩:=hrel;by_cases qE:i<sv
   ·have ui:(i:Int)<sv:=by omega
    obtain⟨g1,cap1,hv,_,_⟩:=ROW.o.form (by omega);have se:va=some ⟨g1,0,none⟩:=by simp only[mX]at hv;exact hv.1
    subst se;have c0:X9.cell? ⟨g1,i,none⟩=some (.int .i64 i):=by
     rw[World.ownsRow.cellAt ROW.o i (by omega),mj,List.getElem?_range qE];rfl
    clear hv;go_wp2;go_round
    case rel=>exact⟨i+1,by go_num,by omega⟩
    case measure=>simp[intOf];omega
   ·have ui:¬((i:Int)<sv):=by omega
    go_upto_region 16 with fail
    go_wp2_with fail
    go_loopw [15] (fun v wr=>∃i:Nat,v= .int .i64 i/\Hid (i<=nn/\Below X9.heap.size X9 wr)) (fun v _=>nn-(intOf v).toNat)
    case atStart=>exact⟨0,rfl,lK ⟨mK _,Below.refl _ _⟩⟩
    case round=>
     obtain⟨i,rfl,hq⟩:=hrel;have zA:=hq.o.1;have BR:Hid (Below X9.heap.size X9 wr):=lK hq.o.2;have m6:=AV BR.o o6;have m7:=AV BR.o o7;by_cases qE:i<nn
     ·have ui:(i:Int)<nn:=by omega
      obtain⟨x,hx⟩:∃x,st.names[i]? =some x:=⟨_,lu (by have:=HN.o;omega)⟩;have RA:=lK (RK.o.at hx);obtain⟨g,qQ,hv,uX,uF⟩:=NR.o.form (by omega);have se:na=some ⟨g,0,none⟩:=by simp only[mX]at hv;exact hv.1
      subst se;have nm0:∀(W:World),Below X9.heap.size X9 W->∀(j:Nat) (y:Bs×Nat),st.names[j]? =some y->W.cell? ⟨g,j*2,none⟩=some (.string (bs y.1))/\W.cell? ⟨g,j*2+1,none⟩=some (.int .i64 y.2):=fun W hW j y hy=>by
       have hj:=(mC.1 hy).1;have:=HN.o;exact⟨AV hW (by rw[World.ownsRow.cellAt NR.o (j*2) (by omega)];exact(JT hy).1),AV hW (by rw[World.ownsRow.cellAt NR.o (j*2+1) (by omega)];exact(JT hy).2)⟩
      have NM:=lK nm0;have n0:=(nm0 wr BR.o i x hx).1;have n1:=(nm0 wr BR.o i x hx).2;have HX:=lK hx;clear nm0 hx hv uX uF;have cne:((bs x.1).toList== [95])=false:=by
       have h1:((bs x.1).toList==(⟨#[95]⟩:ByteArray).toList)=false:=by
        rw[<-oz,Du,mN];exact fun e=>RA.o.1 (Fv.1 e)
       have h2:(⟨#[95]⟩:ByteArray).toList= [95]:=by first|rfl|decide|simp
       rwa [h2]at h1
      have k1:(x.2:Int)<sv:=by have:=RA.o.2.1;have:=HSV.o;omega
      have k2:¬((x.2:Int)<0):=by omega
      have k2':decide ((x.2:Int)<0)=false:=lO k2;have k1':decide ((sv:Int)<=x.2)=false:=lO (by omega);have k1'':¬((sv:Int)<=x.2):=by omega
      rcases i with _|j
      ·go_upto_region 19 with fail
       go_quiet (fail)
       have BQ:Hid (Below X9.heap.size X9 (wr.drewN nq)):=lK (BR.o.trans ((below_drewN wr nq).mono BR.o.size));generalize wr.drewN nq=Y at BQ⊢;clear m6 m7 n0 n1 cne k1 k2 k1' k1'' k2'
       go_wp2_with fail
       go_loopw [16] (fun v w2=>∃k:Nat,v= .int .i64 k/\Hid (k<=0/\Below X9.heap.size X9 w2)) (fun v _=>0-(intOf v).toNat)
       case atStart=>exact⟨0,rfl,lK ⟨mK _,BQ.o⟩⟩
       case round=>
        obtain⟨k,rfl,qu⟩:=hrel;have hki:=qu.o.1;have BK:Hid (Below X9.heap.size X9 wr):=lK qu.o.2;have m6:=AV BK.o o6;by_cases hk:k<0
        ·exact absurd hk (Nat.not_lt_zero k)
        ·have hki2:¬((k:Int)<(0:Nat)):=by omega
         go_wp2;go_roundw
         case rel=>exact⟨0+1,by go_num,lK ⟨by omega,BK.o⟩⟩
         case measure=>simp[intOf];omega
      ·obtain⟨y,hy⟩:∃y,st.names[j]? =some y:=⟨_,lu (by have:=HN.o;omega)⟩;have p0:=(NM.o wr BR.o j y hy).1;have p1:=(NM.o wr BR.o j y hy).2;have k3:(y.2:Int)<x.2:=by have:=(RA.o.2.2 j y (by omega) hy).1;omega
       have k3':decide ((x.2:Int)<=y.2)=false:=lO (by omega);have k3n:¬(x.2<=y.2):=by omega
       have ej:((j+1:Nat):Int)-1=(j:Int):=by omega
       have ej2:(0:Int)<((j+1:Nat):Int):=by omega
       go_upto_region 19 with fail
       go_quiet (fail)
       clear p0 p1 k3 k3' ej ej2 hy;have BQ:Hid (Below X9.heap.size X9 (wr.drewN nq)):=lK (BR.o.trans ((below_drewN wr nq).mono BR.o.size));generalize wr.drewN nq=Y at BQ⊢;clear m6 m7 n0 n1 cne k1 k2 k1' k1'' k2'
       go_wp2_with fail
       go_loopw [16] (fun v w2=>∃k:Nat,v= .int .i64 k/\Hid (k<=(j+1)/\Below X9.heap.size X9 w2)) (fun v _=>(j+1)-(intOf v).toNat)
       case atStart=>exact⟨0,rfl,lK ⟨mK _,BQ.o⟩⟩
       case round=>
        obtain⟨k,rfl,qu⟩:=hrel;have hki:=qu.o.1;have BK:Hid (Below X9.heap.size X9 wr):=lK qu.o.2;have m6:=AV BK.o o6;by_cases hk:k<(j+1)
        ·have hki2:(k:Int)<((j+1):Nat):=by omega
         have hkn:(k:Int)<nn:=by omega
         obtain⟨z,hz⟩:∃z,st.names[k]? =some z:=⟨_,lu (by have:=HN.o;omega)⟩;have n0:=(NM.o wr BK.o _ x HX.o).1;have z0:=(NM.o wr BK.o k z hz).1;have cne:((bs z.1).toList==(bs x.1).toList)=false:=by
          rw[<-oz,Du,mN];exact fun e=>(RA.o.2.2 k z hk hz).2 (Fv.1 e)
         clear hz
         go_upto_region 24 with fail
         go_quiet (fail)
         go_wp2;go_roundw
         case rel=>exact⟨k+1,by go_num,lK ⟨by omega,BK.o.trans ((below_drewN wr nq).mono BK.o.size)⟩⟩
         case measure=>simp[intOf];omega
        ·have hki2:¬((k:Int)<((j+1):Nat)):=by omega
         go_wp2;go_roundw
         case rel=>exact⟨(j+1)+1,by go_num,lK ⟨by omega,BK.o⟩⟩
         case measure=>simp[intOf];omega
     ·have ui:¬((i:Int)<nn):=by omega
      go_wp2;refine lS (v:= .bool true) ?_ rfl ⟨rfl,B94.o.trans (BR.o.mono B94.o.size)⟩;simp only[results,results3];go_simp
end Go.Proofs
namespace Go.Proofs
open Go.RowKit Go.Hb Go.Pz Go.WideShapes Go.Deep Go.Proofs.YtpocgkiamgipdaaGreatDoor
theorem dB {w:World} {base:Nat} {a:Addr} {cs:List Value}(h:w.cells? base a 3=some cs):∃x y z,cs= [x,y,z]/\w.cell? (a.add 0)=some x/\w.cell? (a.add 1)=some y/\w.cell? (a.add 2)=some z:=by
 unfold World.cells? at h;split at h
 ·simp only[List.range_succ,List.range_zero,List.nil_append,List.cons_append,List.mapM_cons,List.mapM_nil,Option.bind_eq_bind,Option.bind_eq_some_iff,Option.pure_def,mD]at h;obtain⟨x,hx,l1,⟨y,hy,l2,⟨z,hz,l3,rfl,rfl⟩,rfl⟩,rfl⟩:=h;exact⟨x,y,z,rfl,hx,hy,hz⟩
 ·cases h
theorem Oj {H:Type} {l:List (DataW H)} {d:DataW H}(h:d∈l):Rows.uptoBulk d<=Rows.uptoBulkAll l:=by
 induction l with
 |nil=>cases h
 |cons a l ih=>
  rw[Rows.uptoBulkAll];rcases oK.1 h with h|h
  ·subst h;omega
  ·have:=ih h;omega
theorem aG {H:Type} {l:List (DataW H)} {d:DataW H}(h:Rows.uptoSmall H l=true) (hm:d∈l):Rows.uptoBulk d<=1048576:=
 lg (Oj hm) (lh h)
theorem Vx {H:Type}(d:DataW H):1<=Rows.uptoBulk d:=by
 cases d with
 |lit l=>cases l<;>(simp only[Rows.uptoBulk];omega)
 |_=>simp only[Rows.uptoBulk];omega
theorem VA {H:Type}(l:List (DataW H)):l.length<=Rows.uptoBulkAll l:=by
 induction l with
 |nil=>exact lM _
 |cons a l ih=>
  have:=Vx a;rw[Rows.uptoBulkAll,nF];omega
theorem bD {α:Type} {P:Nat->α->Prop}(n:Nat) (h:∀i,i<n->∃x,P i x):∃xs:List α,xs.length=n/\∀i x,xs[i]? =some x->P i x:=by
 induction n with
 |zero=>exact⟨[],rfl,fun i x hx=>by simp at hx⟩
 |succ n ih=>
  obtain⟨xs,hl,hx⟩:=ih fun i hi=>h i (by omega);obtain⟨x,hp⟩:=h n (by omega);refine⟨xs++ [x],by simp[hl],fun i y hy=> ?_⟩;rcases ls i xs.length with h1|h1
  ·rw[pY h1]at hy;exact hx i y hy
  ·rw[oL h1]at hy;obtain⟨h2,h3⟩:=mC.1 hy;have h4:i=n:=by simp at h2;omega
   subst h4;simp only[List.getElem_singleton]at h3;subst h3;exact hp
theorem dc:Tryz.prog.cellsOf 9=1:=by kernel_rfl
theorem Yd:Tryz.prog.cellsOf 3=1:=by kernel_rfl
theorem ZX:Tryz.prog.cellsOf 61=3:=by kernel_rfl
theorem WK {H:Type} {enc:TypeId×Value->H} {W:World} {base b0:Nat} {r:Reach} {sp:Nat->Bool} {held:Bool} {v:Value} {d:DataW H} {p:List MemPlace}(hv:Value.okWide prog W r b0 22 v) (h:DataW.Trod enc prog W base sp held 22 v d p) (hk:Rows.uptoBulk d<=1048576):
  ∃(la:Option Addr) (lc g o:Nat) (xs:Be),v= .slice la xs.length lc/\(xs≠ []->la=some ⟨g,o,none⟩)/\Lg W g o xs/\xs.length<=1048576:=by
 obtain⟨a,len,cap,rfl⟩:=okWide_slice underlying22 hv;obtain⟨fuel,hf⟩:=h;rcases DataW.trod_slice underlying22 hf with⟨hc,hx⟩|⟨a',len',vt,elems,rest,n,_,hc,hx,hb,hl,hm,hlen,wJ,_,_⟩
 ·simp[Value.cells]at hc;obtain⟨rfl,rfl,rfl⟩:=hc;exact⟨none,0,0,0,[],rfl,fun h=>absurd rfl h,⟨fun i x hx=>by simp at hx,fun i x hx=>by simp at hx,fun h=>absurd rfl h⟩,by simp⟩
 ·simp[Value.cells]at hc;obtain⟨rfl,rfl,rfl⟩:=hc;simp only[nQ]at hx;obtain⟨rfl,-⟩:=hx;simp only[Rows.uptoBulk]at hk;obtain⟨xs,uT,yl⟩:=bD (P:=fun i (x:Bs×DH)=>W.cell? (a'.add (i*3))=some (.string (bs x.1))/\W.cell? ((a'.add (i*3)).add 1)=some (.int .i64 x.2.ty)/\W.cell? ((a'.add (i*3)).add 2)=some (.int .i64 x.2.pr)/\x.1.length<=1000000000) len fun i hi=>by
   have hE:=wJ i hi;rw[ZX]at hE;have qN:i<elems.length:=by omega
   rw[lu qN,Option.bind_eq_some_iff]at hE;obtain⟨c1,uQ,hy⟩:=hE;obtain⟨x,y,z,rfl,h0,h1,h2⟩:=dB uQ;obtain⟨y0,y1,y2,n2,hy2,_,t0,t1,t2⟩:=trod_struct3 underlying61 hy;simp only[dc,Yd,nI,nZ,nL,ny]at t0 t1 t2;obtain⟨s,e0,rfl,_⟩:=DataW.trod_string mS t0;obtain⟨n0,e1,rfl,_⟩:=DataW.trod_int nU t1;obtain⟨n1,e2,rfl,_⟩:=DataW.trod_int nU t2;simp only[List.cons.injEq,pZ]at e0 e1 e2;subst e0 e1 e2;refine⟨(s.data.toList,⟨n0,n1⟩),h0,h1,h2,?_⟩;have qw:(elems[i]'qN).1∈elems.map (·.1):=List.mem_map.2 ⟨_,List.getElem_mem qN,rfl⟩;have ql:=Oj qw;rw[hy2]at ql;simp only[Rows.uptoBulk,Rows.uptoBulkAll]at ql;show s.data.toList.length<=_;omega
  have vB:xs.length<=1048576:=by
   have:=VA (elems.map (·.1));rw[nN]at this;omega
  have AAH:∀{b:Addr} {v:Value},W.cell? b=some v->b.spot=none/\b.block<W.heap.size:=by
   intro b v hc;unfold World.cell? at hc;split at hc
   ·rename_i _ _ _ hb;split at hc
    ·cases hc
    ·rename_i hs;exact⟨by simpa using hs,(lN.1 hb).1⟩
   ·cases hc
  have qP:xs≠ []->a'.spot=none/\a'.block<W.heap.size:=fun hn=>by
   cases e:xs with
   |nil=>exact absurd e hn
   |cons x l=>
    have:=AAH (yl 0 x (by rw[e];rfl)).1;exact this
  refine⟨some a',cap,a'.block,a'.off,xs,by rw[uT],fun hn=> ?_,⟨fun i x hx j v hv=> ?_,fun i x hx=>(yl i x hx).2.2.2,fun hn=>(qP hn).2⟩,vB⟩
  ·have:=(qP hn).1;obtain⟨b,o,sp⟩:=a';simp only at this;subst this;rfl
  ·have hh:=yl i x hx;have hs:=(qP (by rintro rfl;simp at hx)).1;have hA:∀k,(⟨a'.block,a'.off+i*3+k,none⟩:Addr)=(a'.add (i*3)).add k:=fun k=>by
    obtain⟨b,o,sp⟩:=a';simp only at hs;subst hs;unfold Addr.add;split<;>split<;>simp_all
   match j,hv with
   |0,hv=>
    simp[D9]at hv;subst hv;rw[hA];exact hh.1
   |1,hv=>
    simp[D9]at hv;subst hv;rw[hA];exact hh.2.1
   |2,hv=>
    simp[D9]at hv;subst hv;rw[hA];exact hh.2.2.1
   |k+3,hv=>simp[D9]at hv
end Go.Proofs
