import Derived.Test.YtpocgkiamgipdaaGreatDoorSdN
import Derived.Test.YtpocgkiamgipdaaGreatDoorCards
import Derived.Deep.Strs
import Derived.WideShapes
import Derived.ChangeArms
set_option maxRecDepth 1000000
set_option maxHeartbeats 0
set_option linter.unusedVariables false
set_option linter.unusedSimpArgs false
open Go.Proofs.Tryz
namespace Go.Proofs
open Go.RowKit Go.Bg Go.Hb Go.Lx Go.Rb Go.Pf Go.Pz Go.Ps
theorem cD (i j k:Nat) (w:World):(Instr.buildSlice 29 3 #[(0,.agg (BI i)),(1,.agg (BI j)),(2,.agg (BI k))]).run prog w= .ok (.slice (some ⟨w.heap.size,0,none⟩) 3 3) (w.alloc (.cells (BI i++BI j++BI k) 31)):=by kernel_rfl
theorem QT {ops:Array Oper} {rest:List Oper} {o:Oper} {a:Act} {w:World} {Q:Exit->Act->World->Prop}(hgd:o.guard=none) (x y z:Operand) (ho:o.op= .buildSlice 29 3 #[(0,x),(1,y),(2,z)]) (i j k:Nat) (hx:a.eval x= .agg (BI i)) (hy:a.eval y= .agg (BI j)) (hz:a.eval z= .agg (BI k)) (h:wpList prog ops Q rest (a.put o.dst (.slice (some ⟨w.heap.size,0,none⟩) 3 3)) (w.alloc (.cells (BI i++BI j++BI k) 31))):wpList prog ops Q (o::rest) a w:=
 wpList_plain hgd fun _ hK=>by
  unfold Oper.wp;have hr:(execOp a.eval o).run prog w= .ok (.value (.slice (some ⟨w.heap.size,0,none⟩) 3 3)) (w.alloc (.cells (BI i++BI j++BI k) 31)):=by
   simp[execOp,ho,hx,hy,hz,cD,Result.andThen]
  rw[hr];exact hK _ _ h
theorem Uj {W:World} {S:Nat->Prop} {c:Array Value}(h:AT W S c.toList Ym):∃b off cap,c= #[.int .i64 5,.string (bs [61]),.string ⟨#[]⟩,.int .u64 0,.int .i64 0,.slice (some ⟨b,off,none⟩) 2 cap]:=by
 obtain⟨c⟩:=c;change AT W S c Ym at h;cases h with
 |cmp s l b off cap cs hb hc h=>exact⟨b,off,cap,rfl⟩
theorem Kd {ops:Array Oper} {rest:List Oper} {o:Oper} {a:Act} {w:World} {Q:Exit->Act->World->Prop}(hgd:o.guard=none) (v:Value) (w':World) (hr:(execOp a.eval o).run prog w= .ok (.value v) w') (h:wpList prog ops Q rest (a.put o.dst v) w'):wpList prog ops Q (o::rest) a w:=
 wpList_plain hgd fun _ hK=>by
  unfold Oper.wp;rw[hr];exact hK _ _ h
theorem AV {w W:World}(hb:Below w.heap.size w W){b o:Nat} {v:Value}(h:w.cell? ⟨b,o,none⟩=some v):W.cell? ⟨b,o,none⟩=some v:=by
 have qE:b<w.heap.size:=by
  unfold World.cell? at h;split at h
  ·rename_i _ _ _ hk;exact(lN.1 hk).1
  ·cases h
 rw[AO (hb.block b qE)];exact h
theorem Th {W:World} {S:Nat->Prop} {g1 g2:Nat}(h1:W.heap[g1]? =some (.cells (BI 1++BI 2++BI 0) 31)) (h2:W.heap[g2]? =some (.cells (BI 0++ #[.int .i64 5,.string (bs [102]),.string ⟨#[]⟩,.int .u64 0,.int .i64 0,.slice (some ⟨g1,0,none⟩) 3 3]) 31)) (s1:S g1) (s2:S g2):
  AT W S (#[.int .i64 5,.string (bs [61]),.string ⟨#[]⟩,.int .u64 0,.int .i64 0,.slice (some ⟨g2,0,none⟩) 2 2]:Array Value).toList Ym:=by
 have uQ:∀j,j<(((BI 1).toList++((BI 2).toList++((BI 0).toList++ []))):List Value).length->W.cell? ⟨g1,0+j,none⟩=((BI 1).toList++((BI 2).toList++((BI 0).toList++ [])))[j]? :=fun j hj=>by
  rw[me,mT W g1 j _ 31 (0,0) h1,<-mV];rfl
 have uB:∀j,j<(((BI 0).toList++([.int .i64 5,.string (bs [102]),.string ⟨#[]⟩,.int .u64 0,.int .i64 0,.slice (some ⟨g1,0,none⟩) 3 3]++ [])):List Value).length->W.cell? ⟨g2,0+j,none⟩=((BI 0).toList++([.int .i64 5,.string (bs [102]),.string ⟨#[]⟩,.int .u64 0,.int .i64 0,.slice (some ⟨g1,0,none⟩) 3 3]++ []))[j]? :=fun j hj=>by
  rw[me,mT W g2 j _ 31 (0,0) h2,<-mV];rfl
 exact .cmp [61] [.var 0,.cmp [102] [.var 1,.var 2,.var 0]] g2 0 2 ((BI 0).toList++([.int .i64 5,.string (bs [102]),.string ⟨#[]⟩,.int .u64 0,.int .i64 0,.slice (some ⟨g1,0,none⟩) 3 3]++ [])) s2 uB (.cons _ _ _ _ (.var 0) (.cons _ _ _ _ (.cmp [102] [.var 1,.var 2,.var 0] g1 0 3 ((BI 1).toList++((BI 2).toList++((BI 0).toList++ []))) s1 uQ (.cons _ _ _ _ (.var 1) (.cons _ _ _ _ (.var 2) (.cons _ _ _ _ (.var 0) .nil)))) .nil))
theorem WA {W:World} {S:Nat->Prop} {c d:Array Value}(hS:∀b,S b->b<W.heap.size) (h:AT W S c.toList Ym) (h':AT W S d.toList Ym):Calls prog 15 #[.agg c,.agg d] W fun e w'=>e= .returned (.bool true)/\Below W.heap.size W w':=by
 refine WV (P:=fun t=>t=Ym\/t= .cmp [102] [.var 1,.var 2,.var 0]\/∃n,t= .var n) ?_ ?_ _ Ym (lM _) (.inl rfl) c d S W hS h h'
 ·rintro t (rfl|rfl|⟨n,rfl⟩) x hx
  ·simp only[Ym,AJ,oK,List.not_mem_nil,or_false]at hx;rcases hx with rfl|rfl
   ·exact .inr (.inr ⟨_,rfl⟩)
   ·exact .inr (.inl rfl)
  ·simp only[AJ,oK,List.not_mem_nil,or_false]at hx;rcases hx with rfl|rfl|rfl<;>exact .inr (.inr ⟨_,rfl⟩)
  ·simp only[AJ,List.not_mem_nil]at hx
 ·rintro t (rfl|rfl|⟨n,rfl⟩)
  ·decide
  ·decide
  ·exact mK _
theorem gR {w:World}(hL:DK w):Calls prog 5 #[] w fun e w'=>e= .returned (.bool true)/\Below w.heap.size w w':=by
 have C13:=lK (ca w (MG hL));have HM:=lK hL;have CR:Hid (∀(W:World) (s:ByteArray) (L:List Tk),Below w.heap.size w W->s.size<=100->Dh W w.heap.size (w.heap.size+1) (w.heap.size+2) (w.heap.size+3) Jn->Ct s 0 L none->Calls prog 7 #[.string s,.int .i64 0,.pointer (some ⟨w.heap.size,0,none⟩),.agg #[.int .i64 0]] W (Ce s W (Sw Jn 0 F3 0 L none))):=lK (fun W s L hb hs hT hK=>Xu (at_:=0) (by omega) (mK _) (by decide) (HM.o.below hb) hT Xg hK);clear hL;go_enter func5,ntmps5
 go_wp2_with (go_at_call 13;(with_reducible refine C13.o.mono ?_);rintro e W1 ⟨rfl,sE,ql⟩)
 have zX:=lK sE.at;have vE:=lK ql;clear sE ql C13
 go_wp2_with (go_at_call 7;(refine(CR.o _ tA kA vE.o (by decide) zX.o aq).mono ?_))
 intro e W2 h2;rw[Yw]at h2;unfold Ce at h2;obtain⟨b2,c,nv,sv,rfl,htm,yT,vv⟩:=h2;obtain⟨tb,xk,xS,rfl⟩:=Uj htm;obtain⟨na,nc,rfl⟩:=Ap yT;obtain⟨sa,sc,rfl⟩:=Ap vv;have TM:=lK htm;have SV:=lK vv;have B2:=lK (vE.o.trans (b2.mono vE.o.size));have wO:=lK (zX.o.below b2);clear htm yT vv b2;have EA:Ug #[.int .i64 5,.string (bs [61]),.string ⟨#[]⟩,.int .u64 0,.int .i64 0,.slice (some ⟨tb,xk,none⟩) 2 xS] (.slice na jX.names.length nc) (.slice sa (Aw jX.names jX.times).length sc) 15= #[.int .i64 5,.string (bs [61]),.string ⟨#[]⟩,.int .u64 0,.int .i64 0,.slice (some ⟨tb,xk,none⟩) 2 xS,.slice na 2 nc,.slice sa 1 sc,.int .i64 15,.bool false]:=by kernel_rfl
 rw[EA];clear EA
 go_upto_region 5 with fail
 generalize yx:World.alloc W2 _=X2;have uz:Hid (X2.heap[W2.heap.size]? =some (.cells #[.int .i64 5,.string (bs [61]),.string ⟨#[]⟩,.int .u64 0,.int .i64 0,.slice (some ⟨tb,xk,none⟩) 2 xS,.slice na 2 nc,.slice sa 1 sc,.int .i64 15,.bool false] 35)):=lK (by rw[<-yx];exact lT W2 _);have wC:Hid (Below W2.heap.size W2 X2):=lK (by rw[<-yx];exact Bzz _);have wZ:Hid (Below w.heap.size w X2):=lK (B2.o.trans (wC.o.mono B2.o.size));have ve:=lK (wO.o.below wC.o);clear yx
 go_wp2_with (go_at_call 7;(refine(CR.o _ tB kO wZ.o (by decide) ve.o ZD).mono ?_))
 intro e W3 h3;rw[ZB]at h3;unfold Ce at h3;obtain⟨b3,eb,rfl,uj,yI,ql⟩:=h3;have EB:=lK (And.intro uj (And.intro yI ql));have B3:=lK b3;have yc:Hid (Below w.heap.size w W3):=lK (wZ.o.trans (b3.mono wZ.o.size));have HT4:=lK (ve.o.below b3);clear b3 uj yI ql;have ES:Ch (DE tB 2)= #[.int .i64 0,.string ⟨#[]⟩,.string ⟨#[]⟩,.int .u64 0,.int .i64 0,.slice none 0 0,.slice none 0 0,.slice none 0 0,.int .i64 4,.bool false]:=by kernel_rfl
 rw[ES];clear ES
 go_upto_region 6 with fail
 have BX4:Hid (∀o,Below w.heap.size w (W3.alloc o)):=lK (fun o=>yc.o.trans ((Bzz o).mono yc.o.size));generalize hX3:World.alloc W3 _=X3;have BX3:Hid (Below W3.heap.size W3 X3):=lK (by rw[<-hX3];exact Bzz _);clear hX3 BX4;have HB5:Hid (Below w.heap.size w X3):=lK (yc.o.trans (BX3.o.mono yc.o.size));have HT5:=lK (HT4.o.below BX3.o)
 go_wp2_with (go_at_call 7;(refine(CR.o _ tC kQ HB5.o (by decide) HT5.o aA).mono ?_))
 intro e W5 h5;rw[aU]at h5;unfold Ce at h5;obtain⟨b5,rfl⟩:=h5;have B5:=lK b5;have uf:Hid (Below w.heap.size w W5):=lK (HB5.o.trans (b5.mono HB5.o.size));clear b5;have EE:Jp 4= #[.int .i64 0,.string ⟨#[]⟩,.string ⟨#[]⟩,.int .u64 0,.int .i64 0,.slice none 0 0,.slice none 0 0,.slice none 0 0,.int .i64 4,.bool true]:=by kernel_rfl
 rw[EE];clear EE
 go_upto_region 7 with fail
 generalize hX6:World.alloc W5 _=X6;have HX6:Hid (X6.heap[W5.heap.size]? =some (.cells #[.int .i64 0,.string ⟨#[]⟩,.string ⟨#[]⟩,.int .u64 0,.int .i64 0,.slice none 0 0,.slice none 0 0,.slice none 0 0,.int .i64 4,.bool true] 35)):=lK (by rw[<-hX6];exact lT W5 _);have BX6:Hid (Below W5.heap.size W5 X6):=lK (by rw[<-hX6];exact Bzz _);clear hX6
 have K3:Hid (Below W3.heap.size W3 X6):=lK (BX3.o.trans (B5.o.trans (BX6.o.mono B5.o.size)|>.mono BX3.o.size));have K2:Hid (Below X2.heap.size X2 X6):=lK (B3.o.trans (K3.o.mono B3.o.size));have HB7:Hid (Below w.heap.size w X6):=lK (yc.o.trans (K3.o.mono yc.o.size));have C12:=lK (fc (w:=X6) (b:=eb) (YV 0) ((K3.o.block eb (lN.1 EB.o.2.1).1).trans EB.o.2.1) ((K3.o.block (eb+1) (lN.1 EB.o.2.2).1).trans EB.o.2.2))
 go_wp2_with (go_at_call 12;(with_reducible refine C12.o.mono ?_);rintro e W7 ⟨rfl,b7⟩)
 have B7:Hid (Below X6.heap.size X6 W7):=lK b7;clear b7 C12;have V0:Hid (∀W,Calls prog 14 #[.int .i64 0] W fun e w'=>e= .returned (.agg (BI 0))/\Below W.heap.size W w'):=lK (fun W=>VP 0 W);have V1:Hid (∀W,Calls prog 14 #[.int .i64 1] W fun e w'=>e= .returned (.agg (BI 1))/\Below W.heap.size W w'):=lK (fun W=>VP 1 W);have V2:Hid (∀W,Calls prog 14 #[.int .i64 2] W fun e w'=>e= .returned (.agg (BI 2))/\Below W.heap.size W w'):=lK (fun W=>VP 2 W)
 go_upto_region 9 with fail
 have BB:Hid (Below X6.heap.size X6 W7):=B7;have V0':=V0
 go_wp2_with (first
  | (go_at_call 14;first
    | ((with_reducible refine(V0.o _).mono ?_);clear V0;rintro e W8 ⟨rfl,b8⟩;have BB:=lK (BB.o.trans (b8.mono BB.o.size));clear b8)
    | ((with_reducible refine(V1.o _).mono ?_);rintro e W8 ⟨rfl,b8⟩;have BB:=lK (BB.o.trans (b8.mono BB.o.size));clear b8)
    | ((with_reducible refine(V2.o _).mono ?_);rintro e W8 ⟨rfl,b8⟩;have BB:=lK (BB.o.trans (b8.mono BB.o.size));clear b8;clear V1 V2)))
 refine(V0'.o _).mono ?_;rintro e W8 ⟨rfl,b8⟩;have BB:=lK (BB.o.trans (b8.mono BB.o.size));clear b8;dsimp only;rename_i hK;refine hK _ _ ?_;refine QT rfl (.tmp 42) (.tmp 44) (.tmp 46) rfl 1 2 0 rfl rfl rfl ?_;generalize hWa:World.alloc W8 _=Wa;have HA:Hid (Wa.heap[W8.heap.size]? =some (.cells (BI 1++BI 2++BI 0) 31)):=lK (by rw[<-hWa];exact lT W8 _);have BA:Hid (Below W8.heap.size W8 Wa):=lK (by rw[<-hWa];exact Bzz _);clear hWa;refine Kd rfl (.agg #[.int .i64 5,.string (bs [102]),.string ⟨#[]⟩,.int .u64 0,.int .i64 0,.slice (some ⟨W8.heap.size,0,none⟩) 3 3]) Wa (by kernel_rfl) ?_;refine Qk rfl (.tmp 40) (.tmp 48) rfl (BI 0) #[.int .i64 5,.string (bs [102]),.string ⟨#[]⟩,.int .u64 0,.int .i64 0,.slice (some ⟨W8.heap.size,0,none⟩) 3 3] rfl rfl rfl rfl ?_;generalize hWb:World.alloc Wa _=Wb;have HB:Hid (Wb.heap[Wa.heap.size]? =some (.cells (BI 0++ #[.int .i64 5,.string (bs [102]),.string ⟨#[]⟩,.int .u64 0,.int .i64 0,.slice (some ⟨W8.heap.size,0,none⟩) 3 3]) 31)):=lK (by rw[<-hWb];exact lT Wa _);have BA2:Hid (Below Wa.heap.size Wa Wb):=lK (by rw[<-hWb];exact Bzz _);clear hWb;refine Kd rfl (.agg #[.int .i64 5,.string (bs [61]),.string ⟨#[]⟩,.int .u64 0,.int .i64 0,.slice (some ⟨Wa.heap.size,0,none⟩) 2 2]) Wb (by kernel_rfl) ?_
 go_upto_region 10 with fail
 generalize hWc:World.alloc Wb _=Wc;have BC:Hid (Below Wb.heap.size Wb Wc):=lK (by rw[<-hWc];exact Bzz _);have qm:Wc.heap[Wb.heap.size]? =some (.cells #[.int .i64 5,.string (bs [61]),.string ⟨#[]⟩,.int .u64 0,.int .i64 0,.slice (some ⟨Wa.heap.size,0,none⟩) 2 2] 31):=by rw[<-hWc];exact lT Wb _
 clear hWc;have B9:Hid (Below Wa.heap.size Wa Wc):=lK (BA2.o.trans (BC.o.mono BA2.o.size));have B10:Hid (Below W8.heap.size W8 Wc):=lK (BA.o.trans (B9.o.mono BA.o.size));have B11:Hid (Below X6.heap.size X6 Wc):=lK (BB.o.trans (B10.o.mono BB.o.size));have B12:Hid (Below X2.heap.size X2 Wc):=lK (K2.o.trans (B11.o.mono K2.o.size));have B13:Hid (Below W2.heap.size W2 Wc):=lK (wC.o.trans (B12.o.mono wC.o.size));have HB14:Hid (Below w.heap.size w Wc):=lK (HB7.o.trans (B11.o.mono HB7.o.size));have qR:Wc.heap[W2.heap.size]? =some (.cells #[.int .i64 5,.string (bs [61]),.string ⟨#[]⟩,.int .u64 0,.int .i64 0,.slice (some ⟨tb,xk,none⟩) 2 xS,.slice na 2 nc,.slice sa 1 sc,.int .i64 15,.bool false] 35):=
  (B12.o.block _ (lN.1 uz.o).1).trans uz.o
 have hd6:Wc.heap[W5.heap.size]? =some (.cells #[.int .i64 0,.string ⟨#[]⟩,.string ⟨#[]⟩,.int .u64 0,.int .i64 0,.slice none 0 0,.slice none 0 0,.slice none 0 0,.int .i64 4,.bool true] 35):=
  (B11.o.block _ (lN.1 HX6.o).1).trans HX6.o
 have C15:Hid (Calls prog 15 #[.agg #[.int .i64 5,.string (bs [61]),.string ⟨#[]⟩,.int .u64 0,.int .i64 0,.slice (some ⟨tb,xk,none⟩) 2 xS],.agg #[.int .i64 5,.string (bs [61]),.string ⟨#[]⟩,.int .u64 0,.int .i64 0,.slice (some ⟨Wa.heap.size,0,none⟩) 2 2]] Wc fun e w'=>e= .returned (.bool true)/\Below Wc.heap.size Wc w'):=lK (by
  refine WA (S:=fun b=>b<Wc.heap.size) (fun _ h=>h) (AT.Ak (fun b hb=>B13.o.block b hb.2) (fun b hb=>lR hb.2 B13.o.size) TM.o) (Th ((B9.o.block _ (lN.1 HA.o).1).trans HA.o) ((BC.o.block _ (lN.1 HB.o).1).trans HB.o) ?_ ?_)
  ·exact lR (lN.1 HA.o).1 B9.o.size
  ·exact lR (lN.1 HB.o).1 BC.o.size)
 have q0:=mT Wc W2.heap.size 0 _ 35 (0,0) qR;have q1:=mT Wc W2.heap.size 1 _ 35 (0,0) qR;have q2:=mT Wc W2.heap.size 2 _ 35 (0,0) qR;have q3:=mT Wc W2.heap.size 3 _ 35 (0,0) qR;have q4:=mT Wc W2.heap.size 4 _ 35 (0,0) qR;have q5:=mT Wc W2.heap.size 5 _ 35 (0,0) qR;have q6:=mT Wc W2.heap.size 6 _ 35 (0,0) qR;have q7:=mT Wc W2.heap.size 7 _ 35 (0,0) qR;have q8:=mT Wc W2.heap.size 8 _ 35 (0,0) qR;have q9:=mT Wc W2.heap.size 9 _ 35 (0,0) qR;have r0:=mT Wc Wb.heap.size 0 _ 31 (0,0) qm;have r1:=mT Wc Wb.heap.size 1 _ 31 (0,0) qm;have r2:=mT Wc Wb.heap.size 2 _ 31 (0,0) qm;have r3:=mT Wc Wb.heap.size 3 _ 31 (0,0) qm;have r4:=mT Wc Wb.heap.size 4 _ 31 (0,0) qm;have r5:=mT Wc Wb.heap.size 5 _ 31 (0,0) qm;have uA:=lK qR;have HD6:=lK hd6;clear qm qR hd6;simp only[oJ,nX,List.getElem?_cons_succ]at q0 q1 q2 q3 q4 q5 q6 q7 q8 q9 r0 r1 r2 r3 r4 r5;clear TM uz HX6 HA HB K2 K3 EB wC BX3 BX6 B3 B5 BA BA2 BC B9 B10 B12 wZ yc HB5 uf zX wO ve HT4 HT5 CR BB B11 B7 B2 vE;have B14:Hid (Below W2.heap.size W2 Wc):=B13
 go_upto_region 11 with(go_at_call 15;(with_reducible refine C15.o.mono ?_);rintro e Wd ⟨rfl,b15⟩)
 have SV1:W2.ownsRow W1.heap.size 9 1 (.slice sa 1 sc) 1 [.string (bs [89])]:=SV.o;obtain⟨g,cap,hv,_,_⟩:=SV1.form (by decide);have se:sa=some ⟨g,0,none⟩:=by
  simp only[mX]at hv;exact hv.1
 subst se;have B15:Hid (Below W2.heap.size W2 Wd):=lK (B14.o.trans (b15.mono B14.o.size));have HB15:Hid (Below w.heap.size w Wd):=lK (HB14.o.trans (b15.mono HB14.o.size));have y0:Wd.cell? ⟨g,0,none⟩=some (.string (bs [89])):=AV B15.o (World.ownsRow.cellAt SV1 0 (by decide));have d6:=AV b15 q6;have d7:=AV b15 q7;have d8:=AV b15 q8;have e8:Wd.cell? ⟨W5.heap.size,8,none⟩=some (.int .i64 4):=AV b15 (mT Wc W5.heap.size 8 _ 35 (0,0) HD6.o);have e9:Wd.cell? ⟨W5.heap.size,9,none⟩=some (.bool true):=AV b15 (mT Wc W5.heap.size 9 _ 35 (0,0) HD6.o);have hy:(bs [89]).toList= [89]:=by kernel_rfl
 have hw:(YV 0).toList= [117,110,101,120,112,101,99,116,101,100,95,116,111,107,101,110]:=by kernel_rfl
 have CS:Hid (∀W,Calls prog 16 #[.string ⟨#[97,46,98,46,32,99]⟩,.int .i64 0] W (H8 4 W)):=lK (fun W=>cZ ⟨#[97,46,98,46,32,99]⟩ 0 W (by decide));clear q0 q1 q2 q3 q4 q5 q6 q7 q8 q9 r0 r1 r2 r3 r4 r5 SV SV1 hv b15 uA HD6 B14 B13 C15 HB14 HB7
 go_wp2_with (go_at_call 16;(with_reducible refine(CS.o _).mono ?_);rintro e We ⟨rfl,rfl⟩)
 refine lS (v:= .bool true) ?_ rfl ⟨rfl,HB15.o⟩;simp only[results,results5];go_simp
end Go.Proofs
namespace Go.Pz
open Go.Proofs Go.RowKit Go.Bg Go.Hb Go.Lx Go.Rb Go.Pf Go.Ps
mutual
theorem Hj:∀(t:Tm) (k:Nat),k<=Dx t k
 | .var _,k=>mO k
 | .atom _,k=>mO k
 | .int _,k=>mO k
 | .Hs _,k=>mO k
 | .cmp _ l,k=>lg (mO k) (Gg l (k+1))
theorem Gg:∀(l:List Tm) (k:Nat),k<=El l k
 | [],k=>lM k
 |x::l,k=>by
  simp only[El];split
  ·exact lM k
  ·exact lg (Hj x k) (Gg l _)
end
mutual
theorem Oa:∀(t:Tm) (k:Nat) (out:List Nat),Dx t k<=4000->(vars t out).length+k<=out.length+Dx t k
 | .var n,k,out,h=>by
  simp only[vars,E8,Dx];split
  ·omega
  ·rw[l6,List.length_singleton];omega
 | .atom _,k,out,h=>by simp only[vars,Dx];omega
 | .int _,k,out,h=>by simp only[vars,Dx];omega
 | .Hs _,k,out,h=>by simp only[vars,Dx];omega
 | .cmp _ l,k,out,h=>by
  simp only[vars,Dx]at h⊢;have:=Mi l (k+1) out h;omega
theorem Mi:∀(l:List Tm) (k:Nat) (out:List Nat),El l k<=4000->(Ck l out).length+k<=out.length+El l k
 | [],k,out,h=>by simp only[Ck,El];omega
 |x::l,k,out,h=>by
  simp only[Ck,El]at h⊢;split at h
  ·omega
  ·rename_i hk;rw[lL hk];have h1:=Gg l (Dx x k);have h2:=Oa x k out (by omega);have h3:=Mi l (Dx x k) (vars x out) h;omega
end
theorem PA:∀(l:List Nat) (lo v:Nat),l.Pairwise (· < ·)->(∀x∈l,lo<=x/\x<v)->l.length+lo<=max v lo
 | [],lo,v,_,_=>by simp only[pf];omega
 |x::l,lo,v,hp,h=>by
  have h0:=h x List.mem_cons_self;have hc:=List.pairwise_cons.1 hp;have:=PA l (x+1) v hc.2 fun y hy=>⟨hc.1 y hy,(h y (List.mem_cons_of_mem _ hy)).2⟩;rw[nF];omega
theorem Sm {t:Tm}(h:F3 t=0):Dx t 0<=4000:=by
 unfold F3 GR at h;split at h
 ·cases h
 ·omega
theorem JS.jh {s:ByteArray} {t:Tm} {st:RS} {n:Nat}(h:JS s t st n):st.vars<=4000:=by
 have h1:=Oa t 0 [] (Sm h.F7);have h2:=Sm h.F7;rw[h.vars,List.length_range]at h1;simp only[pf]at h1;omega
theorem JS.jm {s:ByteArray} {t:Tm} {st:RS} {n:Nat}(h:JS s t st n):st.names.length<=st.vars:=by
 have h1:=PA (st.names.map (·.2)) 0 st.vars h.ok.Tj fun x hx=>by
  obtain⟨y,hy,rfl⟩:=List.mem_map.1 hx;exact⟨mK _,h.ok.lt y hy⟩
 rw[nN]at h1;omega
theorem RS.Ok.at {st:RS}(h:st.Ok){i:Nat} {x:Bs×Nat}(hx:st.names[i]? =some x):x.1≠ [95]/\x.2<st.vars/\(∀(j:Nat) (y:Bs×Nat),j<i->st.names[j]? =some y->y.2<x.2/\y.1≠x.1):=by
 have hm:=mP hx;refine⟨h.anon x hm,h.lt x hm,fun j y hj hy=> ?_⟩;obtain⟨hi,ex⟩:=mC.1 hx;obtain⟨vY,ey⟩:=mC.1 hy;have h1:=List.pairwise_iff_getElem.1 h.Tj j i (by simpa using vY) (by simpa using hi) hj;have h2:=List.pairwise_iff_getElem.1 h.once j i (by simpa using vY) (by simpa using hi) hj;simp only[List.getElem_map,ex,ey]at h1 h2;exact⟨h1,h2⟩
theorem YK {s:ByteArray} {a:Nat}(h:0<s.size):0<DE s a:=by
 have key:∀(n a:Nat),s.size-a<=n->0<DE s a:=by
  intro n
  induction n with
  |zero=>intro a ha;rw[Kq (by omega)];exact h
  |succ n ih=>
   intro a ha;rcases ls a s.size with h1|h1
   ·cases he:Ir s a with
    |true=>rw[Ki h1 he];omega
    |false=>rw[Np h1 he];exact ih (a+1) (by omega)
   ·rw[Kq h1];exact h
 exact key _ a (lM _)
end Go.Pz
namespace Go.Proofs
open Go.RowKit Go.Hb Go.Pz Go.WideShapes Go.Deep Go.Proofs.YtpocgkiamgipdaaGreatDoor
theorem dB {w:World} {base:Nat} {a:Addr} {cs:List Value}(h:w.cells? base a 3=some cs):∃x y z,cs= [x,y,z]/\w.cell? (a.add 0)=some x/\w.cell? (a.add 1)=some y/\w.cell? (a.add 2)=some z:=by
 unfold World.cells? at h;split at h
 ·simp only[List.range_succ,List.range_zero,List.nil_append,List.cons_append,List.mapM_cons,List.mapM_nil,Option.bind_eq_bind,Option.bind_eq_some_iff,Option.pure_def,mD]at h;obtain⟨x,hx,l1,⟨y,hy,l2,⟨z,hz,l3,rfl,rfl⟩,rfl⟩,rfl⟩:=h;exact⟨x,y,z,rfl,hx,hy,hz⟩
 ·cases h
theorem Oj {H:Type} {l:List (DataW H)} {d:DataW H}(h:d∈l):Rows.uptoBulk d<=Rows.uptoBulkAll l:=by
 induction l with
 |nil=>cases h
 |cons a l ih=>
  rw[Rows.uptoBulkAll];rcases oK.1 h with h|h
  ·subst h;omega
  ·have:=ih h;omega
theorem aG {H:Type} {l:List (DataW H)} {d:DataW H}(h:Rows.uptoSmall H l=true) (hm:d∈l):Rows.uptoBulk d<=1048576:=
 lg (Oj hm) (lh h)
theorem Vx {H:Type}(d:DataW H):1<=Rows.uptoBulk d:=by
 cases d with
 |lit l=>cases l<;>(simp only[Rows.uptoBulk];omega)
 |_=>simp only[Rows.uptoBulk];omega
theorem VA {H:Type}(l:List (DataW H)):l.length<=Rows.uptoBulkAll l:=by
 induction l with
 |nil=>exact lM _
 |cons a l ih=>
  have:=Vx a;rw[Rows.uptoBulkAll,nF];omega
theorem bD {α:Type} {P:Nat->α->Prop}(n:Nat) (h:∀i,i<n->∃x,P i x):∃xs:List α,xs.length=n/\∀i x,xs[i]? =some x->P i x:=by
 induction n with
 |zero=>exact⟨[],rfl,fun i x hx=>by simp at hx⟩
 |succ n ih=>
  obtain⟨xs,hl,hx⟩:=ih fun i hi=>h i (by omega);obtain⟨x,hp⟩:=h n (by omega);refine⟨xs++ [x],by simp[hl],fun i y hy=> ?_⟩;rcases ls i xs.length with h1|h1
  ·rw[pY h1]at hy;exact hx i y hy
  ·rw[oL h1]at hy;obtain⟨h2,h3⟩:=mC.1 hy;have h4:i=n:=by simp at h2;omega
   subst h4;simp only[List.getElem_singleton]at h3;subst h3;exact hp
theorem dc:Tryz.prog.cellsOf 9=1:=by kernel_rfl
theorem Yd:Tryz.prog.cellsOf 3=1:=by kernel_rfl
theorem ZX:Tryz.prog.cellsOf 61=3:=by kernel_rfl
theorem WK {H:Type} {enc:TypeId×Value->H} {W:World} {base b0:Nat} {r:Reach} {sp:Nat->Bool} {held:Bool} {v:Value} {d:DataW H} {p:List MemPlace}(hv:Value.okWide prog W r b0 22 v) (h:DataW.Trod enc prog W base sp held 22 v d p) (hk:Rows.uptoBulk d<=1048576):
  ∃(la:Option Addr) (lc g o:Nat) (xs:Be),v= .slice la xs.length lc/\(xs≠ []->la=some ⟨g,o,none⟩)/\Lg W g o xs/\xs.length<=1048576:=by
 obtain⟨a,len,cap,rfl⟩:=okWide_slice underlying22 hv;obtain⟨fuel,hf⟩:=h;rcases DataW.trod_slice underlying22 hf with⟨hc,hx⟩|⟨a',len',vt,elems,rest,n,_,hc,hx,hb,hl,hm,hlen,wJ,_,_⟩
 ·simp[Value.cells]at hc;obtain⟨rfl,rfl,rfl⟩:=hc;exact⟨none,0,0,0,[],rfl,fun h=>absurd rfl h,⟨fun i x hx=>by simp at hx,fun i x hx=>by simp at hx,fun h=>absurd rfl h⟩,by simp⟩
 ·simp[Value.cells]at hc;obtain⟨rfl,rfl,rfl⟩:=hc;simp only[nQ]at hx;obtain⟨rfl,-⟩:=hx;simp only[Rows.uptoBulk]at hk;obtain⟨xs,uT,yl⟩:=bD (P:=fun i (x:Bs×DH)=>W.cell? (a'.add (i*3))=some (.string (bs x.1))/\W.cell? ((a'.add (i*3)).add 1)=some (.int .i64 x.2.ty)/\W.cell? ((a'.add (i*3)).add 2)=some (.int .i64 x.2.pr)/\x.1.length<=1000000000) len fun i hi=>by
   have hE:=wJ i hi;rw[ZX]at hE;have qN:i<elems.length:=by omega
   rw[lu qN,Option.bind_eq_some_iff]at hE;obtain⟨c1,uQ,hy⟩:=hE;obtain⟨x,y,z,rfl,h0,h1,h2⟩:=dB uQ;obtain⟨y0,y1,y2,n2,hy2,_,t0,t1,t2⟩:=trod_struct3 underlying61 hy;simp only[dc,Yd,nI,nZ,nL,ny]at t0 t1 t2;obtain⟨s,e0,rfl,_⟩:=DataW.trod_string mS t0;obtain⟨n0,e1,rfl,_⟩:=DataW.trod_int nU t1;obtain⟨n1,e2,rfl,_⟩:=DataW.trod_int nU t2;simp only[List.cons.injEq,pZ]at e0 e1 e2;subst e0 e1 e2;refine⟨(s.data.toList,⟨n0,n1⟩),h0,h1,h2,?_⟩;have qw:(elems[i]'qN).1∈elems.map (·.1):=List.mem_map.2 ⟨_,List.getElem_mem qN,rfl⟩;have ql:=Oj qw;rw[hy2]at ql;simp only[Rows.uptoBulk,Rows.uptoBulkAll]at ql;show s.data.toList.length<=_;omega
  have vB:xs.length<=1048576:=by
   have:=VA (elems.map (·.1));rw[nN]at this;omega
  have AAH:∀{b:Addr} {v:Value},W.cell? b=some v->b.spot=none/\b.block<W.heap.size:=by
   intro b v hc;unfold World.cell? at hc;split at hc
   ·rename_i _ _ _ hb;split at hc
    ·cases hc
    ·rename_i hs;exact⟨by simpa using hs,(lN.1 hb).1⟩
   ·cases hc
  have qP:xs≠ []->a'.spot=none/\a'.block<W.heap.size:=fun hn=>by
   cases e:xs with
   |nil=>exact absurd e hn
   |cons x l=>
    have:=AAH (yl 0 x (by rw[e];rfl)).1;exact this
  refine⟨some a',cap,a'.block,a'.off,xs,by rw[uT],fun hn=> ?_,⟨fun i x hx j v hv=> ?_,fun i x hx=>(yl i x hx).2.2.2,fun hn=>(qP hn).2⟩,vB⟩
  ·have:=(qP hn).1;obtain⟨b,o,sp⟩:=a';simp only at this;subst this;rfl
  ·have hh:=yl i x hx;have hs:=(qP (by rintro rfl;simp at hx)).1;have hA:∀k,(⟨a'.block,a'.off+i*3+k,none⟩:Addr)=(a'.add (i*3)).add k:=fun k=>by
    obtain⟨b,o,sp⟩:=a';simp only at hs;subst hs;unfold Addr.add;split<;>split<;>simp_all
   match j,hv with
   |0,hv=>
    simp[D9]at hv;subst hv;rw[hA];exact hh.1
   |1,hv=>
    simp[D9]at hv;subst hv;rw[hA];exact hh.2.1
   |2,hv=>
    simp[D9]at hv;subst hv;rw[hA];exact hh.2.2.1
   |k+3,hv=>simp[D9]at hv
end Go.Proofs
namespace Go.Proofs.YtpocgkiamgipdaaGreatDoor.Ab
open Go Go.RowKit Go.WideShapes Go.ChangeShapes
theorem Xj {a b:Nat}(h:Nat.blt a b=true):a<b:=n7 h
section
variable {H:Type} {enc:TypeId×Value->H} {P:Program}
theorem Qw {f:Func} {s:ChangeSpec} {apart fresh handsOn again:Bool} {W W':World} {args:Array Value} {v:Value} {ds gs:List (DataW H)} {before pa pv:List MemPlace}
 (hW:DataW.Whole enc P f.params.toList s.vars apart W args.toList ds gs before)
 (sV:∀(b:Nat) (sp:Nat->Bool) (hd:Bool),DataW.TrodAll enc P W' b sp hd f.resultTypes.toList (v.resultList f.resultTypes.size) (s.fn H (ds++gs)).results [])
 (hargs:∀sp:Nat->Bool,(∀p∈before,sp p.block=true)->DataW.TrodAll enc P W' 0 sp true f.params.toList args.toList (s.fn H (ds++gs)).args pa)
 (hvars:∀sp:Nat->Bool,(∀p∈before,sp p.block=true)->DataW.TrodVars enc P W' sp s.vars (s.fn H (ds++gs)).vars pv)
 (tN:before=pa++pv) (hb:Below W.heap.size W W')
 (vJ:∀(j:Nat) (t:TypeId) (r:Value),f.resultTypes[j]? =some t->(v.resultList f.resultTypes.size)[j]? =some r->Value.okWide P W' .any 0 t r):
 s.post enc P f apart fresh handsOn again W args v W':=by
 have qE:∀p∈before,p.block<W.heap.size:=fun p hp=>hW.lt p hp;have hold:∀p∈before,(fun b=>decide (b<W.heap.size)) p.block=true:=fun p hp=>by simpa using qE p hp
 refine⟨ds,gs,before,[],pa,pv,hW,sV _ _ _,hargs _ hold,hvars _ hold,World.keptBut_mono (fun p hp=>⟨hp,?_⟩) (hb.frame (· ∈before)),fun _=> ?_⟩
 ·rw[tN,List.mem_append]at hp;exact Or.inr hp
 ·obtain⟨_,_,_,_,_,hz,hn⟩:=hW;refine⟨vJ,_,_,([]++pa)++pv,⟨[]++pa,pv,trodAll_append (hargs _ (fun _ _=>rfl)) (sV _ _ _),hvars _ (fun _ _=>rfl),rfl,?_,?_⟩,?_⟩
  ·intro b off hp;have zA:MemPlace.cell b off∈before:=by rw[tN];simpa using hp
   rw[hb.frozen (qE _ zA)];exact hz b off zA
  ·intro ha;have:=hn ha;rw[tN]at this;simpa using this
  ·intro p hp _;rw[tN];simpa using hp
theorem G5 {T:TypeId->Prop}(K:Kids P T) (rH:∀{t e:TypeId},T t->P.underlying t=some (.slice e)->0<P.cellsOf e){W W':World} {sp:Nat->Bool} :
 ∀{ts:List TypeId} {vs:List Value} {ds:List (DataW H)} {p:List MemPlace},DataW.TrodAll enc P W 0 (fun _=>true) true ts vs ds p->(∀t∈ts,T t)->(∀q∈p,W.sameAt W' q)->(∀q∈p,sp q.block=true)->DataW.TrodAll enc P W' 0 sp true ts vs ds p
 | [],[],[],p,h,_,_,_=>h
 |t::ts,v::vs,d::ds,p,h,ht,hs,hsp=>by
  obtain⟨p1,q1,⟨fuel,h1⟩,h2,rfl⟩:=h;refine⟨p1,q1,⟨fuel,?_⟩,G5 K rH h2 (fun t h=>ht t (.tail _ h)) (fun q hq=>hs q (List.mem_append_right _ hq)) (fun q hq=>hsp q (List.mem_append_right _ hq)),rfl⟩;exact DataW.trod_stays K rH (fun h=>by cases h) (ht t (.head _)) h1 (fun q hq=>hs q (List.mem_append_left _ hq)) (fun q hq=>hsp q (List.mem_append_left _ hq))
 | [],[],_::_,_,h,_,_,_=>h.elim
 | [],_::_,[],_,h,_,_,_=>h.elim
 | [],_::_,_::_,_,h,_,_,_=>h.elim
 |_::_,[],[],_,h,_,_,_=>h.elim
 |_::_,[],_::_,_,h,_,_,_=>h.elim
 |_::_,_::_,[],_,h,_,_,_=>h.elim
end
def Nh (P:Program):Bool:=laidOutB P&&mapsRowed P&&(List.range P.types.size).all fun t=>match P.underlying t with
 |some (.slice e)=>Nat.blt 0 (P.cellsOf e)
 |_=>true
theorem NU {P:Program} {l:List (String×DataW Unit)} {w:World}(h0:(l.filter fun x=>x.2.handleName?.isSome).isEmpty=true) (h:laidMetH P l w):laidMet P l w:=by
 unfold laidMetH at h;split at h
 ·exact h
 ·rename_i h1;rw[h1]at h0;cases h0
structure Rl (s:ChangeSpec) (k:Nat):Prop where
 vars:s.vars= []
 fn:∀(H:Type) (ds:List (DataW H)),ds.length=k->s.fn H ds= {results:= [.lit (.bool true)],args:=ds}
theorem GQ {H:Type} {enc:TypeId×Value->H} {P:Program} {w:World} {base:Nat} {sp:Nat->Bool} {held:Bool} :∀{ts:List TypeId} {vs:List Value} {ds:List (DataW H)} {p:List MemPlace},DataW.TrodAll enc P w base sp held ts vs ds p->ds.length=ts.length
 | [],[],[],_,_=>rfl
 |_::_,_::_,_::_,_,⟨_,_,_,h,_⟩=>by simp[GQ h]
 | [],[],_::_,_,h=>h.elim
 | [],_::_,[],_,h=>h.elim
 | [],_::_,_::_,_,h=>h.elim
 |_::_,[],[],_,h=>h.elim
 |_::_,[],_::_,_,h=>h.elim
 |_::_,_::_,[],_,h=>h.elim
theorem V9 {H:Type} {enc:TypeId×Value->H} {P:Program} {fn:Func} {s:ChangeSpec}(hs:Rl s fn.params.size){tb:TypeId}(htb:fn.resultTypes= #[tb]) (hub:P.underlying tb=some .bool) (hK:Nh P=true) (hp:∀t∈fn.params.toList,t<P.types.size)
 {W W':World} {args:Array Value} {ds gs:List (DataW H)} {before:List MemPlace}(hW:DataW.Whole enc P fn.params.toList s.vars false W args.toList ds gs before) (hb:Below W.heap.size W W'):
 s.post enc P fn false true false false W args (.bool true) W':=by
 have hW':=hW;obtain⟨p,q,hA,hV,hpq,_,_⟩:=hW';rw[hs.vars]at hV;obtain⟨hgs,hq⟩:=trodVars_none hV;unfold Nh at hK;simp only[mJ]at hK;obtain⟨⟨k1,k2⟩,k3⟩:=hK;have K:=kids_rows k1 k2;have rH:∀{t e:TypeId},t<P.types.size->P.underlying t=some (.slice e)->0<P.cellsOf e:=fun {t e} h1 h2=>by
  have:=nS.1 k3 t (pX.2 h1);rw[h2]at this;exact Xj this
 have hl:=GQ hA;have hbp:before=p:=by rw[hpq,hq,nj]
 have hfn:s.fn H (ds++gs)= {results:= [.lit (.bool true)],args:=ds} :=by rw[hgs,nj];exact hs.fn H ds (by simpa using hl)
 refine Qw (pa:=p) (pv:= []) hW (fun b sp hd=> ?_) (fun sp hsp=> ?_) (fun sp _=> ?_) (by rw[hbp,nj]) hb (ok_one htb rfl (okWide_bool_mk hub _))
 ·rw[hfn,htb];exact trodAll_cons_mk (shut_bool hub _) trodAll_mk0
 ·rw[hfn];exact G5 K rH hA hp (fun x hx=>hb.same (hW.lt x (by rw[hbp];exact hx))) (fun x hx=>hsp x (by rw[hbp];exact hx))
 ·rw[hfn,hs.vars];rfl
theorem lN {H:Type} {enc:TypeId×Value->H} {C:Checked} {os:Os} {f:FuncId} {fn:Func} {s:OpenSpec} {conds:List PathCond} {apart:Bool} {laid:List (String×DataW Unit)}(w0:World) (args:Array Value) (hos:w0.os=os)
 (hsh:(w0.forCall (fun _ _=>0) ⟨#[],args,[]⟩).Shaped C.prog) (vJ:Input.okWideB C.prog (w0.forCall (fun _ _=>0) ⟨#[],args,[]⟩) f ⟨#[],args,[]⟩=true)
 (qK:s.preRow enc C.prog fn conds apart laid (w0.forCall (fun _ _=>0) ⟨#[],args,[]⟩).memory args):
 ∃(w:World) (tape:Tape) (i:Input),w.os=os/\(w.forCall tape i).Shaped C.prog/\i.vars= []/\Input.okWide C.prog (w.forCall tape i) .any w.heap.size f i/\
  s.preRow enc C.prog fn conds apart laid (w.forCall tape i).memory i.args/\({} :Assume).holds C.prog (lone (Frame.enter C.prog f i.args .normal) [] (w.forCall tape i)):=
 ⟨w0,fun _ _=>0,⟨#[],args,[]⟩,hos,hsh,(Input.okWide_of_okWideB (base:=0) vJ).1,(Input.okWide_of_okWideB vJ).2,qK,by
  simp only[Assume.holds];exact⟨by simp,by simp,fun _=>Modest.zero,by simp,by simp⟩⟩
end Go.Proofs.YtpocgkiamgipdaaGreatDoor.Ab
namespace Go.Lx
open Go.Hb Go.Rb Go.Bg Go.Pf Go.Proofs
def cv (c:Int):Prop:=c=0\/(9<=c/\c<=13)\/c=32\/c=37
structure Sm (A B:ByteArray) (m:Nat):Prop where
 sa:m<=A.size
 sb:m<=B.size
 bt:∀p,p<m->AI B p=AI A p
 x:cv (AI A m)\/AI A m=47
 y:cv (AI B m)
 xe:m=A.size\/JO (AI A m).toNat=true\/AI A m=37\/AI A m=47
 ye:m=B.size\/JO (AI B m).toNat=true\/AI B m=37
 ext:∀f t,t<=m->B.extract f t=A.extract f t
variable {A B:ByteArray} {m:Nat}
def TR.le (m:Nat):TR->Prop
 | .ok _ _ _ _ _ en=>en<=m
 | .err _ _=>False
def TR.en:TR->Nat
 | .ok _ _ _ _ _ en=>en
 | .err _ _=>0
def Qf (q:Nat->Bool):Prop:=∀c:Int,cv c\/c=47->q c.toNat=false
def Qy (q:Nat->Bool):Prop:=∀c:Int,cv c->q c.toNat=false
theorem ABO {c:Int}(h:cv c):c=0\/c=9\/c=10\/c=11\/c=12\/c=13\/c=32\/c=37:=by unfold cv at h;omega
theorem Qy.of {q:Nat->Bool}(h:q 0=false/\q 9=false/\q 10=false/\q 11=false/\q 12=false/\q 13=false/\q 32=false/\q 37=false):Qy q:=by
 intro c hc;obtain⟨h0,h1,h2,h3,h4,h5,h6,h7⟩:=h;rcases ABO hc with rfl|rfl|rfl|rfl|rfl|rfl|rfl|rfl<;>assumption
theorem Qf.of {q:Nat->Bool}(h:q 0=false/\q 9=false/\q 10=false/\q 11=false/\q 12=false/\q 13=false/\q 32=false/\q 37=false) (h8:q 47=false):Qf q:=by
 intro c hc;rcases hc with hc|rfl
 ·exact Qy.of h c hc
 ·exact h8
theorem Qf.y {q:Nat->Bool}(h:Qf q):Qy q:=fun c hc=>h c (.inl hc)
theorem H5:Qf AQ:=Qf.of (by decide) rfl
theorem AA4:Qf FE:=Qf.of (by decide) rfl
theorem AA3:Qf Fh:=Qf.of (by decide) rfl
theorem AAn:Qf Cr:=Qf.of (by decide) rfl
theorem AAk:Qf A9:=Qf.of (by decide) rfl
theorem ACB:Qy Ez:=Qy.of (by refine⟨?_,?_,?_,?_,?_,?_,?_,?_⟩<;>rfl)
theorem Sm.at (h:Sm A B m){p:Nat}(hp:p<=m):AI B p=AI A p\/(p=m/\cv (AI B p)/\(cv (AI A p)\/AI A p=47)):=by
 rcases ls p m with h1|h1
 ·exact .inl (h.bt p h1)
 ·have e:p=m:=by omega
  subst e;exact .inr ⟨rfl,h.y,h.x⟩
theorem Sm.eq (h:Sm A B m){p:Nat}(hp:p<=m){c:Int}(h0:¬(cv c\/c=47)):(AI B p=c)=(AI A p=c):=by
 rw[eq_iff_iff];rcases h.at hp with h2|⟨_,h2,h3⟩
 ·rw[h2]
 ·constructor
  ·rintro rfl;exact absurd (.inl h2) h0
  ·rintro rfl;exact absurd h3 h0
theorem Sm.lt (h:Sm A B m){p:Nat}(hp:p<=m){c:Int}(h0:¬(cv c\/c=47)) (h1:AI A p=c):p<m:=by
 rcases ls p m with h2|h2
 ·exact h2
 ·have e:p=m:=by omega
  have hx:=h.x;rw[<-e,h1]at hx;exact absurd hx h0
theorem Sm.prd (h:Sm A B m){q:Nat->Bool}(hq:Qf q){p:Nat}(hp:p<=m):q (AI B p).toNat=q (AI A p).toNat:=by
 rcases h.at hp with h2|⟨_,h2,h3⟩
 ·rw[h2]
 ·rw[hq _ (.inl h2),hq _ h3]
theorem ABA (h:Sm A B m){q:Nat->Bool}(hy:Qy q):∀k f:Nat,m-f=k->f<=m->AF q A f<=m->AF q B f=AF q A f:=by
 intro k
 induction k with
 |zero=>
  intro f h2 h3 h4;have e:f=m:=by omega
  subst e;have h5:AF q A f=f:=Nat.le_antisymm h4 (BN q A f);rw[h5];rcases ls f B.size with h6|h6
  ·refine Cu h6 ?_;have h7:=hy _ h.y;rw[AP B _ h6]at h7;simpa using h7
  ·exact Bl h6
 |succ k ih=>
  intro f h2 h3 h4;have h8:=h.sa;have h9:=h.sb;have hf:f<A.size:=by omega
  have hj:f<B.size:=by omega
  have h5:=h.bt f (by omega);rw[AP B _ hj,AP A _ hf]at h5;have h6:B[f].toNat=A[f].toNat:=by omega
  cases hq:q A[f].toNat with
  |true=>
   rw[Bb hf hq]at h4⊢;rw[Bb hj (by rw[h6];exact hq)];exact ih (f+1) (by omega) (by omega) h4
  |false=>rw[Cu hf hq,Cu hj (by rw[h6];exact hq)]
theorem AB9 (h:Sm A B m){q:Nat->Bool}(hq:Qf q):∀k f:Nat,m-f=k->f<=m->AF q A f<=m:=by
 intro k
 induction k with
 |zero=>
  intro f h2 h3;have e:f=m:=by omega
  subst e;rcases ls f A.size with h6|h6
  ·have h7:=hq _ h.x;rw[AP A _ h6]at h7;rw[Cu h6 (by simpa using h7)];exact lM _
  ·rw[Bl h6];exact lM _
 |succ k ih=>
  intro f h2 h3;have h8:=h.sa;have hf:f<A.size:=by omega
  cases hc:q A[f].toNat with
  |true=>rw[Bb hf hc];exact ih (f+1) (by omega) (by omega)
  |false=>rw[Cu hf hc];exact h3
theorem Sm.rle (h:Sm A B m){q:Nat->Bool}(hq:Qf q){f:Nat}(hf:f<=m):AF q A f<=m:=AB9 h hq _ f rfl hf
theorem Sm.row (h:Sm A B m){q:Nat->Bool}(hq:Qf q){f:Nat}(hf:f<=m):AF q B f=AF q A f:=ABA h hq.y _ f rfl hf (h.rle hq hf)
theorem AAh (h:Sm A B m) (r f:Nat):∀k,f+k<=m->Fx r B f k=Fx r A f k
 |0,_=>rfl
 |k+1,hk=>by rw[Fx,Fx,AAh h r f k (by omega),h.bt (f+k) (by omega)]
theorem ABH (h:Sm A B m){r:Nat} {p:Nat->Bool}(hq:Qf p){f:Nat}(hf:f<=m){y:Nat×Nat}(hy:I7 r p A f=some y) (hm:y.2<=m):I7 r p B f=some y:=by
 unfold I7 at hy⊢;rw[h.row hq hf];have h1:=h.rle hq hf;by_cases hc:AF p A f=f\/AI A (AF p A f)≠92
 ·rw[lQ hc]at hy;cases hy
 ·rw[lL hc]at hy;have h2:=BN p A f;have h4:¬(AF p A f=f\/AI B (AF p A f)≠92):=by
   intro h5;refine hc (h5.imp id (fun h6 h7=>h6 ?_));rw[h.eq h1 (by unfold cv;omega)];exact h7
  rw[lL h4,AAh h r f _ (by omega)];exact hy
theorem ABB (h:Sm A B m){p:Nat}(hp:p+1<=m){y:Nat×Nat}(hy:FQ A p=some y) (hm:y.2<=m):FQ B p=some y:=by
 have h8:=h.sa;have h9:=h.sb;have hgt:=(Hy (v:=y.1) (t:=y.2) hy).1;have h1:p+1<m:=by omega
 unfold FQ at hy⊢;rw[lQ (show p+1<A.size by omega)]at hy;rw[lQ (show p+1<B.size by omega),h.bt _ h1];cases he:Ls (AI A (p+1)).toNat with
 |some v=>rw[he]at hy;exact hy
 |none=>
  rw[he]at hy;simp only at hy⊢;split
  ·rename_i h2;rw[lQ h2]at hy;exact ABH h AAk (by omega) hy hm
  ·rename_i h2;rw[lL h2]at hy;exact ABH h AAn (by omega) hy hm
theorem ACA (h:Sm A B m){p:Nat} {v:Int} {n:Nat}(hc:D4 A p v n) (hm:p+n<=m):D4 B p v n:=by
 have h9:=h.sb;unfold D4 cont at hc⊢;have b0:=h.bt p;have b1:=h.bt (p+1);have b2:=h.bt (p+2);have b3:=h.bt (p+3);rcases hc with⟨h1,h2,h3,h4⟩|hc|hc|hc
 ·have e0:=b0 (by omega);exact .inl ⟨h1,by omega,by omega,by omega⟩
 ·have e0:=b0 (by omega);have e1:=b1 (by omega);rw[e0,e1];exact .inr (.inl hc)
 ·have e0:=b0 (by omega);have e1:=b1 (by omega);have e2:=b2 (by omega);rw[e0,e1,e2];exact .inr (.inr (.inl hc))
 ·have e0:=b0 (by omega);have e1:=b1 (by omega);have e2:=b2 (by omega);have e3:=b3 (by omega);rw[e0,e1,e2,e3];exact .inr (.inr (.inr hc))
theorem ABQ (h:Sm A B m){p v n:Nat}(hc:FO A p=some (v,n)) (hm:p+n<=m):FO B p=some (v,n):=by
 rcases Iu A p with⟨v',m',h1,h2⟩|⟨_,h2⟩
 ·rw[h2]at hc;cases hc;exact LC (ACA h h1 hm)
 ·rw[h2]at hc;cases hc
theorem AA9 {s:ByteArray} {p v n:Nat}(hc:FO s p=some (v,n)):1<=n:=by
 rcases Iu s p with⟨v',m',h1,h2⟩|⟨_,h2⟩
 ·rw[h2]at hc;cases hc;have:=h1.size.2.1;omega
 ·rw[h2]at hc;cases hc
theorem X8 {α:Type _} {c d:Prop} {i1:Decidable c} {i2:Decidable d}(h:c↔d){A B A' B':α}(hA:d->A=A') (hB:¬d->B=B'):(@ite α c i1 A B)=(@ite α d i2 A' B'):=by
 by_cases hd:d
 ·rw[lQ hd,lQ (h.2 hd)];exact hA hd
 ·rw[lL hd,lL (fun hc=>hd (h.1 hc))];exact hB hd
theorem ABq (h:Sm A B m){p:Nat}(hp:p<m) (hz:AI A p=48->AI A (p+1)=39->p+2<m) (hf:∀R,De A p=some R->R.le m):De B p=De A p:=by
 have h8:=h.sa;have h9:=h.sb;unfold De at hf⊢;rw[h.bt p hp];by_cases h0:AI A p≠48
 ·rw[lQ (.inl h0),lQ (.inl h0)]
 by_cases h1:AI A (p+1)≠39
 ·have h1J:AI B (p+1)≠39:=by
   have e:=h.eq (show p+1<=m by omega) (c:=39) (by unfold cv;omega);exact fun k=>h1 (e▸k)
  rw[lQ (.inr (.inl h1J)),lQ (.inr (.inl h1))]
 have h2:=hz (Classical.not_not.1 h0) (Classical.not_not.1 h1);have e2:=h.bt (p+2) h2;rw[h.bt (p+1) (by omega),e2];by_cases h3:AI A (p+2)=10
 ·rw[lQ (.inr (.inr (.inr h3))),lQ (.inr (.inr (.inr h3)))]
 have na:¬(AI A p≠48\/AI A (p+1)≠39\/A.size<=p+2\/AI A (p+2)=10):=by omega
 have nJ:¬(AI A p≠48\/AI A (p+1)≠39\/B.size<=p+2\/AI A (p+2)=10):=by omega
 rw[lL na]at hf;rw[lL nJ,lL na];by_cases h4:AI A (p+2)=39
 ·rw[lQ h4,lQ h4];exact X8 (iff_of_eq (h.eq (show p+3<=m by omega) (by unfold cv;omega))) (fun _=>rfl) (fun _=>rfl)
 rw[lL h4]at hf;rw[lL h4,lL h4];by_cases h5:AI A (p+2)=92
 ·rw[lQ h5]at hf;rw[lQ h5,lQ h5];cases he:FQ A (p+2)with
  |none=>rw[he]at hf;exact absurd (hf _ rfl) (fun k=>k)
  |some y=>rw[he]at hf;rw[ABB h (by omega) he (hf _ rfl)]
 ·rw[lL h5]at hf;rw[lL h5,lL h5];cases he:FO A (p+2)with
  |none=>rw[he]at hf;exact absurd (hf _ rfl) (fun k=>k)
  |some y=>rw[he]at hf;rw[ABQ h he (hf _ rfl)]
theorem AAT (h:Sm A B m){f t r p:Nat}(ht:t<=m):Cy B p f t r=Cy A p f t r:=by
 unfold Cy;rw[h.ext f t ht]
theorem ABD (h:Sm A B m){p q t:Nat} {x:Int}(hq:q<m):Hr B p q x t=Hr A p q x t:=by
 have h1:=h.rle H5 (show q+1<=m by omega);have e:IS B p q=IS A p q:=by
  unfold IS;rw[h.row H5 (show q+1<=m by omega),h.ext _ _ (by omega),h.ext _ _ h1]
 unfold Hr;rw[e,h.row H5 (show q+1<=m by omega)]
theorem AAm (h:Sm A B m){e:Nat}(he:e<m):Ht B e=Ht A e:=by
 unfold Ht;exact X8 (by rw[h.eq (show e+1<=m by omega) (by unfold cv;omega),h.eq (show e+1<=m by omega) (by unfold cv;omega)]) (fun _=>rfl) (fun _=>rfl)
theorem AAZ (h:Sm A B m){e:Nat}(he:e<m):Ht A e<=m:=by
 unfold Ht;split
 ·rename_i h1;rcases h1 with h1|h1
  ·have:=h.lt (show e+1<=m by omega) (by unfold cv;omega) h1;omega
  ·have:=h.lt (show e+1<=m by omega) (by unfold cv;omega) h1;omega
 ·omega
theorem AB1 (h:Sm A B m){e:Nat}(he:e<=m) (hI:Gs A e):e<m:=by
 rcases hI.1 with h4|h4
 ·exact h.lt he (by unfold cv;omega) h4
 ·exact h.lt he (by unfold cv;omega) h4
theorem ABE (h:Sm A B m){e:Nat}(he:e<=m):Gs B e=Gs A e:=by
 rcases ls e m with h1|h1
 ·unfold Gs;rw[h.eq he (by unfold cv;omega),h.eq he (by unfold cv;omega),AAm h h1,h.row H5 (AAZ h h1)]
 ·have e:e=m:=by omega
  subst e;rw[eq_iff_iff];have hx:=h.x;have hy:=h.y;unfold cv at hx hy;exact⟨fun h3=>by have:=h3.1;omega,fun h3=>by have:=h3.1;omega⟩
theorem ABu (h:Sm A B m){e:Nat}(he:e<m):iG B e=iG A e:=by
 have h1:=AAZ h he;have h2:=h.rle H5 h1;have h3:=BN AQ A (Ht A e);unfold iG;rw[AAm h he,h.row H5 h1,AAh h _ _ _ (by omega)];congr 1;exact X8 (iff_of_eq (h.eq (show e+1<=m by omega) (by unfold cv;omega))) (fun _=>rfl) (fun _=>rfl)
theorem ABp (h:Sm A B m){p q:Nat}(hq:q<m):Ek B p q=Ek A p q:=by
 have h1:q+1<=m:=by omega
 have h2:=h.rle H5 h1;unfold Ek;rw[h.row H5 h1];by_cases hI:Gs A (AF AQ A (q+1))
 ·have h3:=AB1 h h2 hI;rw[lQ hI,lQ (by rw[ABE h h2];exact hI),AAm h h3,h.row H5 (AAZ h h3),ABu h h3,ABD h hq]
 ·rw[lL hI,lL (by rw[ABE h h2];exact hI),ABD h hq]
theorem AA1 (h:Sm A B m){p:Nat}(hp:p<m){c:Int}(hc:¬(cv c\/c=47)){q:Nat->Bool}(hq:Qf q):(AI B p=48/\AI B (p+1)=c/\p+2<AF q B (p+2))↔(AI A p=48/\AI A (p+1)=c/\p+2<AF q A (p+2)):=by
 rw[h.bt p hp,h.eq (show p+1<=m by omega) hc];constructor
 ·rintro⟨h1,h2,h3⟩;have:=h.lt (show p+1<=m by omega) hc h2;rw[h.row hq (by omega)]at h3;exact⟨h1,h2,h3⟩
 ·rintro⟨h1,h2,h3⟩;have:=h.lt (show p+1<=m by omega) hc h2;rw[<-h.row hq (by omega)]at h3;exact⟨h1,h2,h3⟩
theorem AB3 (h:Sm A B m){p:Nat}(hp:p<m) (hz:AI A p=48->AI A (p+1)=39->p+2<m) (hf:(GL A p).le m):GL B p=GL A p:=by
 have hchr:De B p=De A p:=ABq h hp hz (fun R hR=>by unfold GL at hf;rw[hR]at hf;exact hf);unfold GL;rw[hchr];cases De A p with
 |some R=>rfl
 |none=>
  simp only;have l2:∀{c:Int},¬(cv c\/c=47)->AI A (p+1)=c->p+2<=m:=fun hc h1=>by
   have:=h.lt (show p+1<=m by omega) hc h1;omega
  have hd:=h.rle H5 (show p<=m by omega);refine X8 (AA1 h hp (by unfold cv;omega) AA3) (fun hc=> ?_) (fun _=>X8 (AA1 h hp (by unfold cv;omega) AAn) (fun hc=> ?_) (fun _=>X8 (AA1 h hp (by unfold cv;omega) AAk) (fun hc=> ?_) (fun _=> ?_)))
  ·have:=l2 (by unfold cv;omega) hc.2.1;rw[h.row AA3 this,AAT h (h.rle AA3 this)]
  ·have:=l2 (by unfold cv;omega) hc.2.1;rw[h.row AAn this,AAT h (h.rle AAn this)]
  ·have:=l2 (by unfold cv;omega) hc.2.1;rw[h.row AAk this,AAT h (h.rle AAk this)]
  ·rw[h.row H5 (show p<=m by omega)];refine X8 ?_ (fun hc=>ABp h (h.lt hd (by unfold cv;omega) hc.1)) (fun _=>AAT h hd);rw[h.eq hd (by unfold cv;omega)];constructor
   ·rintro⟨h2,h3⟩;have h4:=h.lt hd (by unfold cv;omega) h2;exact⟨h2,by rw[<-h.prd H5 (show AF AQ A p+1<=m by omega)];exact h3⟩
   ·rintro⟨h2,h3⟩;have h4:=h.lt hd (by unfold cv;omega) h2;exact⟨h2,by rw[h.prd H5 (show AF AQ A p+1<=m by omega)];exact h3⟩
theorem Sm.quote (h:Sm A B m){p:Nat}(hp:p<m) (hf:(GL A p).le m) (hn:(GL A p).en=p+1->AI A (p+1)=39->p+2<m):AI A p=48->AI A (p+1)=39->p+2<m:=by
 intro h0 h1;have l1:p+1<m:=h.lt (show p+1<=m by omega) (by unfold cv;omega) h1;rcases ls (p+2) m with h2|h2
 ·exact h2
 ·have e:p+2=m:=by omega
  refine hn ?_ h1;have h8:=h.sa;have hx:=h.x;rw[<-e]at hx;unfold GL at hf⊢;cases hc:De A p with
  |some R=>
   rw[hc]at hf;simp only at hf⊢;exfalso;unfold De at hc;by_cases h3:AI A p≠48\/AI A (p+1)≠39\/A.size<=p+2\/AI A (p+2)=10
   ·rw[lQ h3]at hc;cases hc
   ·rw[lL h3,lL (by unfold cv at hx;omega),lL (by unfold cv at hx;omega)]at hc;cases hd:FO A (p+2)with
    |none=>rw[hd]at hc;injection hc with hc;subst hc;exact hf
    |some y=>
     rw[hd]at hc;injection hc with hc
     subst hc;have:=AA9 (v:=y.1) (n:=y.2) hd;have hf:p+2+y.2<=m:=hf;omega
  |none=>
   simp only;have hr:AF AQ A p=p+1:=by
    have k0:p<A.size:=by omega
    have k1:p+1<A.size:=by omega
    rw[AP A _ k0]at h0;rw[AP A _ k1]at h1;rw[Bb k0 (by rw[show A[p].toNat=48 by omega];rfl),Cu k1 (by rw[show A[p+1].toNat=39 by omega];rfl)]
   rw[hc]at hf;simp only at hf;rw[lL (by omega),lL (by omega),lL (by omega),hr,lL (by omega)]at hf⊢;unfold Cy at hf⊢;split at hf
   ·rename_i h5;rw[lQ h5];rfl
   ·exact absurd hf (fun k=>k)
end Go.Lx
namespace Go.Lx
open Go.Hb Go.Rb Go.Bg Go.Pf Go.Proofs
variable {A B:ByteArray} {m:Nat}
theorem AAN {s:ByteArray} {a q:Nat} :∀(f p:Nat) (out:List UInt8),(Gv s a q f p out).le m->p+1<=m
 |0,_,_,hf=>absurd hf (fun k=>k)
 |f+1,p,out,hf=>by
  rw[Gv]at hf;cases hc:Dd s a q p out with
  |inr x=>
   obtain⟨p',out'⟩:=x;rw[hc]at hf;have h1:=AAN f p' out' hf;have h2:=(Ib hc).1;omega
  |inl R=>
   rw[hc]at hf;simp only at hf;unfold Dd at hc;split at hc
   ·injection hc with hc;subst hc;exact absurd hf (fun k=>k)
   ·split at hc
    ·injection hc with hc;subst hc;exact absurd hf (fun k=>k)
    ·split at hc
     ·injection hc with hc;subst hc;exact absurd hf (fun k=>k)
     ·split at hc
      ·split at hc
       ·cases hc
       ·split at hc
        ·injection hc with hc;subst hc;exact absurd hf (fun k=>k)
        ·injection hc with hc;subst hc;exact hf
      ·split at hc
       ·split at hc
        ·cases hc
        ·split at hc
         ·injection hc with hc;subst hc;exact absurd hf (fun k=>k)
         ·cases hc
       ·cases hc
def QLe (m:Nat):TR⊕(Nat×List UInt8)->Prop
 | .inl R=>R.le m
 | .inr x=>x.1+1<=m
theorem ABx (h:Sm A B m){k q p:Nat} {out:List UInt8}(hq:¬(cv q\/(q:Int)=47)) (xH:q<128) (hp:p<m) (hf:QLe m (Dd A k q p out)):Dd B k q p out=Dd A k q p out:=by
 have h8:=h.sa;have h9:=h.sb;unfold Dd at hf⊢;rw[lL (show¬A.size<=p by omega)]at hf;rw[lL (show¬B.size<=p by omega),lL (show¬A.size<=p by omega)];cases hc:FO A p with
 |none=>rw[hc]at hf;exact absurd hf (fun k=>k)
 |some y=>
  obtain⟨v,n⟩:=y;have tQ:=AA9 hc;rw[hc]at hf;simp only at hf;have hB:p+n<=m->FO B p=some (v,n):=ABQ h hc;have hone:v<128->n=1:=fun hv=>by
   rcases Iu A p with⟨v',m',h1,h2⟩|⟨_,h2⟩
   ·rw[h2]at hc;cases hc;unfold D4 at h1;rcases h1 with h1|h1|h1|h1
    ·omega
    ·have:=h1.2.2.2.2.1;omega
    ·have:=h1.2.2.2.2.2.1;omega
    ·have:=h1.2.2.2.2.2.2.1;omega
   ·rw[h2]at hc;cases hc
  by_cases h2:v=10
  ·rw[lQ h2]at hf;exact absurd hf (fun k=>k)
  rw[lL h2]at hf;have tO:v=q->n=1:=fun e=>hone (by omega);by_cases h3:v=q
  ·rw[lQ h3]at hf;have h1:=tO h3;rw[hB (by omega)];simp only;rw[lL h2,lL h2,lQ h3,lQ h3];refine X8 ?_ (fun _=>rfl) (fun _=>rfl);rw[h.eq (show p+1<=m by omega) hq];constructor
   ·rintro⟨h4,_⟩;have:=h.lt (show p+1<=m by omega) hq h4;exact⟨h4,by omega⟩
   ·rintro⟨h4,_⟩;have:=h.lt (show p+1<=m by omega) hq h4;exact⟨h4,by omega⟩
  rw[lL h3]at hf;by_cases h4:v=92
  ·rw[lQ h4]at hf;have h1:=hone (by omega);rw[hB (by omega)];simp only;rw[lL h2,lL h2,lL h3,lL h3,lQ h4,lQ h4];by_cases h6:AI A (p+1)=10
   ·rw[lQ h6]at hf;have hf:p+2+1<=m:=hf;rw[h.bt (p+1) (by omega),lQ h6,lQ h6]
   ·rw[lL h6]at hf;cases he:FQ A p with
    |none=>rw[he]at hf;exact absurd hf (fun k=>k)
    |some y=>
     rw[he]at hf;have hgt:=(Hy (v:=y.1) (t:=y.2) he).1;have hf:y.2+1<=m:=hf;rw[h.bt (p+1) (by omega),lL h6,lL h6,ABB h (by omega) he (by omega)]
  ·rw[lL h4]at hf;have hf:p+n+1<=m:=hf;rw[hB (by omega)];simp only;rw[lL h2,lL h2,lL h3,lL h3,lL h4,lL h4]
theorem ABJ (h:Sm A B m){a q:Nat}(hq:¬(cv q\/(q:Int)=47)) (xH:q<128):∀(k f g p:Nat) (out:List UInt8),m-p<=k->k<f->k<g->(Gv A a q f p out).le m->Gv B a q g p out=Gv A a q f p out
 |0,f,g,p,out,h1,_,_,hf=>by have:=AAN _ _ _ hf;omega
 |k+1,0,_,_,_,_,h2,_,_=>by omega
 |k+1,_+1,0,_,_,_,_,h3,_=>by omega
 |k+1,f+1,g+1,p,out,h1,h2,h3,hf=>by
  have hp:=AAN _ _ _ hf;rw[Gv]at hf⊢;rw[Gv];have hS:QLe m (Dd A a q p out):=by
   cases hc:Dd A a q p out with
   |inl R=>rw[hc]at hf;exact hf
   |inr x=>rw[hc]at hf;exact AAN _ _ _ hf
  rw[ABx h hq xH (by omega) hS];cases hc:Dd A a q p out with
  |inl R=>rfl
  |inr x=>
   rw[hc]at hf;have:=(Ib (p':=x.1) (out':=x.2) hc).1;exact ABJ h hq xH k f g x.1 x.2 (by omega) (by omega) (by omega) hf
theorem s5 (h:Sm A B m){k p t:Nat}(ht:t<=m):Cw B k p t=Cw A k p t:=by
 unfold Cw;rw[h.ext p t ht]
theorem ABw {s:ByteArray} {k p t:Nat}(h:(Cw s k p t).le m):t<=m:=by
 unfold Cw at h;split at h
 ·exact absurd h (fun k=>k)
 ·exact h
theorem ABy (h:Sm A B m){p:Nat}(hp:p<m) (hf:(Dy A p).le m) (hn:(Dy A p).en=p+1->AI A (p+1)=39->p+2<m):Dy B p=Dy A p:=by
 have h8:=h.sa;have h9:=h.sb;have hb:=h.bt p hp;unfold Dy at hf hn⊢;rw[lL (show¬p=A.size by omega)]at hf hn;rw[lL (show¬p=B.size by omega),lL (show¬p=A.size by omega),hb];by_cases h1:AQ (AI A p).toNat=true
 ·rw[lQ h1]at hf hn;rw[lQ h1,lQ h1];exact AB3 h hp (h.quote hp hf hn) hf
 rw[lL h1]at hf;rw[lL h1,lL h1];by_cases h2:AI A p=39\/AI A p=34\/AI A p=96
 ·rw[lQ h2]at hf;rw[lQ h2,lQ h2];unfold Cz at hf⊢;exact ABJ h (by unfold cv;omega) (by omega) (m-(p+1)) _ _ _ _ (lM _) (by omega) (by omega) hf
 rw[lL h2]at hf;rw[lL h2,lL h2,h.row AA4 (show p<=m by omega),s5 h (h.rle AA4 (show p<=m by omega)),s5 h (h.rle AA4 (show p<=m by omega)),s5 h (show p+1<=m by omega),s5 h (show p+1<=m by omega)];refine X8 Iff.rfl (fun _=>rfl) (fun h3=>X8 Iff.rfl (fun _=>rfl) (fun h4=>X8 Iff.rfl (fun h5=> ?_) (fun _=>rfl)));rw[lL h3,lL h4,lQ h5]at hf;have hr:AF Ez A p<=m:=by
  by_cases hc:AF Ez A p=p+1/\AI A p=46/\(p+1=A.size\/JO (AI A (p+1)).toNat=true\/AI A (p+1)=37)
  ·rw[lQ hc]at hf;rw[hc.1];exact hf
  ·rw[lL hc]at hf;exact ABw hf
 have hrB:AF Ez B p=AF Ez A p:=ABA h ACB _ p rfl (by omega) hr;rw[hrB,s5 h hr];refine X8 ?_ (fun _=>rfl) (fun _=>rfl);rcases ls (p+1) m with h6|h6
 ·rw[h.bt _ h6];constructor
  ·rintro⟨x,y,z⟩;exact⟨x,y,z.imp (fun k=>by omega) id⟩
  ·rintro⟨x,y,z⟩;exact⟨x,y,z.imp (fun k=>by omega) id⟩
 ·have e:p+1=m:=by omega
  constructor
  ·rintro⟨x,y,_⟩;refine⟨x,y,?_⟩;rcases h.xe with h7|h7|h7|h7
   ·exact .inl (by omega)
   ·exact .inr (.inl (by rw[e];exact h7))
   ·exact .inr (.inr (by rw[e];exact h7))
   ·exfalso;have k0:p<A.size:=by omega
    have k1:p+1<A.size:=by
     rcases ls (p+1) A.size with k|k
     ·exact k
     ·rw[<-e,Ax A _ k]at h7;omega
    rw[<-e,AP A _ k1]at h7;have hs0:Ez A[p].toNat=true:=by
     have:=h5;rw[AP A _ k0]at this;simpa using this
    have hs1:Ez A[p+1].toNat=true:=by rw[show A[p+1].toNat=47 by omega];rfl
    have sD:=BN Ez A (p+1+1);rw[Bb k0 hs0,Bb k1 hs1]at x;omega
  ·rintro⟨x,y,_⟩;refine⟨x,y,?_⟩;rcases h.ye with h7|h7|h7
   ·exact .inl (by omega)
   ·exact .inr (.inl (by rw[e];exact h7))
   ·exact .inr (.inr (by rw[e];exact h7))
end Go.Lx
