import Derived.Test.YtpocgkiamgipdaaGreatDoorRdR
set_option maxRecDepth 1000000
set_option maxHeartbeats 0
set_option linter.unusedVariables false
set_option linter.unusedSimpArgs false
open Go.Proofs.Tryz
namespace Go.Proofs
open Go.RowKit Go.Hb Go.Pz
structure Cx.jc (C:Cx):Prop where
 laid:∀w,C.Tb w->Ag w
 tx:∀t∈C.ts,t.tx.length<=100000000
 q1:C.qt<=9223372036854775807
 q2: -9223372036854775808<=C.qt
theorem aH (s:Bs):CZ s 1=CZ s 0:=by
 unfold CZ;have h:GP 1=GP 0:=by funext c;unfold GP;simp
 rw[h];simp
theorem EN {C:Cx} {w:World} {s:RS} {nv tv:Value}(h:A0 C w s nv tv):now C.ts s∈C.ts:=mP (Iw h.bd.kl)
theorem eE {C:Cx} {s:RS}(h:Bd C.ts (s.on 1)):Jc C.ts s 1=now C.ts (s.on 1):=by
 have h1:s.k+1<C.ts.length:=h.kl;unfold Jc now;rw[lL (by omega)];rfl
theorem Bd.two {C:Cx}(hC:C.Ok){s:RS}(h:Bd C.ts s){a b:UInt8}(ha:Pz.AG (now C.ts s) a=true) (hb:Pz.AG (Jc C.ts s 1) b=true):Bd C.ts (s.on 2):=by
 have h1:=h.AG hC.last ha;rw[eE h1]at hb;exact h1.AG hC.last hb
theorem Dj {t:Tk} {a b:UInt8}(h:Pz.AG t a=true) (hab:a≠b):Pz.AG t b=false:=by
 unfold Pz.AG at h⊢;simp only[mJ,mL]at h;rw[h.1,h.2];simp[hab]
theorem Bv {t:Tk} {a:UInt8}(h:Pz.AG t a=true):t.kind=8:=by
 unfold Pz.AG at h;simp only[mJ,mL]at h;exact h.1
theorem Ha {t:Tk} {a:UInt8}(h:Cb t=true):Pz.AG t a=false:=by
 unfold Pz.AG;unfold Cb at h;simp only[Bool.or_eq_true,mL]at h;have:t.kind≠8:=by omega
 simp[this]
theorem ZW (vs:Array Value) (w:World):(callFunc 66 vs).run prog w= .ok (.enter 66 vs) w:=by kernel_rfl
def Sx (C:Cx) (n T:Nat) (nv tv:Value) (w:World) (b:Nat):Prop:=Sn C n nv tv w b/\b≠T
theorem GZ.Jh {C:Cx}(hC:C.Ok){n T:Nat} {nv tv qH qG:Value} {w w':World} {v:Value} {l:List Tm}(h:GZ w (Sx C n T nv tv w) v l) (k:F5 C w nv tv w' qH qG):GZ w' (Sx C n T qH qG w') v l:=
 h.Ak (fun b hb=>k.same hC hb.1.2) (fun b hb=>⟨⟨hb.1.1,k.sf hb.1.2⟩,hb.2⟩)
theorem GZ.eZ {C:Cx} {n T:Nat} {nv tv:Value} {w:World} {v:Value} {l:List Tm}(h:GZ w (Sx C n T nv tv w) v l) (ds:Array Value):GZ (w.setRow T ds) (Sx C n T nv tv (w.setRow T ds)) v l:=
 h.Ak (fun b hb=>mH _ _ _ _ hb.2) (fun b hb=>⟨⟨hb.1.1,hb.1.2.row _ _⟩,hb.2⟩)
theorem AT.Nc {C:Cx} {W:World} {s:RS} {nv tv:Value}(hI:A0 C W s nv tv){n:Nat}(hn:n<=W.heap.size){c:Array Value} {x:Tm}(nm:Bs) (h:AT W (Sn C n nv tv W) c.toList x):
  AT (W.alloc (.cells c 31)) (Sn C n nv tv (W.alloc (.cells c 31))) (Gy nm (.slice (some ⟨W.heap.size,0,none⟩) 1 1)).toList (.cmp nm [x]):=by
 refine AT.of_slice (l:= [x]) (.inr ⟨W.heap.size,1,c.toList,rfl,⟨hn,Sf.new hI (lM _) (by simp)⟩,fun j hj=> ?_,BJ.one ?_,pg _⟩) (pg _) nm
 ·rw[mT _ W.heap.size j _ _ _ (lT W _),mV]
 ·exact AT.Ak (fun b hb=>Lib.alloc_old W _ _ hb.2.2.1) (fun b hb=>⟨hb.1,hb.2.AY (by simp)⟩) h
theorem eJ {C:Cx}(hC:C.Ok) (hX:C.jc){n:Nat}(ih:Rec C n){s:RS} {most:Int} {w:World} {nv tv:Value}(h:A0 C w s nv tv) (hf:4*(C.ts.length-s.k)+2<=n+1) (rK:0<=most) (qw:most<=1200):
  Calls prog 39 #[.pointer (some ⟨C.R,0,none⟩),.int .i64 most] w (Out C w nv tv (A6 C.ts C.O C.qt CZ (n+1) s most)):=by
 obtain⟨r0,qO⟩:∃r,r=A6 C.ts C.O C.qt CZ (n+1) s most:=⟨_,rfl⟩;rw[<-qO];have sT:=lK qO;have HI:=lK h;have IH:=lK ih;have HF:=lK hf;have CN:Hid (∀W,Below w.heap.size w W->Calls prog 25 #[.pointer (some ⟨C.R,0,none⟩)] W fun e w'=>e= .returned (Fk (now C.ts s))/\Below W.heap.size W w'):=lK (fun W hb=>JK hC (h.below hC hb));obtain⟨u,hu⟩:∃u,u=now C.ts s:=⟨_,rfl⟩;rw[<-hu]at CN;have HU:=lK hu;have lk:(s.k:Int)<100000000:=by have:=h.bd.kl;have:=hC.len;omega
 have HB:Hid (Below w.heap.size w (w.alloc (.cells zV 31))):=lK (Bzz _);have LA4:=lK (Lc.new h zV 31);have SA:=lK ((D8.start h).below hC HB.o);clear h hu hf qO ih;go_enter func39,ntmps39
 go_wp2_with (go_at_call 25;(with_reducible refine(CN.o _ HB.o).mono ?_))
 first|rintro e W1 rfl b1|rintro e W1 ⟨rfl,b1⟩
 generalize(w.alloc (.cells zV 31))=A at*;have SB:=lK ((SA.o.below hC b1).below hC (Bzz (.cells zW 71)));have vQ:=lK (Lc.new (SA.o.below hC b1).inv zW 71);have LB4:=lK ((LA4.o.below b1).below (Bzz (.cells zW 71)));have L46:Hid (w.heap.size<W1.heap.size):=lK (lR LA4.o.lt b1.size);clear b1 SA LA4 HB CN
 go_upto_region 2 with(refine YS rfl _ _ rfl W1.heap.size u rfl rfl _ vQ.o.h rfl ?_)
 have ST:=lK (SB.o.row hC vQ.o.sf (by have:=L46.o;omega) (BH u));have L6:=lK (vQ.o.row (BH u));have L4:=lK (LB4.o.Bu (nM L46.o) (BH u));generalize(W1.alloc (.cells zW 71)).setRow W1.heap.size (BH u)=X at*;obtain⟨T,sS⟩:∃T,T=W1.heap.size:=⟨_,rfl⟩;rw[<-sS]at L6 L46⊢;clear sS SB vQ LB4
 try simp only[Act.put]
 have x0:=(Af L6.o.h).1;by_cases k4:(now C.ts s).kind=4
 ·
  have h:=HI.o;have ih:=IH.o;have hf:=HF.o;have hu:=HU.o;have qO:=sT.o;have hk:=k4;clear k4;have e1:A6 C.ts C.O C.qt CZ (n+1) s most=Rz.ok (Cj (now C.ts s) false,0,s.on 1):=by
   rw[A6];exact lQ (by rw[hk];decide)
  rw[e1]at qO;clear e1 ih;have rD:=lK (h.bd.on hC.last (by rw[hk];decide) (by rw[hk];decide));have HN:=lK (fun W=>LH (now C.ts s) false W (hC.tk _ (EN h)).2.1 (hC.tk _ (EN h)).2.2);have hN6:Hid ((Df (now C.ts s) false).size=6):=lK (by unfold Df;split<;>rfl);have hN1:Hid ((Df (now C.ts s) false).all (·.oneCell')=true):=lK (AT.Bq (JD w (fun _=>False) _ false));rw[<-hu]at HN hN6 hN1 hk qO;clear sT;subst r0;clear h hu hf;have e4:((u.kind:Int)==4)=true:=(AL u.kind 4).trans (lU hk);clear hk;have r1:=ST.o.inv.hR.cells.2.1;have f1:=Lib.frozen_of_heap ST.o.inv.hR.h 1
  go_upto_region 4 with fail
  have ST:=lK (ST.o.on hC rD.o (v:= .int .i64 ((s.k:Int)+1)) rfl);have L4:=lK (L4.o.on hC (.int .i64 ((s.k:Int)+1)));have L6:=lK (L6.o.on hC (.int .i64 ((s.k:Int)+1)));clear r1 f1;generalize X.setCell _ _=V at*
  try simp only[Act.put]
  go_wp2_with (first|(refine Ei rfl _ rfl T u rfl L6.o.h ?_)|(go_at_call 64;(with_reducible refine(HN.o _).mono ?_)))
  first|rintro e W3 rfl b|rintro e W3 ⟨rfl,b⟩
  have ST:=lK (ST.o.below hC b);have L4:=lK (L4.o.below b);have L6:=lK (L6.o.below b);clear b
  go_wp2_with (first|(refine F8 rfl _ _ rfl w.heap.size (Df u false) rfl rfl _ L4.o.h rfl hN6.o hN1.o ?_))
  refine lS (v:= .tuple #[.agg (Df u false),.int .i64 0]) ?_ rfl ⟨(Df u false),nv,tv,rfl,ST.o.row hC L4.o.sf (lM _) _,JD _ _ _ _⟩;exact results_cell_tmp rfl _ _ w.heap.size 31 (Df u false) (0,0) _ (.int .i64 0) rfl rfl (mF _ _ _ _ _ _ L4.o.h) mE rfl (by rw[hN6.o];exact Cg)
 by_cases k5:(now C.ts s).kind=5
 ·
  have h:=HI.o;have ih:=IH.o;have hf:=HF.o;have hu:=HU.o;have qO:=sT.o;have hk:=k5;clear k4 k5;have e1:A6 C.ts C.O C.qt CZ (n+1) s most=Rz.ok (Cj (now C.ts s) false,0,s.on 1):=by
   rw[A6];exact lQ (by rw[hk];decide)
  rw[e1]at qO;clear e1 ih;have rD:=lK (h.bd.on hC.last (by rw[hk];decide) (by rw[hk];decide));have HN:=lK (fun W=>LH (now C.ts s) false W (hC.tk _ (EN h)).2.1 (hC.tk _ (EN h)).2.2);have hN6:Hid ((Df (now C.ts s) false).size=6):=lK (by unfold Df;split<;>rfl);have hN1:Hid ((Df (now C.ts s) false).all (·.oneCell')=true):=lK (AT.Bq (JD w (fun _=>False) _ false));rw[<-hu]at HN hN6 hN1 hk qO;clear sT;subst r0;clear h hu hf;have e4:((u.kind:Int)==4)=false:=(AL u.kind 4).trans (lO (by rw[hk];decide));have e5:((u.kind:Int)==5)=true:=(AL u.kind 5).trans (lU hk);clear hk;have r1:=ST.o.inv.hR.cells.2.1;have f1:=Lib.frozen_of_heap ST.o.inv.hR.h 1
  go_upto_region 4 with fail
  have ST:=lK (ST.o.on hC rD.o (v:= .int .i64 ((s.k:Int)+1)) rfl);have L4:=lK (L4.o.on hC (.int .i64 ((s.k:Int)+1)));have L6:=lK (L6.o.on hC (.int .i64 ((s.k:Int)+1)));clear r1 f1;generalize X.setCell _ _=V at*
  try simp only[Act.put]
  go_wp2_with (first|(refine Ei rfl _ rfl T u rfl L6.o.h ?_)|(go_at_call 64;(with_reducible refine(HN.o _).mono ?_)))
  first|rintro e W3 rfl b|rintro e W3 ⟨rfl,b⟩
  have ST:=lK (ST.o.below hC b);have L4:=lK (L4.o.below b);have L6:=lK (L6.o.below b);clear b
  go_wp2_with (first|(refine F8 rfl _ _ rfl w.heap.size (Df u false) rfl rfl _ L4.o.h rfl hN6.o hN1.o ?_))
  refine lS (v:= .tuple #[.agg (Df u false),.int .i64 0]) ?_ rfl ⟨(Df u false),nv,tv,rfl,ST.o.row hC L4.o.sf (lM _) _,JD _ _ _ _⟩;exact results_cell_tmp rfl _ _ w.heap.size 31 (Df u false) (0,0) _ (.int .i64 0) rfl rfl (mF _ _ _ _ _ _ L4.o.h) mE rfl (by rw[hN6.o];exact Cg)
 by_cases k3:(now C.ts s).kind=3
 ·
  have h:=HI.o;have ih:=IH.o;have hf:=HF.o;have hu:=HU.o;have qO:=sT.o;have hk:=k3;clear k4 k5 k3;have e1:A6 C.ts C.O C.qt CZ (n+1) s most=Rz.ok ((EV (s.on 1) (now C.ts s).tx).1,0,(EV (s.on 1) (now C.ts s).tx).2):=by
   rw[A6];exact(lL (by rw[hk];decide)).trans (lQ hk)
  rw[e1]at qO;clear e1 ih;have rD:=lK (h.bd.on hC.last (by rw[hk];decide) (by rw[hk];decide));have HN:=lK (fun W qH qG (hW:A0 C W (s.on 1) qH qG)=>Uo hC hW (Nat.lt_succ_of_le h.bd.vk) (fun x hx=>Nat.lt_succ_of_le (h.bd.tk x hx)) (now C.ts s).tx (hC.tk _ (EN h)).1);rw[<-hu]at HN hk qO;clear sT;subst r0;clear h hu hf;have e4:((u.kind:Int)==4)=false:=(AL u.kind 4).trans (lO (by rw[hk];decide));have e5:((u.kind:Int)==5)=false:=(AL u.kind 5).trans (lO (by rw[hk];decide));have e3:((u.kind:Int)==3)=true:=(AL u.kind 3).trans (lU hk);clear hk;have r1:=ST.o.inv.hR.cells.2.1;have f1:=Lib.frozen_of_heap ST.o.inv.hR.h 1
  go_upto_region 7 with fail
  have ST:=lK (ST.o.on hC rD.o (v:= .int .i64 ((s.k:Int)+1)) rfl);have L4:=lK (L4.o.on hC (.int .i64 ((s.k:Int)+1)));have L6:=lK (L6.o.on hC (.int .i64 ((s.k:Int)+1)));clear r1 f1;generalize X.setCell _ _=V at*
  try simp only[Act.put]
  clear x0;have x1:=(Af L6.o.h).2.1
  go_wp2_with (go_at_call 65;(refine(HN.o _ _ _ ST.o.inv).mono ?_))
  rintro e W3 ⟨i,qH,qG,rfl,h1,h2⟩;have L4:=lK (L4.o.step hC h2.Bj);have ST:=lK (ST.o.call h2);have H1:=lK h1;clear h1 h2 x1
  go_wp2_with (first|(refine F8 rfl _ _ rfl w.heap.size (BI i) rfl rfl _ L4.o.h rfl (show(BI i).size=6 from rfl) (LZ i) ?_))
  refine lS (v:= .tuple #[.agg (BI i),.int .i64 0]) ?_ rfl ⟨(BI i),qH,qG,rfl,ST.o.row hC L4.o.sf (lM _) _,?_⟩
  ·exact results_cell_tmp rfl _ _ w.heap.size 31 (BI i) (0,0) _ (.int .i64 0) rfl rfl (mF _ _ _ _ _ _ L4.o.h) mE rfl (by rw[(show(BI i).size=6 from rfl)];exact Cg)
  ·rw[H1.o];exact .var i
 by_cases k6:(now C.ts s).kind=6
 ·
  have h:=HI.o;have ih:=IH.o;have hf:=HF.o;have hu:=HU.o;have qO:=sT.o;have hk:=k6;clear k4 k5 k3 k6;have e1:A6 C.ts C.O C.qt CZ (n+1) s most=Rz.ok (CZ (now C.ts s).tx C.qt,0,s.on 1):=by
   rw[A6];exact(lL (by rw[hk];decide)).trans ((lL (by rw[hk];decide)).trans (lQ hk))
  rw[e1]at qO;clear e1 ih;have rD:=lK (h.bd.on hC.last (by rw[hk];decide) (by rw[hk];decide));have HN:=lK (fun W (hW:C.Tb W)=>XP (.pointer (some ⟨C.R,0,none⟩)) (now C.ts s).tx C.qt W (hX.tx _ (EN h)) (lK (hX.laid W hW)) hX.q1 hX.q2);rw[<-hu]at HN hk qO;clear sT;subst r0;clear h hu hf;have e4:((u.kind:Int)==4)=false:=(AL u.kind 4).trans (lO (by rw[hk];decide));have e5:((u.kind:Int)==5)=false:=(AL u.kind 5).trans (lO (by rw[hk];decide));have e3:((u.kind:Int)==3)=false:=(AL u.kind 3).trans (lO (by rw[hk];decide));have e6:((u.kind:Int)==6)=true:=(AL u.kind 6).trans (lU hk);clear hk;have r1:=ST.o.inv.hR.cells.2.1;have f1:=Lib.frozen_of_heap ST.o.inv.hR.h 1
  go_upto_region 10 with fail
  have ST:=lK (ST.o.on hC rD.o (v:= .int .i64 ((s.k:Int)+1)) rfl);have L4:=lK (L4.o.on hC (.int .i64 ((s.k:Int)+1)));have L6:=lK (L6.o.on hC (.int .i64 ((s.k:Int)+1)));clear r1 f1;generalize X.setCell _ _=V at*
  try simp only[Act.put]
  clear x0;have X1:=lK (Af L6.o.h).2.1;have R3:=lK ST.o.inv.hR.cells.2.2.2.1;have TBB:=lK (fun W (hW:Below V.heap.size V W)=>(ST.o.below hC hW).inv.Fm);have HV:Hid (w.heap.size<V.heap.size):=lK L4.o.lt;have NT:Hid (T≠w.heap.size):=lK (Nat.ne_of_gt L46.o);have NR:Hid (C.R≠w.heap.size):=lK (by have:=hC.rb;have:=HI.o.sz;omega);have TV:Hid (T<V.heap.size):=lK L6.o.lt;have RV:Hid (C.R<V.heap.size):=lK (by have:=NR.o;have:=hC.rb;have:=HI.o.sz;have:=HV.o;omega);refine wp_region_held_drew (S:=fun W=>W.cell? ⟨T,1,none⟩=some (.string (bs u.tx))/\W.cell? ⟨C.R,3,none⟩=some (.int .i64 C.qt)) (by kernel_rfl) ⟨X1.o,R3.o⟩ (fun hS=> ?_);refine tk 0 (.pointer (some ⟨C.R,0,none⟩)) rfl hS ?_;refine tk 1 (.pointer (some ⟨T,1,none⟩)) rfl hS ?_;refine DQ 2 (.string (bs u.tx)) rfl hS (fun W hSW=> ?_) ?_
  ·have e1:=hSW.1;go_simp
  refine tk 3 (.pointer (some ⟨C.R,0,none⟩)) rfl hS ?_;refine tk 4 (.pointer (some ⟨C.R,0,none⟩)) rfl hS ?_;refine tk 5 (.pointer (some ⟨C.R,3,none⟩)) rfl hS ?_;refine tk 6 (.pointer (some ⟨C.R,3,none⟩)) rfl hS ?_;refine DQ 7 (.int .i64 C.qt) rfl hS (fun W hSW=> ?_) ?_
  ·have e1:=hSW.2;go_simp
  try simp only[uu,Act.put]
  refine DD 8 rfl (fun K hK=> ?_);refine As (by rfl) 66 [.tmp 59,.tmp 61,.tmp 66] #[66,9,3] (by rfl) #[.pointer (some ⟨C.R,0,none⟩),.string (bs u.tx),.int .i64 C.qt] (by kernel_rfl) ZW ((HN.o V.drew (TBB.o _ (Ad (Below.refl _ _)))).mono ?_);rintro e W3 ⟨c,rfl,h1,b⟩;have b:Below V.heap.size V W3:=⟨b.os,b.tape,b.output,b.size,b.block⟩;have hS3:W3.cell? ⟨T,1,none⟩=some (.string (bs u.tx))/\W3.cell? ⟨C.R,3,none⟩=some (.int .i64 C.qt):=⟨(b.cell (p:=⟨T,1,none⟩) TV.o).trans X1.o,(b.cell (p:=⟨C.R,3,none⟩) RV.o).trans R3.o⟩;have h1:AT W3 (fun k=>V.heap.size<=k/\k<W3.heap.size) c.toList (CZ u.tx C.qt):=h1;have C6:Hid (c.size=6):=lK (by have:=h1.len;simpa using this);have CO:=lK (AT.Bq h1);have HV:Hid (w.heap.size<V.heap.size):=lK L4.o.lt;have TX:Hid (AT W3 (Sn C V.heap.size nv tv W3) c.toList (CZ u.tx C.qt)):=lK (AT.imp h1 (fun b hb=>⟨hb.1,Sf.new ST.o.inv hb.1 hb.2⟩));have L4:=lK (L4.o.below b);have ST:=lK (ST.o.below hC b);clear h1 b;refine⟨_,rfl,?_⟩;refine hK.o _ _ hS3 (fun hS=> ?_)
  try simp only[uu,Act.put]
  refine DD 9 rfl (fun K hK=> ?_);refine Aj rfl (Ld _ _ rfl w.heap.size c rfl rfl _ L4.o.h rfl C6.o CO.o ?_);refine hK.o _ _ ⟨(cell_setRow_other _ _ _ _ NT.o).trans hS.1,(cell_setRow_other _ _ _ _ NR.o).trans hS.2⟩ (fun hS=> ?_);refine tk 10 (.int .i64 0) rfl hS ?_
  try simp only[uu,Act.put]
  refine wpAnyH_done (by kernel_rfl) ?_ _;go_wp2;have ST9:=ST.o.row hC L4.o.sf (lM _) c;have TX9:=AT.low (AT.ED TX.o HV.o c) (mW HV.o);have H49:(W3.setRow w.heap.size c).heap[w.heap.size]? =some (.cells c 31):=mF _ _ _ _ _ _ L4.o.h;refine lS (v:= .tuple #[.agg c,.int .i64 0]) ?_ rfl ⟨c,nv,tv,rfl,ST9,TX9⟩;exact results_cell_tmp rfl _ _ w.heap.size 31 c (0,0) _ (.int .i64 0) rfl rfl H49 mE rfl (by rw[C6.o];exact Cg)
 by_cases k7:(now C.ts s).kind=7
 ·
  have h:=HI.o;have ih:=IH.o;have hf:=HF.o;have hu:=HU.o;have qO:=sT.o;have hk:=k7;clear k4 k5 k3 k6 k7;have e1:A6 C.ts C.O C.qt CZ (n+1) s most=Rz.ok (CZ (now C.ts s).tx 1,0,s.on 1):=by
   rw[aH,A6];exact(lL (by rw[hk];decide)).trans ((lL (by rw[hk];decide)).trans ((lL (by rw[hk];decide)).trans (lQ hk)))
  rw[e1]at qO;clear e1 ih;have rD:=lK (h.bd.on hC.last (by rw[hk];decide) (by rw[hk];decide));have HN:=lK (fun W (hW:C.Tb W)=>XP (.pointer (some ⟨C.R,0,none⟩)) (now C.ts s).tx 1 W (hX.tx _ (EN h)) (lK (hX.laid W hW)) (by omega) (by omega));rw[<-hu]at HN hk qO;clear sT;subst r0;clear h hu hf;have e4:((u.kind:Int)==4)=false:=(AL u.kind 4).trans (lO (by rw[hk];decide));have e5:((u.kind:Int)==5)=false:=(AL u.kind 5).trans (lO (by rw[hk];decide));have e3:((u.kind:Int)==3)=false:=(AL u.kind 3).trans (lO (by rw[hk];decide));have e6:((u.kind:Int)==6)=false:=(AL u.kind 6).trans (lO (by rw[hk];decide));have e7:((u.kind:Int)==7)=true:=(AL u.kind 7).trans (lU hk);clear hk;have r1:=ST.o.inv.hR.cells.2.1;have f1:=Lib.frozen_of_heap ST.o.inv.hR.h 1
  go_upto_region 13 with fail
  have ST:=lK (ST.o.on hC rD.o (v:= .int .i64 ((s.k:Int)+1)) rfl);have L4:=lK (L4.o.on hC (.int .i64 ((s.k:Int)+1)));have L6:=lK (L6.o.on hC (.int .i64 ((s.k:Int)+1)));clear r1 f1;generalize X.setCell _ _=V at*
  try simp only[Act.put]
  clear x0;have x1:=(Af L6.o.h).2.1
  go_wp2_with (go_at_call 66;(refine(HN.o _ ST.o.inv.Fm).mono ?_))
  rintro e W3 ⟨c,rfl,h1,b⟩;clear x1;have C6:Hid (c.size=6):=lK (by have:=h1.len;simpa using this);have CO:=lK (AT.Bq h1);have HV:Hid (w.heap.size<V.heap.size):=lK L4.o.lt;have TX:Hid (AT W3 (Sn C V.heap.size nv tv W3) c.toList (CZ u.tx 1)):=lK (AT.imp h1 (fun b hb=>⟨hb.1,Sf.new ST.o.inv hb.1 hb.2⟩));have L4:=lK (L4.o.below b);have ST:=lK (ST.o.below hC b);clear h1 b
  go_wp2_with (first|(refine F8 rfl _ _ rfl w.heap.size c rfl rfl _ L4.o.h rfl C6.o CO.o ?_))
  refine lS (v:= .tuple #[.agg c,.int .i64 0]) ?_ rfl ⟨c,nv,tv,rfl,ST.o.row hC L4.o.sf (lM _) _,AT.low (AT.ED TX.o HV.o _) (mW HV.o)⟩;exact results_cell_tmp rfl _ _ w.heap.size 31 c (0,0) _ (.int .i64 0) rfl rfl (mF _ _ _ _ _ _ L4.o.h) mE rfl (by rw[C6.o];exact Cg)
 by_cases p40:Pz.AG (now C.ts s) 40=true
 ·
  have h:=HI.o;have ih:=IH.o;have hf:=HF.o;have hu:=HU.o;have qO:=sT.o;have hp:=p40;clear k4 k5 k3 k6 k7 p40;have qY:=Bv hp;have e1:A6 C.ts C.O C.qt CZ (n+1) s most=(Ay C.ts C.O C.qt CZ n (s.on 1) 1200).bind fun(x,_,s)=>(pass C.ts s 41).bind fun s=>(Rz.ok (x,(0:Int),s):Rz (Tm×Int×RS)):=by
   rw[A6];exact(lL (by rw[qY];decide)).trans ((lL (by rw[qY];decide)).trans ((lL (by rw[qY];decide)).trans ((lL (by rw[qY];decide)).trans (lQ hp))))
  rw[e1]at qO;clear e1;have rD:=lK (h.bd.AG hC.last hp);have tR:=lK (fun W qH qG (hW:A0 C W (s.on 1) qH qG)=>ih.term (s.on 1) 1200 W qH qG hW (by have:=h.bd.kl;show 4*(C.ts.length-(s.k+1))+3<=n;omega) (by omega) (by omega));clear ih;generalize Ay C.ts C.O C.qt CZ n (s.on 1) 1200=r at tR qO;rw[<-hu]at hp qY;have CP:=lK (fun W=>Au u 40 W);rw[hp]at CP;clear sT;subst r0;clear h hu hf;have e4:((u.kind:Int)==4)=false:=(AL u.kind 4).trans (lO (by rw[qY];decide));have e5:((u.kind:Int)==5)=false:=(AL u.kind 5).trans (lO (by rw[qY];decide));have e3:((u.kind:Int)==3)=false:=(AL u.kind 3).trans (lO (by rw[qY];decide));have e6:((u.kind:Int)==6)=false:=(AL u.kind 6).trans (lO (by rw[qY];decide));have e7:((u.kind:Int)==7)=false:=(AL u.kind 7).trans (lO (by rw[qY];decide));clear hp qY
  go_wp2_with (first|(refine Ei rfl _ rfl T u rfl L6.o.h ?_)|(go_at_call 41;(with_reducible refine(CP.o _).mono ?_)))
  first|rintro e W2 rfl b|rintro e W2 ⟨rfl,b⟩
  have ST:=lK (ST.o.below hC b);have L4:=lK (L4.o.below b);have L6:=lK (L6.o.below b);clear b;clear x0 e4 e5 e3 e6 e7;have r1:=ST.o.inv.hR.cells.2.1;have f1:=Lib.frozen_of_heap ST.o.inv.hR.h 1
  go_upto_region 16 with fail
  have ST:=lK (ST.o.on hC rD.o (v:= .int .i64 ((s.k:Int)+1)) rfl);have L4:=lK (L4.o.on hC (.int .i64 ((s.k:Int)+1)));have L6:=lK (L6.o.on hC (.int .i64 ((s.k:Int)+1)));clear r1 f1;generalize W2.setCell _ _=V at*
  try simp only[Act.put]
  clear L6
  go_wp2_with (go_at_call 24;(refine(tR.o _ _ _ ST.o.inv).mono ?_))
  rintro e W3 h3;cases r with
  |stop wd a=>
   obtain⟨rfl,qH,qG,hk⟩:=h3;have HK:=lK (ST.o.Bj.trans hk);clear hk;go_wp2;exact⟨rfl,rfl,qH,qG,HK.o⟩
  |ok q=>
   obtain⟨x,px,s1⟩:=q;obtain⟨c,qI,qJ,rfl,h4,h5⟩:=h3;have C6:Hid (c.size=6):=lK (by have:=h5.len;simpa using this);have CO:=lK (AT.Bq h5);have HV:Hid (w.heap.size<V.heap.size):=lK L4.o.lt;have NE:=lK (lT W3 (.cells zV 31));have qV:=(Below.row ((Below.refl W3.heap.size W3).alloc (lM _) (.cells zV 31)) (lM _) c);have sB:=lK (Lc.row (Lc.new h4.inv zV 31) c);have ST:=lK ((ST.o.call h4).below hC qV);have L4:=lK ((L4.o.step hC h4.Bj).below qV);have TX:Hid (AT ((W3.alloc (.cells zV 31)).setRow W3.heap.size c) (Sn C V.heap.size qI qJ ((W3.alloc (.cells zV 31)).setRow W3.heap.size c)) c.toList x):=lK (h5.Ak (fun b hb=>qV.block b hb.2.2.1) (fun b hb=>⟨hb.1,hb.2.AY qV.size⟩));clear h4 h5 qV tR
   go_upto_region 17 with(refine F8 rfl _ _ rfl W3.heap.size c rfl rfl _ NE.o rfl C6.o CO.o ?_)
   clear NE;generalize(W3.alloc (.cells zV 31)).setRow W3.heap.size c=W8 at*;generalize W3.heap.size=T7 at*
   try simp only[Act.put]
   have vV:=lK (Og hC ST.o.inv 41);obtain⟨q,hq⟩:∃q,q=pass C.ts s1 41:=⟨_,rfl⟩;rw[<-hq]at vV;have HQ:=lK hq;clear hq
   go_wp2_with (go_at_call 67;(refine vV.o.mono ?_))
   rintro e W4 h8;cases q with
   |stop wd a=>
    obtain⟨rfl,hk⟩:=h8;have HK:=lK (ST.o.Bj.trans hk);clear hk;go_wp2;refine⟨rfl,?_⟩;show Out C w nv tv ((pass C.ts s1 41).bind fun s=>(Rz.ok (x,(0:Int),s):Rz (Tm×Int×RS))) _ _;rw[<-HQ.o];exact⟨rfl,qI,qJ,HK.o⟩
   |ok s2=>
    obtain⟨rfl,h9⟩:=h8;have ST:=lK (ST.o.call h9);have L4:=lK (L4.o.step hC h9.Bj);have sB:=lK (sB.o.step hC h9.Bj);have TX:=lK (AT.K9 hC TX.o h9.Bj);clear h9
    go_wp2_with (first|(refine KK rfl _ rfl T7 c C6.o rfl sB.o.h ?_)|(refine F8 rfl _ _ rfl w.heap.size c rfl rfl _ L4.o.h rfl C6.o CO.o ?_))
    show bodyPost prog Tryz.f39 (Out C w nv tv ((pass C.ts s1 41).bind fun s=>(Rz.ok (x,(0:Int),s):Rz (Tm×Int×RS)))) _ _ _;rw[<-HQ.o];refine lS (v:= .tuple #[.agg c,.int .i64 0]) ?_ rfl ⟨c,qI,qJ,rfl,ST.o.row hC L4.o.sf (lM _) _,AT.low (AT.ED TX.o HV.o _) (mW HV.o)⟩;exact results_cell_tmp rfl _ _ w.heap.size 31 c (0,0) _ (.int .i64 0) rfl rfl (mF _ _ _ _ _ _ L4.o.h) mE rfl (by rw[C6.o];exact Cg)
 rw[oT]at p40;by_cases p91:Pz.AG (now C.ts s) 91=true
 ·cases p93:Pz.AG (Jc C.ts s 1) 93
  ·
   have h:=HI.o;have ih:=IH.o;have hf:=HF.o;have hu:=HU.o;have qO:=sT.o;have hp:=p91;have qj:=p93;clear k4 k5 k3 k6 k7 p40 p91 p93;have qY:=Bv hp;have su:Pz.AG (now C.ts s) 40=false:=Dj hp (by decide);have e1:A6 C.ts C.O C.qt CZ (n+1) s most=(Ba C.ts C.O C.qt CZ n (s.on 1)).bind fun(l,s)=>(if Pz.AG (now C.ts s) 124 then(Ay C.ts C.O C.qt CZ n (s.on 1) 999).bind fun(x,_,s)=>(Rz.ok (x,s):Rz (Tm×RS))else Rz.ok (.atom DR,s)).bind fun(e,s)=>
       (pass C.ts s 93).bind fun s=>(Rz.ok (Cd l e,(0:Int),s):Rz (Tm×Int×RS)):=by
    rw[A6];exact(lL (by rw[qY];decide)).trans ((lL (by rw[qY];decide)).trans ((lL (by rw[qY];decide)).trans ((lL (by rw[qY];decide)).trans ((lL (by rw[su];decide)).trans (lQ (by rw[hp,qj];rfl))))))
   rw[e1]at qO;clear e1;have rD:=lK (h.bd.AG hC.last hp);have tR:=lK (fun(s1:RS) (hk:Hid (s.k<s1.k)) W qH qG (hW:A0 C W (s1.on 1) qH qG)=>ih.term (s1.on 1) 999 W qH qG hW (by have h1:=h.bd.kl;have h2:s1.k+1<C.ts.length:=hW.bd.kl;have h3:=hk.o;show 4*(C.ts.length-(s1.k+1))+3<=n;omega) (by omega) (by omega));have HIT:=lK (fun W qH qG (hW:A0 C W (s.on 1) qH qG)=>ih.items (s.on 1) W qH qG hW (by have:=h.bd.kl;show 4*(C.ts.length-(s.k+1))+4<=n;omega));clear ih;obtain⟨r,hr⟩:∃r,r=Ba C.ts C.O C.qt CZ n (s.on 1):=⟨_,rfl⟩;rw[<-hr]at HIT qO;have G0:Hid (r0=r.bind fun q=>(if Pz.AG (now C.ts q.2) 124=true then(Ay C.ts C.O C.qt CZ n (q.2.on 1) 999).bind (fun p=>(Rz.ok (p.1,p.2.2):Rz (Tm×RS)))else Rz.ok (.atom DR,q.2)).bind fun z=>(pass C.ts z.2 93).bind fun s=>(Rz.ok (Cd q.1 z.1,(0:Int),s):Rz (Tm×Int×RS))):=lK qO;have HRD:=lK hr;clear hr qO;have tp:=lK (fun W (hW:A0 C W s nv tv)=>Ot hC hW);obtain⟨y,hy⟩:∃y,y=Jc C.ts s 1:=⟨_,rfl⟩;rw[<-hy]at tp qj;have CY:=lK (fun W=>Au y 93 W);rw[qj]at CY;clear hy;rw[<-hu]at hp qY su;have sQ:=lK (fun W=>Au u 40 W);rw[su]at sQ;have wg:=lK (fun W=>Au u 91 W);rw[hp]at wg;clear h hu hf qj;have e4:((u.kind:Int)==4)=false:=(AL u.kind 4).trans (lO (by rw[qY];decide));have e5:((u.kind:Int)==5)=false:=(AL u.kind 5).trans (lO (by rw[qY];decide));have e3:((u.kind:Int)==3)=false:=(AL u.kind 3).trans (lO (by rw[qY];decide));have e6:((u.kind:Int)==6)=false:=(AL u.kind 6).trans (lO (by rw[qY];decide));have e7:((u.kind:Int)==7)=false:=(AL u.kind 7).trans (lO (by rw[qY];decide));clear hp qY su
   go_wp2_with (first|(refine Ei rfl _ rfl T u rfl L6.o.h ?_)|(go_at_call 41;(with_reducible refine(sQ.o _).mono ?_)))
   first|rintro e W2 rfl b|rintro e W2 ⟨rfl,b⟩
   have ST:=lK (ST.o.below hC b);have L4:=lK (L4.o.below b);have L6:=lK (L6.o.below b);clear b;clear x0 e4 e5 e3 e6 e7
   go_wp2_with (first|(refine Ei rfl _ rfl T u rfl L6.o.h ?_)|(go_at_call 41;(with_reducible refine(wg.o _).mono ?_)))
   first|rintro e W4 rfl b|rintro e W4 ⟨rfl,b⟩
   have ST:=lK (ST.o.below hC b);have L4:=lK (L4.o.below b);have L6:=lK (L6.o.below b);clear b
   go_wp2_with (first|(refine Ei rfl _ rfl T u rfl L6.o.h ?_)|(go_at_call 68;(refine(tp.o _ ST.o.inv).mono ?_)))
   first|rintro e W5 rfl b|rintro e W5 ⟨rfl,b⟩
   have ST:=lK (ST.o.below hC b);have L4:=lK (L4.o.below b);have L6:=lK (L6.o.below b);clear b
   go_wp2_with (go_at_call 41;(with_reducible refine(CY.o _).mono ?_))
   first|rintro e W6 rfl b|rintro e W6 ⟨rfl,b⟩
   have ST:=lK (ST.o.below hC b);have L4:=lK (L4.o.below b);have L6:=lK (L6.o.below b);clear b;have r1:=ST.o.inv.hR.cells.2.1;have f1:=Lib.frozen_of_heap ST.o.inv.hR.h 1
   go_upto_region 21 with fail
   have ST:=lK (ST.o.on hC rD.o (v:= .int .i64 ((s.k:Int)+1)) rfl);have L4:=lK (L4.o.on hC (.int .i64 ((s.k:Int)+1)));have L6:=lK (L6.o.on hC (.int .i64 ((s.k:Int)+1)));clear r1 f1;generalize W6.setCell _ _=V at*
   try simp only[Act.put]
   clear L6
   go_wp2_with (go_at_call 69;(refine(HIT.o _ _ _ ST.o.inv).mono ?_))
   rintro e W3 h3;cases r with
   |stop wd a=>
    obtain⟨rfl,qH,qG,hk⟩:=h3;have HK:=lK (ST.o.Bj.trans hk);have HE:Hid (r0=Rz.stop wd a):=G0;clear hk;go_wp2;rw[HE.o];exact⟨rfl,rfl,qH,qG,HK.o⟩
   |ok q=>
    obtain⟨l,s1⟩:=q;obtain⟨v,qI,qJ,rfl,h4,h5,h6,h7⟩:=h3;obtain⟨va,vn,vc,rfl⟩:=GZ.form h5;have HKK:Hid (s.k<s1.k):=lK (Nat.lt_of_succ_lt (((IN hC.last hC.fin n).2.2.1 (s.on 1) l s1 rD.o HRD.o.symm).2));have HL:Hid (l.length<=100000000):=lK (by have:=h4.inv.bd.kl;have:=hC.len;omega);have lk1:(s1.k:Int)<100000000:=by have:=h4.inv.bd.kl;have:=hC.len;omega
    have HV:Hid (w.heap.size<V.heap.size):=lK L4.o.lt;have TV7:Hid (V.heap.size<=W3.heap.size):=lK h4.Bj.kept.size;have NE:=lK (lT W3 (.cells zV 31));have qV:=(Below.row ((Below.refl W3.heap.size W3).alloc (lM _) (.cells zV 31)) (lM _) (BU DR));have sB:=lK (Lc.row (Lc.new h4.inv zV 31) (BU DR));have ST:=lK ((ST.o.call h4).below hC qV);have L4:=lK ((L4.o.step hC h4.Bj).below qV);have HS:Hid (GZ ((W3.alloc (.cells zV 31)).setRow W3.heap.size (BU DR)) (Sx C V.heap.size W3.heap.size qI qJ ((W3.alloc (.cells zV 31)).setRow W3.heap.size (BU DR))) (.slice va vn vc) l):=lK (h5.Ak (fun b hb=>qV.block b hb.2.2.1) (fun b hb=>⟨⟨hb.1,hb.2.AY qV.size⟩,nM hb.2.2.1⟩));clear h4 h5 h6 h7 qV HIT HRD
    go_upto_region 22 with(refine F8 rfl _ _ rfl W3.heap.size (BU DR) rfl rfl _ NE.o rfl rfl (FV _) ?_)
    clear NE;generalize(W3.alloc (.cells zV 31)).setRow W3.heap.size (BU DR)=W8 at*;generalize W3.heap.size=T7 at*
    try simp only[Act.put]
    have CN:=lK (JK hC ST.o.inv);obtain⟨u2,hu2⟩:∃u2,u2=now C.ts s1:=⟨_,rfl⟩;rw[<-hu2]at CN;have CB:=lK (fun W=>Au u2 124 W);have yK:=lK hu2;clear hu2;cases hb:Pz.AG u2 124 with
    |false=>
     rw[hb]at CB;have HB:=lK hb;clear hb;have HEE:Hid (r0=(pass C.ts s1 93).bind fun s=>(Rz.ok (Cd l (Tm.atom DR),(0:Int),s):Rz (Tm×Int×RS))):=lK (by
      rw[G0.o];show(if Pz.AG (now C.ts s1) 124=true then _ else _:Rz (Tm×RS)).bind _=_;rw[<-yK.o,lL (by rw[HB.o];decide)];rfl)
     go_wp2_with (go_at_call 25;(with_reducible refine CN.o.mono ?_))
     first|rintro e W9 rfl b|rintro e W9 ⟨rfl,b⟩
     have HS:=lK (GZ.Jh hC HS.o (F5.AY b));have sB:=lK (sB.o.below b);have ST:=lK (ST.o.below hC b);have L4:=lK (L4.o.below b);clear b
     go_wp2_with (go_at_call 41;(with_reducible refine(CB.o _).mono ?_))
     first|rintro e W10 rfl b|rintro e W10 ⟨rfl,b⟩
     have HS:=lK (GZ.Jh hC HS.o (F5.AY b));have sB:=lK (sB.o.below b);have ST:=lK (ST.o.below hC b);have L4:=lK (L4.o.below b);clear b;have TX:Hid (AT W10 (Sn C V.heap.size qI qJ W10) (BU DR).toList (.atom DR)):=lK (Gq _ _ _);have vV:=lK (Og hC ST.o.inv 93);obtain⟨q,hq⟩:∃q,q=pass C.ts s1 93:=⟨_,rfl⟩;rw[<-hq]at vV;have HE:Hid (r0=q.bind fun s=>(Rz.ok (Cd l (Tm.atom DR),(0:Int),s):Rz (Tm×Int×RS))):=lK (by rw[HEE.o,hq]);clear hq
     go_wp2_with (go_at_call 67;(refine vV.o.mono ?_))
     rintro e W12 h8;cases q with
     |stop wd a=>
      obtain⟨rfl,hk⟩:=h8;have HK:=lK (ST.o.Bj.trans hk);have HF:Hid (r0=Rz.stop wd a):=HE;clear hk;go_wp2;rw[HF.o];exact⟨rfl,rfl,qI,qJ,HK.o⟩
     |ok s3=>
      obtain⟨rfl,h9⟩:=h8;have HF:Hid (r0=Rz.ok (Cd l (Tm.atom DR),(0:Int),s3)):=HE;have ST:=lK (ST.o.call h9);have L4:=lK (L4.o.step hC h9.Bj);have sB:=lK (sB.o.step hC h9.Bj);have HS:=lK (GZ.Jh hC HS.o h9.Bj);have TX:=lK (AT.K9 hC TX.o h9.Bj);clear h9 vV;have HVW:Hid (V.heap.size<=W12.heap.size):=lK (by have h1:=sB.o.lt;have h2:=TV7.o;omega);have vP:=lK (Qm W12 (Sn C V.heap.size qI qJ W12) (fun b hb=>hb.2.2.1) (.slice va vn vc) l (HS.o.Ak (fun _ _=>rfl) (fun b hb=>hb.1)) (Tm.atom DR) (BU DR) TX.o HL.o)
      go_wp2_with (first|(refine KK rfl _ rfl T7 (BU DR) rfl rfl sB.o.h ?_)|(go_at_call 70;(refine vP.o.mono ?_)))
      rintro e W13 ⟨c',rfl,sD,b⟩;have D6:Hid (c'.size=6):=lK (by have:=sD.len;simpa using this);have D1:=lK (AT.Bq sD);have TY:Hid (AT W13 (Sn C V.heap.size qI qJ W13) c'.toList (Cd l (Tm.atom DR))):=lK (AT.imp sD (fun k hk=>hk.elim (fun h=>⟨h.1,h.2.AY b.size⟩) (fun h=>⟨lg HVW.o h.1,Sf.new ST.o.inv h.1 h.2⟩)));have L4:=lK (L4.o.below b);have ST:=lK (ST.o.below hC b);clear sD b vP
      go_wp2_with (refine F8 rfl _ _ rfl w.heap.size c' rfl rfl _ L4.o.h rfl D6.o D1.o ?_)
      show bodyPost prog Tryz.f39 (Out C w nv tv r0) _ _ _;rw[HF.o];refine lS (v:= .tuple #[.agg c',.int .i64 0]) ?_ rfl ⟨c',qI,qJ,rfl,ST.o.row hC L4.o.sf (lM _) _,AT.low (AT.ED TY.o HV.o _) (mW HV.o)⟩;exact results_cell_tmp rfl _ _ w.heap.size 31 c' (0,0) _ (.int .i64 0) rfl rfl (mF _ _ _ _ _ _ L4.o.h) mE rfl (by rw[D6.o];exact Cg)
    |true=>
     rw[hb]at CB;have tM:Hid (Bd C.ts (s1.on 1)):=lK (ST.o.inv.bd.AG hC.last (c:=124) (by rw[<-yK.o];exact hb));have HB:=lK hb;clear hb;obtain⟨r2,rL⟩:∃r2,r2=Ay C.ts C.O C.qt CZ n (s1.on 1) 999:=⟨_,rfl⟩;have tR:=lK (tR.o s1 HKK);rw[<-rL]at tR;have HG:Hid (r0=(r2.bind fun p=>(Rz.ok (p.1,p.2.2):Rz (Tm×RS))).bind fun z=>(pass C.ts z.2 93).bind fun s=>(Rz.ok (Cd l z.1,(0:Int),s):Rz (Tm×Int×RS))):=lK (by
      rw[G0.o];show(if Pz.AG (now C.ts s1) 124=true then _ else _:Rz (Tm×RS)).bind _=_;rw[<-yK.o,lQ HB.o,rL])
     clear rL
     go_wp2_with (go_at_call 25;(with_reducible refine CN.o.mono ?_))
     first|rintro e W9 rfl b|rintro e W9 ⟨rfl,b⟩
     have HS:=lK (GZ.Jh hC HS.o (F5.AY b));have sB:=lK (sB.o.below b);have ST:=lK (ST.o.below hC b);have L4:=lK (L4.o.below b);clear b
     go_wp2_with (go_at_call 41;(with_reducible refine(CB.o _).mono ?_))
     first|rintro e W10 rfl b|rintro e W10 ⟨rfl,b⟩
     have HS:=lK (GZ.Jh hC HS.o (F5.AY b));have sB:=lK (sB.o.below b);have ST:=lK (ST.o.below hC b);have L4:=lK (L4.o.below b);clear b;have r1:=ST.o.inv.hR.cells.2.1;have f1:=Lib.frozen_of_heap ST.o.inv.hR.h 1
     go_upto_region 24 with fail
     have STo:=ST;have ST:=lK (ST.o.on hC tM.o (v:= .int .i64 ((s1.k:Int)+1)) rfl);have HS:=lK (GZ.Jh hC HS.o (D8.on hC (D8.start STo.o.inv) tM.o (v:= .int .i64 ((s1.k:Int)+1)) rfl).Bj);have sB:=lK (sB.o.on hC (.int .i64 ((s1.k:Int)+1)));have L4:=lK (L4.o.on hC (.int .i64 ((s1.k:Int)+1)));clear r1 f1;generalize W10.setCell _ _=V2 at*
     try simp only[Act.put]
     clear STo
     go_wp2_with (go_at_call 24;(refine(tR.o _ _ _ ST.o.inv).mono ?_))
     rintro e W11 h3;cases r2 with
     |stop wd a=>
      obtain⟨rfl,qH,qG,hk⟩:=h3;have HK:=lK (ST.o.Bj.trans hk);have HE:Hid (r0=Rz.stop wd a):=HG;clear hk;go_wp2;rw[HE.o];exact⟨rfl,rfl,qH,qG,HK.o⟩
     |ok q=>
      obtain⟨x,px,s2⟩:=q;obtain⟨c,ub,uZ,rfl,h4,h5⟩:=h3;have HEE:Hid (r0=(pass C.ts s2 93).bind fun s=>(Rz.ok (Cd l x,(0:Int),s):Rz (Tm×Int×RS))):=HG;have C6:Hid (c.size=6):=lK (by have:=h5.len;simpa using this);have CO:=lK (AT.Bq h5);have T72:Hid (T7<V2.heap.size/\V.heap.size<=V2.heap.size/\w.heap.size<T7):=lK (by have h1:=sB.o.lt;have h2:=TV7.o;have h3:=HV.o;omega);have sB:=lK (sB.o.step hC h4.Bj);have TX:=lK (AT.low (AT.ED h5 T72.o.1 c) T72.o.2.1);have HS:=lK (GZ.eZ (GZ.Jh hC HS.o h4.Bj) c);have ST:=lK ((ST.o.call h4).row hC sB.o.sf (by have:=T72.o;omega) c);have L4:=lK ((L4.o.step hC h4.Bj).Bu (nM T72.o.2.2) c);have HR9:=lK (sB.o.row c);clear h4 h5 tR HG
      go_upto_region 25 with(refine F8 rfl _ _ rfl T7 c rfl rfl _ sB.o.h rfl C6.o CO.o ?_)
      clear sB;have sB:=HR9;clear HR9;generalize W11.setRow T7 c=W14 at*
      try simp only[Act.put]
      have vV:=lK (Og hC ST.o.inv 93);obtain⟨q,hq⟩:∃q,q=pass C.ts s2 93:=⟨_,rfl⟩;rw[<-hq]at vV;have HE:Hid (r0=q.bind fun s=>(Rz.ok (Cd l x,(0:Int),s):Rz (Tm×Int×RS))):=lK (by rw[HEE.o,hq]);clear hq
      go_wp2_with (go_at_call 67;(refine vV.o.mono ?_))
      rintro e W12 h8;cases q with
      |stop wd a=>
       obtain⟨rfl,hk⟩:=h8;have HK:=lK (ST.o.Bj.trans hk);have HF:Hid (r0=Rz.stop wd a):=HE;clear hk;go_wp2;rw[HF.o];exact⟨rfl,rfl,ub,uZ,HK.o⟩
      |ok s3=>
       obtain⟨rfl,h9⟩:=h8;have HF:Hid (r0=Rz.ok (Cd l x,(0:Int),s3)):=HE;have ST:=lK (ST.o.call h9);have L4:=lK (L4.o.step hC h9.Bj);have sB:=lK (sB.o.step hC h9.Bj);have HS:=lK (GZ.Jh hC HS.o h9.Bj);have TX:=lK (AT.K9 hC TX.o h9.Bj);clear h9 vV;have HVW:Hid (V.heap.size<=W12.heap.size):=lK (by have h1:=sB.o.lt;have h2:=TV7.o;omega);have vP:=lK (Qm W12 (Sn C V.heap.size ub uZ W12) (fun b hb=>hb.2.2.1) (.slice va vn vc) l (HS.o.Ak (fun _ _=>rfl) (fun b hb=>hb.1)) x c TX.o HL.o)
       go_wp2_with (first|(refine KK rfl _ rfl T7 c C6.o rfl sB.o.h ?_)|(go_at_call 70;(refine vP.o.mono ?_)))
       rintro e W13 ⟨c',rfl,sD,b⟩;have D6:Hid (c'.size=6):=lK (by have:=sD.len;simpa using this);have D1:=lK (AT.Bq sD);have TY:Hid (AT W13 (Sn C V.heap.size ub uZ W13) c'.toList (Cd l x)):=lK (AT.imp sD (fun k hk=>hk.elim (fun h=>⟨h.1,h.2.AY b.size⟩) (fun h=>⟨lg HVW.o h.1,Sf.new ST.o.inv h.1 h.2⟩)));have L4:=lK (L4.o.below b);have ST:=lK (ST.o.below hC b);clear sD b vP
       go_wp2_with (refine F8 rfl _ _ rfl w.heap.size c' rfl rfl _ L4.o.h rfl D6.o D1.o ?_)
       show bodyPost prog Tryz.f39 (Out C w nv tv r0) _ _ _;rw[HF.o];refine lS (v:= .tuple #[.agg c',.int .i64 0]) ?_ rfl ⟨c',ub,uZ,rfl,ST.o.row hC L4.o.sf (lM _) _,AT.low (AT.ED TY.o HV.o _) (mW HV.o)⟩;exact results_cell_tmp rfl _ _ w.heap.size 31 c' (0,0) _ (.int .i64 0) rfl rfl (mF _ _ _ _ _ _ L4.o.h) mE rfl (by rw[D6.o];exact Cg)
  ·
   have h:=HI.o;have ih:=IH.o;have hf:=HF.o;have hu:=HU.o;have qO:=sT.o;have hp:=p91;have qj:=p93;clear k4 k5 k3 k6 k7 p40 p91 p93;have qY:=Bv hp;have su:Pz.AG (now C.ts s) 40=false:=Dj hp (by decide);have hn:Pz.AG (now C.ts s) 123=false:=Dj hp (by decide);have e1:A6 C.ts C.O C.qt CZ (n+1) s most=Aq C.ts C.O C.qt CZ n (s.on 2) DR (now C.ts s) most:=by
    rw[A6];exact(lL (by rw[qY];decide)).trans ((lL (by rw[qY];decide)).trans ((lL (by rw[qY];decide)).trans ((lL (by rw[qY];decide)).trans ((lL (by rw[su];decide)).trans ((lL (by rw[hp,qj];decide)).trans ((lL (by rw[hn];simp)).trans (lQ hp)))))))
   rw[e1]at qO;clear e1;have rD:=lK (Bd.two hC h.bd hp qj);have uU:=lK (fun W qH qG (hW:A0 C W (s.on 2) qH qG)=>ih.named (s.on 2) (DR) (now C.ts s) most W qH qG hW (by decide) (by have:=rD.o.kl;have:(s.on 2).k=s.k+2:=rfl;omega) rK qw);clear ih;obtain⟨r,hr⟩:∃r,r=Aq C.ts C.O C.qt CZ n (s.on 2) DR (now C.ts s) most:=⟨_,rfl⟩;rw[<-hr]at uU qO;have tp:=lK (fun W (hW:A0 C W s nv tv)=>Ot hC hW);obtain⟨y,hy⟩:∃y,y=Jc C.ts s 1:=⟨_,rfl⟩;rw[<-hy]at tp qj;have CY:=lK (fun W=>Au y 93 W);rw[qj]at CY;clear hr hy;rw[<-hu]at uU hp qY su hn;have sQ:=lK (fun W=>Au u 40 W);rw[su]at sQ;have wg:=lK (fun W=>Au u 91 W);rw[hp]at wg;have yz:=lK (fun W=>Au u 123 W);rw[hn]at yz;clear sT;subst r0;clear h hu hf qj;have e4:((u.kind:Int)==4)=false:=(AL u.kind 4).trans (lO (by rw[qY];decide));have e5:((u.kind:Int)==5)=false:=(AL u.kind 5).trans (lO (by rw[qY];decide));have e3:((u.kind:Int)==3)=false:=(AL u.kind 3).trans (lO (by rw[qY];decide));have e6:((u.kind:Int)==6)=false:=(AL u.kind 6).trans (lO (by rw[qY];decide));have e7:((u.kind:Int)==7)=false:=(AL u.kind 7).trans (lO (by rw[qY];decide));clear hp qY su hn
   go_wp2_with (first|(refine Ei rfl _ rfl T u rfl L6.o.h ?_)|(go_at_call 41;(with_reducible refine(sQ.o _).mono ?_)))
   first|rintro e W2 rfl b|rintro e W2 ⟨rfl,b⟩
   have ST:=lK (ST.o.below hC b);have L4:=lK (L4.o.below b);have L6:=lK (L6.o.below b);clear b;clear x0 e4 e5 e3 e6 e7
   go_wp2_with (first|(refine Ei rfl _ rfl T u rfl L6.o.h ?_)|(go_at_call 41;(with_reducible refine(wg.o _).mono ?_)))
   first|rintro e W3 rfl b|rintro e W3 ⟨rfl,b⟩
   have ST:=lK (ST.o.below hC b);have L4:=lK (L4.o.below b);have L6:=lK (L6.o.below b);clear b
   go_wp2_with (first|(refine Ei rfl _ rfl T u rfl L6.o.h ?_)|(go_at_call 68;(refine(tp.o _ ST.o.inv).mono ?_)))
   first|rintro e W4 rfl b|rintro e W4 ⟨rfl,b⟩
   have ST:=lK (ST.o.below hC b);have L4:=lK (L4.o.below b);have L6:=lK (L6.o.below b);clear b
   go_wp2_with (go_at_call 41;(with_reducible refine(CY.o _).mono ?_))
   first|rintro e W5 rfl b|rintro e W5 ⟨rfl,b⟩
   have ST:=lK (ST.o.below hC b);have L4:=lK (L4.o.below b);have L6:=lK (L6.o.below b);clear b
   go_wp2_with (first|(refine Ei rfl _ rfl T u rfl L6.o.h ?_)|(go_at_call 41;(with_reducible refine(yz.o _).mono ?_)))
   first|rintro e W6 rfl b|rintro e W6 ⟨rfl,b⟩
   have ST:=lK (ST.o.below hC b);have L4:=lK (L4.o.below b);have L6:=lK (L6.o.below b);clear b
   go_wp2_with (first|(refine Ei rfl _ rfl T u rfl L6.o.h ?_)|(go_at_call 41;(with_reducible refine(wg.o _).mono ?_)))
   first|rintro e W7 rfl b|rintro e W7 ⟨rfl,b⟩
   have ST:=lK (ST.o.below hC b);have L4:=lK (L4.o.below b);have L6:=lK (L6.o.below b);clear b;have r1:=ST.o.inv.hR.cells.2.1;have f1:=Lib.frozen_of_heap ST.o.inv.hR.h 1
   go_upto_region 34 with fail
   have ST:=lK (ST.o.on hC rD.o (v:= .int .i64 ((s.k:Int)+2)) rfl);have L4:=lK (L4.o.on hC (.int .i64 ((s.k:Int)+2)));have L6:=lK (L6.o.on hC (.int .i64 ((s.k:Int)+2)));clear r1 f1;generalize W7.setCell _ _=V at*
   try simp only[Act.put]
   go_wp2_with (first|(refine Ei rfl _ rfl T u rfl L6.o.h ?_)|(go_at_call 71;(refine(uU.o _ _ _ ST.o.inv).mono ?_)))
   rintro e W3 h3
   
   cases r with
   |stop wd a=>
    obtain⟨rfl,qH,qG,hk⟩:=h3;have HK:=lK (ST.o.Bj.trans hk);clear hk;go_wp2;exact⟨rfl,rfl,qH,qG,HK.o⟩
   |ok q=>
    obtain⟨x,px,s1⟩:=q;obtain⟨c,qI,qJ,rfl,h4,h5⟩:=h3;have C6:Hid (c.size=6):=lK (by have:=h5.len;simpa using this);have CO:=lK (AT.Bq h5);have HV:Hid (w.heap.size<V.heap.size):=lK L4.o.lt;have ST:=lK (ST.o.call h4);have L4:=lK (L4.o.step hC h4.Bj);have TX:=lK h5;clear h4 h5 uU
    go_wp2_with (refine F8 rfl _ _ rfl w.heap.size c rfl rfl _ L4.o.h rfl C6.o CO.o ?_)
    refine lS (v:= .tuple #[.agg c,.int .i64 px]) ?_ rfl ⟨c,qI,qJ,rfl,ST.o.row hC L4.o.sf (lM _) _,AT.low (AT.ED TX.o HV.o _) (mW HV.o)⟩;exact results_cell_tmp rfl _ _ w.heap.size 31 c (0,0) _ (.int .i64 px) rfl rfl (mF _ _ _ _ _ _ L4.o.h) mE rfl (by rw[C6.o];exact Cg)
 rw[oT]at p91;by_cases p123:Pz.AG (now C.ts s) 123=true
 ·cases p125:Pz.AG (Jc C.ts s 1) 125
  ·
   have h:=HI.o;have ih:=IH.o;have hf:=HF.o;have hu:=HU.o;have qO:=sT.o;have hp:=p123;have qj:=p125;clear k4 k5 k3 k6 k7 p40 p91 p123 p125;have qY:=Bv hp;have su:Pz.AG (now C.ts s) 40=false:=Dj hp (by decide);have hn:Pz.AG (now C.ts s) 91=false:=Dj hp (by decide);have e1:A6 C.ts C.O C.qt CZ (n+1) s most=(Ay C.ts C.O C.qt CZ n (s.on 1) 1200).bind fun(x,_,s)=>(pass C.ts s 125).bind fun s=>(Rz.ok (Tm.cmp DU [x],(0:Int),s):Rz (Tm×Int×RS)):=by
    rw[A6];exact(lL (by rw[qY];decide)).trans ((lL (by rw[qY];decide)).trans ((lL (by rw[qY];decide)).trans ((lL (by rw[qY];decide)).trans ((lL (by rw[su];decide)).trans ((lL (by rw[hn];simp)).trans (lQ (by rw[hp,qj];rfl)))))))
   rw[e1]at qO;clear e1;have rD:=lK (h.bd.AG hC.last hp);have tR:=lK (fun W qH qG (hW:A0 C W (s.on 1) qH qG)=>ih.term (s.on 1) 1200 W qH qG hW (by have:=h.bd.kl;show 4*(C.ts.length-(s.k+1))+3<=n;omega) (by omega) (by omega));clear ih;generalize Ay C.ts C.O C.qt CZ n (s.on 1) 1200=r at tR qO;have tp:=lK (fun W (hW:A0 C W s nv tv)=>Ot hC hW);obtain⟨y,hy⟩:∃y,y=Jc C.ts s 1:=⟨_,rfl⟩;rw[<-hy]at tp qj;have CY:=lK (fun W=>Au y 125 W);rw[qj]at CY;clear hy;rw[<-hu]at hp qY su hn;have sQ:=lK (fun W=>Au u 40 W);rw[su]at sQ;have wg:=lK (fun W=>Au u 123 W);rw[hp]at wg;have yz:=lK (fun W=>Au u 91 W);rw[hn]at yz;clear sT;subst r0;clear h hu hf qj;have e4:((u.kind:Int)==4)=false:=(AL u.kind 4).trans (lO (by rw[qY];decide));have e5:((u.kind:Int)==5)=false:=(AL u.kind 5).trans (lO (by rw[qY];decide));have e3:((u.kind:Int)==3)=false:=(AL u.kind 3).trans (lO (by rw[qY];decide));have e6:((u.kind:Int)==6)=false:=(AL u.kind 6).trans (lO (by rw[qY];decide));have e7:((u.kind:Int)==7)=false:=(AL u.kind 7).trans (lO (by rw[qY];decide));clear hp qY su hn
   go_wp2_with (first|(refine Ei rfl _ rfl T u rfl L6.o.h ?_)|(go_at_call 41;(with_reducible refine(sQ.o _).mono ?_)))
   first|rintro e W2 rfl b|rintro e W2 ⟨rfl,b⟩
   have ST:=lK (ST.o.below hC b);have L4:=lK (L4.o.below b);have L6:=lK (L6.o.below b);clear b;clear x0 e4 e5 e3 e6 e7
   go_wp2_with (first|(refine Ei rfl _ rfl T u rfl L6.o.h ?_)|(go_at_call 41;(with_reducible refine(yz.o _).mono ?_)))
   first|rintro e W3 rfl b|rintro e W3 ⟨rfl,b⟩
   have ST:=lK (ST.o.below hC b);have L4:=lK (L4.o.below b);have L6:=lK (L6.o.below b);clear b
   go_wp2_with (first|(refine Ei rfl _ rfl T u rfl L6.o.h ?_)|(go_at_call 41;(with_reducible refine(wg.o _).mono ?_)))
   first|rintro e W4 rfl b|rintro e W4 ⟨rfl,b⟩
   have ST:=lK (ST.o.below hC b);have L4:=lK (L4.o.below b);have L6:=lK (L6.o.below b);clear b
   go_wp2_with (first|(refine Ei rfl _ rfl T u rfl L6.o.h ?_)|(go_at_call 68;(refine(tp.o _ ST.o.inv).mono ?_)))
   first|rintro e W5 rfl b|rintro e W5 ⟨rfl,b⟩
   have ST:=lK (ST.o.below hC b);have L4:=lK (L4.o.below b);have L6:=lK (L6.o.below b);clear b
   go_wp2_with (go_at_call 41;(with_reducible refine(CY.o _).mono ?_))
   first|rintro e W6 rfl b|rintro e W6 ⟨rfl,b⟩
   have ST:=lK (ST.o.below hC b);have L4:=lK (L4.o.below b);have L6:=lK (L6.o.below b);clear b;have r1:=ST.o.inv.hR.cells.2.1;have f1:=Lib.frozen_of_heap ST.o.inv.hR.h 1
   go_upto_region 29 with fail
   have ST:=lK (ST.o.on hC rD.o (v:= .int .i64 ((s.k:Int)+1)) rfl);have L4:=lK (L4.o.on hC (.int .i64 ((s.k:Int)+1)));have L6:=lK (L6.o.on hC (.int .i64 ((s.k:Int)+1)));clear r1 f1;generalize W6.setCell _ _=V at*
   try simp only[Act.put]
   clear L6
   go_wp2_with (go_at_call 24;(refine(tR.o _ _ _ ST.o.inv).mono ?_))
   rintro e W3 h3;cases r with
   |stop wd a=>
    obtain⟨rfl,qH,qG,hk⟩:=h3;have HK:=lK (ST.o.Bj.trans hk);clear hk;go_wp2;exact⟨rfl,rfl,qH,qG,HK.o⟩
   |ok q=>
    obtain⟨x,px,s1⟩:=q;obtain⟨c,qI,qJ,rfl,h4,h5⟩:=h3;have C6:Hid (c.size=6):=lK (by have:=h5.len;simpa using this);have CO:=lK (AT.Bq h5);have HV:Hid (w.heap.size<V.heap.size):=lK L4.o.lt;have NE:=lK (lT W3 (.cells zV 31));have qV:=(Below.row ((Below.refl W3.heap.size W3).alloc (lM _) (.cells zV 31)) (lM _) c);have sB:=lK (Lc.row (Lc.new h4.inv zV 31) c);have ST:=lK ((ST.o.call h4).below hC qV);have L4:=lK ((L4.o.step hC h4.Bj).below qV);have TX:Hid (AT ((W3.alloc (.cells zV 31)).setRow W3.heap.size c) (Sn C V.heap.size qI qJ ((W3.alloc (.cells zV 31)).setRow W3.heap.size c)) c.toList x):=lK (h5.Ak (fun b hb=>qV.block b hb.2.2.1) (fun b hb=>⟨hb.1,hb.2.AY qV.size⟩));have h4s:=lK h4.Bj.kept.size;clear h4 h5 qV tR
    go_upto_region 30 with(refine F8 rfl _ _ rfl W3.heap.size c rfl rfl _ NE.o rfl C6.o CO.o ?_)
    clear NE;generalize(W3.alloc (.cells zV 31)).setRow W3.heap.size c=W8 at*;have TV7:Hid (V.heap.size<=W3.heap.size):=lK h4s.o;generalize W3.heap.size=T7 at*
    try simp only[Act.put]
    have vV:=lK (Og hC ST.o.inv 125);obtain⟨q,hq⟩:∃q,q=pass C.ts s1 125:=⟨_,rfl⟩;rw[<-hq]at vV;have HQ:=lK hq;clear hq
    go_wp2_with (go_at_call 67;(refine vV.o.mono ?_))
    rintro e W4 h8;cases q with
    |stop wd a=>
     obtain⟨rfl,hk⟩:=h8;have HK:=lK (ST.o.Bj.trans hk);clear hk;go_wp2;refine⟨rfl,?_⟩;show Out C w nv tv ((pass C.ts s1 125).bind fun s=>(Rz.ok (Tm.cmp DU [x],(0:Int),s):Rz (Tm×Int×RS))) _ _;rw[<-HQ.o];exact⟨rfl,qI,qJ,HK.o⟩
    |ok s2=>
     obtain⟨rfl,h9⟩:=h8;have ST:=lK (ST.o.call h9);have L4:=lK (L4.o.step hC h9.Bj);have sB:=lK (sB.o.step hC h9.Bj);have TX:=lK (AT.K9 hC TX.o h9.Bj);clear h9;have NW4:Hid (w.heap.size<W4.heap.size):=lK L4.o.lt;have HVW:Hid (V.heap.size<=W4.heap.size):=lK (by have:=ST.o;have h1:=sB.o.lt;have h2:=TV7.o;omega);have LA:=lK (L4.o.below (Bzz (.cells c 31)));have STA:=lK (ST.o.below hC (Bzz (.cells c 31)));have TXA:=lK (AT.Nc ST.o.inv HVW.o DU TX.o)
     go_wp2_with (first|(refine KK rfl _ rfl T7 c C6.o rfl sB.o.h ?_)|(refine Hn rfl _ rfl c C6.o rfl ?_)|(refine F8 rfl _ _ rfl w.heap.size (Gy DU (.slice (some ⟨W4.heap.size,0,none⟩) 1 1)) rfl rfl _ LA.o.h rfl rfl (IJ _ rfl) ?_))
     show bodyPost prog Tryz.f39 (Out C w nv tv ((pass C.ts s1 125).bind fun s=>(Rz.ok (Tm.cmp DU [x],(0:Int),s):Rz (Tm×Int×RS)))) _ _ _;rw[<-HQ.o];refine lS (v:= .tuple #[.agg (Gy DU (.slice (some ⟨W4.heap.size,0,none⟩) 1 1)),.int .i64 0]) ?_ rfl ⟨(Gy DU (.slice (some ⟨W4.heap.size,0,none⟩) 1 1)),qI,qJ,rfl,STA.o.row hC LA.o.sf (lM _) _,AT.low (AT.ED TXA.o HV.o _) (mW HV.o)⟩;exact results_cell_tmp rfl _ _ w.heap.size 31 (Gy DU (.slice (some ⟨W4.heap.size,0,none⟩) 1 1)) (0,0) _ (.int .i64 0) rfl rfl (mF _ _ _ _ _ _ LA.o.h) mE rfl Cg
  ·
   have h:=HI.o;have ih:=IH.o;have hf:=HF.o;have hu:=HU.o;have qO:=sT.o;have hp:=p123;have qj:=p125;clear k4 k5 k3 k6 k7 p40 p91 p123 p125;have qY:=Bv hp;have su:Pz.AG (now C.ts s) 40=false:=Dj hp (by decide);have hn:Pz.AG (now C.ts s) 91=false:=Dj hp (by decide);have e1:A6 C.ts C.O C.qt CZ (n+1) s most=Aq C.ts C.O C.qt CZ n (s.on 2) DU (now C.ts s) most:=by
    rw[A6];exact(lL (by rw[qY];decide)).trans ((lL (by rw[qY];decide)).trans ((lL (by rw[qY];decide)).trans ((lL (by rw[qY];decide)).trans ((lL (by rw[su];decide)).trans ((lL (by rw[hn];simp)).trans ((lL (by rw[hp,qj];decide)).trans ((lL (by rw[hn];decide)).trans (lQ hp))))))))
   rw[e1]at qO;clear e1;have rD:=lK (Bd.two hC h.bd hp qj);have uU:=lK (fun W qH qG (hW:A0 C W (s.on 2) qH qG)=>ih.named (s.on 2) (DU) (now C.ts s) most W qH qG hW (by decide) (by have:=rD.o.kl;have:(s.on 2).k=s.k+2:=rfl;omega) rK qw);clear ih;obtain⟨r,hr⟩:∃r,r=Aq C.ts C.O C.qt CZ n (s.on 2) DU (now C.ts s) most:=⟨_,rfl⟩;rw[<-hr]at uU qO;have tp:=lK (fun W (hW:A0 C W s nv tv)=>Ot hC hW);obtain⟨y,hy⟩:∃y,y=Jc C.ts s 1:=⟨_,rfl⟩;rw[<-hy]at tp qj;have CY:=lK (fun W=>Au y 125 W);rw[qj]at CY;clear hr hy;rw[<-hu]at uU hp qY su hn;have sQ:=lK (fun W=>Au u 40 W);rw[su]at sQ;have wg:=lK (fun W=>Au u 123 W);rw[hp]at wg;have yz:=lK (fun W=>Au u 91 W);rw[hn]at yz;clear sT;subst r0;clear h hu hf qj;have e4:((u.kind:Int)==4)=false:=(AL u.kind 4).trans (lO (by rw[qY];decide));have e5:((u.kind:Int)==5)=false:=(AL u.kind 5).trans (lO (by rw[qY];decide));have e3:((u.kind:Int)==3)=false:=(AL u.kind 3).trans (lO (by rw[qY];decide));have e6:((u.kind:Int)==6)=false:=(AL u.kind 6).trans (lO (by rw[qY];decide));have e7:((u.kind:Int)==7)=false:=(AL u.kind 7).trans (lO (by rw[qY];decide));clear hp qY su hn
   go_wp2_with (first|(refine Ei rfl _ rfl T u rfl L6.o.h ?_)|(go_at_call 41;(with_reducible refine(sQ.o _).mono ?_)))
   first|rintro e W2 rfl b|rintro e W2 ⟨rfl,b⟩
   have ST:=lK (ST.o.below hC b);have L4:=lK (L4.o.below b);have L6:=lK (L6.o.below b);clear b;clear x0 e4 e5 e3 e6 e7
   go_wp2_with (first|(refine Ei rfl _ rfl T u rfl L6.o.h ?_)|(go_at_call 41;(with_reducible refine(yz.o _).mono ?_)))
   first|rintro e W3 rfl b|rintro e W3 ⟨rfl,b⟩
   have ST:=lK (ST.o.below hC b);have L4:=lK (L4.o.below b);have L6:=lK (L6.o.below b);clear b
   go_wp2_with (first|(refine Ei rfl _ rfl T u rfl L6.o.h ?_)|(go_at_call 41;(with_reducible refine(wg.o _).mono ?_)))
   first|rintro e W4 rfl b|rintro e W4 ⟨rfl,b⟩
   have ST:=lK (ST.o.below hC b);have L4:=lK (L4.o.below b);have L6:=lK (L6.o.below b);clear b
   go_wp2_with (first|(refine Ei rfl _ rfl T u rfl L6.o.h ?_)|(go_at_call 68;(refine(tp.o _ ST.o.inv).mono ?_)))
   first|rintro e W5 rfl b|rintro e W5 ⟨rfl,b⟩
   have ST:=lK (ST.o.below hC b);have L4:=lK (L4.o.below b);have L6:=lK (L6.o.below b);clear b
   go_wp2_with (go_at_call 41;(with_reducible refine(CY.o _).mono ?_))
   first|rintro e W6 rfl b|rintro e W6 ⟨rfl,b⟩
   have ST:=lK (ST.o.below hC b);have L4:=lK (L4.o.below b);have L6:=lK (L6.o.below b);clear b
   go_wp2_with (first|(refine Ei rfl _ rfl T u rfl L6.o.h ?_)|(go_at_call 41;(with_reducible refine(yz.o _).mono ?_)))
   first|rintro e W7 rfl b|rintro e W7 ⟨rfl,b⟩
   have ST:=lK (ST.o.below hC b);have L4:=lK (L4.o.below b);have L6:=lK (L6.o.below b);clear b
   go_wp2_with (first|(refine Ei rfl _ rfl T u rfl L6.o.h ?_)|(go_at_call 41;(with_reducible refine(wg.o _).mono ?_)))
   first|rintro e W8 rfl b|rintro e W8 ⟨rfl,b⟩
   have ST:=lK (ST.o.below hC b);have L4:=lK (L4.o.below b);have L6:=lK (L6.o.below b);clear b;have r1:=ST.o.inv.hR.cells.2.1;have f1:=Lib.frozen_of_heap ST.o.inv.hR.h 1
   go_upto_region 37 with fail
   have ST:=lK (ST.o.on hC rD.o (v:= .int .i64 ((s.k:Int)+2)) rfl);have L4:=lK (L4.o.on hC (.int .i64 ((s.k:Int)+2)));have L6:=lK (L6.o.on hC (.int .i64 ((s.k:Int)+2)));clear r1 f1;generalize W8.setCell _ _=V at*
   try simp only[Act.put]
   go_wp2_with (first|(refine Ei rfl _ rfl T u rfl L6.o.h ?_)|(go_at_call 71;(refine(uU.o _ _ _ ST.o.inv).mono ?_)))
   rintro e W3 h3
   
   cases r with
   |stop wd a=>
    obtain⟨rfl,qH,qG,hk⟩:=h3;have HK:=lK (ST.o.Bj.trans hk);clear hk;go_wp2;exact⟨rfl,rfl,qH,qG,HK.o⟩
   |ok q=>
    obtain⟨x,px,s1⟩:=q;obtain⟨c,qI,qJ,rfl,h4,h5⟩:=h3;have C6:Hid (c.size=6):=lK (by have:=h5.len;simpa using this);have CO:=lK (AT.Bq h5);have HV:Hid (w.heap.size<V.heap.size):=lK L4.o.lt;have ST:=lK (ST.o.call h4);have L4:=lK (L4.o.step hC h4.Bj);have TX:=lK h5;clear h4 h5 uU
    go_wp2_with (refine F8 rfl _ _ rfl w.heap.size c rfl rfl _ L4.o.h rfl C6.o CO.o ?_)
    refine lS (v:= .tuple #[.agg c,.int .i64 px]) ?_ rfl ⟨c,qI,qJ,rfl,ST.o.row hC L4.o.sf (lM _) _,AT.low (AT.ED TX.o HV.o _) (mW HV.o)⟩;exact results_cell_tmp rfl _ _ w.heap.size 31 c (0,0) _ (.int .i64 px) rfl rfl (mF _ _ _ _ _ _ L4.o.h) mE rfl (by rw[C6.o];exact Cg)
 rw[oT]at p123;cases vG:Cb (now C.ts s)
 ·
  have h:=HI.o;have ih:=IH.o;have hf:=HF.o;have hu:=HU.o;have qO:=sT.o;have hn:=vG;have hk4:=k4;have hk5:=k5;have ux:=k3;have zS:=k6;have zQ:=k7;have su:=p40;have xd:=p91;have tY:=p123;clear k4 k5 k3 k6 k7 p40 p91 p123 vG;have e1:A6 C.ts C.O C.qt CZ (n+1) s most=Pz.stuck C.ts s:=by
   rw[A6];exact(lL (by omega)).trans ((lL ux).trans ((lL zS).trans ((lL zQ).trans ((lL (by rw[su];decide)).trans ((lL (by rw[xd];simp)).trans ((lL (by rw[tY];simp)).trans ((lL (by rw[xd];decide)).trans ((lL (by rw[tY];decide)).trans (lL (by rw[hn];decide))))))))))
  rw[e1]at qO;clear e1 ih;have CST:=lK (fun W (hW:A0 C W s nv tv)=>Q7 hC hW);unfold Pz.stuck at qO;generalize(if(now C.ts s).kind=10 then 1 else if(now C.ts s).kind=9 then 2 else 0)=wd at*;have xI:=lK (fun W=>Ru (now C.ts s) W);rw[hn]at xI;rw[<-hu]at CST xI hk4 hk5 ux zS zQ su xd tY qO;have sQ:=lK (fun W=>Au u 40 W);rw[su]at sQ;have vy:=lK (fun W=>Au u 91 W);rw[xd]at vy;have tw:=lK (fun W=>Au u 123 W);rw[tY]at tw;clear sT;subst r0;clear h hu hf hn;have e4:((u.kind:Int)==4)=false:=(AL u.kind 4).trans (lO hk4);have e5:((u.kind:Int)==5)=false:=(AL u.kind 5).trans (lO hk5);have e3:((u.kind:Int)==3)=false:=(AL u.kind 3).trans (lO ux);have e6:((u.kind:Int)==6)=false:=(AL u.kind 6).trans (lO zS);have e7:((u.kind:Int)==7)=false:=(AL u.kind 7).trans (lO zQ);clear hk4 hk5 ux zS zQ su xd tY
  go_wp2_with (first|(refine Ei rfl _ rfl T u rfl L6.o.h ?_)|(go_at_call 41;(with_reducible refine(sQ.o _).mono ?_)))
  first|rintro e W2 rfl b|rintro e W2 ⟨rfl,b⟩
  have ST:=lK (ST.o.below hC b);have L4:=lK (L4.o.below b);have L6:=lK (L6.o.below b);clear b;clear x0 e4 e5 e3 e6 e7
  go_wp2_with (first|(refine Ei rfl _ rfl T u rfl L6.o.h ?_)|(go_at_call 41;(with_reducible refine(vy.o _).mono ?_)))
  first|rintro e W3 rfl b|rintro e W3 ⟨rfl,b⟩
  have ST:=lK (ST.o.below hC b);have L4:=lK (L4.o.below b);have L6:=lK (L6.o.below b);clear b
  go_wp2_with (first|(refine Ei rfl _ rfl T u rfl L6.o.h ?_)|(go_at_call 41;(with_reducible refine(tw.o _).mono ?_)))
  first|rintro e W4 rfl b|rintro e W4 ⟨rfl,b⟩
  have ST:=lK (ST.o.below hC b);have L4:=lK (L4.o.below b);have L6:=lK (L6.o.below b);clear b
  go_wp2_with (first|(refine Ei rfl _ rfl T u rfl L6.o.h ?_)|(go_at_call 41;(with_reducible refine(vy.o _).mono ?_)))
  first|rintro e W5 rfl b|rintro e W5 ⟨rfl,b⟩
  have ST:=lK (ST.o.below hC b);have L4:=lK (L4.o.below b);have L6:=lK (L6.o.below b);clear b
  go_wp2_with (first|(refine Ei rfl _ rfl T u rfl L6.o.h ?_)|(go_at_call 41;(with_reducible refine(tw.o _).mono ?_)))
  first|rintro e W6 rfl b|rintro e W6 ⟨rfl,b⟩
  have ST:=lK (ST.o.below hC b);have L4:=lK (L4.o.below b);have L6:=lK (L6.o.below b);clear b
  go_wp2_with (first|(refine Ei rfl _ rfl T u rfl L6.o.h ?_)|(go_at_call 40;(with_reducible refine(xI.o _).mono ?_)))
  first|rintro e W8 rfl b|rintro e W8 ⟨rfl,b⟩
  have ST:=lK (ST.o.below hC b);have L4:=lK (L4.o.below b);have L6:=lK (L6.o.below b);clear b
  go_wp2_with (go_at_call 26;(refine(CST.o _ ST.o.inv).mono ?_))
  first|rintro e W9 rfl b|rintro e W9 ⟨rfl,b⟩
  have HK:=lK (ST.o.below hC b).Bj;clear b;go_wp2;exact⟨rfl,rfl,nv,tv,HK.o⟩
 ·
  have h:=HI.o;have ih:=IH.o;have hf:=HF.o;have hu:=HU.o;have qO:=sT.o;have hp:=vG;clear k4 k5 k3 k6 k7 p40 p91 p123 vG;have hki:(now C.ts s).kind=1\/(now C.ts s).kind=2:=by unfold Cb at hp;simpa using hp
  have hk4:(now C.ts s).kind≠4:=by omega
  have hk5:(now C.ts s).kind≠5:=by omega
  have ux:(now C.ts s).kind≠3:=by omega
  have zS:(now C.ts s).kind≠6:=by omega
  have zQ:(now C.ts s).kind≠7:=by omega
  have su:Pz.AG (now C.ts s) 40=false:=Ha hp;have xd:Pz.AG (now C.ts s) 91=false:=Ha hp;have tY:Pz.AG (now C.ts s) 123=false:=Ha hp;have e1:A6 C.ts C.O C.qt CZ (n+1) s most=Aq C.ts C.O C.qt CZ n (s.on 1) (now C.ts s).tx (now C.ts s) most:=by
   rw[A6];exact(lL (by omega)).trans ((lL ux).trans ((lL zS).trans ((lL zQ).trans ((lL (by rw[su];decide)).trans ((lL (by rw[xd];simp)).trans ((lL (by rw[tY];simp)).trans ((lL (by rw[xd];decide)).trans ((lL (by rw[tY];decide)).trans (lQ hp)))))))))
  rw[e1]at qO;clear e1;have rD:=lK (Bd.name hC.last h.bd hp);have uU:=lK (fun W qH qG (hW:A0 C W (s.on 1) qH qG)=>ih.named (s.on 1) ((now C.ts s).tx) (now C.ts s) most W qH qG hW (hC.tk _ (EN h)).1 (by have:=rD.o.kl;have:(s.on 1).k=s.k+1:=rfl;omega) rK qw);clear ih;obtain⟨r,hr⟩:∃r,r=Aq C.ts C.O C.qt CZ n (s.on 1) (now C.ts s).tx (now C.ts s) most:=⟨_,rfl⟩;rw[<-hr]at uU qO;have xI:=lK (fun W=>Ru (now C.ts s) W);rw[hp]at xI;clear hr;rw[<-hu]at uU xI hk4 hk5 ux zS zQ su xd tY;have sQ:=lK (fun W=>Au u 40 W);rw[su]at sQ;have vy:=lK (fun W=>Au u 91 W);rw[xd]at vy;have tw:=lK (fun W=>Au u 123 W);rw[tY]at tw;clear sT;subst r0;clear h hu hf hp;have e4:((u.kind:Int)==4)=false:=(AL u.kind 4).trans (lO hk4);have e5:((u.kind:Int)==5)=false:=(AL u.kind 5).trans (lO hk5);have e3:((u.kind:Int)==3)=false:=(AL u.kind 3).trans (lO ux);have e6:((u.kind:Int)==6)=false:=(AL u.kind 6).trans (lO zS);have e7:((u.kind:Int)==7)=false:=(AL u.kind 7).trans (lO zQ);clear hk4 hk5 ux zS zQ su xd tY
  go_wp2_with (first|(refine Ei rfl _ rfl T u rfl L6.o.h ?_)|(go_at_call 41;(with_reducible refine(sQ.o _).mono ?_)))
  first|rintro e W2 rfl b|rintro e W2 ⟨rfl,b⟩
  have ST:=lK (ST.o.below hC b);have L4:=lK (L4.o.below b);have L6:=lK (L6.o.below b);clear b;clear x0 e4 e5 e3 e6 e7
  go_wp2_with (first|(refine Ei rfl _ rfl T u rfl L6.o.h ?_)|(go_at_call 41;(with_reducible refine(vy.o _).mono ?_)))
  first|rintro e W3 rfl b|rintro e W3 ⟨rfl,b⟩
  have ST:=lK (ST.o.below hC b);have L4:=lK (L4.o.below b);have L6:=lK (L6.o.below b);clear b
  go_wp2_with (first|(refine Ei rfl _ rfl T u rfl L6.o.h ?_)|(go_at_call 41;(with_reducible refine(tw.o _).mono ?_)))
  first|rintro e W4 rfl b|rintro e W4 ⟨rfl,b⟩
  have ST:=lK (ST.o.below hC b);have L4:=lK (L4.o.below b);have L6:=lK (L6.o.below b);clear b
  go_wp2_with (first|(refine Ei rfl _ rfl T u rfl L6.o.h ?_)|(go_at_call 41;(with_reducible refine(vy.o _).mono ?_)))
  first|rintro e W5 rfl b|rintro e W5 ⟨rfl,b⟩
  have ST:=lK (ST.o.below hC b);have L4:=lK (L4.o.below b);have L6:=lK (L6.o.below b);clear b
  go_wp2_with (first|(refine Ei rfl _ rfl T u rfl L6.o.h ?_)|(go_at_call 41;(with_reducible refine(tw.o _).mono ?_)))
  first|rintro e W6 rfl b|rintro e W6 ⟨rfl,b⟩
  have ST:=lK (ST.o.below hC b);have L4:=lK (L4.o.below b);have L6:=lK (L6.o.below b);clear b
  go_wp2_with (first|(refine Ei rfl _ rfl T u rfl L6.o.h ?_)|(go_at_call 40;(with_reducible refine(xI.o _).mono ?_)))
  first|rintro e W8 rfl b|rintro e W8 ⟨rfl,b⟩
  have ST:=lK (ST.o.below hC b);have L4:=lK (L4.o.below b);have L6:=lK (L6.o.below b);clear b;have r1:=ST.o.inv.hR.cells.2.1;have f1:=Lib.frozen_of_heap ST.o.inv.hR.h 1
  go_upto_region 40 with fail
  have ST:=lK (ST.o.on hC rD.o (v:= .int .i64 ((s.k:Int)+1)) rfl);have L4:=lK (L4.o.on hC (.int .i64 ((s.k:Int)+1)));have L6:=lK (L6.o.on hC (.int .i64 ((s.k:Int)+1)));clear r1 f1;generalize W8.setCell _ _=V at*
  try simp only[Act.put]
  have x1:=(Af L6.o.h).2.1
  go_wp2_with (first|(refine Ei rfl _ rfl T u rfl L6.o.h ?_)|(go_at_call 71;(refine(uU.o _ _ _ ST.o.inv).mono ?_)))
  rintro e W3 h3;clear x1;cases r with
  |stop wd a=>
   obtain⟨rfl,qH,qG,hk⟩:=h3;have HK:=lK (ST.o.Bj.trans hk);clear hk;go_wp2;exact⟨rfl,rfl,qH,qG,HK.o⟩
  |ok q=>
   obtain⟨x,px,s1⟩:=q;obtain⟨c,qI,qJ,rfl,h4,h5⟩:=h3;have C6:Hid (c.size=6):=lK (by have:=h5.len;simpa using this);have CO:=lK (AT.Bq h5);have HV:Hid (w.heap.size<V.heap.size):=lK L4.o.lt;have ST:=lK (ST.o.call h4);have L4:=lK (L4.o.step hC h4.Bj);have TX:=lK h5;clear h4 h5 uU
   go_wp2_with (refine F8 rfl _ _ rfl w.heap.size c rfl rfl _ L4.o.h rfl C6.o CO.o ?_)
   refine lS (v:= .tuple #[.agg c,.int .i64 px]) ?_ rfl ⟨c,qI,qJ,rfl,ST.o.row hC L4.o.sf (lM _) _,AT.low (AT.ED TX.o HV.o _) (mW HV.o)⟩;exact results_cell_tmp rfl _ _ w.heap.size 31 c (0,0) _ (.int .i64 px) rfl rfl (mF _ _ _ _ _ _ L4.o.h) mE rfl (by rw[C6.o];exact Cg)
end Go.Proofs
