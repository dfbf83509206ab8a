import Derived.Test.YtpocgkiamgipdaaGreatDoorRdN
set_option maxRecDepth 1000000
set_option maxHeartbeats 0
set_option linter.unusedVariables false
set_option linter.unusedSimpArgs false
open Go.Proofs.Tryz
namespace Go.Proofs
open Go.RowKit Go.Hb Go.Pz
theorem fM {C:Cx}(hC:C.Ok) (hT:C.Za){n:Nat}(ih:Rec C n){s:RS} {nm:Bs} {t:Tk} {most:Int} {w:World} {nv tv:Value}(h:A0 C w s nv tv) (sh:nm.length<=1000000000) (hf:4*(C.ts.length-s.k)+4<=n+1) (rK:0<=most) (qw:most<=1200) (ht:t.kind=1) (hn:nm= [45]) (hu45:(now C.ts s).kind=4\/(now C.ts s).kind=5) (wE:(now C.ts s).ly=false):
  Calls prog 71 #[.pointer (some ⟨C.R,0,none⟩),.string (bs nm),Fk t,.int .i64 most] w (Out C w nv tv (Aq C.ts C.O C.qt CZ (n+1) s nm t most)):=by
 have hp:Pz.AG (now C.ts s) 40=false:=by
  cases hp:Pz.AG (now C.ts s) 40 with
  |false=>rfl
  |true=>have:=Bv hp;omega
 have e1:Aq C.ts C.O C.qt CZ (n+1) s nm t most=(Rz.ok (Cj (now C.ts s) true,(0:Int),s.on 1):Rz (Tm×Int×RS)):=by
  rw[Aq];rw[lL (by rw[hp];simp),lQ ⟨ht,hn,hu45,wE⟩]
 rw[e1];clear e1 ih;have rD:=lK (h.bd.on hC.last (by omega) (by omega));have htk:=hC.tk _ (mP (Iw h.bd.kl));have HNU:=lK (fun W=>LH (now C.ts s) true W htk.2.1 htk.2.2);have k1:((t.kind:Int)==1)=true:=by rw[IM,ht];rfl
 have k2:((bs nm).toList== [45])=true:=by rw[GU,hn];rfl
 have k45:(((now C.ts s).kind:Int)==4)=true\/((((now C.ts s).kind:Int)==4)=false/\(((now C.ts s).kind:Int)==5)=true):=by
  rw[IZ,If];rcases hu45 with h|h
  ·exact .inl (by rw[h];rfl)
  ·exact .inr ⟨by rw[h];rfl,by rw[h];rfl⟩
 have K1:=lK k1;have K2:=lK k2;have K45:=lK k45;clear htk ht hn hu45 k1 k2 k45;have HI:=lK h;have CN:Hid (∀W,Below w.heap.size w W->Calls prog 25 #[.pointer (some ⟨C.R,0,none⟩)] W fun e w'=>e= .returned (Fk (now C.ts s))/\Below W.heap.size W w'):=lK (fun W hb=>JK hC (h.below hC hb));obtain⟨u,hu⟩:∃u,u=now C.ts s:=⟨_,rfl⟩;rw[<-hu]at CN;have CP:=lK (fun W=>Au u 40 W);have lk:(s.k:Int)<100000000:=by have:=h.bd.kl;have:=hC.len;omega
 rw[<-hu]at hp wE HNU K45⊢;rw[hp]at CP;have zm:=lK wE;clear hp hu wE;have HB:Hid (Below w.heap.size w ((w.alloc (.cells (BH t) 71)).alloc (.cells zV 31))):=lK ((Bzz _).alloc (by simp) _);have wA:=lK ((Lc.new h (BH t) 71).below (w':=(w.alloc (.cells (BH t) 71)).alloc (.cells zV 31)) (Bzz _));have uJ:Hid (Lc C nv tv ((w.alloc (.cells (BH t) 71)).alloc (.cells zV 31)) (w.heap.size+1) zV 31):=lK (by
  have h1:=Lc.new (h.below hC (Bzz (.cells (BH t) 71))) zV 31
  rwa [show(w.alloc (.cells (BH t) 71)).heap.size=w.heap.size+1 by simp]at h1)
 have SA:=lK ((D8.start h).below hC HB.o);clear h;show Calls prog 71 #[.pointer (some ⟨C.R,0,none⟩),.string (bs nm),.agg (BH t),.int .i64 most] w _;go_enter func71,ntmps71
 go_wp2_with (go_at_call 25;(with_reducible refine(CN.o _ HB.o).mono ?_))
 rintro e W1 ⟨rfl,b1⟩;generalize(w.alloc (.cells (BH t) 71)).alloc (.cells zV 31)=A at*;have SB:=lK ((SA.o.below hC b1).below hC (Bzz (.cells zW 71)));have sA:=lK (Lc.new (SA.o.below hC b1).inv zW 71);have vQ:=lK ((wA.o.below b1).below (Bzz (.cells zW 71)));have xW:=lK ((uJ.o.below b1).below (Bzz (.cells zW 71)));have ry:Hid (w.heap.size<W1.heap.size/\w.heap.size+1<W1.heap.size):=lK ⟨lR wA.o.lt b1.size,lR uJ.o.lt b1.size⟩;clear b1 SA wA uJ HB
 go_upto_region 2 with(refine YS rfl _ _ rfl W1.heap.size u rfl rfl _ sA.o.h rfl ?_)
 have ST:=lK (SB.o.row hC sA.o.sf (by have:=ry.o;omega) (BH u));have sq:=lK (sA.o.row (BH u));have L6:=lK (vQ.o.Bu (nM ry.o.1) (BH u));have L8:=lK (xW.o.Bu (nM ry.o.2) (BH u));generalize(W1.alloc (.cells zW 71)).setRow W1.heap.size (BH u)=X at*;obtain⟨T,sS⟩:∃T,T=W1.heap.size:=⟨_,rfl⟩;rw[<-sS]at sq ry⊢;clear sS SB sA vQ xW
 try simp only[Act.put]
 go_wp2_with (first|(refine Ei rfl _ rfl T u rfl sq.o.h ?_)|(go_at_call 41;(with_reducible refine(CP.o _).mono ?_)))
 rintro e W2 ⟨rfl,b2⟩;have ST:=lK (ST.o.below hC b2);have L8:=lK (L8.o.below b2);have sq:=lK (sq.o.below b2);have L6:=lK (L6.o.below b2);clear b2;have x0:=(Af L6.o.h).1;obtain⟨y0,y1,y6⟩:=Af sq.o.h;rw[zm.o]at y6;have k1:=K1.o;have k2:=K2.o;rcases K45.o with k4|⟨k4,k5⟩
 all_goals
  go_upto_region 8 with fail
  have x1:=ST.o.inv.hR.cells.2.1;have f1:=Lib.frozen_of_heap ST.o.inv.hR.h 1;clear x0 y0 y1 y6 k1 k2 K1 K2 K45
  go_upto_region 9 with fail
  have ST:=lK (ST.o.on hC rD.o (v:= .int .i64 ((s.k:Int)+1)) rfl);have L8:=lK (L8.o.on hC (.int .i64 ((s.k:Int)+1)));have sq:=lK (sq.o.on hC (.int .i64 ((s.k:Int)+1)));clear x1 f1 zm L6;generalize W2.setCell _ _=V at*
  go_wp2_with (first|(refine Ei rfl _ rfl T u rfl sq.o.h ?_)|(go_at_call 64;(with_reducible refine(HNU.o _).mono ?_)))
  rintro e W3 ⟨rfl,b3⟩;have ST:=lK (ST.o.below hC b3);have L8:=lK (L8.o.below b3);clear b3;have N6:(Df u true).size=6:=by unfold Df;split<;>rfl
  have N1:(Df u true).all (·.oneCell')=true:=AT.Bq (JD W3 (fun _=>True) u true)
  go_wp2_with (refine F8 rfl _ _ rfl (w.heap.size+1) (Df u true) rfl rfl _ L8.o.h rfl N6 N1 ?_)
  refine lS (v:= .tuple #[.agg (Df u true),.int .i64 0]) ?_ rfl ⟨Df u true,nv,tv,rfl,ST.o.row hC L8.o.sf (mO _) _,JD _ _ _ _⟩;exact results_cell_tmp rfl _ _ (w.heap.size+1) 31 (Df u true) (0,0) _ (.int .i64 0) rfl rfl (mF _ _ _ _ _ _ L8.o.h) mE rfl (by rw[N6];exact Cg)
theorem gM {C:Cx}(hC:C.Ok) (hT:C.Za){n:Nat}(ih:Rec C n){s:RS} {nm:Bs} {t:Tk} {most:Int} {w:World} {nv tv:Value}(h:A0 C w s nv tv) (sh:nm.length<=1000000000) (hf:4*(C.ts.length-s.k)+4<=n+1) (rK:0<=most) (qw:most<=1200) (hA:¬(Pz.AG (now C.ts s) 40&& !(now C.ts s).ly)=true) (hB:¬(t.kind=1/\nm= [45]/\((now C.ts s).kind=4\/(now C.ts s).kind=5)/\(now C.ts s).ly=false)) (uE:(C.O.pre nm).filter (fun o=>decide (o.pr<=most)&&DJ C.ts C.O s)=none):
  Calls prog 71 #[.pointer (some ⟨C.R,0,none⟩),.string (bs nm),Fk t,.int .i64 most] w (Out C w nv tv (Aq C.ts C.O C.qt CZ (n+1) s nm t most)):=by
 have e1:Aq C.ts C.O C.qt CZ (n+1) s nm t most=(Rz.ok (Tm.atom nm,(0:Int),s):Rz (Tm×Int×RS)):=by
  rw[Aq];rw[lL hA,lL hB,uE]
 rw[e1];clear e1 ih;have uH:Hid (C.O.pre nm=none\/∃o,C.O.pre nm=some o/\(most<o.pr\/(o.pr<=most/\DJ C.ts C.O s=false))):=lK (by
  cases hr:C.O.pre nm with
  |none=>exact .inl rfl
  |some o=>
   refine .inr ⟨o,rfl,?_⟩;rw[hr]at uE;simp only[Option.filter]at uE;by_cases hle:o.pr<=most
   ·refine .inr ⟨hle,?_⟩;cases hb:DJ C.ts C.O s with
    |false=>rfl
    |true=>rw[hb]at uE;simp[hle]at uE
   ·exact .inl (by omega))
 clear uE;have KA:Hid (Pz.AG (now C.ts s) 40=false\/(Pz.AG (now C.ts s) 40=true/\(now C.ts s).ly=true)):=lK (by
  revert hA;cases Pz.AG (now C.ts s) 40<;>cases (now C.ts s).ly<;>simp)
 have qU:Hid (((t.kind:Int)==1)=false\/(((t.kind:Int)==1)=true/\((bs nm).toList== [45])=false)\/(((t.kind:Int)==1)=true/\((bs nm).toList== [45])=true/\(((now C.ts s).kind:Int)==4)=false/\(((now C.ts s).kind:Int)==5)=false)\/
   (((t.kind:Int)==1)=true/\((bs nm).toList== [45])=true/\(((now C.ts s).kind:Int)==4)=true/\(now C.ts s).ly=true)\/(((t.kind:Int)==1)=true/\((bs nm).toList== [45])=true/\(((now C.ts s).kind:Int)==4)=false/\(((now C.ts s).kind:Int)==5)=true/\(now C.ts s).ly=true)):=lK (by
  rw[IM,GU,IZ,If]
  revert hB
  cases (now C.ts s).ly<;>by_cases h1:t.kind=1<;>by_cases h2:nm= [45]<;>by_cases h4:(now C.ts s).kind=4<;>by_cases h5:(now C.ts s).kind=5<;>simp[h1,h2,h4,h5])
 clear hA hB;have HI:=lK h;have CN:Hid (∀W,Below w.heap.size w W->Calls prog 25 #[.pointer (some ⟨C.R,0,none⟩)] W fun e w'=>e= .returned (Fk (now C.ts s))/\Below W.heap.size W w'):=lK (fun W hb=>JK hC (h.below hC hb));obtain⟨u,hu⟩:∃u,u=now C.ts s:=⟨_,rfl⟩;rw[<-hu]at CN;have CP:=lK (fun W=>Au u 40 W);have lk:(s.k:Int)<100000000:=by have:=h.bd.kl;have:=hC.len;omega
 rw[<-hu]at KA qU;clear hu;have HB:Hid (Below w.heap.size w ((w.alloc (.cells (BH t) 71)).alloc (.cells zV 31))):=lK ((Bzz _).alloc (by simp) _);have wA:=lK ((Lc.new h (BH t) 71).below (w':=(w.alloc (.cells (BH t) 71)).alloc (.cells zV 31)) (Bzz _));have uJ:Hid (Lc C nv tv ((w.alloc (.cells (BH t) 71)).alloc (.cells zV 31)) (w.heap.size+1) zV 31):=lK (by
  have h1:=Lc.new (h.below hC (Bzz (.cells (BH t) 71))) zV 31
  rwa [show(w.alloc (.cells (BH t) 71)).heap.size=w.heap.size+1 by simp]at h1)
 have SA:=lK ((D8.start h).below hC HB.o);clear h;show Calls prog 71 #[.pointer (some ⟨C.R,0,none⟩),.string (bs nm),.agg (BH t),.int .i64 most] w _;go_enter func71,ntmps71
 go_wp2_with (go_at_call 25;(with_reducible refine(CN.o _ HB.o).mono ?_))
 rintro e W1 ⟨rfl,b1⟩;generalize(w.alloc (.cells (BH t) 71)).alloc (.cells zV 31)=A at*;have SB:=lK ((SA.o.below hC b1).below hC (Bzz (.cells zW 71)));have sA:=lK (Lc.new (SA.o.below hC b1).inv zW 71);have vQ:=lK ((wA.o.below b1).below (Bzz (.cells zW 71)));have xW:=lK ((uJ.o.below b1).below (Bzz (.cells zW 71)));have ry:Hid (w.heap.size<W1.heap.size/\w.heap.size+1<W1.heap.size):=lK ⟨lR wA.o.lt b1.size,lR uJ.o.lt b1.size⟩;clear b1 SA wA uJ HB
 go_upto_region 2 with(refine YS rfl _ _ rfl W1.heap.size u rfl rfl _ sA.o.h rfl ?_)
 have ST:=lK (SB.o.row hC sA.o.sf (by have:=ry.o;omega) (BH u));have sq:=lK (sA.o.row (BH u));have L6:=lK (vQ.o.Bu (nM ry.o.1) (BH u));have L8:=lK (xW.o.Bu (nM ry.o.2) (BH u));generalize(W1.alloc (.cells zW 71)).setRow W1.heap.size (BH u)=X at*;obtain⟨T,sS⟩:∃T,T=W1.heap.size:=⟨_,rfl⟩;rw[<-sS]at sq ry⊢;clear sS SB sA vQ xW
 try simp only[Act.put]
 go_cut [26] (fun v26 wx=>v26= .bool false/\D8 C w nv tv wx s nv tv/\Lc C nv tv wx w.heap.size (BH t) 71/\Lc C nv tv wx (w.heap.size+1) zV 31/\Lc C nv tv wx T (BH u) 71)
 case first=>
  as_aux_lemma=>
  rcases KA.o with ka|⟨ka,kb⟩
  all_goals
   rw[ka]at CP;clear ka
   go_wp2_with (first|(refine Ei rfl _ rfl T u rfl sq.o.h ?_)|(go_at_call 41;(with_reducible refine(CP.o _).mono ?_)))
   rintro e W2 ⟨rfl,b2⟩;have y6:=(Af (sq.o.below b2).h).2.2
   try rw[kb]at y6
   have B2:=lK b2;clear b2;go_wp2;go_meet;exact⟨rfl,ST.o.below hC B2.o,L6.o.below B2.o,L8.o.below B2.o,sq.o.below B2.o⟩
 case rest=>
 obtain⟨rfl,r1,r2,r3,r4⟩:=hcut;obtain⟨X2,yx⟩:∃W,W=wc:=⟨_,rfl⟩;subst yx;have ST:=lK r1;have L6:=lK r2;have L8:=lK r3;have sq:=lK r4;clear r1 r2 r3 r4 KA CP;have x0:=(Af L6.o.h).1;obtain⟨y0,y1,y6⟩:=Af sq.o.h
 go_upto_region 7 with fail
 go_cut [62] (fun v62 wx=>v62= .bool false/\X2=wx)
 case first=>
  as_aux_lemma=>
  rcases qU.o with k1|⟨k1,k2⟩|⟨k1,k2,k4,k5⟩|⟨k1,k2,k4,k6⟩|⟨k1,k2,k4,k5,k6⟩
  all_goals
   go_wp2;go_meet;exact⟨rfl,rfl⟩
 case rest=>
 obtain⟨rfl,rfl⟩:=hcut;clear x0 y0 y1 y6 qU;have CR:=lK (hT.pre X2 nm sh ST.o.inv.Fm);have x2:=ST.o.inv.hR.cells.2.2.1
 go_wp2_with (go_at_call 95;(with_reducible refine CR.o.mono ?_))
 rintro e W3 ⟨rfl,b3⟩;clear x2;have SA:=lK ((ST.o.below hC b3).below hC (Bzz (.cells #[.string ⟨#[]⟩,.int .i64 0,.int .i64 0] 61)));have LA:=lK (Lc.new (ST.o.below hC b3).inv #[.string ⟨#[]⟩,.int .i64 0,.int .i64 0] 61);have uJ:=lK ((L8.o.below b3).below (Bzz (.cells #[.string ⟨#[]⟩,.int .i64 0,.int .i64 0] 61)));have u6:Hid (w.heap.size+1<W3.heap.size):=lK (lR L8.o.lt b3.size);clear b3 ST L6 sq CR;unfold AM
 go_upto_region 11 with(refine dM rfl _ _ rfl W3.heap.size (EL nm (C.O.pre nm)) (EC (C.O.pre nm)) rfl rfl _ LA.o.h rfl ?_)
 have ST:=lK (SA.o.row hC LA.o.sf (by have:=u6.o;omega) (Fa (EL nm (C.O.pre nm)) (EC (C.O.pre nm))));have uo:=lK (LA.o.row (Fa (EL nm (C.O.pre nm)) (EC (C.O.pre nm))));have L8:=lK (uJ.o.Bu (nM u6.o) (Fa (EL nm (C.O.pre nm)) (EC (C.O.pre nm))));generalize(W3.alloc (.cells #[.string ⟨#[]⟩,.int .i64 0,.int .i64 0] 61)).setRow W3.heap.size (Fa (EL nm (C.O.pre nm)) (EC (C.O.pre nm)))=Y at*;obtain⟨P,hP⟩:∃P,P=W3.heap.size:=⟨_,rfl⟩;rw[<-hP]at uo u6⊢;clear hP SA LA uJ
 try simp only[Act.put]
 have c2:Y.cell? ⟨P,2,none⟩=some (.int .i64 (EC (C.O.pre nm)).pr):=by rw[Lib.cell_of_heap uo.o.h];rfl
 have HBG:=lK (R5 hC hT ST.o.inv);rcases uH.o with hr|⟨o,hr,hc⟩
 ·rw[hr];rw[hr]at c2;clear hr uH c2
  go_wp2_with (refine F8 rfl _ _ rfl (w.heap.size+1) (BU nm) rfl rfl _ L8.o.h rfl rfl (FV _) ?_)
  refine lS (v:= .tuple #[.agg (BU nm),.int .i64 0]) ?_ rfl ⟨BU nm,nv,tv,rfl,ST.o.row hC L8.o.sf (mO _) _,Gq _ _ _⟩;exact results_cell_tmp rfl _ _ (w.heap.size+1) 31 (BU nm) (0,0) _ (.int .i64 0) rfl rfl (mF _ _ _ _ _ _ L8.o.h) mE rfl Cg
 ·have wm:=hC.pr nm o (.inl hr);rw[hr];rw[hr]at c2;have hO:(EC (some o)).pr=o.pr:=rfl;rw[hO]at c2;clear hr uH hO;obtain⟨pr,hpe⟩:∃pr,pr=o.pr:=⟨_,rfl⟩;rw[<-hpe]at c2 wm hc;clear hpe;rcases hc with hc|⟨hc,hb⟩
  ·have uh:decide (pr<=most)=false:=lO (by omega);clear hc wm rK qw
   go_wp2_with (refine F8 rfl _ _ rfl (w.heap.size+1) (BU nm) rfl rfl _ L8.o.h rfl rfl (FV _) ?_)
   refine lS (v:= .tuple #[.agg (BU nm),.int .i64 0]) ?_ rfl ⟨BU nm,nv,tv,rfl,ST.o.row hC L8.o.sf (mO _) _,Gq _ _ _⟩;exact results_cell_tmp rfl _ _ (w.heap.size+1) 31 (BU nm) (0,0) _ (.int .i64 0) rfl rfl (mF _ _ _ _ _ _ L8.o.h) mE rfl Cg
  ·rw[hb]at HBG;have uh:decide (pr<=most)=true:=lU hc;clear hb hc wm rK qw
   go_wp2_with (go_at_call 96;(with_reducible refine HBG.o.mono ?_))
   rintro e W5 ⟨rfl,b5⟩;have ST:=lK (ST.o.below hC b5);have L8:=lK (L8.o.below b5);clear b5
   go_wp2_with (refine F8 rfl _ _ rfl (w.heap.size+1) (BU nm) rfl rfl _ L8.o.h rfl rfl (FV _) ?_)
   refine lS (v:= .tuple #[.agg (BU nm),.int .i64 0]) ?_ rfl ⟨BU nm,nv,tv,rfl,ST.o.row hC L8.o.sf (mO _) _,Gq _ _ _⟩;exact results_cell_tmp rfl _ _ (w.heap.size+1) 31 (BU nm) (0,0) _ (.int .i64 0) rfl rfl (mF _ _ _ _ _ _ L8.o.h) mE rfl Cg
theorem eY {C:Cx}(hC:C.Ok) (hT:C.Za){n:Nat}(ih:Rec C n){s:RS} {nm:Bs} {t:Tk} {most:Int} {w:World} {nv tv:Value}(h:A0 C w s nv tv) (sh:nm.length<=1000000000) (hf:4*(C.ts.length-s.k)+4<=n+1) (rK:0<=most) (qw:most<=1200) (hA:¬(Pz.AG (now C.ts s) 40&& !(now C.ts s).ly)=true) (hB:¬(t.kind=1/\nm= [45]/\((now C.ts s).kind=4\/(now C.ts s).kind=5)/\(now C.ts s).ly=false)) (o:DH) (ho:C.O.pre nm=some o) (hle:o.pr<=most) (hbg:DJ C.ts C.O s=true):
  Calls prog 71 #[.pointer (some ⟨C.R,0,none⟩),.string (bs nm),Fk t,.int .i64 most] w (Out C w nv tv (Aq C.ts C.O C.qt CZ (n+1) s nm t most)):=by
 have wm:=hC.pr nm o (.inl ho);have e1:Aq C.ts C.O C.qt CZ (n+1) s nm t most=(Ay C.ts C.O C.qt CZ n s (DV o)).bind fun(x,_,s)=>(Rz.ok (Tm.cmp nm [x],o.pr,s):Rz (Tm×Int×RS)):=by
  rw[Aq];have wt:(C.O.pre nm).filter (fun o=>decide (o.pr<=most)&&DJ C.ts C.O s)=some o:=by
   rw[ho,hbg];simp[Option.filter,hle]
  rw[lL hA,lL hB,wt]
 rw[e1];clear e1;have hsR:0<=DV o/\DV o<=1200:=by unfold DV;constructor<;>(repeat' split)<;>omega
 have tR:=lK (fun W qH qG (hW:A0 C W s qH qG)=>ih.term s (DV o) W qH qG hW (by omega) hsR.1 hsR.2);have xK:Hid (∀W,Calls prog 43 #[Dl nm o] W fun e w'=>e= .returned (.tuple #[.int .i64 (D5 o),.int .i64 (DV o)])/\Below W.heap.size W w'):=lK (fun W=>J9 (bs nm) o.ty o.pr W (by omega) wm.2);obtain⟨r,hr⟩:∃r,r=Ay C.ts C.O C.qt CZ n s (DV o):=⟨_,rfl⟩;rw[<-hr]at tR⊢;generalize DV o=right at*;have HHO:=lK ho;have HHB:=lK hbg;have HLE:=lK (show decide (o.pr<=most)=true from lU hle);clear ih hr ho hbg hle wm;have KA:Hid (Pz.AG (now C.ts s) 40=false\/(Pz.AG (now C.ts s) 40=true/\(now C.ts s).ly=true)):=lK (by
  revert hA;cases Pz.AG (now C.ts s) 40<;>cases (now C.ts s).ly<;>simp)
 have qU:Hid (((t.kind:Int)==1)=false\/(((t.kind:Int)==1)=true/\((bs nm).toList== [45])=false)\/(((t.kind:Int)==1)=true/\((bs nm).toList== [45])=true/\(((now C.ts s).kind:Int)==4)=false/\(((now C.ts s).kind:Int)==5)=false)\/
   (((t.kind:Int)==1)=true/\((bs nm).toList== [45])=true/\(((now C.ts s).kind:Int)==4)=true/\(now C.ts s).ly=true)\/(((t.kind:Int)==1)=true/\((bs nm).toList== [45])=true/\(((now C.ts s).kind:Int)==4)=false/\(((now C.ts s).kind:Int)==5)=true/\(now C.ts s).ly=true)):=lK (by
  rw[IM,GU,IZ,If]
  revert hB
  cases (now C.ts s).ly<;>by_cases h1:t.kind=1<;>by_cases h2:nm= [45]<;>by_cases h4:(now C.ts s).kind=4<;>by_cases h5:(now C.ts s).kind=5<;>simp[h1,h2,h4,h5])
 clear hA hB;have HI:=lK h;have CN:Hid (∀W,Below w.heap.size w W->Calls prog 25 #[.pointer (some ⟨C.R,0,none⟩)] W fun e w'=>e= .returned (Fk (now C.ts s))/\Below W.heap.size W w'):=lK (fun W hb=>JK hC (h.below hC hb));obtain⟨u,hu⟩:∃u,u=now C.ts s:=⟨_,rfl⟩;rw[<-hu]at CN;have CP:=lK (fun W=>Au u 40 W);have lk:(s.k:Int)<100000000:=by have:=h.bd.kl;have:=hC.len;omega
 rw[<-hu]at KA qU;clear hu;have HB:Hid (Below w.heap.size w ((w.alloc (.cells (BH t) 71)).alloc (.cells zV 31))):=lK ((Bzz _).alloc (by simp) _);have wA:=lK ((Lc.new h (BH t) 71).below (w':=(w.alloc (.cells (BH t) 71)).alloc (.cells zV 31)) (Bzz _));have uJ:Hid (Lc C nv tv ((w.alloc (.cells (BH t) 71)).alloc (.cells zV 31)) (w.heap.size+1) zV 31):=lK (by
  have h1:=Lc.new (h.below hC (Bzz (.cells (BH t) 71))) zV 31
  rwa [show(w.alloc (.cells (BH t) 71)).heap.size=w.heap.size+1 by simp]at h1)
 have SA:=lK ((D8.start h).below hC HB.o);clear h;show Calls prog 71 #[.pointer (some ⟨C.R,0,none⟩),.string (bs nm),.agg (BH t),.int .i64 most] w _;go_enter func71,ntmps71
 go_wp2_with (go_at_call 25;(with_reducible refine(CN.o _ HB.o).mono ?_))
 rintro e W1 ⟨rfl,b1⟩;generalize(w.alloc (.cells (BH t) 71)).alloc (.cells zV 31)=A at*;have SB:=lK ((SA.o.below hC b1).below hC (Bzz (.cells zW 71)));have sA:=lK (Lc.new (SA.o.below hC b1).inv zW 71);have vQ:=lK ((wA.o.below b1).below (Bzz (.cells zW 71)));have xW:=lK ((uJ.o.below b1).below (Bzz (.cells zW 71)));have ry:Hid (w.heap.size<W1.heap.size/\w.heap.size+1<W1.heap.size):=lK ⟨lR wA.o.lt b1.size,lR uJ.o.lt b1.size⟩;clear b1 SA wA uJ HB
 go_upto_region 2 with(refine YS rfl _ _ rfl W1.heap.size u rfl rfl _ sA.o.h rfl ?_)
 have ST:=lK (SB.o.row hC sA.o.sf (by have:=ry.o;omega) (BH u));have sq:=lK (sA.o.row (BH u));have L6:=lK (vQ.o.Bu (nM ry.o.1) (BH u));have L8:=lK (xW.o.Bu (nM ry.o.2) (BH u));generalize(W1.alloc (.cells zW 71)).setRow W1.heap.size (BH u)=X at*;obtain⟨T,sS⟩:∃T,T=W1.heap.size:=⟨_,rfl⟩;rw[<-sS]at sq ry⊢;clear sS SB sA vQ xW
 try simp only[Act.put]
 go_cut [26] (fun v26 wx=>v26= .bool false/\D8 C w nv tv wx s nv tv/\Lc C nv tv wx w.heap.size (BH t) 71/\Lc C nv tv wx (w.heap.size+1) zV 31/\Lc C nv tv wx T (BH u) 71)
 case first=>
  as_aux_lemma=>
  rcases KA.o with ka|⟨ka,kb⟩
  all_goals
   rw[ka]at CP;clear ka
   go_wp2_with (first|(refine Ei rfl _ rfl T u rfl sq.o.h ?_)|(go_at_call 41;(with_reducible refine(CP.o _).mono ?_)))
   rintro e W2 ⟨rfl,b2⟩;have y6:=(Af (sq.o.below b2).h).2.2
   try rw[kb]at y6
   have B2:=lK b2;clear b2;go_wp2;go_meet;exact⟨rfl,ST.o.below hC B2.o,L6.o.below B2.o,L8.o.below B2.o,sq.o.below B2.o⟩
 case rest=>
 obtain⟨rfl,r1,r2,r3,r4⟩:=hcut;obtain⟨X2,yx⟩:∃W,W=wc:=⟨_,rfl⟩;subst yx;have ST:=lK r1;have L6:=lK r2;have L8:=lK r3;have sq:=lK r4;clear r1 r2 r3 r4 KA CP;have x0:=(Af L6.o.h).1;obtain⟨y0,y1,y6⟩:=Af sq.o.h
 go_upto_region 7 with fail
 go_cut [62] (fun v62 wx=>v62= .bool false/\X2=wx)
 case first=>
  as_aux_lemma=>
  rcases qU.o with k1|⟨k1,k2⟩|⟨k1,k2,k4,k5⟩|⟨k1,k2,k4,k6⟩|⟨k1,k2,k4,k5,k6⟩
  all_goals
   go_wp2;go_meet;exact⟨rfl,rfl⟩
 case rest=>
 obtain⟨rfl,rfl⟩:=hcut;clear x0 y0 y1 y6 qU;have CR:=lK (hT.pre X2 nm sh ST.o.inv.Fm);have x2:=ST.o.inv.hR.cells.2.2.1
 go_wp2_with (go_at_call 95;(with_reducible refine CR.o.mono ?_))
 rintro e W3 ⟨rfl,b3⟩;clear x2;have SA:=lK ((ST.o.below hC b3).below hC (Bzz (.cells #[.string ⟨#[]⟩,.int .i64 0,.int .i64 0] 61)));have LA:=lK (Lc.new (ST.o.below hC b3).inv #[.string ⟨#[]⟩,.int .i64 0,.int .i64 0] 61);have uJ:=lK ((L8.o.below b3).below (Bzz (.cells #[.string ⟨#[]⟩,.int .i64 0,.int .i64 0] 61)));have u6:Hid (w.heap.size+1<W3.heap.size):=lK (lR L8.o.lt b3.size);clear b3 ST L6 sq CR;unfold AM
 go_upto_region 11 with(refine dM rfl _ _ rfl W3.heap.size (EL nm (C.O.pre nm)) (EC (C.O.pre nm)) rfl rfl _ LA.o.h rfl ?_)
 have ST:=lK (SA.o.row hC LA.o.sf (by have:=u6.o;omega) (Fa (EL nm (C.O.pre nm)) (EC (C.O.pre nm))));have uo:=lK (LA.o.row (Fa (EL nm (C.O.pre nm)) (EC (C.O.pre nm))));have L8:=lK (uJ.o.Bu (nM u6.o) (Fa (EL nm (C.O.pre nm)) (EC (C.O.pre nm))));generalize(W3.alloc (.cells #[.string ⟨#[]⟩,.int .i64 0,.int .i64 0] 61)).setRow W3.heap.size (Fa (EL nm (C.O.pre nm)) (EC (C.O.pre nm)))=Y at*;obtain⟨P,hP⟩:∃P,P=W3.heap.size:=⟨_,rfl⟩;rw[<-hP]at uo u6⊢;clear hP SA LA uJ
 try simp only[Act.put]
 rw[HHO.o];rw[HHO.o]at uo;have hO:Fa (EL nm (some o)) (EC (some o))=Fa nm o:=rfl;rw[hO]at uo;have c2:Y.cell? ⟨P,2,none⟩=some (.int .i64 o.pr):=by rw[Lib.cell_of_heap uo.o.h];rfl
 have HBG:=lK (R5 hC hT ST.o.inv);rw[HHB.o]at HBG;have uh:=HLE.o;have B0:=lK rK;have B1:=lK qw;have B2:=lK hsR;clear rK qw hsR hO HHB HLE
 go_wp2_with (go_at_call 96;(with_reducible refine HBG.o.mono ?_))
 rintro e W5 ⟨rfl,b5⟩;have ST:=lK (ST.o.below hC b5);have L8:=lK (L8.o.below b5);have uo:=lK (uo.o.below b5);clear b5 c2 uh HBG
 go_wp2_with (first|(refine jZ rfl _ rfl P nm o rfl uo.o.h ?_)|(go_at_call 43;(with_reducible refine(xK.o _).mono ?_)))
 rintro e W6 ⟨rfl,b6⟩;have ST:=lK (ST.o.below hC b6);have L8:=lK (L8.o.below b6);have uo:=lK (uo.o.below b6);clear b6
 go_wp2_with (go_at_call 24;(refine(tR.o _ _ _ ST.o.inv).mono ?_))
 rintro e W7 h7;cases r with
 |stop wd a=>
  obtain⟨rfl,qH,qG,hk⟩:=h7;have HK:=lK (ST.o.Bj.trans hk);clear hk;go_wp2;exact⟨rfl,rfl,qH,qG,HK.o⟩
 |ok q=>
  obtain⟨x,px,s1⟩:=q;obtain⟨c,qI,qJ,rfl,h4,h5⟩:=h7;have C6:Hid (c.size=6):=lK (by have:=h5.len;simpa using this);have CO:=lK (AT.Bq h5);have SB:=lK ((ST.o.call h4).below hC (Bzz (.cells zV 31)));have LQ0:=lK (Lc.new h4.inv zV 31);have L8b:=lK ((L8.o.step hC h4.Bj).below (Bzz (.cells zV 31)));have L12b:=lK ((uo.o.step hC h4.Bj).below (Bzz (.cells zV 31)));have HXZ:Hid (AT ((W7.alloc (.cells zV 31)).setRow W7.heap.size c) (Sn C W6.heap.size qI qJ ((W7.alloc (.cells zV 31)).setRow W7.heap.size c)) c.toList x):=lK (h5.Ak (fun b hb=>(mH _ _ _ _ (nM hb.2.2.1)).trans (Lib.alloc_old _ _ _ hb.2.2.1)) (fun b hb=>⟨hb.1,hb.2.AY (by rw[Al];simp)⟩));have LQL:Hid (w.heap.size+1<W7.heap.size/\P<W7.heap.size/\W6.heap.size<=W7.heap.size/\w.heap.size+1<W6.heap.size/\w.heap.size+1<P):=lK ⟨(L8.o.step hC h4.Bj).lt,(uo.o.step hC h4.Bj).lt,h4.Bj.kept.size,L8.o.lt,u6.o⟩;clear h4 h5 ST L8 uo
  go_upto_region 14 with(refine F8 rfl _ _ rfl W7.heap.size c rfl rfl _ LQ0.o.h rfl C6.o CO.o ?_)
  have ST:=lK (SB.o.row hC LQ0.o.sf (by have:=LQL.o;omega) c);have LQ:=lK (LQ0.o.row c);have L8:=lK (L8b.o.Bu (nM LQL.o.1) c);have uo:=lK (L12b.o.Bu (nM LQL.o.2.1) c);generalize hZ:(W7.alloc (.cells zV 31)).setRow W7.heap.size c=Z at*;obtain⟨Q,hQ⟩:∃Q,Q=W7.heap.size:=⟨_,rfl⟩;rw[<-hQ]at LQ⊢;have NQ:Hid (Q≠w.heap.size+1/\P≠w.heap.size+1):=lK (by have:=LQL.o;omega);have ZQ:Hid (Q<Z.heap.size):=lK LQ.o.lt;clear hQ hZ SB LQ0 L8b L12b
  try simp only[Act.put]
  refine wp_region_held_drew (S:=fun W=>W.heap[Q]? =some (.cells c 31)/\W.heap[P]? =some (.cells (Fa nm o) 61)) (by kernel_rfl) ⟨LQ.o.h,uo.o.h⟩ (fun hS=> ?_);refine tk 0 (.string (bs nm)) rfl hS ?_
  try simp only[uu,Act.put]
  refine wpAnyH_take (i:=1) (oi:=_) (v:= .agg c) rfl (by kernel_rfl) (by kernel_rfl) (by kernel_rfl) (fun _ _ _ h=>h) (QO rfl _ rfl Q c C6.o rfl (fun _ h=>h.1)) hS ?_;refine tk 4 (.pointer (some ⟨P,2,none⟩)) rfl hS ?_;refine DQ 5 (.int .i64 o.pr) rfl hS (fun W hSW=> ?_) ?_
  ·have e1:W.cell? ⟨P,2,none⟩=some (.int .i64 o.pr):=by rw[Lib.cell_of_heap hSW.2];rfl
   go_simp
  try simp only[uu,Act.put]
  refine DD 2 rfl (fun K hK=> ?_);refine Aj rfl (Qz _ rfl c C6.o rfl ?_);refine hK.o _ _ ⟨(Lib.alloc_old _ _ _ LQ.o.lt).trans hS.1,(Lib.alloc_old _ _ _ uo.o.lt).trans hS.2⟩ (fun hS=> ?_);refine DQ 3 (.agg (Gy nm (.slice (some ⟨Z.heap.size,0,none⟩) 1 1))) rfl hS (fun W hSW=> ?_) ?_
  ·go_simp;rfl
  try simp only[uu,Act.put]
  refine DD 6 rfl (fun K hK=> ?_);refine Aj rfl (Ld _ _ rfl (w.heap.size+1) (Gy nm (.slice (some ⟨Z.heap.size,0,none⟩) 1 1)) rfl rfl _ ((Lib.alloc_old _ _ _ L8.o.lt).trans L8.o.h) rfl rfl (IJ _ rfl) ?_);refine hK.o _ _ ⟨(mH _ _ _ _ NQ.o.1).trans hS.1,(mH _ _ _ _ NQ.o.2).trans hS.2⟩ (fun hS=> ?_);refine tk 7 (.int .i64 o.pr) rfl hS ?_
  try simp only[uu,Act.put]
  refine wpAnyH_done (by kernel_rfl) ?_ _;clear hS;have BZ:Below Z.heap.size Z (Z.drew.alloc (.cells c 31)):=(Ad (Below.refl _ _)).alloc (lM _) _;have LF:=(L8.o.below BZ).row (Gy nm (.slice (some ⟨Z.heap.size,0,none⟩) 1 1));have SF:=(ST.o.below hC BZ).row hC (L8.o.below BZ).sf (mO _) (Gy nm (.slice (some ⟨Z.heap.size,0,none⟩) 1 1));have HN:((Z.drew.alloc (.cells c 31)).setRow (w.heap.size+1) (Gy nm (.slice (some ⟨Z.heap.size,0,none⟩) 1 1))).heap[Z.heap.size]? =some (.cells c 31):=(mH _ _ _ _ (by have:=L8.o.lt;omega)).trans (lT Z _);have HO:∀b,b<Z.heap.size->b≠w.heap.size+1->((Z.drew.alloc (.cells c 31)).setRow (w.heap.size+1) (Gy nm (.slice (some ⟨Z.heap.size,0,none⟩) 1 1))).heap[b]? =Z.heap[b]? :=fun b h1 h2=>(mH _ _ _ _ h2).trans (Lib.alloc_old Z.drew _ _ h1);have HS:((Z.drew.alloc (.cells c 31)).setRow (w.heap.size+1) (Gy nm (.slice (some ⟨Z.heap.size,0,none⟩) 1 1))).heap.size=Z.heap.size+1:=by rw[Al];show(Z.drew.alloc _).heap.size=_;simp
  generalize(Z.drew.alloc (.cells c 31)).setRow (w.heap.size+1) (Gy nm (.slice (some ⟨Z.heap.size,0,none⟩) 1 1))=F at*;have LF:=lK LF;have SF:=lK SF;have wO:Hid (AT F (Sn C w.heap.size qI qJ F) (Gy nm (.slice (some ⟨Z.heap.size,0,none⟩) 1 1)).toList (.cmp nm [x])):=lK (by
   have yR:=LQL.o;have hzq:=ZQ.o;have h8:=L8.o.lt;refine .cmp nm [x] Z.heap.size 0 1 c.toList ⟨by omega,Sf.new ST.o.inv (lM _) (by omega)⟩ (fun j hj=> ?_) (BJ.one ?_)
   ·rw[me,mT F Z.heap.size j c 31 (0,0) HN,mV]
   ·exact HXZ.o.Ak (fun b hb=>HO b hb.2.2.1 (by have:=hb.1;omega)) (fun b hb=>⟨by have:=hb.1;omega,hb.2.AY (by omega)⟩))
  clear HN HO HS BZ HXZ;go_wp2;refine lS (v:= .tuple #[.agg (Gy nm (.slice (some ⟨Z.heap.size,0,none⟩) 1 1)),.int .i64 o.pr]) ?_ rfl ⟨Gy nm (.slice (some ⟨Z.heap.size,0,none⟩) 1 1),qI,qJ,rfl,SF.o,wO.o⟩;exact results_cell_tmp rfl _ _ (w.heap.size+1) 31 _ (0,0) _ (.int .i64 o.pr) rfl rfl LF.o.h mE rfl Cg
theorem bK {C:Cx}(hC:C.Ok) (hT:C.Za){n:Nat}(ih:Rec C n) (s:RS) (nm:Bs) (t:Tk) (most:Int) (w:World) (nv tv:Value) (h:A0 C w s nv tv) (sh:nm.length<=1000000000) (hf:4*(C.ts.length-s.k)+4<=n+1) (rK:0<=most) (qw:most<=1200):
  Calls prog 71 #[.pointer (some ⟨C.R,0,none⟩),.string (bs nm),Fk t,.int .i64 most] w (Out C w nv tv (Aq C.ts C.O C.qt CZ (n+1) s nm t most)):=by
 by_cases hA:(Pz.AG (now C.ts s) 40&& !(now C.ts s).ly)=true
 ·have h1:Pz.AG (now C.ts s) 40=true/\(now C.ts s).ly=false:=by simpa using hA
  exact eX hC hT ih h sh hf rK qw h1.1 h1.2
 ·by_cases hB:t.kind=1/\nm= [45]/\((now C.ts s).kind=4\/(now C.ts s).kind=5)/\(now C.ts s).ly=false
  ·exact fM hC hT ih h sh hf rK qw hB.1 hB.2.1 hB.2.2.1 hB.2.2.2
  ·cases wt:(C.O.pre nm).filter (fun o=>decide (o.pr<=most)&&DJ C.ts C.O s)with
   |none=>exact gM hC hT ih h sh hf rK qw hA hB wt
   |some o=>
    rw[Option.filter_eq_some_iff]at wt;have h2:=wt.2;simp only[mJ,mL]at h2;exact eY hC hT ih h sh hf rK qw hA hB o wt.1 h2.1 h2.2
theorem D8.grown {C:Cx}(hC:C.Ok){w0 W W':World} {n0 t0 nv tv:Value} {s:RS}(h:D8 C w0 n0 t0 W s nv tv){row:Option Nat}(hg:W.grownBy W' row) (hr:∀g,row=some g->Sf C nv tv W g/\w0.heap.size<=g):D8 C w0 n0 t0 W' s nv tv:=by
 have hb:∀b,b<W.heap.size->(∀g,row=some g->b≠g)->W'.heap[b]? =W.heap[b]? :=fun b h1 h2=>hg.block b h1 (fun e=>h2 b e.symm rfl);refine⟨h.inv.same hC ⟨hg.os,hg.tape,hg.output⟩ hg.size (fun b hl=>hb b (lR hl h.inv.sz) (fun g e=>by have:=(hr g e).1.1;omega)) (fun b hn=>hb b (h.inv.Jm.lt b hn).2 (fun g e e2=>(hr g e).1.2.2.1 (e2▸hn))) (fun b hn=>hb b (h.inv.Ji.lt b hn).2 (fun g e e2=>(hr g e).1.2.2.2 (e2▸hn))),⟨⟨hg.os.trans h.Bj.kept.os,hg.tape.trans h.Bj.kept.tape,hg.output.trans h.Bj.kept.output,lg h.Bj.kept.size hg.size,fun b h1 h2=>(hb b (lR h1 h.Bj.kept.size) (fun g e=>by have:=(hr g e).2;omega)).trans (h.Bj.kept.block b h1 h2)⟩,h.Bj.nb,h.Bj.tb⟩⟩
def Sd (C:Cx) (n:Nat) (v nv tv:Value) (w:World) (b:Nat):Prop:=Sn C n nv tv w b/\v.ownBlock≠some b
theorem GZ.aD {w:World} {base:Nat} {v:Value} {n:Nat} {xs:List Value} {l:List Tm} {S:Nat->Prop}(h:w.ownsRow base 31 6 v n xs) (hn:n=l.length) (ht:BJ w S xs l) (hS:∀b,v.ownBlock=some b->S b):GZ w S v l:=by
 rcases mh n with h0|h0
 ·subst h0;obtain⟨a,c,rfl⟩:=Ap h;exact .inl ⟨⟨a,c,rfl⟩,List.eq_nil_of_length_eq_zero hn.symm⟩
 ·obtain⟨g,cap,rfl,hb,qE⟩:=h.form h0;refine .inr ⟨g,cap,xs,by rw[hn],hS g rfl,fun j hj=> ?_,ht,by omega⟩;exact h.cellAt j (by have:=ht.len;omega)
structure It (C:Cx) (w:World) (nv tv:Value) (wr:World) (s1:RS) (qI qJ:Value) (v:Value) (cs:List Value) (done:List Tm):Prop where
 st:D8 C w nv tv wr s1 qI qJ
 ow:wr.ownsRow w.heap.size 31 6 v done.length cs
 os:∀g,v.ownBlock=some g->Sf C qI qJ wr g
 td:BJ wr (Sd C w.heap.size v qI qJ wr) cs done
theorem It.start {C:Cx} {w:World} {s:RS} {nv tv:Value}(h:A0 C w s nv tv):It C w nv tv w s nv tv (.slice none 0 0) [] []:=⟨D8.start h,mq _ _ _ _,(fun g e=>by cases e),.nil⟩
theorem It.step {C:Cx}(hC:C.Ok){w wr W:World} {nv tv qI qJ ub uZ v:Value} {s1 s2:RS} {cs:List Value} {done:List Tm}(h:It C w nv tv wr s1 qI qJ v cs done) (k:D8 C wr qI qJ W s2 ub uZ):It C w nv tv W s2 ub uZ v cs done:=
 ⟨h.st.call k,AS h.ow (fun b hb=>k.Bj.same hC (h.os b hb)),fun g hg=>k.Bj.sf (h.os g hg),h.td.Ak (fun b hb=>k.Bj.same hC hb.1.2) (fun b hb=>⟨⟨hb.1.1,k.Bj.sf hb.1.2⟩,hb.2⟩)⟩
theorem It.on {C:Cx}(hC:C.Ok){w wr:World} {nv tv qI qJ v:Value} {s1:RS} {cs:List Value} {done:List Tm}(h:It C w nv tv wr s1 qI qJ v cs done) (hb:Bd C.ts (s1.on 1)):It C w nv tv (wr.setCell ⟨C.R,1,none⟩ (.int .i64 ((s1.k:Int)+1))) (s1.on 1) qI qJ v cs done:=
 It.step hC h (D8.on hC (D8.start h.st.inv) hb rfl)
theorem It.below {C:Cx}(hC:C.Ok){w wr W:World} {nv tv qI qJ v:Value} {s1:RS} {cs:List Value} {done:List Tm}(h:It C w nv tv wr s1 qI qJ v cs done) (hb:Below wr.heap.size wr W):It C w nv tv W s1 qI qJ v cs done:=
 It.step hC h (D8.below hC (D8.start h.st.inv) hb)
theorem It.more {C:Cx}(hC:C.Ok){w B w2:World} {nv tv qI qJ v:Value} {s1:RS} {cs c:List Value} {done:List Tm} {x:Tm}(h:It C w nv tv B s1 qI qJ v cs done) (hx:AT B (Sd C w.heap.size v qI qJ B) c x){g cap:Nat}
  (qD:w2.ownsRow w.heap.size 31 6 (.slice (some ⟨g,0,none⟩) (done.length+1) cap) (done.length+1) (cs++c)) (hg:B.grownBy w2 v.ownBlock) (qh:v.ownBlock=some g\/g=B.heap.size) (qE:g<w2.heap.size):
  It C w nv tv w2 s1 qI qJ (.slice (some ⟨g,0,none⟩) (done.length+1) cap) (cs++c) (done++ [x]):=by
 have qk:=D8.grown hC h.st hg (fun k hk=>⟨h.os k hk,(h.ow.lt k hk).1⟩);have hk:∀b,Sd C w.heap.size v qI qJ B b->w2.heap[b]? =B.heap[b]? :=fun b hb=>hg.block b hb.1.2.2.1 (fun e=>hb.2 e.symm);have hi:∀b,Sd C w.heap.size v qI qJ B b->Sd C w.heap.size (.slice (some ⟨g,0,none⟩) (done.length+1) cap) qI qJ w2 b:=fun b hb=>⟨⟨hb.1.1,hb.1.2.AY hg.size⟩,fun e=>by
  have e:g=b:=by simpa[Value.ownBlock]using e
  subst e;rcases qh with h1|h1
  ·exact hb.2 h1
  ·have:=hb.1.2.2.1;omega⟩
 refine⟨qk,?_,fun k sW=> ?_,(h.td.Ak hk hi).append (BJ.one (AT.Ak hk hi hx))⟩
 ·rw[l6];exact qD
 ·have e:g=k:=by simpa[Value.ownBlock]using sW
  subst e;rcases qh with h1|h1
  ·exact(h.os g h1).AY hg.size
  ·exact Sf.new h.st.inv (pR h1.symm) qE
theorem dy {c:Array Value}(h:c.size=6):c.toList.length=1*6:=by simpa using h
theorem Yz {C:Cx}(hC:C.Ok){n:Nat}(ih:∀m,m<=n->Rec C m) (s:RS) (w:World) (nv tv:Value) (h:A0 C w s nv tv) (hf:4*(C.ts.length-s.k)+4<=n+1):
  Calls prog 69 #[.pointer (some ⟨C.R,0,none⟩)] w (ig C w nv tv (Ba C.ts C.O C.qt CZ (n+1) s)):=by
 obtain⟨r0,qO⟩:∃r,r=Ba C.ts C.O C.qt CZ (n+1) s:=⟨_,rfl⟩;rw[<-qO];have HI:=lK h;have sT:=lK qO;have HF:=lK hf;have IH:=lK ih;clear h qO hf ih;obtain⟨i0,hi,qX,qg,qe⟩:=nw Vh;go_enter func69,ntmps69
 go_wp2_with fail
 go_loopw [3] (fun l3 wr=>∃(m:Nat) (s1:RS) (done:List Tm) (cs:List Value) (qI qJ:Value),Hid (r0=(Ba C.ts C.O C.qt CZ (m+1) s1).bind (fun p=>Rz.ok (done++p.1,p.2))/\m<=n/\4*(C.ts.length-s1.k)+4<=m+1/\done.length<=s1.k/\It C w nv tv wr s1 qI qJ l3 cs done)) (fun _ wr=>match wr.cell? ⟨C.R,1,none⟩with|some (.int .i64 k)=>C.ts.length-k.toNat|_=>0)
 case atStart=>
  refine⟨n,s,[],[],nv,tv,lK ⟨?_,lM _,HF.o,mK _,It.start HI.o⟩⟩;rw[sT.o];cases Ba C.ts C.O C.qt CZ (n+1) s<;>rfl
 case round=>
  obtain⟨m,s1,done,cs,qI,qJ,hq⟩:=hrel;obtain⟨g0,g1,g2,g3,g4⟩:=hq.o;obtain⟨la,lc,rfl⟩:=Ap g4.ow;have hbd:=g4.st.inv.bd.kl;obtain⟨m,rfl⟩:∃m',m=m'+1:=⟨m-1,by omega⟩;have lk:(s1.k:Int)<100000000:=by have:=hC.len;omega
  have tR:=lK ((IH.o (m+1) g1).term s1 999 wr qI qJ g4.st.inv (by omega) (by omega) (by omega));obtain⟨r,hr⟩:∃r,r=Ay C.ts C.O C.qt CZ (m+1) s1 999:=⟨_,rfl⟩;rw[<-hr]at tR;have G0:Hid (r0=(r.bind fun q=>if Pz.AG (now C.ts q.2.2) 44 then(Ba C.ts C.O C.qt CZ (m+1) (q.2.2.on 1)).bind (fun p=>Rz.ok (done++q.1::p.1,p.2))else Rz.ok (done++ [q.1],q.2.2))):=lK (by
   rw[g0,hr,Ba];cases Ay C.ts C.O C.qt CZ (m+1) s1 999 with
   |stop wd a=>rfl
   |ok q=>
    obtain⟨x,px,s2⟩:=q;show(if _ then _ else _:Rz (List Tm×RS)).bind _=(if _ then _ else _);split
    ·cases Ba C.ts C.O C.qt CZ (m+1) (s2.on 1)<;>rfl
    ·rfl)
  have HR:=lK hr;have G2:=lK g2;have G1:=lK g1;have G3:=lK g3;have ST:=lK g4;have MS:=lK g4.st.inv.hR.cells.2.1;have MX:Hid (done.length+1<=maxLen):=lK (by unfold maxLen;omega);have BY:Hid ((done.length+1)*80<=140737488355328):=lK (by omega);have LK:=lK hbd;clear hq g0 g1 g2 g3 g4 hr hbd
  go_wp2_with (go_at_call 24;(refine tR.o.mono ?_))
  rintro e W7 h7;cases r with
  |stop wd a=>
   obtain⟨rfl,qH,qG,hk⟩:=h7;have HK:=lK (ST.o.st.Bj.trans hk);have HE:Hid (r0=Rz.stop wd a):=G0;clear hk;go_wp2;rw[HE.o];exact⟨rfl,rfl,qH,qG,HK.o⟩
  |ok q=>
   obtain⟨x,px,s2⟩:=q;obtain⟨c,ub,uZ,rfl,h4,h5⟩:=h7;have rD:Hid (Bd C.ts s2/\s1.k<s2.k):=lK ((IN hC.last hC.fin (m+1)).1 s1 999 x px s2 ST.o.st.inv.bd HR.o.symm);have C6:Hid (c.size=6):=lK (by have:=h5.len;simpa using this);have CO:=lK (AT.Bq h5);have NE:=lK (lT W7 (.cells zV 31));have qV:=(Below.row ((Below.refl W7.heap.size W7).alloc (lM _) (.cells zV 31)) (lM _) c);have HW8:=lK qV;have sB:Hid (((W7.alloc (.cells zV 31)).setRow W7.heap.size c).heap[W7.heap.size]? =some (.cells c 31)):=lK (mF _ _ _ _ _ _ NE.o);have IT:=lK (It.step hC ST.o h4);have TX:Hid (AT W7 (Sd C w.heap.size (.slice la done.length lc) ub uZ W7) c.toList x):=lK (AT.imp h5 (fun b hb=>⟨⟨lg ST.o.st.Bj.kept.size hb.1,hb.2⟩,fun e=>by have:=(ST.o.ow.lt b e).2;have:=hb.1;omega⟩));clear h4 h5 qV tR HR
   go_upto_region 3 with(refine F8 rfl _ _ rfl W7.heap.size c rfl rfl _ NE.o rfl C6.o CO.o ?_)
   generalize(W7.alloc (.cells zV 31)).setRow W7.heap.size c=W8 at*
   try simp only[Act.put]
   have ITB:=lK (It.below hC IT.o (HW8.o.alloc HW8.o.size (.cells c 31)));have TXB:Hid (AT (W8.alloc (.cells c 31)) (Sd C w.heap.size (.slice la done.length lc) ub uZ (W8.alloc (.cells c 31))) c.toList x):=lK (by
    have hh:=HW8.o.alloc HW8.o.size (.cells c 31);exact TX.o.Ak (fun b hb=>hh.block b hb.1.2.2.1) (fun b hb=>⟨⟨hb.1.1,hb.1.2.AY hh.size⟩,hb.2⟩))
   have VN:=lK ITB.o.ow;have BS:=lK ITB.o.st.Bj.kept.size;have NW:Hid (∀j u,c.toList[j]? =some u->(W8.alloc (.cells c 31)).cell? ((⟨W8.heap.size,0,none⟩:Addr).add j)=some u):=lK (World.news_of_block (t:=31) (fr:=(0,0)) (lT W8 _));have DL:=lK (dy C6.o);have D1:Hid (∀u∈c.toList,u.oneCell'=true):=lK (by have h:=CO.o;rw[<-Array.all_toList]at h;exact nS.1 h);have WE:Hid (∀g cap w2,w2.ownsRow w.heap.size 31 6 (.slice (some ⟨g,0,none⟩) (done.length+1) cap) (done.length+1) (cs++c.toList)->(W8.alloc (.cells c 31)).grownBy w2 (Value.slice la done.length lc).ownBlock->((Value.slice la done.length lc).ownBlock=some g\/g=(W8.alloc (.cells c 31)).heap.size)->g<w2.heap.size->It C w nv tv w2 s2 ub uZ (.slice (some ⟨g,0,none⟩) (done.length+1) cap) (cs++c.toList) (done++ [x])):=lK (fun g cap w2 a1 a2 a3 a4=>It.more hC ITB.o TXB.o a1 a2 a3 a4);clear IT TX ITB TXB HW8 NE
   go_upto_region 4 with(first|(refine KK rfl _ rfl W7.heap.size c C6.o rfl sB.o ?_)|(refine Hn rfl _ rfl c C6.o rfl ?_)|(at_builtin;refine wpList_append_lies _ rfl _ _ 29 rfl w.heap.size 31 i0 _ 6 80 underlying29 hi qX qg qe rfl (by decide) _ _ _ rfl VN.o ⟨W8.heap.size,0,none⟩ 1 1 c.toList rfl DL.o NW.o D1.o (by decide) MX.o BY.o BS.o _ rfl ?_;intro g cap w2 qD qC qh _hlg))
   have IT:=lK (WE.o g cap w2 qD qC qh _hlg);clear WE qD qC qh _hlg VN BS NW DL D1 sB MX BY CO C6
   try simp only[Act.put]
   have CN:Hid (∀W,Below w2.heap.size w2 W->Calls prog 25 #[.pointer (some ⟨C.R,0,none⟩)] W fun e w'=>e= .returned (Fk (now C.ts s2))/\Below W.heap.size W w'):=lK (fun W hb=>JK hC (IT.o.st.inv.below hC hb));obtain⟨u,hu⟩:∃u,u=now C.ts s2:=⟨_,rfl⟩;rw[<-hu]at CN;have CP:=lK (fun W=>Au u 44 W);have HU:=lK hu;clear hu;cases hp:Pz.AG u 44 with
   |true=>
    rw[hp]at CP;have HP:=lK hp;clear hp;have tM:=lK (Bd.AG hC.last rD.o.1 (c:=44) (by rw[<-HU.o];exact HP.o))
    go_wp2_with (first|(go_at_call 25;(with_reducible refine(CN.o _ (Below.refl _ _)).mono ?_))|(go_at_call 41;(with_reducible refine(CP.o _).mono ?_)))
    rintro e W9 ⟨rfl,b9⟩;have IT:=lK (It.below hC IT.o b9);clear b9
    go_wp2_with (first|(go_at_call 25;(with_reducible refine(CN.o _ (Below.refl _ _)).mono ?_))|(go_at_call 41;(with_reducible refine(CP.o _).mono ?_)))
    rintro e W10 ⟨rfl,b10⟩;have IT:=lK (It.below hC IT.o b10);clear b10;have x1:=IT.o.st.inv.hR.cells.2.1;have f1:=Lib.frozen_of_heap IT.o.st.inv.hR.h 1;have lk2:(s2.k:Int)<100000000:=by have:=rD.o.1.kl;have:=hC.len;omega
    go_wp2;have IT:=lK (It.on hC IT.o tM.o);clear x1 f1;generalize W10.setCell _ _=V at*;have X1:=lK IT.o.st.inv.hR.cells.2.1;go_roundw
    case rel=>
     refine⟨m,s2.on 1,done++ [x],cs++c.toList,ub,uZ,lK ⟨?_,by have:=G1.o;omega,?_,?_,?_⟩⟩
     ·rw[G0.o];show(if Pz.AG (now C.ts s2) 44=true then _ else _:Rz (List Tm×RS))=_;rw[<-HU.o,lQ HP.o];simp only[pJ,List.singleton_append]
     ·have:=G2.o;have:=rD.o;have:=LK.o;show 4*(C.ts.length-(s2.k+1))+4<=m+1;omega
     ·have:=G3.o;have:=rD.o;rw[l6];show done.length+1<=s2.k+1;omega
     ·exact IT.o
    case measure=>
     rw[X1.o,MS.o];show C.ts.length-((s2.k+1:Nat):Int).toNat<C.ts.length-((s1.k:Nat):Int).toNat;rw[mB,mB];have:=rD.o;have:=LK.o;omega
   |false=>
    rw[hp]at CP;have HP:=lK hp;clear hp
    go_wp2_with (first|(go_at_call 25;(with_reducible refine(CN.o _ (Below.refl _ _)).mono ?_))|(go_at_call 41;(with_reducible refine(CP.o _).mono ?_)))
    rintro e W9 ⟨rfl,b9⟩;have IT:=lK (It.below hC IT.o b9);clear b9
    go_wp2_with (first|(go_at_call 25;(with_reducible refine(CN.o _ (Below.refl _ _)).mono ?_))|(go_at_call 41;(with_reducible refine(CP.o _).mono ?_)))
    rintro e W10 ⟨rfl,b10⟩;have IT:=lK (It.below hC IT.o b10);clear b10;have HE:Hid (r0=Rz.ok (done++ [x],s2)):=lK (by
     rw[G0.o];show(if Pz.AG (now C.ts s2) 44=true then _ else _:Rz (List Tm×RS))=_;rw[<-HU.o,HP.o];rfl)
    go_wp2;rw[HE.o];refine⟨rfl,Value.slice (some ⟨g,0,none⟩) (done.length+1) cap,?_,Value.slice (some ⟨g,0,none⟩) (done.length+1) cap,ub,uZ,rfl,IT.o.st,?_,by rw[l6];exact pg _,?_⟩
    ·simp[results,results69]
    ·refine GZ.aD (by have:=IT.o.ow;rw[l6]at this;exact this) (by rw[l6]) (IT.o.td.Ak (fun _ _=>rfl) (fun b hb=>hb.1)) (fun b hb=>⟨(IT.o.ow.lt b hb).1,IT.o.os b hb⟩)
    ·have:=G3.o;have:=rD.o;rw[l6];show done.length+1<=s2.k;omega
end Go.Proofs
