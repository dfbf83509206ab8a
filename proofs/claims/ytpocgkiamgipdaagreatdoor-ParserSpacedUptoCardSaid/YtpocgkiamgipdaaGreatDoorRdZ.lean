import Derived.Test.YtpocgkiamgipdaaGreatDoorRdV
set_option maxRecDepth 1000000
set_option maxHeartbeats 0
set_option linter.unusedVariables false
set_option linter.unusedSimpArgs false
open Go.Proofs.Tryz
namespace Go.Proofs
open Go.RowKit Go.Hb Go.Pz
section
variable {ts:List Tk} {O:Am} {qt:Int} {tx:Bs->Int->Tm} {n:Nat} {s:RS} {most:Int} {x:Tm} {p:Int} {u:Tk}
theorem Kk (hu:u=now ts s) (h:(!Cb u&& !Pz.AG u 44&& !Pz.AG u 124)=false) (hi:(O.inf u.tx).filter (fun o=>decide (o.pr<=most)&&decide (p<=D5 o))=none) (hp:(O.post u.tx).filter (fun o=>decide (o.pr<=most)&&decide (p<=D5 o))=none):CQ ts O qt tx (n+1) s most x p= .ok (x,p,s):=by
 subst hu;rw[CQ];exact(lL (by rw[h];decide)).trans (by rw[hi];show(match(O.post (now ts s).tx).filter _ with|some o=>_|none=>_)=_;rw[hp])
theorem Us (hu:u=now ts s) (h:(!Cb u&& !Pz.AG u 44&& !Pz.AG u 124)=false){o:DH}(hi:(O.inf u.tx).filter (fun o=>decide (o.pr<=most)&&decide (p<=D5 o))=some o):CQ ts O qt tx (n+1) s most x p=(Ay ts O qt tx n (s.on 1) (DV o)).bind fun q=>CQ ts O qt tx n q.2.2 most (.cmp u.tx [x,q.1]) o.pr:=by
 subst hu;rw[CQ];exact(lL (by rw[h];decide)).trans (by rw[hi])
theorem RJ (hu:u=now ts s) (h:(!Cb u&& !Pz.AG u 44&& !Pz.AG u 124)=false) (hi:(O.inf u.tx).filter (fun o=>decide (o.pr<=most)&&decide (p<=D5 o))=none){o:DH}(hp:(O.post u.tx).filter (fun o=>decide (o.pr<=most)&&decide (p<=D5 o))=some o):CQ ts O qt tx (n+1) s most x p=CQ ts O qt tx n (s.on 1) most (.cmp u.tx [x]) o.pr:=by
 subst hu;rw[CQ];exact(lL (by rw[h];decide)).trans (by rw[hi];show(match(O.post (now ts s).tx).filter _ with|some o=>_|none=>_)=_;rw[hp])
end
theorem dZ {ops:Array Oper} {rest:List Oper} {o:Oper} {a:Act} {w:World} {Q:Exit->Act->World->Prop}(hw:Region.wanted o (yielded ops a.tmps)=true) (x:Operand) (ho:o.op= .load 71 x) (g:Nat) (t:Tk) (hx:a.eval x= .pointer (some ⟨g,0,none⟩)) (hg:w.heap[g]? =some (.cells (BH t) 71 (0,0)))
  (h:wpList prog ops Q rest (a.put o.dst (Fk t)) w):wpList prog ops Q (o::rest) a w:=
 wpList_step fun K hK=>by
  simp only[hw,if_true];exact wp_load_row 71 x ho g hx 71 (BH t) (0,0) _ hg underlying71 rfl aa (hK _ _ h)
structure Lp (C:Cx) (w:World) (nv tv:Value) (T:Nat) (c:Array Value) (x:Tm) (wr:World) (s1:RS) (qI qJ:Value):Prop where
 st:D8 C w nv tv wr s1 qI qJ
 l4:Lc C qI qJ wr w.heap.size zV 31
 lt:Lc C qI qJ wr T c 31
 tx:AT wr (Sx C (w.heap.size+1) T qI qJ wr) c.toList x
theorem Lp.step {C:Cx}(hC:C.Ok){w wr W:World} {nv tv qI qJ ub uZ:Value} {T:Nat} {c:Array Value} {x:Tm} {s1 s2:RS}(h:Lp C w nv tv T c x wr s1 qI qJ) (k:D8 C wr qI qJ W s2 ub uZ):Lp C w nv tv T c x W s2 ub uZ:=
 ⟨h.st.call k,h.l4.step hC k.Bj,h.lt.step hC k.Bj,h.tx.Ak (fun b hb=>k.Bj.same hC hb.1.2) (fun b hb=>⟨⟨hb.1.1,k.Bj.sf hb.1.2⟩,hb.2⟩)⟩
theorem Lp.below {C:Cx}(hC:C.Ok){w wr W:World} {nv tv qI qJ:Value} {T:Nat} {c:Array Value} {x:Tm} {s1:RS}(h:Lp C w nv tv T c x wr s1 qI qJ) (hb:Below wr.heap.size wr W):Lp C w nv tv T c x W s1 qI qJ:=
 h.step hC (D8.below hC (D8.start h.st.inv) hb)
theorem Lp.put {C:Cx}(hC:C.Ok){w wr:World} {nv tv qI qJ:Value} {T:Nat} {c:Array Value} {x:Tm} {s1:RS}(h:Lp C w nv tv T c x wr s1 qI qJ) (hT:w.heap.size<T) (d:Array Value) (y:Tm) (hy:AT wr (Sx C (w.heap.size+1) T qI qJ wr) d.toList y):Lp C w nv tv T d y (wr.setRow T d) s1 qI qJ:=
 ⟨h.st.row hC h.lt.sf (mW hT) d,h.l4.Bu (nM hT) d,h.lt.row d,AT.Ak (fun b hb=>mH _ _ _ _ hb.2) (fun b hb=>⟨⟨hb.1.1,hb.1.2.row _ _⟩,hb.2⟩) hy⟩
theorem Bd.kg {ts:List Tk}(hl:EO ts){s:RS}(h:Bd ts s){u:Tk}(hu:u=now ts s) (hz:(!Cb u&& !Pz.AG u 44&& !Pz.AG u 124)=false):Bd ts (s.on 1):=by
 subst hu;cases h1:Cb (now ts s)with
 |true=>exact Bd.name hl h h1
 |false=>
  cases h2:Pz.AG (now ts s) 44 with
  |true=>exact h.AG hl h2
  |false=>
   cases h3:Pz.AG (now ts s) 124 with
   |true=>exact h.AG hl h3
   |false=>rw[h1,h2,h3]at hz;cases hz
theorem Lp.one {C:Cx}(hC:C.Ok){w wr:World} {nv tv qI qJ:Value} {T:Nat} {c:Array Value} {x:Tm} {s1:RS}(h:Lp C w nv tv T c x wr s1 qI qJ) (hT:w.heap.size<T) (nm:Bs):
  Lp C w nv tv T (Gy nm (.slice (some ⟨wr.heap.size,0,none⟩) 1 1)) (.cmp nm [x]) ((wr.drew.alloc (.cells c 31)).setRow T (Gy nm (.slice (some ⟨wr.heap.size,0,none⟩) 1 1))) s1 qI qJ:=by
 have hb:Below wr.heap.size wr (wr.drew.alloc (.cells c 31)):=(Ad (Below.refl _ _)).alloc (lM _) _;have hs:(wr.drew.alloc (.cells c 31)).heap.size=wr.heap.size+1:=by show(wr.drew.alloc _).heap.size=_;simp
 have hl:=h.lt.lt;refine Lp.put hC (h.below hC hb) hT _ _ (AT.of_slice (l:= [x]) (.inr ⟨wr.heap.size,1,c.toList,rfl,⟨⟨by omega,Sf.new h.st.inv (lM _) (by omega)⟩,by omega⟩,fun j hj=> ?_,BJ.one ?_,pg _⟩) (pg _) nm)
 ·rw[mT _ wr.heap.size j _ _ _ (lT wr.drew _),mV]
 ·exact(h.below hC hb).tx
theorem Lp.two {C:Cx}(hC:C.Ok){w wr:World} {nv tv qI qJ:Value} {T:Nat} {c d:Array Value} {x y:Tm} {s1:RS}(h:Lp C w nv tv T c x wr s1 qI qJ) (hT:w.heap.size<T) (nm:Bs) (hy:AT wr (Sx C (w.heap.size+1) T qI qJ wr) d.toList y):
  Lp C w nv tv T (Gy nm (.slice (some ⟨wr.heap.size,0,none⟩) 2 2)) (.cmp nm [x,y]) ((wr.drew.alloc (.cells (c++d) 31)).setRow T (Gy nm (.slice (some ⟨wr.heap.size,0,none⟩) 2 2))) s1 qI qJ:=by
 have hb:Below wr.heap.size wr (wr.drew.alloc (.cells (c++d) 31)):=(Ad (Below.refl _ _)).alloc (lM _) _;have hs:(wr.drew.alloc (.cells (c++d) 31)).heap.size=wr.heap.size+1:=by show(wr.drew.alloc _).heap.size=_;simp
 have hl:=h.lt.lt;refine Lp.put hC (h.below hC hb) hT _ _ (AT.of_slice (l:= [x,y]) (.inr ⟨wr.heap.size,2,c.toList++d.toList,rfl,⟨⟨by omega,Sf.new h.st.inv (lM _) (by omega)⟩,by omega⟩,fun j hj=> ?_,BJ.cons _ _ _ _ ?_ (BJ.one ?_),pg _⟩) (pg _) nm)
 ·rw[mT _ wr.heap.size j _ _ _ (lT wr.drew _),<-Array.toList_append,mV]
 ·exact(h.below hC hb).tx
 ·exact AT.Ak (fun b qM=>hb.block b qM.1.2.2.1) (fun b qM=>⟨⟨qM.1.1,qM.1.2.AY hb.size⟩,qM.2⟩) hy
theorem fO {C:Cx}(hC:C.Ok) (hX:C.jc) (hT:C.Za){n:Nat}(ih:∀m,m<=n->Rec C m){s:RS} {most:Int} {w:World} {nv tv:Value}(h:A0 C w s nv tv) (hf:4*(C.ts.length-s.k)+3<=n+1) (rK:0<=most) (qw:most<=1200):
  Calls prog 24 #[.pointer (some ⟨C.R,0,none⟩),.int .i64 most] w (Out C w nv tv (Ay C.ts C.O C.qt CZ (n+1) s most)):=by
 obtain⟨r0,qO⟩:∃r,r=Ay C.ts C.O C.qt CZ (n+1) s most:=⟨_,rfl⟩;rw[<-qO];obtain⟨r,hr⟩:∃r,r=A6 C.ts C.O C.qt CZ n s most:=⟨_,rfl⟩;have G0:Hid (r0=r.bind fun q=>CQ C.ts C.O C.qt CZ n q.2.2 most q.1 q.2.1):=lK (by rw[qO,hr,Ay]);have HRD:=lK hr;have lk0:=h.bd.kl;have yV:=lK (fun W (hb:Below w.heap.size w W)=>(ih n (lM _)).left s most W nv tv (h.below hC hb) (by omega) rK qw);rw[<-hr]at yV;have HI:=lK h;have HF:=lK hf;have IH:=lK ih;have HM:=lK (And.intro rK qw);have LK0:=lK lk0;have LA4:=lK (Lc.new h zV 31);have SA:=lK ((D8.start h).below hC (Bzz (.cells zV 31)));have HB:Hid (Below w.heap.size w (w.alloc (.cells zV 31))):=lK (Bzz _);clear h hf ih hr qO lk0 rK qw;go_enter func24,ntmps24
 go_wp2_with (go_at_call 39;(refine(yV.o _ HB.o).mono ?_))
 rintro e W3 h3;cases r with
 |stop wd a=>
  obtain⟨rfl,qH,qG,hk⟩:=h3;have HK:=lK (SA.o.Bj.trans hk);have HE:Hid (r0=Rz.stop wd a):=G0;clear hk;go_wp2;rw[HE.o];exact⟨rfl,rfl,qH,qG,HK.o⟩
 |ok q=>
  obtain⟨x,p,s1⟩:=q;obtain⟨c,qI,qJ,rfl,h4,h5⟩:=h3;have rD:Hid (Bd C.ts s1/\s.k<s1.k):=lK ((IN hC.last hC.fin n).2.2.2.1 s most x p s1 HI.o.bd HRD.o.symm);have C6:Hid (c.size=6):=lK (by have:=h5.len;simpa using this);have CO:=lK (AT.Bq h5);have L4b:=lK (LA4.o.step hC h4.Bj);have HV:Hid (w.heap.size<W3.heap.size):=lK L4b.o.lt;have HA:Hid (w.heap.size+1<=(w.alloc (.cells zV 31)).heap.size):=lK (by simp);have NE:=lK (lT W3 (.cells zV 31));have qV:=(Below.row ((Below.refl W3.heap.size W3).alloc (lM _) (.cells zV 31)) (lM _) c);have LP:Hid (Lp C w nv tv W3.heap.size c x ((W3.alloc (.cells zV 31)).setRow W3.heap.size c) s1 qI qJ):=lK ⟨(SA.o.call h4).below hC qV,L4b.o.below qV,Lc.row (Lc.new h4.inv zV 31) c,h5.Ak (fun b hb=>qV.block b hb.2.2.1) (fun b hb=>⟨⟨lg HA.o hb.1,hb.2.AY qV.size⟩,nM hb.2.2.1⟩)⟩;clear h4 h5 qV yV SA LA4 HB L4b HA
  go_upto_block 0 with(refine F8 rfl _ _ rfl W3.heap.size c rfl rfl _ NE.o rfl C6.o CO.o ?_)
  clear NE;generalize(W3.alloc (.cells zV 31)).setRow W3.heap.size c=W8 at*;generalize W3.heap.size=T at*
  try simp only[Act.put]
  go_wp2_with fail
  go_loopw [7] (fun v7 wr=>∃(m:Nat) (s1:RS) (x:Tm) (p:Int) (c:Array Value) (qI qJ:Value),v7= .int .i64 p/\Hid (r0=CQ C.ts C.O C.qt CZ (m+1) s1 most x p/\m<=n/\4*(C.ts.length-s1.k)+3<=m+1/\s.k<s1.k/\c.size=6/\Lp C w nv tv T c x wr s1 qI qJ)) (fun _ wr=>match wr.cell? ⟨C.R,1,none⟩with|some (.int .i64 k)=>C.ts.length-k.toNat|_=>0)
  case atStart=>
   obtain⟨n,rfl⟩:∃n',n=n'+1:=⟨n-1,by have:=HF.o;have:=LK0.o;omega⟩;refine⟨n,s1,x,p,c,qI,qJ,rfl,lK ⟨G0.o,mO _,?_,rD.o.2,C6.o,LP.o⟩⟩;have:=HF.o;have:=rD.o;have:=LK0.o;omega
  case round=>
   clear LP C6 CO rD G0 HRD;obtain⟨m,s1,x,p,c,qI,qJ,rfl,hq⟩:=hrel;obtain⟨g0,g1,g2,g3,g4,g5⟩:=hq.o;have G0:=lK g0;have G1:=lK g1;have G2:=lK g2;have G3:=lK g3;have C6:=lK g4;have CO:=lK (AT.Bq g5.tx);have LP:=lK g5;have MS:=lK g5.st.inv.hR.cells.2.1;have lk:(s1.k:Int)<100000000:=by have:=g5.st.inv.bd.kl;have:=hC.len;omega
   have CN:=lK (JK hC g5.st.inv);have NM:=lK (EN g5.st.inv);obtain⟨u,hu⟩:∃u,u=now C.ts s1:=⟨_,rfl⟩;rw[<-hu]at CN NM;have HU:=lK hu;clear hq g0 g1 g2 g3 g4 g5 hu
   go_wp2_with (go_at_call 25;(with_reducible refine CN.o.mono ?_))
   rintro e W1 ⟨rfl,b1⟩;have NE:=lK (lT W1 (.cells zW 71));have qV:=(Below.row ((Below.refl W1.heap.size W1).alloc (lM _) (.cells zW 71)) (lM _) (BH u));have LP:=lK ((LP.o.below hC b1).below hC qV);have L8:=lK (Lc.row (Lc.new (A0.below hC (A0.below hC (‹Hid (Lp C w nv tv T c x wr s1 qI qJ)›).o.st.inv b1) (Below.refl _ _)) zW 71) (BH u));have TW:Hid (T<W1.heap.size):=lK (lR (‹Hid (Lp C w nv tv T c x wr s1 qI qJ)›).o.lt.lt b1.size);clear b1 qV CN
   go_upto_region 3 with(refine YS rfl _ _ rfl W1.heap.size u rfl rfl _ NE.o rfl ?_)
   clear NE;generalize(W1.alloc (.cells zW 71)).setRow W1.heap.size (BH u)=X at*;generalize W1.heap.size=T8 at*
   try simp only[Act.put]
   obtain⟨z,hz⟩:∃z,z=(!Cb u&& !Pz.AG u 44&& !Pz.AG u 124):=⟨_,rfl⟩;have HZ:=lK hz;clear hz
   go_cut [39]from 25 to 131 (fun v39 wx=>v39= .bool z/\Lp C w nv tv T c x wx s1 qI qJ/\Lc C qI qJ wx T8 (BH u) 71/\Below X.heap.size X wx)
   case first=>
    as_aux_lemma=>
    have xI:=lK (fun W=>Ru u W);have zE:=lK (fun W=>Au u 44 W);have AAA:=lK (fun W=>Au u 124 W);have BX:=lK (Below.refl X.heap.size X);cases hn:Cb u with
    |true=>
     rw[hn]at xI;have hz:z=false:=by rw[HZ.o,hn];rfl
     subst hz;clear hn HZ
     go_wp2_with (first|(refine Ei rfl _ rfl T8 u rfl L8.o.h ?_)|(go_at_call 40;(with_reducible refine(xI.o _).mono ?_)))
     rintro e W2 ⟨rfl,b⟩;have LP:=lK (LP.o.below hC b);have L8:=lK (L8.o.below b);have BX:=lK (BX.o.trans (b.mono BX.o.size));clear b;go_wp2;go_meet;exact⟨rfl,LP.o,L8.o,BX.o⟩
    |false=>
     rw[hn]at xI;have HN:=lK hn;clear hn
     go_wp2_with (first|(refine Ei rfl _ rfl T8 u rfl L8.o.h ?_)|(go_at_call 40;(with_reducible refine(xI.o _).mono ?_)))
     rintro e W2 ⟨rfl,b⟩;have LP:=lK (LP.o.below hC b);have L8:=lK (L8.o.below b);have BX:=lK (BX.o.trans (b.mono BX.o.size));clear b;cases h44:Pz.AG u 44 with
     |true=>
      rw[h44]at zE;have hz:z=false:=by rw[HZ.o,h44];simp
      subst hz;clear h44 HZ HN
      go_wp2_with (first|(refine dZ (by kernel_rfl) _ rfl T8 u rfl L8.o.h ?_)|(go_at_call 41;(with_reducible refine(zE.o _).mono ?_)))
      rintro e W4 ⟨rfl,b⟩;have LP:=lK (LP.o.below hC b);have L8:=lK (L8.o.below b);have BX:=lK (BX.o.trans (b.mono BX.o.size));clear b;go_wp2;go_meet;exact⟨rfl,LP.o,L8.o,BX.o⟩
     |false=>
      rw[h44]at zE;have H44:=lK h44;clear h44
      go_wp2_with (first|(refine dZ (by kernel_rfl) _ rfl T8 u rfl L8.o.h ?_)|(go_at_call 41;(with_reducible refine(zE.o _).mono ?_)))
      rintro e W4 ⟨rfl,b⟩;have LP:=lK (LP.o.below hC b);have L8:=lK (L8.o.below b);have BX:=lK (BX.o.trans (b.mono BX.o.size));clear b;obtain⟨y,hy⟩:∃y,y=Pz.AG u 124:=⟨_,rfl⟩;rw[<-hy]at AAA;have hz:z= !y:=by rw[HZ.o,HN.o,H44.o,hy];rfl
      subst hz;clear hy HZ HN H44
      go_wp2_with (first|(refine dZ (by kernel_rfl) _ rfl T8 u rfl L8.o.h ?_)|(go_at_call 41;(with_reducible refine(AAA.o _).mono ?_)))
      rintro e W5 ⟨rfl,b⟩;have LP:=lK (LP.o.below hC b);have L8:=lK (L8.o.below b);have BX:=lK (BX.o.trans (b.mono BX.o.size));clear b;go_wp2;go_meet;exact⟨rfl,LP.o,L8.o,BX.o⟩
   case rest=>
   obtain⟨rfl,r1,r2,r3⟩:=hcut;obtain⟨X2,yx⟩:∃W,W=wc:=⟨_,rfl⟩;subst yx;have LP:=lK r1;have L8:=lK r2;clear r1 r2 r3;cases z with
   |true=>
    have HE:Hid (r0=Rz.ok (x,p,s1)):=lK (by
     rw[G0.o,CQ];exact lQ (by rw[<-HU.o];exact HZ.o.symm))
    go_wp2_with (first|(refine KK rfl _ rfl T c C6.o rfl LP.o.lt.h ?_)|(refine F8 rfl _ _ rfl w.heap.size c rfl rfl _ LP.o.l4.h rfl C6.o CO.o ?_))
    rw[HE.o];have LF:=lK (LP.o.st.row hC LP.o.l4.sf (lM _) c);have TXF:=lK (AT.low (AT.ED (AT.imp LP.o.tx (fun b hb=>hb.1)) (oE _) c) (mO w.heap.size));refine lS (v:= .tuple #[.agg c,.int .i64 p]) ?_ rfl ⟨c,qI,qJ,rfl,LF.o,TXF.o⟩;exact results_cell_tmp rfl _ _ w.heap.size 31 c (0,0) _ (.int .i64 p) rfl rfl (mF _ _ _ _ _ _ LP.o.l4.h) mE rfl (by rw[C6.o];exact Cg)
   |false=>
    obtain⟨m,rfl⟩:∃m',m=m'+1:=⟨m-1,by have:=G2.o;have:=LP.o.st.inv.bd.kl;omega⟩;have yd:Hid (u.tx.length<=1000000000):=lK (hC.tk u NM.o).1;have zi:Hid (C.R<X2.heap.size):=lK (lR hC.rb LP.o.st.inv.sz);have HTX:Hid (T8<X2.heap.size):=lK L8.o.lt;have CTX:Hid (X2.cell? ⟨T8,1,none⟩=some (.string (bs u.tx))):=lK (Af L8.o.h).2.1;have C2X:Hid (X2.cell? ⟨C.R,2,none⟩=some C.o):=lK LP.o.st.inv.hR.cells.2.2.1;obtain⟨ri,zg⟩:∃ri,ri=C.O.inf u.tx:=⟨_,rfl⟩;have CFX:Hid (∀W,Below X2.heap.size X2 W->Calls prog 42 #[C.o,.string (bs u.tx)] W fun e w'=>e= .returned (AM u.tx ri)/\Below W.heap.size W w'):=lK (fun W hb=>by rw[zg];exact hT.inf W u.tx yd.o (LP.o.below hC hb).st.inv.Fm);have HRI:=lK zg;clear zg
    go_upto_region 5 with fail
    go_cut [9,10]from 25 to 131 (fun v9 v10 wx=>∃b9,v9= .pointer (some ⟨b9,0,none⟩)/\v10= .bool ri.isSome/\wx.heap[b9]? =some (.cells (Fa (EL u.tx ri) (EC ri)) 61)/\X2.heap.size<=b9/\b9<wx.heap.size/\Below X2.heap.size X2 wx)
    case first=>
     as_aux_lemma=>
     refine wp_region_held_drew (S:=fun W=>Below X2.heap.size X2 W) (by kernel_rfl) (Ad (Below.refl _ _)) (fun hS=> ?_);refine tk 0 (.pointer (some ⟨C.R,0,none⟩)) rfl hS ?_;refine tk 1 (.pointer (some ⟨C.R,0,none⟩)) rfl hS ?_;refine tk 2 (.pointer (some ⟨C.R,2,none⟩)) rfl hS ?_;refine DQ 3 (C.o) rfl hS (fun W hSW=> ?_) ?_
     ·have e1:=(hSW.cell (p:=⟨C.R,2,none⟩) zi.o).trans C2X.o;go_simp
     refine tk 4 (.pointer (some ⟨T8,1,none⟩)) rfl hS ?_;refine DQ 5 (.string (bs u.tx)) rfl hS (fun W hSW=> ?_) ?_
     ·have e1:=(hSW.cell (p:=⟨T8,1,none⟩) HTX.o).trans CTX.o;go_simp
     try simp only[uu,Act.put]
     refine wpAnyH_ready (rs:= [6,10]) (by kernel_rfl) (by simp) ?_;refine AllReadyH.cons rfl (fun K hK=> ?_) (AllReadyH.cons rfl (fun K hK=> ?_) AllReadyH.nil)
     ·refine As (by rfl) 42 [.tmp 46,.tmp 48] #[24,9] (by rfl) #[C.o,.string (bs u.tx)] (by kernel_rfl) KN ((CFX.o _ hS).mono ?_);rintro e' W6 ⟨rfl,b6⟩;refine⟨_,rfl,?_⟩;refine hK.o _ _ (hS.trans (b6.mono hS.size)) (fun hS=> ?_);refine tk 7 (AM u.tx (ri)) rfl hS ?_;refine DQ 8 (Dl (EL u.tx (ri)) (EC (ri))) rfl hS (fun W hSW=> ?_) ?_
      ·unfold AM;go_simp
      refine DQ 9 (.bool (ri).isSome) rfl hS (fun W hSW=> ?_) ?_
      ·unfold AM;go_simp
      try simp only[uu,Act.put]
      refine DD 10 rfl (fun K hK=> ?_);go_simp;refine hK.o _ _ (hS.alloc hS.size _) (fun hS=> ?_)
      try simp only[uu,Act.put]
      refine DD 11 rfl (fun K hK=> ?_);refine Aj rfl (E3 _ _ rfl W6.heap.size (EL u.tx ri) (EC ri) rfl rfl #[.string ⟨#[]⟩,.int .i64 0,.int .i64 0] (lT W6 _) rfl ?_);refine hK.o _ _ (Below.row hS b6.size _) (fun hS=> ?_);refine tk 12 (.bool (ri).isSome) rfl hS ?_
      try simp only[uu,Act.put]
      refine wpAnyH_done (by kernel_rfl) ?_ _;go_wp2;go_meet;exact⟨W6.heap.size,rfl,rfl,mF _ _ _ _ _ _ (lT W6 _),b6.size,by rw[Al];simp,hS⟩
     ·go_simp;refine hK.o _ _ (hS.alloc hS.size _) (fun hS=> ?_)
      try simp only[uu,Act.put]
      refine DD 6 rfl (fun K hK=> ?_);refine As (by rfl) 42 [.tmp 46,.tmp 48] #[24,9] (by rfl) #[C.o,.string (bs u.tx)] (by kernel_rfl) KN ((CFX.o _ hS).mono ?_);rintro e' W6 ⟨rfl,b6⟩;refine⟨_,rfl,?_⟩;refine hK.o _ _ (hS.trans (b6.mono hS.size)) (fun hS=> ?_);refine tk 7 (AM u.tx (ri)) rfl hS ?_;refine DQ 8 (Dl (EL u.tx (ri)) (EC (ri))) rfl hS (fun W hSW=> ?_) ?_
      ·unfold AM;go_simp
      refine DQ 9 (.bool (ri).isSome) rfl hS (fun W hSW=> ?_) ?_
      ·unfold AM;go_simp
      try simp only[uu,Act.put]
      have hz:W6.heap[X2.heap.size]? =some (.cells #[.string ⟨#[]⟩,.int .i64 0,.int .i64 0] 61):=(b6.block _ (by show X2.heap.size<(X2.alloc _).heap.size;simp)).trans (lT X2 _);refine DD 11 rfl (fun K hK=> ?_);refine Aj rfl (E3 _ _ rfl X2.heap.size (EL u.tx ri) (EC ri) rfl rfl #[.string ⟨#[]⟩,.int .i64 0,.int .i64 0] hz rfl ?_);refine hK.o _ _ (Below.row hS (lM _) _) (fun hS=> ?_);refine tk 12 (.bool (ri).isSome) rfl hS ?_
      try simp only[uu,Act.put]
      refine wpAnyH_done (by kernel_rfl) ?_ _;go_wp2;go_meet;exact⟨X2.heap.size,rfl,rfl,mF _ _ _ _ _ _ hz,lM _,by rw[Al];exact(lN.1 hz).1,hS⟩
    case rest=>
    obtain⟨T9,rfl,rfl,r1,r2,r3,r4⟩:=hcut;obtain⟨X3,hX3⟩:∃W,W=wc:=⟨_,rfl⟩;subst hX3;have L9:Hid (Lc C qI qJ X3 T9 (Fa (EL u.tx ri) (EC ri)) 61):=lK ⟨Sf.new LP.o.st.inv r2 r3,r1⟩;have LP:=lK (LP.o.below hC r4);have L8:=lK (L8.o.below r4);have T89:Hid (T8<T9):=lK (lR HTX.o r2);clear r1 r2 r3 r4 zi HTX CTX C2X CFX;rcases ri with _|o
    focus
     have zB:Hid ((C.O.inf u.tx).filter (fun o=>decide (o.pr<=most)&&decide (p<=D5 o))=none):=lK (by rw[<-HRI.o];rfl);clear L9 T89;simp only[Option.isSome_none]
     go_upto_region 12 with fail
     obtain⟨X5,xj⟩:∃W,W=X3:=⟨_,rfl⟩;subst xj
    rotate_left
    focus
     have HO:Hid (1<=o.pr/\o.pr<=1200):=lK (hC.pr u.tx o (.inr (.inl HRI.o.symm)));have xK:Hid (∀W,Calls prog 43 #[Dl u.tx o] W fun e w'=>e= .returned (.tuple #[.int .i64 (D5 o),.int .i64 (DV o)])/\Below W.heap.size W w'):=lK (fun W=>J9 (bs u.tx) o.ty o.pr W (by have:=HO.o;omega) HO.o.2);have hO:Fa (EL u.tx (some o)) (EC (some o))=Fa u.tx o:=rfl;rw[hO]at L9;clear hO;simp only[Option.isSome_some];have HSR:Hid (0<=DV o/\DV o<=1200):=lK (by have:=HO.o;unfold DV;constructor<;>(repeat' split)<;>omega);obtain⟨lft,hlft⟩:∃l,l=D5 o:=⟨_,rfl⟩;have HLF:=lK hlft;obtain⟨rgt,yp⟩:∃l,l=DV o:=⟨_,rfl⟩;have HRG:=lK yp;rw[<-hlft,<-yp]at xK;rw[<-yp]at HSR;clear hlft yp
     go_wp2_with (first|(refine jZ rfl _ rfl T9 u.tx o rfl L9.o.h ?_)|(go_at_call 43;(with_reducible refine(xK.o _).mono ?_)))
     rintro e X4 ⟨rfl,b⟩;have LP:=lK (LP.o.below hC b);have L8:=lK (L8.o.below b);have L9:=lK (L9.o.below b);clear b xK;have c2:X4.cell? ⟨T9,2,none⟩=some (.int .i64 o.pr):=by rw[Lib.cell_of_heap L9.o.h];rfl
     rcases qm:decide (o.pr<=most)with _|_
     focus
      have zB:Hid ((C.O.inf u.tx).filter (fun o=>decide (o.pr<=most)&&decide (p<=D5 o))=none):=lK (by rw[<-HRI.o];simp[Option.filter,qm])
      go_upto_region 12 with fail
      clear qm c2 L9 T89;obtain⟨X5,xj⟩:∃W,W=X4:=⟨_,rfl⟩;subst xj
     rotate_left
     rcases qR:decide (p<=lft)with _|_
     focus
      have zB:Hid ((C.O.inf u.tx).filter (fun o=>decide (o.pr<=most)&&decide (p<=D5 o))=none):=lK (by rw[<-HRI.o];simp[Option.filter,<-HLF.o,qR])
      go_upto_region 12 with fail
      clear qm qR c2 L9 T89;obtain⟨X5,xj⟩:∃W,W=X4:=⟨_,rfl⟩;subst xj
     rotate_left
     ·
      have zB:Hid ((C.O.inf u.tx).filter (fun o=>decide (o.pr<=most)&&decide (p<=D5 o))=some o):=lK (by rw[<-HRI.o];simp[Option.filter,<-HLF.o,qm,qR]);have tM:=lK (Bd.kg hC.last LP.o.st.inv.bd HU.o HZ.o.symm);have LK1:=lK LP.o.st.inv.bd.kl;have r1:=LP.o.st.inv.hR.cells.2.1;have f1:=Lib.frozen_of_heap LP.o.st.inv.hR.h 1
      go_upto_region 10 with fail
      have LPo:=LP;have LP:=lK (LPo.o.step hC (D8.on hC (D8.start LPo.o.st.inv) tM.o (v:= .int .i64 ((s1.k:Int)+1)) rfl));have L8:=lK (L8.o.on hC (.int .i64 ((s1.k:Int)+1)));have L9:=lK (L9.o.on hC (.int .i64 ((s1.k:Int)+1)));clear qm qR r1 f1 LPo c2;generalize X4.setCell _ _=X7 at*
      try simp only[Act.put]
      have tR:=lK ((IH.o (m+1) G1.o).term (s1.on 1) rgt X7 qI qJ LP.o.st.inv (by have h1:=G2.o;have h2:=LK1.o;show 4*(C.ts.length-(s1.k+1))+3<=m+1;omega) HSR.o.1 HSR.o.2);obtain⟨r,hr⟩:∃r,r=Ay C.ts C.O C.qt CZ (m+1) (s1.on 1) rgt:=⟨_,rfl⟩;rw[<-hr]at tR;have HE0:Hid (r0=r.bind fun q=>CQ C.ts C.O C.qt CZ (m+1) q.2.2 most (.cmp u.tx [x,q.1]) o.pr):=lK (by rw[G0.o,hr,HRG.o];exact Us HU.o HZ.o.symm zB.o);have qZ:=lK hr;clear hr zB
      go_wp2_with (go_at_call 24;(refine tR.o.mono ?_))
      rintro e W9 h9;cases r with
      |stop wd a=>
       obtain⟨rfl,qH,qG,hk⟩:=h9;have HK:=lK (LP.o.st.Bj.trans hk);have HE:Hid (r0=Rz.stop wd a):=HE0;clear hk;go_wp2;rw[HE.o];exact⟨rfl,rfl,qH,qG,HK.o⟩
      |ok q=>
       obtain⟨y,py,s2⟩:=q;obtain⟨d,ub,uZ,rfl,h4,h5⟩:=h9;have HE:Hid (r0=CQ C.ts C.O C.qt CZ (m+1) s2 most (.cmp u.tx [x,y]) o.pr):=HE0;have LKA:Hid (s1.k<C.ts.length/\s1.k<s2.k):=lK ⟨LK1.o,Nat.lt_of_succ_lt ((IN hC.last hC.fin (m+1)).1 (s1.on 1) rgt y py s2 tM.o qZ.o.symm).2⟩;have D6:Hid (d.size=6):=lK (by have:=h5.len;simpa using this);have D1:=lK (AT.Bq h5);have N13:Hid (T<W9.heap.size/\T<X7.heap.size):=lK ⟨lR LP.o.lt.lt h4.Bj.kept.size,LP.o.lt.lt⟩;have NE:=lK (lT W9 (.cells zV 31));have qV:=(Below.row ((Below.refl W9.heap.size W9).alloc (lM _) (.cells zV 31)) (lM _) d);have HR13:=lK (Lc.row (Lc.new h4.inv zV 31) d);have LP:=lK ((LP.o.step hC h4).below hC qV);have L8:=lK ((L8.o.step hC h4.Bj).below qV);have L9:=lK ((L9.o.step hC h4.Bj).below qV);have TY:Hid (AT ((W9.alloc (.cells zV 31)).setRow W9.heap.size d) (Sx C (w.heap.size+1) T ub uZ ((W9.alloc (.cells zV 31)).setRow W9.heap.size d)) d.toList y):=lK (h5.Ak (fun b hb=>qV.block b hb.2.2.1) (fun b hb=>⟨⟨by have h1:=HV.o;have h2:=N13.o;have h3:=hb.1;omega,hb.2.AY qV.size⟩,by have h2:=N13.o;have h3:=hb.1;omega⟩));clear h4 h5 qV tR
       go_upto_region 11 with(refine F8 rfl _ _ rfl W9.heap.size d rfl rfl _ NE.o rfl D6.o D1.o ?_)
       clear NE;generalize(W9.alloc (.cells zV 31)).setRow W9.heap.size d=X9 at*;generalize W9.heap.size=T13 at*
       try simp only[Act.put]
       have NT8:Hid (T8≠T):=lK (Nat.ne_of_gt TW.o);have NT9:Hid (T9≠T):=lK (by have:=TW.o;have:=T89.o;omega);have NT13:Hid (T13≠T):=lK (by have:=N13.o;omega);have LF:=lK (Lp.two hC LP.o HV.o u.tx TY.o);refine wp_region_held_drew (S:=fun W=>W.heap[T8]? =some (.cells (BH u) 71)/\W.heap[T9]? =some (.cells (Fa u.tx o) 61)/\W.heap[T13]? =some (.cells d 31)) (by kernel_rfl) ⟨L8.o.h,L9.o.h,HR13.o.h⟩ (fun hS=> ?_);refine tk 0 (.pointer (some ⟨T8,1,none⟩)) rfl hS ?_;refine DQ 1 (.string (bs u.tx)) rfl hS (fun W hSW=> ?_) ?_
       ·have e1:=(Af hSW.1).2.1;go_simp
       refine tk 6 (.pointer (some ⟨T9,2,none⟩)) rfl hS ?_;refine DQ 7 (.int .i64 o.pr) rfl hS (fun W hSW=> ?_) ?_
       ·have e1:W.cell? ⟨T9,2,none⟩=some (.int .i64 o.pr):=(by rw[Lib.cell_of_heap hSW.2.1];rfl);go_simp
       try simp only[uu,Act.put]
       refine wpAnyH_take (i:=3) (oi:=_) (v:= .agg d) rfl (by kernel_rfl) (by kernel_rfl) (by kernel_rfl) (fun _ _ _ h=>h) (QO rfl _ rfl T13 d D6.o rfl (fun _ h=>h.2.2)) hS ?_
       try simp only[uu,Act.put]
       refine DD 2 rfl (fun K hK=> ?_);refine Aj rfl (Qi _ rfl T c C6.o rfl LP.o.lt.h ?_);refine hK.o _ _ hS (fun hS=> ?_)
       try simp only[uu,Act.put]
       refine DD 4 rfl (fun K hK=> ?_);refine Aj rfl (QF _ _ rfl c d C6.o D6.o rfl rfl ?_);refine hK.o _ _ ⟨(Lib.alloc_old _ _ _ L8.o.lt).trans hS.1,(Lib.alloc_old _ _ _ L9.o.lt).trans hS.2.1,(Lib.alloc_old _ _ _ HR13.o.lt).trans hS.2.2⟩ (fun hS=> ?_);refine DQ 5 (.agg (Gy u.tx (.slice (some ⟨X9.heap.size,0,none⟩) 2 2))) rfl hS (fun W hSW=> ?_) ?_
       ·go_simp;rfl
       try simp only[uu,Act.put]
       refine DD 8 rfl (fun K hK=> ?_);refine Aj rfl (Ld _ _ rfl T (Gy u.tx (.slice (some ⟨X9.heap.size,0,none⟩) 2 2)) rfl rfl _ ((Lib.alloc_old _ _ _ LP.o.lt.lt).trans LP.o.lt.h) C6.o rfl (IJ _ rfl) ?_);refine hK.o _ _ ⟨(mH _ _ _ _ NT8.o).trans hS.1,(mH _ _ _ _ NT9.o).trans hS.2.1,(mH _ _ _ _ NT13.o).trans hS.2.2⟩ (fun hS=> ?_);refine tk 9 (.int .i64 o.pr) rfl hS ?_
       try simp only[uu,Act.put]
       refine wpAnyH_done (by kernel_rfl) ?_ _;clear hS;generalize(X9.drew.alloc (.cells (c++d) 31)).setRow T (Gy u.tx (.slice (some ⟨X9.heap.size,0,none⟩) 2 2))=F at*;have XF:=lK LF.o.st.inv.hR.cells.2.1;go_wp2;go_roundw
       case rel=>
        refine⟨m,s2,.cmp u.tx [x,y],o.pr,_,ub,uZ,rfl,lK ⟨HE.o,by have:=G1.o;omega,?_,?_,rfl,LF.o⟩⟩
        ·have h1:=G2.o;have h2:=LKA.o;show 4*(C.ts.length-(s2.k))+3<=m+1;omega
        ·have h1:=G3.o;have h2:=LKA.o;show s.k<s2.k;omega
       case measure=>
        rw[XF.o,MS.o];show C.ts.length-((s2.k:Nat):Int).toNat<C.ts.length-((s1.k:Nat):Int).toNat;rw[mB,mB];have h2:=LKA.o;omega
    all_goals
     have zi:Hid (C.R<X5.heap.size):=lK (lR hC.rb LP.o.st.inv.sz);have HTX:Hid (T8<X5.heap.size):=lK L8.o.lt;have CTX:Hid (X5.cell? ⟨T8,1,none⟩=some (.string (bs u.tx))):=lK (Af L8.o.h).2.1;have C2X:Hid (X5.cell? ⟨C.R,2,none⟩=some C.o):=lK LP.o.st.inv.hR.cells.2.2.1;obtain⟨rp,hrp⟩:∃rp,rp=C.O.post u.tx:=⟨_,rfl⟩;have CFX:Hid (∀W,Below X5.heap.size X5 W->Calls prog 44 #[C.o,.string (bs u.tx)] W fun e w'=>e= .returned (AM u.tx rp)/\Below W.heap.size W w'):=lK (fun W hb=>by rw[hrp];exact hT.post W u.tx yd.o (LP.o.below hC hb).st.inv.Fm);have HRP:=lK hrp;clear hrp
     go_cut [15,16]from 25 to 131 (fun v15 v16 wx=>∃b15,v15= .pointer (some ⟨b15,0,none⟩)/\v16= .bool rp.isSome/\wx.heap[b15]? =some (.cells (Fa (EL u.tx rp) (EC rp)) 61)/\X5.heap.size<=b15/\b15<wx.heap.size/\Below X5.heap.size X5 wx)
     case first=>
      as_aux_lemma=>
      refine wp_region_held_drew (S:=fun W=>Below X5.heap.size X5 W) (by kernel_rfl) (Ad (Below.refl _ _)) (fun hS=> ?_);refine tk 0 (.pointer (some ⟨C.R,0,none⟩)) rfl hS ?_;refine tk 1 (.pointer (some ⟨C.R,0,none⟩)) rfl hS ?_;refine tk 2 (.pointer (some ⟨C.R,2,none⟩)) rfl hS ?_;refine DQ 3 (C.o) rfl hS (fun W hSW=> ?_) ?_
      ·have e1:=(hSW.cell (p:=⟨C.R,2,none⟩) zi.o).trans C2X.o;go_simp
      refine tk 4 (.pointer (some ⟨T8,1,none⟩)) rfl hS ?_;refine DQ 5 (.string (bs u.tx)) rfl hS (fun W hSW=> ?_) ?_
      ·have e1:=(hSW.cell (p:=⟨T8,1,none⟩) HTX.o).trans CTX.o;go_simp
      try simp only[uu,Act.put]
      refine wpAnyH_ready (rs:= [6,10]) (by kernel_rfl) (by simp) ?_;refine AllReadyH.cons rfl (fun K hK=> ?_) (AllReadyH.cons rfl (fun K hK=> ?_) AllReadyH.nil)
      ·refine As (by rfl) 44 [.tmp 92,.tmp 94] #[24,9] (by rfl) #[C.o,.string (bs u.tx)] (by kernel_rfl) J4 ((CFX.o _ hS).mono ?_);rintro e' W6 ⟨rfl,b6⟩;refine⟨_,rfl,?_⟩;refine hK.o _ _ (hS.trans (b6.mono hS.size)) (fun hS=> ?_);refine tk 7 (AM u.tx (rp)) rfl hS ?_;refine DQ 8 (Dl (EL u.tx (rp)) (EC (rp))) rfl hS (fun W hSW=> ?_) ?_
       ·unfold AM;go_simp
       refine DQ 9 (.bool (rp).isSome) rfl hS (fun W hSW=> ?_) ?_
       ·unfold AM;go_simp
       try simp only[uu,Act.put]
       refine DD 10 rfl (fun K hK=> ?_);go_simp;refine hK.o _ _ (hS.alloc hS.size _) (fun hS=> ?_)
       try simp only[uu,Act.put]
       refine DD 11 rfl (fun K hK=> ?_);refine Aj rfl (E3 _ _ rfl W6.heap.size (EL u.tx rp) (EC rp) rfl rfl #[.string ⟨#[]⟩,.int .i64 0,.int .i64 0] (lT W6 _) rfl ?_);refine hK.o _ _ (Below.row hS b6.size _) (fun hS=> ?_);refine tk 12 (.bool (rp).isSome) rfl hS ?_
       try simp only[uu,Act.put]
       refine wpAnyH_done (by kernel_rfl) ?_ _;go_wp2;go_meet;exact⟨W6.heap.size,rfl,rfl,mF _ _ _ _ _ _ (lT W6 _),b6.size,by rw[Al];simp,hS⟩
      ·go_simp;refine hK.o _ _ (hS.alloc hS.size _) (fun hS=> ?_)
       try simp only[uu,Act.put]
       refine DD 6 rfl (fun K hK=> ?_);refine As (by rfl) 44 [.tmp 92,.tmp 94] #[24,9] (by rfl) #[C.o,.string (bs u.tx)] (by kernel_rfl) J4 ((CFX.o _ hS).mono ?_);rintro e' W6 ⟨rfl,b6⟩;refine⟨_,rfl,?_⟩;refine hK.o _ _ (hS.trans (b6.mono hS.size)) (fun hS=> ?_);refine tk 7 (AM u.tx (rp)) rfl hS ?_;refine DQ 8 (Dl (EL u.tx (rp)) (EC (rp))) rfl hS (fun W hSW=> ?_) ?_
       ·unfold AM;go_simp
       refine DQ 9 (.bool (rp).isSome) rfl hS (fun W hSW=> ?_) ?_
       ·unfold AM;go_simp
       try simp only[uu,Act.put]
       have hz:W6.heap[X5.heap.size]? =some (.cells #[.string ⟨#[]⟩,.int .i64 0,.int .i64 0] 61):=(b6.block _ (by show X5.heap.size<(X5.alloc _).heap.size;simp)).trans (lT X5 _);refine DD 11 rfl (fun K hK=> ?_);refine Aj rfl (E3 _ _ rfl X5.heap.size (EL u.tx rp) (EC rp) rfl rfl #[.string ⟨#[]⟩,.int .i64 0,.int .i64 0] hz rfl ?_);refine hK.o _ _ (Below.row hS (lM _) _) (fun hS=> ?_);refine tk 12 (.bool (rp).isSome) rfl hS ?_
       try simp only[uu,Act.put]
       refine wpAnyH_done (by kernel_rfl) ?_ _;go_wp2;go_meet;exact⟨X5.heap.size,rfl,rfl,mF _ _ _ _ _ _ hz,lM _,by rw[Al];exact(lN.1 hz).1,hS⟩
     case rest=>
     obtain⟨zC,rfl,rfl,r1,r2,r3,r4⟩:=hcut;obtain⟨X5,xj⟩:∃W,W=wc:=⟨_,rfl⟩;subst xj;have xe:Hid (Lc C qI qJ X5 zC (Fa (EL u.tx rp) (EC rp)) 61):=lK ⟨Sf.new LP.o.st.inv r2 r3,r1⟩;have LP:=lK (LP.o.below hC r4);have L8:=lK (L8.o.below r4);have T815:Hid (T8<zC):=lK (lR HTX.o r2);clear r1 r2 r3 r4 zi HTX CTX C2X CFX;cases rp with
     |none=>
      have HE:Hid (r0=Rz.ok (x,p,s1)):=lK (by
       rw[G0.o];exact Kk HU.o HZ.o.symm zB.o (by rw[<-HRP.o];rfl))
      have xK:Hid (∀W,Calls prog 43 #[Dl [] ⟨0,0⟩] W fun e w'=>e= .returned (.tuple #[.int .i64 (D5 ⟨0,0⟩),.int .i64 (DV ⟨0,0⟩)])/\Below W.heap.size W w'):=lK (fun W=>J9 (bs []) 0 0 W (by omega) (by omega));have hO:Fa (EL u.tx none) (EC none)=Fa [] ⟨0,0⟩:=rfl;rw[hO]at xe;clear hO;simp only[Option.isSome_none]
      go_wp2_with (first|(refine jZ rfl _ rfl zC [] ⟨0,0⟩ rfl xe.o.h ?_)|(go_at_call 43;(with_reducible refine(xK.o _).mono ?_)))
      rintro e X6 ⟨rfl,b⟩;have LP:=lK (LP.o.below hC b);clear b xK
      go_wp2_with (first|(refine KK rfl _ rfl T c C6.o rfl LP.o.lt.h ?_)|(refine F8 rfl _ _ rfl w.heap.size c rfl rfl _ LP.o.l4.h rfl C6.o CO.o ?_))
      rw[HE.o];have LF:=lK (LP.o.st.row hC LP.o.l4.sf (lM _) c);have TXF:=lK (AT.low (AT.ED (AT.imp LP.o.tx (fun b hb=>hb.1)) (oE _) c) (mO w.heap.size));refine lS (v:= .tuple #[.agg c,.int .i64 p]) ?_ rfl ⟨c,qI,qJ,rfl,LF.o,TXF.o⟩;exact results_cell_tmp rfl _ _ w.heap.size 31 c (0,0) _ (.int .i64 p) rfl rfl (mF _ _ _ _ _ _ LP.o.l4.h) mE rfl (by rw[C6.o];exact Cg)
     |some o=>
      have HO:Hid (1<=o.pr/\o.pr<=1200):=lK (hC.pr u.tx o (.inr (.inr HRP.o.symm)));have xK:Hid (∀W,Calls prog 43 #[Dl u.tx o] W fun e w'=>e= .returned (.tuple #[.int .i64 (D5 o),.int .i64 (DV o)])/\Below W.heap.size W w'):=lK (fun W=>J9 (bs u.tx) o.ty o.pr W (by have:=HO.o;omega) HO.o.2);have hO:Fa (EL u.tx (some o)) (EC (some o))=Fa u.tx o:=rfl;rw[hO]at xe;clear hO;simp only[Option.isSome_some];obtain⟨lf,hlf⟩:∃l,l=D5 o:=⟨_,rfl⟩;have HLP:=lK hlf;obtain⟨rg,hrg⟩:∃l,l=DV o:=⟨_,rfl⟩;rw[<-hlf,<-hrg]at xK;clear hlf hrg
      go_wp2_with (first|(refine jZ rfl _ rfl zC u.tx o rfl xe.o.h ?_)|(go_at_call 43;(with_reducible refine(xK.o _).mono ?_)))
      rintro e X6 ⟨rfl,b⟩;have LP:=lK (LP.o.below hC b);have L8:=lK (L8.o.below b);have xe:=lK (xe.o.below b);clear b xK;have c2:X6.cell? ⟨zC,2,none⟩=some (.int .i64 o.pr):=by rw[Lib.cell_of_heap xe.o.h];rfl
      cases qm:decide (most<o.pr)with
      |true=>
       have HE:Hid (r0=Rz.ok (x,p,s1)):=lK (by
        rw[G0.o];exact Kk HU.o HZ.o.symm zB.o (by rw[<-HRP.o];have:=lh qm;simp[Option.filter,Int.not_le.2 this]))
       go_wp2_with (first|(refine KK rfl _ rfl T c C6.o rfl LP.o.lt.h ?_)|(refine F8 rfl _ _ rfl w.heap.size c rfl rfl _ LP.o.l4.h rfl C6.o CO.o ?_))
       rw[HE.o];have LF:=lK (LP.o.st.row hC LP.o.l4.sf (lM _) c);have TXF:=lK (AT.low (AT.ED (AT.imp LP.o.tx (fun b hb=>hb.1)) (oE _) c) (mO w.heap.size));refine lS (v:= .tuple #[.agg c,.int .i64 p]) ?_ rfl ⟨c,qI,qJ,rfl,LF.o,TXF.o⟩;exact results_cell_tmp rfl _ _ w.heap.size 31 c (0,0) _ (.int .i64 p) rfl rfl (mF _ _ _ _ _ _ LP.o.l4.h) mE rfl (by rw[C6.o];exact Cg)
      |false=>
       cases qR:decide (lf<p)with
       |true=>
        have HE:Hid (r0=Rz.ok (x,p,s1)):=lK (by
         rw[G0.o];exact Kk HU.o HZ.o.symm zB.o (by rw[<-HRP.o];have:=lh qR;simp[Option.filter,<-HLP.o,Int.not_le.2 this]))
        go_wp2_with (first|(refine KK rfl _ rfl T c C6.o rfl LP.o.lt.h ?_)|(refine F8 rfl _ _ rfl w.heap.size c rfl rfl _ LP.o.l4.h rfl C6.o CO.o ?_))
        rw[HE.o];have LF:=lK (LP.o.st.row hC LP.o.l4.sf (lM _) c);have TXF:=lK (AT.low (AT.ED (AT.imp LP.o.tx (fun b hb=>hb.1)) (oE _) c) (mO w.heap.size));refine lS (v:= .tuple #[.agg c,.int .i64 p]) ?_ rfl ⟨c,qI,qJ,rfl,LF.o,TXF.o⟩;exact results_cell_tmp rfl _ _ w.heap.size 31 c (0,0) _ (.int .i64 p) rfl rfl (mF _ _ _ _ _ _ LP.o.l4.h) mE rfl (by rw[C6.o];exact Cg)
       |false=>
        have HE:Hid (r0=CQ C.ts C.O C.qt CZ (m+1) (s1.on 1) most (.cmp u.tx [x]) o.pr):=lK (by
         rw[G0.o];exact RJ HU.o HZ.o.symm zB.o (by rw[<-HRP.o];have h1:=of_decide_eq_false qm;have h2:=of_decide_eq_false qR;simp[Option.filter,<-HLP.o,Int.not_lt.1 h1,Int.not_lt.1 h2]))
        have tM:=lK (Bd.kg hC.last LP.o.st.inv.bd HU.o HZ.o.symm);have LKA:Hid (s1.k<C.ts.length/\s1.k<s1.k+1):=lK ⟨LP.o.st.inv.bd.kl,oE _⟩;have r1:=LP.o.st.inv.hR.cells.2.1;have f1:=Lib.frozen_of_heap LP.o.st.inv.hR.h 1
        go_upto_region 17 with fail
        have LPo:=LP;have LP:=lK (LPo.o.step hC (D8.on hC (D8.start LPo.o.st.inv) tM.o (v:= .int .i64 ((s1.k:Int)+1)) rfl));have L8:=lK (L8.o.on hC (.int .i64 ((s1.k:Int)+1)));have xe:=lK (xe.o.on hC (.int .i64 ((s1.k:Int)+1)));clear qm qR r1 f1 LPo c2;generalize X6.setCell _ _=X7 at*
        try simp only[Act.put]
        have NT8:Hid (T8≠T):=lK (Nat.ne_of_gt TW.o);have NT15:Hid (zC≠T):=lK (by have:=TW.o;have:=T815.o;omega);have LF:=lK (Lp.one hC LP.o HV.o u.tx);refine wp_region_held_drew (S:=fun W=>W.heap[T8]? =some (.cells (BH u) 71)/\W.heap[zC]? =some (.cells (Fa u.tx o) 61)) (by kernel_rfl) ⟨L8.o.h,xe.o.h⟩ (fun hS=> ?_);refine tk 0 (.pointer (some ⟨T8,1,none⟩)) rfl hS ?_;refine DQ 1 (.string (bs u.tx)) rfl hS (fun W hSW=> ?_) ?_
        ·have e1:=(Af hSW.1).2.1;go_simp
        refine tk 5 (.pointer (some ⟨zC,2,none⟩)) rfl hS ?_;refine DQ 6 (.int .i64 o.pr) rfl hS (fun W hSW=> ?_) ?_
        ·have e1:W.cell? ⟨zC,2,none⟩=some (.int .i64 o.pr):=(by rw[Lib.cell_of_heap hSW.2];rfl);go_simp
        try simp only[uu,Act.put]
        refine DD 2 rfl (fun K hK=> ?_);refine Aj rfl (Qi _ rfl T c C6.o rfl LP.o.lt.h ?_);refine hK.o _ _ hS (fun hS=> ?_)
        try simp only[uu,Act.put]
        refine DD 3 rfl (fun K hK=> ?_);refine Aj rfl (Qz _ rfl c C6.o rfl ?_);refine hK.o _ _ ⟨(Lib.alloc_old _ _ _ L8.o.lt).trans hS.1,(Lib.alloc_old _ _ _ xe.o.lt).trans hS.2⟩ (fun hS=> ?_);refine DQ 4 (.agg (Gy u.tx (.slice (some ⟨X7.heap.size,0,none⟩) 1 1))) rfl hS (fun W hSW=> ?_) ?_
        ·go_simp;rfl
        try simp only[uu,Act.put]
        refine DD 7 rfl (fun K hK=> ?_);refine Aj rfl (Ld _ _ rfl T (Gy u.tx (.slice (some ⟨X7.heap.size,0,none⟩) 1 1)) rfl rfl _ ((Lib.alloc_old _ _ _ LP.o.lt.lt).trans LP.o.lt.h) C6.o rfl (IJ _ rfl) ?_);refine hK.o _ _ ⟨(mH _ _ _ _ NT8.o).trans hS.1,(mH _ _ _ _ NT15.o).trans hS.2⟩ (fun hS=> ?_);refine tk 8 (.int .i64 o.pr) rfl hS ?_
        try simp only[uu,Act.put]
        refine wpAnyH_done (by kernel_rfl) ?_ _;clear hS;generalize(X7.drew.alloc (.cells c 31)).setRow T (Gy u.tx (.slice (some ⟨X7.heap.size,0,none⟩) 1 1))=F at*;have XF:=lK LF.o.st.inv.hR.cells.2.1;go_wp2;go_roundw
        case rel=>
         refine⟨m,s1.on 1,.cmp u.tx [x],o.pr,_,qI,qJ,rfl,lK ⟨HE.o,by have:=G1.o;omega,?_,?_,rfl,LF.o⟩⟩
         ·have h1:=G2.o;have h2:=LKA.o;show 4*(C.ts.length-(s1.k+1))+3<=m+1;omega
         ·have h1:=G3.o;have h2:=LKA.o;show s.k<s1.k+1;omega
        case measure=>
         rw[XF.o,MS.o];show C.ts.length-((s1.k+1:Nat):Int).toNat<C.ts.length-((s1.k:Nat):Int).toNat;rw[mB,mB];have h2:=LKA.o;omega
theorem Tryz.reads {C:Cx}(hC:C.Ok) (hX:C.jc) (hT:C.Za) (n:Nat):Rec C n:=by
 induction n using Nat.strongRecOn with
 |ind n ih=>
  cases n with
  |zero=>exact⟨fun _ _ _ _ _ _ hf=>absurd hf (by omega),fun _ _ _ _ _ hf=>absurd hf (by omega),fun _ _ _ _ _ _ hf=>absurd hf (by omega),fun _ _ _ _ _ _ _ _ _ hf=>absurd hf (by omega)⟩
  |succ n=>
   have ih2:∀m,m<=n->Rec C m:=fun m hm=>ih m (Nat.lt_succ_of_le hm);exact⟨fun s most w nv tv h hf h0 h1=>fO hC hX hT ih2 h hf h0 h1,fun s w nv tv h hf=>Yz hC ih2 s w nv tv h hf,fun s most w nv tv h hf h0 h1=>eJ hC hX (ih2 n (lM n)) h hf h0 h1,fun s nm t most w nv tv h hn hf h0 h1=>bK hC hT (ih2 n (lM n)) s nm t most w nv tv h hn hf h0 h1⟩
theorem IX {c:Array Value} {t:Tm} {S:Nat->Prop} {w:World}(h:AT w S c.toList t):Calls prog 97 #[.agg c] w fun e w'=>e= .returned (.bool true)/\Below w.heap.size w w':=by
 obtain⟨c⟩:=c;have h:AT w S c t:=h;cases h with
 |var n=>
  show Calls prog 97 #[.agg #[.int .i64 1,.string ⟨#[]⟩,.string ⟨#[]⟩,.int .u64 0,.int .i64 n,.slice none 0 0]] w _;go_enter func97,ntmps97;go_wp2;refine lS (v:= .bool true) ?_ rfl ⟨rfl,Bzz _⟩;simp[results,results97]
 |atom s=>
  show Calls prog 97 #[.agg #[.int .i64 2,.string (bs s),.string ⟨#[]⟩,.int .u64 0,.int .i64 0,.slice none 0 0]] w _;go_enter func97,ntmps97;go_wp2;refine lS (v:= .bool true) ?_ rfl ⟨rfl,Bzz _⟩;simp[results,results97]
 |int s=>
  show Calls prog 97 #[.agg #[.int .i64 3,.string ⟨#[]⟩,.string (bs s),.int .u64 0,.int .i64 0,.slice none 0 0]] w _;go_enter func97,ntmps97;go_wp2;refine lS (v:= .bool true) ?_ rfl ⟨rfl,Bzz _⟩;simp[results,results97]
 |Hs b=>
  show Calls prog 97 #[.agg #[.int .i64 4,.string ⟨#[]⟩,.string ⟨#[]⟩,.int .u64 b,.int .i64 0,.slice none 0 0]] w _;go_enter func97,ntmps97;go_wp2;refine lS (v:= .bool true) ?_ rfl ⟨rfl,Bzz _⟩;simp[results,results97]
 |cmp s l b off cap cs hb hc h=>
  show Calls prog 97 #[.agg #[.int .i64 5,.string (bs s),.string ⟨#[]⟩,.int .u64 0,.int .i64 0,.slice (some ⟨b,off,none⟩) l.length cap]] w _;clear hb hc h;go_enter func97,ntmps97;go_wp2;refine lS (v:= .bool true) ?_ rfl ⟨rfl,Bzz _⟩;simp[results,results97]
def AJ:Tm->List Tm
 | .cmp _ l=>l
 | .var _=> []
 | .atom _=> []
 | .int _=> []
 | .Hs _=> []
theorem Pb (t:Tm) (k:Nat):Dx t k=El (AJ t) (k+1):=by cases t<;>simp[Dx,El,AJ]
theorem EP {t x:Tm}(h:x∈AJ t):SizeOf.sizeOf x<SizeOf.sizeOf t:=by
 cases t with
 |cmp s l=>
  have:=List.sizeOf_lt_of_mem (show x∈l from h);simp;omega
 |_=>cases h
mutual
theorem Hj:∀(t:Tm) (k:Nat),k<=4000->k<Dx t k/\Dx t k<=4001
 | .cmp s l,k,h=>by have:=Gg l (k+1) (by omega);simp only[Dx];omega
 | .var _,k,h=>by simp only[Dx];omega
 | .atom _,k,h=>by simp only[Dx];omega
 | .int _,k,h=>by simp only[Dx];omega
 | .Hs _,k,h=>by simp only[Dx];omega
theorem Gg:∀(l:List Tm) (k:Nat),k<=4001->k<=El l k/\El l k<=4001
 | [],k,h=>by simp only[El];omega
 |x::l,k,h=>by
  simp only[El];split
  ·omega
  ·have h1:=Hj x k (by omega);have h2:=Gg l (Dx x k) (by omega);omega
end
theorem AT.form {w:World} {S:Nat->Prop} {c:List Value} {t:Tm}(h:AT w S c t):∃k nm nu bits v a cap,c= [.int .i64 k,.string nm,.string nu,.int .u64 bits,.int .i64 v,.slice a (AJ t).length cap]/\(AJ t= []\/∃b off cs,a=some ⟨b,off,none⟩/\S b/\(∀j,j<cs.length->w.cell? ⟨b,off+j,none⟩=cs[j]?)/\BJ w S cs (AJ t)):=by
 cases h with
 |var n=>exact⟨1,_,_,0,n,none,0,rfl,.inl rfl⟩
 |atom s=>exact⟨2,_,_,0,0,none,0,rfl,.inl rfl⟩
 |int s=>exact⟨3,_,_,0,0,none,0,rfl,.inl rfl⟩
 |Hs b=>exact⟨4,_,_,b,0,none,0,rfl,.inl rfl⟩
 |cmp s l b off cap cs hb hc h=>exact⟨5,_,_,0,0,_,cap,rfl,.inr ⟨b,off,cs,rfl,hb,hc,h⟩⟩
theorem aO (n:Nat):∀(t:Tm),SizeOf.sizeOf t<=n->∀(c:Array Value) (k:Nat) (S:Nat->Prop) (w:World),(∀b,S b->b<w.heap.size)->AT w S c.toList t->k<=4000->
  Calls prog 73 #[.agg c,.int .i64 k] w fun e w'=>e= .returned (.int .i64 (Dx t k))/\Below w.heap.size w w':=by
 induction n with
 |zero=>intro t ht;cases t<;>simp at ht
 |succ n ih=>
  intro t ht c k S w hS h hk;obtain⟨c⟩:=c;obtain⟨kd,nm,nu,bits,v,a,cap,hc,hl⟩:=AT.form h;have hc:c=_:=hc;subst hc;obtain⟨r,hr⟩:∃r,r=Dx t k:=⟨_,rfl⟩;rw[<-hr];obtain⟨len,hlen⟩:∃len,len=(AJ t).length:=⟨_,rfl⟩;rw[<-hlen];have HR:=lK (hr.trans (Pb t k));have IH:=lK (fun x (hx:x∈AJ t)=>ih x (Nat.le_of_lt_succ (lR (EP hx) ht)));have HS:=lK hS;have HL:=lK hl;have rz:=lK hlen;have kk:(k:Int)<=4000:=by omega
  clear h ih ht hS hl hr hlen;show Calls prog 73 #[.agg #[.int .i64 kd,.string nm,.string nu,.int .u64 bits,.int .i64 v,.slice a len cap],.int .i64 k] w _;go_enter func73,ntmps73
  go_upto_block 0 with fail
  have BW:Hid (Below w.heap.size w (w.alloc (.cells #[.int .i64 kd,.string nm,.string nu,.int .u64 bits,.int .i64 v,.slice a len cap] 31))):=lK (Bzz _);generalize w.alloc (.cells #[.int .i64 kd,.string nm,.string nu,.int .u64 bits,.int .i64 v,.slice a len cap] 31)=W at*;have HK:=lK hk;clear hk
  go_wp2_with fail
  go_loopw [1,12] (fun v1 v12 wr=>∃(i m:Nat),v1= .int .i64 m/\v12= .int .i64 i/\Hid (i<=m/\m<=4001/\i<=len/\r=El ((AJ t).drop i) m/\Below w.heap.size w wr)) (fun _ v12 _=>match v12 with| .int .i64 i=>len-i.toNat|_=>0)
  case atStart=>exact⟨0,k+1,rfl,rfl,lK ⟨mK _,by have:=HK.o;omega,mK _,HR.o,BW.o⟩⟩
  case round=>
   obtain⟨i,m,rfl,rfl,hq⟩:=hrel;obtain⟨g0,g1,g2,g3,g4⟩:=hq.o;have bi:(i:Int)<=4001:=by omega
   have bm:(m:Int)<=4001:=by omega
   have G1:=lK (And.intro g0 g1);have G3:=lK g3;have BR:=lK g4;by_cases hi:i<len
   ·have ui:(i:Int)<len:=by omega
    obtain⟨x,hx⟩:∃x,(AJ t)[i]? =some x:=⟨_,lu (by have:=rz.o;omega)⟩;obtain⟨b,off,cs,rfl,uR,qy,tW⟩:∃b off cs,a=some ⟨b,off,none⟩/\S b/\(∀j,j<cs.length->w.cell? ⟨b,off+j,none⟩=cs[j]?)/\BJ w S cs (AJ t):=by
     rcases HL.o with h1|h1
     ·rw[h1]at hx;cases hx
     ·exact h1
    obtain⟨d0,sJ,uW⟩:=tW.at hx;obtain⟨c0,rfl⟩:∃c0:Array Value,d0=c0.toList:=⟨⟨d0⟩,rfl⟩;have z0:Hid (c0.size=6):=lK (by have:=sJ.len;simpa using this);have Z1:=lK (AT.Bq sJ);have qq:=HS.o b uR;have vI:w.rangeAt b (off+i*6) c0.toList:=fun j v hv=>by
     have hj:j<6:=by
      have h1:=(mC.1 hv).1;have h2:=z0.o;rw[nG]at h1;omega
     have h1:=uW j hj;have h2:6*i+j<cs.length:=by
      rcases ls (6*i+j) cs.length with h|h
      ·exact h
      ·rw[mr h]at h1;rw[<-h1]at hv;cases hv
     rw[show off+i*6+j=off+(6*i+j) by omega,qy _ h2,h1,hv]
    have RG:Hid (wr.rangeAt b (off+i*6) c0.toList):=lK (fun j v hv=>(BR.o.cell (p:=⟨b,off+i*6+j,none⟩) qq).trans (vI j v hv));have HX:=lK hx;have HD:=lK sJ;have G3:Hid (r=if 4000<m then m else El ((AJ t).drop (i+1)) (Dx x m)):=lK (by rw[G3.o,drop_cons hx];simp only[El]);clear hx uR qy tW uW sJ qq vI hq g0 g1 g2 g3 g4;have ZL:Hid ((Tryz.prog.info? 31).map (·.size)=some c0.toList.length):=lK (by rw[nG,z0.o];exact Cg);have NE:=lK (lT wr (.cells zV 31));have BX:=lK (Below.row ((Below.refl wr.heap.size wr).alloc (lM _) (.cells zV 31)) (lM _) c0);have uC:Hid (((wr.alloc (.cells zV 31)).setRow wr.heap.size c0).heap[wr.heap.size]? =some (.cells c0 31)):=lK (mF _ _ _ _ _ _ NE.o)
    go_upto_region 5 with(first|(refine wpList_load_mid rfl 31 _ rfl b (off+i*6) rfl c0.toList _ RG.o mE rfl ZL.o ?_)|(refine F8 rfl _ _ rfl wr.heap.size c0 rfl rfl _ NE.o rfl z0.o Z1.o ?_))
    have wC:=lK (BR.o.trans (BX.o.mono BR.o.size));clear NE BX;generalize(wr.alloc (.cells zV 31)).setRow wr.heap.size c0=X at*;generalize wr.heap.size=T at*
    try simp only[Act.put]
    by_cases hm:4000<m
    ·have hmi:(4000:Int)<m:=by omega
     have HE:Hid (r=m):=lK (by rw[G3.o,lQ hm]);go_wp2;rw[HE.o];refine lS (v:= .int .i64 m) ?_ rfl ⟨rfl,wC.o⟩;simp[results,results73]
    ·have hmi:(m:Int)<=4000:=by omega
     have HM:Hid (m<=4000):=lK (by omega);have HC:=lK (IH.o x (mP HX.o) c0 m S X (fun b hb=>lR (HS.o b hb) wC.o.size) (AT.Ak (fun b hb=>wC.o.block b (HS.o b hb)) (fun _ h=>h) HD.o) HM.o);have HE:Hid (r=El ((AJ t).drop (i+1)) (Dx x m)):=lK (by rw[G3.o,lL hm]);have HB:=lK (Hj x m HM.o);obtain⟨m2,si⟩:∃m2,m2=Dx x m:=⟨_,rfl⟩;rw[<-si]at HC HE HB;clear hm si G3
     go_wp2_with (first|(refine KK rfl _ rfl T c0 z0.o rfl uC.o ?_)|(go_at_call 73;(refine HC.o.mono ?_)))
     rintro e W5 ⟨rfl,b5⟩;have B5:=lK (wC.o.trans (b5.mono wC.o.size));have vD:=lK hi;clear b5 HC uC hi;go_wp2;go_roundw
     case rel=>exact⟨i+1,m2,rfl,by first|rfl|(congr 1),lK ⟨by have:=HB.o;have:=G1.o;omega,HB.o.2,vD.o,HE.o,B5.o⟩⟩
     case measure=>
      have:=vD.o;show len-((i+1:Nat):Int).toNat<len-((i:Nat):Int).toNat;rw[mB,mB];omega
   ·have ui:¬(i:Int)<len:=by omega
    have HE:Hid (r=m):=lK (by rw[G3.o,ot (by have:=rz.o;omega)];rfl);clear hq g0 g1 g2 g3 g4;go_wp2;rw[HE.o];refine lS (v:= .int .i64 m) ?_ rfl ⟨rfl,BR.o⟩;simp[results,results73]
end Go.Proofs
