import Derived.Test.YtpocgkiamgipdaaGreatDoorSbM
import Derived.Test.YtpocgkiamgipdaaGreatDoorSaI
import Derived.Shelf.Unicode.ValidAny
set_option maxRecDepth 1000000
set_option maxHeartbeats 0
set_option linter.unusedVariables false
set_option linter.unusedSimpArgs false
open Go.Proofs.Tryz
namespace Go.Proofs
open Go.RowKit Go.Hb Go.Pz Go.Lx Go.Ps
theorem V5 (t:Tk) (w:World):(Instr.buildSlice 67 1 #[(0,Fk t)]).run prog w= .ok (.slice (some ⟨w.heap.size,0,none⟩) 1 1) (w.alloc (.cells (BH t) 71)):=by kernel_rfl
theorem TF {o:Oper} {a:Act} {w:World} {Q:Exit->Act->World->Prop} {K:Act->World->Prop}(x:Operand) (ho:o.op= .buildSlice 67 1 #[(0,x)]) (t:Tk) (hx:a.eval x=Fk t) (h:K (a.put o.dst (.slice (some ⟨w.heap.size,0,none⟩) 1 1)) (w.alloc (.cells (BH t) 71))):o.wp prog a w K Q:=by
 unfold Oper.wp;have hr:(execOp a.eval o).run prog w= .ok (.value (.slice (some ⟨w.heap.size,0,none⟩) 1 1)) (w.alloc (.cells (BH t) 71)):=by
  simp[execOp,ho,hx,V5,Result.andThen]
 rw[hr];exact h
theorem gh {ops:Array Oper} {o:Oper} {a:Act} {S:World->Prop}(hgd:o.guard=none) (x:Operand) (ho:o.op= .load 71 x) (b:Nat) (t:Tk) (hx:a.eval x= .pointer (some ⟨b,0,none⟩)) (hS:∀w,S w->w.heap[b]? =some (.cells (BH t) 71 (0,0))):YieldsIf prog ops S o (Fk t) a:=by
 have h:=yieldsIf_load_mid (P:=prog) (ops:=ops) (S:=S) (op:=o) (a:=a) (by simp[Region.wanted,hgd]) 71 x ho b 0 hx (BH t).toList _ (fun w hw j v hv=>by rw[me,mT w b j (BH t) 71 (0,0) (hS w hw)];simpa using hv) underlying71 rfl aa;show YieldsIf prog ops S o (.agg (BH t)) a;simpa using h
theorem iS (w:World) (a:Obj):(w.alloc a).heap.size=w.heap.size+1/\(w.alloc a).heap[w.heap.size]? =some a/\∀b,b<w.heap.size->(w.alloc a).heap[b]? =w.heap[b]? :=
 ⟨by simp,lT w a,fun b hb=>Lib.alloc_old w a b hb⟩
theorem lJ (w:World) (a b c d e:Obj):((((((w.alloc a).alloc b).alloc c).alloc d).alloc e).heap[w.heap.size]? =some a)/\((((((w.alloc a).alloc b).alloc c).alloc d).alloc e).heap[w.heap.size+1+1]? =some c)/\
  ((((((w.alloc a).alloc b).alloc c).alloc d).alloc e).heap[w.heap.size+1+1+1]? =some d)/\((((((w.alloc a).alloc b).alloc c).alloc d).alloc e).heap[w.heap.size+1+1+1+1]? =some e)/\(((((w.alloc a).alloc b).alloc c).alloc d).alloc e).heap.size=w.heap.size+5:=by
 obtain⟨z1,n1,o1⟩:=iS w a;generalize w.alloc a=A1 at*;obtain⟨z2,n2,o2⟩:=iS A1 b;generalize A1.alloc b=A2 at*;obtain⟨z3,n3,o3⟩:=iS A2 c;generalize A2.alloc c=A3 at*;obtain⟨z4,n4,o4⟩:=iS A3 d;generalize A3.alloc d=A4 at*;obtain⟨z5,n5,o5⟩:=iS A4 e;generalize A4.alloc e=A5 at*;rw[z4,z3,z2,z1]at n5;rw[z3,z2,z1]at n4;rw[z2,z1]at n3;exact⟨(o5 _ (by omega)).trans ((o4 _ (by omega)).trans ((o3 _ (by omega)).trans ((o2 _ (by omega)).trans n1))),(o5 _ (by omega)).trans ((o4 _ (by omega)).trans n3),(o5 _ (by omega)).trans n4,n5,by omega⟩
theorem iu {s:ByteArray} {K E a n:Nat}(h:Pp s K E= .err a n):n≠0:=by
 unfold Pp at h;split at h
 ·exact SS h
 ·cases h;assumption
theorem Jo.kW {P:Nat} {w W:World} {s:ByteArray} {q:Int} {o lv:Value} {l:List Tk}(h:Jo P w s q o W lv l):Below P w W/\W.heap[P]? =some (.cells #[.string s] 9)/\W.heap[P+1+1]? =some (.cells (Ch 0) 35)/\W.heap[P+1+1+1]? =some (.cells #[.nilIface] 37):=⟨h.Ac,h.h0,h.h2,h.h3⟩
theorem Zh (vs:Array Value) (w:World):(callFunc 23 vs).run prog w= .ok (.enter 23 vs) w:=by kernel_rfl
theorem jH {w:World} {s:ByteArray} {at_ ob:Nat} {q:Int} {O:Am} {F7:Tm->Nat} {G:Tm->Prop} {L:List Tk} {fin:Option (Nat×Nat)}(hs:s.size<=20000000) (qh:at_<=s.size) (hq: -9223372036854775808<=q/\q<=9223372036854775807)
  (hE:Mp w s (.pointer (some ⟨ob,0,none⟩)) O F7 G) (hL:Ct s at_ L fin) (hG:∀n s most t p s',Ay L O q CZ n s most= .ok (t,p,s')->G t):
  Calls prog 7 #[.string s,.int .i64 at_,.pointer (some ⟨ob,0,none⟩),.agg #[.int .i64 q]] w (Ce s w (Sw O q F7 at_ L fin)):=by
 have hmf:∀(fn:Fn) (first cap:Array Value) (w:World),(Instr.makeFunc fn first cap).run prog w= .ok (.func fn first cap) w:=fun _ _ _ _=>rfl;have g1:decide ((at_:Int)<0)=false:=by simp
 have g2:decide ((s.size:Int)<(at_:Int))=false:=by simp;omega
 obtain⟨i0,hi,qX,qg,qe⟩:=nw gU;obtain⟨R,hR⟩:∃R,R=Sw O q F7 at_ L fin:=⟨_,rfl⟩;rw[<-hR];have HR:=lK hR;have HE:=lK hE;have HL:=lK hL;have HN:=lK hG;have LLEN:Hid (L.length<=20000001):=lK (by have:=hL.len qh;omega);clear hR hE hL hG
 go_enter_defers func7,ntmps7
 go_wp2_with fail
 rename_i K2 a2;generalize hA:World.alloc _ _=A;have IA:Hid (Jo w.heap.size w s q (.pointer (some ⟨ob,0,none⟩)) A (.slice none 0 0) []):=lK (by
  rw[<-hA];have k:=lJ w (.cells #[.string s] 9) (.cells #[.int .i64 q] 41) (.cells (Ch 0) 35) (.cells #[.nilIface] 37) (.cells (jP (.slice none 0 0) (.pointer (some ⟨ob,0,none⟩)) q) 69);exact⟨((((Bzz _).alloc (by simp) _).alloc (by simp;omega) _).alloc (by simp;omega) _).alloc (by simp;omega) _,pR k.2.2.2.2.symm,k.1,k.2.1,k.2.2.1,k.2.2.2.1,mq _ _ _ _⟩)
 clear hA
 go_loopw [11] (fun v11 wr=>∃(p:Nat) (done rest:List Tk) (lv:Value),v11= .int .i64 p/\Hid (L=done++rest/\Ct s p rest fin/\p<=s.size/\Jo w.heap.size w s q (.pointer (some ⟨ob,0,none⟩)) wr lv done)) (fun v _=>s.size-(intOf v).toNat)
 case atStart=>exact⟨at_,[],L,_,rfl,lK ⟨rfl,HL.o,qh,IA.o⟩⟩
 case round=>
  obtain⟨p,done,rest,lv,rfl,wb⟩:=hrel;obtain⟨e1,hT,hp,hI⟩:=wb.o;have HI:=lK hI;have HE1:=lK e1;clear wb e1 hI IA;rcases Ct.opened hT hp with⟨K,E,n,a,hLay,hX,rfl,rfl⟩|⟨K,E,t,rest2,hLay,hX,hG,rfl,tn⟩
  ·clear hT;have hn:=iu hX;have CN:Hid (∀W,Below w.heap.size w W->Calls prog 22 #[.string s,.int .i64 p] W fun e w'=>e= .returned (.tuple #[Fk (P8 a),.int .i64 n])/\Below W.heap.size W w'):=lK (fun W hW=>by
    have h:=HE.o.next W p K E hW hp hLay;rw[hX]at h;exact h)
   have CW:=lK (fun W=>eo n W);have n0:((n:Int) !=0)=true:=pA.2 (by omega);have HRR:R= .stop (Fz n) a:=HR.o;clear hLay hX HR;subst HRR;have c0:wr.cell? ⟨w.heap.size,0,none⟩=some (.string s):=by rw[Lib.cell_of_heap HI.o.h0];rfl
   go_wp2_with (go_at_call 22;(with_reducible refine(CN.o _ HI.o.Ac).mono ?_))
   rintro e W2 ⟨rfl,b2⟩;clear c0;have I2:=lK ((HI.o.below b2).below (Bzz (.cells zW 71)));have NE:=lK (lT W2 (.cells zW 71));have tf:Hid (lv.ownBlock≠some W2.heap.size):=lK (fun e=>by have:=(HI.o.own.lt _ e).2;have:=b2.size;omega);have xG:Hid (w.heap.size+5<=W2.heap.size):=lK (lg HI.o.sz b2.size);clear b2
   go_upto_region 8 with(refine YS rfl _ _ rfl W2.heap.size (P8 a) rfl rfl _ NE.o rfl ?_)
   have HT:Hid (((W2.alloc (.cells zW 71)).setRow W2.heap.size (BH (P8 a))).heap[W2.heap.size]? =some (.cells (BH (P8 a)) 71)):=lK (mF _ _ _ _ _ _ NE.o);have I3:=lK (I2.o.row xG.o tf.o (BH (P8 a)));generalize(W2.alloc (.cells zW 71)).setRow W2.heap.size (BH (P8 a))=X at*;obtain⟨T,sS⟩:∃T,T=W2.heap.size:=⟨_,rfl⟩;rw[<-sS]at HT⊢
   try rw[<-sS]
   clear sS I2 NE tf xG CN HI;refine wp_region_held_drew (S:=fun W=>W.heap[T]? =some (.cells (BH (P8 a)) 71)) (by kernel_rfl) HT.o (fun hS=> ?_);refine Gm 0 (.int .i64 n) rfl hS ?_;refine Gm 2 (.pointer (some ⟨T,4,none⟩)) rfl hS ?_;refine iy 3 (.int .i64 a) rfl hS (fun W hSW=> ?_) ?_
   ·have e1:W.cell? ⟨T,4,none⟩=some (.int .i64 a):=(by rw[Lib.cell_of_heap hSW];rfl);go_simp
   try simp only[uu,Act.put]
   refine DD 1 rfl (fun K hK=> ?_);refine As (by rfl) 23 [.tmp 46] #[42] (by rfl) #[.int .i64 n] (by kernel_rfl) Zh ((CW.o _).mono ?_);rintro e' W6 ⟨rfl,rfl⟩;refine⟨_,rfl,?_⟩;refine hK.o _ _ hS (fun hS=> ?_);refine Gm 4 (.agg #[.string (Fz n),.int .i64 a]) rfl hS ?_;refine Gm 5 (.iface 63 (.agg #[.string (Fz n),.int .i64 a])) rfl hS ?_
   try simp only[uu,Act.put]
   refine DD 6 rfl (fun K hK=> ?_);go_simp;exact Gj hs I3.o.drew.kW rfl rfl
  ·clear hT;obtain⟨la,lc,rfl⟩:=Ap HI.o.own;have CN:Hid (∀W,Below w.heap.size w W->Calls prog 22 #[.string s,.int .i64 p] W fun e w'=>e= .returned (.tuple #[Fk t,.int .i64 0])/\Below W.heap.size W w'):=lK (fun W hW=>by
    have h:=HE.o.next W p K E hW hp hLay;unfold Dv at h;rw[hX.v,hX.er]at h;exact h)
   have HC:=lK tn;have HG:=lK hG;have LD:Hid (done.length+1<=20000001):=lK (by have h1:=LLEN.o;rw[HE1.o]at h1;simp only[l6,nF]at h1;omega);clear hLay hX tn hG;have c0:wr.cell? ⟨w.heap.size,0,none⟩=some (.string s):=by rw[Lib.cell_of_heap HI.o.h0];rfl
   go_wp2_with (go_at_call 22;(with_reducible refine(CN.o _ HI.o.Ac).mono ?_))
   rintro e W2 ⟨rfl,b2⟩;clear c0;have I2:=lK ((HI.o.below b2).below (Bzz (.cells zW 71)));have NE:=lK (lT W2 (.cells zW 71));have tf:Hid ((Value.slice la done.length lc).ownBlock≠some W2.heap.size):=lK (fun e=>by have:=(HI.o.own.lt _ e).2;have:=b2.size;omega);have xG:Hid (w.heap.size+5<=W2.heap.size):=lK (lg HI.o.sz b2.size);clear b2
   go_upto_region 9 with(refine YS rfl _ _ rfl W2.heap.size t rfl rfl _ NE.o rfl ?_)
   have HT:Hid (((W2.alloc (.cells zW 71)).setRow W2.heap.size (BH t)).heap[W2.heap.size]? =some (.cells (BH t) 71)):=lK (mF _ _ _ _ _ _ NE.o);have I3:=lK (I2.o.row xG.o tf.o (BH t));generalize(W2.alloc (.cells zW 71)).setRow W2.heap.size (BH t)=X at*;obtain⟨T,sS⟩:∃T,T=W2.heap.size:=⟨_,rfl⟩;rw[<-sS]at HT tf xG⊢;clear sS I2 NE CN HI
   go_cut []from 52 to 61 (fun wx=>∃g cap,Hid (Jo w.heap.size w s q (.pointer (some ⟨ob,0,none⟩)) wx (.slice (some ⟨g,0,none⟩) (done.length+1) cap) (done++ [t])/\wx.heap[T]? =some (.cells (BH t) 71)))
   case first=>
    as_aux_lemma=>
    have P0:Hid (w.heap.size+1+1+1+1<X.heap.size):=lK (by have:=I3.o.sz;omega);have uN:Hid (some (w.heap.size+1+1+1+1)≠(Value.slice la done.length lc).ownBlock):=lK (fun e=>by have:=(I3.o.own.lt _ e.symm).1;omega);have TL:Hid (T<X.heap.size):=lK (lN.1 HT.o).1;have e4:X.drew.cell? ⟨w.heap.size+1+1+1+1,0,none⟩=some (.slice la done.length lc):=by
     have h:X.cell? ⟨w.heap.size+1+1+1+1,0,none⟩=some (.slice la done.length lc):=by rw[Lib.cell_of_heap I3.o.h4];rfl
     exact h
    have e4a:=fun x=>AN e4 x;have e4b:(X.alloc (.cells (BH t) 71)).cell? ⟨w.heap.size+1+1+1+1,0,none⟩=some (.slice la done.length lc):=e4a _;have e4c:(X.alloc (.cells (BH t) 71)).drew.cell? ⟨w.heap.size+1+1+1+1,0,none⟩=some (.slice la done.length lc):=e4a _;have I4:Hid (Jo w.heap.size w s q (.pointer (some ⟨ob,0,none⟩)) (X.drew.alloc (.cells (BH t) 71)) (.slice la done.length lc) done):=lK (I3.o.drew.below (Bzz _));have NW:Hid (∀j u,(Uz t)[j]? =some u->(X.drew.alloc (.cells (BH t) 71)).cell? ((⟨X.drew.heap.size,0,none⟩:Addr).add j)=some u):=lK (World.news_of_block (t:=71) (fr:=(0,0)) (lT X.drew _));have tu:Hid (∀u∈Uz t,u.oneCell'=true):=lK (by have h:=TU t;rw[<-Array.all_toList]at h;exact nS.1 h);have MX:Hid (done.length+1<=maxLen):=lK (by have:=LD.o;unfold maxLen;omega);have BY:Hid ((done.length+1)*72<=140737488355328):=lK (by have:=LD.o;omega);have BS:Hid (w.heap.size+5<=(X.drew.alloc (.cells (BH t) 71)).heap.size):=lK I4.o.sz;have C4:Hid ((X.drew.alloc (.cells (BH t) 71)).cell? ⟨w.heap.size+1+1+1+1,0,none⟩=some (.slice la done.length lc)):=lK (e4a _);have F4:Hid ((X.drew.alloc (.cells (BH t) 71)).frozen? ⟨w.heap.size+1+1+1+1,0,none⟩=false):=lK (Lib.frozen_of_heap I4.o.h4 0);have LR:Hid (w.heap.size+1+1+1+1<(X.drew.alloc (.cells (BH t) 71)).heap.size):=lK (by have:=I4.o.sz;omega);have xA:Hid ((X.drew.alloc (.cells (BH t) 71)).heap[T]? =some (.cells (BH t) 71)):=lK ((Lib.alloc_old X.drew _ _ TL.o).trans HT.o);have TLX:Hid (T<(X.drew.alloc (.cells (BH t) 71)).heap.size):=lK (by have:=TL.o;show T<(X.alloc _).heap.size;simp;omega);refine wp_region_held_drew (S:=fun W=>W.heap[T]? =some (.cells (BH t) 71)) (by kernel_rfl) HT.o (fun hS=> ?_);refine Gm 0 (.pointer (some ⟨w.heap.size+1+1+1+1,0,none⟩)) rfl hS ?_;refine Gm 1 (.pointer (some ⟨w.heap.size+1+1+1+1,0,none⟩)) rfl hS ?_;refine Gm 2 (.pointer (some ⟨w.heap.size+1+1+1+1,0,none⟩)) rfl hS ?_;refine Gm 3 (.pointer (some ⟨w.heap.size+1+1+1+1,0,none⟩)) rfl hS ?_
    try simp only[uu,Act.put]
    refine wpAnyH_take (i:=5) (oi:=_) (v:=Fk t) rfl (by kernel_rfl) (by kernel_rfl) (by kernel_rfl) (fun _ _ _ h=>IL (by decide) h) (gh rfl _ rfl T t rfl (fun _ h=>h)) hS ?_
    try simp only[uu,Act.put]
    refine wpAnyH_ready (rs:= [4,6]) (by kernel_rfl) (by simp) ?_;refine AllReadyH.cons rfl (fun K hK=> ?_) (AllReadyH.cons rfl (fun K hK=> ?_) AllReadyH.nil)
    ·go_simp;refine hK.o _ _ hS (fun hS=> ?_)
     try simp only[uu,Act.put]
     refine DD 6 rfl (fun K hK=> ?_);refine Aj rfl (TF _ rfl t rfl ?_);refine hK.o _ _ ((Lib.alloc_old X.drew _ _ TL.o).trans HT.o) (fun hS=> ?_)
     try simp only[uu,Act.put]
     refine DD 7 rfl (fun K hK=> ?_);refine step_append_lies _ rfl _ _ _ rfl (w.heap.size+5) 71 i0 _ 7 72 underlying67 hi qX qg qe rfl (by decide) _ _ _ rfl I4.o.own ⟨X.drew.heap.size,0,none⟩ 1 1 (Uz t) rfl rfl NW.o tu.o (by decide) MX.o BY.o BS.o _ rfl ?_;intro g cap w1 qD qC qh _hlg;have ym:=qC.cell C4.o uN.o;have f10:=(qC.frozen_far ⟨w.heap.size+1+1+1+1,0,none⟩ LR.o uN.o).trans F4.o;refine hK.o _ _ ((qC.block _ TLX.o (fun e=>tf.o e.symm)).trans xA.o) (fun hS=> ?_);refine Gm 8 (.pointer (some ⟨w.heap.size+1+1+1+1,0,none⟩)) rfl hS ?_;refine Gm 9 (.pointer (some ⟨w.heap.size+1+1+1+1,0,none⟩)) rfl hS ?_
     try simp only[uu,Act.put]
     refine DD 10 rfl (fun K hK=> ?_);go_simp;refine hK.o _ _ ((AA _ _ _ (by show T≠w.heap.size+1+1+1+1;have:=xG.o;omega)).trans hS) (fun hS=> ?_)
     try simp only[uu,Act.put]
     refine wpAnyH_done (by kernel_rfl) ?_ _;go_wp2;go_meet;exact⟨g,cap,lK ⟨Jo.more I4.o qD qC,hS⟩⟩
    ·refine Aj rfl (TF _ rfl t rfl ?_);refine hK.o _ _ ((Lib.alloc_old X.drew _ _ TL.o).trans HT.o) (fun hS=> ?_)
     try simp only[uu,Act.put]
     refine DD 4 rfl (fun K hK=> ?_);go_simp;refine hK.o _ _ hS (fun hS=> ?_)
     try simp only[uu,Act.put]
     refine DD 7 rfl (fun K hK=> ?_);refine step_append_lies _ rfl _ _ _ rfl (w.heap.size+5) 71 i0 _ 7 72 underlying67 hi qX qg qe rfl (by decide) _ _ _ rfl I4.o.own ⟨X.drew.heap.size,0,none⟩ 1 1 (Uz t) rfl rfl NW.o tu.o (by decide) MX.o BY.o BS.o _ rfl ?_;intro g cap w1 qD qC qh _hlg;have ym:=qC.cell C4.o uN.o;have f10:=(qC.frozen_far ⟨w.heap.size+1+1+1+1,0,none⟩ LR.o uN.o).trans F4.o;refine hK.o _ _ ((qC.block _ TLX.o (fun e=>tf.o e.symm)).trans xA.o) (fun hS=> ?_);refine Gm 8 (.pointer (some ⟨w.heap.size+1+1+1+1,0,none⟩)) rfl hS ?_;refine Gm 9 (.pointer (some ⟨w.heap.size+1+1+1+1,0,none⟩)) rfl hS ?_
     try simp only[uu,Act.put]
     refine DD 10 rfl (fun K hK=> ?_);go_simp;refine hK.o _ _ ((AA _ _ _ (by show T≠w.heap.size+1+1+1+1;have:=xG.o;omega)).trans hS) (fun hS=> ?_)
     try simp only[uu,Act.put]
     refine wpAnyH_done (by kernel_rfl) ?_ _;go_wp2;go_meet;exact⟨g,cap,lK ⟨Jo.more I4.o qD qC,hS⟩⟩
   case rest=>
   obtain⟨g,cap,uY⟩:=hcut;obtain⟨Y,hY⟩:∃W,W=wc:=⟨_,rfl⟩;subst hY;have I4:=lK uY.o.1;have H4:=lK uY.o.2;clear uY I3 HT tf xG;have y0:Y.cell? ⟨T,0,none⟩=some (.int .i64 t.kind):=by rw[Lib.cell_of_heap H4.o];rfl
   have y5:Y.cell? ⟨T,5,none⟩=some (.int .i64 t.en):=by rw[Lib.cell_of_heap H4.o];rfl
   rcases HC.o with⟨rL,hf2,hk⟩|⟨h9,sD,tH,hlt2,hle2⟩
   ·have HK:Hid ((((t.kind:Int)==9)=true)\/((((t.kind:Int)==9)=false)/\(((t.kind:Int)==10)=true))):=lK (by
     rw[nH,lY,nH];omega)
    have HL1:Hid (L=done++ [t]):=lK (by rw[HE1.o,rL]);clear HC hk
    go_upto_region 10 with fail
    go_cut [69]from 62 to 69 (fun v69 wx=>v69= .bool true/\Y=wx)
    case first=>
     as_aux_lemma=>
     rcases HK.o with k1|⟨k1,k2⟩
     all_goals
      go_wp2;go_meet;exact⟨rfl,rfl⟩
    case rest=>
    obtain⟨rfl,rfl⟩:=hcut;clear HK y0 y5;rename_i K0 a0;refine a0 _ _ ?_;refine wp_cond_true rfl (wp_exit ?_);show K2 _ _;refine a2 _ _ ?_;rw[HR.o,hf2];have h4:=I4.o;have hl:=HL.o;have hn:=HN.o;rw[hf2]at hl;rw[HL1.o]at hl hn⊢;exact fy hs qh hq HE.o hl hn (by simpa using h4)
   ·have k1:((t.kind:Int)==9)=false:=by rw[lY];omega
    have k2:((t.kind:Int)==10)=false:=by rw[lY];omega
    have wO:=lK tH;have HLE:=lK (And.intro hlt2 hle2);clear HC h9 sD tH hlt2 hle2;go_wp2;go_roundw
    case rel=>exact⟨t.en,done++ [t],rest2,_,rfl,lK ⟨by rw[HE1.o,pJ];rfl,wO.o,HLE.o.2,by have h:=I4.o;simpa using h⟩⟩
    case measure=>have h:=HLE.o;simp[intOf];omega
end Go.Proofs
namespace Go.Proofs
open Go.RowKit Go.Bg Go.Hb Go.Lx Go.Rb Go.Pf
def YA (x:Nat) (w:World) (e:Ending) (w':World):Prop:=∃(sl:Value) (m:Nat),e= .returned (.agg #[.bool true,sl])/\Bh x m/\CH w' sl x m/\Below w.heap.size w w'
def P9 (X:Nat) (w:World) (e:Ending) (w':World):Prop:=∃(sl:Value) (m:Nat),e= .returned (.tuple #[.agg #[.bool true,sl],.int .i64 0])/\Bh X m/\CH w' sl X m/\Below w.heap.size w w'
theorem iB (v:Value) (x m:Nat) (w:World) (hv:Hid (CH w v x m)) (hx:x≠0):Calls prog 132 #[.bool true,v] w (YA x w):=by
 obtain⟨a,c,rfl⟩:=hv.o.slice;have hb:=(Below.refl w.heap.size w).alloc (nR _);have sj:Hid (∀o,CH (w.alloc o) (.slice a m c) x m):=Hi fun o=>hv.o.below (hb o);clear hb;go_enter func132,ntmps132
 go_wp2_with (go_at_call 135;(with_reducible refine(Tryz.trim (.slice a m c) x m _ (sj.o _)).mono ?_))
 rintro e w' ⟨m',ht,rfl,rfl⟩;have HL:=Hi (hv.o.cut (Bh.le ht hv.o.lt (nR _)) ht.1);have rK:0<m':=by
  rcases mh m' with h|h
  ·exact absurd (ht.Ao.1 h) hx
  ·exact h
 have qw:(0:Int)<m':=by omega
 clear hx;go_wp2;refine lS (v:= .agg #[.bool true,.slice a m' c]) ?_ rfl ⟨_,m',rfl,ht,?_,?_⟩
 ·simp only[results,results132];go_simp
  try rfl
 ·exact HL.o.below (Bzz _)
 ·exact Bzz _
theorem cG (S s:ByteArray) (r:Nat) (w:World) (hS:S.extract 1 S.size=s) (hS0:0<S.size) (hS1:((S[0].toNat:Int)==45)=true) (qT:0<s.size) (h5:s.size<=100000000) (hr:2<=r) (rL:r<=16) (hh:Hid (∀k (h:k<s.size),A9 s[k].toNat=true/\Cv s[k].toNat<r)) (tE:Hid (vN r s s.size≠0)) (hxL:Hid (vN r s s.size<2^Go.Proofs.LE)):
 Calls prog 112 #[.string S,.int .i64 r] w (P9 (vN r s s.size) w):=by
 obtain⟨i0,hi,qX,qg,qe⟩:=nw N8;have qP:s.toList.isEmpty=false:=by
  rw[ph];have h1:s.data.toList.length=s.size:=by simp
  cases h:s.data.toList with
  |nil=>rw[h]at h1;simp at h1;omega
  |cons a b=>rfl
 have R1:decide ((r:Int)<2)=false:=Ej;have R2:decide ((36:Int)<r)=false:=Ej;have hS2:(0:Int)<S.size:=by omega
 go_enter func112,ntmps112;go_wp2;generalize hW1:w.alloc _=W1;have tok:W1.heap[w.heap.size]? =some (.cells #[.bool false,.slice none 0 0] 178 (0,0)):=by subst hW1;exact lT w _
 have bl:Below w.heap.size w W1:=by subst hW1;exact Bzz _
 have tg:w.heap.size<W1.heap.size:=by subst hW1;simp
 have HW:=Hi hW1;clear hW1
 go_loop [33] (fun i=>∃k:Nat,k<=s.size/\i= .int .i64 k) (fun i=>s.size-(intOf i).toNat)
 case atStart=>exact⟨0,by omega,rfl⟩
 case round=>
  obtain⟨k,hk,rfl⟩:=hrel;by_cases qE:k<s.size
  ·obtain⟨g1,g2⟩:=hh.o k qE;obtain⟨d,rr⟩:∃d,d=Cv s[k].toNat:=⟨_,rfl⟩;have tP:d<r:=by omega
   have b6:decide (r<=d)=false:=Ej;have HC:Hid (A9 s[k].toNat=true/\d=Cv s[k].toNat):=Hi ⟨g1,rr⟩;have hd16:d<16:=by omega
   clear g1 g2 rr tP
   go_wp2_with (go_at_call 130;(with_reducible refine(OI _ d HC _).mono ?_);rintro e w' ⟨rfl,rfl⟩)
   go_round
   case rel=>exact⟨k+1,by omega,by go_num⟩
   case measure=>simp[intOf];omega
  ·go_wp2;clear qE hk
   go_loopw [8,49] (fun l i wr=>∃(k m:Nat),k<=s.size/\i= .int .i64 k/\PQ r W1.heap.size W1 (vN r s k) m l wr/\vN r s k<2^Go.Proofs.LE) (fun _ i _=>s.size-(intOf i).toNat)
   case atStart=>exact⟨0,0,by omega,rfl,⟨⟨by simp[vN],.inl rfl⟩,mq _ _ _ _,Below.refl _ _⟩,lj _⟩
   case round=>
    obtain⟨k,m,hk,rfl,hq,uT⟩:=hrel;obtain⟨la,lc,hll⟩:=Eu hq.own;subst hll;have hm:m<=129:=by
     have h2:=GK hq.tight uT;have h3:=MN (vN r s k) m;omega
    by_cases qE:k<s.size
    ·obtain⟨g1,g2⟩:=hh.o k qE;obtain⟨d,rr⟩:∃d,d=Cv s[k].toNat:=⟨_,rfl⟩;have tP:d<r:=by omega
     obtain⟨x,hx⟩:∃x,x=vN r s k:=⟨_,rfl⟩;rw[<-hx]at hq;have xn:vN r s (k+1)=x*r+d:=by
      show vN r s k*r+Cv (byte s k)=_;rw[DA qE,<-rr,<-hx]
     have HX1:=Hi xn;have wI:=Hi tP;have HQT:=Hi hq.tight;have HC:Hid (A9 s[k].toNat=true/\d=Cv s[k].toNat):=Hi ⟨g1,rr⟩;have hd16:d<16:=by omega
     have hd15:(d:Int)<=15:=by omega
     have I0:PI r d W1.heap.size W1 x m (.slice la m lc) 0 d wr:=⟨by omega,(carry_zero x r d).symm,by rw[Gx];exact hq.own,hq.Ac⟩;clear g1 g2 rr hx xn tP uT;obtain⟨wo,rfl⟩:∃wo:World,wo=wr:=⟨_,rfl⟩
     go_wp2_with (go_at_call 130;(with_reducible refine(OI _ d HC _).mono ?_);rintro e w' ⟨rfl,rfl⟩)
     go_loopw [10,59] (fun cc i wr=>∃(j q:Nat),cc= .int .u64 q/\i= .int .i64 j/\PI r d W1.heap.size W1 x m (.slice la m lc) j q wr) (fun _ i _=>m-(intOf i).toNat)
     case atStart=>exact⟨0,d,rfl,rfl,I0⟩
     case round=>
      obtain⟨j,q,rfl,rfl,qN⟩:=hrel;by_cases hj:j<m
      ·obtain⟨g,rfl⟩:∃g,la=some ⟨g,0,none⟩:=by
        rcases qN.own.2 with⟨_,h⟩|⟨g,cap,cur,h,_⟩
        ·omega
        ·simp only[mX]at h;exact⟨g,h.1⟩
       obtain⟨lx,wY⟩:∃lx,lx=Az x j:=⟨_,rfl⟩;obtain⟨lq,yR⟩:∃lq,lq=Az (x*r+d) j:=⟨_,rfl⟩;obtain⟨cq,zl⟩:∃cq,cq=carry x r d (j+1):=⟨_,rfl⟩;obtain⟨t,ht⟩:∃t,t=lx*r+q:=⟨_,rfl⟩;have qW:wr.cell? ⟨g,j,none⟩=some (.int .u32 (lx:Nat)):=by rw[World.ownsRow.cellAt qN.own j (by omega),Im x r d j m hj,wY]
       have hfz:=World.ownsRow.frozenAt qN.own j;have hlb:lx<4294967296:=by rw[wY];exact Gh x j
       have hqb:q<r:=by rw[qN.Pw];exact H6 wI.o
       have t1:lq=t %4294967296:=by rw[yR,MM,ht,wY,qN.Pw];rfl
       have t2:cq=t/4294967296:=by rw[zl,Kx,ht,wY,qN.Pw];rfl
       have HN:=Hi (qN.next yR zl hj);have e1:(lx:Int)*(r:Int)+(q:Int)=(t:Int):=by rw[ht];push_cast;rfl
       have e2:(t:Int) %4294967296=(lq:Int):=by omega
       have e3:(t:Int)/4294967296=(cq:Int):=by omega
       have e4:(lx:Int)*(r:Int)<=68719476720:=by
        have h1:lx*r<=4294967295*16:=pn (by omega) rL;have h2:(((lx*r:Nat)):Int)=(lx:Int)*(r:Int):=by push_cast;rfl
        omega
       have e5:0<=(lx:Int)*(r:Int):=by
        have h2:(((lx*r:Nat)):Int)=(lx:Int)*(r:Int):=by push_cast;rfl
        omega
       have hji:(j:Int)<(m:Int):=by omega
       clear wY yR zl ht t1 t2 qN;go_wp2;go_roundw
       case rel=>exact⟨j+1,cq,rfl,by go_num,HN.o⟩
       case measure=>simp[intOf];omega
      ·have hjm:j=m:=by have:=qN.le;omega
       subst hjm;have wV:q=(x*r+d)/B^j:=by rw[qN.Pw,Ma HQT.o.1]
       have qD:=qN.own;rw[Io]at qD;have qF:=qN.Ac;obtain⟨y,hy⟩:∃y,y=x*r+d:=⟨_,rfl⟩;have yW:x<=y:=by
        rw[hy];have:x*1<=x*r:=mU x (by omega);omega
       rw[<-hy]at qD wV;have uz:Hid (vN r s (k+1)=y):=Hi (by rw[HX1.o,hy]);have hqb:q<r:=by rw[qN.Pw];exact H6 wI.o
       clear qN hy HX1;by_cases wb:q=0
       ·subst wb;have u9:Bh y j:=by
         refine⟨(ox (Bi j)).1 wV.symm,?_⟩;rcases HQT.o.2 with h|h
         ·exact .inl h
         ·exact .inr (lg h yW)
        have HP:Hid (PQ r W1.heap.size W1 y j (.slice la j lc) wr):=Hi ⟨u9,qD,qF⟩;have tf:=Hi (CH.EW qD u9.1);have hj6:j<=70368744177664:=by omega
        clear wV qD qF u9 hj
        go_wp2_with (go_at_call 131;(with_reducible refine(Tryz.size _ y j _ hj6 tf).mono ?_))
        rintro e w' ⟨m',ht',rfl,rfl⟩;by_cases hyl:y<2^Go.Proofs.LE
        ·have xc:decide ((4096:Int)<(sz y m':Nat))=false:=lO (by have:=GK ht' hyl;omega);have HYL:=Hi hyl;clear hyl ht';go_wp2;go_roundw
         case rel=>exact⟨k+1,j,by omega,by go_num,by rw[uz.o];exact HP.o,by rw[uz.o];exact HYL.o⟩
         case measure=>simp[intOf];omega
        ·have xc:decide ((4096:Int)<(sz y m':Nat))=true:=lU (by have:=SR ht' (by omega);omega);have sR:Hid (¬vN r s s.size<2^Go.Proofs.LE):=Hi (by have:=Ep (r:=r) (by omega) s (show k+1<=s.size by omega);rw[uz.o]at this;omega);exact absurd hxL.o sR.o
       ·have hqB:q<4294967296:=by omega
        have tO:Az y j=q:=by
         unfold Az;rw[<-wV];exact mv hqB
        have u9:Bh y (j+1):=by
         refine⟨?_,.inr ?_⟩
         ·have h1:y/B^j<B:=by rw[<-wV];exact hqB
          have h2:=(mY (Bi j)).1 h1;rw[l9,mR];exact h2
         ·rw[nx];have h1:1<=y/B^j:=by omega
          have h2:=(nY (Bi j)).1 h1;omega
        have za:=Hi u9;have HQ1:=Hi tO;have hqi:(q:Int)<=16:=by omega
        have hqp:0<q:=by omega
        clear wV u9 hj tO hqB
        go_wp2_with (at_builtin;refine oA _ rfl _ _ 176 rfl W1.heap.size 133 i0 (.int .u32 0) 1 4 underlying176 hi qX qg qe rfl (by decide) _ _ _ rfl (qD.alloc _) ⟨wr.heap.size,0,none⟩ 1 1 [.int .u32 (q:Nat)] rfl rfl ?c1 ?c2 ?c3 ?c4 ?c5 ?_)
        case c1=>
         intro j u hj
         match j,hj with
         |0,hj=>simp at hj;subst hj;simp[Addr.add]
        case c2=>intro u hu;simp at hu;subst hu;rfl
        case c3=>unfold maxLen;omega
        case c4=>omega
        case c5=>have:=qF.size;simp;omega
        intro v' w2 hown' qC _;obtain⟨va,vc,vg⟩:=Eu hown';subst vg;rw[<-Ga y j q HQ1.o]at hown';have HP:Hid (PQ r W1.heap.size W1 y (j+1) (.slice va (j+1) vc) w2):=Hi ⟨za.o,hown',(qF.alloc (by have:=qF.size;omega) _).grown qC (by have:=qF.size;simp;omega) (fun b hb=>by have:=(qD.lt b hb).1;omega)⟩;have tf:=Hi (CH.EW hown' za.o.1);have hj6:j+1<=70368744177664:=by omega
        clear qD qF hown' qC
        go_wp2_with (go_at_call 131;(with_reducible refine(Tryz.size _ y (j+1) _ hj6 tf).mono ?_))
        rintro e w' ⟨m',ht',rfl,rfl⟩;by_cases hyl:y<2^Go.Proofs.LE
        ·have xc:decide ((4096:Int)<(sz y m':Nat))=false:=lO (by have:=GK ht' hyl;omega);have HYL:=Hi hyl;clear hyl ht';go_wp2;go_roundw
         case rel=>exact⟨k+1,j+1,by omega,by go_num,by rw[uz.o];exact HP.o,by rw[uz.o];exact HYL.o⟩
         case measure=>simp[intOf];omega
        ·have xc:decide ((4096:Int)<(sz y m':Nat))=true:=lU (by have:=SR ht' (by omega);omega);have sR:Hid (¬vN r s s.size<2^Go.Proofs.LE):=Hi (by have:=Ep (r:=r) (by omega) s (show k+1<=s.size by omega);rw[uz.o]at this;omega);exact absurd hxL.o sR.o
    ·have uc:k=s.size:=by omega
     subst uc;have HXL:=Hi uT;obtain⟨X,hX⟩:∃X,X=vN r s s.size:=⟨_,rfl⟩;rw[<-hX]at hq HXL;have HXE:=Hi hX;have uC:Hid (X≠0):=Hi (by rw[hX];exact tE.o);have tf:=Hi (CH.EW hq.own hq.tight.1);have qF:=Hi hq.Ac;clear hq uT hX
     go_wp2_with (go_at_call 132;(with_reducible refine(iB _ X m _ tf uC.o).mono ?_))
     rintro e W2 ⟨sl,m',rfl,ht,hl,b2⟩;obtain⟨a,c,rfl⟩:=hl.slice;have hws:=qF.o.size;have T:=(b2.block w.heap.size (by omega)).trans ((qF.o.block w.heap.size tg).trans tok);have x0:W2.cell? ⟨w.heap.size,0,none⟩=some (.bool false):=by rw[Lib.cell_of_heap T];rfl
     have x1:W2.cell? ⟨w.heap.size,1,none⟩=some (.slice none 0 0):=by rw[Lib.cell_of_heap T];rfl
     have y0:W2.frozen? ⟨w.heap.size,0,none⟩=false:=Lib.frozen_of_heap T 0;have y1:W2.frozen? ⟨w.heap.size,1,none⟩=false:=Lib.frozen_of_heap T 1;have HL2:=Hi hl;have BL:=Hi (bl.trans ((qF.o.mono (by omega)).trans (b2.mono (by omega))));clear hl b2 tok T bl;go_wp2;refine lS (v:= .tuple #[.agg #[.bool true,.slice a m' c],.int .i64 0]) ?_ rfl ?_
     ·simp only[results,results112];go_simp
      try rfl
     ·rw[<-HXE.o];refine⟨_,m',rfl,ht,?_,?_⟩
      ·refine(HL2.o.setCell x0 (fun _ _ h=>by cases h) _).setCell (u0:= .slice none 0 0) ?_ (fun _ _ h=>by cases h) _;rw[oV,x1];simp
      ·iterate 2 refine Below.setCell ?_ (by simp) _
       exact BL.o
end Go.Proofs
namespace Go.Proofs
open Go.RowKit Go.Bg Go.Hb
def UK (r x:Nat) (w:World) (e:Ending) (w':World):Prop:=∃t:ByteArray,e= .returned (.tuple #[.string t,.int .i64 0])/\t.data.toList=45::Ar r x/\Below w.heap.size w w'
theorem gu (v:Value) (x m r:Nat) (w:World) (hm:m<=70368744177664) (hr:2<=r) (rL:r<=36) (hv:Hid (CH w v x m)) (rH:Hid (∀m',Bh x m'->sz x m'<=4096)) (hnz:x≠0):
 Calls prog 113 #[.agg #[.bool true,v],.int .i64 r] w (UK r x w):=by
 obtain⟨a,c,rfl⟩:=hv.o.slice;have R1:decide ((r:Int)<2)=false:=Ej;have R2:decide ((36:Int)<r)=false:=Ej;obtain⟨i0,hi,qX,qg,qe⟩:=nw Nd;go_enter func113,ntmps113
 go_wp2_with fail
 generalize hW1:(w.alloc _).alloc _=W1;have C0:W1.cell? ⟨w.heap.size,0,none⟩=some (.bool true):=by subst hW1;go_simp
 have C1:W1.cell? ⟨w.heap.size,1,none⟩=some (.slice a m c):=by subst hW1;go_simp
 have C2:W1.cell? ⟨w.heap.size+1,0,none⟩=some (.bool true):=by subst hW1;go_simp
 have C3:W1.cell? ⟨w.heap.size+1,1,none⟩=some (.slice a m c):=by subst hW1;go_simp
 have bl:Below w.heap.size w W1:=by subst hW1;exact(Bzz _).alloc (by simp) _
 have sz1:W1.heap.size=w.heap.size+2:=by subst hW1;simp
 have sj:=Hi (hv.o.below bl);clear hW1
 go_wp2_with (go_at_call 133;(with_reducible refine(Tryz.long (w.heap.size+1) true (.slice a m c) x m _ hm sj C2 C3).mono ?_))
 rintro e W2 ⟨m1,sE,rfl,sY⟩;have hd:decide ((4096:Int)<(sz x m1:Nat))=false:=lO (by have:=rH.o m1 sE;omega);have sz2:w.heap.size+2<=W2.heap.size:=by have:=sY.size;omega
 have D0:W2.cell? ⟨w.heap.size,0,none⟩=some (.bool true):=(sY.cell (p:=⟨w.heap.size,0,none⟩) (by show w.heap.size<W1.heap.size;omega)).trans C0;have D1:W2.cell? ⟨w.heap.size,1,none⟩=some (.slice a m c):=(sY.cell (p:=⟨w.heap.size,1,none⟩) (by show w.heap.size<W1.heap.size;omega)).trans C1;have se:=Hi (sj.o.below sY);have uM:=Hi (bl.trans (sY.mono (by omega)));clear C0 C1 C2 C3 bl sY sj sz1;rw[hd];clear hd
 go_wp2_with (go_at_call 135;(with_reducible refine(Tryz.trim _ x m _ se.o).mono ?_))
 rintro e w' ⟨m2,we,rfl,rfl⟩;obtain rfl:m1=m2:=sE.inj we;have hle:m1<=m:=by
  rcases sE.2 with h|h
  ·omega
  ·rcases ls m m1 with h4|h4
   ·have h5:B^m<=B^(m1-1):=lX Je (by omega);have h6:x<B^m:=by
     rcases hv.o with⟨_,h7,_⟩|⟨_,_,_,_,_,_,h7⟩
     ·rw[h7];exact Bi m
     ·exact h7.1
    omega
   ·exact h4
 have AAF:m1<=129:=by
  have h1:=rH.o m1 sE;have h2:=MN x m1;omega
 have wT:Hid (CH W2 (.slice a m1 c) x m1):=Hi (se.o.cut hle sE.1);clear se
 go_wp2_with (go_at_call 134;(with_reducible refine(Tryz.own _ x m1 _ (by omega) wT).mono ?_))
 rintro e W3 ⟨rfl,uK,xN⟩;have zR:=Hi (uM.o.trans (xN.mono (by omega)));have sz3:W2.heap.size<W3.heap.size:=(lN.1 uK).1;have E0:W3.cell? ⟨w.heap.size,0,none⟩=some (.bool true):=(xN.cell (p:=⟨w.heap.size,0,none⟩) (by show w.heap.size<W2.heap.size;omega)).trans D0;have G3:=Hi uK;clear uK xN D0 D1 uM;by_cases h0:m1=0
 ·exact absurd (sE.Ao.1 h0) hnz
 ·have h0':((m1:Int)==0)=false:=by rw[nD];intro h;have:=eq_of_beq h;omega
  have HDL:Hid ((FF r x).length<=32000):=Hi (by
   have h1:x<2^(32*m1):=by
    have:=sE.1;rw[show B=2^32 from rfl,<-Nat.pow_mul]at this;exact this
   have:=IB hr (32*m1) x h1;omega)
  have tE:x≠0:=fun h=>h0 (sE.Ao.2 h);obtain⟨g,hg⟩:∃g,g=W2.heap.size:=⟨_,rfl⟩;rw[<-hg];have hgw:w.heap.size<g:=by omega
  have T0:TQ r x g W3 x m1 [] (.slice none 0 0) W3:=⟨sE,by simp,⟨_,by rw[hg];exact G3.o,by simp[Cs],fun j hj=>by simpa using Ds x m1 j hj⟩,mq _ _ _ _,Below.refl _ _⟩;clear hg;go_wp2
  go_loopw [6,7] (fun l out wr=>∃(X k:Nat) (ds:List Nat),l= .slice (some ⟨g,0,none⟩) k m1/\k<=m1/\TQ r x g W3 X k ds out wr) (fun _ out _=>match out with| .slice _ n _=>(FF r x).length-n|_=>0)
  case atStart=>exact⟨x,m1,[],rfl,nR _,T0⟩
  case round=>
   obtain⟨X,k,ds,rfl,hk,hq⟩:=hrel;obtain⟨oa,oc,ho⟩:=Bz hq.own;subst ho;cases k with
   |zero=>
    have E1:wr.cell? ⟨w.heap.size,0,none⟩=some (.bool true):=(hq.Ac.cell (p:=⟨w.heap.size,0,none⟩) hgw).trans E0;have hX:X=0:=hq.tight.Ao.1 rfl;subst hX;have vw:FF r x=ds:=by have:=hq.Ca;rwa [Dm,nj]at this
    have hdl0:ds.length<=32000:=by rw[<-vw];exact HDL.o
    have hdl:=hdl0
    go_wp2_with (at_builtin;refine oA _ rfl _ _ 143 rfl (g+1) 5 i0 (.int .u8 0) 1 1 my hi qX qg qe rfl (by decide) _ _ _ rfl (hq.own.alloc _) ⟨wr.heap.size,0,none⟩ 1 1 [.int .u8 45] rfl rfl ?c1 ?c2 ?c3 ?c4 ?c5 ?_)
    case c1=>
     intro j u hj
     match j,hj with
     |0,hj=>simp at hj;subst hj;simp[Addr.add]
    case c2=>intro u hu;simp at hu;subst hu;rfl
    case c3=>unfold maxLen;omega
    case c4=>omega
    case c5=>have:=hq.row.lt;simp;omega
    intro v' w2 hown' qC _;obtain⟨va,vc,vg⟩:=Bz hown';subst vg;have hlw:wr.heap.size<(wr.alloc (.cells #[.int .u8 45] 5)).heap.size:=by simp
    have yD:Below g W3 w2:=((hq.Ac.alloc (by have:=hq.row.lt;omega) _).grown qC (by have:=hq.row.lt;simp;omega) (fun b hb=>by have:=(hq.own.lt b hb).1;omega));obtain⟨d2,qR⟩:∃d2,d2=ds++ [214]:=⟨_,rfl⟩;have hd2l:d2.length=ds.length+1:=by rw[qR,l6];rfl
    have tD:w2.ownsRow (g+1) 5 1 (.slice va d2.length vc) d2.length (Lib.byteCells (d2.map Fc)):=by
     have e:Lib.byteCells (d2.map Fc)=Lib.byteCells (ds.map Fc)++ [.int .u8 45]:=by rw[qR,oC];simp[Lib.byteCells];decide
     rw[hd2l,e];exact hown'
    obtain⟨L,hL⟩:∃L,L=d2.map Fc:=⟨_,rfl⟩;have wR:L.length=ds.length+1:=by rw[hL,nN,hd2l]
    have qT:0<L.length:=by omega
    have hL32:L.length<=32001:=by omega
    rw[<-hd2l];obtain⟨h,rfl,hgh,qK⟩:=KG tD hL qT;rw[hd2l,<-wR];have NL:Hid (45::Ar r x=L.reverse):=Hi (by unfold Ar;rw[lL tE,vw,hL,qR,oC,List.reverse_append];rfl);have ys:=Hi (zR.o.trans (yD.mono (by omega)));have R0:CJ w2 h L.length 5 (swp L 0):=qK;obtain⟨n,hn⟩:∃n,L.length=n+1:=⟨L.length-1,by omega⟩;have yd:=Hi hn;clear vw hL wR qT hq qK T0 sE we h0 tE HDL hv rH G3 hown' tD qC qR hd2l yD hlw hdl0 hdl;go_wp2;clear hn;obtain⟨wo,rfl⟩:∃wo:World,wo=w2:=⟨_,rfl⟩
    go_loopw [10,11] (fun i k wr=>∃q e:Nat,i= .int .i64 q/\k= .int .i64 e/\q+e+1=L.length/\CJ wr h L.length 5 (swp L q)/\Below g wo wr) (fun _ k _=>(intOf k).toNat)
    case atStart=>exact⟨0,n,rfl,rfl,by have:=yd.o;omega,R0,Below.refl _ _⟩
    case round=>
     obtain⟨q,e,rfl,rfl,xV,qK,qq⟩:=hrel;have hqi:(q:Int)<(L.length:Int):=by omega
     have hei:(e:Int)<(L.length:Int):=by omega
     have hLi:(L.length:Int)<=32001:=by omega
     by_cases qE:q<e
     ·obtain⟨e,rfl⟩:∃e',e=e'+1:=⟨e-1,by omega⟩;have uQ:=qK.cell (j:=q) (by omega);have uB:=qK.cell (j:=e+1) (by omega);have hf1:=qK.frozen q;have hf2:=qK.frozen (e+1);have qP:¬q=e+1:=by omega
      have hne2:¬e+1=q:=by omega
      obtain⟨va,hva⟩:∃va:Nat,swp L q q= .int .u8 va:=⟨_,rfl⟩;obtain⟨vb,hvb⟩:∃vb:Nat,swp L q (e+1)= .int .u8 vb:=⟨_,rfl⟩;have wX:=qK.swap qE xV 1;rw[hva]at uQ wX;rw[hvb]at uB wX;have HR:=Hi wX;have hei2:(e:Int)+1<(L.length:Int):=by omega
      have hei3:0<=(e:Int)+1:=by omega
      have HQ:=Hi xV;have hlti:(q:Int)<(e:Int)+1:=by omega
      clear qK xV wX hva hvb hei;go_wp2
      go_region
      go_wp2;go_roundw
      case rel=>exact⟨q+1,e,by go_num,rfl,by have:=HQ.o;omega,HR.o,((qq.setCell (p:=⟨h,q,none⟩) (by show g<=h;omega) _).setCell (p:=⟨h,e+1,none⟩) (by show g<=h;omega) _).drew⟩
      case measure=>simp[intOf]
     ·obtain⟨t,ht,AAI⟩:=PU qK xV (by omega) vc;go_wp2;go_ret2;exact⟨t,rfl,by rw[ht,NL.o],ys.o.trans (qq.mono (by omega))⟩
   |succ k=>
    obtain⟨wo,rfl⟩:∃wo:World,wo=wr:=⟨_,rfl⟩;have wK:k<=1000:=by omega
    have I0:=hq.start;have tE:X≠0:=fun h=>by have:=hq.tight.Ao.2 h;omega
    go_wp2
    go_loopw [8,9] (fun rm i wr=>∃(q n:Nat),rm= .int .u32 n/\((q=0/\i= .int .i64 (-1))\/∃p:Nat,q=p+1/\i= .int .i64 p)/\IQ r X g W3 (k+1) ds (.slice oa ds.length oc) q n wr) (fun _ i _=>match i with| .int _ z=>(z+1).toNat|_=>0)
    case atStart=>exact⟨k+1,0,rfl,.inr ⟨k,rfl,rfl⟩,I0⟩
    case round=>
     obtain⟨q,n,rfl,hi,uG⟩:=hrel;rcases hi with⟨rfl,rfl⟩|⟨p,rfl,rfl⟩
     ·have hxr:X/r<B^(k+1):=mG (pN _ _) hq.tight.1;have yt:Hid (CH wr (.slice (some ⟨g,0,none⟩) (k+1) m1) (X/r) (k+1)):=Hi (.inr ⟨g,0,m1,rfl,hk,by unfold maxLen;omega,hxr,fun j hj=>by rw[me];simpa[cP]using uG.row.cell hj⟩)
      go_wp2_with (go_at_call 135;(with_reducible refine(Tryz.trim _ (X/r) (k+1) _ yt.o).mono ?_))
      rintro e w' ⟨k2,ht,rfl,rfl⟩;have hn:n=X %r:=by rw[uG.rest];simp
      have vx:n<36:=by rw[hn];have:=mw X (show 0<r by omega);omega
      have HN:=Hi hn;clear hn hxr;have hal:=Ic n vx;have hdl:ds.length<=32000:=by have:=hq.lens hr tE;have:=HDL.o;omega
      have hln:=Hi (hq.lens hr tE);have sW:k2<=m1:=by have:=Bh.le ht hq.tight.1 (pN _ _);omega
      go_wp2_with (at_builtin;refine oA _ rfl _ _ 143 rfl (g+1) 5 i0 (.int .u8 0) 1 1 my hi qX qg qe rfl (by decide) _ _ _ rfl (uG.own.alloc _) ⟨wr.heap.size,0,none⟩ 1 1 [.int .u8 ((Fc n).toNat:Nat)] rfl rfl ?c1 ?c2 ?c3 ?c4 ?c5 ?_)
      case c1=>
       intro j u hj
       match j,hj with
       |0,hj=>simp at hj;subst hj;simp[Addr.add]
      case c2=>intro u hu;simp at hu;subst hu;rfl
      case c3=>unfold maxLen;omega
      case c4=>omega
      case c5=>have:=uG.row.lt;simp;omega
      intro v' w2 hown' qC _;obtain⟨va,vc,vg⟩:=Bz hown';subst vg;have qu:TQ r x g W3 (X/r) k2 (ds++ [n]) (.slice va (ds.length+1) vc) w2:=hq.next hr tE uG HN.o ht hown' qC;go_wp2;go_roundw
      case rel=>exact⟨X/r,k2,ds++ [n],rfl,sW,qu⟩
      case measure=>have:=hln.o;simp;omega
     ·have hpk:p<k+1:=by have:=uG.le;omega
      obtain⟨lp,vl⟩:∃lp,lp=Az X p:=⟨_,rfl⟩;obtain⟨dq,xf⟩:∃dq,dq=Az (X/r) p:=⟨_,rfl⟩;obtain⟨dr,tP⟩:∃dr,dr=X/B^p %r:=⟨_,rfl⟩;have qW:wr.cell? ⟨g,p,none⟩=some (.int .u32 (lp:Nat)):=by rw[uG.row.cell hpk,vl];simp[cP]
      have hfz:=uG.row.frozen p;have hpi:(p:Int)<(k:Int)+1:=by omega
      have HD:=Hi (PD X r p hr rL (n:=n) uG.rest vl xf tP);have HN:Hid (∀q,IQ r X g W3 (k+1) ds (.slice oa ds.length oc) p dr ((wr.drewN q).setCell ⟨g,p,none⟩ (.int .u32 (dq:Nat)))):=Hi fun q=>uG.next xf tP q;clear vl xf tP
      go_wp2_with (go_at_call 136;(with_reducible refine(HD.o _).mono ?_))
      rintro e w' ⟨rfl,q,rfl⟩;have AAC:(wr.drewN q).cell? ⟨g,p,none⟩=some (.int .u32 (lp:Nat)):=qW;have hfz2:(wr.drewN q).frozen? ⟨g,p,none⟩=false:=hfz;go_wp2;cases p with
      |zero=>
       go_roundw
       case rel=>exact⟨0,dr,rfl,.inl ⟨rfl,rfl⟩,HN.o q⟩
       case measure=>simp
      |succ p=>
       go_roundw
       case rel=>exact⟨p+1,dr,rfl,.inr ⟨p,rfl,by go_num⟩,HN.o q⟩
       case measure=>simp;omega
end Go.Proofs
namespace Go.Lx
open Go.Hb Go.Rb Go.Bg Go.Pf Go.Proofs Go.Pz
def vF (r a:Nat) (c:UInt8):Nat:=a*r+Cv c.toNat
theorem aR (r:Nat) (s:ByteArray) (k:Nat) (hk:k<=s.size):vN r s k=(s.data.toList.take k).foldl (vF r) 0:=by
 induction k with
 |zero=>rfl
 |succ k ih=>
  have hl:k<s.data.toList.length:=hk;rw[List.take_succ_eq_append_getElem hl,List.foldl_append,<-ih (by omega)];show vN r s k*r+Cv (byte s k)=vF r (vN r s k) _;unfold vF;rw[DA (by omega)];rfl
theorem R7 {d:Nat}(h:d<10):Cv (Fc d).toNat=d/\A9 (Fc d).toNat=true:=by
 have key:∀k:Fin 10,Cv (Fc k.val).toNat=k.val/\A9 (Fc k.val).toNat=true:=by decide
 exact key ⟨d,h⟩
theorem ML (x:Nat):(FF 10 x).foldr (fun d a=>a*10+Cv (Fc d).toNat) 0=x/\∀d∈FF 10 x,d<10:=by
 induction x using Nat.strongRecOn with
 |_ x ih=>
  by_cases h0:x=0
  ·subst h0;rw[Dm];exact⟨rfl,fun d hd=>by cases hd⟩
  ·have h1:=ih (x/10) (by omega);rw[DB (by decide) h0];refine⟨?_,fun d hd=> ?_⟩
   ·rw[List.foldr_cons,h1.1,(R7 (mw x (by decide))).1];omega
   ·rcases oK.1 hd with rfl|hd
    ·exact mw _ (by decide)
    ·exact h1.2 d hd
theorem WY (x:Nat):(Ar 10 x).foldl (vF 10) 0=x:=by
 unfold Ar;split
 ·rename_i h;subst h;decide
 ·rw[List.foldl_reverse,List.foldr_map];exact(ML x).1
theorem Et (x:Nat):∀c∈Ar 10 x,A9 c.toNat=true/\Cv c.toNat<10:=by
 unfold Ar;split
 ·intro c hc;rw[og.1 hc];decide
 ·intro c hc;obtain⟨d,hd,rfl⟩:=List.mem_map.1 (List.mem_reverse.1 hc);have h1:=(ML x).2 d hd;have h2:=R7 h1;exact⟨h2.2,by rw[h2.1];exact h1⟩
theorem Ev (x:Nat):0<(Ar 10 x).length:=by
 unfold Ar;split
 ·decide
 ·rename_i h;rw[pP,nN,DB (by decide) h];simp
theorem GD (x:Nat):vN 10 (bs (Ar 10 x)) (bs (Ar 10 x)).size=x:=by
 rw[aR _ _ _ (lM _)];have e:(bs (Ar 10 x)).data.toList.take (bs (Ar 10 x)).size=Ar 10 x:=nO (lM _);rw[e,WY]
theorem Qq (x:Nat):∀k (h:k<(bs (Ar 10 x)).size),A9 ((bs (Ar 10 x))[k]).toNat=true/\Cv ((bs (Ar 10 x))[k]).toNat<10:=by
 intro k h;exact Et x _ (List.getElem_mem (l:=Ar 10 x) (h:=h))
theorem KI {x:Nat}(h:x<2^Go.Proofs.LE):(Ar 10 x).length<=5000:=by
 have h1:=IB (r:=10) (by decide) Go.Proofs.LE x h;have h2:Go.Proofs.LE<=4096:=by unfold Go.Proofs.LE;exact lM _
 unfold Ar;split
 ·decide
 ·rw[pP,nN];omega
def Canon (s:Bs):Prop:=∃x,x<2^Go.Proofs.LE/\(s=Ar 10 x\/(x≠0/\s=45::Ar 10 x))
end Go.Lx
namespace Go.Proofs
open Go.RowKit Go.Bg Go.Hb Go.Lx Go.Rb Go.Pf Go.Pz
theorem MV (A:ByteArray) (b:Bool) (x:Nat) (hx:x<2^Go.Proofs.LE) (w:World)
  (CP:∀W,Calls prog 112 #[.string A,.int .i64 10] W fun e w'=>∃(sl:Value) (m:Nat),e= .returned (.tuple #[.agg #[.bool b,sl],.int .i64 0])/\Bh x m/\CH w' sl x m/\Below W.heap.size W w')
  (CT:∀W v m,m<=70368744177664->Hid (CH W v x m)->Calls prog 113 #[.agg #[.bool b,v],.int .i64 10] W fun e w'=>e= .returned (.tuple #[.string A,.int .i64 0])/\Below W.heap.size W w'):
  Calls prog 99 #[.string A] w fun e w'=>e= .returned (.bool true)/\Below w.heap.size w w':=by
 have HP:=lK CP;have HT:=lK CT;have HX:=lK hx;clear CP CT hx;go_enter func99,ntmps99
 go_wp2_with (go_at_call 112;(with_reducible refine(HP.o _).mono ?_))
 rintro e W1 ⟨sl,m,rfl,ht,hl,b1⟩;obtain⟨a,c,rfl⟩:=hl.slice;have hm:m<=129:=by
  have h1:=GK ht HX.o;have h2:=MN x m;omega
 have HL:∀o,Hid (CH (W1.alloc o) (.slice a m c) x m):=fun o=>lK (hl.below (Bzz o));have CT2:=lK (fun o=>HT.o (W1.alloc o) (.slice a m c) m (by omega) (HL o));have B1:=lK b1;clear b1 hl ht HL
 go_wp2_with (go_at_call 113;(with_reducible refine(CT2.o _).mono ?_))
 rintro e W2 ⟨rfl,b2⟩;have B2:=lK (B1.o.trans (((Below.refl W1.heap.size W1).alloc (lM _) _).trans (b2.mono (by simp))|>.mono B1.o.size));clear b2;go_wp2;go_ret;refine⟨?_,B2.o⟩;simp
theorem Wv {s:Bs}(h:Canon s) (I:World->Prop):Sz (fun _=>true) s I:=by
 intro w _;obtain⟨x,hx,rfl|⟨h0,rfl⟩⟩:=h
 ·refine MV _ false x hx w (fun W=> ?_) (fun W v m hm hl=> ?_)
  ·have h:=WZ (bs (Ar 10 x)) 10 W (Ev x) (lg (KI hx) (by decide)) (by decide) (by decide) (lK (Qq x));rw[GD,N7 hx]at h;exact h
  ·exact SO v x m W hm hl (lK (fun m' ht=>GK ht hx))
 ·refine MV _ true x hx w (fun W=> ?_) (fun W v m hm hl=> ?_)
  ·have h:=cG (bs (45::Ar 10 x)) (bs (Ar 10 x)) 10 W (by
    apply pH;simp[ByteArray.data_extract];unfold bs;simp;exact nO (lM _)) (pg _) rfl (Ev x) (lg (KI hx) (by decide)) (by decide) (by decide) (lK (Qq x)) (lK (by rw[GD];exact h0)) (lK (by rw[GD];exact hx))
   rw[GD]at h;exact h
  ·refine(gu v x m 10 W hm (by decide) (by decide) hl (lK (fun m' ht=>GK ht hx)) h0).mono ?_;rintro e w' ⟨t,h1,h2,h3⟩;refine⟨?_,h3⟩;have e:t=bs (45::Ar 10 x):=by
    apply pH;apply po.1;rw[h2];rfl
   rw[h1,e]
end Go.Proofs
namespace Go.Pf
open Ieee
theorem Qd {b:Nat}(h:b %9223372036854775808<AW):double.order b b=some .eq:=by
 obtain⟨s,m,p,hr⟩:∃s m p,double.read b= .number s m p:=by
  unfold AW at h;unfold Format.read;simp only[Fu,IK,XA,Gc];by_cases hs:b %9223372036854775808<4503599627370496
  ·rw[lQ hs];exact⟨_,_,_,rfl⟩
  ·rw[lL hs,lQ h];exact⟨_,_,_,rfl⟩
 unfold Format.order;rw[hr];show some (compare _ _)=_;congr 1;exact Std.compare_self
end Go.Pf
namespace Go.Lx
open Go.Hb Go.Rb Go.Bg Go.Pf Go.Proofs Go.Pz
def Rc (b:Nat):Prop:=b<18446744073709551616/\b %9223372036854775808<AW/\b≠9223372036854775808
theorem df {b:Nat}(h:Rc b):b<18446744073709551616/\Kr (fun _=>true) b:=by
 refine⟨h.1,Kr.of h.1 (mW h.2.1) (Qd h.2.1) ?_⟩;rw[lO (nM h.2.1),lO h.2.2];rfl
theorem bZ (n:Nat) (s:ByteArray) (p:Nat):∀c∈Tg n s p,c<=1114111:=by
 induction n generalizing p with
 |zero=>intro c hc;cases hc
 |succ n ih=>
  intro c hc;unfold Tg at hc;split at hc
  ·rcases oK.1 hc with rfl|hc
   ·exact Lj s p
   ·exact ih _ c hc
  ·cases hc
theorem RN {s:ByteArray} {t:Tk}(h:YR s t) (hk:t.kind=4\/t.kind=5) (m:Bool):leaves Canon Rc (Cj t m):=by
 unfold Cj;by_cases h5:t.kind=5
 ·rw[lQ h5];simp only[leaves];have hb:=h.Hs;have hi:AW<9223372036854775808:=by unfold AW;decide
  split
  ·rename_i hm;simp only[mJ,mL]at hm;have qM:t.bits<2^63:=by omega
   have e:t.bits|||9223372036854775808=t.bits+9223372036854775808:=by
    have h2:=Nat.or_two_pow_eq_add_of_lt qM;exact h2
   rw[e];exact⟨by omega,by omega,by omega⟩
  ·exact⟨by omega,by omega,by omega⟩
 ·rw[lL h5];simp only[leaves];obtain⟨x,hx,he⟩:=h.int (by omega);have e:t.nu=Ar 10 x:=by
   have h2:(bs t.nu).data.toList=(Hh x).data.toList:=by rw[he]
   exact h2
  rw[e];split
  ·rename_i hm;simp only[mJ,mL]at hm;refine⟨x,hx,.inr ⟨fun h0=>hm.2 (by rw[h0];rfl),rfl⟩⟩
  ·exact⟨x,hx,.inl rfl⟩
theorem Ty (s:Bs) (q:Int):leaves Canon Rc (CZ s q):=by
 unfold CZ;split
 ·simp only[leaves]
 ·refine IC _ _ ?_ (by simp only[leaves]);rw[En];intro x hx;obtain⟨c,hc,rfl⟩:=List.mem_map.1 hx;unfold GP;split
  ·simp only[leaves]
  ·simp only[leaves];refine⟨c,Hv ?_,.inl rfl⟩;exact bZ _ _ _ c hc
end Go.Lx
namespace Go.Proofs
open Go.Shelf
def Ov:Go.Shelf.Ren:=⟨fun|196=>98|259=>123|n=>n,fun|9=>9|4=>4|3=>3|5=>5|12=>12|119=>110|0=>0|46=>164|139=>195|138=>194|53=>28|n=>n,fun|3=>3|4=>4|n=>n⟩
theorem Z9:Go.Proofs.Lays.n196 prog Ov:= {
 mixed:=by kernel_rfl
 f196:=Tryz.func98.trans (mQ some (by kernel_rfl))
 f259:=Tryz.func123.trans (mQ some (by kernel_rfl))
 t0:=underlying0
 a0:=isAgg0
 z0:=sizeOf0
 v0:=zeroValue0
 t3:=nU
 a3:=isAgg3
 z3:=sizeOf3
 v3:=pC
 t4:=oF
 a4:=isAgg4
 z4:=pT
 v4:=od
 t5:=nV
 a5:=isAgg5
 z5:=sizeOf5
 v5:=pD
 t9:=mS
 a9:=isAgg9
 z9:=sizeOf9
 v9:=pO
 t12:=underlying12
 a12:=isAgg12
 z12:=sizeOf12
 v12:=zeroValue12
 t46:=oO
 a46:=isAgg164
 z46:=sizeOf164
 v46:=pL
 t53:=underlying28
 a53:=isAgg28
 z53:=sizeOf28
 v53:=zeroValue28
 t119:=underlying110
 a119:=isAgg110
 z119:=sizeOf110
 t138:=underlying194
 a138:=isAgg194
 z138:=sizeOf194
 v138:=zeroValue194
 t139:=underlying195
 a139:=isAgg195
 z139:=sizeOf195
 v139:=zeroValue195
 g3:=by kernel_rfl
 g4:=by kernel_rfl}
end Go.Proofs
namespace Go.Proofs
open Go.RowKit Go.Bg Go.Hb Go.Lx Go.Rb Go.Pf Go.Pz
def Sb (s:Bs):Bool:=Lib.validD s
theorem J6:Sb []=true:=by
 unfold Sb Lib.validD Lib.validGoD;rfl
theorem a7:GB Sb Ag:=fun s w hs hw=>
 Any.utf8_ValidString Z9 (bs s) w (by show s.length<=_;omega) hw.utf8
def ME (t:Tm):Prop:=leaves Canon Rc t/\C5 (fun s=>s.length<=1000000000) t
mutual
theorem Kv {I J:Bs->Prop} {F K:Nat->Prop}(h1:∀s,I s->J s) (h2:∀b,F b->K b) (t:Tm) (h:leaves I F t):leaves J K t:=by
 cases t with
 |var n=>simp only[leaves]
 |atom s=>simp only[leaves]
 |int s=>simp only[leaves]at h⊢;exact h1 s h
 |Hs b=>simp only[leaves]at h⊢;exact h2 b h
 |cmp s l=>simp only[leaves]at h⊢;exact Jb h1 h2 l h
theorem Jb {I J:Bs->Prop} {F K:Nat->Prop}(h1:∀s,I s->J s) (h2:∀b,F b->K b) (l:List Tm) (h:BM I F l):BM J K l:=by
 cases l with
 |nil=>simp only[BM]
 |cons x l=>simp only[BM]at h⊢;exact⟨Kv h1 h2 x h.1,Jb h1 h2 l h.2⟩
end
def F3 (t:Tm):Nat:=GR Sb (fun _=>true) (fun _=>true) t
theorem fe {t:Tm} {c:Array Value} {S:Nat->Prop} {w:World}(hg:ME t) (hw:Ag w) (hS:∀b,S b->b<w.heap.size) (h:AT w S c.toList t):
  Calls prog 27 #[.agg c] w fun e w'=>e= .returned (.int .i64 (F3 t))/\Below w.heap.size w w':=
 fp (I:=Ag) (fun w w' h hb=>h.below hb) a7 J6 ⟨Kv (fun s h=>Wv h Ag) (fun b h=>df h) t hg.1,hg.2⟩ hw hS h
theorem XL (c:Nat):(WS c).length<=4:=by
 unfold WS Utf8.encode;dsimp only
 repeat' split
 all_goals simp
theorem ab (s:Bs) (q:Int) (h:s.length<=1000000000):C5 (fun s=>s.length<=1000000000) (CZ s q):=by
 unfold CZ;split
 ·simp only[C5];exact h
 ·refine Kg (by decide) _ _ ?_ (by simp only[C5];decide);rw[L7];intro x hx;obtain⟨c,hc,rfl⟩:=List.mem_map.1 hx;unfold GP;split
  ·simp only[C5];have h2:=XL c;omega
  ·simp only[C5]
theorem LI {s:ByteArray} {p:Nat} {L:List Tk} {r:Option (Nat×Nat)}(hs:s.size<=20000000) (hp:p<=s.size) (hL:Ct s p L r){O:Am} {q:Int}(n:Nat) (st:RS) (most:Int) (t:Tm) (pr:Int) (st':RS) (h:Ay L O q CZ n st most= .ok (t,pr,st')):ME t:=by
 refine⟨(M3 (fun t ht hk m=>RN (hL.Kf hp t ht) hk m) Ty n).1 _ _ _ _ _ h,(Ql (N:=fun s=>s.length<=1000000000) (fun t ht=> ?_) (mK _) (by decide) (by decide) (by decide) (fun s q h=>ab s q h) n).1 _ _ _ _ _ h⟩;have:=(Hc hs (hL.Kf hp t ht)).1;omega
end Go.Proofs
