import Derived.Test.YtpocgkiamgipdaaGreatDoorRdG
import Derived.Deep.AppendLies
import Derived.Deep.RegionLaw
import Derived.Laws.BitsAllLaws
import Derived.Deep.MidRow
import Derived.Deep.RegionHeld
set_option maxRecDepth 1000000
set_option maxHeartbeats 0
set_option linter.unusedVariables false
set_option linter.unusedSimpArgs false
open Go.Proofs.Tryz
namespace Go.Proofs
open Go.RowKit Go.Hb Go.Pz
def ZP (n:Nat):Value:= .agg #[.int .i64 1,.string ⟨#[]⟩,.string ⟨#[]⟩,.int .u64 0,.int .i64 n,.slice none 0 0]
theorem A0.NJ {C:Cx}(hC:C.Ok){w W:World} {s s':RS} {nv tv qH qG:Value}(h:A0 C w s nv tv) (hk:Kept (X0 C nv tv) w W) (hR:N4 W C.R C.L C.ts.length C.cap s'.k C.o C.qt qH (.slice none 0 0) s'.vars qG)
  (hn:W.ownsRow C.B 47 2 qH s'.names.length (s'.names.flatMap QN)) (ht:W.ownsRow C.B 3 1 qG s'.times.length (s'.times.map Ly)) (ha:∀g,qH.ownBlock=some g->qG.ownBlock≠some g) (hb:Bd C.ts s'):A0 C W s' qH qG:=by
 have ua:∀b,b<C.B->b≠C.R->W.heap[b]? =w.heap[b]? :=fun b hb hr=>hk.block b (lR hb h.sz) (by
  rintro(h1|h1|h1)
  ·exact hr h1
  ·have:=(h.Jm.lt b h1).1;omega
  ·have:=(h.Ji.lt b h1).1;omega)
 exact⟨hR,fun i t hi=>(h.VT i t hi).Ak (ua _ hC.lb (fun e=>hC.rl e.symm)),hC.tb w W hk.os hk.tape hk.output hk.size ua h.Fm,hn,ht,ha,hb,lg h.sz hk.size⟩
theorem Ue {nm:Bs} {l:List (Bs×Nat)} {q:Nat} {x:Bs×Nat}(hx:l[q]? =some x) (he:x.1=nm) (qE:∀(j:Nat) (y:Bs×Nat),j<q->l[j]? =some y->y.1≠nm):nameAt nm l=some q:=by
 induction l generalizing q with
 |nil=>cases hx
 |cons a l ih=>
  unfold nameAt;cases q with
  |zero=>
   simp only[nX,mD]at hx;subst hx;rw[lQ he]
  |succ q=>
   rw[lL (qE 0 a (pg _) rfl),ih (by simpa using hx) (fun j y hj hy=>qE (j+1) y (by omega) (by simpa using hy))];rfl
theorem Ux {nm:Bs} {l:List (Bs×Nat)}(qE:∀(j:Nat) (y:Bs×Nat),l[j]? =some y->y.1≠nm):nameAt nm l=none:=by
 induction l with
 |nil=>rfl
 |cons a l ih=>
  unfold nameAt;rw[lL (qE 0 a rfl),ih (fun j y hy=>qE (j+1) y (by simpa using hy))];rfl
def QM (C:Cx) (w:World) (nv tv:Value) (r:Tm×RS) (e:Ending) (w':World):Prop:=∃n qH qG,e= .returned (ZP n)/\r.1= .var n/\D8 C w nv tv w' r.2 qH qG
theorem Kept.Eh {C:Cx} {w:World} {nv tv:Value}(i:Nat) (v:Value):Kept (X0 C nv tv) w (w.setCell ⟨C.R,i,none⟩ v):=
 ⟨rfl,rfl,rfl,pR (size_set _ _ _).symm,fun b _ hx=>AA _ _ _ (fun e=>hx (.inl e))⟩
theorem A0.NK {C:Cx}(hC:C.Ok){w:World} {s:RS} {nv tv:Value}(h:A0 C w s nv tv):(∀b,nv.ownBlock=some b->b≠C.R)/\(∀b,tv.ownBlock=some b->b≠C.R):=
 ⟨fun b hb=>by have:=(h.Jm.lt b hb).1;have:=hC.rb;omega,fun b hb=>by have:=(h.Ji.lt b hb).1;have:=hC.rb;omega⟩
theorem D8.vars {C:Cx}(hC:C.Ok){w:World} {s:RS} {nv tv:Value}(h:A0 C w s nv tv) (hb:Bd C.ts {s with vars:=s.vars+1}):D8 C w nv tv (w.setCell ⟨C.R,14,none⟩ (.int .i64 ((s.vars:Int)+1))) {s with vars:=s.vars+1} nv tv:=by
 have hk:=Kept.Eh (C:=C) (w:=w) (nv:=nv) (tv:=tv) 14 (.int .i64 ((s.vars:Int)+1));have hn:=h.NK hC;refine⟨h.NJ hC hk ⟨?_⟩ (AS h.Jm fun b hb=>AA _ _ _ (hn.1 b hb)) (AS h.Ji fun b hb=>AA _ _ _ (hn.2 b hb)) h.apart hb,⟨hk,fun _ h=> .inl h,fun _ h=> .inl h⟩⟩;exact Eh h.hR.h 14 _
theorem XR {C:Cx}(hC:C.Ok){w:World} {s:RS} {nv tv:Value}(h:A0 C w s nv tv) (hvk:s.vars<s.k):Calls prog 65 #[.pointer (some ⟨C.R,0,none⟩),.string ⟨#[95]⟩] w (QM C w nv tv (.var s.vars,{s with vars:=s.vars+1})):=by
 have HI:=lK h;have HB:Hid (Bd C.ts {s with vars:=s.vars+1}):=lK (by
  have hb:=h.bd;exact⟨hb.kl,hvk,Nat.le_succ_of_le hb.nl,hb.tl,hb.tk,fun x hx=>Nat.lt_succ_of_lt (hb.nv x hx)⟩)
 have lk:s.k<100000000:=lR h.bd.kl hC.len;have lv:(s.vars:Int)<100000000:=by omega
 have qE:C.R<w.heap.size:=lR hC.rb h.sz;have c14:=h.hR.cells.2.2.2.2.2.1;have q14:=Lib.frozen_of_heap h.hR.h 14;have c14a:=fun x=>AN c14 x;clear h;go_enter func65,ntmps65;go_wp2;refine lS (v:=ZP s.vars) ?_ rfl ⟨s.vars,nv,tv,rfl,rfl,(D8.vars hC HI.o HB.o).below hC (Bzz _)⟩;simp only[results,results65];go_simp
 try rfl
theorem Ap {w:World} {base:Nat} {e:TypeId} {size:Nat} {v:Value} {n:Nat} {xs:List Value}(h:w.ownsRow base e size v n xs):∃a c,v= .slice a n c:=by
 rcases h.2 with⟨rfl,rfl⟩|⟨g,cap,cur,rfl,_⟩
 ·exact⟨_,_,rfl⟩
 ·exact⟨_,_,rfl⟩
theorem de:(Tryz.prog.info? 47).map (fun i=>(i.zero,i.size,i.bytes))=some (some (.agg #[.string ⟨#[]⟩,.int .i64 0]),2,24):=by kernel_rfl
theorem jQ:(Tryz.prog.info? 3).map (fun i=>(i.zero,i.size,i.bytes))=some (some (.int .i64 0),1,8):=by kernel_rfl
theorem JT {l:List (Bs×Nat)} {q:Nat} {x:Bs×Nat}(h:l[q]? =some x):(l.flatMap QN)[q*2]? =some (.string (bs x.1))/\(l.flatMap QN)[q*2+1]? =some (.int .i64 x.2):=by
 induction l generalizing q with
 |nil=>cases h
 |cons a l ih=>
  rw[pK];cases q with
  |zero=>
   simp only[nX,mD]at h;subst h;exact⟨rfl,rfl⟩
  |succ q=>
   have:=ih (q:=q) (by simpa using h);rw[show(q+1)*2=q*2+2 by omega,show q*2+2+1=(q*2+1)+2 by omega];exact⟨by simpa[QN]using this.1,by simpa[QN]using this.2⟩
theorem RR (l:List Nat) (q x:Nat) (h:l[q]? =some x):(l.modify q (· +1)).map Ly=(l.map Ly).set q (Ly (x+1)):=by
 apply List.ext_getElem?;intro j;rw[mj,List.getElem?_modify,List.getElem?_set,mj];by_cases hj:q=j
 ·subst hj;have hl:q<(l.map Ly).length:=by rw[nN];exact(mC.1 h).1
  rw[lQ rfl,lQ hl,h];simp
 ·rw[lL hj];cases l[j]? <;>simp[hj]
theorem Kept.alloc {X:Nat->Prop} {w a:World}(h:Kept X w a) (o:Obj):Kept X w (a.alloc o):=
 ⟨h.os,h.tape,h.output,by have:=h.size;simp;omega,fun b hb hx=>(Lib.alloc_old _ _ _ (lR hb h.size)).trans (h.block b hb hx)⟩
theorem Kept.cV {X:Nat->Prop} {w a:World}(h:Kept X w a):Kept X w a.drew:=⟨h.os,h.tape,h.output,h.size,h.block⟩
theorem Kept.set {X:Nat->Prop} {w a:World}(h:Kept X w a){p:Addr}(hp:X p.block\/w.heap.size<=p.block) (v:Value):Kept X w (a.setCell p v):=
 ⟨h.os,h.tape,h.output,by rw[size_set];exact h.size,fun b hb hx=>(AA _ _ _ (fun e=>by subst e;exact hp.elim hx (fun h1=>absurd hb (Nat.not_lt.2 h1)))).trans (h.block b hb hx)⟩
theorem Kept.iQ {X:Nat->Prop} {w a:World}(h:Kept X w a){p:Nat}(hp:w.heap.size<=p) (cs:Array Value):Kept X w (a.setRow p cs):=
 ⟨h.os,h.tape,h.output,by rw[Al];exact h.size,fun b hb hx=>(mH _ _ _ _ (by omega)).trans (h.block b hb hx)⟩
def BI (n:Nat):Array Value:= #[.int .i64 1,.string ⟨#[]⟩,.string ⟨#[]⟩,.int .u64 0,.int .i64 n,.slice none 0 0]
theorem LZ (n:Nat):(BI n).all (·.oneCell')=true:=by simp[BI,Value.oneCell']
theorem PS {s:RS} {nm:Bs} {q:Nat} {x:Bs×Nat}(qP:nm≠ [95]) (hx:s.names[q]? =some x) (he:x.1=nm) (qE:∀(j:Nat) (y:Bs×Nat),j<q->s.names[j]? =some y->y.1≠nm):
  EV s nm=(.var x.2,{s with times:=s.times.modify q (· +1)}):=by
 unfold EV;rw[lL qP,Ue hx he qE];show(Tm.var (s.names.getD q ([],0)).2,_)=_;rw[lZ,hx];rfl
theorem Oo {s:RS} {nm:Bs}(qP:nm≠ [95]) (qE:∀(j:Nat) (y:Bs×Nat),s.names[j]? =some y->y.1≠nm):
  EV s nm=(.var s.vars,{s with names:=s.names++ [(nm,s.vars)],times:=s.times++ [1],vars:=s.vars+1}):=by
 unfold EV;rw[lL qP,Ux qE]
theorem UR {C:Cx}(hC:C.Ok){w:World} {s:RS} {nv tv:Value}(h:A0 C w s nv tv) (hvk:s.vars<s.k) (ht:∀x∈s.times,x<s.k) (nm:Bs) (hl:nm.length<=1000000000) (qP:nm≠ [95]):
  Calls prog 65 #[.pointer (some ⟨C.R,0,none⟩),.string (bs nm)] w (QM C w nv tv (EV s nm)):=by
 obtain⟨na,nc,rfl⟩:=Ap h.Jm;obtain⟨ta,tc,rfl⟩:=Ap h.Ji;obtain⟨n,hn⟩:∃n,n=s.names.length:=⟨_,rfl⟩;have zG:s.times.length=n:=by rw[hn];exact h.bd.tl
 rw[zG,<-hn]at h;rw[zG,<-hn];have HI:=lK h;have HN:=lK hn;have uO:=lK zG;have HHT:=lK ht;have HNE:=lK qP;have cne:((bs nm).toList== [95])=false:=by
  have h1:((bs nm).toList==(⟨#[95]⟩:ByteArray).toList)=false:=by
   rw[<-oz,Du,mN];exact fun e=>qP (Fv.1 e)
  have h2:(⟨#[95]⟩:ByteArray).toList= [95]:=by first|rfl|decide|simp
  rwa [h2]at h1
 have bn:n<100000000:=by have:=h.bd.nl;have:=h.bd.vk;have:=h.bd.kl;have:=hC.len;omega
 have bni:(n:Int)<100000000:=by omega
 have lk:s.k<100000000:=lR h.bd.kl hC.len;have lv:(s.vars:Int)<100000000:=by omega
 have qE:C.R<w.heap.size:=lR hC.rb h.sz;have xO:=AN h.hR.cells.2.2.2.2.1;clear h hn zG ht qP;go_enter func65,ntmps65;go_wp2;generalize hW:w.alloc _=W;have BW:Hid (Below w.heap.size w W):=lK (by rw[<-hW];exact Bzz _);have H4:Hid (W.heap[w.heap.size]? =some (.cells zV 31)):=lK (by rw[<-hW];exact lT w _);have szW:W.heap.size=w.heap.size+1:=by rw[<-hW];simp
 clear hW xO
 go_loopw [15] (fun i wr=>∃q:Nat,i= .int .i64 q/\Hid (q<=n/\(∀(j:Nat) (y:Bs×Nat),j<q->s.names[j]? =some y->y.1≠nm)/\Below W.heap.size W wr)) (fun i _=>n-(intOf i).toNat)
 case atStart=>exact⟨0,rfl,lK ⟨mK _,fun j y hj=>absurd hj (by omega),Below.refl _ _⟩⟩
 case round=>
  obtain⟨q,rfl,hq⟩:=hrel;have hqn:=hq.o.1;have BR:Hid (Below w.heap.size w wr):=lK (BW.o.trans (hq.o.2.2.mono (by omega)));have IR:=lK (HI.o.below hC BR.o);by_cases hlt2:q<n
  ·have hli:(q:Int)<n:=by omega
   obtain⟨x,hx⟩:∃x,s.names[q]? =some x:=⟨_,lu (by have:=HN.o;omega)⟩;obtain⟨g,cap,hv,_,_⟩:=IR.o.Jm.form (by have:=HN.o;omega);have se:na=some ⟨g,0,none⟩:=by
    simp only[mX]at hv;exact hv.1
   subst se;have n0:wr.cell? ⟨g,q*2,none⟩=some (.string (bs x.1)):=by
    have h1:=IR.o.Jm;rw[<-HN.o]at h1;rw[World.ownsRow.cellAt h1 (q*2) (by omega)];exact(JT hx).1
   have n1:wr.cell? ⟨g,q*2+1,none⟩=some (.int .i64 x.2):=by
    have h1:=IR.o.Jm;rw[<-HN.o]at h1;rw[World.ownsRow.cellAt h1 (q*2+1) (by omega)];exact(JT hx).2
   have HX:=lK hx;clear hx hv;cases hc:((bs x.1).toList==(bs nm).toList)with
   |false=>
    have HC:Hid (x.1≠nm):=lK (by
     rw[<-oz,Du,mN]at hc;exact fun e=>hc (by rw[e]))
    go_wp2;go_roundw
    case rel=>exact⟨q+1,by go_num,lK ⟨by omega,fun j y hj hy=>by
     rcases ls j q with h1|h1
     ·exact hq.o.2.1 j y h1 hy
     ·have:j=q:=by omega
      subst this;rw[HX.o]at hy;cases hy;exact HC.o,hq.o.2.2.trans ((Below.refl _ _).alloc hq.o.2.2.size _)⟩⟩
    case measure=>simp[intOf];omega
   |true=>
    have HC:Hid (x.1=nm):=lK (by
     rw[<-oz,Du,mL]at hc;exact Fv.1 hc)
    obtain⟨y,hy⟩:∃y,s.times[q]? =some y:=⟨_,lu (by have:=uO.o;omega)⟩;have yb:(y:Int)<100000000:=by have:=HHT.o y (mP hy);omega
    obtain⟨h,qQ,hv,ql,qM⟩:=IR.o.Ji.form (by have:=uO.o;omega);have se:ta=some ⟨h,0,none⟩:=by
     simp only[mX]at hv;exact hv.1
    subst se;have xh:h<w.heap.size:=(HI.o.Ji.lt h rfl).2;have t0:wr.cell? ⟨h,q,none⟩=some (.int .i64 y):=by
     have h1:=IR.o.Ji;rw[uO.o]at h1;rw[World.ownsRow.cellAt h1 q (by omega),mj,hy];rfl
    have t0a:=AN t0;have c15:=AN IR.o.hR.cells.2.2.2.2.2.2;have f0a:∀x,(wr.alloc x).frozen? ⟨h,q,none⟩=false:=fun x=>World.ownsRow.frozenAt (by have h1:=IR.o.Ji;rw[uO.o]at h1;exact h1.alloc x) q;have HY:=lK hy;have IW:=lK (And.intro ql qM);clear hy hv ql qM t0;have rD:Hid (Bd C.ts {s with times:=s.times.modify q (· +1)}):=lK (by
     have h1:=HI.o.bd.var hvk HHT.o nm;rw[PS HNE.o HX.o HC.o hq.o.2.1]at h1;exact h1.1)
    have hg:g≠h:=fun e=>HI.o.apart g rfl (by rw[e];rfl);have hgB:C.R≠h:=by have:=HI.o.Ji.lt h rfl;have:=hC.rb;omega
    go_upto_region 7 with fail
    generalize hA:wr.alloc _=A;have KA:Hid (Kept (X0 C (.slice (some ⟨g,0,none⟩) n nc) (.slice (some ⟨h,0,none⟩) n tc)) w A):=lK (by rw[<-hA];exact(Kept.AY BR.o).alloc _);have IA:Hid (A0 C A s (.slice (some ⟨g,0,none⟩) n nc) (.slice (some ⟨h,0,none⟩) n tc)):=lK (by rw[<-hA];exact IR.o.below hC (Bzz _));have H4A:Hid (A.heap[w.heap.size]? =some (.cells zV 31)):=lK (by
     rw[<-hA];exact(Lib.alloc_old _ _ _ (by have:=hq.o.2.2.size;omega)).trans ((hq.o.2.2.block _ (by omega)).trans H4.o))
    have x6:A.cell? ⟨wr.heap.size,1,none⟩=some (.int .i64 x.2):=by rw[<-hA,Lib.cell_of_heap (lT wr _)];rfl
    have hwr:h<wr.heap.size:=IW.o.2;clear hA t0a c15 f0a;generalize hX:A.setCell _ _=X;have KX:=lK (KA.o.set (p:=⟨h,q,none⟩) (.inl (.inr (.inr rfl))) (.int .i64 ((y:Int)+1)));have NX:Hid (X.ownsRow C.B 47 2 (.slice (some ⟨g,0,none⟩) n nc) s.names.length (s.names.flatMap QN)):=lK (by
     rw[<-hX];exact AS IA.o.Jm (fun b hb=>AA _ _ _ (by show b≠h;simp only[Value.ownBlock,mD]at hb;omega)))
    have TX:Hid (X.ownsRow C.B 3 1 (.slice (some ⟨h,0,none⟩) n tc) (s.times.modify q (· +1)).length ((s.times.modify q (· +1)).map Ly)):=lK (by
     rw[<-hX,RR _ _ _ HY.o,List.length_modify];have h1:=IA.o.Ji;rw[uO.o]at h1⊢;exact(h1.stored q _).1)
    have RX:Hid (N4 X C.R C.L C.ts.length C.cap s.k C.o C.qt (.slice (some ⟨g,0,none⟩) n nc) (.slice none 0 0) s.vars (.slice (some ⟨h,0,none⟩) n tc)):=lK (by
     rw[<-hX];exact⟨(AA _ _ _ hgB).trans IA.o.hR.h⟩)
    have H4X:Hid (X.heap[w.heap.size]? =some (.cells zV 31)):=lK (by
     rw[<-hX];exact(AA _ _ _ (by show w.heap.size≠h;omega)).trans H4A.o)
    have x6X:X.cell? ⟨wr.heap.size,1,none⟩=some (.int .i64 x.2):=by
     rw[<-hX,oV _ _ _ _ (by simp<;>omega)];exact x6
    rw[hX]at KX;clear hX x6
    go_wp2_with (refine F8 rfl _ _ rfl w.heap.size (BI x.2) rfl rfl _ H4X.o rfl rfl (LZ _) ?_)
    have KF:=KX.o.iQ (lM w.heap.size) (BI x.2);rw[PS HNE.o HX.o HC.o hq.o.2.1];have hgw:g<w.heap.size:=(HI.o.Jm.lt g rfl).2;have yg:C.R≠w.heap.size:=nM qE;refine lS (v:=ZP x.2) ?_ rfl ⟨x.2,_,_,rfl,rfl,⟨HI.o.NJ hC KF ⟨(mH _ _ _ _ yg).trans RX.o.h⟩ (AS NX.o fun b hb=>mH _ _ _ _ (by simp only[Value.ownBlock,mD]at hb;omega)) (AS TX.o fun b hb=>mH _ _ _ _ (by simp only[Value.ownBlock,mD]at hb;omega)) HI.o.apart rD.o,⟨KF,fun _ h=> .inl h,fun _ h=> .inl h⟩⟩⟩;exact results_cell_row rfl _ _ w.heap.size 31 (BI x.2) (0,0) _ rfl (mF _ _ _ _ _ _ H4X.o) mE rfl Cg
  ·have hnl:¬(q:Int)<n:=by omega
   have uH:Hid (∀(j:Nat) (y:Bs×Nat),s.names[j]? =some y->y.1≠nm):=lK (fun j y hy=>hq.o.2.1 j y (by have:=(mC.1 hy).1;have:=HN.o;omega) hy)
   go_upto_region 9 with fail
   have xO:=IR.o.hR.cells.2.2.2.2.1;have c14:=IR.o.hR.cells.2.2.2.2.2.1;have c10a:=AN xO;obtain⟨i0,hi,qX,qg,qe⟩:=nw de;have N1:Hid (((wr.alloc (.cells #[.string (bs nm),.int .i64 s.vars] 47)).drew).ownsRow C.B 47 2 (.slice na n nc) s.names.length (s.names.flatMap QN)):=lK (IR.o.Jm.alloc _);have NW:Hid (∀j u,[Value.string (bs nm),.int .i64 s.vars][j]? =some u->((wr.alloc (.cells #[.string (bs nm),.int .i64 s.vars] 47)).drew).cell? ((⟨wr.heap.size,0,none⟩:Addr).add j)=some u):=lK (World.news_of_block (t:=47) (fr:=(0,0)) (cs:= #[.string (bs nm),.int .i64 s.vars]) (lT wr _));have tu:Hid (∀u∈ [Value.string (bs nm),.int .i64 s.vars],u.oneCell'=true):=lK (by simp[Value.oneCell']);have MX:Hid (s.names.length+1<=maxLen):=lK (by have:=HN.o;unfold maxLen;omega);have BY:Hid ((s.names.length+1)*24<=140737488355328):=lK (by have:=HN.o;omega);have BS:Hid (C.B<=((wr.alloc (.cells #[.string (bs nm),.int .i64 s.vars] 47)).drew).heap.size):=lK (lg IR.o.sz (by show wr.heap.size<=(wr.alloc _).heap.size;simp));have C10:Hid (((wr.alloc (.cells #[.string (bs nm),.int .i64 s.vars] 47)).drew).cell? ⟨C.R,10,none⟩=some (.slice na n nc)):=lK (AN xO _);have F10:Hid (((wr.alloc (.cells #[.string (bs nm),.int .i64 s.vars] 47)).drew).frozen? ⟨C.R,10,none⟩=false):=lK (Lib.frozen_of_heap ((Lib.alloc_old wr _ _ (lR qE BR.o.size)).trans IR.o.hR.h) 10);have NE:Hid (some C.R≠(Value.slice na n nc).ownBlock):=lK (fun e=>(HI.o.NK hC).1 _ e.symm rfl);have LR:Hid (C.R<((wr.alloc (.cells #[.string (bs nm),.int .i64 s.vars] 47)).drew).heap.size):=lK (by have:=BR.o.size;show C.R<(wr.alloc _).heap.size;simp;omega)
   go_region_law (refine step_append_lies _ rfl _ _ _ rfl C.B 47 i0 _ 2 24 underlying32 hi qX qg qe rfl (by decide) _ _ _ rfl N1.o ⟨wr.heap.size,0,none⟩ 1 1 [.string (bs nm),.int .i64 s.vars] rfl rfl NW.o tu.o (by decide) MX.o BY.o BS.o _ rfl ?_;intro g cap w1 qD qC qh _hlg;have ym:=qC.cell C10.o NE.o;have f10:=(qC.frozen_far ⟨C.R,10,none⟩ LR.o NE.o).trans F10.o)
   all_goals
    have KA:Hid (Kept (X0 C (.slice na n nc) (.slice ta n tc)) w ((wr.alloc (.cells #[.string (bs nm),.int .i64 s.vars] 47)).drew)):=lK ((Kept.AY BR.o).alloc _).cV;have TA:Hid (((wr.alloc (.cells #[.string (bs nm),.int .i64 s.vars] 47)).drew).ownsRow C.B 3 1 (.slice ta n tc) s.times.length (s.times.map Ly)):=lK (IR.o.Ji.alloc _);have RA:Hid (((wr.alloc (.cells #[.string (bs nm),.int .i64 s.vars] 47)).drew).heap[C.R]? =wr.heap[C.R]?):=lK (Lib.alloc_old wr _ _ (lR qE BR.o.size));have HA4:Hid (((wr.alloc (.cells #[.string (bs nm),.int .i64 s.vars] 47)).drew).heap[w.heap.size]? =some (.cells zV 31)):=lK (
     (Lib.alloc_old wr _ _ (by have:=hq.o.2.2.size;omega)).trans ((hq.o.2.2.block _ (by omega)).trans H4.o))
    have SA:Hid (((wr.alloc (.cells #[.string (bs nm),.int .i64 s.vars] 47)).drew).heap.size=wr.heap.size+1):=lK (by show(wr.alloc _).heap.size=_;simp);generalize(wr.alloc (.cells #[.string (bs nm),.int .i64 s.vars] 47)).drew=A at*;generalize hX:w1.setCell _ _=X;have hgR:g≠C.R:=by have:=(qD.lt g rfl).1;have:=hC.rb;omega
    have K1:Kept (X0 C (.slice na n nc) (.slice ta n tc)) w w1:=KA.o.trans (Y:=fun b=>(Value.slice na n nc).ownBlock=some b) ⟨qC.os,qC.tape,qC.output,qC.size,fun b hb hn=>qC.block b hb (fun e=>hn e.symm)⟩ (fun b _ hb=> .inr (.inl hb));have KX:Hid (Kept (X0 C (.slice na n nc) (.slice ta n tc)) w X):=lK (by rw[<-hX];exact K1.set (.inl (.inl rfl)) _);have NX:Hid (X.ownsRow C.B 47 2 (.slice (some ⟨g,0,none⟩) (s.names.length+1) cap) (s.names++ [(nm,s.vars)]).length ((s.names++ [(nm,s.vars)]).flatMap QN)):=lK (by
     rw[<-hX,l6,oW];exact AS qD (fun b hb=>AA _ _ _ (by show b≠C.R;simp only[Value.ownBlock,mD]at hb;omega)))
    have TX:Hid (X.ownsRow C.B 3 1 (.slice ta n tc) s.times.length (s.times.map Ly)):=lK (by
     rw[<-hX];exact AS TA.o (fun b hb=>(AA _ _ _ (by show b≠C.R;exact(HI.o.NK hC).2 b hb)).trans (qC.block b (TA.o.lt b hb).2 (fun e=>HI.o.apart b e.symm hb))))
    have RX:Hid (N4 X C.R C.L C.ts.length C.cap s.k C.o C.qt (.slice (some ⟨g,0,none⟩) (s.names.length+1) cap) (.slice none 0 0) s.vars (.slice ta n tc)):=lK (by
     rw[<-hX];exact⟨Eh ((qC.block _ LR.o NE.o).trans (RA.o.trans IR.o.hR.h)) 10 _⟩)
    have AX:Hid (∀b,(Value.slice ta n tc).ownBlock=some b->b≠g):=lK (fun b hb e=>by
     rcases qh with h1|h1
     ·exact HI.o.apart g h1 (e▸hb)
     ·have:=(TA.o.lt b hb).2;omega)
    have GX:Hid ((Value.slice na n nc).ownBlock=some g\/w.heap.size<g):=lK (by
     rcases qh with h1|h1
     ·exact .inl h1
     ·exact .inr (by have:=SA.o;have:=hq.o.2.2.size;omega))
    have H4X:Hid (X.heap[w.heap.size]? =some (.cells zV 31)):=lK (by
     rw[<-hX];exact(AA _ _ _ (Nat.ne_of_gt qE)).trans ((qC.block _ (by have:=hq.o.2.2.size;have:=SA.o;omega) (fun e=>by have:=(HI.o.Jm.lt _ e.symm).2;omega)).trans HA4.o))
    clear hX qD qC qh K1 KA TA RA HA4 SA C10 F10 NE LR NW tu MX BY BS N1 xO c14 c10a ym f10;have e15:=RX.o.cells.2.2.2.2.2.2;have e14:=RX.o.cells.2.2.2.2.2.1;have e15a:=AN e15;obtain⟨j0,hj,hy0,hy1,hy2⟩:=nw jQ;have TX1:Hid ((X.alloc (.cells #[.int .i64 1] 3)).ownsRow C.B 3 1 (.slice ta n tc) s.times.length (s.times.map Ly)):=lK (TX.o.alloc _);have NW:Hid (∀j u,[Value.int .i64 1][j]? =some u->(X.alloc (.cells #[.int .i64 1] 3)).cell? ((⟨X.heap.size,0,none⟩:Addr).add j)=some u):=lK (World.news_of_block (t:=3) (fr:=(0,0)) (cs:= #[.int .i64 1]) (lT X _));have tu:Hid (∀u∈ [Value.int .i64 1],u.oneCell'=true):=lK (by simp[Value.oneCell']);have MX:Hid (s.times.length+1<=maxLen):=lK (by have:=uO.o;unfold maxLen;omega);have BY:Hid ((s.times.length+1)*8<=140737488355328):=lK (by have:=uO.o;omega);have BS:Hid (C.B<=(X.alloc (.cells #[.int .i64 1] 3)).heap.size):=lK (by have h1:=HI.o.sz;have h2:=KX.o.size;simp;omega);have zi:Hid (C.R<X.heap.size):=lK (lR qE KX.o.size);have NE:Hid (some C.R≠(Value.slice ta n tc).ownBlock):=lK (fun e=>(HI.o.NK hC).2 _ e.symm rfl);have FX:=lK (fun i=>Lib.frozen_of_heap ((Lib.alloc_old X (.cells #[.int .i64 1] 3) _ zi.o).trans RX.o.h) i);have CX14:=lK (AN e14 (.cells #[.int .i64 1] 3));have CX15:=lK (AN e15 (.cells #[.int .i64 1] 3));have LR:Hid (C.R<(X.alloc (.cells #[.int .i64 1] 3)).heap.size):=lK (by have:=zi.o;simp;omega);clear e14
    go_upto_region 12 with(at_builtin;refine wpList_append_lies _ rfl _ _ 44 rfl C.B 3 j0 _ 1 8 underlying44 hj hy0 hy1 hy2 rfl (by decide) _ _ _ rfl TX1.o ⟨X.heap.size,0,none⟩ 1 1 [.int .i64 1] rfl rfl NW.o tu.o (by decide) MX.o BY.o BS.o _ rfl ?_;intro g2 qQ w2 tD hgrow2 hat2 hlt2;have e15:=hgrow2.cell CX15.o NE.o;have e14:=hgrow2.cell CX14.o NE.o;have f15:=(hgrow2.frozen_far ⟨C.R,15,none⟩ LR.o NE.o).trans (FX.o 15);have f14:=(hgrow2.frozen_far ⟨C.R,14,none⟩ LR.o NE.o).trans (FX.o 14))
    have uK:(X.alloc (.cells #[.int .i64 1] 3)).grownBy w2 (Value.slice ta n tc).ownBlock:=hgrow2;have ha3:(Value.slice ta n tc).ownBlock=some g2\/g2=(X.alloc (.cells #[.int .i64 1] 3)).heap.size:=hat2;clear hgrow2 hat2 e14 e15 f14 f15 e15a;have SX:(X.alloc (.cells #[.int .i64 1] 3)).heap.size=X.heap.size+1:=by simp
    have hX0:=KX.o.size;have hg2R:g2≠C.R:=by have:=(tD.lt g2 rfl).1;have:=hC.rb;omega
    have K2:Kept (X0 C (.slice na n nc) (.slice ta n tc)) w w2:=(KX.o.alloc (.cells #[.int .i64 1] 3)).trans (Y:=fun b=>(Value.slice ta n tc).ownBlock=some b) ⟨uK.os,uK.tape,uK.output,uK.size,fun b hb hn=>uK.block b hb (fun e=>hn e.symm)⟩ (fun b _ hb=> .inr (.inr hb));generalize hZ:(w2.setCell _ _).setCell _ _=Z;have KZ:Kept (X0 C (.slice na n nc) (.slice ta n tc)) w Z:=by rw[<-hZ];exact(K2.set (.inl (.inl rfl)) _).set (.inl (.inl rfl)) _
    have RZ:N4 Z C.R C.L C.ts.length C.cap s.k C.o C.qt (.slice (some ⟨g,0,none⟩) (s.names.length+1) cap) (.slice none 0 0) (s.vars+1) (.slice (some ⟨g2,0,none⟩) (s.times.length+1) qQ):=by
     rw[<-hZ];exact⟨Eh (Eh ((uK.block _ LR.o NE.o).trans ((Lib.alloc_old X _ _ zi.o).trans RX.o.h)) 15 _) 14 _⟩
    have NZ:Z.ownsRow C.B 47 2 (.slice (some ⟨g,0,none⟩) (s.names.length+1) cap) (s.names++ [(nm,s.vars)]).length ((s.names++ [(nm,s.vars)]).flatMap QN):=by
     rw[<-hZ];refine AS NX.o (fun b hb=> ?_);obtain rfl:g=b:=by simpa[Value.ownBlock]using hb
     have hlg:=(NX.o.lt g rfl).2;exact(AA _ _ _ hgR).trans ((AA _ _ _ hgR).trans ((uK.block g (by rw[SX];omega) (fun e=>AX.o g e.symm rfl)).trans (Lib.alloc_old X _ _ hlg)))
    have TZ:Z.ownsRow C.B 3 1 (.slice (some ⟨g2,0,none⟩) (s.times.length+1) qQ) (s.times++ [1]).length ((s.times++ [1]).map Ly):=by
     rw[<-hZ,l6,oC];refine AS tD (fun b hb=> ?_);obtain rfl:g2=b:=by simpa[Value.ownBlock]using hb
     exact(AA _ _ _ hg2R).trans (AA _ _ _ hg2R)
    have H4Z:Z.heap[w.heap.size]? =some (.cells zV 31):=by
     rw[<-hZ];have qP:w.heap.size≠C.R:=Nat.ne_of_gt qE;have wY:w.heap.size<X.heap.size:=(lN.1 H4X.o).1;exact(AA _ _ _ qP).trans ((AA _ _ _ qP).trans ((uK.block _ (by rw[SX];omega) (fun e=>by have:=(HI.o.Ji.lt _ e.symm).2;omega)).trans ((Lib.alloc_old X _ _ wY).trans H4X.o)))
    have AZ:g≠g2:=fun e=>by
     rcases ha3 with h1|h1
     ·exact AX.o g2 h1 e.symm
     ·have:=(NX.o.lt g rfl).2;omega
    have BZ:(Value.slice ta n tc).ownBlock=some g2\/w.heap.size<g2:=by
     rcases ha3 with h1|h1
     ·exact .inl h1
     ·exact .inr (by omega)
    have c14:=RZ.cells.2.2.2.2.2.1;have KZ:=lK KZ;have RZ:=lK RZ;have NZ:=lK NZ;have TZ:=lK TZ;have H4Z:=lK H4Z;have AZ:=lK AZ;have BZ:=lK BZ;clear hZ tD uK ha3 K2 SX hX0 hg2R hgR
    go_wp2_with (refine F8 rfl _ _ rfl w.heap.size (BI s.vars) rfl rfl _ H4Z.o rfl rfl (LZ _) ?_)
    have KF:=KZ.o.iQ (lM w.heap.size) (BI s.vars);have rD:Bd C.ts {s with names:=s.names++ [(nm,s.vars)],times:=s.times++ [1],vars:=s.vars+1} :=by
     have h1:=HI.o.bd.var hvk HHT.o nm;rw[Oo HNE.o uH.o]at h1;exact h1.1
    rw[Oo HNE.o uH.o];have yg:C.R≠w.heap.size:=nM qE;have uX:g≠w.heap.size:=by
     rcases GX.o with h1|h1
     ·have:=(HI.o.Jm.lt g h1).2;omega
     ·omega
    have uF:g2≠w.heap.size:=by
     rcases BZ.o with h1|h1
     ·have:=(HI.o.Ji.lt g2 h1).2;omega
     ·omega
    refine lS (v:=ZP s.vars) ?_ rfl ⟨s.vars,.slice (some ⟨g,0,none⟩) (s.names.length+1) cap,.slice (some ⟨g2,0,none⟩) (s.times.length+1) qQ,rfl,rfl,⟨HI.o.NJ hC KF ⟨(mH _ _ _ _ yg).trans RZ.o.h⟩ (AS NZ.o fun b hb=>mH _ _ _ _ (by simp only[Value.ownBlock,mD]at hb;omega)) (AS TZ.o fun b hb=>mH _ _ _ _ (by simp only[Value.ownBlock,mD]at hb;omega)) (fun b hb hc=>AZ.o (by simp only[Value.ownBlock,mD]at hb hc;omega)) rD,⟨KF,fun b hb=> ?_,fun b hb=> ?_⟩⟩⟩
    ·exact results_cell_row rfl _ _ w.heap.size 31 (BI s.vars) (0,0) _ rfl (mF _ _ _ _ _ _ H4Z.o) mE rfl Cg
    ·obtain rfl:g=b:=by simpa[Value.ownBlock]using hb
     exact GX.o.imp id mW
    ·obtain rfl:g2=b:=by simpa[Value.ownBlock]using hb
     exact BZ.o.imp id mW
theorem Uo {C:Cx}(hC:C.Ok){w:World} {s:RS} {nv tv:Value}(h:A0 C w s nv tv) (hvk:s.vars<s.k) (ht:∀x∈s.times,x<s.k) (nm:Bs) (hl:nm.length<=1000000000):
  Calls prog 65 #[.pointer (some ⟨C.R,0,none⟩),.string (bs nm)] w (QM C w nv tv (EV s nm)):=by
 by_cases hn:nm= [95]
 ·subst hn;have h1:EV s [95]=(.var s.vars,{s with vars:=s.vars+1}):=by unfold EV;rw[lQ rfl]
  rw[h1];exact XR hC h hvk
 ·exact UR hC h hvk ht nm hl hn
def numBits (t:Tk) (m:Bool):Nat:=if m&&decide (t.bits≠0)then t.bits|||9223372036854775808 else t.bits
def L5 (t:Tk) (m:Bool):Bs:=if m&&decide (t.nu≠ [48])then 45::t.nu else t.nu
def Zu (b:Nat):Array Value:= #[.int .i64 4,.string ⟨#[]⟩,.string ⟨#[]⟩,.int .u64 b,.int .i64 0,.slice none 0 0]
def Hm (s:Bs):Array Value:= #[.int .i64 3,.string ⟨#[]⟩,.string (bs s),.int .u64 0,.int .i64 0,.slice none 0 0]
def Df (t:Tk) (m:Bool):Array Value:=if t.kind=5 then Zu (numBits t m)else Hm (L5 t m)
theorem JD (w:World) (S:Nat->Prop) (t:Tk) (m:Bool):AT w S (Df t m).toList (Cj t m):=by
 unfold Df Cj;split
 ·exact .Hs _
 ·exact .int _
theorem VJ (s:Bs):(Hm s).all (·.oneCell')=true:=by simp[Hm,Value.oneCell']
theorem LH (t:Tk) (m:Bool) (w:World) (hl:t.nu.length<=1000000000) (hb:t.bits<18446744073709551616):
  Calls prog 64 #[Fk t,.bool m] w fun e w'=>e= .returned (.agg (Df t m))/\Below w.heap.size w w':=by
 obtain⟨k,tx,nu,bits,a,en,ly⟩:=t;have hl:nu.length<=1000000000:=hl;have hb:bits<18446744073709551616:=hb;have hbi:(bits:Int)<18446744073709551616:=by omega
 unfold Fk YU;dsimp only;by_cases hk:k=5
 ·have ck:((k:Int)==5)=true:=by rw[nH];omega
  have e1:Df ⟨k,tx,nu,bits,a,en,ly⟩ m=Zu (numBits ⟨k,tx,nu,bits,a,en,ly⟩ m):=by unfold Df;exact lQ hk
  rw[e1];clear hk e1;by_cases hm:m=true/\bits≠0
  ·obtain⟨rfl,h0⟩:=hm;have cb:((bits:Int) !=0)=true:=by rw[pA];omega
   have e2:numBits ⟨k,tx,nu,bits,a,en,ly⟩ true=bits|||9223372036854775808:=by unfold numBits;rw[lQ (by simpa using h0)]
   rw[e2];clear e2 h0;have hor:Go.bits BinOp.or IntKind.u64 (bits:Int) 9223372036854775808=((bits|||9223372036854775808:Nat):Int):=u64_or_nat bits 9223372036854775808 hb (by decide);go_enter func64,ntmps64;go_wp2;refine lS (v:= .agg (Zu (bits|||9223372036854775808))) ?_ rfl ⟨rfl,(Bzz _).alloc (by simp) _⟩;simp only[results,results64];go_simp
   try rfl
  ·have e2:numBits ⟨k,tx,nu,bits,a,en,ly⟩ m=bits:=by unfold numBits;rw[lL (by simpa using hm)]
   rw[e2];clear e2;have key:m=false\/(m=true/\((bits:Int) !=0)=false):=by
    cases m with
    |false=>exact .inl rfl
    |true=>exact .inr ⟨rfl,by rw[n9];have:¬bits≠0:=fun h=>hm ⟨rfl,h⟩;omega⟩
   clear hm;rcases key with rfl|⟨rfl,cb⟩
   all_goals
    go_enter func64,ntmps64;go_wp2;refine lS (v:= .agg (Zu bits)) ?_ rfl ⟨rfl,(Bzz _).alloc (by simp) _⟩;simp only[results,results64];go_simp
    try rfl
 ·have ck:((k:Int)==5)=false:=by rw[lY];omega
  have e1:Df ⟨k,tx,nu,bits,a,en,ly⟩ m=Hm (L5 ⟨k,tx,nu,bits,a,en,ly⟩ m):=by unfold Df;exact lL hk
  rw[e1];clear hk e1;have hz:¬(9223372036854775807:Nat)<1+(bs nu).size:=by have:(bs nu).size=nu.length:=rfl;omega
  by_cases hm:m=true/\nu≠ [48]
  ·obtain⟨rfl,h0⟩:=hm;have cb:((bs nu).toList== [48])=false:=by
    have h1:((bs nu).toList==(⟨#[48]⟩:ByteArray).toList)=false:=by
     rw[<-oz,Du,mN];exact fun e=>h0 (Fv.1 e)
    have h2:(⟨#[48]⟩:ByteArray).toList= [48]:=by first|rfl|decide|simp
    rwa [h2]at h1
   have e2:L5 ⟨k,tx,nu,bits,a,en,ly⟩ true=45::nu:=by unfold L5;rw[lQ (by simpa using h0)]
   rw[e2];clear e2 h0;go_enter func64,ntmps64;go_wp2;refine lS (v:= .agg (Hm (45::nu))) ?_ rfl ⟨rfl,(Bzz _).alloc (by simp) _⟩;simp only[results,results64];go_simp
   try rfl
  ·have e2:L5 ⟨k,tx,nu,bits,a,en,ly⟩ m=nu:=by unfold L5;rw[lL (by simpa using hm)]
   rw[e2];clear e2;have key:m=false\/(m=true/\((bs nu).toList== [48])=true):=by
    cases m with
    |false=>exact .inl rfl
    |true=>
     refine .inr ⟨rfl,?_⟩;have h3:nu= [48]:=Decidable.byContradiction fun h=>hm ⟨rfl,h⟩;subst h3
     first|rfl|decide|simp[bs]
   clear hm;rcases key with rfl|⟨rfl,cb⟩
   all_goals
    go_enter func64,ntmps64;go_wp2;refine lS (v:= .agg (Hm nu)) ?_ rfl ⟨rfl,(Bzz _).alloc (by simp) _⟩;simp only[results,results64];go_simp
    try rfl
end Go.Proofs
theorem Go.Shut.o{p:Prop}(h:Go.Shut p):p:=h
namespace Go.Proofs
open Go.RowKit Go.Hb Go.Pz
theorem kt {α:Type _} {xs:List α} {i:Nat}(h:i<xs.toArray.size):xs.toArray[i]=xs[i]'(by simpa using h):=List.getElem_toArray h
theorem ky {α:Type _}(a:α) (l:List α) (i:Nat) (h:i+1<(a::l).length):(a::l)[i+1]=l[i]'(Nat.lt_of_succ_lt_succ h):=List.getElem_cons_succ ..
theorem kx {α:Type _}(a:α) (l:List α) (h:0<(a::l).length):(a::l)[0]=a:=List.getElem_cons_zero ..
theorem ks {α:Type _}(l:List α) (i:Nat) (a:α):l.toArray.setIfInBounds i a=(l.set i a).toArray:=List.setIfInBounds_toArray ..
theorem lI {α:Type _} {x a:α} {l:List α} :(x::l).set 0 a=a::l:=List.set_cons_zero ..
theorem lD {α:Type _} {x a:α} {l:List α} {i:Nat} :(x::l).set (i+1) a=x::l.set i a:=List.set_cons_succ ..
theorem uu {α:Type _} :(∀{xs:List α} {i:Nat}(h:i<xs.toArray.size),xs.toArray[i]=xs[i]'(by simpa using h))/\(∀(a:α) (l:List α) (i:Nat) (h:i+1<(a::l).length),(a::l)[i+1]=l[i]'(Nat.lt_of_succ_lt_succ h))/\(∀(a:α) (l:List α) (h:0<(a::l).length),(a::l)[0]=a)/\(∀(l:List α) (i:Nat) (a:α),l.toArray.setIfInBounds i a=(l.set i a).toArray)/\(∀{x a:α} {l:List α},(x::l).set 0 a=a::l)/\(∀{x a:α} {l:List α} {i:Nat},(x::l).set (i+1) a=x::l.set i a):=⟨kt,ky,kx,ks,lI,lD⟩
section
variable {P:Program} {ops:Array Oper} {Q:Exit->Act->World->Prop} {md:Region.Mode} {S:World->Prop} {fuel:Nat} {listed:Array Bool} {a:Act} {w:World} {oi:Oper}
theorem DQ (i:Nat) (v:Value) (hi:ops[i]? =some oi) (hS:S w) (hy:∀W,S W->(execOp a.eval oi).run P W= .ok (.value v) W) (h:wpAnyH P md ops Q S fuel (listed.setIfInBounds i true) (a.put oi.dst v) w)
  (hw:Region.wanted oi (yielded ops a.tmps)=true:=by rfl) (h1:Region.noSelect ops=true:=by kernel_rfl) (h2:Region.free md ops listed i=true:=by kernel_rfl) (h3:(Region.ready md ops listed).contains i=true:=by kernel_rfl)
  (hQ:∀c a w,Q (.panic c) (a.put oi.dst v) w->Q (.panic c) a w:=by exact fun _ _ _ h=>h):wpAnyH P md ops Q S (fuel+1) listed a w:=
 wpAnyH_take hi h1 h2 h3 hQ (.inl ⟨hw,hy⟩) hS h
theorem tk (i:Nat) (v:Value) (hi:ops[i]? =some oi) (hS:S w) (h:wpAnyH P md ops Q S fuel (listed.setIfInBounds i true) (a.put oi.dst v) w)
  (hy:∀W,S W->(execOp a.eval oi).run P W= .ok (.value v) W:=by intro W hSW;go_simp)
  (hw:Region.wanted oi (yielded ops a.tmps)=true:=by rfl) (h1:Region.noSelect ops=true:=by kernel_rfl) (h2:Region.free md ops listed i=true:=by kernel_rfl) (h3:(Region.ready md ops listed).contains i=true:=by kernel_rfl)
  (hQ:∀c a w,Q (.panic c) (a.put oi.dst v) w->Q (.panic c) a w:=by exact fun _ _ _ h=>h):wpAnyH P md ops Q S (fuel+1) listed a w:=
 wpAnyH_take hi h1 h2 h3 hQ (.inl ⟨hw,hy⟩) hS h
theorem DD (r:Nat){o:Oper}(ho:ops[r]? =some o) (h:∀K':Act->World->Prop,Shut (∀a w,S w->(S w->wpAnyH P md ops Q S fuel (listed.setIfInBounds r true) a w)->K' a w)->if Region.wanted o (yielded ops a.tmps)=true then Oper.wp P o a w K' Q else K' (a.put o.dst undef) w)
  (hr:Region.ready md ops listed= [r]:=by kernel_rfl):wpAnyH P md ops Q S (fuel+1) listed a w:=
 wpAnyH_ready hr (by simp) (AllReadyH.cons ho h AllReadyH.nil)
end
theorem Tt {c:Array Value}(h:c.size=6):∃a0 a1 a2 a3 a4 a5,c= #[a0,a1,a2,a3,a4,a5]:=by
 obtain⟨l⟩:=c;have h:l.length=6:=by simpa using h
 match l,h with
 | [a0,a1,a2,a3,a4,a5],_=>exact⟨a0,a1,a2,a3,a4,a5,rfl⟩
theorem Yu {c:Array Value}(h:c.size=6) (w:World):(Instr.buildSlice 29 1 #[(0,.agg c)]).run prog w= .ok (.slice (some ⟨w.heap.size,0,none⟩) 1 1) (w.alloc (.cells c 31)):=by
 obtain⟨a0,a1,a2,a3,a4,a5,rfl⟩:=Tt h;kernel_rfl
theorem aw {c d:Array Value}(h:c.size=6) (k:d.size=6) (w:World):(Instr.buildSlice 29 2 #[(0,.agg c),(1,.agg d)]).run prog w= .ok (.slice (some ⟨w.heap.size,0,none⟩) 2 2) (w.alloc (.cells (c++d) 31)):=by
 obtain⟨a0,a1,a2,a3,a4,a5,rfl⟩:=Tt h;obtain⟨b0,b1,b2,b3,b4,b5,rfl⟩:=Tt k;kernel_rfl
section
variable {ops:Array Oper} {rest:List Oper} {o:Oper} {a:Act} {w:World} {Q:Exit->Act->World->Prop} {K:Act->World->Prop} {E:Prop}
theorem Qz (x:Operand) (ho:o.op= .buildSlice 29 1 #[(0,x)]) (c:Array Value) (hc:c.size=6) (hx:a.eval x= .agg c) (h:K (a.put o.dst (.slice (some ⟨w.heap.size,0,none⟩) 1 1)) (w.alloc (.cells c 31))):o.wp prog a w K Q:=by
 unfold Oper.wp;have hr:(execOp a.eval o).run prog w= .ok (.value (.slice (some ⟨w.heap.size,0,none⟩) 1 1)) (w.alloc (.cells c 31)):=by
  simp[execOp,ho,hx,Yu hc,Result.andThen]
 rw[hr];exact h
theorem QF (x y:Operand) (ho:o.op= .buildSlice 29 2 #[(0,x),(1,y)]) (c d:Array Value) (hc:c.size=6) (hd:d.size=6) (hx:a.eval x= .agg c) (hy:a.eval y= .agg d) (h:K (a.put o.dst (.slice (some ⟨w.heap.size,0,none⟩) 2 2)) (w.alloc (.cells (c++d) 31))):o.wp prog a w K Q:=by
 unfold Oper.wp;have hr:(execOp a.eval o).run prog w= .ok (.value (.slice (some ⟨w.heap.size,0,none⟩) 2 2)) (w.alloc (.cells (c++d) 31)):=by
  simp[execOp,ho,hx,hy,aw hc hd,Result.andThen]
 rw[hr];exact h
theorem Hn (hgd:o.guard=none) (x:Operand) (ho:o.op= .buildSlice 29 1 #[(0,x)]) (c:Array Value) (hc:c.size=6) (hx:a.eval x= .agg c) (h:wpList prog ops Q rest (a.put o.dst (.slice (some ⟨w.heap.size,0,none⟩) 1 1)) (w.alloc (.cells c 31))):wpList prog ops Q (o::rest) a w:=
 wpList_plain hgd fun _ hK=>Qz x ho c hc hx (hK _ _ h)
theorem Qk (hgd:o.guard=none) (x y:Operand) (ho:o.op= .buildSlice 29 2 #[(0,x),(1,y)]) (c d:Array Value) (hc:c.size=6) (hd:d.size=6) (hx:a.eval x= .agg c) (hy:a.eval y= .agg d) (h:wpList prog ops Q rest (a.put o.dst (.slice (some ⟨w.heap.size,0,none⟩) 2 2)) (w.alloc (.cells (c++d) 31))):wpList prog ops Q (o::rest) a w:=
 wpList_plain hgd fun _ hK=>QF x y ho c d hc hd hx hy (hK _ _ h)
theorem As {P:Program}(hgd:o.guard=none) (f:FuncId) (ags:List Operand) (ts:Array TypeId)
  (ho:o.op= .call {callee:= .value (.func f),args:=ags.toArray,argTypes:=ts}) (vs:Array Value) (hv:(ags.map a.eval).toArray=vs) (hcf:∀(vs:Array Value) (w:World),(callFunc f vs).run P w= .ok (.enter f vs) w)
  (h:Calls P f vs w fun e w'=>∃v,e= .returned v/\K (a.put o.dst v) w'):if Region.wanted o (yielded ops a.tmps)=true then Oper.wp P o a w K Q else E:=by
 have hw:Region.wanted o (yielded ops a.tmps)=true:=by simp[Region.wanted,hgd]
 rw[lQ hw];unfold Oper.wp;have hr:(execOp a.eval o).run P w= .ok (.enter f vs) w:=by
  simp[execOp,ho,resolve,invoke,<-hv,Act.eval,Deferred.ofValue,hcf,List.map_toArray]
 rw[hr,Oper.upon_enter];refine h.mono ?_;rintro e w' ⟨v,rfl,hk⟩;exact hk
theorem Aj (hgd:o.guard=none) (h:o.wp prog a w K Q):if Region.wanted o (yielded ops a.tmps)=true then Oper.wp prog o a w K Q else E:=by
 rw[lQ (by simp[Region.wanted,hgd])];exact h
theorem Qi (x:Operand) (ho:o.op= .load 31 x) (g:Nat) (c:Array Value) (hc:c.size=6) (hx:a.eval x= .pointer (some ⟨g,0,none⟩)) (hg:w.heap[g]? =some (.cells c 31 (0,0)))
  (h:K (a.put o.dst (.agg c)) w):o.wp prog a w K Q:=
 wp_load_row 31 x ho g hx 31 c (0,0) _ hg mE rfl (by rw[hc];exact Cg) h
theorem Ld (x y:Operand) (ho:o.op= .store 31 x y) (g:Nat) (c:Array Value) (hx:a.eval x= .pointer (some ⟨g,0,none⟩)) (hy:a.eval y= .agg c) (JR:Array Value) (hg:w.heap[g]? =some (.cells JR 31 (0,0))) (hold:JR.size=6) (hc:c.size=6) (h1:c.all (·.oneCell')=true)
  (h:K (a.put o.dst undef) (w.setRow g c)):o.wp prog a w K Q:=
 wp_store_row 31 x y ho g c hx hy 31 JR hg (by rw[hc];exact Cg) (by rw[hold,hc]) h1 h
theorem E3 (x y:Operand) (ho:o.op= .store 61 x y) (g:Nat) (nm:Bs) (p:DH) (hx:a.eval x= .pointer (some ⟨g,0,none⟩)) (hy:a.eval y=Dl nm p) (JR:Array Value) (hg:w.heap[g]? =some (.cells JR 61 (0,0))) (hold:JR.size=3)
  (h:K (a.put o.dst undef) (w.setRow g (Fa nm p))):o.wp prog a w K Q:=
 wp_store_row 61 x y ho g (Fa nm p) hx hy 61 JR hg Oh hold (Sc _ _) h
theorem M5 {S:World->Prop}(hgd:o.guard=none) (x:Operand) (ho:o.op= .load 31 x) (b off:Nat) (c:Array Value) (hc:c.size=6) (hx:a.eval x= .pointer (some ⟨b,off,none⟩)) (hS:∀w,S w->w.rangeAt b off c.toList):YieldsIf prog ops S o (.agg c) a:=by
 have h:=yieldsIf_load_mid (P:=prog) (ops:=ops) (S:=S) (op:=o) (a:=a) (by simp[Region.wanted,hgd]) 31 x ho b off hx c.toList _ hS mE rfl (by rw[nG,hc];exact Cg);simpa using h
theorem QO {S:World->Prop}(hgd:o.guard=none) (x:Operand) (ho:o.op= .load 31 x) (b:Nat) (c:Array Value) (hc:c.size=6) (hx:a.eval x= .pointer (some ⟨b,0,none⟩)) (hS:∀w,S w->w.heap[b]? =some (.cells c 31 (0,0))):YieldsIf prog ops S o (.agg c) a:=
 M5 hgd x ho b 0 c hc hx (fun w hw j v hv=>by rw[me,mT w b j c 31 (0,0) (hS w hw)];simpa using hv)
end
theorem KN (vs:Array Value) (w:World):(callFunc 42 vs).run prog w= .ok (.enter 42 vs) w:=by kernel_rfl
theorem J4 (vs:Array Value) (w:World):(callFunc 44 vs).run prog w= .ok (.enter 44 vs) w:=by kernel_rfl
theorem Rg (vs:Array Value) (w:World):(callFunc 95 vs).run prog w= .ok (.enter 95 vs) w:=by kernel_rfl
def GZ (w:World) (S:Nat->Prop) (v:Value) (l:List Tm):Prop:=((∃a c,v= .slice a 0 c)/\l= [])\/
 ∃b cap cs,v= .slice (some ⟨b,0,none⟩) l.length cap/\S b/\(∀j,j<cs.length->w.cell? ⟨b,j,none⟩=cs[j]?)/\BJ w S cs l/\0<l.length
def KQ (nm:ByteArray) (b n:Nat):Array Value:= #[.int .i64 5,.string nm,.string ⟨#[]⟩,.int .u64 0,.int .i64 0,.slice (some ⟨b,0,none⟩) n n]
theorem VM (nm:ByteArray) (b n:Nat):(KQ nm b n).all (·.oneCell')=true:=by simp[KQ,Value.oneCell']
theorem Oy {W:World} {b o:Nat} {cs:List Value}(h:W.rangeAt b o cs) (x:Obj):(W.alloc x).rangeAt b o cs:=fun j v hv=>AN (h j v hv) x
theorem Uu {W:World} {b o k:Nat} {cs:List Value}(h:W.rangeAt b o cs) (hk:b≠k) (ds:Array Value):(W.setRow k ds).rangeAt b o cs:=fun j v hv=>(cell_setRow_other W k ds ⟨b,o+j,none⟩ hk).trans (h j v hv)
theorem GZ.EW {w:World} {base:Nat} {v:Value} {n:Nat} {xs:List Value} {l:List Tm} {S:Nat->Prop}(h:w.ownsRow base 31 6 v n xs) (hn:n=l.length) (ht:BJ w S xs l) (hS:∀b,base<=b->b<w.heap.size->S b):GZ w S v l:=by
 rcases mh n with h0|h0
 ·subst h0;obtain⟨a,c,rfl⟩:=Ap h;exact .inl ⟨⟨a,c,rfl⟩,List.eq_nil_of_length_eq_zero hn.symm⟩
 ·obtain⟨g,cap,rfl,hb,qE⟩:=h.form h0;refine .inr ⟨g,cap,xs,by rw[hn],hS g hb qE,fun j hj=> ?_,ht,by omega⟩;exact h.cellAt j (by have:=ht.len;omega)
theorem AT.imp {w:World} {S S':Nat->Prop} {c:List Value} {t:Tm}(h:AT w S c t) (hi:∀b,S b->S' b):AT w S' c t:=h.Ak (fun _ _=>rfl) hi
theorem AT.Bq {w:World} {S:Nat->Prop} {c:Array Value} {t:Tm}(h:AT w S c.toList t):c.all (·.oneCell')=true:=by
 obtain⟨c⟩:=c;have h:AT w S c t:=h;cases h<;>simp[cQ,Value.oneCell']
theorem drop_cons {l:List Tm} {m:Nat} {t:Tm}(h:l[m]? =some t):l.drop m=t::l.drop (m+1):=by
 have hm:=(mC.1 h).1;rw[pB hm];congr 1;have:=(mC.1 h).2;exact this
theorem Qm (w:World) (S:Nat->Prop) (hS:∀b,S b->b<w.heap.size) (v:Value) (l:List Tm) (hv:GZ w S v l) (x:Tm) (c:Array Value) (hx:AT w S c.toList x) (hl:l.length<=100000000):
  Calls prog 70 #[v,.agg c] w fun e w'=>∃c',e= .returned (.agg c')/\AT w' (fun b=>S b\/(w.heap.size<=b/\b<w'.heap.size)) c'.toList (Cd l x)/\Below w.heap.size w w':=by
 have hc6:c.size=6:=by have:=hx.len;simpa using this
 obtain⟨a,n,cap,rfl,hn⟩:∃a n cap,v= .slice a n cap/\n=l.length:=by
  rcases hv with⟨⟨_,_,rfl⟩,rfl⟩|⟨b,cap,cs,rfl,_⟩
  ·exact⟨_,_,_,rfl,rfl⟩
  ·exact⟨_,_,_,rfl,rfl⟩
 have HV:=lK hv;have HX:=lK hx;have HN:=lK hn;have HS:=lK hS;have bn:n<=100000000:=by omega
 have bni:(n:Int)<=100000000:=by omega
 clear hv hx hn hS hl;go_enter func70,ntmps70;go_wp2;generalize hW:(w.alloc _).alloc _=W;have BW:Hid (Below w.heap.size w W):=lK (by rw[<-hW];exact(Bzz _).alloc (by simp) _);have H3W:Hid (W.heap[w.heap.size]? =some (.cells c 31)):=lK (by rw[<-hW];exact(Lib.alloc_old _ _ _ (by simp)).trans (lT w _));have H4W:Hid (W.heap[w.heap.size+1]? =some (.cells zV 31)):=lK (by
  rw[<-hW];have:=lT (w.alloc (.cells c 31)) (.cells zV 31);simpa using this)
 have szW:W.heap.size=w.heap.size+2:=by rw[<-hW];simp
 have yo:=lK hc6;clear hW hc6
 go_loopw [5] (fun i wr=>∃q:Nat,i= .int .i64 ((q:Int)-1)/\Hid (q<=n/\Below w.heap.size w wr/\wr.heap[w.heap.size+1]? =some (.cells zV 31)/\∃e:Array Value,e.size=6/\wr.heap[w.heap.size]? =some (.cells e 31)/\AT wr (fun b=>S b\/(w.heap.size+2<=b/\b<wr.heap.size)) e.toList (Cd (l.drop q) x)/\w.heap.size+2<=wr.heap.size)) (fun i _=>(intOf i+1).toNat)
 case atStart=>exact⟨n,rfl,lK ⟨lM _,BW.o,H4W.o,c,yo.o,H3W.o,by
  rw[HN.o,List.drop_length];exact(HX.o.Ak (fun b hb=>BW.o.block b (HS.o b hb)) (fun b hb=> .inl hb)),by omega⟩⟩
 case round=>
  obtain⟨q,rfl,hq⟩:=hrel;obtain⟨hqn,g1,g2,e,g3,g4,g5,rH⟩:=hq.o;have BR:=lK g1;have H4:=lK g2;have z1:=lK g3;have H3:=lK g4;have HT:=lK g5;have z2:=lK (AT.Bq g5);clear hq g1 g2 g3 g4 g5;cases q with
  |succ m=>
   have em:((m+1:Nat):Int)-1=m:=by omega
   rw[em];have hm:m<n:=by omega
   have hmi:(m:Int)<n:=by omega
   obtain⟨t,ht⟩:∃t,l[m]? =some t:=⟨_,lu (by have:=HN.o;omega)⟩;obtain⟨b,cs,rfl,uR,qy,tW⟩:∃b cs,a=some ⟨b,0,none⟩/\S b/\(∀j,j<cs.length->w.cell? ⟨b,j,none⟩=cs[j]?)/\BJ w S cs l:=by
    rcases HV.o with⟨h1,h2⟩|⟨b,cap,cs,h1,h2,h3,h4,_⟩
    ·rw[h2]at ht;cases ht
    ·simp only[mX]at h1;exact⟨b,cs,h1.1,h2,h3,h4⟩
   obtain⟨d0,sJ,uW⟩:=tW.at ht;obtain⟨c0,rfl⟩:∃c0:Array Value,d0=c0.toList:=⟨⟨d0⟩,rfl⟩;have z0:Hid (c0.size=6):=lK (by have:=sJ.len;simpa using this);have qq:=HS.o b uR;have vI:w.rangeAt b (m*6) c0.toList:=fun j v hv=>by
    have hj:j<6:=by
     have h1:=(mC.1 hv).1;have h2:=z0.o;rw[nG]at h1;omega
    have h1:=uW j hj;have h2:6*m+j<cs.length:=by
     rcases ls (6*m+j) cs.length with h|h
     ·exact h
     ·rw[mr h]at h1;rw[<-h1]at hv;cases hv
    rw[show m*6+j=6*m+j by omega,qy _ h2,h1,hv]
   have RG:Hid (wr.drew.rangeAt b (m*6) c0.toList):=lK (fun j v hv=>(BR.o.cell (p:=⟨b,m*6+j,none⟩) qq).trans (vI j v hv));have nb:Hid (w.heap.size≠b):=lK (by omega);have HD0:=lK sJ;have tR:=lK ht;have rK:(0:Int)<=m:=by omega
   have HE3:Hid ((wr.drew.alloc (.cells (c0++e) 31)).heap[w.heap.size]? =some (.cells e 31)):=lK ((Lib.alloc_old wr.drew _ _ (by show _<wr.heap.size;omega)).trans H3.o);clear ht uR qy tW uW vI sJ em
   go_upto_region 4 with fail
   refine wp_region_held_drew (S:=fun W=>W.rangeAt b (m*6) c0.toList) (by kernel_rfl) RG.o (fun hS=> ?_);refine tk 0 (.slice (some ⟨b,0,none⟩) n cap) rfl hS ?_;simp only[uu,Act.put];refine tk 1 (.int .i64 m) rfl hS ?_;simp only[uu,Act.put];refine tk 2 (.pointer (some ⟨b,m*6,none⟩)) rfl hS ?_;simp only[uu,Act.put];refine wpAnyH_take (i:=3) (oi:=_) (v:= .agg c0) rfl (by kernel_rfl) (by kernel_rfl) (by kernel_rfl) (fun _ _ _ h=>h) (M5 rfl _ rfl b (m*6) c0 z0.o rfl (fun _ h=>h)) hS ?_;simp only[uu,Act.put];refine DD 4 rfl (fun K hK=> ?_);refine Aj rfl (Qi _ rfl w.heap.size e z1.o rfl H3.o ?_);refine hK.o _ _ hS (fun hS=> ?_);simp only[uu,Act.put];refine DD 5 rfl (fun K hK=> ?_);refine Aj rfl (QF _ _ rfl c0 e z0.o z1.o rfl rfl ?_);refine hK.o _ _ (Oy hS _) (fun hS=> ?_);simp only[uu,Act.put];refine DQ 6 (.agg (KQ ⟨#[46]⟩ wr.heap.size 2)) rfl hS (fun W hSW=> ?_) ?_
   ·go_simp;rfl
   simp only[uu,Act.put];refine DD 7 rfl (fun K hK=> ?_);refine Aj rfl (Ld _ _ rfl w.heap.size (KQ ⟨#[46]⟩ wr.heap.size 2) rfl rfl e HE3.o z1.o rfl (VM _ _ _) ?_);refine hK.o _ _ (Uu hS (Ne.symm nb.o) _) (fun hS=> ?_);simp only[uu,Act.put];refine wpAnyH_done (by kernel_rfl) ?_ _;go_wp2;have XB:Below w.heap.size w (wr.alloc (.cells (c0++e) 31)).drew:=Ad (BR.o.alloc BR.o.size _);have XN:(wr.alloc (.cells (c0++e) 31)).drew.heap[wr.heap.size]? =some (.cells (c0++e) 31):=lT wr _;have XO:∀k,k<wr.heap.size->(wr.alloc (.cells (c0++e) 31)).drew.heap[k]? =wr.heap[k]? :=fun k hk=>Lib.alloc_old wr _ _ hk;have XS:(wr.alloc (.cells (c0++e) 31)).drew.heap.size=wr.heap.size+1:=by show(wr.alloc _).heap.size=_;simp
   generalize(wr.alloc (.cells (c0++e) 31)).drew=X at*;go_roundw
   case rel=>
    have hY:(X.setRow w.heap.size (KQ ⟨#[46]⟩ wr.heap.size 2)).heap.size=wr.heap.size+1:=(Al _ _ _).trans XS;have hold:∀k,k<wr.heap.size->k≠w.heap.size->(X.setRow w.heap.size (KQ ⟨#[46]⟩ wr.heap.size 2)).heap[k]? =wr.heap[k]? :=fun k h1 h2=>(mH _ _ _ _ h2).trans (XO k h1);have hnew:(X.setRow w.heap.size (KQ ⟨#[46]⟩ wr.heap.size 2)).heap[wr.heap.size]? =some (.cells (c0++e) 31):=(mH _ _ _ _ (by omega)).trans XN;have h3:(X.setRow w.heap.size (KQ ⟨#[46]⟩ wr.heap.size 2)).heap[w.heap.size]? =some (.cells (KQ ⟨#[46]⟩ wr.heap.size 2) 31):=mF _ _ _ _ _ _ ((XO _ (by omega)).trans H3.o);have hb:=Below.row XB (lM w.heap.size) (KQ ⟨#[46]⟩ wr.heap.size 2);generalize X.setRow w.heap.size (KQ ⟨#[46]⟩ wr.heap.size 2)=Y at*;refine⟨m,rfl,lK ⟨by omega,hb,(hold _ (by omega) (by omega)).trans H4.o,_,rfl,h3,?_,by omega⟩⟩;rw[drop_cons tR.o];show AT Y _ (cQ 5 [46] [] 0 0 (.slice (some ⟨wr.heap.size,0,none⟩) [t,Cd (l.drop (m+1)) x].length 2)) (.cmp [46] [t,Cd (l.drop (m+1)) x]);refine .cmp [46] [t,Cd (l.drop (m+1)) x] wr.heap.size 0 2 (c0.toList++e.toList) (.inr ⟨by omega,by omega⟩) (fun j hj=> ?_) (.cons _ _ _ _ ?_ (BJ.one ?_))
    ·rw[me,mT Y wr.heap.size j _ _ _ hnew,<-Array.toList_append,mV]
    ·exact HD0.o.Ak (fun b hb=>(hold b (by have:=HS.o b hb;omega) (by have:=HS.o b hb;omega)).trans (BR.o.block b (HS.o b hb))) (fun b hb=> .inl hb)
    ·exact HT.o.Ak (fun b hb=>hold b (hb.elim (fun h=>lR (HS.o b h) (by omega)) (fun h=>h.2)) (hb.elim (fun h=>nM (HS.o b h)) (fun h=>by omega))) (fun b hb=>hb.elim .inl (fun h=> .inr ⟨h.1,by omega⟩))
   case measure=>simp[intOf]<;>omega
  |zero=>
   have e0:(((0:Nat):Int)-1)= -1:=rfl;rw[e0]
   go_wp2_with (first|(refine KK rfl _ rfl w.heap.size e z1.o rfl H3.o ?_)|(refine F8 rfl _ _ rfl (w.heap.size+1) e rfl rfl _ H4.o rfl z1.o z2.o ?_))
   refine lS (v:= .agg e) ?_ rfl ⟨e,rfl,?_,Below.row BR.o (by omega) e⟩
   ·exact results_cell_row rfl _ _ (w.heap.size+1) 31 e (0,0) _ rfl (mF _ _ _ _ _ _ H4.o) mE rfl (by rw[z1.o];exact Cg)
   ·have h0:=HT.o;rw[nI]at h0;exact h0.Ak (fun b hb=>mH _ _ _ _ (hb.elim (fun h=>nM (Nat.lt_succ_of_lt (HS.o b h))) (fun h=>by omega))) (fun b hb=>hb.elim .inl (fun h=> .inr ⟨by omega,by rw[Al];exact h.2⟩))
end Go.Proofs
