import Derived.Test.YtpocgkiamgipdaaGreatDoorSdC
set_option maxRecDepth 1000000
set_option maxHeartbeats 0
set_option linter.unusedVariables false
set_option linter.unusedSimpArgs false
open Go.Proofs.Tryz
namespace Go.Proofs
open Go.RowKit Go.Bg Go.Pf Go.Rb Go.Hb Go.Lx Go.Pz
theorem fw (v:Value) (x m r:Nat) (w:World) (hm:m<=1000000) (hr:2<=r) (rL:r<=36) (hv:Hid (Dr w v x m)) (hT:T2 x m) (hnz:x≠0):
  Calls prog 104 #[.agg #[.bool true,v],.int .i64 r] w (QY r x w):=by
 obtain⟨a,c,rfl⟩:=hv.o.slice;obtain⟨i0,hi,qX,qg,qe⟩:=nw Nd;have HT:=lK hT;clear hT;go_enter func104,ntmps104;by_cases h0:m=0
 ·exact absurd (HT.o.Ao.1 h0) hnz
 ·have h0':((m:Int)==0)=false:=by rw[nD];intro h;have:=eq_of_beq h;omega
  have tE:x≠0:=fun h=>h0 (HT.o.Ao.2 h)
  go_wp2_with fail
  generalize hW:w.alloc _=W1;have bl:Below w.heap.size w W1:=by subst hW;exact Bzz _
  have c0:W1.cell? ⟨w.heap.size,0,none⟩=some (.bool true):=by subst hW;go_simp
  have c1:W1.cell? ⟨w.heap.size,1,none⟩=some (.slice a m c):=by subst hW;go_simp
  have tg:w.heap.size<W1.heap.size:=by subst hW;simp
  have sj:=lK (hv.o.below bl);clear hW;have T0:TT r x W1.heap.size W1 x m [] (.slice a m c) (.slice none 0 0) W1:=⟨HT.o,by simp,sj.o,mq _ _ _ _,Below.refl _ _,lM _⟩;have HX:=lK tE;have sH:=lK bl;clear h0 tE bl
  go_loopw [5,6] (fun out l wr=>∃(X k:Nat) (ds:List Nat),k<=m/\TT r x W1.heap.size W1 X k ds l out wr/\ds.length+k<=m) (fun _ l _=>match l with| .slice _ n _=>n|_=>0)
  case atStart=>exact⟨x,m,[],lM _,T0,by simp⟩
  case round=>
   obtain⟨X,k,ds,hk,hq,ur⟩:=hrel;obtain⟨oa,oc,ho⟩:=Bz hq.own;subst ho;obtain⟨la,lc,hl⟩:=hq.bits.slice;subst hl;rcases mh k with hkz|hkp
   ·subst hkz;have hX:X=0:=hq.tight.Ao.1 rfl;subst hX;have vw:FF r x=ds:=by have:=hq.Ca;rwa [Dm,nj]at this
    have E0:wr.cell? ⟨w.heap.size,0,none⟩=some (.bool true):=(hq.Ac.cell (p:=⟨w.heap.size,0,none⟩) tg).trans c0;have hdl:ds.length<=1000000:=by omega
    have hle:=hq.le
    go_wp2_with (at_builtin;refine oA _ rfl _ _ 143 rfl W1.heap.size 5 i0 (.int .u8 0) 1 1 my hi qX qg qe rfl (by decide) _ _ _ rfl (hq.own.alloc _) ⟨wr.heap.size,0,none⟩ 1 1 [.int .u8 45] rfl rfl ?c1 ?c2 ?c3 ?c4 ?c5 ?_)
    case c1=>
     intro j u hj
     match j,hj with
     |0,hj=>simp at hj;subst hj;simp[Addr.add]
    case c2=>intro u hu;simp at hu;subst hu;rfl
    case c3=>unfold maxLen;omega
    case c4=>omega
    case c5=>simp;omega
    intro v' w2 hown' qC _;obtain⟨va,vc,vg⟩:=Bz hown';subst vg;have yD:Below W1.heap.size W1 w2:=((hq.Ac.alloc (by omega) _).grown qC (by simp;omega) (fun b hb=>by have:=(hq.own.lt b hb).1;omega));obtain⟨d2,qR⟩:∃d2,d2=ds++ [214]:=⟨_,rfl⟩;have hd2l:d2.length=ds.length+1:=by rw[qR,l6];rfl
    have tD:w2.ownsRow W1.heap.size 5 1 (.slice va d2.length vc) d2.length (Lib.byteCells (d2.map Fc)):=by
     have e:Lib.byteCells (d2.map Fc)=Lib.byteCells (ds.map Fc)++ [.int .u8 45]:=by rw[qR,oC];simp[Lib.byteCells];decide
     rw[hd2l,e];exact hown'
    obtain⟨L,hL⟩:∃L,L=d2.map Fc:=⟨_,rfl⟩;have wR:L.length=ds.length+1:=by rw[hL,nN,hd2l]
    have qT:0<L.length:=by omega
    have hL32:L.length<=1000001:=by omega
    rw[<-hd2l];obtain⟨h,rfl,hgh,qK⟩:=KG tD hL qT;rw[hd2l,<-wR];have NL:Hid (45::Ar r x=L.reverse):=lK (by unfold Ar;rw[lL HX.o,vw,hL,qR,oC,List.reverse_append];rfl);have ys:=lK (sH.o.trans (yD.mono (by omega)));have hrl:=qK.lt;have HR:=lK qK;have HPOS:Hid (0<L.length-0):=lK (by omega);clear vw hL wR hq qK T0 hv HT qT hown' tD qC qR hd2l yD hdl ur E0;go_wp2;obtain⟨wo,rfl⟩:∃wo:World,wo=w2:=⟨_,rfl⟩
    go_loopw [10,11] (fun tv iv ww=>∃(q:Nat),q<=L.length/\iv= .int .i64 ((q:Int)-1)/\ww.ownsRow wo.heap.size 5 1 tv (L.length-q) (Lib.byteCells (L.reverse.take (L.length-q)))/\Below wo.heap.size wo ww/\wo.heap.size<=ww.heap.size) (fun _ iv _=>(intOf iv+1).toNat)
    case atStart=>exact⟨L.length,lM _,by go_num,by rw[oj];exact mq _ _ _ _,Below.refl _ _,lM _⟩
    case round=>
     obtain⟨q,hqL,rfl,qD,qq,rH⟩:=hrel;obtain⟨ta,tc,htv⟩:=Bz qD;subst htv;cases q with
     |zero=>
      obtain⟨t,ht,sX⟩:=Ol qD HPOS.o;rw[nO (by rw[pP];omega)]at ht;have tM:=lK (ys.o.trans (qq.mono (by have:=ys.o.size;omega)));rw[Nat.sub_zero]at sX;clear qD qq;go_wp2;go_ret;exact⟨t,rfl,by rw[ht,NL.o],tM.o⟩
     |succ q=>
      have tO:((q+1:Nat):Int)-1=(q:Int):=by omega
      rw[tO];have q0:decide ((0:Int)<=(q:Int))=true:=lU (by omega);have hqi:(q:Int)<(L.length:Int):=by omega
      obtain⟨ch,zP⟩:∃ch:Nat,ch=(L.getD q 0).toNat:=⟨_,rfl⟩;have qW:wr.cell? ⟨h,q,none⟩=some (.int .u8 ch):=by rw[zP];exact(qq.cell (p:=⟨h,q,none⟩) hrl).trans (HR.o.cell (by omega))
      have HN:Hid (Lib.byteCells (L.reverse.take (L.length-q))=Lib.byteCells (L.reverse.take (L.length-(q+1)))++ [.int .u8 (ch:Nat)]):=lK (by
       have e:L.length-q=L.length-(q+1)+1:=by omega
       have e2:L.length-1-(L.length-(q+1))=q:=by omega
       rw[e,List.take_succ_eq_append_getElem (by rw[pP];omega)];unfold Lib.byteCells;rw[oC,List.map_singleton,List.getElem_reverse,zP];simp only[e2,lZ,lu (show q<L.length by omega),Option.getD_some])
      have HQ:=lK (show L.length-q=L.length-(q+1)+1 by omega);clear zP
      go_wp2_with (at_builtin;refine oA _ rfl _ _ 143 rfl wo.heap.size 5 i0 (.int .u8 0) 1 1 my hi qX qg qe rfl (by decide) _ _ _ rfl (qD.alloc _) ⟨wr.heap.size,0,none⟩ 1 1 [.int .u8 (ch:Nat)] rfl rfl ?c1 ?c2 ?c3 ?c4 ?c5 ?_)
      case c1=>
       intro j u hj
       match j,hj with
       |0,hj=>simp at hj;subst hj;simp[Addr.add]
      case c2=>intro u hu;simp at hu;subst hu;rfl
      case c3=>unfold maxLen;omega
      case c4=>omega
      case c5=>simp;omega
      intro v' w2 hown' qC _;rw[<-HN.o,<-HQ.o]at hown';have qM:=lK ((qq.alloc rH (.cells #[.int .u8 (ch:Nat)] 5)).grown qC (by simp;omega) (fun b hb=>by have:=(qD.lt b hb).1;omega));have HO:=lK hown';have yP:=qC.size;have HS:Hid (wo.heap.size<=w2.heap.size):=lK (by simp at yP;omega);clear qD qq hown' qC yP;go_wp2;go_roundw
      case rel=>exact⟨q,by omega,by go_num,HO.o,qM.o,HS.o⟩
      case measure=>simp[intOf]
   ·have hX0:X≠0:=fun h=>by have:=hq.tight.Ao.2 h;omega
    obtain⟨M,hM,hM0,hmk⟩:=S9 k (by omega);have I0:TI r X k wr.heap.size wr k 0 (wr.alloc (.cells M 3)):=TI.start hq.tight.1 hM hM0;have HQ:=lK hq;have uC:=lK hX0;have HDK:=lK ur;clear hM hM0 hq hX0;obtain⟨wo,rfl⟩:∃wo:World,wo=wr:=⟨_,rfl⟩;go_wp2
    go_loopw [7,9] (fun rv iv ww=>∃(i R:Nat),rv= .int .i64 R/\iv= .int .i64 ((i:Int)-1)/\TI r X k wo.heap.size wo i R ww) (fun _ iv _=>(intOf iv+1).toNat)
    case atStart=>exact⟨k,0,rfl,by go_num,I0⟩
    case round=>
     obtain⟨i,R,rfl,rfl,qN⟩:=hrel;have HI:=lK qN;have ll:=qN.le;cases i with
     |zero=>
      have hn:R=X %r:=by rw[qN.rest];simp
      have vx:R<36:=by rw[hn];have:=mw X (show 0<r by omega);omega
      have hal:=Ic R vx;have hXr:X/r<2^k:=mG (pN _ _) HQ.o.tight.1;have vL:=lK (qN.done hXr (by omega));have HN:=lK hn;have sU:=lK (HQ.o.below qN.Ac);have qD:=sU.o.own;have hwsz:=sU.o.le;clear hn hXr qN
      go_wp2_with (go_at_call 127;(with_reducible refine(UF _ (X/r) k _ vL.o).mono ?_))
      rintro e w' ⟨k2,ht,rfl,rfl⟩;have sW:=ht.half (h:=HQ.o.tight) uC.o (Nat.div_le_div_left hr (by decide));have HCUT:=lK (vL.o.cut (by omega) ht.1);have vR:=lK sW;have hdl:ds.length<=1000000:=by omega
      clear sW
      go_wp2_with (at_builtin;refine oA _ rfl _ _ 143 rfl W1.heap.size 5 i0 (.int .u8 0) 1 1 my hi qX qg qe rfl (by decide) _ _ _ rfl (qD.alloc _) ⟨wr.heap.size,0,none⟩ 1 1 [.int .u8 ((Fc R).toNat:Nat)] rfl rfl ?c1 ?c2 ?c3 ?c4 ?c5 ?_)
      case c1=>
       intro j u hj
       match j,hj with
       |0,hj=>simp at hj;subst hj;simp[Addr.add]
      case c2=>intro u hu;simp at hu;subst hu;rfl
      case c3=>unfold maxLen;omega
      case c4=>omega
      case c5=>simp;omega
      intro v' w2 hown' qC _;obtain⟨va,vc,vg⟩:=Bz hown';subst vg;have HTT:Hid (TT r x W1.heap.size W1 (X/r) k2 (ds++ [R]) (.slice (some ⟨wo.heap.size,0,none⟩) k2 k) (.slice va (ds.length+1) vc) w2):=lK (by
       have hgs:=qC.size;simp at hgs;have yU:some wo.heap.size≠(Value.slice oa ds.length oc).ownBlock:=fun e=>by have:=(HQ.o.own.lt _ e.symm).2;omega
       have J5:=HI.o.row.lt;refine⟨ht,?_,HCUT.o.block ?_ (by omega),?_,?_,by omega⟩
       ·rw[HQ.o.Ca,DB hr uC.o,<-HN.o,pJ];rfl
       ·rw[qC.block wo.heap.size (by simp;omega) yU];exact Lib.alloc_old wr _ _ J5
       ·have e:Lib.byteCells ((ds++ [R]).map Fc)=Lib.byteCells (ds.map Fc)++ [.int .u8 ((Fc R).toNat:Nat)]:=by simp[Lib.byteCells]
        rw[e,l6,List.length_singleton];exact hown'
       ·exact(sU.o.Ac.alloc (by omega) _).grown qC (by simp;omega) (fun b hb=>by have:=(qD.lt b hb).1;omega))
      clear qD hown' qC;go_wp2;go_roundw
      case rel=>exact⟨X/r,k2,ds++ [R],by have:=vR.o;omega,HTT.o,by have:=vR.o;simp;have:=HDK.o;omega⟩
      case measure=>have:=vR.o;simp;omega
     |succ i=>
      obtain⟨g2,o2,hga,qW⟩:=(HQ.o.bits.below (w':=wr) qN.Ac).cellAt (j:=i) (by omega);subst hga;obtain⟨b,hb⟩:∃b,b=Bn X i:=⟨_,rfl⟩;obtain⟨R',xi⟩:∃R',R'=X/2^i %r:=⟨_,rfl⟩;obtain⟨n1,n2⟩:=Sy (X:=X) (r:=r) (i:=i) (by omega);have b2:=IY X i;have Rb:R<r:=by rw[qN.rest];exact mw _ (by omega)
      rw[<-qN.rest,<-hb]at n1 n2;rw[<-hb]at qW b2;rw[<-xi]at n1;have tO:((i+1:Nat):Int)-1=(i:Int):=by omega
      rw[tO];have q0:decide ((0:Int)<=(i:Int))=true:=lU (by omega);have ui:(i:Int)<(k:Int):=by omega
      obtain⟨t,ht⟩:∃t,t=2*R+b:=⟨_,rfl⟩;have e1:2*(R:Int)+(b:Int)=(t:Int):=by omega
      rw[<-ht]at n1 n2;have tb:(t:Int)<=72:=by omega
      have bb:(b:Int)<=1:=by omega
      have rb:(R:Int)<=36:=by omega
      by_cases hrt:r<=t
      ·have f1:R'=t-r:=by
        rw[<-n1,Nat.mod_eq_sub_mod hrt,mv (by omega)]
       have f2:Bn (X/r) i=1:=by
        rw[n2];exact pQ (by omega) (by omega)
       have e2:(t:Int)-(r:Int)=(R':Int):=by omega
       have HO:=lK (qN.one xi f2);have hold:=qN.row.cell (j:=i) (by omega);have hfz:=qN.row.frozen i;obtain⟨ov,wB⟩:∃ov:Value,ov=PR X r (i+1) i:=⟨_,rfl⟩;rw[<-wB]at hold;have g1:decide ((r:Int)<=(t:Int))=true:=lU (by omega);clear n1 n2 hb xi qN ht f1 f2 wB;go_wp2;go_roundw
       case rel=>exact⟨i,R',by go_num,by go_num,HO.o⟩
       case measure=>simp[intOf]
      ·have f1:R'=t:=by rw[<-n1,mv (by omega)]
       have f2:Bn (X/r) i=0:=by rw[n2];exact nJ (by omega)
       have HO:=lK (qN.next xi f2);have HF:=lK f1;have g1:decide (r<=t)=false:=lO hrt;clear n1 n2 hb xi qN ht f1 f2;go_wp2;go_roundw
       case rel=>exact⟨i,R',by rw[HF.o],by go_num,HO.o⟩
       case measure=>simp[intOf]
theorem UC {x:Nat}(hx:x<2^Go.Proofs.LE) (h0:x≠0) (w:World):Calls prog 76 #[.string (bs (45::Ar 10 x))] w fun e w'=>e= .returned (.bool true)/\Below w.heap.size w w':=by
 refine S7 _ true x w (fun W=> ?_) (fun W v m hm hv ht=> ?_)
 ·have hS:(bs (45::Ar 10 x)).extract 1 (bs (45::Ar 10 x)).size=bs (Ar 10 x):=by
   rw[Jj (ByteArray.extract _ _ _),oG];congr 1;show((45::Ar 10 x).drop 1).take _=Ar 10 x;rw[List.drop_one,List.tail_cons];exact nO (lM _)
  refine(au _ (bs (Ar 10 x)) 10 W hS (pg _) rfl (Ev x) (lg (KI hx) (by decide)) (by decide) (by decide) (Et x) (lK (by rw[GD];exact h0)) (lK (by rw[GD];exact hx))).mono ?_;intro e w' h;rw[GD]at h;obtain⟨sl,m,rfl,ht,hb,b⟩:=h;obtain⟨a,c,rfl⟩:=hb.slice;exact⟨a,m,c,rfl,ht,cT ht hx,hb,b⟩
 ·refine(fw v x m 10 W hm (by decide) (by decide) (lK hv) ht h0).mono ?_;rintro e w' ⟨t,rfl,h1,h2⟩;exact⟨by rw[Jj t,h1],h2⟩
theorem Px {s:Bs}(h:Canon s) (w:World):Calls prog 76 #[.string (bs s)] w fun e w'=>e= .returned (.bool true)/\Below w.heap.size w w':=by
 obtain⟨x,hx,rfl|⟨h0,rfl⟩⟩:=h
 ·exact Ud hx w
 ·exact UC hx h0 w
def Ks (t:Tm):Prop:=leaves Canon Rc t/\JH Sb (fun _=>true) (fun _=>true) t=0
theorem En {I:Bs->Prop} {F:Nat->Prop} {l:List Tm}(h:BM I F l):∀x∈l,leaves I F x:=by
 induction l with
 |nil=>intro x hx;cases hx
 |cons a l ih=>
  simp only[BM]at h;intro x hx;rcases oK.1 hx with rfl|hx
  ·exact h.1
  ·exact ih h.2 x hx
theorem Tv {vs is:Bs->Bool} {fs:Nat->Bool} {l:List Tm}(h:F0 vs is fs l=0):∀x∈l,JH vs is fs x=0:=by
 induction l with
 |nil=>intro x hx;cases hx
 |cons a l ih=>
  simp only[F0]at h;split at h
  ·rename_i h1;intro x hx;rcases oK.1 hx with rfl|hx
   ·exact h1
   ·exact ih h x hx
  ·rename_i h1;exact absurd h h1
theorem Iz {t:Tm}(h:Ks t):Av Sb (fun _=>true) (fun _=>true) t=0:=by
 have h1:=h.2;rw[I8]at h1;split at h1
 ·assumption
 ·rename_i h2;exact absurd h1 h2
theorem Mf (t:Tm) (h:Ks t):∀x∈AJ t,Ks x:=by
 intro x hx;have h1:=h.2;rw[I8,lQ (Iz h)]at h1;refine⟨?_,Tv h1 x hx⟩;cases t with
 |cmp s l=>
  have h2:=h.1;simp only[leaves]at h2;exact En h2 x hx
 |_=>cases hx
theorem Rq (t:Tm) (h:Ks t):(AJ t).length<=64:=MB (Iz h)
theorem MK {s:Bs}(h:¬(Sb s=false\/1000<s.length)):Sb s=true/\s.length<=1000:=by
 refine⟨?_,by omega⟩;cases e:Sb s with
 |true=>rfl
 |false=>exact absurd (.inl e) h
theorem fJ:Wp Ks (fun _=>True):=by
 intro t c S w hp _ hS h;obtain⟨c⟩:=c;have hn:=Iz hp;have hl:=hp.1;change AT w S c t at h;cases h with
 |var n=>exact YW n w
 |atom s=>
  simp only[Av]at hn;split at hn
  ·cases hn
  ·rename_i h1;have h2:=MK h1;exact WQ s w h2.1 h2.2
 |int s=>
  simp only[leaves]at hl;exact Yc s w (fun W _=>Px hl W)
 |Hs b=>
  simp only[leaves]at hl;exact aS b w (fun W _=>WU b W hl)
 |cmp s l b off cap cs hb hc h=>
  simp only[Av]at hn;split at hn
  ·cases hn
  ·rename_i h0;split at hn
   ·cases hn
   ·rename_i h1;have h2:=MK h1;exact Tryz.Nc s _ l.length cap w h2.1 h2.2 (by omega) (by omega)
theorem eR {t:Tm} {c:Array Value} {S:Nat->Prop} {w:World}(hg:ME t) (h0:F3 t=0) (hS:∀b,S b->b<w.heap.size) (h:AT w S c.toList t):
  Calls prog 8 #[.agg c] w fun e w'=>e= .returned (.int .i64 0)/\Below w.heap.size w w':=by
 unfold F3 GR at h0;split at h0
 ·cases h0
 ·rename_i h1;exact dO (I:=fun _=>True) Mf (fun _ _ _ _=>trivial) Rq fJ (by omega) ⟨hg.1,h0⟩ trivial hS h
end Go.Proofs
namespace Go.Proofs
open Go.RowKit Go.Hb Go.Pz
def Hw (w:World) (B:Nat) (v:Value) (out:List Nat):Prop:=w.ownsRow B 3 1 v out.length (out.map Ly)
theorem jB {w:World} {B:Nat} {v:Value} {out:List Nat}(x:Nat) (h:Hw w B v out) (hl:out.length<=100000000):Calls prog 30 #[v,.int .i64 x] w fun e w'=>e= .returned (.bool (decide (x∈out)))/\w=w':=by
 obtain⟨a,c,rfl⟩:=Ap h;obtain⟨R,hR⟩:∃R,R=decide (x∈out):=⟨_,rfl⟩;obtain⟨n,hn⟩:∃n,n=out.length:=⟨_,rfl⟩;rw[<-hR];have HR:Hid (R=decide (x∈out.drop 0)):=lK (by rw[nI];exact hR);have HN:=lK hn;have HO:Hid (w.ownsRow B 3 1 (.slice a n c) n (out.map Ly)):=lK (by have h1:=h;unfold Hw at h1;rwa [<-hn]at h1);rw[<-hn]at hl⊢;have ln:(n:Int)<=100000000:=by omega
 clear h hn hR;go_enter func30,ntmps30
 go_wp2_with fail
 go_loop [5] (fun v5=>∃i:Nat,v5= .int .i64 i/\Hid (i<=n/\R=decide (x∈out.drop i))) (fun v5=>n-(intOf v5).toNat)
 case atStart=>exact⟨0,rfl,lK ⟨mK _,HR.o⟩⟩
 case round=>
  obtain⟨i,rfl,hq⟩:=hrel;have zA:=hq.o.1;have HQ:=lK hq.o.2;clear hq;by_cases hi:i<n
  ·have ui:(i:Int)<n:=by omega
   obtain⟨y,hy⟩:∃y,out[i]? =some y:=⟨_,lu (by have:=HN.o;omega)⟩;obtain⟨g,cap,hv,uX,uF⟩:=HO.o.form (by omega);have se:a=some ⟨g,0,none⟩:=by simp only[mX]at hv;exact hv.1
   subst se;have c0:w.cell? ⟨g,i,none⟩=some (.int .i64 y):=by
    rw[World.ownsRow.cellAt HO.o i (by omega),mj,hy];rfl
   have HD:Hid (out.drop i=y::out.drop (i+1)):=lK (by
    have h1:=mC.1 hy;rw[pB h1.1,h1.2])
   clear hy hv uX uF;by_cases yW:y=x
   ·have k1:((y:Int)==(x:Int))=true:=by rw[nH];omega
    have HE:Hid (R=true):=lK (by rw[HQ.o,HD.o,yW];simp);clear yW;go_wp2;go_ret;rw[HE.o];exact⟨rfl,rfl⟩
   ·have k1:((y:Int)==(x:Int))=false:=by rw[lY];omega
    have HE:Hid (R=decide (x∈out.drop (i+1))):=lK (by rw[HQ.o,HD.o];simp only[oK];rw[mZ];exact⟨fun h=>h.resolve_left (fun e=>yW e.symm),.inr⟩);clear yW;go_wp2;go_round
    case rel=>exact⟨i+1,by go_num,lK ⟨by omega,HE.o⟩⟩
    case measure=>simp[intOf];omega
  ·have HE:Hid (R=false):=lK (by rw[HQ.o,ot (by have:=HN.o;omega)];simp);go_wp2;go_ret;rw[HE.o];exact⟨rfl,rfl⟩
mutual
theorem Mg:∀(t:Tm) (out:List Nat),out.length<=(vars t out).length
 | .var n,out=>by
  simp only[vars,E8];split
  ·exact lM _
  ·rw[l6];omega
 | .atom _,out=>lM _
 | .int _,out=>lM _
 | .Hs _,out=>lM _
 | .cmp _ l,out=>by simp only[vars];exact Hl l out
theorem Hl:∀(l:List Tm) (out:List Nat),out.length<=(Ck l out).length
 | [],out=>by simp only[Ck];exact lM _
 |x::l,out=>by simp only[Ck];exact lg (Mg x out) (Hl l _)
end
def Nv (w:World) (B:Nat) (rv:Value) (r:List Nat) (e:Ending) (w':World):Prop:=∃a c,e= .returned (.slice a r.length c)/\Hw w' B (.slice a r.length c) r/\Below B w w'/\w.heap.size<=w'.heap.size/\(∀b,b<w.heap.size->rv.ownBlock≠some b->w'.heap[b]? =w.heap[b]?)/\∀b,(Value.slice a r.length c).ownBlock=some b->rv.ownBlock=some b\/w.heap.size<=b
theorem eP:(Tryz.prog.info? 3).map (fun i=>(i.zero,i.size,i.bytes))=some (some (.int .i64 0),1,8):=by kernel_rfl
theorem VH {w:World} {B:Nat} {rv:Value} {out:List Nat}(n:Nat) (h:Hw w B rv out) (hBw:B<=w.heap.size) (hl:(vars (.var n) out).length<=100000000):
  Calls prog 9 #[.agg #[.int .i64 1,.string ⟨#[]⟩,.string ⟨#[]⟩,.int .u64 0,.int .i64 n,.slice none 0 0],rv] w (Nv w B rv (vars (.var n) out)):=by
 have hl0:out.length<=100000000:=lg (Mg (.var n) out) hl;obtain⟨a,c,rfl⟩:=Ap h;obtain⟨i0,hi,qX,qg,qe⟩:=nw eP;obtain⟨r,hr⟩:∃r,r=vars (.var n) out:=⟨_,rfl⟩;rw[<-hr]at hl⊢;have HR:=lK hr;have uq:=lK hBw;have HL:=lK hl;have yV:=lK hl0;have HO:=lK h;clear h hr hl hBw hl0;go_enter func9,ntmps9
 go_upto_region 1 with fail
 generalize hA:w.alloc _=A;have BA:Hid (Below w.heap.size w A):=lK (by rw[<-hA];exact Bzz _);have hh:A.heap[w.heap.size]? =some (.cells #[.int .i64 1,.string ⟨#[]⟩,.string ⟨#[]⟩,.int .u64 0,.int .i64 n,.slice none 0 0] 31):=by rw[<-hA];exact lT w _
 have x0:A.cell? ⟨w.heap.size,0,none⟩=some (.int .i64 1):=by rw[Lib.cell_of_heap hh];rfl
 have x4:A.cell? ⟨w.heap.size,4,none⟩=some (.int .i64 n):=by rw[Lib.cell_of_heap hh];rfl
 have x5:A.cell? ⟨w.heap.size,5,none⟩=some (.slice none 0 0):=by rw[Lib.cell_of_heap hh];rfl
 have HH:=lK hh;clear hA hh;have OA:Hid (Hw A B (.slice a out.length c) out):=lK (by unfold Hw;exact AS HO.o fun b hb=>BA.o.block b (HO.o.lt b hb).2);by_cases hm:n∈out
 ·have HE:Hid (r=out):=lK (by rw[HR.o];simp only[vars,E8];rw[lQ hm]);have C30:Hid (Calls prog 30 #[.slice a out.length c,.int .i64 n] A fun e w'=>e= .returned (.bool true)/\A=w'):=lK (by have h:=jB n OA.o yV.o;rwa [lU hm]at h);clear hm
  go_wp2_with (go_at_call 30;(with_reducible refine C30.o.mono ?_);rintro e w' ⟨rfl,rfl⟩)
  go_loop [1,6] (fun v1 v6=>v1= .slice a out.length c/\v6= .int .i64 0) (fun _ _=>0)
  case atStart=>exact⟨rfl,rfl⟩
  case round=>
   obtain⟨rfl,rfl⟩:=hrel;go_wp2;rw[HE.o];refine lS (v:= .slice a out.length c) ?_ rfl ⟨a,c,rfl,OA.o,BA.o.mono uq.o,BA.o.size,fun b hb _=>BA.o.block b hb,fun b hb=> .inl hb⟩;simp[results,results9]
 ·have HE:Hid (r=out++ [n]):=lK (by rw[HR.o];simp only[vars,E8];rw[lL hm]);have C30:Hid (Calls prog 30 #[.slice a out.length c,.int .i64 n] A fun e w'=>e= .returned (.bool false)/\A=w'):=lK (by have h:=jB n OA.o yV.o;rwa [lO hm]at h);have NW:Hid (∀j u,[Ly n][j]? =some u->(A.alloc (.cells #[.int .i64 n] 3)).cell? ((⟨A.heap.size,0,none⟩:Addr).add j)=some u):=lK (World.news_of_block (t:=3) (fr:=(0,0)) (cs:= #[.int .i64 n]) (lT A _));have tu:Hid (∀u∈ [Ly n],u.oneCell'=true):=lK (by simp[Ly,Value.oneCell']);have MX:Hid (out.length+1<=maxLen):=lK (by have:=yV.o;unfold maxLen;omega);have BY:Hid ((out.length+1)*8<=140737488355328):=lK (by have:=yV.o;omega);have BS:Hid (B<=(A.alloc (.cells #[.int .i64 n] 3)).heap.size):=lK (by have:=uq.o;have:=BA.o.size;simp;omega);have xm:Hid ((A.alloc (.cells #[.int .i64 n] 3)).ownsRow B 3 1 (.slice a out.length c) out.length (out.map Ly)):=lK (World.ownsRow.alloc OA.o _);have X5:Hid ((A.alloc (.cells #[.int .i64 n] 3)).cell? ⟨w.heap.size,5,none⟩=some (.slice none 0 0)):=lK (AN x5 _);have NE:Hid (some w.heap.size≠(Value.slice a out.length c).ownBlock):=lK (fun e=>by have:=(HO.o.lt _ e.symm).2;omega);clear hm
  go_wp2_with (first|(go_at_call 30;(with_reducible refine C30.o.mono ?_);rintro e w' ⟨rfl,rfl⟩)|(at_builtin;refine wpList_append_lies _ rfl _ _ 44 rfl B 3 i0 _ 1 8 underlying44 hi qX qg qe rfl (by decide) _ _ _ rfl xm.o ⟨A.heap.size,0,none⟩ 1 1 [Ly n] rfl rfl NW.o tu.o (by decide) MX.o BY.o BS.o _ rfl ?_;intro g2 qQ w2 qD qC qh _hlg;have y5:=qC.cell X5.o NE.o))
  have B2:Hid (Below B w w2/\w.heap.size<=w2.heap.size):=lK ⟨((BA.o.mono uq.o).alloc (by have:=uq.o;have:=BA.o.size;omega) _).grown qC (by have:=BA.o.size;have:=uq.o;simp;omega) (fun b hb=>(xm.o.lt b hb).1),by have h1:=qC.size;have h2:=BA.o.size;simp at h1;omega⟩;have HOW:Hid (Hw w2 B (.slice (some ⟨g2,0,none⟩) (out++ [n]).length qQ) (out++ [n])):=lK (by unfold Hw;rw[l6,oC];exact qD);have KB:Hid (∀b,b<w.heap.size->(Value.slice a out.length c).ownBlock≠some b->w2.heap[b]? =w.heap[b]?):=lK (fun b hb qP=>(qC.block b (by have:=BA.o.size;simp;omega) (fun e=>qP e.symm)).trans ((Lib.alloc_old A _ _ (lR hb BA.o.size)).trans (BA.o.block b hb)));have GO:Hid ((Value.slice a out.length c).ownBlock=some g2\/w.heap.size<=g2):=lK (by
   rcases qh with h1|h1
   ·exact .inl h1
   ·have h2:=BA.o.size;simp at h1;exact .inr (by omega))
  clear qD qC qh
  go_loop [1,6] (fun v1 v6=>v1= .slice (some ⟨g2,0,none⟩) (out.length+1) qQ/\v6= .int .i64 0) (fun _ _=>0)
  case atStart=>exact⟨rfl,rfl⟩
  case round=>
   obtain⟨rfl,rfl⟩:=hrel;go_wp2;rw[HE.o];refine lS (v:= .slice (some ⟨g2,0,none⟩) (out.length+1) qQ) ?_ rfl ⟨some ⟨g2,0,none⟩,qQ,by rw[l6];rfl,HOW.o,B2.o.1,B2.o.2,KB.o,fun b hb=>by have e:g2=b:=Option.some.inj hb;rw[<-e];exact GO.o⟩;simp[results,results9]
theorem Ut {t:Tm}(h:∀n,t≠ .var n) (out:List Nat):vars t out=Ck (AJ t) out:=by
 cases t with
 |var n=>exact absurd rfl (h n)
 |_=>simp only[vars,Ck,AJ]
theorem AT.kind {w:World} {S:Nat->Prop} {k:Int} {nm nu bits v sl:Value} {t:Tm}(h:AT w S [.int .i64 k,nm,nu,bits,v,sl] t) (hv:∀n,t≠ .var n):k≠1:=by
 cases h with
 |var n=>exact absurd rfl (hv n)
 |_=>decide
theorem ga {P:Tm->Prop}(hP:∀t,P t->∀x∈AJ t,P x) (hl64:∀t,P t->(AJ t).length<=64) (n:Nat):∀(t:Tm),SizeOf.sizeOf t<=n->P t->∀(c:Array Value) (S:Nat->Prop) (w:World) (B:Nat) (rv:Value) (out:List Nat),(∀b,S b->b<B)->B<=w.heap.size->AT w S c.toList t->Hw w B rv out->(vars t out).length<=100000000->
  Calls prog 9 #[.agg c,rv] w (Nv w B rv (vars t out)):=by
 induction n with
 |zero=>intro t ht;cases t<;>simp at ht
 |succ n ih=>
  intro t ht hp c S w B rv out hS hBw h qK hlen;by_cases ti:∃k,t= .var k
  ·obtain⟨k,rfl⟩:=ti;obtain⟨c⟩:=c;change AT w S c _ at h;cases h;exact VH k qK hBw hlen
  have yT:∀k,t≠ .var k:=fun k e=>ti ⟨k,e⟩;have L64:=hl64 t hp;obtain⟨c⟩:=c;obtain⟨kd,nm,nu,bits,v,a,cap,hc,hl⟩:=AT.form h;have hc:c=_:=hc;subst hc;have wK:kd≠1:=AT.kind h yT;have hkd:((kd:Int)==1)=false:=lY.2 wK;obtain⟨r,hr⟩:∃r,r=vars t out:=⟨_,rfl⟩;rw[<-hr]at hlen⊢;obtain⟨len,vB⟩:∃len,len=(AJ t).length:=⟨_,rfl⟩;rw[<-vB]at L64⊢;have l64:(len:Int)<=64:=by omega
  have HR:=lK (hr.trans (Ut yT out));have HRL:=lK hlen;have IH:=lK (fun x (hx:x∈AJ t)=>ih x (Nat.le_of_lt_succ (lR (EP hx) ht)) (hP t hp x hx));have HSB:=lK hS;have HS:Hid (∀b,S b->b<w.heap.size):=lK (fun b hb=>lR (hS b hb) hBw);have HL:=lK hl;have rz:=lK vB;have uq:=lK hBw;have HROW:=lK qK;obtain⟨ra,rc,hrv⟩:=Ap qK;subst hrv;clear h ih ht hS hl hr hlen vB ti yT wK hBw qK hp hP hl64;show Calls prog 9 #[.agg #[.int .i64 kd,.string nm,.string nu,.int .u64 bits,.int .i64 v,.slice a len cap],.slice ra out.length rc] w _;go_enter func9,ntmps9
  go_upto_region 1 with fail
  have BW:Hid (Below w.heap.size w (w.alloc (.cells #[.int .i64 kd,.string nm,.string nu,.int .u64 bits,.int .i64 v,.slice a len cap] 31))):=lK (Bzz _);have vf:=lK (lT w (.cells #[.int .i64 kd,.string nm,.string nu,.int .u64 bits,.int .i64 v,.slice a len cap] 31));have LA:Hid (w.heap.size<(w.alloc (.cells #[.int .i64 kd,.string nm,.string nu,.int .u64 bits,.int .i64 v,.slice a len cap] 31)).heap.size):=lK (by simp);generalize(w.alloc (.cells #[.int .i64 kd,.string nm,.string nu,.int .u64 bits,.int .i64 v,.slice a len cap] 31))=W at*;have x0:W.cell? ⟨w.heap.size,0,none⟩=some (.int .i64 kd):=by rw[Lib.cell_of_heap vf.o];rfl
  have RW0:Hid (Hw W B (.slice ra out.length rc) out):=lK (AS HROW.o fun b hb=>BW.o.block b (HROW.o.lt b hb).2);have NE0:Hid ((Value.slice ra out.length rc).ownBlock≠some w.heap.size):=lK (fun e=>by have:=(HROW.o.lt _ e).2;omega)
  go_wp2_with fail
  go_loopw [1,6] (fun v1 v6 wr=>∃(i:Nat) (cur:List Nat),v6= .int .i64 i/\Hid (i<=len/\r=Ck ((AJ t).drop i) cur/\Hw wr B v1 cur/\Below B w wr/\W.heap.size<=wr.heap.size/\(∀b,b<W.heap.size->(Value.slice ra out.length rc).ownBlock≠some b->wr.heap[b]? =W.heap[b]?)/\∀b,v1.ownBlock=some b->(Value.slice ra out.length rc).ownBlock=some b\/W.heap.size<=b)) (fun _ v6 _=>match v6 with| .int .i64 i=>len-i.toNat|_=>0)
  case atStart=>exact⟨0,out,rfl,lK ⟨mK _,HR.o,RW0.o,BW.o.mono uq.o,lM _,fun b _ _=>rfl,fun b hb=> .inl hb⟩⟩
  case round=>
   obtain⟨i,cur,rfl,hq⟩:=hrel;obtain⟨g1,g3,g4,g5,g6,g7,g8⟩:=hq.o;obtain⟨ka,kc,hkv⟩:=Ap g4;subst hkv;have bi:(i:Int)<=64:=by omega
   have G3:=lK g3;have G4:=lK g4;have BR:=lK g5;have G6:=lK g6;have G7:=lK g7;have G8:=lK g8;have x5:wr.cell? ⟨w.heap.size,5,none⟩=some (.slice a len cap):=by rw[Lib.cell_of_heap ((g7 _ LA.o NE0.o).trans vf.o)];rfl
   clear g3 g4 g5 g6 g7 g8;by_cases hi:i<len
   ·have ui:(i:Int)<len:=by omega
    obtain⟨x,hx⟩:∃x,(AJ t)[i]? =some x:=⟨_,lu (by have:=rz.o;omega)⟩;obtain⟨b,off,cs,rfl,uR,qy,tW⟩:∃b off cs,a=some ⟨b,off,none⟩/\S b/\(∀j,j<cs.length->w.cell? ⟨b,off+j,none⟩=cs[j]?)/\BJ w S cs (AJ t):=by
     rcases HL.o with h1|h1
     ·rw[h1]at hx;cases hx
     ·exact h1
    obtain⟨d0,sJ,uW⟩:=tW.at hx;obtain⟨c0,rfl⟩:∃c0:Array Value,d0=c0.toList:=⟨⟨d0⟩,rfl⟩;have z0:Hid (c0.size=6):=lK (by have:=sJ.len;simpa using this);have qq:=HSB.o b uR;have vI:w.rangeAt b (off+i*6) c0.toList:=fun j v hv=>by
     have hj:j<6:=by
      have h1:=(mC.1 hv).1;have h2:=z0.o;rw[nG]at h1;omega
     have h1:=uW j hj;have h2:6*i+j<cs.length:=by
      rcases ls (6*i+j) cs.length with h|h
      ·exact h
      ·rw[mr h]at h1;rw[<-h1]at hv;cases hv
     rw[show off+i*6+j=off+(6*i+j) by omega,qy _ h2,h1,hv]
    have RG:Hid (wr.rangeAt b (off+i*6) c0.toList):=lK (fun j v hv=>(BR.o.cell (p:=⟨b,off+i*6+j,none⟩) qq).trans (vI j v hv));have ZL:Hid ((Tryz.prog.info? 31).map (·.size)=some c0.toList.length):=lK (by rw[nG,z0.o];exact Cg);have HD:Hid (AT wr S c0.toList x):=lK (AT.Ak (fun b hb=>BR.o.block b (HSB.o b hb)) (fun _ h=>h) sJ);have HX:=lK hx;have wI:Hid (r=Ck ((AJ t).drop (i+1)) (vars x cur)):=lK (by rw[G3.o,drop_cons hx];simp only[Ck]);have yO:Hid ((vars x cur).length<=100000000):=lK (by have h1:=Hl ((AJ t).drop (i+1)) (vars x cur);rw[<-wI.o]at h1;exact lg h1 HRL.o);clear hx uR qy tW uW sJ qq vI hq g1;have HC:=lK (IH.o x (mP HX.o) c0 S wr B (.slice ka cur.length kc) cur HSB.o (lg uq.o (by have:=G6.o;have:=LA.o;omega)) HD.o G4.o yO.o);have vD:=lK hi;clear hi
    go_wp2_with (first|(refine wpList_load_mid rfl 31 _ rfl b (off+i*6) rfl c0.toList _ RG.o mE rfl ZL.o ?_)|(go_at_call 9;(refine HC.o.mono ?_)))
    rintro e W5 ⟨a5,c5,rfl,row5,b5,s5,k5,o5⟩;have H5:Hid (i+1<=len/\r=Ck ((AJ t).drop (i+1)) (vars x cur)/\Hw W5 B (.slice a5 (vars x cur).length c5) (vars x cur)/\Below B w W5/\W.heap.size<=W5.heap.size/\(∀b,b<W.heap.size->(Value.slice ra out.length rc).ownBlock≠some b->W5.heap[b]? =W.heap[b]?)/\∀b,(Value.slice a5 (vars x cur).length c5).ownBlock=some b->(Value.slice ra out.length rc).ownBlock=some b\/W.heap.size<=b):=lK (by
     have g6:=G6.o;refine⟨vD.o,wI.o,row5,BR.o.trans b5,lg g6 s5,fun b hb qP=>(k5 b (by omega) (fun e=> ?_)).trans (G7.o b hb qP),fun b hb=> ?_⟩
     ·rcases G8.o b e with h|h
      ·exact qP h
      ·omega
     ·rcases o5 b hb with h|h
      ·exact G8.o b h
      ·exact .inr (by omega))
    clear row5 b5 s5 k5 o5 HC x5;go_wp2;go_roundw
    case rel=>exact⟨i+1,vars x cur,by first|rfl|(congr 1),H5.o⟩
    case measure=>
     have:=vD.o;show len-((i+1:Nat):Int).toNat<len-((i:Nat):Int).toNat;rw[mB,mB];omega
   ·have ui:¬(i:Int)<len:=by omega
    have HE:Hid (r=cur):=lK (by rw[G3.o,ot (by have:=rz.o;omega)];rfl);clear hq g1;go_wp2;rw[HE.o];refine lS (v:= .slice ka cur.length kc) ?_ rfl ⟨ka,kc,rfl,G4.o,BR.o,by have:=G6.o;have:=LA.o;omega,fun b hb qP=>(G7.o b (by have:=LA.o;omega) qP).trans (BW.o.block b hb),fun b hb=>(G8.o b hb).imp id (fun h=>by have:=LA.o;omega)⟩;simp[results,results9]
end Go.Proofs
namespace Go.Proofs
open Go.Shelf
def Ox:Go.Shelf.Ren:=⟨fun|157=>31|229=>49|199=>50|261=>78|311=>105|312=>106|n=>n,fun|9=>9|31=>33|3=>3|5=>5|4=>4|119=>110|0=>0|40=>112|152=>130|21=>21|154=>132|51=>133|141=>135|196=>168|193=>165|198=>171|49=>169|194=>166|201=>174|226=>201|46=>164|227=>202|n=>n,fun|0=>0|6=>1|n=>n⟩
theorem cK:Go.Proofs.Lays.n157 prog Ox:= {
 mixed:=by kernel_rfl
 f157:=Tryz.func31.trans (mQ some (by kernel_rfl))
 f199:=Tryz.func50.trans (mQ some (by kernel_rfl))
 f229:=Tryz.func49.trans (mQ some (by kernel_rfl))
 f261:=Tryz.func78.trans (mQ some (by kernel_rfl))
 f311:=Tryz.func105.trans (mQ some (by kernel_rfl))
 f312:=Tryz.func106.trans (mQ some (by kernel_rfl))
 t0:=underlying0
 a0:=isAgg0
 z0:=sizeOf0
 v0:=zeroValue0
 t3:=nU
 a3:=isAgg3
 z3:=sizeOf3
 v3:=pC
 t4:=oF
 a4:=isAgg4
 z4:=pT
 v4:=od
 t5:=nV
 a5:=isAgg5
 z5:=sizeOf5
 v5:=pD
 t9:=mS
 a9:=isAgg9
 z9:=sizeOf9
 v9:=pO
 t21:=underlying21
 a21:=isAgg21
 z21:=sizeOf21
 v21:=zeroValue21
 t31:=underlying33
 a31:=isAgg33
 z31:=sizeOf33
 v31:=zeroValue33
 t40:=underlying112
 a40:=isAgg112
 z40:=sizeOf112
 v40:=zeroValue112
 t46:=oO
 a46:=isAgg164
 z46:=sizeOf164
 v46:=pL
 t49:=underlying169
 a49:=isAgg169
 z49:=sizeOf169
 v49:=zeroValue169
 t51:=underlying133
 a51:=isAgg133
 z51:=sizeOf133
 v51:=zeroValue133
 t119:=underlying110
 a119:=isAgg110
 z119:=sizeOf110
 t141:=underlying135
 a141:=isAgg135
 z141:=sizeOf135
 v141:=zeroValue135
 t152:=underlying130
 a152:=isAgg130
 z152:=sizeOf130
 v152:=zeroValue130
 t154:=underlying132
 a154:=isAgg132
 z154:=sizeOf132
 v154:=zeroValue132
 t193:=underlying165
 a193:=isAgg165
 z193:=sizeOf165
 v193:=zeroValue165
 t194:=underlying166
 a194:=isAgg166
 z194:=sizeOf166
 v194:=zeroValue166
 t196:=underlying168
 a196:=isAgg168
 z196:=sizeOf168
 v196:=zeroValue168
 t198:=underlying171
 a198:=isAgg171
 z198:=sizeOf171
 v198:=zeroValue171
 t201:=underlying174
 a201:=isAgg174
 z201:=sizeOf174
 v201:=zeroValue174
 t226:=underlying201
 a226:=isAgg201
 z226:=sizeOf201
 v226:=zeroValue201
 t227:=underlying202
 a227:=isAgg202
 z227:=sizeOf202
 v227:=zeroValue202
 g0:=by kernel_rfl
 g6:=by kernel_rfl}
end Go.Proofs
namespace Go.Proofs
open Go.RowKit Go.Hb Go.Pz Go.Lx Go.Proofs.YtpocgkiamgipdaaGreatDoor
theorem XZ:Rows.parserSoundRow.laid[13]? =some ("strings.asciiSpace",Lib.tabData .u8 Lib.asciiSpaceTab):=by kernel_rfl
theorem DK.hJ {W:World}(h:DK W) (c:Nat) (hcl:c<256):W.cell? ⟨0,c,none⟩=some (.int .u8 (if Lib.isSp (UInt8.ofNat c)then 1 else 0)):=by
 obtain⟨W0,h1,h2,h3⟩:=h;obtain⟨cs,fuel,p,hc,hd⟩:=FJ h1 XZ (g:=0) (t:=110) (by kernel_rfl);have e:=Lib.cells_of_tab underlying110 nV (by kernel_rfl) (by kernel_rfl) hd;have hl:c<Lib.asciiSpaceTab.length:=by rw[Lib.asciiSpaceTab_length];exact hcl
 have h4:W0.cell? ⟨0,c,none⟩=some (.int .u8 (if Lib.isSp (UInt8.ofNat c)then 1 else 0)):=by
  rw[hc c,<-mV,e,mj,lu hl,Option.map_some,<-Lib.asciiSpaceTab_at c hcl,lZ,lu hl];rfl
 have lt:0<W0.heap.size:=by
  rcases mh W0.heap.size with h0|h0
  ·exfalso;unfold World.cell? at h4;rw[oS (by show _<=0;omega)]at h4;cases h4
  ·exact h0
 exact(h3.cell (p:=⟨0,c,none⟩) lt).trans h4
theorem MG {w:World}(h:DK w):∀(W:World) (nm:Bs),Below w.heap.size w W->nm.length<=1000->(∀b∈nm,b.toNat<128)->Calls prog 31 #[.string (bs nm)] W fun e w'=>e= .returned (.slice (some ⟨W.heap.size,0,none⟩) (Lib.fields nm).length (Lib.fields nm).length)/\w'=W.alloc (.cells ((Lib.fields nm).map fun l=>Value.string (bs l)).toArray 9):=fun W nm hb hl ha=>
 Any.strings_Fields_core cK (by kernel_rfl) (bs nm) W (by show nm.length<_;omega) (fun j b hj=>ha b (mP hj)) (fun c hc=>(h.below hb).hJ c hc)
end Go.Proofs
namespace Go.Proofs
open Go.RowKit Go.Bg Go.Hb Go.Lx Go.Rb Go.Pf Go.Pz Go.Ps
theorem U7 {w:World} {s:ByteArray}(hs:s.size<=20000000) (hL:DK w){ob m0 m1 m2:Nat} {O:Am}(hT:Dh w ob m0 m1 m2 O) (hp:Nl O):Mp w s (.pointer (some ⟨ob,0,none⟩)) O F3 ME where
 laid:=hL.zero
 next:=fun W p K E hb hq hlay=>jS s p K E W (by omega) hq (lK hlay) (lK (hL.below hb))
 pre:=fun W nm hl hb=>Ww (hT.below hb) nm hl
 inf:=fun W nm hl hb=>Yj (hT.below hb) nm hl
 post:=fun W nm hl hb=>Tz (hT.below hb) nm hl
 pr:=hp
 F7:=fun W c S t hb hg hS h=>fe hg (hL.zero.below hb) hS h
theorem Xu {w:World} {s:ByteArray} {at_:Nat} {q:Int} {ob m0 m1 m2:Nat} {O:Am} {L:List Tk} {fin:Option (Nat×Nat)}(hs:s.size<=20000000) (qh:at_<=s.size) (hq: -9223372036854775808<=q/\q<=9223372036854775807) (hM:DK w) (hT:Dh w ob m0 m1 m2 O) (hp:Nl O) (hL:Ct s at_ L fin):
  Calls prog 7 #[.string s,.int .i64 at_,.pointer (some ⟨ob,0,none⟩),.agg #[.int .i64 q]] w (Ce s w (Sw O q F3 at_ L fin)):=
 jH hs qh hq (U7 hs hM hT hp) hL (fun n st most t p s' h=>LI hs qh hL n st most t p s' h)
end Go.Proofs
namespace Go.Pz
open Go.Proofs Go.RowKit Go.Bg Go.Hb Go.Lx Go.Rb Go.Pf Go.Ps
theorem On (l:List Tm) (e:Tm) (out:List Nat) (h:∀x∈l,∀o,vars x o=o) (he:∀o,vars e o=o):vars (Cd l e) out=out:=by
 induction l with
 |nil=>exact he out
 |cons a l ih=>
  simp only[Cd,List.foldr_cons,vars,Ck];rw[h a List.mem_cons_self];exact ih (fun x hx=>h x (List.mem_cons_of_mem _ hx))
theorem Vn (s:Bs) (q:Int) (out:List Nat):vars (CZ s q) out=out:=by
 unfold CZ;split
 ·simp only[vars]
 ·refine On _ _ _ (fun x hx o=> ?_) (fun o=>by simp only[vars]);obtain⟨c,hc,rfl⟩:=List.mem_map.1 hx;unfold GP;split<;>simp only[vars]
theorem YZ:RS.zero.Ok:=⟨fun x hx=>(by cases hx),fun x hx=>(by cases hx),List.nodup_nil,List.Pairwise.nil,rfl⟩
structure JS (s:ByteArray) (t:Tm) (st:RS) (n:Nat):Prop where
 Kf:ME t
 F7:F3 t=0
 vars:vars t []=List.range st.vars
 ok:st.Ok
 le:n<=s.size
 pos:1<=n
 dot:AI s (n-1)=46
theorem dH {s:ByteArray} {at_:Nat} {q:Int} {O:Am} {L:List Tk} {fin:Option (Nat×Nat)} {t:Tm} {st:RS} {n:Nat}(hs:s.size<=20000000) (qh:at_<=s.size) (hL:Ct s at_ L fin) (h:Sw O q F3 at_ L fin= .ok t st n):JS s t st n:=by
 cases fin with
 |some x=>cases h
 |none=>
  unfold Sw at h;dsimp only at h;split at h
  ·cases h
  ·cases hr:Ay L O q CZ (4*L.length+3) RS.zero 1200 with
   |stop wd a=>rw[hr]at h;cases h
   |ok x=>
    obtain⟨t',p',st'⟩:=x;rw[hr]at h;unfold cH at h;dsimp only at h;split at h
    ·rename_i h9;split at h
     ·rename_i h0;injection h with e1 e2 e3
      subst e1 e2 e3;have hg:=(reads (ts:=L) (O:=O) (quotes:=q) (tx:=CZ) Vn _).1 _ _ _ _ _ YZ hr;have hm:now L st'∈L:=by
       unfold now at h9⊢;rw[lZ]at h9⊢;cases e:L[st'.k]?with
       |none=>rw[e]at h9;cases h9
       |some y=>exact mP e
      have hk:=hL.Kf qh _ hm;have hf:=hk.fin h9;refine⟨LI hs qh hL _ _ _ _ _ _ hr,h0,hg.eq,hg.ok,hk.le,by omega,?_⟩;rw[hf.1,nx];exact hf.2
     ·cases h
    ·cases h
theorem Ni {s:ByteArray} {p:Nat} {r:Int}(h:p<s.size) (h1:AI s p<128) (h2:Bc s (p+1) r):Bc s p r:= .step (m:=1) (Jx h h1) h2
def tA:ByteArray:=bs [88,32,61,32,102,40,89,44,32,95,44,32,88,41,46]
def kA:List Tk:= [F6 3 (bs [88]) ⟨#[]⟩ 0 0 1 (decide (0<0)),F6 1 (bs [61]) ⟨#[]⟩ 0 2 3 (decide (1<2)),F6 1 (bs [102]) ⟨#[]⟩ 0 4 5 (decide (3<4)),F6 8 (bs [40]) ⟨#[]⟩ 0 5 6 (decide (5<5)),F6 3 (bs [89]) ⟨#[]⟩ 0 6 7 (decide (6<6)),F6 8 (bs [44]) ⟨#[]⟩ 0 7 8 (decide (7<7)),F6 3 (bs [95]) ⟨#[]⟩ 0 9 10 (decide (8<9)),F6 8 (bs [44]) ⟨#[]⟩ 0 10 11 (decide (10<10)),F6 3 (bs [88]) ⟨#[]⟩ 0 12 13 (decide (11<12)),F6 8 (bs [41]) ⟨#[]⟩ 0 13 14 (decide (13<13)),F6 9 ⟨#[]⟩ ⟨#[]⟩ 0 14 15 (decide (14<14))]
theorem aq:Ct tA 0 kA none:=(.next (K:=0) (E:=0) (k:=3) (bits:=0) (a:=0) (en:=1) (tx:=(bs [88])) (nu:=⟨#[]⟩) (.stop (lh (by kernel_rfl)) (by kernel_rfl)) (by kernel_rfl) (by decide) (by decide) (.next (K:=2) (E:=0) (k:=1) (bits:=0) (a:=2) (en:=3) (tx:=(bs [61])) (nu:=⟨#[]⟩) (.step (t:=2) (lh (by kernel_rfl)) (by kernel_rfl) (Ni (lh (by kernel_rfl)) (lh (by kernel_rfl)) (.done (lh (by kernel_rfl)))) (.stop (lh (by kernel_rfl)) (by kernel_rfl))) (by kernel_rfl) (by decide) (by decide) (.next (K:=4) (E:=0) (k:=1) (bits:=0) (a:=4) (en:=5) (tx:=(bs [102])) (nu:=⟨#[]⟩) (.step (t:=4) (lh (by kernel_rfl)) (by kernel_rfl) (Ni (lh (by kernel_rfl)) (lh (by kernel_rfl)) (.done (lh (by kernel_rfl)))) (.stop (lh (by kernel_rfl)) (by kernel_rfl))) (by kernel_rfl) (by decide) (by decide) (.next (K:=5) (E:=0) (k:=8) (bits:=0) (a:=5) (en:=6) (tx:=(bs [40])) (nu:=⟨#[]⟩) (.stop (lh (by kernel_rfl)) (by kernel_rfl)) (by kernel_rfl) (by decide) (by decide) (.next (K:=6) (E:=0) (k:=3) (bits:=0) (a:=6) (en:=7) (tx:=(bs [89])) (nu:=⟨#[]⟩) (.stop (lh (by kernel_rfl)) (by kernel_rfl)) (by kernel_rfl) (by decide) (by decide) (.next (K:=7) (E:=0) (k:=8) (bits:=0) (a:=7) (en:=8) (tx:=(bs [44])) (nu:=⟨#[]⟩) (.stop (lh (by kernel_rfl)) (by kernel_rfl)) (by kernel_rfl) (by decide) (by decide) (.next (K:=9) (E:=0) (k:=3) (bits:=0) (a:=9) (en:=10) (tx:=(bs [95])) (nu:=⟨#[]⟩) (.step (t:=9) (lh (by kernel_rfl)) (by kernel_rfl) (Ni (lh (by kernel_rfl)) (lh (by kernel_rfl)) (.done (lh (by kernel_rfl)))) (.stop (lh (by kernel_rfl)) (by kernel_rfl))) (by kernel_rfl) (by decide) (by decide) (.next (K:=10) (E:=0) (k:=8) (bits:=0) (a:=10) (en:=11) (tx:=(bs [44])) (nu:=⟨#[]⟩) (.stop (lh (by kernel_rfl)) (by kernel_rfl)) (by kernel_rfl) (by decide) (by decide) (.next (K:=12) (E:=0) (k:=3) (bits:=0) (a:=12) (en:=13) (tx:=(bs [88])) (nu:=⟨#[]⟩) (.step (t:=12) (lh (by kernel_rfl)) (by kernel_rfl) (Ni (lh (by kernel_rfl)) (lh (by kernel_rfl)) (.done (lh (by kernel_rfl)))) (.stop (lh (by kernel_rfl)) (by kernel_rfl))) (by kernel_rfl) (by decide) (by decide) (.next (K:=13) (E:=0) (k:=8) (bits:=0) (a:=13) (en:=14) (tx:=(bs [41])) (nu:=⟨#[]⟩) (.stop (lh (by kernel_rfl)) (by kernel_rfl)) (by kernel_rfl) (by decide) (by decide) (.last (K:=14) (E:=0) (k:=9) (bits:=0) (a:=14) (en:=15) (tx:=⟨#[]⟩) (nu:=⟨#[]⟩) (.stop (lh (by kernel_rfl)) (by kernel_rfl)) (by kernel_rfl) (Or.inl rfl))))))))))))
def tB:ByteArray:=bs [97,32,98,46]
def kO:List Tk:= [F6 1 (bs [97]) ⟨#[]⟩ 0 0 1 (decide (0<0)),F6 1 (bs [98]) ⟨#[]⟩ 0 2 3 (decide (1<2)),F6 9 ⟨#[]⟩ ⟨#[]⟩ 0 3 4 (decide (3<3))]
theorem ZD:Ct tB 0 kO none:=(.next (K:=0) (E:=0) (k:=1) (bits:=0) (a:=0) (en:=1) (tx:=(bs [97])) (nu:=⟨#[]⟩) (.stop (lh (by kernel_rfl)) (by kernel_rfl)) (by kernel_rfl) (by decide) (by decide) (.next (K:=2) (E:=0) (k:=1) (bits:=0) (a:=2) (en:=3) (tx:=(bs [98])) (nu:=⟨#[]⟩) (.step (t:=2) (lh (by kernel_rfl)) (by kernel_rfl) (Ni (lh (by kernel_rfl)) (lh (by kernel_rfl)) (.done (lh (by kernel_rfl)))) (.stop (lh (by kernel_rfl)) (by kernel_rfl))) (by kernel_rfl) (by decide) (by decide) (.last (K:=3) (E:=0) (k:=9) (bits:=0) (a:=3) (en:=4) (tx:=⟨#[]⟩) (nu:=⟨#[]⟩) (.stop (lh (by kernel_rfl)) (by kernel_rfl)) (by kernel_rfl) (Or.inl rfl))))
def tC:ByteArray:=bs [32,37,32,120]
def kQ:List Tk:= [F6 10 ⟨#[]⟩ ⟨#[]⟩ 0 4 4 (decide (0<4))]
theorem aA:Ct tC 0 kQ none:=(.last (K:=4) (E:=0) (k:=10) (bits:=0) (a:=4) (en:=4) (tx:=⟨#[]⟩) (nu:=⟨#[]⟩) (.step (t:=1) (lh (by kernel_rfl)) (by kernel_rfl) (Ni (lh (by kernel_rfl)) (lh (by kernel_rfl)) (.done (lh (by kernel_rfl)))) (.step (t:=4) (lh (by kernel_rfl)) (by kernel_rfl) (Ni (lh (by kernel_rfl)) (lh (by kernel_rfl)) (Ni (lh (by kernel_rfl)) (lh (by kernel_rfl)) (Ni (lh (by kernel_rfl)) (lh (by kernel_rfl)) (.done (lh (by kernel_rfl)))))) (.done (lh (by kernel_rfl))))) (by kernel_rfl) (Or.inr rfl))
def Ym:Tm:= .cmp [61] [.var 0,.cmp [102] [.var 1,.var 2,.var 0]]
def jX:RS:=⟨10,[([88],0),([89],1)],[2,1],3⟩
theorem Yw:Sw Jn 0 F3 0 kA none= .ok Ym jX 15:=by kernel_rfl
theorem ZB:Sw Jn 0 F3 0 kO none= .stop (YV 0) 2:=by kernel_rfl
theorem aU:Sw Jn 0 F3 0 kQ none= .eof 4:=by kernel_rfl
end Go.Pz
