import Derived.Test.YtpocgkiamgipdaaGreatDoorScP
set_option maxRecDepth 1000000
set_option maxHeartbeats 0
set_option linter.unusedVariables false
set_option linter.unusedSimpArgs false
open Go.Proofs.Tryz
namespace Go.Rb
theorem IY (x j:Nat):Bn x j<2:=mw _ (by decide)
end Go.Rb
namespace Go.Proofs
open Go.RowKit Go.Pf Go.Rb
theorem Dr.max {w:World} {v:Value} {x m:Nat}(h:Dr w v x m):m<=9223372036854775807:=by
 rcases h with⟨_,_,h⟩|⟨_,_,_,_,_,_,_⟩
 ·omega
 ·omega
set_option maxRecDepth 100000 in
theorem gm (v:Value) (x m i:Nat) (w:World) (hv:Hid (Dr w v x m)):Calls prog 126 #[v,.int .i64 i] w fun e w'=>e= .returned (.int .i64 (Bn x i))/\w=w':=by
 obtain⟨a,c,rfl⟩:=hv.o.slice;have i0:decide ((0:Int)<=(i:Int))=true:=lU (by omega);have mm:=hv.o.max;by_cases h:i<m
 ·rcases hv.o with⟨_,_,h3⟩|⟨b,o,c',h1,h2,h3,h4,h5⟩
  ·omega
  ·simp only[mX]at h1;obtain⟨rfl,_,rfl⟩:=h1;have hc:=h5.2 i h;have hi:(i:Int)<m:=by omega
   have qN:decide ((i:Int)<m)=true:=lU hi;clear h5;go_enter func126,ntmps126;go_wp2;go_ret;exact⟨rfl,rfl⟩
 ·have e:=GJ hv.o.lt (show m<=i by omega);rw[e];have qN:decide ((i:Int)<m)=false:=lO (by omega);clear e;go_enter func126,ntmps126;go_wp2;go_ret;exact⟨rfl,rfl⟩
def Ng (v:Value) (w:World) (x:Nat) (e:Ending) (w':World):Prop:=
 ∃m',T2 x m'/\e= .returned (match v with| .slice a _ c=> .slice a m' c|v=>v)/\w=w'
set_option maxRecDepth 100000 in
set_option maxHeartbeats 1000000 in
theorem Ze (w:World):Calls prog 127 #[.slice none 0 0] w (Ng (.slice none 0 0) w 0):=by
 go_enter func127,ntmps127;go_wp2;refine wp_loop_rounds 1 ?_;rw[rounds_succ];go_wp2;go_ret;exact⟨0,⟨by decide,.inl rfl⟩,rfl,rfl⟩
set_option maxRecDepth 100000 in
set_option maxHeartbeats 2000000 in
theorem aI (b o c x m:Nat) (w:World) (hc:m<=c) (hmax:c<=9223372036854775807) (hl:Hid (Bt w b o x m)):Calls prog 127 #[.slice (some ⟨b,o,none⟩) m c] w (Ng (.slice (some ⟨b,o,none⟩) m c) w x):=by
 go_enter func127,ntmps127;go_wp2
 go_loop [3] (fun v=>∃k:Nat,k<=m/\x<2^k/\v= .int .i64 k) (fun v=>(intOf v).toNat)
 case atStart=>exact⟨m,lM _,hl.o.1,rfl⟩
 case round=>
  obtain⟨k,hk,hx,rfl⟩:=hrel;have HX:=lK hx;clear hx;cases k with
  |zero=>
   have z0:((0:Nat):Int)=0:=rfl;go_wp2;go_ret;exact⟨0,⟨HX.o,.inl rfl⟩,rfl,rfl⟩
  |succ k=>
   have qW:w.cell? ⟨b,o+k,none⟩=some (.int .i64 (Bn x k)):=hl.o.2 k (by omega);have kk:(k:Int)<m:=by omega
   have k1:((k+1:Nat):Int)-1=k:=by omega
   by_cases h0:Bn x k=0
   ·have t0:((Bn x k:Int)==0)=true:=by rw[h0];rfl
    have H0:=lK h0;clear h0;go_wp2;go_round
    case rel=>exact⟨k,by omega,OF HX.o H0.o,by go_num⟩
    case measure=>simp[intOf]
   ·have t0:((Bn x k:Int)==0)=false:=by rw[nD];intro h;have:=eq_of_beq h;omega
    have H0:=lK h0;clear h0;go_wp2;go_ret;exact⟨k+1,⟨HX.o,.inr (Mx H0.o)⟩,rfl,rfl⟩
theorem UF (v:Value) (x m:Nat) (w:World) (hv:Dr w v x m):Calls prog 127 #[v] w (Ng v w x):=by
 rcases hv with⟨rfl,rfl,rfl⟩|⟨b,o,c,rfl,h1,h2,_,h3⟩
 ·exact Ze w
 ·exact aI b o c x m w h1 h2 (lK h3)
set_option maxRecDepth 100000 in
set_option maxHeartbeats 2000000 in
theorem iO (neg:Bool) (v:Value) (x m:Nat) (w:World) (hv:Hid (Dr w v x m)):Calls prog 128 #[.bool neg,v] w (Zp neg x w):=by
 obtain⟨a,c,rfl⟩:=hv.o.slice;have hb:=(Below.refl w.heap.size w).alloc (lM _);have sj:Hid (∀o,Dr (w.alloc o) (.slice a m c) x m):=lK fun o=>hv.o.below (hb o);clear hb;cases neg with
 |false=>
  go_enter func128,ntmps128
  go_wp2_with (go_at_call 127;(with_reducible refine(UF (.slice a m c) x m _ (sj.o _)).mono ?_))
  rintro e w' ⟨m',ht,rfl,rfl⟩;have HL:=lK (hv.o.cut (T2.le ht hv.o.lt (lM _)) ht.1);go_wp2;refine lS (v:= .agg #[.bool false,.slice a m' c]) ?_ rfl ⟨_,m',rfl,ht,?_,?_⟩
  ·simp only[results,results128];go_simp
  ·exact HL.o.below (Bzz _)
  ·exact Bzz _
 |true=>
  go_enter func128,ntmps128
  go_wp2_with (go_at_call 127;(with_reducible refine(UF (.slice a m c) x m _ (sj.o _)).mono ?_))
  rintro e w' ⟨m',ht,rfl,rfl⟩;have HL:=lK (hv.o.cut (T2.le ht hv.o.lt (lM _)) ht.1);have hd:decide ((0:Int)<(m':Int))=decide (0<x):=by
   have:=ht.Ao;by_cases h:0<x
   ·rw[lU h,lU (by omega)]
   ·rw[lO h,lO (by omega)]
  go_wp2;refine lS (v:= .agg #[.bool (decide (0<x)),.slice a m' c]) ?_ rfl ⟨_,m',rfl,ht,?_,?_⟩
  ·simp only[results,results128];go_simp;have:=ht.Ao;omega
  ·exact HL.o.below (Bzz _)
  ·exact Bzz _
end Go.Proofs
namespace Go.Rb
end Go.Rb
namespace Go.Proofs
open Go.RowKit Go.Pf Go.Rb
theorem OL:(Tryz.prog.info? 3).map (fun i=>(i.zero,i.size,i.bytes))=some (some (.int .i64 0),1,8):=by kernel_rfl
theorem Dr.EW {w:World} {b:Nat} {v:Value} {x m:Nat}(h:w.ownsRow b 3 1 v m (Cp x m)) (hx:x<2^m):Dr w v x m:=by
 rcases h.2 with⟨rfl,rfl⟩|⟨g,cap,cur,rfl,_,hg,hnc,hcm,qy,htake⟩
 ·refine .inl ⟨rfl,by simpa using hx,rfl⟩
 ·refine .inr ⟨g,0,cap,rfl,hnc,hcm,(lN.1 hg).1,hx,fun j hj=> ?_⟩;have h1:=World.ownsRow.cellAt h j (by omega);rw[me,h1,IV x m j hj]
theorem Ko {w:World} {b:Nat} {v:Value} {n:Nat} {xs:List Value}(h:w.ownsRow b 3 1 v n xs):∃a c,v= .slice a n c:=by
 rcases h.2 with⟨rfl,rfl⟩|⟨g,cap,cur,rfl,_⟩
 ·exact⟨_,_,rfl⟩
 ·exact⟨_,_,rfl⟩
theorem Dr.drewN {w:World} {v:Value} {x m:Nat}(h:Dr w v x m) (n:Nat):Dr (w.drewN n) v x m:=h
end Go.Proofs
namespace Go.Rb
end Go.Rb
namespace Go.Proofs
open Go.RowKit Go.Pf Go.Rb
theorem Tok.ie (w:World):Tok (w.alloc (.cells #[.bool false,.slice none 0 0] 160)) w.heap.size:=⟨lT w _⟩
theorem Dr.tok {w:World} {v:Value} {x m b:Nat}(h:Dr w v x m) (t:Tok w b) (u0 u1:Value):Dr ((w.setCell ⟨b,0,none⟩ u0).setCell ⟨b,1,none⟩ u1) v x m:=by
 refine(h.setCell t.c0 (by intro k n h;cases h) u0).setCell (a:=⟨b,1,none⟩) (u0:= .slice none 0 0) ?_ (by intro k n h;cases h) u1;rw[oV (h:=fun e=>by simp at e)];exact t.c1
structure XH (neg:Bool) (x:Nat) (b:Nat) (w:World) (e:Ending) (w':World):Prop where
 ex:∃a m c,e= .returned (.agg #[.bool neg,.slice a m c])/\T2 x m/\w'.cell? ⟨b,0,none⟩=some (.bool false)/\w'.cell? ⟨b,1,none⟩=some (.slice none 0 0)/\w'.frozen? ⟨b,0,none⟩=false/\w'.frozen? ⟨b,1,none⟩=false/\Dr ((w'.setCell ⟨b,0,none⟩ (.bool neg)).setCell ⟨b,1,none⟩ (.slice a m c)) (.slice a m c) x m/\Below w.heap.size w w'
theorem Rm (neg ng:Bool) (v:Value) (x m b:Nat) (w0 w:World) (hv:Hid (Dr w v x m)) (tk:Tok w b) (hb:Below w0.heap.size w0 w) (hn:ng=(neg&&decide (0<x))):Calls prog 128 #[.bool neg,v] w (XH ng x b w0):=by
 refine(iO neg v x m w hv).mono ?_;rintro e W2 ⟨sl,m',rfl,ht,se,b2⟩;obtain⟨a,c,rfl⟩:=se.slice;have t2:=tk.below b2;rw[<-hn];exact⟨a,m',c,rfl,ht,t2.c0,t2.c1,t2.f 0,t2.f 1,se.tok t2 _ _,hb.trans (b2.mono hb.size)⟩
end Go.Proofs
namespace Go.Rb
theorem Sy {X r i:Nat}(hr:0<r):(2*(X/2^(i+1) %r)+Bn X i) %r=X/2^i %r/\Bn (X/r) i=(2*(X/2^(i+1) %r)+Bn X i)/r:=by
 have e:X/2^i=2*(X/2^(i+1))+Bn X i:=by
  rw[l9,<-mf];unfold Bn;omega
 have h1:r*(X/2^(i+1)/r)+X/2^(i+1) %r=X/2^(i+1):=oD _ _;have h2:X/2^(i+1) %r<r:=mw _ hr;have h3:=IY X i;obtain⟨Q,hQ⟩:∃Q,Q=X/2^(i+1)/r:=⟨_,rfl⟩;obtain⟨R,hR⟩:∃R,R=X/2^(i+1) %r:=⟨_,rfl⟩;obtain⟨t,ht⟩:∃t,t=2*R+Bn X i:=⟨_,rfl⟩;rw[<-hQ,<-hR]at h1;rw[<-hR]at h2⊢;have e2:X/2^i=r*(2*Q)+t:=by
  rw[e,<-h1,ht,Nat.mul_add];have:r*(2*Q)=2*(r*Q):=by ac_rfl
  omega
 rw[<-ht];constructor
 ·rw[e2,Nat.mul_add_mod]
 ·have e3:X/r/2^i=X/2^i/r:=by rw[mf,mf,mR]
  unfold Bn;rw[e3,e2,Nat.mul_add_div hr];have h5:t/r<2:=by rw[mY hr];omega
  clear e e2 e3 h1 ht;generalize t/r=q at*;omega
theorem T2.half {X Y k m:Nat}(h:T2 X k) (hX:X≠0) (hY:Y<=X/2) (h':T2 Y m):m<k:=by
 have k0:k≠0:=fun e=>hX (h.Ao.1 e);obtain⟨j,rfl⟩:∃j,k=j+1:=⟨k-1,by omega⟩;have h1:=h.1;rw[l9]at h1;have:=h'.le (m:=j) (x:=X/2) (by omega) hY;omega
end Go.Rb
namespace Go.Proofs
open Go.RowKit Go.Pf Go.Rb Go.Bg
theorem S9 (k:Nat) (hk:k<=1000000000):∃M:Array Value,M.size=k/\(∀j,j<k->M[j]? =some (.int .i64 0))/\∀W:World,(Instr.makeSlice 44 (.int .i64 (k:Int)) (.int .i64 (k:Int))).run prog W= .ok (.slice (some ⟨W.heap.size,0,none⟩) k k) (W.alloc (.cells M 3)):=by
 obtain⟨i0,hi,qX,qg,qe⟩:=nw OL;refine⟨madeCells #[.int .i64 0] k,size_madeCells _ _,fun j hj=> ?_,fun W=> ?_⟩
 ·rw[<-mV,toList_madeCells_one,List.getElem?_replicate,lQ hj]
 ·have h:=run_make (P:=prog) W 44 3 i0 (.int .i64 0) underlying44 hi qX .i64 .i64 (k:Int) (k:Int) (by omega) (by omega) (by rw[qe];omega) (by omega);rw[qg]at h;have e:(Value.int .i64 0).cells= #[Value.int .i64 0]:=rfl;rw[e]at h;simpa using h
theorem Ol {w:World} {B n tc:Nat} {ta:Option Addr} {l:List UInt8}(h:w.ownsRow B 5 1 (.slice ta n tc) n (Lib.byteCells l)) (hn:0<n):
  ∃t:ByteArray,t.data.toList=l/\(convert 143 9 (.slice ta n tc)).run prog w= .ok (.string t) w:=by
 have hl:l.length=n:=by have:=h.1;rw[Lib.byteCells_length]at this;omega
 rcases h.2 with⟨h1,h2⟩|⟨g,cap,cur,h1,h2,h3,h4,h5,h6,h7⟩
 ·omega
 ·simp only[mX]at h1;obtain⟨rfl,_,rfl⟩:=h1;refine⟨⟨l.toArray⟩,rfl,?_⟩;have hc:∀i,i<n->w.cell? ⟨g,0+i,none⟩=some (.int .u8 ((l.map fun x=>(x.toNat:Int)).getD i 0)):=by
   intro i hi;have h8:=World.ownsRow.cellAt h i (by omega);rw[me,h8,lZ,mj];unfold Lib.byteCells;rw[mj,lu (by omega)];rfl
  rw[run_convert_bytes_arg w 143 5 my nV g 0 n tc (l.map fun x=>(x.toNat:Int)) (by simp[hl]) hc 9 mS];congr 2;apply pH;apply po.1;rw[strOfNums_data,List.map_map];show _=l
  conv=>rhs;rw[<-List.map_id l]
  apply List.map_congr_left;intro x _;simp
def UT (r x:Nat) (w:World) (e:Ending) (w':World):Prop:=∃t:ByteArray,e= .returned (.string t)/\t.data.toList=Ar r x/\Below w.heap.size w w'
set_option maxRecDepth 100000 in
set_option maxHeartbeats 8000000 in
theorem jE (v:Value) (x m r:Nat) (w:World) (hm:m<=1000000) (hr:2<=r) (rL:r<=36) (hv:Hid (Dr w v x m)) (hT:T2 x m):
  Calls prog 104 #[.agg #[.bool false,v],.int .i64 r] w (UT r x w):=by
 obtain⟨a,c,rfl⟩:=hv.o.slice;obtain⟨i0,hi,qX,qg,qe⟩:=nw Nd;have HT:=lK hT;clear hT;go_enter func104,ntmps104;by_cases h0:m=0
 ·subst h0;have tE:x=0:=HT.o.Ao.1 rfl;subst tE;go_wp2;go_ret;exact⟨⟨#[48]⟩,rfl,rfl,Bzz _⟩
 ·have h0':((m:Int)==0)=false:=by rw[nD];intro h;have:=eq_of_beq h;omega
  have tE:x≠0:=fun h=>h0 (HT.o.Ao.2 h)
  go_wp2_with fail
  generalize hW:w.alloc _=W1;have bl:Below w.heap.size w W1:=by subst hW;exact Bzz _
  have c0:W1.cell? ⟨w.heap.size,0,none⟩=some (.bool false):=by subst hW;go_simp
  have c1:W1.cell? ⟨w.heap.size,1,none⟩=some (.slice a m c):=by subst hW;go_simp
  have tg:w.heap.size<W1.heap.size:=by subst hW;simp
  have sj:=lK (hv.o.below bl);clear hW;have T0:TT r x W1.heap.size W1 x m [] (.slice a m c) (.slice none 0 0) W1:=⟨HT.o,by simp,sj.o,mq _ _ _ _,Below.refl _ _,lM _⟩;have HX:=lK tE;have sH:=lK bl;clear h0 tE bl
  go_loopw [5,6] (fun out l wr=>∃(X k:Nat) (ds:List Nat),k<=m/\TT r x W1.heap.size W1 X k ds l out wr/\ds.length+k<=m) (fun _ l _=>match l with| .slice _ n _=>n|_=>0)
  case atStart=>exact⟨x,m,[],lM _,T0,by simp⟩
  case round=>
   obtain⟨X,k,ds,hk,hq,ur⟩:=hrel;obtain⟨oa,oc,ho⟩:=Bz hq.own;subst ho;obtain⟨la,lc,hl⟩:=hq.bits.slice;subst hl;rcases mh k with hkz|hkp
   ·subst hkz;have hX:X=0:=hq.tight.Ao.1 rfl;subst hX;have vw:FF r x=ds:=by have:=hq.Ca;rwa [Dm,nj]at this
    obtain⟨L,hL⟩:∃L,L=ds.map Fc:=⟨_,rfl⟩;have wR:L.length=ds.length:=by rw[hL,nN]
    have qT:0<L.length:=by rw[wR,<-vw,DB hr HX.o,nF];omega
    obtain⟨h,rfl,hgh,qK⟩:=KG hq.own hL qT;rw[<-wR];have NL:Hid (Ar r x=L.reverse):=lK (by unfold Ar;rw[lL HX.o,vw,hL]);have E0:wr.cell? ⟨w.heap.size,0,none⟩=some (.bool false):=(hq.Ac.cell (p:=⟨w.heap.size,0,none⟩) tg).trans c0;have ys:=lK (sH.o.trans (hq.Ac.mono (by omega)));have hL32:L.length<=1000000:=by omega
    have hrl:=qK.lt;have HR:=lK qK;have HPOS:Hid (0<L.length-0):=lK (by omega);clear vw hL wR hq qK T0 hv HT qT;go_wp2;obtain⟨wo,rfl⟩:∃wo:World,wo=wr:=⟨_,rfl⟩
    go_loopw [10,11] (fun tv iv ww=>∃(q:Nat),q<=L.length/\iv= .int .i64 ((q:Int)-1)/\ww.ownsRow wo.heap.size 5 1 tv (L.length-q) (Lib.byteCells (L.reverse.take (L.length-q)))/\Below wo.heap.size wo ww/\wo.heap.size<=ww.heap.size) (fun _ iv _=>(intOf iv+1).toNat)
    case atStart=>exact⟨L.length,lM _,by go_num,by rw[oj];exact mq _ _ _ _,Below.refl _ _,lM _⟩
    case round=>
     obtain⟨q,hqL,rfl,qD,qq,rH⟩:=hrel;obtain⟨ta,tc,htv⟩:=Bz qD;subst htv;cases q with
     |zero=>
      obtain⟨t,ht,sX⟩:=Ol qD HPOS.o;rw[nO (by rw[pP];omega)]at ht;have tM:=lK (ys.o.trans (qq.mono (by have:=ys.o.size;omega)));rw[Nat.sub_zero]at sX;clear qD qq;go_wp2;go_ret;exact⟨t,rfl,by rw[ht,NL.o],tM.o⟩
     |succ q=>
      have tO:((q+1:Nat):Int)-1=(q:Int):=by omega
      rw[tO];have q0:decide ((0:Int)<=(q:Int))=true:=lU (by omega);have hqi:(q:Int)<(L.length:Int):=by omega
      obtain⟨ch,zP⟩:∃ch:Nat,ch=(L.getD q 0).toNat:=⟨_,rfl⟩;have qW:wr.cell? ⟨h,q,none⟩=some (.int .u8 ch):=by rw[zP];exact(qq.cell (p:=⟨h,q,none⟩) hrl).trans (HR.o.cell (by omega))
      have HN:Hid (Lib.byteCells (L.reverse.take (L.length-q))=Lib.byteCells (L.reverse.take (L.length-(q+1)))++ [.int .u8 (ch:Nat)]):=lK (by
       have e:L.length-q=L.length-(q+1)+1:=by omega
       have e2:L.length-1-(L.length-(q+1))=q:=by omega
       rw[e,List.take_succ_eq_append_getElem (by rw[pP];omega)];unfold Lib.byteCells;rw[oC,List.map_singleton,List.getElem_reverse,zP];simp only[e2,lZ,lu (show q<L.length by omega),Option.getD_some])
      have HQ:=lK (show L.length-q=L.length-(q+1)+1 by omega);clear zP
      go_wp2_with (at_builtin;refine oA _ rfl _ _ 143 rfl wo.heap.size 5 i0 (.int .u8 0) 1 1 my hi qX qg qe rfl (by decide) _ _ _ rfl (qD.alloc _) ⟨wr.heap.size,0,none⟩ 1 1 [.int .u8 (ch:Nat)] rfl rfl ?c1 ?c2 ?c3 ?c4 ?c5 ?_)
      case c1=>
       intro j u hj
       match j,hj with
       |0,hj=>simp at hj;subst hj;simp[Addr.add]
      case c2=>intro u hu;simp at hu;subst hu;rfl
      case c3=>unfold maxLen;omega
      case c4=>omega
      case c5=>simp;omega
      intro v' w2 hown' qC _;rw[<-HN.o,<-HQ.o]at hown';have qM:=lK ((qq.alloc rH (.cells #[.int .u8 (ch:Nat)] 5)).grown qC (by simp;omega) (fun b hb=>by have:=(qD.lt b hb).1;omega));have HO:=lK hown';have yP:=qC.size;have HS:Hid (wo.heap.size<=w2.heap.size):=lK (by simp at yP;omega);clear qD qq hown' qC yP;go_wp2;go_roundw
      case rel=>exact⟨q,by omega,by go_num,HO.o,qM.o,HS.o⟩
      case measure=>simp[intOf]
   ·have hX0:X≠0:=fun h=>by have:=hq.tight.Ao.2 h;omega
    obtain⟨M,hM,hM0,hmk⟩:=S9 k (by omega);have I0:TI r X k wr.heap.size wr k 0 (wr.alloc (.cells M 3)):=TI.start hq.tight.1 hM hM0;have HQ:=lK hq;have uC:=lK hX0;have HDK:=lK ur;clear hM hM0 hq hX0;obtain⟨wo,rfl⟩:∃wo:World,wo=wr:=⟨_,rfl⟩;go_wp2
    go_loopw [7,9] (fun rv iv ww=>∃(i R:Nat),rv= .int .i64 R/\iv= .int .i64 ((i:Int)-1)/\TI r X k wo.heap.size wo i R ww) (fun _ iv _=>(intOf iv+1).toNat)
    case atStart=>exact⟨k,0,rfl,by go_num,I0⟩
    case round=>
     obtain⟨i,R,rfl,rfl,qN⟩:=hrel;have HI:=lK qN;have ll:=qN.le;cases i with
     |zero=>
      have hn:R=X %r:=by rw[qN.rest];simp
      have vx:R<36:=by rw[hn];have:=mw X (show 0<r by omega);omega
      have hal:=Ic R vx;have hXr:X/r<2^k:=mG (pN _ _) HQ.o.tight.1;have vL:=lK (qN.done hXr (by omega));have HN:=lK hn;have sU:=lK (HQ.o.below qN.Ac);have qD:=sU.o.own;have hwsz:=sU.o.le;clear hn hXr qN
      go_wp2_with (go_at_call 127;(with_reducible refine(UF _ (X/r) k _ vL.o).mono ?_))
      rintro e w' ⟨k2,ht,rfl,rfl⟩;have sW:=ht.half (h:=HQ.o.tight) uC.o (Nat.div_le_div_left hr (by decide));have HCUT:=lK (vL.o.cut (by omega) ht.1);have vR:=lK sW;have hdl:ds.length<=1000000:=by omega
      clear sW
      go_wp2_with (at_builtin;refine oA _ rfl _ _ 143 rfl W1.heap.size 5 i0 (.int .u8 0) 1 1 my hi qX qg qe rfl (by decide) _ _ _ rfl (qD.alloc _) ⟨wr.heap.size,0,none⟩ 1 1 [.int .u8 ((Fc R).toNat:Nat)] rfl rfl ?c1 ?c2 ?c3 ?c4 ?c5 ?_)
      case c1=>
       intro j u hj
       match j,hj with
       |0,hj=>simp at hj;subst hj;simp[Addr.add]
      case c2=>intro u hu;simp at hu;subst hu;rfl
      case c3=>unfold maxLen;omega
      case c4=>omega
      case c5=>simp;omega
      intro v' w2 hown' qC _;obtain⟨va,vc,vg⟩:=Bz hown';subst vg;have HTT:Hid (TT r x W1.heap.size W1 (X/r) k2 (ds++ [R]) (.slice (some ⟨wo.heap.size,0,none⟩) k2 k) (.slice va (ds.length+1) vc) w2):=lK (by
       have hgs:=qC.size;simp at hgs;have yU:some wo.heap.size≠(Value.slice oa ds.length oc).ownBlock:=fun e=>by have:=(HQ.o.own.lt _ e.symm).2;omega
       have J5:=HI.o.row.lt;refine⟨ht,?_,HCUT.o.block ?_ (by omega),?_,?_,by omega⟩
       ·rw[HQ.o.Ca,DB hr uC.o,<-HN.o,pJ];rfl
       ·rw[qC.block wo.heap.size (by simp;omega) yU];exact Lib.alloc_old wr _ _ J5
       ·have e:Lib.byteCells ((ds++ [R]).map Fc)=Lib.byteCells (ds.map Fc)++ [.int .u8 ((Fc R).toNat:Nat)]:=by simp[Lib.byteCells]
        rw[e,l6,List.length_singleton];exact hown'
       ·exact(sU.o.Ac.alloc (by omega) _).grown qC (by simp;omega) (fun b hb=>by have:=(qD.lt b hb).1;omega))
      clear qD hown' qC;go_wp2;go_roundw
      case rel=>exact⟨X/r,k2,ds++ [R],by have:=vR.o;omega,HTT.o,by have:=vR.o;simp;have:=HDK.o;omega⟩
      case measure=>have:=vR.o;simp;omega
     |succ i=>
      obtain⟨g2,o2,hga,qW⟩:=(HQ.o.bits.below (w':=wr) qN.Ac).cellAt (j:=i) (by omega);subst hga;obtain⟨b,hb⟩:∃b,b=Bn X i:=⟨_,rfl⟩;obtain⟨R',xi⟩:∃R',R'=X/2^i %r:=⟨_,rfl⟩;obtain⟨n1,n2⟩:=Sy (X:=X) (r:=r) (i:=i) (by omega);have b2:=IY X i;have Rb:R<r:=by rw[qN.rest];exact mw _ (by omega)
      rw[<-qN.rest,<-hb]at n1 n2;rw[<-hb]at qW b2;rw[<-xi]at n1;have tO:((i+1:Nat):Int)-1=(i:Int):=by omega
      rw[tO];have q0:decide ((0:Int)<=(i:Int))=true:=lU (by omega);have ui:(i:Int)<(k:Int):=by omega
      obtain⟨t,ht⟩:∃t,t=2*R+b:=⟨_,rfl⟩;have e1:2*(R:Int)+(b:Int)=(t:Int):=by omega
      rw[<-ht]at n1 n2;have tb:(t:Int)<=72:=by omega
      have bb:(b:Int)<=1:=by omega
      have rb:(R:Int)<=36:=by omega
      by_cases hrt:r<=t
      ·have f1:R'=t-r:=by
        rw[<-n1,Nat.mod_eq_sub_mod hrt,mv (by omega)]
       have f2:Bn (X/r) i=1:=by
        rw[n2];exact pQ (by omega) (by omega)
       have e2:(t:Int)-(r:Int)=(R':Int):=by omega
       have HO:=lK (qN.one xi f2);have hold:=qN.row.cell (j:=i) (by omega);have hfz:=qN.row.frozen i;obtain⟨ov,wB⟩:∃ov:Value,ov=PR X r (i+1) i:=⟨_,rfl⟩;rw[<-wB]at hold;have g1:decide ((r:Int)<=(t:Int))=true:=lU (by omega);clear n1 n2 hb xi qN ht f1 f2 wB;go_wp2;go_roundw
       case rel=>exact⟨i,R',by go_num,by go_num,HO.o⟩
       case measure=>simp[intOf]
      ·have f1:R'=t:=by rw[<-n1,mv (by omega)]
       have f2:Bn (X/r) i=0:=by rw[n2];exact nJ (by omega)
       have HO:=lK (qN.next xi f2);have HF:=lK f1;have g1:decide (r<=t)=false:=lO hrt;clear n1 n2 hb xi qN ht f1 f2;go_wp2;go_roundw
       case rel=>exact⟨i,R',by rw[HF.o],by go_num,HO.o⟩
       case measure=>simp[intOf]
end Go.Proofs
namespace Go.Rb
open Go.Pf
def GY (X r d k:Nat):Nat:=(X %2^k*r+d)/2^k
theorem Ml (X r d:Nat):GY X r d 0=d:=by simp[GY,Nat.mod_one]
theorem Hu (X r d k:Nat):(X*r+d)/2^k=X/2^k*r+GY X r d k:=by
 have h1:2^k*(X/2^k)+X %2^k=X:=oD X _;have e:X*r+d=(X %2^k*r+d)+2^k*(X/2^k*r):=by
  conv=>lhs;rw[<-h1]
  rw[mI,l5];omega
 rw[e,Nat.add_mul_div_left _ _ (lj k)];unfold GY;omega
theorem Rv {X r d:Nat}(h:d<r) (k:Nat):GY X r d k<r:=by
 unfold GY;rw[mY (lj k)];have h1:X %2^k<2^k:=mw _ (lj k);have h2:(X %2^k+1)*r<=2^k*r:=lV r h1;rw[mI,nE]at h2;rw[mR r];omega
theorem MT (X r d k:Nat):(Bn X k*r+GY X r d k) %2=Bn (X*r+d) k/\(Bn X k*r+GY X r d k)/2=GY X r d (k+1):=by
 have e:X/2^k=2*(X/2^(k+1))+Bn X k:=by
  rw[l9,<-mf];unfold Bn;omega
 have h1:=Hu X r d k;have h2:=Hu X r d (k+1);have e3:(X*r+d)/2^(k+1)=(X*r+d)/2^k/2:=by rw[l9,mf]
 rw[e,mI,l5]at h1;rw[e3,h1]at h2;constructor
 ·have:Bn (X*r+d) k=(X*r+d)/2^k %2:=rfl;rw[this,h1];generalize X/2^(k+1)*r=p;omega
 ·generalize X/2^(k+1)*r=p at*;omega
end Go.Rb
namespace Go.Proofs
open Go.RowKit Go.Pf Go.Rb
theorem Ns (c:Nat) (hc:c<256) (w:World):Calls prog 125 #[.int .u8 c] w fun e w'=>e= .returned (.int .i64 (Cv c))/\w=w':=by
 have ci:(c:Int)<=255:=by omega
 by_cases h1:48<=c/\c<=57
 ·obtain⟨d,hd⟩:∃d,d=c-48:=⟨_,rfl⟩;have hr:Cv c=d:=by unfold Cv;rw[lQ h1,hd]
  have e1:(c:Int)-48=d:=by omega
  have g1:decide (48<=c)=true:=lU h1.1;have g2:decide (c<=57)=true:=lU h1.2;have g3:decide ((48:Int)<=c)=true:=lU (by omega);have g4:decide ((c:Int)<=57)=true:=lU (by omega);rw[hr];clear h1 hr hd;go_enter func125,ntmps125;go_wp2;go_ret;exact⟨rfl,rfl⟩
 ·have g1:(decide ((48:Int)<=c)=true/\decide ((c:Int)<=57)=false)\/decide ((48:Int)<=c)=false:=by
   by_cases h:48<=c
   ·exact .inl ⟨lU (by omega),lO (by omega)⟩
   ·exact .inr (lO (by omega))
  by_cases h2:97<=c/\c<=122
  ·obtain⟨d,hd⟩:∃d,d=c-97+10:=⟨_,rfl⟩;have hr:Cv c=d:=by unfold Cv;rw[lL h1,lQ h2,hd]
   have e1:(c:Int)-97+10=d:=by omega
   have g3:decide ((97:Int)<=c)=true:=lU (by omega);have g4:decide ((c:Int)<=122)=true:=lU (by omega);have g5:(97:Int)<=c:=by omega
   have g6:(c:Int)<=122:=by omega
   rw[hr];clear h1 h2 hr hd;rcases g1 with⟨a,b⟩|a
   all_goals
    go_enter func125,ntmps125;go_wp2;go_ret;exact⟨rfl,rfl⟩
  ·have g2:(decide ((97:Int)<=c)=true/\decide ((c:Int)<=122)=false)\/decide ((97:Int)<=c)=false:=by
    by_cases h:97<=c
    ·exact .inl ⟨lU (by omega),lO (by omega)⟩
    ·exact .inr (lO (by omega))
   by_cases h3:65<=c/\c<=90
   ·obtain⟨d,hd⟩:∃d,d=c-65+10:=⟨_,rfl⟩;have hr:Cv c=d:=by unfold Cv;rw[lL h1,lL h2,lQ h3,hd]
    have e1:(c:Int)-65+10=d:=by omega
    have g3:decide ((65:Int)<=c)=true:=lU (by omega);have g4:decide ((c:Int)<=90)=true:=lU (by omega);have g5:(65:Int)<=c:=by omega
    have g6:(c:Int)<=90:=by omega
    rw[hr];clear h1 h2 h3 hr hd;rcases g1 with⟨a,b⟩|a<;>rcases g2 with⟨a2,b2⟩|a2
    all_goals
     go_enter func125,ntmps125;go_wp2;go_ret;exact⟨rfl,rfl⟩
   ·have g3:(decide ((65:Int)<=c)=true/\decide ((c:Int)<=90)=false)\/decide ((65:Int)<=c)=false:=by
     by_cases h:65<=c
     ·exact .inl ⟨lU (by omega),lO (by omega)⟩
     ·exact .inr (lO (by omega))
    have hr:Cv c=99:=by unfold Cv;rw[lL h1,lL h2,lL h3]
    rw[hr];clear h1 h2 h3 hr;rcases g1 with⟨a,b⟩|a<;>rcases g2 with⟨a2,b2⟩|a2<;>rcases g3 with⟨a3,b3⟩|a3
    all_goals
     go_enter func125,ntmps125;go_wp2;go_ret;exact⟨rfl,rfl⟩
theorem iH:LE=4096:=rfl
def Hg (X:Nat) (w:World) (e:Ending) (w':World):Prop:=
 (X<2^LE->∃(sl:Value) (m:Nat),e= .returned (.tuple #[.agg #[.bool false,sl],.int .i64 0])/\T2 X m/\Dr w' sl X m/\Below w.heap.size w w')/\
 (¬X<2^LE->e= .returned (.tuple #[.agg #[.bool false,.slice none 0 0],.int .i64 10])/\Below w.heap.size w w')
theorem Lm {X m:Nat}(h:T2 X m):4096<m↔¬X<2^LE:=by
 rw[<-iH];generalize LE=E;constructor
 ·intro hm hx;have:=h.le (m:=E) hx (lM _);omega
 ·intro hx;rcases ls E m with h1|h1
  ·exact h1
  ·exact absurd (lR h.1 (lX (by decide) h1)) hx
set_option maxRecDepth 100000 in
set_option maxHeartbeats 8000000 in
theorem fE (s:ByteArray) (r:Nat) (w:World) (qT:0<s.size) (hs:s.size<=4611686018427387904) (hr:2<=r) (rL:r<=36) (hd:Hid (∀k,k<s.size->Cv (byte s k)<r)):
  Calls prog 103 #[.string s,.int .i64 r] w (Hg (vN r s s.size) w):=by
 obtain⟨i0,hi,qX,qg,qe⟩:=nw OL;have HB:Hid (∀k (h:k<s.size),s[k].toNat=byte s k):=lK (fun k h=>(DA h).symm);have qP:s.toList.isEmpty=false:=by
  rw[ph];have h1:s.data.toList.length=s.size:=by simp
  cases h:s.data.toList with
  |nil=>rw[h]at h1;simp at h1;omega
  |cons a b=>rfl
 have hne2:decide (s=ByteArray.empty)=false:=lO (by intro h;rw[h]at qT;simp at qT);have R1:decide ((r:Int)<2)=false:=lO (by omega);have R2:decide ((36:Int)<r)=false:=lO (by omega);have P0:decide ((0:Int)<s.size)=true:=lU (by omega);have D0:Hid (Cv s[0].toNat<r):=lK (by rw[HB.o 0 qT];exact hd.o 0 qT);have h45:((s[0].toNat:Int)==45)=false:=DC (n:=45) (by
  intro e;have:=D0.o;rw[e]at this;have:Cv 45=99:=by decide
  omega)
 have HP:=lK qT;obtain⟨X,hX⟩:∃X,X=vN r s s.size:=⟨_,rfl⟩;rw[<-hX];have HX:=lK hX;clear hX;go_enter func103,ntmps103;go_wp2;generalize hW1:w.alloc _=W1;have tok:Tok W1 w.heap.size:=by subst hW1;exact Tok.ie w
 have bl:Below w.heap.size w W1:=by subst hW1;exact Bzz _
 have tg:w.heap.size<W1.heap.size:=by subst hW1;simp
 have HW:=lK hW1;clear hW1
 go_loop [7] (fun i=>∃k:Nat,k<=s.size/\i= .int .i64 k) (fun i=>s.size-(intOf i).toNat)
 case atStart=>exact⟨0,by omega,rfl⟩
 case round=>
  obtain⟨k,hk,rfl⟩:=hrel;by_cases qE:k<s.size
  ·have ur:=hd.o k qE;rw[<-HB.o k qE]at ur;have hc:s[k].toNat<256:=s[k].toNat_lt;have b6:decide (r<=Cv s[k].toNat)=false:=lO (by omega);have b7:decide ((r:Int)<=(Cv s[k].toNat:Nat))=false:=lO (by omega);have HDK:=lK ur;clear ur
   go_wp2_with (go_at_call 125;(with_reducible refine(Ns s[k].toNat hc _).mono ?_);rintro e w' ⟨rfl,rfl⟩)
   go_round
   case rel=>exact⟨k+1,by omega,by go_num⟩
   case measure=>simp[intOf];omega
  ·have uc:k=s.size:=by omega
   clear qE hk;go_wp2;have ql:Dr W1 (.slice none 0 0) (vN r s 0) 0:= .inl ⟨rfl,rfl,rfl⟩
   go_loopw [8,9] (fun bv iv wr=>∃(k m:Nat),k<=s.size/\iv= .int .i64 k/\Dr wr bv (vN r s k) m/\T2 (vN r s k) m/\Below W1.heap.size W1 wr/\m<=4102) (fun _ iv _=>s.size-(intOf iv).toNat)
   case atStart=>exact⟨0,0,by omega,rfl,ql,⟨by simp[vN],.inl rfl⟩,Below.refl _ _,by omega⟩
   case round=>
    obtain⟨k,m,hk,rfl,vW,ht,qF,hm⟩:=hrel;obtain⟨la,lc,hl⟩:=vW.slice;subst hl;by_cases yU:k<s.size/\m<=4096
    ·obtain⟨qE,hm4⟩:=yU;have g1:decide (k<s.size)=true:=lU qE;have g2:decide (m<=4096)=true:=lU hm4;have g3:decide ((m:Int)<=4096)=true:=lU (by omega);have hc:s[k].toNat<256:=s[k].toNat_lt;obtain⟨Y,hY⟩:∃Y,Y=vN r s k:=⟨_,rfl⟩;obtain⟨d,rr⟩:∃d,d=Cv s[k].toNat:=⟨_,rfl⟩;have tP:d<r:=by rw[rr,HB.o k qE];exact hd.o k qE
     have HN:Hid (vN r s (k+1)=Y*r+d):=lK (by rw[vN,<-hY,rr,HB.o k qE]);have CD:Hid (∀W,Calls prog 125 #[.int .u8 (s[k].toNat:Int)] W fun e w'=>e= .returned (.int .i64 (d:Nat))/\W=w'):=lK (fun W=>by rw[rr];exact Ns _ hc W);rw[<-hY]at vW ht;have HBV:=lK vW;have HT:=lK ht;have yB:=lK qF;have wI:=lK tP;clear hY rr vW ht qF tP;obtain⟨wo,rfl⟩:∃wo:World,wo=wr:=⟨_,rfl⟩
     go_wp2_with (go_at_call 125;(with_reducible refine(CD.o _).mono ?_);rintro e w' ⟨rfl,rfl⟩)
     go_loopw [10,11,12] (fun cr out jv ww=>∃j:Nat,jv= .int .i64 j/\cr= .int .i64 (GY Y r d j)/\OB wo.heap.size wo (Y*r+d) j out ww/\(j<=m\/j+GY Y r d j<=m+36)) (fun cr _ jv _=>(m-(intOf jv).toNat)*64+(intOf cr).toNat)
     case atStart=>exact⟨0,rfl,by rw[Ml],⟨mq _ _ _ _,Below.refl _ _,lM _⟩,.inl (by omega)⟩
     case round=>
      obtain⟨j,rfl,rfl,uv,hj⟩:=hrel;obtain⟨oa,oc,ho⟩:=Ko uv.own;subst ho;have hlc:=Rv wI.o j (X:=Y);obtain⟨q,hq⟩:∃q,q=GY Y r d j:=⟨_,rfl⟩;obtain⟨p,hp⟩:∃p,p=Bn Y j:=⟨_,rfl⟩;have qj:=IY Y j;obtain⟨n1,n2⟩:=MT Y r d j;obtain⟨t,sU⟩:∃t,t=p*r+q:=⟨_,rfl⟩;rw[<-hq]at hlc hj n1 n2⊢;rw[<-hp]at qj n1 n2;rw[<-sU]at n1 n2;obtain⟨t1,sE⟩:∃t1,t1=t %2:=⟨_,rfl⟩;obtain⟨t2,we⟩:∃t2,t2=t/2:=⟨_,rfl⟩;have b1:=lK (HBV.o.below (w':=wr) uv.Ac);have CB:Hid (Calls prog 126 #[.slice la m lc,.int .i64 j] wr fun e w'=>e= .returned (.int .i64 p)/\wr=w'):=lK (by rw[hp];exact gm _ Y m j wr b1);have wm:p*r<=36:=by
       have:p=0\/p=1:=by omega
       rcases this with rfl|rfl<;>omega
      have e0:(p:Int)*(r:Int)=((p*r:Nat):Int):=by push_cast;rfl
      have e0b:0<=(p:Int)*(r:Int):=by rw[e0];omega
      have e0c:(p:Int)*(r:Int)<=36:=by rw[e0];omega
      have e1:(p:Int)*(r:Int)+(q:Int)=(t:Int):=by rw[e0];omega
      have e2:(t:Int) %2=(t1:Int):=by omega
      have e3:(t:Int)/2=(t2:Int):=by omega
      have vE:Hid (Bn (Y*r+d) j=t1):=lK (by rw[<-n1,sE]);have tM:Hid (GY Y r d (j+1)=t2):=lK (by rw[<-n2,we]);have qb:(q:Int)<=36:=by omega
      have pb:(p:Int)<=1:=by omega
      have tb:(t:Int)<=72:=by omega
      have HOB:=lK uv;have qD:=uv.own;have rH:=uv.le;have jb:j<=5000:=by omega
      by_cases hcont:j<m\/0<q
      ·have uw:Hid ((j+1<=m\/j+1+t2<=m+36)/\(m-(j+1))*64+t2<(m-j)*64+q):=lK (by
        rcases ls j m with h|h
        ·exact⟨.inl (by omega),by omega⟩
        ·have pz:p=0:=by rw[hp];exact GJ HT.o.1 (by omega)
         have:t=q:=by rw[sU,pz];omega
         have q0:0<q:=by
          rcases hcont with h1|h1
          ·omega
          ·exact h1
         constructor
         ·right;rcases hj with h1|h1
          ·omega
          ·omega
         ·omega)
       have guard:decide (j<m)=true\/(decide (j<m)=false/\decide (0<q)=true):=by
        rcases ls j m with h|h
        ·exact .inl (lU h)
        ·rcases hcont with h1|h1
         ·omega
         ·exact .inr ⟨lO (by omega),lU h1⟩
       clear hcont hq hp sU n1 n2 sE we uv hj hlc qj wm e0;rcases guard with a1|⟨a1,a2⟩
       all_goals
        go_wp2_with (first|(go_at_call 126;(with_reducible refine CB.o.mono ?_);rintro e w' ⟨rfl,rfl⟩)|(at_builtin;refine oA _ rfl _ _ 44 rfl wo.heap.size 3 i0 (.int .i64 0) 1 8 underlying44 hi qX qg qe rfl (by decide) _ _ _ rfl (qD.alloc _) ⟨wr.heap.size,0,none⟩ 1 1 [.int .i64 (t1:Nat)] rfl rfl ?c1 ?c2 ?c3 ?c4 ?c5 ?_))
        case c1=>
         intro j u hj
         match j,hj with
         |0,hj=>simp at hj;subst hj;simp[Addr.add]
        case c2=>intro u hu;simp at hu;subst hu;rfl
        case c3=>unfold maxLen;omega
        case c4=>omega
        case c5=>simp;omega
        intro v' w2 hown' qC _;have sR:=lK (HOB.o.next vE.o hown' qC);clear hown' qC;go_wp2;go_roundw
        case rel=>exact⟨j+1,by go_num,by rw[tM.o],sR.o,by rw[tM.o];exact uw.o.1⟩
        case measure=>have:=uw.o.2;simp[intOf];omega
      ·have a1:decide (j<m)=false:=lO (by omega);have a2:decide (0<q)=false:=lO (by omega);have wD:Y*r+d<2^j:=by
        have h1:=Hu Y r d j;rw[nJ (lR HT.o.1 (lX (by decide) (by omega))),<-hq]at h1;have h2:(Y*r+d)/2^j=0:=by omega
        exact(ox (lj j)).1 h2
       have HV:=lK (Dr.EW qD wD);have sH:=lK uv.Ac;have HFIN:=lK wD;clear hcont hq hp sU n1 n2 sE we uv hj hlc qj wm e0 qD wD HOB
       go_wp2_with (go_at_call 127;(with_reducible refine(UF _ (Y*r+d) j _ HV.o).mono ?_))
       rintro e w' ⟨m',ht',rfl,rfl⟩;have hm6:m'<=m+6:=by
        have hY:=HT.o.1;have hDR:=wI.o;refine ht'.le (x:=Y*r+d) ?_ (lM _);have h1:Y*r+d<2^m*r:=by
         have:=lV r (show Y+1<=2^m from hY);rw[mI,nE]at this;omega
        refine lR h1 ?_;rw[lW];exact mU _ (by omega)
       have HBV2:=lK (HV.o.cut (T2.le ht' HFIN.o (lM _)) ht'.1);go_wp2;go_roundw
       case rel=>exact⟨k+1,m',by omega,by go_num,by rw[HN.o];exact HBV2.o,by rw[HN.o];exact ht',yB.o.trans (sH.o.mono yB.o.size),by omega⟩
       case measure=>simp[intOf];omega
    ·have tk:=tok.below qF;have x0:=tk.c0;have x1:=tk.c1;have y0:=tk.f 0;have y1:=tk.f 1;have BL:=lK (bl.trans (qF.mono (by omega)));by_cases hm4:m<=4096
     ·have yA:k=s.size:=by omega
      subst yA;rw[<-HX.o]at vW ht;have g1:decide (s.size<s.size)=false:=lO (by omega);have g3:decide (4096<m)=false:=lO (by omega);have g5:decide ((4096:Int)<m)=false:=lO (by omega);have zO:X<2^LE:=by
       apply mM;intro h;have:=(Lm ht).2 h;omega
      have sK:Hid (∀a m' c w',T2 X m'->Dr w' (.slice a m' c) X m'->Below w.heap.size w w'->Hg X w (.returned (.tuple #[.agg #[.bool false,.slice a m' c],.int .i64 0])) w'):=lK (fun a m' c w' h1 h2 h3=>by
       exact⟨fun _=>⟨_,m',rfl,h1,h2,h3⟩,fun h=>absurd zO h⟩)
      have CL:=lK (Rm false false (.slice la m lc) X m w.heap.size W1 wr (lK vW) tk qF rfl);clear yU vW ht qF zO x0 x1 y0 y1 tk ql
      go_wp2_with (go_at_call 128;(with_reducible refine CL.o.mono ?_))
      rintro e W3 ⟨⟨ra,rm,rc,rfl,ht3,x0,x1,y0,y1,wT,b3⟩⟩;have HV3:=lK wT;have B3:=lK b3;clear wT b3;go_wp2;refine lS (v:= .tuple #[.agg #[.bool false,.slice ra rm rc],.int .i64 0]) ?_ rfl (sK.o _ _ _ _ ht3 HV3.o ?_)
      ·simp only[results,results103];go_simp
      ·iterate 2 refine Below.setCell ?_ (by simp) _
       exact bl.trans (B3.o.mono (by omega))
     ·have yk:¬X<2^LE:=by
       have h1:=(Lm ht).1 (by omega);have h2:=Ep (r:=r) (by omega) s hk;rw[<-HX.o]at h2;intro h3;exact h1 (mG h2 h3)
      have sK:Hid (∀w',Below w.heap.size w w'->Hg X w (.returned (.tuple #[.agg #[.bool false,.slice none 0 0],.int .i64 10])) w'):=lK (fun w' h3=>by
       exact⟨fun h=>absurd h yk,fun _=>⟨rfl,h3⟩⟩)
      have g2:decide (m<=4096)=false:=lO hm4;have g3:decide (4096<m)=true:=lU (by omega);have g4:decide ((m:Int)<=4096)=false:=lO (by omega);have g5:decide ((4096:Int)<m)=true:=lU (by omega);have gg:decide (k<s.size)=true\/decide (k<s.size)=false:=by cases decide (k<s.size)<;>simp
      clear yU vW ht qF yk tk ql hm4;rcases gg with g1|g1
      all_goals
       go_wp2;refine lS (v:= .tuple #[.agg #[.bool false,.slice none 0 0],.int .i64 10]) ?_ rfl (sK.o _ ?_)
       ·simp only[results,results103];go_simp
       ·first
         |exact BL.o
         | ((iterate 2 refine Below.setCell ?_ (by simp) _);exact BL.o)
end Go.Proofs
namespace Go.Proofs
open Go.RowKit Go.Bg Go.Hb Go.Lx Go.Rb Go.Pf Go.Pz
theorem No {b:Nat}(hb:Rc b):∃e:Nat,bits BinOp.and IntKind.u64 ((b:Int)/4503599627370496) 2047=(e:Int)/\((e:Int) !=2047)=true/\((b:Int) !=9223372036854775808)=true:=by
 obtain⟨h1,h2,h3⟩:=hb;unfold AW at h2;refine⟨b/4503599627370496 %2048,?_,?_,?_⟩
 ·have h:=u64_and_nat (b/4503599627370496) 2047 (by omega) (by omega);rw[show(2047:Nat)=2^11-1 by decide,oN]at h;have e:((b/4503599627370496:Nat):Int)=(b:Int)/4503599627370496:=by omega
  rw[<-e];exact h
 ·rw[pA];intro h;omega
 ·rw[pA];intro h;omega
theorem WU (b:Nat) (w:World) (hb:Rc b):Calls prog 77 #[.int .u64 b] w fun e w'=>e= .returned (.bool true)/\Below w.heap.size w w':=by
 obtain⟨e,f1,f2,f3⟩:=No hb;clear hb;go_enter func77,ntmps77;go_wp2;go_ret;exact⟨rfl,Below.refl _ _⟩
theorem S7 (A:ByteArray) (ng:Bool) (x:Nat) (w:World)
  (CP:∀W,Calls prog 103 #[.string A,.int .i64 10] W fun e w'=>∃(a:Option Addr) (m c:Nat),e= .returned (.tuple #[.agg #[.bool ng,.slice a m c],.int .i64 0])/\T2 x m/\m<=4096/\Dr w' (.slice a m c) x m/\Below W.heap.size W w')
  (CT:∀W v m,m<=1000000->Dr W v x m->T2 x m->Calls prog 104 #[.agg #[.bool ng,v],.int .i64 10] W fun e w'=>e= .returned (.string A)/\Below W.heap.size W w'):
  Calls prog 76 #[.string A] w fun e w'=>e= .returned (.bool true)/\Below w.heap.size w w':=by
 have HP:=lK CP;have HT:=lK CT;clear CP CT;go_enter func76,ntmps76
 go_wp2_with (go_at_call 103;(with_reducible refine(HP.o _).mono ?_);rintro e W1 ⟨a,m,c,rfl,t2,hm,hbt,b1⟩)
 have T2':=lK t2;have HM:=lK hm;have HB:=lK hbt;have B1:=lK b1;clear t2 hm hbt b1 HP;have BX:Hid (∀o,Below w.heap.size w (W1.alloc o)):=lK (fun o=>B1.o.trans ((Bzz o).mono B1.o.size));have HX:Hid (∀o,Dr (W1.alloc o) (.slice a m c) x m):=lK (fun o=>HB.o.below (Bzz o))
 go_wp2_with (go_at_call 104;(with_reducible refine(HT.o (W1.alloc _) (.slice a m c) m (by have:=HM.o;omega) (HX.o _) T2'.o).mono ?_);rintro e W2 ⟨rfl,b2⟩)
 have B2:Hid (Below w.heap.size w W2):=lK ((BX.o _).trans (b2.mono (BX.o _).size));clear b2;go_wp2;go_ret;exact⟨by simp,B2.o⟩
theorem cT {x m:Nat}(ht:T2 x m) (hx:x<2^LE):m<=4096:=Nat.not_lt.1 (fun h=>(Lm ht).1 h hx)
theorem Et (x:Nat):Hid (∀k,k<(bs (Ar 10 x)).size->Cv (byte (bs (Ar 10 x)) k)<10):=lK (fun k h=>by
 have h1:=(Qq x k h).2
 rwa [<-DA h]at h1)
theorem Ud {x:Nat}(hx:x<2^Go.Proofs.LE) (w:World):Calls prog 76 #[.string (bs (Ar 10 x))] w fun e w'=>e= .returned (.bool true)/\Below w.heap.size w w':=by
 refine S7 _ false x w (fun W=> ?_) (fun W v m hm hv ht=> ?_)
 ·refine(fE (bs (Ar 10 x)) 10 W (Ev x) (lg (KI hx) (by decide)) (by decide) (by decide) (Et x)).mono ?_;intro e w' h;rw[GD]at h;obtain⟨sl,m,rfl,ht,hb,b⟩:=h.1 hx;obtain⟨a,c,rfl⟩:=hb.slice;exact⟨a,m,c,rfl,ht,cT ht hx,hb,b⟩
 ·refine(jE v x m 10 W hm (by decide) (by decide) (lK hv) ht).mono ?_;rintro e w' ⟨t,rfl,h1,h2⟩;exact⟨by rw[Jj t,h1],h2⟩
end Go.Proofs
namespace Go.Proofs
open Go.RowKit Go.Bg Go.Pf Go.Rb Go.Hb Go.Lx
def JW (X:Nat) (w:World) (e:Ending) (w':World):Prop:=∃(sl:Value) (m:Nat),e= .returned (.tuple #[.agg #[.bool true,sl],.int .i64 0])/\T2 X m/\Dr w' sl X m/\Below w.heap.size w w'
def QY (r x:Nat) (w:World) (e:Ending) (w':World):Prop:=∃t:ByteArray,e= .returned (.string t)/\t.data.toList=45::Ar r x/\Below w.heap.size w w'
theorem au (S s:ByteArray) (r:Nat) (w:World) (hS:S.extract 1 S.size=s) (hS0:0<S.size) (hS1:((S[0].toNat:Int)==45)=true) (qT:0<s.size) (hs:s.size<=4611686018427387904) (hr:2<=r) (rL:r<=36) (hd:Hid (∀k,k<s.size->Cv (byte s k)<r)) (tE:Hid (vN r s s.size≠0)) (hxL:Hid (vN r s s.size<2^LE)):
  Calls prog 103 #[.string S,.int .i64 r] w (JW (vN r s s.size) w):=by
 obtain⟨i0,hi,qX,qg,qe⟩:=nw OL;have HB:Hid (∀k (h:k<s.size),s[k].toNat=byte s k):=lK (fun k h=>(DA h).symm);have qP:s.toList.isEmpty=false:=by
  rw[ph];have h1:s.data.toList.length=s.size:=by simp
  cases h:s.data.toList with
  |nil=>rw[h]at h1;simp at h1;omega
  |cons a b=>rfl
 have hne2:decide (s=ByteArray.empty)=false:=lO (by intro h;rw[h]at qT;simp at qT);have R1:decide ((r:Int)<2)=false:=lO (by omega);have R2:decide ((36:Int)<r)=false:=lO (by omega);have P0:decide ((0:Int)<s.size)=true:=lU (by omega);have D0:Hid (Cv s[0].toNat<r):=lK (by rw[HB.o 0 qT];exact hd.o 0 qT);have hS2:(0:Int)<S.size:=by omega
 have hS3:decide ((0:Int)<S.size)=true:=lU hS2;have HP:=lK qT;obtain⟨X,hX⟩:∃X,X=vN r s s.size:=⟨_,rfl⟩;rw[<-hX]at tE hxL⊢;have HX:=lK hX;clear hX;go_enter func103,ntmps103;go_wp2;generalize hW1:w.alloc _=W1;have tok:Tok W1 w.heap.size:=by subst hW1;exact Tok.ie w
 have bl:Below w.heap.size w W1:=by subst hW1;exact Bzz _
 have tg:w.heap.size<W1.heap.size:=by subst hW1;simp
 have HW:=lK hW1;clear hW1
 go_loop [7] (fun i=>∃k:Nat,k<=s.size/\i= .int .i64 k) (fun i=>s.size-(intOf i).toNat)
 case atStart=>exact⟨0,by omega,rfl⟩
 case round=>
  obtain⟨k,hk,rfl⟩:=hrel;by_cases qE:k<s.size
  ·have ur:=hd.o k qE;rw[<-HB.o k qE]at ur;have hc:s[k].toNat<256:=s[k].toNat_lt;have b6:decide (r<=Cv s[k].toNat)=false:=lO (by omega);have b7:decide ((r:Int)<=(Cv s[k].toNat:Nat))=false:=lO (by omega);have HDK:=lK ur;clear ur
   go_wp2_with (go_at_call 125;(with_reducible refine(Ns s[k].toNat hc _).mono ?_);rintro e w' ⟨rfl,rfl⟩)
   go_round
   case rel=>exact⟨k+1,by omega,by go_num⟩
   case measure=>simp[intOf];omega
  ·have uc:k=s.size:=by omega
   clear qE hk;go_wp2;have ql:Dr W1 (.slice none 0 0) (vN r s 0) 0:= .inl ⟨rfl,rfl,rfl⟩
   go_loopw [8,9] (fun bv iv wr=>∃(k m:Nat),k<=s.size/\iv= .int .i64 k/\Dr wr bv (vN r s k) m/\T2 (vN r s k) m/\Below W1.heap.size W1 wr/\m<=4102) (fun _ iv _=>s.size-(intOf iv).toNat)
   case atStart=>exact⟨0,0,by omega,rfl,ql,⟨by simp[vN],.inl rfl⟩,Below.refl _ _,by omega⟩
   case round=>
    obtain⟨k,m,hk,rfl,vW,ht,qF,hm⟩:=hrel;obtain⟨la,lc,hl⟩:=vW.slice;subst hl;by_cases yU:k<s.size/\m<=4096
    ·obtain⟨qE,hm4⟩:=yU;have g1:decide (k<s.size)=true:=lU qE;have g2:decide (m<=4096)=true:=lU hm4;have g3:decide ((m:Int)<=4096)=true:=lU (by omega);have hc:s[k].toNat<256:=s[k].toNat_lt;obtain⟨Y,hY⟩:∃Y,Y=vN r s k:=⟨_,rfl⟩;obtain⟨d,rr⟩:∃d,d=Cv s[k].toNat:=⟨_,rfl⟩;have tP:d<r:=by rw[rr,HB.o k qE];exact hd.o k qE
     have HN:Hid (vN r s (k+1)=Y*r+d):=lK (by rw[vN,<-hY,rr,HB.o k qE]);have CD:Hid (∀W,Calls prog 125 #[.int .u8 (s[k].toNat:Int)] W fun e w'=>e= .returned (.int .i64 (d:Nat))/\W=w'):=lK (fun W=>by rw[rr];exact Ns _ hc W);rw[<-hY]at vW ht;have HBV:=lK vW;have HT:=lK ht;have yB:=lK qF;have wI:=lK tP;clear hY rr vW ht qF tP;obtain⟨wo,rfl⟩:∃wo:World,wo=wr:=⟨_,rfl⟩
     go_wp2_with (go_at_call 125;(with_reducible refine(CD.o _).mono ?_);rintro e w' ⟨rfl,rfl⟩)
     go_loopw [10,11,12] (fun cr out jv ww=>∃j:Nat,jv= .int .i64 j/\cr= .int .i64 (GY Y r d j)/\OB wo.heap.size wo (Y*r+d) j out ww/\(j<=m\/j+GY Y r d j<=m+36)) (fun cr _ jv _=>(m-(intOf jv).toNat)*64+(intOf cr).toNat)
     case atStart=>exact⟨0,rfl,by rw[Ml],⟨mq _ _ _ _,Below.refl _ _,lM _⟩,.inl (by omega)⟩
     case round=>
      obtain⟨j,rfl,rfl,uv,hj⟩:=hrel;obtain⟨oa,oc,ho⟩:=Ko uv.own;subst ho;have hlc:=Rv wI.o j (X:=Y);obtain⟨q,hq⟩:∃q,q=GY Y r d j:=⟨_,rfl⟩;obtain⟨p,hp⟩:∃p,p=Bn Y j:=⟨_,rfl⟩;have qj:=IY Y j;obtain⟨n1,n2⟩:=MT Y r d j;obtain⟨t,sU⟩:∃t,t=p*r+q:=⟨_,rfl⟩;rw[<-hq]at hlc hj n1 n2⊢;rw[<-hp]at qj n1 n2;rw[<-sU]at n1 n2;obtain⟨t1,sE⟩:∃t1,t1=t %2:=⟨_,rfl⟩;obtain⟨t2,we⟩:∃t2,t2=t/2:=⟨_,rfl⟩;have b1:=lK (HBV.o.below (w':=wr) uv.Ac);have CB:Hid (Calls prog 126 #[.slice la m lc,.int .i64 j] wr fun e w'=>e= .returned (.int .i64 p)/\wr=w'):=lK (by rw[hp];exact gm _ Y m j wr b1);have wm:p*r<=36:=by
       have:p=0\/p=1:=by omega
       rcases this with rfl|rfl<;>omega
      have e0:(p:Int)*(r:Int)=((p*r:Nat):Int):=by push_cast;rfl
      have e0b:0<=(p:Int)*(r:Int):=by rw[e0];omega
      have e0c:(p:Int)*(r:Int)<=36:=by rw[e0];omega
      have e1:(p:Int)*(r:Int)+(q:Int)=(t:Int):=by rw[e0];omega
      have e2:(t:Int) %2=(t1:Int):=by omega
      have e3:(t:Int)/2=(t2:Int):=by omega
      have vE:Hid (Bn (Y*r+d) j=t1):=lK (by rw[<-n1,sE]);have tM:Hid (GY Y r d (j+1)=t2):=lK (by rw[<-n2,we]);have qb:(q:Int)<=36:=by omega
      have pb:(p:Int)<=1:=by omega
      have tb:(t:Int)<=72:=by omega
      have HOB:=lK uv;have qD:=uv.own;have rH:=uv.le;have jb:j<=5000:=by omega
      by_cases hcont:j<m\/0<q
      ·have uw:Hid ((j+1<=m\/j+1+t2<=m+36)/\(m-(j+1))*64+t2<(m-j)*64+q):=lK (by
        rcases ls j m with h|h
        ·exact⟨.inl (by omega),by omega⟩
        ·have pz:p=0:=by rw[hp];exact GJ HT.o.1 (by omega)
         have:t=q:=by rw[sU,pz];omega
         have q0:0<q:=by
          rcases hcont with h1|h1
          ·omega
          ·exact h1
         constructor
         ·right;rcases hj with h1|h1
          ·omega
          ·omega
         ·omega)
       have guard:decide (j<m)=true\/(decide (j<m)=false/\decide (0<q)=true):=by
        rcases ls j m with h|h
        ·exact .inl (lU h)
        ·rcases hcont with h1|h1
         ·omega
         ·exact .inr ⟨lO (by omega),lU h1⟩
       clear hcont hq hp sU n1 n2 sE we uv hj hlc qj wm e0;rcases guard with a1|⟨a1,a2⟩
       all_goals
        go_wp2_with (first|(go_at_call 126;(with_reducible refine CB.o.mono ?_);rintro e w' ⟨rfl,rfl⟩)|(at_builtin;refine oA _ rfl _ _ 44 rfl wo.heap.size 3 i0 (.int .i64 0) 1 8 underlying44 hi qX qg qe rfl (by decide) _ _ _ rfl (qD.alloc _) ⟨wr.heap.size,0,none⟩ 1 1 [.int .i64 (t1:Nat)] rfl rfl ?c1 ?c2 ?c3 ?c4 ?c5 ?_))
        case c1=>
         intro j u hj
         match j,hj with
         |0,hj=>simp at hj;subst hj;simp[Addr.add]
        case c2=>intro u hu;simp at hu;subst hu;rfl
        case c3=>unfold maxLen;omega
        case c4=>omega
        case c5=>simp;omega
        intro v' w2 hown' qC _;have sR:=lK (HOB.o.next vE.o hown' qC);clear hown' qC;go_wp2;go_roundw
        case rel=>exact⟨j+1,by go_num,by rw[tM.o],sR.o,by rw[tM.o];exact uw.o.1⟩
        case measure=>have:=uw.o.2;simp[intOf];omega
      ·have a1:decide (j<m)=false:=lO (by omega);have a2:decide (0<q)=false:=lO (by omega);have wD:Y*r+d<2^j:=by
        have h1:=Hu Y r d j;rw[nJ (lR HT.o.1 (lX (by decide) (by omega))),<-hq]at h1;have h2:(Y*r+d)/2^j=0:=by omega
        exact(ox (lj j)).1 h2
       have HV:=lK (Dr.EW qD wD);have sH:=lK uv.Ac;have HFIN:=lK wD;clear hcont hq hp sU n1 n2 sE we uv hj hlc qj wm e0 qD wD HOB
       go_wp2_with (go_at_call 127;(with_reducible refine(UF _ (Y*r+d) j _ HV.o).mono ?_))
       rintro e w' ⟨m',ht',rfl,rfl⟩;have hm6:m'<=m+6:=by
        have hY:=HT.o.1;have hDR:=wI.o;refine ht'.le (x:=Y*r+d) ?_ (lM _);have h1:Y*r+d<2^m*r:=by
         have:=lV r (show Y+1<=2^m from hY);rw[mI,nE]at this;omega
        refine lR h1 ?_;rw[lW];exact mU _ (by omega)
       have HBV2:=lK (HV.o.cut (T2.le ht' HFIN.o (lM _)) ht'.1);go_wp2;go_roundw
       case rel=>exact⟨k+1,m',by omega,by go_num,by rw[HN.o];exact HBV2.o,by rw[HN.o];exact ht',yB.o.trans (sH.o.mono yB.o.size),by omega⟩
       case measure=>simp[intOf];omega
    ·have tk:=tok.below qF;have x0:=tk.c0;have x1:=tk.c1;have y0:=tk.f 0;have y1:=tk.f 1;have BL:=lK (bl.trans (qF.mono (by omega)));by_cases hm4:m<=4096
     ·have yA:k=s.size:=by omega
      subst yA;rw[<-HX.o]at vW ht;have g1:decide (s.size<s.size)=false:=lO (by omega);have g3:decide (4096<m)=false:=lO (by omega);have g5:decide ((4096:Int)<m)=false:=lO (by omega);have zO:X<2^LE:=by
       apply mM;intro h;have:=(Lm ht).2 h;omega
      have sK:Hid (∀a m' c w',T2 X m'->Dr w' (.slice a m' c) X m'->Below w.heap.size w w'->JW X w (.returned (.tuple #[.agg #[.bool true,.slice a m' c],.int .i64 0])) w'):=lK (fun a m' c w' h1 h2 h3=>⟨_,m',rfl,h1,h2,h3⟩);have CL:=lK (Rm true true (.slice la m lc) X m w.heap.size W1 wr (lK vW) tk qF (by have:=tE.o;rw[lU (show 0<X by omega)];rfl));clear yU vW ht qF zO x0 x1 y0 y1 tk ql
      go_wp2_with (go_at_call 128;(with_reducible refine CL.o.mono ?_))
      rintro e W3 ⟨⟨ra,rm,rc,rfl,ht3,x0,x1,y0,y1,wT,b3⟩⟩;have HV3:=lK wT;have B3:=lK b3;clear wT b3;go_wp2;refine lS (v:= .tuple #[.agg #[.bool true,.slice ra rm rc],.int .i64 0]) ?_ rfl (sK.o _ _ _ _ ht3 HV3.o ?_)
      ·simp only[results,results103];go_simp
      ·iterate 2 refine Below.setCell ?_ (by simp) _
       exact bl.trans (B3.o.mono (by omega))
     ·have yk:¬X<2^LE:=by
       have h1:=(Lm ht).1 (by omega);have h2:=Ep (r:=r) (by omega) s hk;rw[<-HX.o]at h2;intro h3;exact h1 (mG h2 h3)
      exact absurd hxL.o yk
end Go.Proofs
