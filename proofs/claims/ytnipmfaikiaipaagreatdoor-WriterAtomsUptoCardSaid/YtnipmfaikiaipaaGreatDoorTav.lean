import Derived.Test.YtnipmfaikiaipaaGreatDoorTat
set_option linter.unusedSimpArgs false
set_option maxRecDepth 1000000
set_option maxHeartbeats 40000000
section
namespace Go.Rb
theorem YF {X r i:Nat}(hr:0<r):(2*(X/2^(i+1) %r)+AQ X i) %r=X/2^i %r/\AQ (X/r) i=(2*(X/2^(i+1) %r)+AQ X i)/r:=by
 have e:X/2^i=2*(X/2^(i+1))+AQ X i:=by
  rw[gj,<-SO];unfold AQ;omega
 have h1:r*(X/2^(i+1)/r)+X/2^(i+1) %r=X/2^(i+1):=Nat.div_add_mod _ _;have h2:X/2^(i+1) %r<r:=gR _ hr;have h3:=Bi X i;obtain⟨Q,hQ⟩:∃Q,Q=X/2^(i+1)/r:=⟨_,rfl⟩;obtain⟨R,hR⟩:∃R,R=X/2^(i+1) %r:=⟨_,rfl⟩;obtain⟨t,ht⟩:∃t,t=2*R+AQ X i:=⟨_,rfl⟩;rw[<-hQ,<-hR]at h1;rw[<-hR]at h2⊢;have e2:X/2^i=r*(2*Q)+t:=by
  rw[e,<-h1,ht,Nat.mul_add];have:r*(2*Q)=2*(r*Q):=by ac_rfl
  omega
 rw[<-ht];constructor
 ·rw[e2,Nat.mul_add_mod]
 ·have e3:X/r/2^i=X/2^i/r:=by rw[SO,SO,So]
  unfold AQ;rw[e3,e2,Nat.mul_add_div hr];have h5:t/r<2:=by rw[ad hr];omega
  clear e e2 e3 h1 ht;generalize t/r=q at*;omega
theorem T2.half {X Y k m:Nat}(h:T2 X k) (hX:X≠0) (hY:Y<=X/2) (h':T2 Y m):m<k:=by
 have k0:k≠0:=fun e=>hX (h.BB.1 e);obtain⟨j,rfl⟩:∃j,k=j+1:=⟨k-1,by omega⟩;have h1:=h.1;rw[gj]at h1;have:=h'.le (m:=j) (x:=X/2) (by omega) hY;omega
end Go.Rb
namespace Go.Proofs
open Go.RowKit Go.Pf Go.Rb Go.Bg
def Q9 (X r i:Nat) (j:Nat):Value:= .int .i64 ((if j<i then 0 else AQ (X/r) j:Nat):Int)
structure TT (r x B1:Nat) (W1:World) (X k:Nat) (ds:List Nat) (lv o:Value) (wr:World):Prop where
 tight:T2 X k
 Bq:Hk r x=ds++Hk r X
 bits:Ap wr lv X k
 own:wr.ownsRow B1 5 1 o ds.length (Lib.byteCells (ds.map J5))
 Ad:Below B1 W1 wr
 le:B1<=wr.heap.size
structure TI (r X k g:Nat) (w0:World) (i R:Nat) (wr:World):Prop where
 le:i<=k
 rest:R=X/2^i %r
 row:BS wr g k 3 (Q9 X r i)
 Ad:Below g w0 wr
 g0:g=w0.heap.size
theorem S7 {w w':World} {B:Nat} {e:TypeId} {size n:Nat} {v:Value} {xs:List Value}(h:w.ownsRow B e size v n xs) (hb:Below w.heap.size w w'):w'.ownsRow B e size v n xs:=by
 refine⟨h.1,?_⟩;rcases h.2 with h2|⟨g,cap,cur,h1,h2,h3,h4⟩
 ·exact .inl h2
 ·exact .inr ⟨g,cap,cur,h1,h2,(hb.block g (OF.1 h3).1).trans h3,h4⟩
theorem TT.below {r x B1:Nat} {W1:World} {X k:Nat} {ds:List Nat} {lv o:Value} {w w':World}(h:TT r x B1 W1 X k ds lv o w) (hb:Below w.heap.size w w'):TT r x B1 W1 X k ds lv o w':=
 ⟨h.tight,h.Bq,h.bits.below hb,S7 h.own hb,h.Ad.trans (hb.mono h.le),To h.le hb.size⟩
theorem Xo (k:Nat) (hk:k<=1000000000):∃M:Array Value,M.size=k/\(∀j,j<k->M[j]? =some (.int .i64 0))/\∀W:World,(Instr.makeSlice 89 (.int .i64 (k:Int)) (.int .i64 (k:Int))).run Tryz.prog W= .ok (.slice (some ⟨W.heap.size,0,none⟩) k k) (W.alloc (.cells M 3)):=by
 obtain⟨i0,hi,hz0,hz1,hz2⟩:=info_parts EZ;refine⟨madeCells #[.int .i64 0] k,size_madeCells _ _,fun j hj=> ?_,fun W=> ?_⟩
 ·rw[<-Array.getElem?_toList,toList_madeCells_one,List.getElem?_replicate,if_pos hj]
 ·have h:=run_make (P:=Tryz.prog) W 89 3 i0 (.int .i64 0) Tryz.underlying89 hi hz0 .i64 .i64 (k:Int) (k:Int) (by omega) (by omega) (by rw[hz2];omega) (by omega);rw[hz1]at h;have e:(Value.int .i64 0).cells= #[Value.int .i64 0]:=rfl;rw[e]at h;simpa using h
theorem Uz {X k r:Nat}(j:Nat) (hj:j<k):Q9 X r k j= .int .i64 0:=by
 unfold Q9;rw[if_pos hj];rfl
theorem TI.start {r X k:Nat} {w0:World}(h:X<2^k){M:Array Value}(hM:M.size=k) (h0:∀j,j<k->M[j]? =some (.int .i64 0)):TI r X k w0.heap.size w0 k 0 (w0.alloc (.cells M 3)):=by
 refine⟨nR _,by rw[bh h];simp,⟨M,dk w0 _,by omega,fun j hj=> ?_⟩,(AH _ _).alloc (nR _) _,rfl⟩;rw[h0 j hj,Uz j hj]
theorem TI.next {r X k g i R R':Nat} {w0 wr:World}(h:TI r X k g w0 (i+1) R wr) (hR:R'=X/2^i %r) (hb:AQ (X/r) i=0):TI r X k g w0 i R' wr:=by
 refine⟨by have:=h.le;omega,hR,?_,h.Ad,h.g0⟩;obtain⟨cur,h1,h2,h3⟩:=h.row;refine⟨cur,h1,h2,fun j hj=> ?_⟩;rw[h3 j hj];unfold Q9;by_cases e:j=i
 ·subst e;rw[if_pos (by omega),if_neg (by omega),hb]
 ·by_cases e2:j<i
  ·rw[if_pos (by omega),if_pos e2]
  ·rw[if_neg (by omega),if_neg e2]
theorem TI.one {r X k g i R R':Nat} {w0 wr:World}(h:TI r X k g w0 (i+1) R wr) (hR:R'=X/2^i %r) (hb:AQ (X/r) i=1):TI r X k g w0 i R' (wr.setCell ⟨g,i,none⟩ (.int .i64 1)):=by
 have hl:=h.le;refine⟨by omega,hR,h.row.set _ (by omega) fun j hj=> ?_,h.Ad.setCell (p:=⟨g,i,none⟩) (nR _) _,h.g0⟩;unfold Q9;by_cases e:j=i
 ·subst e;rw[if_pos rfl,if_neg (by omega),hb];rfl
 ·rw[if_neg e];by_cases e2:j<i
  ·rw[if_pos e2,if_pos (by omega)]
  ·rw[if_neg e2,if_neg (by omega)]
theorem TI.done {r X k g R:Nat} {w0 wr:World}(h:TI r X k g w0 0 R wr) (hX:X/r<2^k) (hk:k<=1000000000):Ap wr (.slice (some ⟨g,0,none⟩) k k) (X/r) k:=by
 refine .inr ⟨g,0,k,rfl,nR _,by omega,h.row.lt,hX,fun j hj=> ?_⟩;rw[gX,h.row.cell hj];unfold Q9;rw[if_neg (by omega)]
theorem Ap.block {w w':World} {g c x m:Nat}(h:Ap w (.slice (some ⟨g,0,none⟩) m c) x m) (hb:w'.heap[g]? =w.heap[g]?) (hs:w.heap.size<=w'.heap.size):Ap w' (.slice (some ⟨g,0,none⟩) m c) x m:=by
 rcases h with⟨h1,_⟩|⟨b,o,c',h1,h2,h3,h4,h5,h6⟩
 ·simp at h1
 ·simp only[Value.slice.injEq,Option.some.injEq,Addr.mk.injEq]at h1;obtain⟨⟨rfl,rfl,_⟩,_,rfl⟩:=h1;exact .inr ⟨g,0,c,rfl,h2,h3,by omega,h5,fun j hj=>(World.cell?_of_block hb).trans (h6 j hj)⟩
theorem OW {w:World} {B n tc:Nat} {ta:Option Addr} {l:List UInt8}(h:w.ownsRow B 5 1 (.slice ta n tc) n (Lib.byteCells l)) (hn:0<n):
 ∃t:ByteArray,t.data.toList=l/\(convert 104 9 (.slice ta n tc)).run Tryz.prog w= .ok (.string t) w:=by
 have hl:l.length=n:=by have:=h.1;rw[Lib.byteCells_length]at this;omega
 rcases h.2 with⟨h1,h2⟩|⟨g,cap,cur,h1,h2,h3,h4,h5,h6,h7⟩
 ·omega
 ·simp only[Value.slice.injEq]at h1;obtain⟨rfl,_,rfl⟩:=h1;refine⟨⟨l.toArray⟩,rfl,?_⟩;have hc:∀i,i<n->w.cell? ⟨g,0+i,none⟩=some (.int .u8 ((l.map fun x=>(x.toNat:Int)).getD i 0)):=by
   intro i hi;have h8:=World.ownsRow.cellAt h i (by omega);rw[gX,h8,SM,List.getElem?_map];unfold Lib.byteCells;rw[List.getElem?_map,List.getElem?_eq_getElem (by omega)];rfl
  rw[run_convert_bytes_arg w 104 5 Tryz.underlying104 Tryz.underlying5 g 0 n tc (l.map fun x=>(x.toNat:Int)) (by simp[hl]) hc 9 Tryz.underlying9];congr 2;apply ByteArray.ext;apply Array.toList_inj.1;rw[strOfNums_data,List.map_map];show _=l
  conv=>rhs;rw[<-List.map_id l]
  apply List.map_congr_left;intro x _;simp
def Ta (r x:Nat) (w:World) (e:Ending) (w':World):Prop:=∃t:ByteArray,e= .returned (.string t)/\t.data.toList=Ca r x/\Below w.heap.size w w'
theorem Sn (v:Value) (x m r:Nat) (w:World) (hm:m<=1000000) (hr:2<=r) (hr2:r<=36) (hv:Hid (Ap w v x m)) (hT:T2 x m):
 Calls Tryz.prog 62 #[.agg #[.bool false,v],.int .i64 r] w (Ta r x w):=by
 obtain⟨a,c,rfl⟩:=hv.out.slice;obtain⟨i0,hi,hz0,hz1,hz2⟩:=info_parts RA;have HT:=Hi hT;clear hT;go_enter Tryz.func62,Tryz.ntmps62;by_cases h0:m=0
 ·subst h0;have hx0:x=0:=HT.out.BB.1 rfl;subst hx0;go_wp2;go_ret;exact⟨⟨#[48]⟩,rfl,rfl,(AH _ _).alloc (nR _) _⟩
 ·have h0':((m:Int)==0)=false:=by rw[Lq];intro h;have:=eq_of_beq h;omega
  have hx0:x≠0:=fun h=>h0 (HT.out.BB.2 h)
  go_wp2_with fail
  generalize hW:w.alloc _=W1;have bl:Below w.heap.size w W1:=by subst hW;exact(AH _ _).alloc (nR _) _
  have c0:W1.cell? ⟨w.heap.size,0,none⟩=some (.bool false):=by subst hW;go_simp
  have c1:W1.cell? ⟨w.heap.size,1,none⟩=some (.slice a m c):=by subst hW;go_simp
  have hlt0:w.heap.size<W1.heap.size:=by subst hW;simp
  have hv1:=Hi (hv.out.below bl);clear hW;have T0:TT r x W1.heap.size W1 x m [] (.slice a m c) (.slice none 0 0) W1:=⟨HT.out,by simp,hv1.out,World.ownsRow_nil _ _ _ _,AH _ _,nR _⟩;have HX:=Hi hx0;have HBL:=Hi bl;clear h0 hx0 bl
  go_loopw [5,6] (fun out l wr=>∃(X k:Nat) (ds:List Nat),k<=m/\TT r x W1.heap.size W1 X k ds l out wr/\ds.length+k<=m) (fun _ l _=>match l with| .slice _ n _=>n|_=>0)
  case atStart=>exact⟨x,m,[],nR _,T0,by simp⟩
  case round=>
   obtain⟨X,k,ds,hk,hq,hdk⟩:=hrel;obtain⟨oa,oc,ho⟩:=Dz hq.own;subst ho;obtain⟨la,lc,hl⟩:=hq.bits.slice;subst hl;rcases dT k with hkz|hkp
   ·subst hkz;have hX:X=0:=hq.tight.BB.1 rfl;subst hX;have hds:Hk r x=ds:=by have:=hq.Bq;rwa [Gn,List.append_nil]at this
    obtain⟨L,hL⟩:∃L,L=ds.map J5:=⟨_,rfl⟩;have hLl:L.length=ds.length:=by rw[hL,List.length_map]
    have hpos:0<L.length:=by rw[hLl,<-hds,D9 hr HX.out,List.length_cons];omega
    obtain⟨h,rfl,hgh,hrow⟩:=Rh hq.own hL hpos;rw[<-hLl];have NL:Hid (Ca r x=L.reverse):=Hi (by unfold Ca;rw[if_neg HX.out,hds,hL]);have E0:wr.cell? ⟨w.heap.size,0,none⟩=some (.bool false):=(hq.Ad.cell (p:=⟨w.heap.size,0,none⟩) hlt0).trans c0;have BLW:=Hi (HBL.out.trans (hq.Ad.mono (by omega)));have hL32:L.length<=1000000:=by omega
    have hrl:=hrow.lt;have HR:=Hi hrow;have HPOS:Hid (0<L.length-0):=Hi (by omega);clear hds hL hLl hq hrow T0 hv HT hpos;go_wp2;obtain⟨wo,rfl⟩:∃wo:World,wo=wr:=⟨_,rfl⟩
    go_loopw [10,11] (fun tv iv ww=>∃(q:Nat),q<=L.length/\iv= .int .i64 ((q:Int)-1)/\ww.ownsRow wo.heap.size 5 1 tv (L.length-q) (Lib.byteCells (L.reverse.take (L.length-q)))/\Below wo.heap.size wo ww/\wo.heap.size<=ww.heap.size) (fun _ iv _=>(intOf iv+1).toNat)
    case atStart=>exact⟨L.length,nR _,by go_num,by rw[Nat.sub_self];exact World.ownsRow_nil _ _ _ _,AH _ _,nR _⟩
    case round=>
     obtain⟨q,hqL,rfl,hown,hbw,hsz⟩:=hrel;obtain⟨ta,tc,htv⟩:=Dz hown;subst htv;cases q with
     |zero=>
      obtain⟨t,ht,hcv⟩:=OW hown HPOS.out;rw[List.take_of_length_le (by rw[List.length_reverse];omega)]at ht;have HB2:=Hi (BLW.out.trans (hbw.mono (by have:=BLW.out.size;omega)));rw[Nat.sub_zero]at hcv;clear hown hbw;go_wp2;go_ret;exact⟨t,rfl,by rw[ht,NL.out],HB2.out⟩
     |succ q=>
      have hq1:((q+1:Nat):Int)-1=(q:Int):=by omega
      rw[hq1];have q0:decide ((0:Int)<=(q:Int))=true:=A5;have hqi:(q:Int)<(L.length:Int):=by omega
      obtain⟨ch,hch⟩:∃ch:Nat,ch=(L.getD q 0).toNat:=⟨_,rfl⟩;have hcell:wr.cell? ⟨h,q,none⟩=some (.int .u8 ch):=by rw[hch];exact(hbw.cell (p:=⟨h,q,none⟩) hrl).trans (HR.out.cell (by omega))
      have HN:Hid (Lib.byteCells (L.reverse.take (L.length-q))=Lib.byteCells (L.reverse.take (L.length-(q+1)))++ [.int .u8 (ch:Nat)]):=Hi (by
       have e:L.length-q=L.length-(q+1)+1:=by omega
       have e2:L.length-1-(L.length-(q+1))=q:=by omega
       rw[e,List.take_succ_eq_append_getElem (by rw[List.length_reverse];omega)];unfold Lib.byteCells;rw[List.map_append,List.map_singleton,List.getElem_reverse,hch];simp only[e2,SM,List.getElem?_eq_getElem (show q<L.length by omega),Option.getD_some])
      have HQ:=Hi (show L.length-q=L.length-(q+1)+1 by omega);clear hch
      go_wp2_with (at_builtin;refine wpList_append_own _ rfl _ _ 104 rfl wo.heap.size 5 i0 (.int .u8 0) 1 1 Tryz.underlying104 hi hz0 hz1 hz2 rfl (by decide) _ _ _ rfl (hown.alloc _) ⟨wr.heap.size,0,none⟩ 1 1 [.int .u8 (ch:Nat)] rfl rfl ?c1 ?c2 ?c3 ?c4 ?c5 ?_)
      case c1=>
       intro j u hj
       match j,hj with
       |0,hj=>simp at hj;subst hj;simp[Addr.add]
      case c2=>intro u hu;simp at hu;subst hu;rfl
      case c3=>unfold maxLen;omega
      case c4=>omega
      case c5=>simp;omega
      intro v' w2 hown' hgrow _;rw[<-HN.out,<-HQ.out]at hown';have hb2:=Hi ((hbw.alloc hsz (.cells #[.int .u8 (ch:Nat)] 5)).grown hgrow (by simp;omega) (fun b hb=>by have:=(hown.lt b hb).1;omega));have HO:=Hi hown';have hs2:=hgrow.size;have HS:Hid (wo.heap.size<=w2.heap.size):=Hi (by simp at hs2;omega);clear hown hbw hown' hgrow hs2;go_wp2;go_roundw
      case rel=>exact⟨q,by omega,by go_num,HO.out,hb2.out,HS.out⟩
      case measure=>simp[intOf]
   ·have hX0:X≠0:=fun h=>by have:=hq.tight.BB.2 h;omega
    obtain⟨M,hM,hM0,hmk⟩:=Xo k (by omega);have I0:TI r X k wr.heap.size wr k 0 (wr.alloc (.cells M 3)):=TI.start hq.tight.1 hM hM0;have HQ:=Hi hq;have HX0:=Hi hX0;have HDK:=Hi hdk;clear hM hM0 hq hX0;obtain⟨wo,rfl⟩:∃wo:World,wo=wr:=⟨_,rfl⟩;go_wp2
    go_loopw [7,9] (fun rv iv ww=>∃(i R:Nat),rv= .int .i64 R/\iv= .int .i64 ((i:Int)-1)/\TI r X k wo.heap.size wo i R ww) (fun _ iv _=>(intOf iv+1).toNat)
    case atStart=>exact⟨k,0,rfl,by go_num,I0⟩
    case round=>
     obtain⟨i,R,rfl,rfl,hi2⟩:=hrel;have HI:=Hi hi2;have ll:=hi2.le;cases i with
     |zero=>
      have hn:R=X %r:=by rw[hi2.rest];simp
      have hn36:R<36:=by rw[hn];have:=gR X (show 0<r by omega);omega
      have hal:=Ps R hn36;have hXr:X/r<2^k:=IS (Nat.div_le_self _ _) HQ.out.tight.1;have hdone:=Hi (hi2.done hXr (by omega));have HN:=Hi hn;have htt:=Hi (HQ.out.below hi2.Ad);have hown:=htt.out.own;have hwsz:=htt.out.le;clear hn hXr hi2
      go_wp2_with (go_at_call 108;(with_reducible refine(PF _ (X/r) k _ hdone.out).mono ?_))
      rintro e w' ⟨k2,ht,rfl,rfl⟩;have hk2:=ht.half (h:=HQ.out.tight) HX0.out (Nat.div_le_div_left hr (by decide));have HCUT:=Hi (hdone.out.cut (by omega) ht.1);have HK2:=Hi hk2;have hdl:ds.length<=1000000:=by omega
      clear hk2
      go_wp2_with (at_builtin;refine wpList_append_own _ rfl _ _ 104 rfl W1.heap.size 5 i0 (.int .u8 0) 1 1 Tryz.underlying104 hi hz0 hz1 hz2 rfl (by decide) _ _ _ rfl (hown.alloc _) ⟨wr.heap.size,0,none⟩ 1 1 [.int .u8 ((J5 R).toNat:Nat)] rfl rfl ?c1 ?c2 ?c3 ?c4 ?c5 ?_)
      case c1=>
       intro j u hj
       match j,hj with
       |0,hj=>simp at hj;subst hj;simp[Addr.add]
      case c2=>intro u hu;simp at hu;subst hu;rfl
      case c3=>unfold maxLen;omega
      case c4=>omega
      case c5=>simp;omega
      intro v' w2 hown' hgrow _;obtain⟨va,vc,hv'⟩:=Dz hown';subst hv';have HTT:Hid (TT r x W1.heap.size W1 (X/r) k2 (ds++ [R]) (.slice (some ⟨wo.heap.size,0,none⟩) k2 k) (.slice va (ds.length+1) vc) w2):=Hi (by
       have hgs:=hgrow.size;simp at hgs;have hgo:some wo.heap.size≠(Value.slice oa ds.length oc).ownBlock:=fun e=>by have:=(HQ.out.own.lt _ e.symm).2;omega
       have Gx:=HI.out.row.lt;refine⟨ht,?_,HCUT.out.block ?_ (by omega),?_,?_,by omega⟩
       ·rw[HQ.out.Bq,D9 hr HX0.out,<-HN.out,List.append_assoc];rfl
       ·rw[hgrow.block wo.heap.size (by simp;omega) hgo];exact Lib.alloc_old wr _ _ Gx
       ·have e:Lib.byteCells ((ds++ [R]).map J5)=Lib.byteCells (ds.map J5)++ [.int .u8 ((J5 R).toNat:Nat)]:=by simp[Lib.byteCells]
        rw[e,eR,List.length_singleton];exact hown'
       ·exact(htt.out.Ad.alloc (by omega) _).grown hgrow (by simp;omega) (fun b hb=>by have:=(hown.lt b hb).1;omega))
      clear hown hown' hgrow;go_wp2;go_roundw
      case rel=>exact⟨X/r,k2,ds++ [R],by have:=HK2.out;omega,HTT.out,by have:=HK2.out;simp;have:=HDK.out;omega⟩
      case measure=>have:=HK2.out;simp;omega
     |succ i=>
      obtain⟨g2,o2,hga,hcell⟩:=(HQ.out.bits.below (w':=wr) hi2.Ad).cellAt (j:=i) (by omega);subst hga;obtain⟨b,hb⟩:∃b,b=AQ X i:=⟨_,rfl⟩;obtain⟨R',hR'⟩:∃R',R'=X/2^i %r:=⟨_,rfl⟩;obtain⟨n1,n2⟩:=YF (X:=X) (r:=r) (i:=i) (by omega);have b2:=Bi X i;have Rb:R<r:=by rw[hi2.rest];exact gR _ (by omega)
      rw[<-hi2.rest,<-hb]at n1 n2;rw[<-hb]at hcell b2;rw[<-hR']at n1;have hq1:((i+1:Nat):Int)-1=(i:Int):=by omega
      rw[hq1];have q0:decide ((0:Int)<=(i:Int))=true:=A5;have hii:(i:Int)<(k:Int):=by omega
      obtain⟨t,ht⟩:∃t,t=2*R+b:=⟨_,rfl⟩;have e1:2*(R:Int)+(b:Int)=(t:Int):=by omega
      rw[<-ht]at n1 n2;have tb:(t:Int)<=72:=by omega
      have bb:(b:Int)<=1:=by omega
      have rb:(R:Int)<=36:=by omega
      by_cases hrt:r<=t
      ·have f1:R'=t-r:=by
        rw[<-n1,Nat.mod_eq_sub_mod hrt,e8 (by omega)]
       have f2:AQ (X/r) i=1:=by
        rw[n2];exact Nat.div_eq_of_lt_le (by omega) (by omega)
       have e2:(t:Int)-(r:Int)=(R':Int):=by omega
       have HO:=Hi (hi2.one hR' f2);have hold:=hi2.row.cell (j:=i) (by omega);have hfz:=hi2.row.frozen i;obtain⟨ov,hov⟩:∃ov:Value,ov=Q9 X r (i+1) i:=⟨_,rfl⟩;rw[<-hov]at hold;have g1:decide ((r:Int)<=(t:Int))=true:=A5;clear n1 n2 hb hR' hi2 ht f1 f2 hov;go_wp2;go_roundw
       case rel=>exact⟨i,R',by go_num,by go_num,HO.out⟩
       case measure=>simp[intOf]
      ·have f1:R'=t:=by rw[<-n1,e8 (by omega)]
       have f2:AQ (X/r) i=0:=by rw[n2];exact bh (by omega)
       have HO:=Hi (hi2.next hR' f2);have HF:=Hi f1;have g1:decide (r<=t)=false:=AS hrt;clear n1 n2 hb hR' hi2 ht f1 f2;go_wp2;go_roundw
       case rel=>exact⟨i,R',by rw[HF.out],by go_num,HO.out⟩
       case measure=>simp[intOf]
end Go.Proofs
end
section
namespace Go.Proofs
open Go.RowKit Go.Pf Go.Lx Go.Rb Go.Bg
structure A8 (w:World) (b:Nat):Prop where
 h:w.heap[b]? =some (.cells #[.int .i64 0,.string ⟨#[]⟩,.string ⟨#[]⟩,.int .u64 0,.int .i64 0,.int .i64 0,.bool false] 30 (0,0))
theorem A8.below {w w':World} {b:Nat}(h:A8 w b) (hb:Below w.heap.size w w'):A8 w' b:=⟨(hb.block b (OF.1 h.h).1).trans h.h⟩
theorem A8.cs {w:World} {b:Nat}(h:A8 w b):w.cell? ⟨b,0,none⟩=some (.int .i64 0)/\w.cell? ⟨b,1,none⟩=some (.string ⟨#[]⟩)/\w.cell? ⟨b,2,none⟩=some (.string ⟨#[]⟩)/\w.cell? ⟨b,3,none⟩=some (.int .u64 0)/\w.cell? ⟨b,4,none⟩=some (.int .i64 0)/\w.cell? ⟨b,5,none⟩=some (.int .i64 0)/\w.cell? ⟨b,6,none⟩=some (.bool false):=by
 refine⟨?_,?_,?_,?_,?_,?_,?_⟩<;>(rw[Lib.cell_of_heap h.h];rfl)
theorem A8.f {w:World} {b:Nat}(h:A8 w b) (i:Nat):w.frozen? ⟨b,i,none⟩=false:=Lib.frozen_of_heap h.h i
theorem A8.fs {w:World} {b:Nat}(h:A8 w b):w.frozen? ⟨b,0,none⟩=false/\w.frozen? ⟨b,1,none⟩=false/\w.frozen? ⟨b,2,none⟩=false/\w.frozen? ⟨b,3,none⟩=false/\w.frozen? ⟨b,4,none⟩=false/\w.frozen? ⟨b,5,none⟩=false/\w.frozen? ⟨b,6,none⟩=false:=⟨h.f 0,h.f 1,h.f 2,h.f 3,h.f 4,h.f 5,h.f 6⟩
structure UL (X:Nat) (p q:Int) (w:World) (e:Ending) (w':World):Prop where
 fits:X<2^LE->∃nu:ByteArray,e= .returned (.tuple #[AK 4 ⟨#[]⟩ nu 0 p q false,.int .i64 0])/\nu.data.toList=Ca 10 X
 big:¬X<2^LE->e= .returned (.tuple #[As p,.int .i64 34])
 Ad:Below w.heap.size w w'
theorem bI (s:ByteArray) (p f t r:Nat) (w:World) (hs:s.size<=140737488355328) (hft:f<t) (ht:t<=s.size) (hr:2<=r) (hr2:r<=36) (hd:Hid (∀k,k<(s.extract f t).size->CK (byte (s.extract f t) k)<r)):
 Calls Tryz.prog 208 #[.string s,.int .i64 p,.int .i64 f,.int .i64 t,.int .i64 r] w (UL (vN r (s.extract f t) (s.extract f t).size) p t w):=by
 have hz:(s.extract f t).size=t-f:=by rw[Of];omega
 obtain⟨X,hX⟩:∃X,X=vN r (s.extract f t) (s.extract f t).size:=⟨_,rfl⟩;rw[<-hX];have CP:Hid (∀W,Calls Tryz.prog 210 #[.string (s.extract f t),.int .i64 r] W (Fu X W)):=Hi (fun W=>by rw[hX];exact Ug _ r W (by omega) (by omega) hr hr2 hd);have hft2:f<=t:=by omega
 have hf0:f<=s.size:=by omega
 clear hX hz hd;go_enter Tryz.func208,Tryz.ntmps208
 go_wp2_with fail
 generalize hW:w.alloc _=W1;have bl:Below w.heap.size w W1:=by subst hW;exact(AH _ _).alloc (nR _) _
 have hk:A8 W1 w.heap.size:=by subst hW;exact⟨dk w _⟩
 clear hW;refine(CP.out W1).mono ?_;intro e W2 hps;by_cases hX:X<2^LE
 ·obtain⟨sl,m,rfl,hT,hv,b2⟩:=hps.1 hX;obtain⟨a,c,rfl⟩:=hv.slice;have hm:m<=1000000:=by
   have h1:=T2.le hT hX (nR _);have h2:=WB;generalize LE=L at*;omega
  go_wp2_with fail
  have b3:Below W1.heap.size W1 (W2.alloc (.cells #[.bool false,.slice a m c] 135)):=Below.al b2 _;have hv3:Ap (W2.alloc (.cells #[.bool false,.slice a m c] 135)) (.slice a m c) X m:=hv.below ((AH _ _).alloc (nR _) _);refine(Sn _ X m 10 _ hm (by decide) (by decide) (Hi hv3) hT).mono ?_;rintro e W4 ⟨nu,rfl,hnu,b4⟩;have b5:=b3.trans (b4.mono b3.size);obtain⟨k0,k1,k2,k3,k4,k5,k6⟩:=(hk.below b5).cs;obtain⟨f0,f1,f2,f3,f4,f5,f6⟩:=(hk.below b5).fs;have HX:=Hi hX;have HN:=Hi hnu;have HB:=Hi (bl.trans (b5.mono bl.size));clear hX hnu hps b2 b3 b4 b5 hv hv3 hT bl hk;go_wp2;refine AI (v:= .tuple #[AK 4 ⟨#[]⟩ nu 0 p t false,.int .i64 0]) ?_ rfl ⟨fun _=>⟨nu,rfl,HN.out⟩,fun h=>absurd HX.out h,?_⟩
  ·simp only[results,Tryz.results208];go_simp;rfl
  ·iterate 7 refine By ?_ (by simp only;omega) _
   exact HB.out
 ·obtain⟨rfl,b2⟩:=hps.2 hX
  go_wp2_with fail
  have b3:Below W1.heap.size W1 (W2.alloc (.cells #[.bool false,.slice none 0 0] 135)):=Below.al b2 _;refine(Ew p 34 _).mono ?_;rintro e W4 ⟨rfl,b4⟩;have b5:=b3.trans (b4.mono b3.size);obtain⟨k0,k1,k2,k3,k4,k5,k6⟩:=(hk.below b5).cs;obtain⟨f0,f1,f2,f3,f4,f5,f6⟩:=(hk.below b5).fs;have HX:=Hi hX;have HB:=Hi (bl.trans (b5.mono bl.size));clear hX hps b2 b3 b4 b5 bl hk;unfold As AK;go_wp2;refine AI (v:= .tuple #[As p,.int .i64 34]) ?_ rfl ⟨fun h=>absurd h HX.out,fun _=>rfl,?_⟩
  ·simp only[results,Tryz.results208];go_simp;rfl
  ·iterate 7 refine By ?_ (by simp only;omega) _
   exact HB.out
end Go.Proofs
end
section
namespace Go.Proofs
open Go.RowKit Go.Pf Go.Lx Go.Hb Go.Rb Go.Bg
noncomputable def cO (s:ByteArray) (p:Nat):Nat×Nat:=(Et s p).getD (0,0)
theorem Zt (s:ByteArray) (p:Nat) (w:World) (hs:s.size<=4611686018427387904):Calls Tryz.prog 29 #[.string s,.int .i64 p] w fun e w'=>e= .returned (.tuple #[.int .i64 (cO s p).1,.int .i64 (cO s p).2])/\w=w':=by
 refine(Zj s p w hs).mono ?_;rintro e w' ⟨v,n,rfl,hc,rfl⟩;refine⟨?_,rfl⟩;unfold cO;rcases FH s p with⟨v',n',h1,h2⟩|⟨h1,h2⟩
 ·rw[h2];rcases hc with hc|⟨_,_,hn⟩
  ·obtain⟨rfl,rfl⟩:=hc.unique h1;rfl
  ·exact absurd h1 (hn _ _)
 ·rw[h2];rcases hc with hc|⟨rfl,rfl,_⟩
  ·exact absurd hc (h1 _ _)
  ·rfl
def DJ (o:Option TR) (w:World) (e:Ending) (w':World):Prop:=
 (e=match o with
  |none=> .returned (.tuple #[As 0,.int .i64 0,.bool false])
  |some R=> .returned (.tuple #[TR.tok R,.int .i64 (TR.er R),.bool true]))/\Below w.heap.size w w'
theorem DJ.no {o:Option TR} {w w':World}(h:o=none) (hb:Below w.heap.size w w'):DJ o w (.returned (.tuple #[As 0,.int .i64 0,.bool false])) w':=by subst h;exact⟨rfl,hb⟩
theorem DJ.er {o:Option TR} {w w':World} {p n:Nat}(h:o=some (.err p n)) (hb:Below w.heap.size w w'):DJ o w (.returned (.tuple #[As p,.int .i64 n,.bool true])) w':=by subst h;exact⟨rfl,hb⟩
theorem DJ.ok {o:Option TR} {w w':World} {x a E:Nat} {nu:ByteArray}(h:o=some (.ok 4 ⟨#[]⟩ (JL x) 0 a E)) (hn:nu.data.toList=Ca 10 x) (hb:Below w.heap.size w w'):DJ o w (.returned (.tuple #[AK 4 ⟨#[]⟩ nu 0 a E false,.int .i64 0,.bool true])) w':=by
 subst h;rw[Sp hn];exact⟨rfl,hb⟩
theorem Cd {a:Int} {n:Int}(h:a≠n):(a !=n)=true:=by rw[bne,Bool.not_eq_true',Lq];intro e;exact h (eq_of_beq e)
theorem BI {a:Int} {n:Int}(h:a=n):(a !=n)=false:=by rw[bne,h,beq_self_eq_true];rfl
theorem AA {a:Int} {n:Int}(h:a≠n):(a==n)=false:=by rw[Lq];intro e;exact h (eq_of_beq e)
theorem beq_of_eq {a:Int} {n:Int}(h:a=n):(a==n)=true:=by rw[h];exact beq_self_eq_true _
theorem A8.new (w:World):A8 (w.alloc (.cells #[.int .i64 0,.string ⟨#[]⟩,.string ⟨#[]⟩,.int .u64 0,.int .i64 0,.int .i64 0,.bool false] 30)) w.heap.size:=⟨dk w _⟩
theorem A8.lt {w:World} {b:Nat}(h:A8 w b):b<w.heap.size:=(OF.1 h.h).1
theorem RB (s:ByteArray) (a:Nat) (w:World) (hs:s.size<=140737488355000) (ha:a<=s.size):
 Calls Tryz.prog 207 #[.string s,.int .i64 a] w (DJ (DU s a) w):=by
 obtain⟨R,hR⟩:∃R,R=DU s a:=⟨_,rfl⟩;rw[<-hR];unfold DU at hR;obtain⟨f,hf⟩:∃f,f=a+2:=⟨_,rfl⟩;have ef:(a:Int)+2=f:=by omega
 rw[show a+4=f+2 by omega,show a+3=f+1 by omega,<-hf]at hR;obtain⟨c0,hc0⟩:∃c,c=AE s a:=⟨_,rfl⟩;obtain⟨c1,hc1⟩:∃c,c=AE s (a+1):=⟨_,rfl⟩;obtain⟨c2,hc2⟩:∃c,c=AE s f:=⟨_,rfl⟩;obtain⟨c3,hc3⟩:∃c,c=AE s (f+1):=⟨_,rfl⟩;obtain⟨cv,hcv⟩:∃c,c=Et s f:=⟨_,rfl⟩;obtain⟨eo,heo⟩:∃c,c=Dp s f:=⟨_,rfl⟩;have CA:Hid (∀w,Calls Tryz.prog 64 #[.string s,.int .i64 a] w fun e w'=>e= .returned (.int .u8 c0)/\w=w'):=Hi (fun w=>by rw[hc0];exact E8 s a w);have CB:Hid (∀w,Calls Tryz.prog 64 #[.string s,.int .i64 ((a:Int)+1)] w fun e w'=>e= .returned (.int .u8 c1)/\w=w'):=Hi (fun w=>by rw[hc1];exact E8 s (a+1) w);have CF:Hid (∀w,Calls Tryz.prog 64 #[.string s,.int .i64 f] w fun e w'=>e= .returned (.int .u8 c2)/\w=w'):=Hi (fun w=>by rw[hc2];exact E8 s f w);have CG:Hid (∀w,Calls Tryz.prog 64 #[.string s,.int .i64 ((f:Int)+1)] w fun e w'=>e= .returned (.int .u8 c3)/\w=w'):=Hi (fun w=>by rw[hc3];exact E8 s (f+1) w);have CC:Hid (∀w,Calls Tryz.prog 29 #[.string s,.int .i64 f] w fun e w'=>e= .returned (.tuple #[.int .i64 ((cv.getD (0,0)).1:Nat),.int .i64 ((cv.getD (0,0)).2:Nat)])/\w=w'):=Hi (fun w=>by rw[hcv];exact Zt s f w (by omega));have CE:Hid (∀w,Calls Tryz.prog 212 #[.string s,.int .i64 f] w (Cp eo w)):=Hi (fun w=>by rw[heo];exact Sl s f w (by omega) (by omega));have CI:=FH s f;have PV0:c2<128->f<s.size->(((Et s f).getD (0,0)).1:Int)=c2:=fun h1 h2=>by
  rw[hc2]at h1⊢;have h3:=FV h2 h1;rcases FH s f with⟨v,n,h4,h5⟩|⟨h4,_⟩
  ·rw[h5];exact(h4.unique h3).1
  ·exact absurd h3 (h4 _ _)
 have EB:∀v t,eo=some (v,t)->f+1<t/\t<=s.size/\AR v:=fun v t h=>Gp (by rw[<-heo,h]);rw[<-hc0,<-hc1,<-hc2,<-hc3,<-hcv,<-heo]at hR;rw[<-hcv]at CI PV0;clear hc0 hc1 hc2 hc3 hcv heo hf;obtain⟨P,hP⟩:∃P:Nat×Nat,P=cv.getD (0,0):=⟨_,rfl⟩;rw[<-hP]at CC PV0;obtain⟨pv,pn⟩:=P;have CI2:(cv=some (pv,pn)/\1<=pn/\f+pn<=s.size/\pv<=1114111)\/(cv=none/\pv=0/\pn=0):=by
  rcases CI with⟨v,n,h1,h2⟩|⟨_,h2⟩
  ·rw[h2]at hP;obtain⟨rfl,rfl⟩:=Prod.mk.inj hP;have h3:=h1.size;have h4:=h1.last;have h5:=h1.pos.2;unfold AR at h5;exact .inl ⟨h2,by omega,h4,by omega⟩
  ·rw[h2]at hP;obtain⟨rfl,rfl⟩:=Prod.mk.inj hP;exact .inr ⟨h2,rfl,rfl⟩
 clear CI hP;have CI:=Hi CI2;have PV:=Hi PV0;have HEB:=Hi EB;clear CI2 EB PV0;by_cases n1:c0≠48\/c1≠39\/s.size<=f\/c2=10
 ·rw[if_pos n1]at hR;have HR:=Hi hR;clear hR;have q:((c0 !=48)=true)\/((c0 !=48)=false/\(c1 !=39)=true)\/((c0 !=48)=false/\(c1 !=39)=false/\s.size<=f)\/((c0 !=48)=false/\(c1 !=39)=false/\¬s.size<=f/\(c2==10)=true):=by
   by_cases h0:c0=48
   ·by_cases h1:c1=39
    ·by_cases h2:s.size<=f
     ·exact .inr (.inr (.inl ⟨BI h0,BI h1,h2⟩))
     ·exact .inr (.inr (.inr ⟨BI h0,BI h1,h2,beq_of_eq (by omega)⟩))
    ·exact .inr (.inl ⟨BI h0,Cd h1⟩)
   ·exact .inl (Cd h0)
  clear n1;rcases q with q0|⟨q0,q1⟩|⟨q0,q1,q2⟩|⟨q0,q1,q2,q3⟩
  all_goals
   go_enter Tryz.func207,Tryz.ntmps207
   go_wp2_with (first
    | (go_at_call 29;(with_reducible refine(CC.out _).mono ?_);rintro e w' ⟨rfl,rfl⟩)
    | (go_at_call 64;(with_reducible refine(CF.out _).mono ?_);rintro e w' ⟨rfl,rfl⟩)
    | (go_at_call 64;(with_reducible refine(CA.out _).mono ?_);rintro e w' ⟨rfl,rfl⟩)
    | (go_at_call 64;(with_reducible refine(CB.out _).mono ?_);rintro e w' ⟨rfl,rfl⟩))
   refine AI (v:= .tuple #[As 0,.int .i64 0,.bool false]) ?_ rfl (DJ.no HR.out ?_)
   ·simp only[results,Tryz.results207];go_simp;rfl
   ·exact(AH _ _).alloc (nR _) _
 ·rw[if_neg n1]at hR;have q0:(c0 !=48)=false:=BI (by omega);have q1:(c1 !=39)=false:=BI (by omega);have q2:¬s.size<=f:=by omega
  have q3:(c2==10)=false:=AA (by omega);clear n1;by_cases h39:c2=39
  ·rw[if_pos h39]at hR;have q4:(c2==39)=true:=beq_of_eq h39;by_cases h3:c3=39
   ·rw[if_pos h3]at hR;have HR:=Hi hR;have q5:(c3==39)=true:=beq_of_eq h3;obtain⟨E,hE⟩:∃E,E=f+2:=⟨_,rfl⟩;have p39:pv=39:=by have h9:(pv:Int)=c2:=PV.out (by omega) (by omega);omega
    have ee:(f:Int)+2=E:=by omega
    have bd2:E<=140737488355004:=by omega
    rw[<-hE]at HR;obtain⟨x,hx⟩:∃x,x=pv:=⟨_,rfl⟩;have CS:Hid (∀W,Calls Tryz.prog 63 #[.int .i64 x] W (LW x W)):=Hi (fun W=>(Ke x W (by omega)).mono fun _ _ h=>h.one);rw[<-p39,<-hx]at HR;rw[<-hx]at CC;have hx2:x<=1114111:=by omega
    clear hR h39 h3 hE hx p39 PV CI;go_enter Tryz.func207,Tryz.ntmps207
    go_wp2_with (first
     | (go_at_call 29;(with_reducible refine(CC.out _).mono ?_);rintro e w' ⟨rfl,rfl⟩)
     | (go_at_call 64;(with_reducible refine(CF.out _).mono ?_);rintro e w' ⟨rfl,rfl⟩)
     | (go_at_call 64;(with_reducible refine(CA.out _).mono ?_);rintro e w' ⟨rfl,rfl⟩)
     | (go_at_call 64;(with_reducible refine(CB.out _).mono ?_);rintro e w' ⟨rfl,rfl⟩)
     | (go_at_call 64;(with_reducible refine(CG.out _).mono ?_);rintro e w' ⟨rfl,rfl⟩))
    generalize hW:w.alloc _=W1;have bl:Below w.heap.size w W1:=by subst hW;exact(AH _ _).alloc (nR _) _
    have hk:A8 W1 w.heap.size:=by subst hW;exact A8.new w
    clear hW;refine(CS.out _).mono ?_;rintro e W2 ⟨⟨sa,m,sc,rfl,hT,hv,b2⟩⟩;have hm:m<=1000000:=by
     have h1:=T2.le hT (show x<2^21 by have:(2:Nat)^21=2097152:=by decide
                                       omega) (nR _)
     omega
    go_wp2_with fail
    refine(Sn _ x m 10 _ hm (by decide) (by decide) (Hi hv) hT).mono ?_;rintro e W4 ⟨nu,rfl,hnu,b4⟩;have b5:=b2.trans (b4.mono b2.size);obtain⟨k0,k1,k2,k3,k4,k5,k6⟩:=(hk.below b5).cs;obtain⟨f0,f1,f2,f3,f4,f5,f6⟩:=(hk.below b5).fs;have HN:=Hi hnu;have HB:=Hi (bl.trans (b5.mono bl.size));clear hnu b2 b4 b5 hv hT bl hk hm;go_wp2;refine AI (v:= .tuple #[AK 4 ⟨#[]⟩ nu 0 a E false,.int .i64 0,.bool true]) ?_ rfl (DJ.ok HR.out HN.out ?_)
    ·simp only[results,Tryz.results207];go_simp;rfl
    ·iterate 7 refine By ?_ (by first|omega|(simp only;omega)) _
     exact HB.out
   ·rw[if_neg h3]at hR;have HR:=Hi hR;have q5:(c3==39)=false:=AA h3;clear hR h39 h3;go_enter Tryz.func207,Tryz.ntmps207
    go_wp2_with (first
     | (go_at_call 29;(with_reducible refine(CC.out _).mono ?_);rintro e w' ⟨rfl,rfl⟩)
     | (go_at_call 64;(with_reducible refine(CF.out _).mono ?_);rintro e w' ⟨rfl,rfl⟩)
     | (go_at_call 64;(with_reducible refine(CA.out _).mono ?_);rintro e w' ⟨rfl,rfl⟩)
     | (go_at_call 64;(with_reducible refine(CB.out _).mono ?_);rintro e w' ⟨rfl,rfl⟩)
     | (go_at_call 64;(with_reducible refine(CG.out _).mono ?_);rintro e w' ⟨rfl,rfl⟩))
    refine AI (v:= .tuple #[As 0,.int .i64 0,.bool false]) ?_ rfl (DJ.no HR.out ?_)
    ·simp only[results,Tryz.results207];go_simp;rfl
    ·exact(AH _ _).alloc (nR _) _
  ·rw[if_neg h39]at hR;have q4:(c2==39)=false:=AA h39;by_cases h92:c2=92
   ·rw[if_pos h92]at hR;have q5:(c2==92)=true:=beq_of_eq h92;cases eo with
    |none=>
     have HR:=Hi hR;have CE2:Hid (∀w,Calls Tryz.prog 212 #[.string s,.int .i64 f] w fun e w'=>∃x t:Int,e= .returned (.tuple #[.int .i64 x,.int .i64 t,.bool false])/\Below w.heap.size w w'):=Hi (fun w=>(CE.out w).mono fun _ _ ⟨⟨x,t,h⟩,hb⟩=>⟨x,t,h,hb⟩);clear hR h39 h92 CE;go_enter Tryz.func207,Tryz.ntmps207
     go_wp2_with (first
      | (go_at_call 29;(with_reducible refine(CC.out _).mono ?_);rintro e w' ⟨rfl,rfl⟩)
      | (go_at_call 64;(with_reducible refine(CF.out _).mono ?_);rintro e w' ⟨rfl,rfl⟩)
      | (go_at_call 64;(with_reducible refine(CA.out _).mono ?_);rintro e w' ⟨rfl,rfl⟩)
      | (go_at_call 64;(with_reducible refine(CB.out _).mono ?_);rintro e w' ⟨rfl,rfl⟩)
      | (go_at_call 64;(with_reducible refine(CG.out _).mono ?_);rintro e w' ⟨rfl,rfl⟩))
     generalize hW:w.alloc _=W1;have bl:Below w.heap.size w W1:=by subst hW;exact(AH _ _).alloc (nR _) _
     have hk:A8 W1 w.heap.size:=by subst hW;exact A8.new w
     clear hW;refine(CE2.out _).mono ?_;rintro e W2 ⟨x,t,rfl,b2⟩;have hk2:=hk.below b2;have bl2:=bl.trans (b2.mono bl.size);clear hk bl b2;have hk:=hk2;have bl:=bl2;clear hk2 bl2
     go_wp2_with fail
     refine(Ew f 32 _).mono ?_;rintro e W4 ⟨rfl,b4⟩;unfold As AK;obtain⟨k0,k1,k2,k3,k4,k5,k6⟩:=(hk.below b4).cs;obtain⟨f0,f1,f2,f3,f4,f5,f6⟩:=(hk.below b4).fs;have HB:=Hi (bl.trans (b4.mono bl.size));have hlt:=(hk.below b4).lt;clear b4 bl hk;go_wp2;refine AI (v:= .tuple #[As f,.int .i64 32,.bool true]) ?_ rfl (DJ.er HR.out ?_)
     ·simp only[results,Tryz.results207];go_simp;rfl
     ·refine Below.al ?_ _
      iterate 7 refine By ?_ (by first|omega|(simp only;omega)) _
      exact HB.out
    |some xt=>
     obtain⟨x,t⟩:=xt;have HR:=Hi hR;have hb3:=HEB.out x t rfl;have hx2:x<=1114111:=by have:=hb3.2.2;unfold AR at this;omega
     obtain⟨d,hd⟩:∃d,d=t-f:=⟨_,rfl⟩;have e1:(t:Int)-f=d:=by omega
     have e2:(f:Int)+d=t:=by omega
     obtain⟨E,hE⟩:∃E,E=t:=⟨_,rfl⟩;rw[<-hE]at HR e1 e2;have CS:Hid (∀W,Calls Tryz.prog 63 #[.int .i64 x] W (LW x W)):=Hi (fun W=>(Ke x W (by omega)).mono fun _ _ h=>h.one);have CE2:Hid (∀w,Calls Tryz.prog 212 #[.string s,.int .i64 f] w fun e w'=>e= .returned (.tuple #[.int .i64 x,.int .i64 E,.bool true])/\Below w.heap.size w w'):=Hi (fun w=>(CE.out w).mono fun _ _ ⟨h,hb⟩=>⟨by rw[hE];exact h,hb⟩);have bd1:d<=140737488355000:=by omega
     have bd2:E<=140737488355000:=by omega
     clear hR h39 h92 CE hb3 hd hE;go_enter Tryz.func207,Tryz.ntmps207
     go_wp2_with (first
      | (go_at_call 29;(with_reducible refine(CC.out _).mono ?_);rintro e w' ⟨rfl,rfl⟩)
      | (go_at_call 64;(with_reducible refine(CF.out _).mono ?_);rintro e w' ⟨rfl,rfl⟩)
      | (go_at_call 64;(with_reducible refine(CA.out _).mono ?_);rintro e w' ⟨rfl,rfl⟩)
      | (go_at_call 64;(with_reducible refine(CB.out _).mono ?_);rintro e w' ⟨rfl,rfl⟩)
      | (go_at_call 64;(with_reducible refine(CG.out _).mono ?_);rintro e w' ⟨rfl,rfl⟩))
     generalize hW:w.alloc _=W1;have bl:Below w.heap.size w W1:=by subst hW;exact(AH _ _).alloc (nR _) _
     have hk:A8 W1 w.heap.size:=by subst hW;exact A8.new w
     clear hW;refine(CE2.out _).mono ?_;rintro e W2 ⟨rfl,b2⟩;have hk2:=hk.below b2;have bl2:=bl.trans (b2.mono bl.size);clear hk bl b2;have hk:=hk2;have bl:=bl2;clear hk2 bl2
     go_wp2_with fail
     refine(CS.out _).mono ?_;rintro e W3 ⟨⟨sa,m,sc,rfl,hT,hv,b2⟩⟩;have hm:m<=1000000:=by
      have h1:=T2.le hT (show x<2^21 by have:(2:Nat)^21=2097152:=by decide
                                        omega) (nR _)
      omega
     go_wp2_with fail
     refine(Sn _ x m 10 _ hm (by decide) (by decide) (Hi hv) hT).mono ?_;rintro e W4 ⟨nu,rfl,hnu,b4⟩;have b5:=b2.trans (b4.mono b2.size);obtain⟨k0,k1,k2,k3,k4,k5,k6⟩:=(hk.below b5).cs;obtain⟨f0,f1,f2,f3,f4,f5,f6⟩:=(hk.below b5).fs;have HN:=Hi hnu;have HB:=Hi (bl.trans (b5.mono bl.size));clear hnu b2 b4 b5 hv hT bl hk hm;go_wp2;refine AI (v:= .tuple #[AK 4 ⟨#[]⟩ nu 0 a E false,.int .i64 0,.bool true]) ?_ rfl (DJ.ok HR.out HN.out ?_)
     ·simp only[results,Tryz.results207];go_simp;rfl
     ·iterate 7 refine By ?_ (by first|omega|(simp only;omega)) _
      exact HB.out
   ·rw[if_neg h92]at hR;have q5:(c2==92)=false:=AA h92;rcases CI.out with⟨h1,h2,h3,h4⟩|⟨h1,rfl,rfl⟩
    ·rw[h1]at hR;simp only at hR;have HR:=Hi hR;have q6:((pn:Int)==0)=false:=AA (by omega);obtain⟨E,hE⟩:∃E,E=f+pn:=⟨_,rfl⟩;have e2:(f:Int)+pn=E:=by omega
     rw[<-hE]at HR;obtain⟨x,hx⟩:∃x,x=pv:=⟨_,rfl⟩;rw[<-hx]at HR CC h4;have hx2:x<=1114111:=h4;have CS:Hid (∀W,Calls Tryz.prog 63 #[.int .i64 x] W (LW x W)):=Hi (fun W=>(Ke x W (by omega)).mono fun _ _ h=>h.one);have bd2:E<=140737488355000:=by omega
     clear hR h39 h92 h1 h2 h3 h4 hx hE;go_enter Tryz.func207,Tryz.ntmps207
     go_wp2_with (first
      | (go_at_call 29;(with_reducible refine(CC.out _).mono ?_);rintro e w' ⟨rfl,rfl⟩)
      | (go_at_call 64;(with_reducible refine(CF.out _).mono ?_);rintro e w' ⟨rfl,rfl⟩)
      | (go_at_call 64;(with_reducible refine(CA.out _).mono ?_);rintro e w' ⟨rfl,rfl⟩)
      | (go_at_call 64;(with_reducible refine(CB.out _).mono ?_);rintro e w' ⟨rfl,rfl⟩)
      | (go_at_call 64;(with_reducible refine(CG.out _).mono ?_);rintro e w' ⟨rfl,rfl⟩))
     generalize hW:w.alloc _=W1;have bl:Below w.heap.size w W1:=by subst hW;exact(AH _ _).alloc (nR _) _
     have hk:A8 W1 w.heap.size:=by subst hW;exact A8.new w
     clear hW;refine(CS.out _).mono ?_;rintro e W2 ⟨⟨sa,m,sc,rfl,hT,hv,b2⟩⟩;have hm:m<=1000000:=by
      have h1:=T2.le hT (show x<2^21 by have:(2:Nat)^21=2097152:=by decide
                                        omega) (nR _)
      omega
     go_wp2_with fail
     refine(Sn _ x m 10 _ hm (by decide) (by decide) (Hi hv) hT).mono ?_;rintro e W4 ⟨nu,rfl,hnu,b4⟩;have b5:=b2.trans (b4.mono b2.size);obtain⟨k0,k1,k2,k3,k4,k5,k6⟩:=(hk.below b5).cs;obtain⟨f0,f1,f2,f3,f4,f5,f6⟩:=(hk.below b5).fs;have HN:=Hi hnu;have HB:=Hi (bl.trans (b5.mono bl.size));clear hnu b2 b4 b5 hv hT bl hk hm;go_wp2;refine AI (v:= .tuple #[AK 4 ⟨#[]⟩ nu 0 a E false,.int .i64 0,.bool true]) ?_ rfl (DJ.ok HR.out HN.out ?_)
     ·simp only[results,Tryz.results207];go_simp;rfl
     ·iterate 7 refine By ?_ (by first|omega|(simp only;omega)) _
      exact HB.out
    ·rw[h1]at hR;have HR:=Hi hR;clear hR h39 h92 h1;go_enter Tryz.func207,Tryz.ntmps207
     go_wp2_with (first
      | (go_at_call 29;(with_reducible refine(CC.out _).mono ?_);rintro e w' ⟨rfl,rfl⟩)
      | (go_at_call 64;(with_reducible refine(CF.out _).mono ?_);rintro e w' ⟨rfl,rfl⟩)
      | (go_at_call 64;(with_reducible refine(CA.out _).mono ?_);rintro e w' ⟨rfl,rfl⟩)
      | (go_at_call 64;(with_reducible refine(CB.out _).mono ?_);rintro e w' ⟨rfl,rfl⟩)
      | (go_at_call 64;(with_reducible refine(CG.out _).mono ?_);rintro e w' ⟨rfl,rfl⟩))
     generalize hW:w.alloc _=W1;have bl:Below w.heap.size w W1:=by subst hW;exact(AH _ _).alloc (nR _) _
     have hk:A8 W1 w.heap.size:=by subst hW;exact A8.new w
     clear hW;refine(Ew f 30 _).mono ?_;rintro e W4 ⟨rfl,b4⟩;unfold As AK;obtain⟨k0,k1,k2,k3,k4,k5,k6⟩:=(hk.below b4).cs;obtain⟨f0,f1,f2,f3,f4,f5,f6⟩:=(hk.below b4).fs;have HB:=Hi (bl.trans (b4.mono bl.size));have hlt:=(hk.below b4).lt;clear b4 bl hk;go_wp2;refine AI (v:= .tuple #[As f,.int .i64 30,.bool true]) ?_ rfl (DJ.er HR.out ?_)
     ·simp only[results,Tryz.results207];go_simp;rfl
     ·refine Below.al ?_ _
      iterate 7 refine By ?_ (by first|omega|(simp only;omega)) _
      exact HB.out
end Go.Proofs
end
