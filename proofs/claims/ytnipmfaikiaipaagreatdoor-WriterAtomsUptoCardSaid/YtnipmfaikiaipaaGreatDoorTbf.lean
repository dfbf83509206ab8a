import Derived.Test.YtnipmfaikiaipaaGreatDoorTbc
import Derived.Test.YtnipmfaikiaipaaGreatDoorTbe
import Derived.BigRegion
set_option linter.unusedSimpArgs false
set_option maxRecDepth 1000000
set_option maxHeartbeats 40000000
namespace Go.Bg
open Go Go.Proofs
theorem P7 {x m:Nat}(h:Bj x m) (hx:x<2^Go.Proofs.LE):sz x m<=4096:=by
 rcases dT x with rfl|h0
 ·have h1:m=0:=by
   rcases h.2 with h2|h2
   ·exact h2
   ·have:=Bk (m-1);omega
  subst h1;unfold sz;simp
 ·have h1:=Ro h (by omega);have h2:2^(sz x m-1)<2^Go.Proofs.LE:=IS h1.2.1 hx;have h3:=(Nat.pow_lt_pow_iff_right (show 1<2 by decide)).1 h2;have:Go.Proofs.LE=4096:=rfl;omega
theorem Z0 {x m:Nat}(h:Bj x m) (hx:2^Go.Proofs.LE<=x):4096<sz x m:=by
 have h0:0<2^Go.Proofs.LE:=An _;have h1:=Ro h (by omega);have h2:2^Go.Proofs.LE<2^sz x m:=IS hx h1.2.2;have h3:=(Nat.pow_lt_pow_iff_right (show 1<2 by decide)).1 h2;have:Go.Proofs.LE=4096:=rfl;omega
end Go.Bg
namespace Go.Proofs
open Go.RowKit Go.Bg Go.Hb Go.Lx Go.Rb Go.Pf
theorem Vk (c d:Nat) (h:Hid (Ah c=true/\d=CK c)) (w:World):Calls Tryz.prog 216 #[.int .u8 c] w fun e w'=>e= .returned (.int .i64 d)/\w=w':=by
 obtain⟨h1,hd⟩:=h.out;have hc:(48<=c/\c<=57)\/(97<=c/\c<=102)\/(65<=c/\c<=70):=by
  simp[Ah,AM]at h1;omega
 unfold CK at hd;clear h h1;rcases hc with hc|hc|hc
 ·rw[if_pos hc]at hd;have c0:(c:Int)-48=d:=by omega
  have dm:(d:Int) %256=d:=by omega
  have c1:decide ((48:Int)<=(c:Int))=true:=A5;have c2:decide ((c:Int)<=57)=true:=A5;have db:d<=9:=by omega
  clear hd hc;go_enter Tryz.func216,Tryz.ntmps216;go_wp2;go_ret;exact⟨rfl,rfl⟩
 ·rw[if_neg (by omega),if_pos (by omega)]at hd;obtain⟨d1,hd1⟩:∃d1,d1=d-10:=⟨_,rfl⟩;have c0:(c:Int)-97=d1:=by omega
  have e2:(d1:Int)+10=d:=by omega
  have db:d1<=5:=by omega
  have dm:(d1:Int) %256=d1:=by omega
  have c1:decide ((48:Int)<=(c:Int))=true:=A5;have c2:decide ((c:Int)<=57)=false:=BC;have c3:decide ((97:Int)<=(c:Int))=true:=A5;have c4:decide ((c:Int)<=122)=true:=A5;clear hd hc hd1;go_enter Tryz.func216,Tryz.ntmps216;go_wp2;go_ret;exact⟨rfl,rfl⟩
 ·rw[if_neg (by omega),if_neg (by omega),if_pos (by omega)]at hd;obtain⟨d1,hd1⟩:∃d1,d1=d-10:=⟨_,rfl⟩;have c0:(c:Int)-65=d1:=by omega
  have e2:(d1:Int)+10=d:=by omega
  have db:d1<=5:=by omega
  have dm:(d1:Int) %256=d1:=by omega
  have c1:decide ((48:Int)<=(c:Int))=true:=A5;have c2:decide ((c:Int)<=57)=false:=BC;have c3:decide ((97:Int)<=(c:Int))=false:=BC;have c4:decide ((65:Int)<=(c:Int))=true:=A5;have c5:decide ((c:Int)<=90)=true:=A5;clear hd hc hd1;go_enter Tryz.func216,Tryz.ntmps216;go_wp2;go_ret;exact⟨rfl,rfl⟩
def Fh (X:Nat) (w:World) (e:Ending) (w':World):Prop:=
 if X<2^Go.Proofs.LE then Gc X w e w' else e= .returned (.tuple #[.agg #[.bool false,.slice none 0 0],.int .i64 10])/\Below w.heap.size w w'
theorem Rj {X:Nat} {w:World}(h:X<2^Go.Proofs.LE):Fh X w=Gc X w:=by funext e w';unfold Fh;rw[if_pos h]
theorem cB {X:Nat} {w:World}(h:¬X<2^Go.Proofs.LE):Fh X w=fun e w'=>e= .returned (.tuple #[.agg #[.bool false,.slice none 0 0],.int .i64 10])/\Below w.heap.size w w':=by funext e w';unfold Fh;rw[if_neg h]
theorem aW (s:ByteArray) (r:Nat) (w:World) (hpos:0<s.size) (h5:s.size<=100000000) (hr:2<=r) (hr2:r<=16) (hh:Hid (∀k (h:k<s.size),Ah s[k].toNat=true/\CK s[k].toNat<r)):
 Calls Tryz.prog 169 #[.string s,.int .i64 r] w (Fh (vN r s s.size) w):=by
 obtain⟨i0,hi,hz0,hz1,hz2⟩:=info_parts SJ;have hne:s.toList.isEmpty=false:=by
  rw[gT];have h1:s.data.toList.length=s.size:=by simp
  cases h:s.data.toList with
  |nil=>rw[h]at h1;simp at h1;omega
  |cons a b=>rfl
 have R1:decide ((r:Int)<2)=false:=BC;have R2:decide ((36:Int)<r)=false:=BC;have h45:((s[0].toNat:Int)==45)=false:=by
  have h1:=(hh.out 0 hpos).1;refine Xh (n:=45) ?_;intro h2;rw[h2]at h1
  revert h1
  decide
 go_enter Tryz.func169,Tryz.ntmps169;go_wp2;generalize hW1:w.alloc _=W1;have tok:W1.heap[w.heap.size]? =some (.cells #[.bool false,.slice none 0 0] 219 (0,0)):=by subst hW1;exact dk w _
 have bl:Below w.heap.size w W1:=by subst hW1;exact(AH _ _).alloc (nR _) _
 have hlt0:w.heap.size<W1.heap.size:=by subst hW1;simp
 have HW:=Hi hW1;clear hW1
 go_loop [33] (fun i=>∃k:Nat,k<=s.size/\i= .int .i64 k) (fun i=>s.size-(intOf i).toNat)
 case atStart=>exact⟨0,by omega,rfl⟩
 case round=>
  obtain⟨k,hk,rfl⟩:=hrel;by_cases hlt:k<s.size
  ·obtain⟨g1,g2⟩:=hh.out k hlt;obtain⟨d,hdd⟩:∃d,d=CK s[k].toNat:=⟨_,rfl⟩;have hdr:d<r:=by omega
   have b6:decide (r<=d)=false:=BC;have HC:Hid (Ah s[k].toNat=true/\d=CK s[k].toNat):=Hi ⟨g1,hdd⟩;have hd16:d<16:=by omega
   clear g1 g2 hdd hdr
   go_wp2_with (go_at_call 216;(with_reducible refine(Vk _ d HC _).mono ?_);rintro e w' ⟨rfl,rfl⟩)
   go_round
   case rel=>exact⟨k+1,by omega,by go_num⟩
   case measure=>simp[intOf];omega
  ·go_wp2;clear hlt hk
   go_loopw [8,49] (fun l i wr=>∃(k m:Nat),k<=s.size/\i= .int .i64 k/\PQ r W1.heap.size W1 (vN r s k) m l wr/\vN r s k<2^Go.Proofs.LE) (fun _ i _=>s.size-(intOf i).toNat)
   case atStart=>exact⟨0,0,by omega,rfl,⟨⟨by simp[vN],.inl rfl⟩,World.ownsRow_nil _ _ _ _,AH _ _⟩,An _⟩
   case round=>
    obtain⟨k,m,hk,rfl,hq,hxl⟩:=hrel;obtain⟨la,lc,hll⟩:=Jb hq.own;subst hll;have hm:m<=129:=by
     have h2:=P7 hq.tight hxl;have h3:=U7 (vN r s k) m;omega
    by_cases hlt:k<s.size
    ·obtain⟨g1,g2⟩:=hh.out k hlt;obtain⟨d,hdd⟩:∃d,d=CK s[k].toNat:=⟨_,rfl⟩;have hdr:d<r:=by omega
     obtain⟨x,hx⟩:∃x,x=vN r s k:=⟨_,rfl⟩;rw[<-hx]at hq;have hx1:vN r s (k+1)=x*r+d:=by
      show vN r s k*r+CK (byte s k)=_;rw[FK hlt,<-hdd,<-hx]
     have HX1:=Hi hx1;have HDR:=Hi hdr;have HQT:=Hi hq.tight;have HC:Hid (Ah s[k].toNat=true/\d=CK s[k].toNat):=Hi ⟨g1,hdd⟩;have hd16:d<16:=by omega
     have hd15:(d:Int)<=15:=by omega
     have I0:PI r d W1.heap.size W1 x m (.slice la m lc) 0 d wr:=⟨by omega,(carry_zero x r d).symm,by rw[L3];exact hq.own,hq.Ad⟩;clear g1 g2 hdd hx hx1 hdr hxl;obtain⟨wo,rfl⟩:∃wo:World,wo=wr:=⟨_,rfl⟩
     go_wp2_with (go_at_call 216;(with_reducible refine(Vk _ d HC _).mono ?_);rintro e w' ⟨rfl,rfl⟩)
     go_loopw [10,59] (fun cc i wr=>∃(j q:Nat),cc= .int .u64 q/\i= .int .i64 j/\PI r d W1.heap.size W1 x m (.slice la m lc) j q wr) (fun _ i _=>m-(intOf i).toNat)
     case atStart=>exact⟨0,d,rfl,rfl,I0⟩
     case round=>
      obtain⟨j,q,rfl,rfl,hi2⟩:=hrel;by_cases hj:j<m
      ·obtain⟨g,rfl⟩:∃g,la=some ⟨g,0,none⟩:=by
        rcases hi2.own.2 with⟨_,h⟩|⟨g,cap,cur,h,_⟩
        ·omega
        ·simp only[Value.slice.injEq]at h;exact⟨g,h.1⟩
       obtain⟨lx,hlx⟩:∃lx,lx=A0 x j:=⟨_,rfl⟩;obtain⟨lq,hlq⟩:∃lq,lq=A0 (x*r+d) j:=⟨_,rfl⟩;obtain⟨cq,hcq⟩:∃cq,cq=carry x r d (j+1):=⟨_,rfl⟩;obtain⟨t,ht⟩:∃t,t=lx*r+q:=⟨_,rfl⟩;have hcell:wr.cell? ⟨g,j,none⟩=some (.int .u32 (lx:Nat)):=by rw[World.ownsRow.cellAt hi2.own j (by omega),Mj x r d j m hj,hlx]
       have hfz:=World.ownsRow.frozenAt hi2.own j;have hlb:lx<4294967296:=by rw[hlx];exact IU x j
       have hqb:q<r:=by rw[hi2.XG];exact OZ HDR.out
       have t1:lq=t %4294967296:=by rw[hlq,Tq,ht,hlx,hi2.XG];rfl
       have t2:cq=t/4294967296:=by rw[hcq,RQ,ht,hlx,hi2.XG];rfl
       have HN:=Hi (hi2.next hlq hcq hj);have e1:(lx:Int)*(r:Int)+(q:Int)=(t:Int):=by rw[ht];push_cast;rfl
       have e2:(t:Int) %4294967296=(lq:Int):=by omega
       have e3:(t:Int)/4294967296=(cq:Int):=by omega
       have e4:(lx:Int)*(r:Int)<=68719476720:=by
        have h1:lx*r<=4294967295*16:=Nat.mul_le_mul (by omega) hr2;have h2:(((lx*r:Nat)):Int)=(lx:Int)*(r:Int):=by push_cast;rfl
        omega
       have e5:0<=(lx:Int)*(r:Int):=by
        have h2:(((lx*r:Nat)):Int)=(lx:Int)*(r:Int):=by push_cast;rfl
        omega
       have hji:(j:Int)<(m:Int):=by omega
       clear hlx hlq hcq ht t1 t2 hi2;go_wp2;go_roundw
       case rel=>exact⟨j+1,cq,rfl,by go_num,HN.out⟩
       case measure=>simp[intOf];omega
      ·have hjm:j=m:=by have:=hi2.le;omega
       subst hjm;have hqc:q=(x*r+d)/B^j:=by rw[hi2.XG,Tg HQT.out.1]
       have hown:=hi2.own;rw[M0]at hown;have hbel:=hi2.Ad;obtain⟨y,hy⟩:∃y,y=x*r+d:=⟨_,rfl⟩;have hxy:x<=y:=by
        rw[hy];have:x*1<=x*r:=dg x (by omega);omega
       rw[<-hy]at hown hqc;have HX2:Hid (vN r s (k+1)=y):=Hi (by rw[HX1.out,hy]);have hqb:q<r:=by rw[hi2.XG];exact OZ HDR.out
       clear hi2 hy HX1;by_cases hq0:q=0
       ·subst hq0;have hty:Bj y j:=by
         refine⟨(Nat.div_eq_zero_iff_lt (Bk j)).1 hqc.symm,?_⟩;rcases HQT.out.2 with h|h
         ·exact .inl h
         ·exact .inr (To h hxy)
        have HP:Hid (PQ r W1.heap.size W1 y j (.slice la j lc) wr):=Hi ⟨hty,hown,hbel⟩;have HLV:=Hi (Co.D4 hown hty.1);have hj6:j<=70368744177664:=by omega
        clear hqc hown hbel hty hj
        go_wp2_with (go_at_call 217;(with_reducible refine(Tryz.size _ y j _ hj6 HLV).mono ?_))
        rintro e w' ⟨m',ht',rfl,rfl⟩;by_cases hyl:y<2^Go.Proofs.LE
        ·have hs4:decide ((4096:Int)<(sz y m':Nat))=false:=AS (by have:=P7 ht' hyl;omega);have HYL:=Hi hyl;clear hyl ht';go_wp2;go_roundw
         case rel=>exact⟨k+1,j,by omega,by go_num,by rw[HX2.out];exact HP.out,by rw[HX2.out];exact HYL.out⟩
         case measure=>simp[intOf];omega
        ·have hs4:decide ((4096:Int)<(sz y m':Nat))=true:=AN (by have:=Z0 ht' (by omega);omega);have HNL:Hid (¬vN r s s.size<2^Go.Proofs.LE):=Hi (by have:=Ii (r:=r) (by omega) s (show k+1<=s.size by omega);rw[HX2.out]at this;omega);have hbel:=HP.out.Ad;have T:=(hbel.block w.heap.size hlt0).trans tok;have BL:=Hi (bl.trans (hbel.mono (by omega)));clear hyl ht' hbel tok bl;have x0:=Lib.cell_of_heap T 0;have x1:=Lib.cell_of_heap T 1;have y0:=Lib.frozen_of_heap T 0;have y1:=Lib.frozen_of_heap T 1;clear T;go_wp2;refine AI (v:= .tuple #[.agg #[.bool false,.slice none 0 0],.int .i64 10]) ?_ rfl ?_
         ·simp only[results,Tryz.results169];go_simp
          try rfl
         ·unfold Fh;rw[if_neg HNL.out];refine⟨rfl,?_⟩
          iterate 2 refine By ?_ (by simp) _
          exact BL.out
       ·have hqB:q<4294967296:=by omega
        have hq1:A0 y j=q:=by
         unfold A0;rw[<-hqc];exact e8 hqB
        have hty:Bj y (j+1):=by
         refine⟨?_,.inr ?_⟩
         ·have h1:y/B^j<B:=by rw[<-hqc];exact hqB
          have h2:=(ad (Bk j)).1 h1;rw[gj,So];exact h2
         ·rw[Nat.add_sub_cancel];have h1:1<=y/B^j:=by omega
          have h2:=(gP (Bk j)).1 h1;omega
        have HTY:=Hi hty;have HQ1:=Hi hq1;have hqi:(q:Int)<=16:=by omega
        have hqp:0<q:=by omega
        clear hqc hty hj hq1 hqB
        go_wp2_with (at_builtin;refine wpList_append_own _ rfl _ _ 217 rfl W1.heap.size 176 i0 (.int .u32 0) 1 4 Tryz.underlying217 hi hz0 hz1 hz2 rfl (by decide) _ _ _ rfl (hown.alloc _) ⟨wr.heap.size,0,none⟩ 1 1 [.int .u32 (q:Nat)] rfl rfl ?c1 ?c2 ?c3 ?c4 ?c5 ?_)
        case c1=>
         intro j u hj
         match j,hj with
         |0,hj=>simp at hj;subst hj;simp[Addr.add]
        case c2=>intro u hu;simp at hu;subst hu;rfl
        case c3=>unfold maxLen;omega
        case c4=>omega
        case c5=>have:=hbel.size;simp;omega
        intro v' w2 hown' hgrow _;obtain⟨va,vc,hv'⟩:=Jb hown';subst hv';rw[<-LQ y j q HQ1.out]at hown';have HP:Hid (PQ r W1.heap.size W1 y (j+1) (.slice va (j+1) vc) w2):=Hi ⟨HTY.out,hown',(hbel.alloc (by have:=hbel.size;omega) _).grown hgrow (by have:=hbel.size;simp;omega) (fun b hb=>by have:=(hown.lt b hb).1;omega)⟩;have HLV:=Hi (Co.D4 hown' HTY.out.1);have hj6:j+1<=70368744177664:=by omega
        clear hown hbel hown' hgrow
        go_wp2_with (go_at_call 217;(with_reducible refine(Tryz.size _ y (j+1) _ hj6 HLV).mono ?_))
        rintro e w' ⟨m',ht',rfl,rfl⟩;by_cases hyl:y<2^Go.Proofs.LE
        ·have hs4:decide ((4096:Int)<(sz y m':Nat))=false:=AS (by have:=P7 ht' hyl;omega);have HYL:=Hi hyl;clear hyl ht';go_wp2;go_roundw
         case rel=>exact⟨k+1,j+1,by omega,by go_num,by rw[HX2.out];exact HP.out,by rw[HX2.out];exact HYL.out⟩
         case measure=>simp[intOf];omega
        ·have hs4:decide ((4096:Int)<(sz y m':Nat))=true:=AN (by have:=Z0 ht' (by omega);omega);have HNL:Hid (¬vN r s s.size<2^Go.Proofs.LE):=Hi (by have:=Ii (r:=r) (by omega) s (show k+1<=s.size by omega);rw[HX2.out]at this;omega);have hbel:=HP.out.Ad;have T:=(hbel.block w.heap.size hlt0).trans tok;have BL:=Hi (bl.trans (hbel.mono (by omega)));clear hyl ht' hbel tok bl;have x0:=Lib.cell_of_heap T 0;have x1:=Lib.cell_of_heap T 1;have y0:=Lib.frozen_of_heap T 0;have y1:=Lib.frozen_of_heap T 1;clear T;go_wp2;refine AI (v:= .tuple #[.agg #[.bool false,.slice none 0 0],.int .i64 10]) ?_ rfl ?_
         ·simp only[results,Tryz.results169];go_simp
          try rfl
         ·unfold Fh;rw[if_neg HNL.out];refine⟨rfl,?_⟩
          iterate 2 refine By ?_ (by simp) _
          exact BL.out
    ·have hks:k=s.size:=by omega
     subst hks;have HXL:=Hi hxl;obtain⟨X,hX⟩:∃X,X=vN r s s.size:=⟨_,rfl⟩;rw[<-hX]at hq HXL;have HXE:=Hi hX;have HLV:=Hi (Co.D4 hq.own hq.tight.1);have hbel:=Hi hq.Ad;clear hq hxl hX
     go_wp2_with (go_at_call 218;(with_reducible refine(Tryz.laid _ X m _ HLV).mono ?_))
     rintro e W2 ⟨sl,m',rfl,ht,hl,b2⟩;obtain⟨a,c,rfl⟩:=hl.slice;have hws:=hbel.out.size;have T:=(b2.block w.heap.size (by omega)).trans ((hbel.out.block w.heap.size hlt0).trans tok);have x0:W2.cell? ⟨w.heap.size,0,none⟩=some (.bool false):=by rw[Lib.cell_of_heap T];rfl
     have x1:W2.cell? ⟨w.heap.size,1,none⟩=some (.slice none 0 0):=by rw[Lib.cell_of_heap T];rfl
     have y0:W2.frozen? ⟨w.heap.size,0,none⟩=false:=Lib.frozen_of_heap T 0;have y1:W2.frozen? ⟨w.heap.size,1,none⟩=false:=Lib.frozen_of_heap T 1;have HL2:=Hi hl;have BL:=Hi (bl.trans ((hbel.out.mono (by omega)).trans (b2.mono (by omega))));clear hl b2 tok T bl;go_wp2;have PE:∀e w',Gc X w e w'->Fh (vN r s s.size) w e w':=fun e w' h=>by rw[<-HXE.out,Rj HXL.out];exact h
     refine AI (v:= .tuple #[.agg #[.bool false,.slice a m' c],.int .i64 0]) ?_ rfl ?_
     ·simp only[results,Tryz.results169];go_simp
     with_reducible refine PE _ _ ?_
     refine⟨_,m',rfl,ht,?_,?_⟩
     ·refine(HL2.out.setCell x0 (fun _ _ h=>by cases h) _).setCell (u0:= .slice none 0 0) ?_ (fun _ _ h=>by cases h) _;rw[World.cell?_setCell_other,x1];simp
     ·iterate 2 refine By ?_ (by simp) _
      exact BL.out
theorem Pk (b a f t r:Nat) (s d:ByteArray) (w:World) (hst:Hid (St w b s a)) (hs:s.size<=100000000) (_:a<=s.size) (hft:f<t) (ht:t<=s.size) (hr:2<=r) (hr2:r<=16) (hh:Hid (∀k,f<=k->k<t->Ah (AE s k).toNat=true/\CK (AE s k).toNat<r)) (hd:Hid (d=s.extract f t)):
 Calls Tryz.prog 117 #[.pointer (some ⟨b,0,none⟩),.string d,.int .i64 r,.int .i64 t] w (AL (B5 s a f t r) w):=by
 have HB:Hid (b<w.heap.size):=Hi hst.out.lt;have hb:=HB.out;have c1:=hst.out.c1;have dz:d.size=t-f:=by rw[hd.out,Of];omega
 have hp:=aW d r;have hp2:∀W,Calls Tryz.prog 169 #[.string d,.int .i64 r] W (Fh (vN r d d.size) W):=fun W=>hp W (by omega) (by omega) hr hr2 (Hi (fun k h=>by
  have h1:=hh.out (f+k) (by omega) (by omega);have h2:(AE s (f+k)).toNat=d[k].toNat:=by
   rw[IJ,<-Cf h,hd.out];rw[BM (by omega) ht]
  rw[h2]at h1;exact h1))
 obtain⟨X,hX⟩:∃X,X=vN r d d.size:=⟨_,rfl⟩;rw[<-hX]at hp2;have hR:B5 s a f t r=if X<2^Go.Proofs.LE then .ok 4 ⟨#[]⟩ (JL X) 0 a t else .err a 34:=by rw[hX,hd.out];rfl
 obtain⟨R,hRe⟩:∃R,R=B5 s a f t r:=⟨_,rfl⟩;rw[<-hRe];rw[hR]at hRe;clear hR hX hp dz hst;by_cases hXl:X<2^Go.Proofs.LE
 ·rw[if_pos hXl]at hRe;have CP:Hid (∀W,Calls Tryz.prog 169 #[.string d,.int .i64 r] W (Gc X W)):=Hi (fun W=>by
   have h:=hp2 W;rw[Rj hXl]at h;exact h)
  have HX:=Hi hXl;have HSZ:Hid (∀m',Bj X m'->sz X m'<=4096):=Hi (fun m' h=>P7 h HX.out);have HR:Hid (R= .ok 4 ⟨#[]⟩ ⟨(Ca 10 X).toArray⟩ 0 a t):=Hi hRe;clear hp2 hXl hRe;go_enter Tryz.func117,Tryz.ntmps117
  go_wp2_with fail
  generalize hW1:w.alloc _=W1;have hb:=HB.out;have C1:W1.cell? ⟨b,1,none⟩=some (.int .i64 a):=by subst hW1;go_simp
  have sz1:W1.heap.size=w.heap.size+1:=by subst hW1;simp
  have bl:Below w.heap.size w W1:=by subst hW1;exact(AH _ _).alloc (nR _) _
  have tok0:W1.heap[w.heap.size]? =some (.cells (Ck 0) 30 (0,0)):=by subst hW1;exact dk w _
  clear hW1
  go_wp2_with (go_at_call 169;(with_reducible refine(CP.out _).mono ?_))
  rintro e W2 ⟨sl,m,rfl,ht,hlv,b2⟩;obtain⟨a0,c,rfl⟩:=hlv.slice;have hm:m<=70368744177664:=by
   have h1:=P7 ht HX.out;have h2:=U7 X m;omega
  have c2:W2.cell? ⟨b,1,none⟩=some (.int .i64 a):=(b2.cell (p:=⟨b,1,none⟩) (by show b<W1.heap.size;omega)).trans C1;have t2:=(b2.block w.heap.size (by omega)).trans tok0;have BL2:=Hi (bl.trans (b2.mono (by omega)));have HV:=Hi hlv;have sz2:W1.heap.size<=W2.heap.size:=b2.size;have kb2:b<W2.heap.size:=by omega
  have kb3:¬b=W2.heap.size:=by omega
  clear C1 tok0 b2 bl hlv
  go_wp2_with fail
  generalize hW3:W2.alloc _=W3;have c3:W3.cell? ⟨b,1,none⟩=some (.int .i64 a):=by subst hW3;go_simp
  have p0:W3.cell? ⟨W2.heap.size,0,none⟩=some (.bool false):=by subst hW3;go_simp
  have p1:W3.cell? ⟨W2.heap.size,1,none⟩=some (.slice a0 m c):=by subst hW3;go_simp
  have b3:Below W2.heap.size W2 W3:=by subst hW3;exact(AH _ _).alloc (nR _) _
  have t3:=(b3.block w.heap.size (by omega)).trans t2;have HV3:=Hi (HV.out.below b3);have BL3:=Hi (BL2.out.trans (b3.mono BL2.out.size));have sz3:W2.heap.size<=W3.heap.size:=b3.size;clear hW3 b3 t2 c2
  go_wp2_with (go_at_call 170;(with_reducible refine(X2 (.slice a0 m c) X m _ hm HV3 HSZ).mono ?_))
  rintro e W4 ⟨rfl,b4⟩;have T0:=(b4.block w.heap.size (by omega)).trans t3;have c4:W4.cell? ⟨b,1,none⟩=some (.int .i64 a):=(b4.cell (p:=⟨b,1,none⟩) (by show b<W3.heap.size;omega)).trans c3;have hlt:w.heap.size<W4.heap.size:=by have:=b4.size;omega
  have x0:W4.cell? ⟨w.heap.size,0,none⟩=some (.int .i64 0):=by rw[Lib.cell_of_heap T0];rfl
  have y0:W4.frozen? ⟨w.heap.size,0,none⟩=false:=Lib.frozen_of_heap T0 0;have x1:W4.cell? ⟨w.heap.size,1,none⟩=some (.string ⟨#[]⟩):=by rw[Lib.cell_of_heap T0];rfl
  have y1:W4.frozen? ⟨w.heap.size,1,none⟩=false:=Lib.frozen_of_heap T0 1;have x2:W4.cell? ⟨w.heap.size,2,none⟩=some (.string ⟨#[]⟩):=by rw[Lib.cell_of_heap T0];rfl
  have y2:W4.frozen? ⟨w.heap.size,2,none⟩=false:=Lib.frozen_of_heap T0 2;have x3:W4.cell? ⟨w.heap.size,3,none⟩=some (.int .u64 0):=by rw[Lib.cell_of_heap T0];rfl
  have y3:W4.frozen? ⟨w.heap.size,3,none⟩=false:=Lib.frozen_of_heap T0 3;have x4:W4.cell? ⟨w.heap.size,4,none⟩=some (.int .i64 0):=by rw[Lib.cell_of_heap T0];rfl
  have y4:W4.frozen? ⟨w.heap.size,4,none⟩=false:=Lib.frozen_of_heap T0 4;have x5:W4.cell? ⟨w.heap.size,5,none⟩=some (.int .i64 0):=by rw[Lib.cell_of_heap T0];rfl
  have y5:W4.frozen? ⟨w.heap.size,5,none⟩=false:=Lib.frozen_of_heap T0 5;have x6:W4.cell? ⟨w.heap.size,6,none⟩=some (.bool false):=by rw[Lib.cell_of_heap T0];rfl
  have y6:W4.frozen? ⟨w.heap.size,6,none⟩=false:=Lib.frozen_of_heap T0 6;have BT:=Hi (BL3.out.trans (b4.mono BL3.out.size));clear b4 T0 t3 c3 p0 p1;go_wp2;refine AI (v:= .tuple #[AK 4 ⟨#[]⟩ ⟨(Ca 10 X).toArray⟩ 0 a t false,.int .i64 0,.int .i64 0]) ?_ rfl (AL.ok (k:=4) (bits:=0) HR.out ?_)
  ·simp only[results,Tryz.results117];go_simp
   try rfl
  ·exact AJ BT.out (nR _) _ _ _ _ _ _ _
 ·rw[if_neg hXl]at hRe;have CP:Hid (∀W,Calls Tryz.prog 169 #[.string d,.int .i64 r] W (fun e w'=>e= .returned (.tuple #[.agg #[.bool false,.slice none 0 0],.int .i64 10])/\Below W.heap.size W w')):=Hi (fun W=>by
   have h:=hp2 W;rw[cB hXl]at h;exact h)
  have HR:Hid (R= .err a 34):=Hi hRe;clear hp2 hXl hRe;go_enter Tryz.func117,Tryz.ntmps117
  go_wp2_with fail
  generalize hW1:w.alloc _=W1;have hb:=HB.out;have C1:W1.cell? ⟨b,1,none⟩=some (.int .i64 a):=by subst hW1;go_simp
  have sz1:W1.heap.size=w.heap.size+1:=by subst hW1;simp
  have bl:Below w.heap.size w W1:=by subst hW1;exact(AH _ _).alloc (nR _) _
  have tok0:W1.heap[w.heap.size]? =some (.cells (Ck 0) 30 (0,0)):=by subst hW1;exact dk w _
  clear hW1
  go_wp2_with (go_at_call 169;(with_reducible refine(CP.out _).mono ?_))
  rintro e W2 ⟨rfl,b2⟩;have c2:W2.cell? ⟨b,1,none⟩=some (.int .i64 a):=(b2.cell (p:=⟨b,1,none⟩) (by show b<W1.heap.size;omega)).trans C1;have T0:=(b2.block w.heap.size (by omega)).trans tok0;have T0H:=Hi T0;have BL2:=Hi (bl.trans (b2.mono (by omega)));have sz2:W1.heap.size<=W2.heap.size:=b2.size;have kb2:b<W2.heap.size:=by omega
  have kb3:¬b=W2.heap.size:=by omega
  obtain⟨x0,x1,x2,x3,x4,x5,x6⟩:=(⟨T0⟩:A8 W2 w.heap.size).cs;have y0:=Lib.frozen_of_heap T0 0;have y1:=Lib.frozen_of_heap T0 1;have y2:=Lib.frozen_of_heap T0 2;have y3:=Lib.frozen_of_heap T0 3;have y4:=Lib.frozen_of_heap T0 4;have y5:=Lib.frozen_of_heap T0 5;have y6:=Lib.frozen_of_heap T0 6;clear C1 tok0 b2 bl T0 x0 x1 x2 x3 x4 x5 x6 y0 y1 y2 y3 y4 y5 y6
  go_wp2_with fail
  generalize hW3:W2.alloc _=W3;have c3:W3.cell? ⟨b,1,none⟩=some (.int .i64 a):=by subst hW3;go_simp
  have b3:Below W2.heap.size W2 W3:=by subst hW3;exact(AH _ _).alloc (nR _) _
  have T3:Hid (A8 W3 w.heap.size):=Hi ((⟨T0H.out⟩:A8 W2 w.heap.size).below b3);have BL3:=Hi (BL2.out.trans (b3.mono BL2.out.size));obtain⟨x0,x1,x2,x3,x4,x5,x6⟩:=T3.out.cs;obtain⟨y0,y1,y2,y3,y4,y5,y6⟩:=T3.out.fs;clear hW3 b3 c2
  go_region
  go_wp2_with fail
  refine AI (v:= .tuple #[AK 0 ⟨#[]⟩ ⟨#[]⟩ 0 0 0 false,.int .i64 a,.int .i64 34]) ?_ rfl (AL.er HR.out ?_)
  ·simp only[results,Tryz.results117];go_simp
   try rfl
  ·exact(AJ BL3.out (nR _) _ _ _ _ _ _ _).drew
end Go.Proofs
