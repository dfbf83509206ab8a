import Derived.Test.YtpocgkiamgipdaaGreatDoorTbe
import Derived.BigRegion
set_option maxRecDepth 1000000
set_option maxHeartbeats 0
set_option linter.unusedVariables false
set_option linter.unusedSimpArgs false
open Go.Proofs.Tryz
namespace Go.Bg
open Go Go.Proofs
theorem GK {x m:Nat}(h:Bh x m) (hx:x<2^Go.Proofs.LE):sz x m<=4096:=by
 rcases mh x with rfl|h0
 ·have h1:m=0:=by
   rcases h.2 with h2|h2
   ·exact h2
   ·have:=Bi (m-1);omega
  subst h1;unfold sz;simp
 ·have h1:=S8 h (by omega);have h2:2^(sz x m-1)<2^Go.Proofs.LE:=mG h1.2.1 hx;have h3:=(nP (show 1<2 by decide)).1 h2;have:Go.Proofs.LE=4096:=rfl;omega
theorem SR {x m:Nat}(h:Bh x m) (hx:2^Go.Proofs.LE<=x):4096<sz x m:=by
 have h0:0<2^Go.Proofs.LE:=lj _;have h1:=S8 h (by omega);have h2:2^Go.Proofs.LE<2^sz x m:=mG hx h1.2.2;have h3:=(nP (show 1<2 by decide)).1 h2;have:Go.Proofs.LE=4096:=rfl;omega
end Go.Bg
namespace Go.Proofs
open Go.RowKit Go.Bg Go.Hb Go.Lx Go.Rb Go.Pf
theorem OI (c d:Nat) (h:Hid (A9 c=true/\d=Cv c)) (w:World):Calls prog 130 #[.int .u8 c] w fun e w'=>e= .returned (.int .i64 d)/\w=w':=by
 obtain⟨h1,hd⟩:=h.o;have hc:(48<=c/\c<=57)\/(97<=c/\c<=102)\/(65<=c/\c<=70):=by
  simp[A9,AQ]at h1;omega
 unfold Cv at hd;clear h h1;rcases hc with hc|hc|hc
 ·rw[lQ hc]at hd;have c0:(c:Int)-48=d:=by omega
  have dm:(d:Int) %256=d:=by omega
  have c1:decide ((48:Int)<=(c:Int))=true:=Dq;have c2:decide ((c:Int)<=57)=true:=Dq;have db:d<=9:=by omega
  clear hd hc;go_enter func130,ntmps130;go_wp2;go_ret;exact⟨rfl,rfl⟩
 ·rw[lL (by omega),lQ (by omega)]at hd;obtain⟨d1,qm⟩:∃d1,d1=d-10:=⟨_,rfl⟩;have c0:(c:Int)-97=d1:=by omega
  have e2:(d1:Int)+10=d:=by omega
  have db:d1<=5:=by omega
  have dm:(d1:Int) %256=d1:=by omega
  have c1:decide ((48:Int)<=(c:Int))=true:=Dq;have c2:decide ((c:Int)<=57)=false:=Ej;have c3:decide ((97:Int)<=(c:Int))=true:=Dq;have c4:decide ((c:Int)<=122)=true:=Dq;clear hd hc qm;go_enter func130,ntmps130;go_wp2;go_ret;exact⟨rfl,rfl⟩
 ·rw[lL (by omega),lL (by omega),lQ (by omega)]at hd;obtain⟨d1,qm⟩:∃d1,d1=d-10:=⟨_,rfl⟩;have c0:(c:Int)-65=d1:=by omega
  have e2:(d1:Int)+10=d:=by omega
  have db:d1<=5:=by omega
  have dm:(d1:Int) %256=d1:=by omega
  have c1:decide ((48:Int)<=(c:Int))=true:=Dq;have c2:decide ((c:Int)<=57)=false:=Ej;have c3:decide ((97:Int)<=(c:Int))=false:=Ej;have c4:decide ((65:Int)<=(c:Int))=true:=Dq;have c5:decide ((c:Int)<=90)=true:=Dq;clear hd hc qm;go_enter func130,ntmps130;go_wp2;go_ret;exact⟨rfl,rfl⟩
def Fo (X:Nat) (w:World) (e:Ending) (w':World):Prop:=
 if X<2^Go.Proofs.LE then Gk X w e w' else e= .returned (.tuple #[.agg #[.bool false,.slice none 0 0],.int .i64 10])/\Below w.heap.size w w'
theorem N7 {X:Nat} {w:World}(h:X<2^Go.Proofs.LE):Fo X w=Gk X w:=by funext e w';unfold Fo;rw[lQ h]
theorem fT {X:Nat} {w:World}(h:¬X<2^Go.Proofs.LE):Fo X w=fun e w'=>e= .returned (.tuple #[.agg #[.bool false,.slice none 0 0],.int .i64 10])/\Below w.heap.size w w':=by funext e w';unfold Fo;rw[lL h]
theorem WZ (s:ByteArray) (r:Nat) (w:World) (qT:0<s.size) (h5:s.size<=100000000) (hr:2<=r) (rL:r<=16) (hh:Hid (∀k (h:k<s.size),A9 s[k].toNat=true/\Cv s[k].toNat<r)):
 Calls prog 112 #[.string s,.int .i64 r] w (Fo (vN r s s.size) w):=by
 obtain⟨i0,hi,qX,qg,qe⟩:=nw N8;have qP:s.toList.isEmpty=false:=by
  rw[ph];have h1:s.data.toList.length=s.size:=by simp
  cases h:s.data.toList with
  |nil=>rw[h]at h1;simp at h1;omega
  |cons a b=>rfl
 have R1:decide ((r:Int)<2)=false:=Ej;have R2:decide ((36:Int)<r)=false:=Ej;have h45:((s[0].toNat:Int)==45)=false:=by
  have h1:=(hh.o 0 qT).1;refine a8 (n:=45) ?_;intro h2;rw[h2]at h1
  revert h1
  decide
 go_enter func112,ntmps112;go_wp2;generalize hW1:w.alloc _=W1;have tok:W1.heap[w.heap.size]? =some (.cells #[.bool false,.slice none 0 0] 178 (0,0)):=by subst hW1;exact lT w _
 have bl:Below w.heap.size w W1:=by subst hW1;exact Bzz _
 have tg:w.heap.size<W1.heap.size:=by subst hW1;simp
 have HW:=Hi hW1;clear hW1
 go_loop [33] (fun i=>∃k:Nat,k<=s.size/\i= .int .i64 k) (fun i=>s.size-(intOf i).toNat)
 case atStart=>exact⟨0,by omega,rfl⟩
 case round=>
  obtain⟨k,hk,rfl⟩:=hrel;by_cases qE:k<s.size
  ·obtain⟨g1,g2⟩:=hh.o k qE;obtain⟨d,rr⟩:∃d,d=Cv s[k].toNat:=⟨_,rfl⟩;have tP:d<r:=by omega
   have b6:decide (r<=d)=false:=Ej;have HC:Hid (A9 s[k].toNat=true/\d=Cv s[k].toNat):=Hi ⟨g1,rr⟩;have hd16:d<16:=by omega
   clear g1 g2 rr tP
   go_wp2_with (go_at_call 130;(with_reducible refine(OI _ d HC _).mono ?_);rintro e w' ⟨rfl,rfl⟩)
   go_round
   case rel=>exact⟨k+1,by omega,by go_num⟩
   case measure=>simp[intOf];omega
  ·go_wp2;clear qE hk
   go_loopw [8,49] (fun l i wr=>∃(k m:Nat),k<=s.size/\i= .int .i64 k/\PQ r W1.heap.size W1 (vN r s k) m l wr/\vN r s k<2^Go.Proofs.LE) (fun _ i _=>s.size-(intOf i).toNat)
   case atStart=>exact⟨0,0,by omega,rfl,⟨⟨by simp[vN],.inl rfl⟩,mq _ _ _ _,Below.refl _ _⟩,lj _⟩
   case round=>
    obtain⟨k,m,hk,rfl,hq,uT⟩:=hrel;obtain⟨la,lc,hll⟩:=Eu hq.own;subst hll;have hm:m<=129:=by
     have h2:=GK hq.tight uT;have h3:=MN (vN r s k) m;omega
    by_cases qE:k<s.size
    ·obtain⟨g1,g2⟩:=hh.o k qE;obtain⟨d,rr⟩:∃d,d=Cv s[k].toNat:=⟨_,rfl⟩;have tP:d<r:=by omega
     obtain⟨x,hx⟩:∃x,x=vN r s k:=⟨_,rfl⟩;rw[<-hx]at hq;have xn:vN r s (k+1)=x*r+d:=by
      show vN r s k*r+Cv (byte s k)=_;rw[DA qE,<-rr,<-hx]
     have HX1:=Hi xn;have wI:=Hi tP;have HQT:=Hi hq.tight;have HC:Hid (A9 s[k].toNat=true/\d=Cv s[k].toNat):=Hi ⟨g1,rr⟩;have hd16:d<16:=by omega
     have hd15:(d:Int)<=15:=by omega
     have I0:PI r d W1.heap.size W1 x m (.slice la m lc) 0 d wr:=⟨by omega,(carry_zero x r d).symm,by rw[Gx];exact hq.own,hq.Ac⟩;clear g1 g2 rr hx xn tP uT;obtain⟨wo,rfl⟩:∃wo:World,wo=wr:=⟨_,rfl⟩
     go_wp2_with (go_at_call 130;(with_reducible refine(OI _ d HC _).mono ?_);rintro e w' ⟨rfl,rfl⟩)
     go_loopw [10,59] (fun cc i wr=>∃(j q:Nat),cc= .int .u64 q/\i= .int .i64 j/\PI r d W1.heap.size W1 x m (.slice la m lc) j q wr) (fun _ i _=>m-(intOf i).toNat)
     case atStart=>exact⟨0,d,rfl,rfl,I0⟩
     case round=>
      obtain⟨j,q,rfl,rfl,qN⟩:=hrel;by_cases hj:j<m
      ·obtain⟨g,rfl⟩:∃g,la=some ⟨g,0,none⟩:=by
        rcases qN.own.2 with⟨_,h⟩|⟨g,cap,cur,h,_⟩
        ·omega
        ·simp only[mX]at h;exact⟨g,h.1⟩
       obtain⟨lx,wY⟩:∃lx,lx=Az x j:=⟨_,rfl⟩;obtain⟨lq,yR⟩:∃lq,lq=Az (x*r+d) j:=⟨_,rfl⟩;obtain⟨cq,zl⟩:∃cq,cq=carry x r d (j+1):=⟨_,rfl⟩;obtain⟨t,ht⟩:∃t,t=lx*r+q:=⟨_,rfl⟩;have qW:wr.cell? ⟨g,j,none⟩=some (.int .u32 (lx:Nat)):=by rw[World.ownsRow.cellAt qN.own j (by omega),Im x r d j m hj,wY]
       have hfz:=World.ownsRow.frozenAt qN.own j;have hlb:lx<4294967296:=by rw[wY];exact Gh x j
       have hqb:q<r:=by rw[qN.Pw];exact H6 wI.o
       have t1:lq=t %4294967296:=by rw[yR,MM,ht,wY,qN.Pw];rfl
       have t2:cq=t/4294967296:=by rw[zl,Kx,ht,wY,qN.Pw];rfl
       have HN:=Hi (qN.next yR zl hj);have e1:(lx:Int)*(r:Int)+(q:Int)=(t:Int):=by rw[ht];push_cast;rfl
       have e2:(t:Int) %4294967296=(lq:Int):=by omega
       have e3:(t:Int)/4294967296=(cq:Int):=by omega
       have e4:(lx:Int)*(r:Int)<=68719476720:=by
        have h1:lx*r<=4294967295*16:=pn (by omega) rL;have h2:(((lx*r:Nat)):Int)=(lx:Int)*(r:Int):=by push_cast;rfl
        omega
       have e5:0<=(lx:Int)*(r:Int):=by
        have h2:(((lx*r:Nat)):Int)=(lx:Int)*(r:Int):=by push_cast;rfl
        omega
       have hji:(j:Int)<(m:Int):=by omega
       clear wY yR zl ht t1 t2 qN;go_wp2;go_roundw
       case rel=>exact⟨j+1,cq,rfl,by go_num,HN.o⟩
       case measure=>simp[intOf];omega
      ·have hjm:j=m:=by have:=qN.le;omega
       subst hjm;have wV:q=(x*r+d)/B^j:=by rw[qN.Pw,Ma HQT.o.1]
       have qD:=qN.own;rw[Io]at qD;have qF:=qN.Ac;obtain⟨y,hy⟩:∃y,y=x*r+d:=⟨_,rfl⟩;have yW:x<=y:=by
        rw[hy];have:x*1<=x*r:=mU x (by omega);omega
       rw[<-hy]at qD wV;have uz:Hid (vN r s (k+1)=y):=Hi (by rw[HX1.o,hy]);have hqb:q<r:=by rw[qN.Pw];exact H6 wI.o
       clear qN hy HX1;by_cases wb:q=0
       ·subst wb;have u9:Bh y j:=by
         refine⟨(ox (Bi j)).1 wV.symm,?_⟩;rcases HQT.o.2 with h|h
         ·exact .inl h
         ·exact .inr (lg h yW)
        have HP:Hid (PQ r W1.heap.size W1 y j (.slice la j lc) wr):=Hi ⟨u9,qD,qF⟩;have tf:=Hi (CH.EW qD u9.1);have hj6:j<=70368744177664:=by omega
        clear wV qD qF u9 hj
        go_wp2_with (go_at_call 131;(with_reducible refine(Tryz.size _ y j _ hj6 tf).mono ?_))
        rintro e w' ⟨m',ht',rfl,rfl⟩;by_cases hyl:y<2^Go.Proofs.LE
        ·have xc:decide ((4096:Int)<(sz y m':Nat))=false:=lO (by have:=GK ht' hyl;omega);have HYL:=Hi hyl;clear hyl ht';go_wp2;go_roundw
         case rel=>exact⟨k+1,j,by omega,by go_num,by rw[uz.o];exact HP.o,by rw[uz.o];exact HYL.o⟩
         case measure=>simp[intOf];omega
        ·have xc:decide ((4096:Int)<(sz y m':Nat))=true:=lU (by have:=SR ht' (by omega);omega);have zt:Hid (¬vN r s s.size<2^Go.Proofs.LE):=Hi (by have:=Ep (r:=r) (by omega) s (show k+1<=s.size by omega);rw[uz.o]at this;omega);have qF:=HP.o.Ac;have T:=(qF.block w.heap.size tg).trans tok;have BL:=Hi (bl.trans (qF.mono (by omega)));clear hyl ht' qF tok bl;have x0:=Lib.cell_of_heap T 0;have x1:=Lib.cell_of_heap T 1;have y0:=Lib.frozen_of_heap T 0;have y1:=Lib.frozen_of_heap T 1;clear T;go_wp2;refine lS (v:= .tuple #[.agg #[.bool false,.slice none 0 0],.int .i64 10]) ?_ rfl ?_
         ·simp only[results,results112];go_simp
          try rfl
         ·unfold Fo;rw[lL zt.o];refine⟨rfl,?_⟩
          iterate 2 refine Below.setCell ?_ (by simp) _
          exact BL.o
       ·have hqB:q<4294967296:=by omega
        have tO:Az y j=q:=by
         unfold Az;rw[<-wV];exact mv hqB
        have u9:Bh y (j+1):=by
         refine⟨?_,.inr ?_⟩
         ·have h1:y/B^j<B:=by rw[<-wV];exact hqB
          have h2:=(mY (Bi j)).1 h1;rw[l9,mR];exact h2
         ·rw[nx];have h1:1<=y/B^j:=by omega
          have h2:=(nY (Bi j)).1 h1;omega
        have za:=Hi u9;have HQ1:=Hi tO;have hqi:(q:Int)<=16:=by omega
        have hqp:0<q:=by omega
        clear wV u9 hj tO hqB
        go_wp2_with (at_builtin;refine oA _ rfl _ _ 176 rfl W1.heap.size 133 i0 (.int .u32 0) 1 4 underlying176 hi qX qg qe rfl (by decide) _ _ _ rfl (qD.alloc _) ⟨wr.heap.size,0,none⟩ 1 1 [.int .u32 (q:Nat)] rfl rfl ?c1 ?c2 ?c3 ?c4 ?c5 ?_)
        case c1=>
         intro j u hj
         match j,hj with
         |0,hj=>simp at hj;subst hj;simp[Addr.add]
        case c2=>intro u hu;simp at hu;subst hu;rfl
        case c3=>unfold maxLen;omega
        case c4=>omega
        case c5=>have:=qF.size;simp;omega
        intro v' w2 hown' qC _;obtain⟨va,vc,vg⟩:=Eu hown';subst vg;rw[<-Ga y j q HQ1.o]at hown';have HP:Hid (PQ r W1.heap.size W1 y (j+1) (.slice va (j+1) vc) w2):=Hi ⟨za.o,hown',(qF.alloc (by have:=qF.size;omega) _).grown qC (by have:=qF.size;simp;omega) (fun b hb=>by have:=(qD.lt b hb).1;omega)⟩;have tf:=Hi (CH.EW hown' za.o.1);have hj6:j+1<=70368744177664:=by omega
        clear qD qF hown' qC
        go_wp2_with (go_at_call 131;(with_reducible refine(Tryz.size _ y (j+1) _ hj6 tf).mono ?_))
        rintro e w' ⟨m',ht',rfl,rfl⟩;by_cases hyl:y<2^Go.Proofs.LE
        ·have xc:decide ((4096:Int)<(sz y m':Nat))=false:=lO (by have:=GK ht' hyl;omega);have HYL:=Hi hyl;clear hyl ht';go_wp2;go_roundw
         case rel=>exact⟨k+1,j+1,by omega,by go_num,by rw[uz.o];exact HP.o,by rw[uz.o];exact HYL.o⟩
         case measure=>simp[intOf];omega
        ·have xc:decide ((4096:Int)<(sz y m':Nat))=true:=lU (by have:=SR ht' (by omega);omega);have zt:Hid (¬vN r s s.size<2^Go.Proofs.LE):=Hi (by have:=Ep (r:=r) (by omega) s (show k+1<=s.size by omega);rw[uz.o]at this;omega);have qF:=HP.o.Ac;have T:=(qF.block w.heap.size tg).trans tok;have BL:=Hi (bl.trans (qF.mono (by omega)));clear hyl ht' qF tok bl;have x0:=Lib.cell_of_heap T 0;have x1:=Lib.cell_of_heap T 1;have y0:=Lib.frozen_of_heap T 0;have y1:=Lib.frozen_of_heap T 1;clear T;go_wp2;refine lS (v:= .tuple #[.agg #[.bool false,.slice none 0 0],.int .i64 10]) ?_ rfl ?_
         ·simp only[results,results112];go_simp
          try rfl
         ·unfold Fo;rw[lL zt.o];refine⟨rfl,?_⟩
          iterate 2 refine Below.setCell ?_ (by simp) _
          exact BL.o
    ·have uc:k=s.size:=by omega
     subst uc;have HXL:=Hi uT;obtain⟨X,hX⟩:∃X,X=vN r s s.size:=⟨_,rfl⟩;rw[<-hX]at hq HXL;have HXE:=Hi hX;have tf:=Hi (CH.EW hq.own hq.tight.1);have qF:=Hi hq.Ac;clear hq uT hX
     go_wp2_with (go_at_call 132;(with_reducible refine(Tryz.laid _ X m _ tf).mono ?_))
     rintro e W2 ⟨sl,m',rfl,ht,hl,b2⟩;obtain⟨a,c,rfl⟩:=hl.slice;have hws:=qF.o.size;have T:=(b2.block w.heap.size (by omega)).trans ((qF.o.block w.heap.size tg).trans tok);have x0:W2.cell? ⟨w.heap.size,0,none⟩=some (.bool false):=by rw[Lib.cell_of_heap T];rfl
     have x1:W2.cell? ⟨w.heap.size,1,none⟩=some (.slice none 0 0):=by rw[Lib.cell_of_heap T];rfl
     have y0:W2.frozen? ⟨w.heap.size,0,none⟩=false:=Lib.frozen_of_heap T 0;have y1:W2.frozen? ⟨w.heap.size,1,none⟩=false:=Lib.frozen_of_heap T 1;have HL2:=Hi hl;have BL:=Hi (bl.trans ((qF.o.mono (by omega)).trans (b2.mono (by omega))));clear hl b2 tok T bl;go_wp2;have PE:∀e w',Gk X w e w'->Fo (vN r s s.size) w e w':=fun e w' h=>by rw[<-HXE.o,N7 HXL.o];exact h
     refine lS (v:= .tuple #[.agg #[.bool false,.slice a m' c],.int .i64 0]) ?_ rfl ?_
     ·simp only[results,results112];go_simp
     with_reducible refine PE _ _ ?_
     refine⟨_,m',rfl,ht,?_,?_⟩
     ·refine(HL2.o.setCell x0 (fun _ _ h=>by cases h) _).setCell (u0:= .slice none 0 0) ?_ (fun _ _ h=>by cases h) _;rw[oV,x1];simp
     ·iterate 2 refine Below.setCell ?_ (by simp) _
      exact BL.o
theorem PH (b a f t r:Nat) (s d:ByteArray) (w:World) (qk:Hid (St w b s a)) (hs:s.size<=100000000) (_:a<=s.size) (hft:f<t) (ht:t<=s.size) (hr:2<=r) (rL:r<=16) (hh:Hid (∀k,f<=k->k<t->A9 (AI s k).toNat=true/\Cv (AI s k).toNat<r)) (hd:Hid (d=s.extract f t)):
 Calls prog 87 #[.pointer (some ⟨b,0,none⟩),.string d,.int .i64 r,.int .i64 t] w (AK (Cy s a f t r) w):=by
 have HB:Hid (b<w.heap.size):=Hi qk.o.lt;have hb:=HB.o;have c1:=qk.o.c1;have dz:d.size=t-f:=by rw[hd.o,l8];omega
 have hp:=WZ d r;have qj:∀W,Calls prog 112 #[.string d,.int .i64 r] W (Fo (vN r d d.size) W):=fun W=>hp W (by omega) (by omega) hr rL (Hi (fun k h=>by
  have h1:=hh.o (f+k) (by omega) (by omega);have h2:(AI s (f+k)).toNat=d[k].toNat:=by
   rw[F9,<-Dw h,hd.o];rw[BP (by omega) ht]
  rw[h2]at h1;exact h1))
 obtain⟨X,hX⟩:∃X,X=vN r d d.size:=⟨_,rfl⟩;rw[<-hX]at qj;have hR:Cy s a f t r=if X<2^Go.Proofs.LE then .ok 4 ⟨#[]⟩ (Hh X) 0 a t else .err a 34:=by rw[hX,hd.o];rfl
 obtain⟨R,hRe⟩:∃R,R=Cy s a f t r:=⟨_,rfl⟩;rw[<-hRe];rw[hR]at hRe;clear hR hX hp dz qk;by_cases hXl:X<2^Go.Proofs.LE
 ·rw[lQ hXl]at hRe;have CP:Hid (∀W,Calls prog 112 #[.string d,.int .i64 r] W (Gk X W)):=Hi (fun W=>by
   have h:=qj W;rw[N7 hXl]at h;exact h)
  have HX:=Hi hXl;have HSZ:Hid (∀m',Bh X m'->sz X m'<=4096):=Hi (fun m' h=>GK h HX.o);have HR:Hid (R= .ok 4 ⟨#[]⟩ ⟨(Ar 10 X).toArray⟩ 0 a t):=Hi hRe;clear qj hXl hRe;go_enter func87,ntmps87
  go_wp2_with fail
  generalize hW1:w.alloc _=W1;have hb:=HB.o;have C1:W1.cell? ⟨b,1,none⟩=some (.int .i64 a):=by subst hW1;go_simp
  have sz1:W1.heap.size=w.heap.size+1:=by subst hW1;simp
  have bl:Below w.heap.size w W1:=by subst hW1;exact Bzz _
  have xx:W1.heap[w.heap.size]? =some (.cells (DF 0) 71 (0,0)):=by subst hW1;exact lT w _
  clear hW1
  go_wp2_with (go_at_call 112;(with_reducible refine(CP.o _).mono ?_))
  rintro e W2 ⟨sl,m,rfl,ht,yt,b2⟩;obtain⟨a0,c,rfl⟩:=yt.slice;have hm:m<=70368744177664:=by
   have h1:=GK ht HX.o;have h2:=MN X m;omega
  have c2:W2.cell? ⟨b,1,none⟩=some (.int .i64 a):=(b2.cell (p:=⟨b,1,none⟩) (by show b<W1.heap.size;omega)).trans C1;have t2:=(b2.block w.heap.size (by omega)).trans xx;have uM:=Hi (bl.trans (b2.mono (by omega)));have HV:=Hi yt;have sz2:W1.heap.size<=W2.heap.size:=b2.size;have kb2:b<W2.heap.size:=by omega
  have kb3:¬b=W2.heap.size:=by omega
  clear C1 xx b2 bl yt
  go_wp2_with fail
  generalize hW3:W2.alloc _=W3;have c3:W3.cell? ⟨b,1,none⟩=some (.int .i64 a):=by subst hW3;go_simp
  have p0:W3.cell? ⟨W2.heap.size,0,none⟩=some (.bool false):=by subst hW3;go_simp
  have p1:W3.cell? ⟨W2.heap.size,1,none⟩=some (.slice a0 m c):=by subst hW3;go_simp
  have b3:Below W2.heap.size W2 W3:=by subst hW3;exact Bzz _
  have t3:=(b3.block w.heap.size (by omega)).trans t2;have HV3:=Hi (HV.o.below b3);have zR:=Hi (uM.o.trans (b3.mono uM.o.size));have sz3:W2.heap.size<=W3.heap.size:=b3.size;clear hW3 b3 t2 c2
  go_wp2_with (go_at_call 113;(with_reducible refine(SO (.slice a0 m c) X m _ hm HV3 HSZ).mono ?_))
  rintro e W4 ⟨rfl,b4⟩;have T0:=(b4.block w.heap.size (by omega)).trans t3;have c4:W4.cell? ⟨b,1,none⟩=some (.int .i64 a):=(b4.cell (p:=⟨b,1,none⟩) (by show b<W3.heap.size;omega)).trans c3;have qE:w.heap.size<W4.heap.size:=by have:=b4.size;omega
  have x0:W4.cell? ⟨w.heap.size,0,none⟩=some (.int .i64 0):=by rw[Lib.cell_of_heap T0];rfl
  have y0:W4.frozen? ⟨w.heap.size,0,none⟩=false:=Lib.frozen_of_heap T0 0;have x1:W4.cell? ⟨w.heap.size,1,none⟩=some (.string ⟨#[]⟩):=by rw[Lib.cell_of_heap T0];rfl
  have y1:W4.frozen? ⟨w.heap.size,1,none⟩=false:=Lib.frozen_of_heap T0 1;have x2:W4.cell? ⟨w.heap.size,2,none⟩=some (.string ⟨#[]⟩):=by rw[Lib.cell_of_heap T0];rfl
  have y2:W4.frozen? ⟨w.heap.size,2,none⟩=false:=Lib.frozen_of_heap T0 2;have x3:W4.cell? ⟨w.heap.size,3,none⟩=some (.int .u64 0):=by rw[Lib.cell_of_heap T0];rfl
  have y3:W4.frozen? ⟨w.heap.size,3,none⟩=false:=Lib.frozen_of_heap T0 3;have x4:W4.cell? ⟨w.heap.size,4,none⟩=some (.int .i64 0):=by rw[Lib.cell_of_heap T0];rfl
  have y4:W4.frozen? ⟨w.heap.size,4,none⟩=false:=Lib.frozen_of_heap T0 4;have x5:W4.cell? ⟨w.heap.size,5,none⟩=some (.int .i64 0):=by rw[Lib.cell_of_heap T0];rfl
  have y5:W4.frozen? ⟨w.heap.size,5,none⟩=false:=Lib.frozen_of_heap T0 5;have x6:W4.cell? ⟨w.heap.size,6,none⟩=some (.bool false):=by rw[Lib.cell_of_heap T0];rfl
  have y6:W4.frozen? ⟨w.heap.size,6,none⟩=false:=Lib.frozen_of_heap T0 6;have BT:=Hi (zR.o.trans (b4.mono zR.o.size));clear b4 T0 t3 c3 p0 p1;go_wp2;refine lS (v:= .tuple #[Ai 4 ⟨#[]⟩ ⟨(Ar 10 X).toArray⟩ 0 a t false,.int .i64 0,.int .i64 0]) ?_ rfl (AK.ok (k:=4) (bits:=0) HR.o ?_)
  ·simp only[results,results87];go_simp
   try rfl
  ·exact AE BT.o (nR _) _ _ _ _ _ _ _
 ·rw[lL hXl]at hRe;have CP:Hid (∀W,Calls prog 112 #[.string d,.int .i64 r] W (fun e w'=>e= .returned (.tuple #[.agg #[.bool false,.slice none 0 0],.int .i64 10])/\Below W.heap.size W w')):=Hi (fun W=>by
   have h:=qj W;rw[fT hXl]at h;exact h)
  have HR:Hid (R= .err a 34):=Hi hRe;clear qj hXl hRe;go_enter func87,ntmps87
  go_wp2_with fail
  generalize hW1:w.alloc _=W1;have hb:=HB.o;have C1:W1.cell? ⟨b,1,none⟩=some (.int .i64 a):=by subst hW1;go_simp
  have sz1:W1.heap.size=w.heap.size+1:=by subst hW1;simp
  have bl:Below w.heap.size w W1:=by subst hW1;exact Bzz _
  have xx:W1.heap[w.heap.size]? =some (.cells (DF 0) 71 (0,0)):=by subst hW1;exact lT w _
  clear hW1
  go_wp2_with (go_at_call 112;(with_reducible refine(CP.o _).mono ?_))
  rintro e W2 ⟨rfl,b2⟩;have c2:W2.cell? ⟨b,1,none⟩=some (.int .i64 a):=(b2.cell (p:=⟨b,1,none⟩) (by show b<W1.heap.size;omega)).trans C1;have T0:=(b2.block w.heap.size (by omega)).trans xx;have T0H:=Hi T0;have uM:=Hi (bl.trans (b2.mono (by omega)));have sz2:W1.heap.size<=W2.heap.size:=b2.size;have kb2:b<W2.heap.size:=by omega
  have kb3:¬b=W2.heap.size:=by omega
  obtain⟨x0,x1,x2,x3,x4,x5,x6⟩:=(⟨T0⟩:Gf W2 w.heap.size).cs;have y0:=Lib.frozen_of_heap T0 0;have y1:=Lib.frozen_of_heap T0 1;have y2:=Lib.frozen_of_heap T0 2;have y3:=Lib.frozen_of_heap T0 3;have y4:=Lib.frozen_of_heap T0 4;have y5:=Lib.frozen_of_heap T0 5;have y6:=Lib.frozen_of_heap T0 6;clear C1 xx b2 bl T0 x0 x1 x2 x3 x4 x5 x6 y0 y1 y2 y3 y4 y5 y6
  go_wp2_with fail
  generalize hW3:W2.alloc _=W3;have c3:W3.cell? ⟨b,1,none⟩=some (.int .i64 a):=by subst hW3;go_simp
  have b3:Below W2.heap.size W2 W3:=by subst hW3;exact Bzz _
  have T3:Hid (Gf W3 w.heap.size):=Hi ((⟨T0H.o⟩:Gf W2 w.heap.size).below b3);have zR:=Hi (uM.o.trans (b3.mono uM.o.size));obtain⟨x0,x1,x2,x3,x4,x5,x6⟩:=T3.o.cs;obtain⟨y0,y1,y2,y3,y4,y5,y6⟩:=T3.o.fs;clear hW3 b3 c2
  go_region
  go_wp2_with fail
  refine lS (v:= .tuple #[Ai 0 ⟨#[]⟩ ⟨#[]⟩ 0 0 0 false,.int .i64 a,.int .i64 34]) ?_ rfl (AK.er HR.o ?_)
  ·simp only[results,results87];go_simp
   try rfl
  ·exact(AE zR.o (nR _) _ _ _ _ _ _ _).drew
end Go.Proofs
namespace Go.Lx
open Go.Hb Go.Rb
theorem eV {s:ByteArray} {p:Nat}(h:p<s.size):Lib.hasPrefix (s.data.toList.drop p) [39,39]=decide (AI s p=39/\AI s (p+1)=39):=by
 rw[drop_cons h];rcases ls (p+1) s.size with h2|h2
 ·rw[drop_cons h2,AP s p h,AP s (p+1) h2];have e0:(s[p]=39)↔((s[p].toNat:Int)=39):=⟨fun h=>by rw[h];rfl,fun h=>qB.1 (by show s[p].toNat=39;omega)⟩;have e1:(s[p+1]=39)↔((s[p+1].toNat:Int)=39):=⟨fun h=>by rw[h];rfl,fun h=>qB.1 (by show s[p+1].toNat=39;omega)⟩;have key:Lib.hasPrefix (s[p]::s[p+1]::s.data.toList.drop (p+1+1)) [39,39]=decide (s[p]=39/\s[p+1]=39):=by
   unfold Lib.hasPrefix;simp only[List.isPrefixOf,Bool.and_true];rw[oZ];simp only[mJ,nH,mL];exact⟨fun⟨h1,h2⟩=>⟨h1.symm,h2.symm⟩,fun⟨h1,h2⟩=>⟨h1.symm,h2.symm⟩⟩
  rw[key];exact mZ.2 (by rw[e0,e1])
 ·rw[Dk h2,Ax s (p+1) h2];simp[Lib.hasPrefix,List.isPrefixOf]
theorem KO {s:ByteArray} {p v n:Nat}(h:D4 s p v n) (hv:v<128):AI s p=v/\n=1:=by
 have h2:=Ka s p;unfold D4 cont at h;omega
theorem VE {s:ByteArray} {p v n:Nat}(h:D4 s p v n) (hv:128<=v):128<=AI s p:=by
 have h2:=Mz s p;unfold D4 cont at h;omega
theorem Um {s:ByteArray} {p:Nat}(h:Le s p) (hp:p<s.size):128<=AI s p:=by
 apply mM;intro h1;exact h (AI s p) 1 (.inl ⟨rfl,hp,by omega,by omega⟩)
theorem cL {s:ByteArray} {a:Nat}(_:AI s a=48/\AI s (a+1)=39) (h:s.size<=a+2):De s a=none:=by unfold De;rw[lQ (.inr (.inr (.inl h)))]
theorem fb {s:ByteArray} {a:Nat}(_:AI s a=48/\AI s (a+1)=39) (h:AI s (a+2)=10):De s a=none:=by unfold De;rw[lQ (.inr (.inr (.inr h)))]
theorem JP {s:ByteArray} {a:Nat}(h1:AI s a=48/\AI s (a+1)=39) (hl:a+2<s.size) (h:AI s (a+2)≠10):De s a=if AI s (a+2)=39 then(if AI s (a+3)=39 then some (.ok 4 ⟨#[]⟩ (Hh 39) 0 a (a+4))else none)
 else if AI s (a+2)=92 then(match FQ s (a+2)with
  |none=>some (.err (a+2) 32)
  |some (x,t)=>some (.ok 4 ⟨#[]⟩ (Hh x) 0 a t))
 else match FO s (a+2)with
  |none=>some (.err (a+2) 30)
  |some (v,n)=>some (.ok 4 ⟨#[]⟩ (Hh v) 0 a (a+2+n)):=by
 unfold De;rw[lL (by omega)];rfl
theorem ez {s:ByteArray} {a:Nat}(h1:AI s a=48/\AI s (a+1)=39) (hl:a+2<s.size) (h:AI s (a+2)=39) (h2:¬AI s (a+3)=39):De s a=none:=by rw[JP h1 hl (by omega),lQ h,lL h2]
theorem fG {s:ByteArray} {a:Nat}(h1:AI s a=48/\AI s (a+1)=39) (hl:a+2<s.size) (h:AI s (a+2)=39) (h2:AI s (a+3)=39):De s a=some (.ok 4 ⟨#[]⟩ (Hh 39) 0 a (a+4)):=by rw[JP h1 hl (by omega),lQ h,lQ h2]
theorem fj {s:ByteArray} {a:Nat}(h1:AI s a=48/\AI s (a+1)=39) (hl:a+2<s.size) (h:AI s (a+2)=92) (h2:FQ s (a+2)=none):De s a=some (.err (a+2) 32):=by rw[JP h1 hl (by omega),lL (by omega),lQ h,h2]
theorem dL {s:ByteArray} {a:Nat}(h1:AI s a=48/\AI s (a+1)=39){x t:Nat}(hl:a+2<s.size) (h:AI s (a+2)=92) (h2:FQ s (a+2)=some (x,t)):De s a=some (.ok 4 ⟨#[]⟩ (Hh x) 0 a t):=by rw[JP h1 hl (by omega),lL (by omega),lQ h,h2]
theorem eK {s:ByteArray} {a:Nat}(h1:AI s a=48/\AI s (a+1)=39) (hl:a+2<s.size) (h:Le s (a+2)):De s a=some (.err (a+2) 30):=by
 have:=Um h hl;rw[JP h1 hl (by omega),lL (by omega),lL (by omega),LU h]
theorem gC {s:ByteArray} {a:Nat}(h1:AI s a=48/\AI s (a+1)=39){v n:Nat}(hl:a+2<s.size) (h:D4 s (a+2) v n) (h2:v≠10) (h3:v≠39) (h4:v≠92):De s a=some (.ok 4 ⟨#[]⟩ (Hh v) 0 a (a+2+n)):=by
 have k:AI s (a+2)≠10/\AI s (a+2)≠39/\AI s (a+2)≠92:=by
  rcases ls v 128 with h5|h5
  ·have:=KO h h5;omega
  ·have:=VE h h5;omega
 rw[JP h1 hl k.1,lL k.2.1,lL k.2.2,LC h]
end Go.Lx
namespace Go.Proofs
open Go.RowKit Go.Pf Go.Lx Go.Hb Go.Rb Go.Bg
def Bp (R:Option TR) (w:World) (e:Ending) (w':World):Prop:=
 (match R with
  |none=>∃(k:Int) (tx nu:ByteArray) (bits at_ en:Int) (ly:Bool),e= .returned (.tuple #[Ai k tx nu bits at_ en ly,.int .i64 0,.int .i64 0,.bool false])
  |some (.ok k tx nu bits a en)=>e= .returned (.tuple #[Ai k tx nu bits a en false,.int .i64 0,.int .i64 0,.bool true])
  |some (.err p n)=>∃(k:Int) (tx nu:ByteArray) (bits at_ en:Int) (ly:Bool),e= .returned (.tuple #[Ai k tx nu bits at_ en ly,.int .i64 p,.int .i64 n,.bool true]))/\Below w.heap.size w w'
theorem Bp.no {R:Option TR} {w w':World} {k bits at_ en:Int} {tx nu:ByteArray} {ly:Bool}(h:R=none) (hb:Below w.heap.size w w'):Bp R w (.returned (.tuple #[Ai k tx nu bits at_ en ly,.int .i64 0,.int .i64 0,.bool false])) w':=by subst h;exact⟨⟨_,_,_,_,_,_,_,rfl⟩,hb⟩
theorem Bp.er {R:Option TR} {w w':World} {p n:Nat} {k bits at_ en:Int} {tx nu:ByteArray} {ly:Bool}(h:R=some (.err p n)) (hb:Below w.heap.size w w'):Bp R w (.returned (.tuple #[Ai k tx nu bits at_ en ly,.int .i64 p,.int .i64 n,.bool true])) w':=by subst h;exact⟨⟨_,_,_,_,_,_,_,rfl⟩,hb⟩
theorem Bp.ok {R:Option TR} {w w':World} {k bits a E:Nat} {tx nu:ByteArray}(h:R=some (.ok k tx nu bits a E)) (hb:Below w.heap.size w w'):Bp R w (.returned (.tuple #[Ai k tx nu bits a E false,.int .i64 0,.int .i64 0,.bool true])) w':=by subst h;exact⟨rfl,hb⟩
theorem FH {B b i j:Nat} {w W:World}(h:Below B w W) (hb:B<=b) (u v:Value):Below B w ((W.setCell ⟨b,i,none⟩ u).setCell ⟨b,j,none⟩ v):=
 (h.setCell (p:=⟨b,i,none⟩) hb u).setCell (p:=⟨b,j,none⟩) hb v
theorem QB (b:Nat) (s:ByteArray) (a:Nat) (w:World) (hs:s.size<=100000000) (ha:a+1<s.size) (h48:Hid (AI s a=48/\AI s (a+1)=39)) (qk:Hid (St w b s a)) (hL:Hid (Ag w)) (te:TypeId) (pe:Value) (h6:Hid (w.cell? ⟨8,0,none⟩=some (.iface te pe))) (J5:Hid (Tryz.prog.globals.size<=w.heap.size)):
 Calls prog 83 #[.pointer (some ⟨b,0,none⟩)] w (Bp (De s a) w):=by
 have hb:=qk.o.lt;have h6l:8<w.heap.size:=Lib.lt_of_cell h6.o;have k1:b<w.heap.size+1:=by omega
 have k2:b<w.heap.size+1+1:=by omega
 obtain⟨R,hR⟩:∃R,R=De s a:=⟨_,rfl⟩;rw[<-hR];obtain⟨a2,ha2⟩:∃a2,a2=a+2:=⟨_,rfl⟩;have ea:(a:Int)+2=a2:=by omega
 have Is:=Hi ha2;obtain⟨u,hu⟩:∃u,u=s.extract a2 s.size:=⟨_,rfl⟩;have HU:=Hi hu;have HR:=Hi hR;have c0:=qk.o.c0;have c1:=qk.o.c1;have TKW:∀W2,W2=(w.alloc (.cells #[.int .i64 0,.string ⟨#[]⟩,.string ⟨#[]⟩,.int .u64 0,.int .i64 0,.int .i64 0,.bool false] 71)).alloc (.cells #[.int .i64 4,.string ⟨#[]⟩,.string ⟨#[]⟩,.int .u64 0,.int .i64 a,.int .i64 0,.bool false] 71)->QW w b s a 4 te pe W2:=by
  intro W2 hW2;have sz2:W2.heap.size=w.heap.size+2:=by subst hW2;simp
  have sY:Below w.heap.size w W2:=by subst hW2;exact(Bzz _).alloc (by simp) _
  have tk0:Gf W2 w.heap.size:=by
   refine⟨?_⟩;subst hW2;rw[Lib.alloc_old _ _ _ (by simp)];exact lT w _
  have zL:Hd W2 (w.heap.size+1) (4:Nat) ⟨#[]⟩ ⟨#[]⟩ 0 a 0 false:=by
   refine⟨?_⟩;subst hW2;have:=lT (w.alloc (.cells (DF 0) 71)) (.cells #[.int .i64 4,.string ⟨#[]⟩,.string ⟨#[]⟩,.int .u64 0,.int .i64 a,.int .i64 0,.bool false] 71);rw[show(w.alloc (.cells (DF 0) 71)).heap.size=w.heap.size+1 by simp]at this;exact this
  exact⟨tk0,zL,qk.o.below sY,sY,hL.o.below sY,(sY.cell (p:=⟨8,0,none⟩) h6l).trans h6.o,h6l,J5.o,by omega⟩
 have ug:=Hi TKW;clear hR ha2 hu TKW;by_cases qE:a2<s.size
 ·have li:((s.size:Int)<=(a2:Int))=False:=by simp;omega
  have yI:(Lib.decodeGo u)=Utf8.decode s a2:=by rw[HU.o];exact Iy s a2 qE
  rcases FN s a2 qE with⟨v,n,hc,hd⟩|⟨uE,hd⟩
  ·have wM:=Hi hc;have uk:=hc.pos;have hn:=hc.size;have sC:=hc.last;have n4:n<=4:=by omega
   have v11:v<=1114111:=by have:=uk.2;unfold Ah at this;omega
   clear uk hn hc;have C68:Hid (∀W,Ag W->Calls prog 82 #[.string u] W fun e w'=>e= .returned (.tuple #[.int .i32 v,.int .i64 n])/\Below W.heap.size W w'):=Hi (fun W hW=>(Tryz.utf8_DecodeRuneInString u W hW.utf8).mono fun e w' ⟨h1,h2⟩=>⟨by rw[h1,yI,hd];try rfl,h2⟩);clear yI hd;have zb:=Hi qE;obtain⟨en,hen⟩:∃en,en=a2+n:=⟨_,rfl⟩;have HEN:=Hi hen;have ee:(a2:Int)+n=en:=by omega
   clear hen;go_enter func83,ntmps83
   go_wp2_with fail
   rw[<-HU.o];generalize hW2:(w.alloc _).alloc _=W2;have Q2:Hid (QW w b s a 4 te pe W2):=Hi (ug.o W2 hW2.symm);clear hW2;have cb0:=Q2.o.st.c0;have cb1:=Q2.o.st.c1
   go_wp2_with (go_at_call 82;(with_reducible refine(C68.o _ Q2.o.ld).mono ?_))
   rintro e W3 ⟨rfl,b3⟩;have Q3:Hid (QW w b s a 4 te pe W3):=Hi (Q2.o.call hb (b3.mono Q2.o.sz));clear b3 cb0 cb1;have cc0:=Q3.o.st.c0;have cc1:=Q3.o.st.c1;by_cases xO:v=10
   ·have t1:((v:Int)==10)=true:=beq_of_eq (by omega);have HF:Hid (R=none):=Hi (by rw[HR.o];refine fb h48.o ?_;have:=(KO wM.o (by omega)).1;rw[Is.o]at this;omega);clear xO;obtain⟨rO,rX,rT,re,rP,rh,rj⟩:=Q3.o.t0.cs;obtain⟨rW,rV,rY,rQ,rM,rN,rS⟩:=Q3.o.t0.fs;obtain⟨rq,qo,rA,rB,rI,rC,qx⟩:=Q3.o.t1.cs;obtain⟨ru,sL,sM,sI,sN,sG,sF⟩:=Q3.o.t1.fs;go_wp2;refine lS (v:= .tuple #[Ai 4 ⟨#[]⟩ ⟨#[]⟩ 0 a 0 false,.int .i64 0,.int .i64 0,.bool false]) ?_ rfl (Bp.no HF.o (AE (Q3.o.Ac) (nR _) _ _ _ _ _ _ _));simp only[results,results83];go_simp
    try rfl
   have t1:((v:Int)==10)=false:=AD (by omega);by_cases c39:v=39
   ·have t2:((v:Int)==39)=true:=beq_of_eq (by omega);have xo:AI s (a+2)=39:=by have:=(KO wM.o (by omega)).1;rw[Is.o]at this;omega
    have CP:=fun w=>Tryz.strings_HasPrefix (s.extract a2 s.size) ⟨#[39,39]⟩ w;rw[show(⟨#[39,39]⟩:ByteArray).data.toList= [39,39]from rfl,Dt,eV zb.o]at CP;have hbb:AI s a2=39:=by rw[Is.o];exact xo
    by_cases hq:AI s (a+3)=39
    ·rw[show decide (AI s a2=39/\AI s (a2+1)=39)=true from lU ⟨hbb,by rw[Is.o];exact hq⟩]at CP;have C42:=Hi CP;have HF:Hid (R=some (.ok 4 ⟨#[]⟩ ⟨(Ar 10 v).toArray⟩ 0 a (a+4))):=Hi (by rw[HR.o,c39];exact fG h48.o (by have:=zb.o;have:=Is.o;omega) xo hq);obtain⟨e4,he4⟩:∃e4,e4=a+4:=⟨_,rfl⟩;rw[<-he4]at HF;have ee4:(a2:Int)+2=e4:=by have:=Is.o;omega
     have t3:((v:Int)==65533)=false:=AD (by omega);clear CP hq xo hbb c39 he4
     go_wp2_with (first|(go_at_call 53;(with_reducible refine(C42.o _).mono ?_);rintro e w' ⟨rfl,rfl⟩)|(go_at_call 94;(with_reducible refine(Tryz.itoa v _ (by omega) Q3.o.ld).mono ?_)))
     rintro e W5 ⟨rfl,b5⟩;have Q5:Hid (QW w b s a 4 te pe W5):=Hi (Q3.o.call hb (b5.mono Q3.o.sz));clear b5;obtain⟨rO,rX,rT,re,rP,rh,rj⟩:=Q5.o.t0.cs;obtain⟨rW,rV,rY,rQ,rM,rN,rS⟩:=Q5.o.t0.fs;obtain⟨rq,qo,rA,rB,rI,rC,qx⟩:=Q5.o.t1.cs;obtain⟨ru,sL,sM,sI,sN,sG,sF⟩:=Q5.o.t1.fs
     go_wp2_with fail
     refine lS (v:= .tuple #[Ai 4 ⟨#[]⟩ ⟨(Ar 10 v).toArray⟩ 0 a e4 false,.int .i64 0,.int .i64 0,.bool true]) ?_ rfl (Bp.ok HF.o (AE (FH Q5.o.Ac (mO _) _ _) (nR _) _ _ _ _ _ _ _));simp only[results,results83];go_simp
     try rfl
    ·rw[show decide (AI s a2=39/\AI s (a2+1)=39)=false from lO (fun h=>hq (by have h2:=h.2;rw[Is.o]at h2;exact h2))]at CP;have C42:=Hi CP;have HF:Hid (R=none):=Hi (by rw[HR.o];exact ez h48.o (by have:=zb.o;have:=Is.o;omega) xo hq);clear CP hq xo hbb c39;obtain⟨rO,rX,rT,re,rP,rh,rj⟩:=Q3.o.t0.cs;obtain⟨rW,rV,rY,rQ,rM,rN,rS⟩:=Q3.o.t0.fs;obtain⟨rq,qo,rA,rB,rI,rC,qx⟩:=Q3.o.t1.cs;obtain⟨ru,sL,sM,sI,sN,sG,sF⟩:=Q3.o.t1.fs
     go_wp2_with (go_at_call 53;(with_reducible refine(C42.o _).mono ?_);rintro e w' ⟨rfl,rfl⟩)
     refine lS (v:= .tuple #[Ai 4 ⟨#[]⟩ ⟨#[]⟩ 0 a 0 false,.int .i64 0,.int .i64 0,.bool false]) ?_ rfl (Bp.no HF.o (AE (Q3.o.Ac) (nR _) _ _ _ _ _ _ _));simp only[results,results83];go_simp
     try rfl
   have t2:((v:Int)==39)=false:=AD (by omega);have f4:((v:Int)==65533)=false\/(((v:Int)==65533)=true/\((n:Int)==1)=false):=by
    by_cases h:v=65533
    ·refine .inr ⟨by rw[h];rfl,AD ?_⟩;have h1:=wM.o;unfold D4 cont at h1;omega
    ·exact .inl (AD (by omega))
   by_cases c92:v=92
   ·have t3:((v:Int)==65533)=false:=AD (by omega);have t4:((v:Int)==92)=true:=beq_of_eq (by omega);have yw:AI s (a+2)=92:=by have:=(KO wM.o (by omega)).1;rw[Is.o]at this;omega
    obtain⟨a3,ha3⟩:∃a3,a3=a2+1:=⟨_,rfl⟩;have ea3:(a2:Int)+1=a3:=by omega
    have wh:∀W,W.cell? ⟨8,0,none⟩=some (.iface te pe)->Calls prog 92 #[.string s,.int .i64 a3] W (Br (FQ s a2) W):=fun W hW=>Sr s a2 a3 W hs (Hi ha3) (by omega) te pe (Hi hW);have E6:=Hi Q3.o.e6;cases uP:FQ s a2 with
    |none=>
     rw[uP]at wh;have CE:Hid (∀W,W.cell? ⟨8,0,none⟩=some (.iface te pe)->Calls prog 92 #[.string s,.int .i64 a3] W fun e w'=>e= .returned (.tuple #[.int .i32 0,.int .i64 0,.bool false])/\Below W.heap.size W w'):=Hi wh;have HF:Hid (R=some (.err a2 32)):=Hi (by rw[HR.o,Is.o];exact fj h48.o (by have:=zb.o;have:=Is.o;omega) yw (by rw[<-Is.o];exact uP));clear wh uP yw c92 ha3 f4
     go_wp2_with (go_at_call 92;(with_reducible refine(CE.o _ E6.o).mono ?_))
     rintro e' W4 ⟨rfl,b4⟩;have Q4:Hid (QW w b s a 4 te pe W4):=Hi (Q3.o.call hb (b4.mono Q3.o.sz));clear b4 cc0 cc1;have cd0:=Q4.o.st.c0;have cd1:=Q4.o.st.c1;obtain⟨rO,rX,rT,re,rP,rh,rj⟩:=Q4.o.t0.cs;obtain⟨rW,rV,rY,rQ,rM,rN,rS⟩:=Q4.o.t0.fs;obtain⟨rq,qo,rA,rB,rI,rC,qx⟩:=Q4.o.t1.cs;obtain⟨ru,sL,sM,sI,sN,sG,sF⟩:=Q4.o.t1.fs
     go_wp2_with fail
     refine lS (v:= .tuple #[Ai 4 ⟨#[]⟩ ⟨#[]⟩ 0 a 0 false,.int .i64 a2,.int .i64 32,.bool true]) ?_ rfl (Bp.er HF.o (AE (Q4.o.Ac) (nR _) _ _ _ _ _ _ _));simp only[results,results83];go_simp
     try rfl
    |some xt=>
     obtain⟨x,t⟩:=xt;rw[uP]at wh;have CE:Hid (∀W,W.cell? ⟨8,0,none⟩=some (.iface te pe)->Calls prog 92 #[.string s,.int .i64 a3] W fun e w'=>e= .returned (.tuple #[.int .i32 x,.int .i64 t,.bool true])/\Below W.heap.size W w'):=Hi wh;have HF:Hid (R=some (.ok 4 ⟨#[]⟩ ⟨(Ar 10 x).toArray⟩ 0 a t)):=Hi (by rw[HR.o];exact dL h48.o (by have:=zb.o;have:=Is.o;omega) yw (by rw[<-Is.o];exact uP));have g1:=Hy uP;have hx:=g1.2.2;unfold Ah at hx;have qo:x<=1114111:=by omega
     have ts:t<=s.size:=g1.2.1;obtain⟨m,hm⟩:∃m,m=t-a2:=⟨_,rfl⟩;have em:(t:Int)-a2=m:=by have:=g1.1;omega
     have em2:(a2:Int)+m=t:=by omega
     have mb:m<=100000000:=by omega
     clear wh uP yw c92 ha3 f4 g1 hx hm
     go_wp2_with (go_at_call 92;(with_reducible refine(CE.o _ E6.o).mono ?_))
     rintro e' W4 ⟨rfl,b4⟩;have Q4:Hid (QW w b s a 4 te pe W4):=Hi (Q3.o.call hb (b4.mono Q3.o.sz));clear b4 cc0 cc1;have cd0:=Q4.o.st.c0;have cd1:=Q4.o.st.c1
     go_wp2_with (go_at_call 94;(with_reducible refine(Tryz.itoa x _ (by omega) Q4.o.ld).mono ?_))
     rintro e W5 ⟨rfl,b5⟩;have Q5:Hid (QW w b s a 4 te pe W5):=Hi (Q4.o.call hb (b5.mono Q4.o.sz));clear b5;obtain⟨rO,rX,rT,re,rP,rh,rj⟩:=Q5.o.t0.cs;obtain⟨rW,rV,rY,rQ,rM,rN,rS⟩:=Q5.o.t0.fs;obtain⟨rq,qo,rA,rB,rI,rC,qx⟩:=Q5.o.t1.cs;obtain⟨ru,sL,sM,sI,sN,sG,sF⟩:=Q5.o.t1.fs
     go_wp2_with fail
     refine lS (v:= .tuple #[Ai 4 ⟨#[]⟩ ⟨(Ar 10 x).toArray⟩ 0 a t false,.int .i64 0,.int .i64 0,.bool true]) ?_ rfl (Bp.ok HF.o (AE (FH Q5.o.Ac (mO _) _ _) (nR _) _ _ _ _ _ _ _));simp only[results,results83];go_simp
     try rfl
   have t4:((v:Int)==92)=false:=AD (by omega);have HF:Hid (R=some (.ok 4 ⟨#[]⟩ ⟨(Ar 10 v).toArray⟩ 0 a en)):=Hi (by rw[HR.o,HEN.o,Is.o];exact gC h48.o (by have:=zb.o;have:=Is.o;omega) (by rw[<-Is.o];exact wM.o) xO c39 c92);clear xO c39 c92;rcases f4 with t3|⟨t3,t5⟩
   ·go_wp2_with (go_at_call 94;(with_reducible refine(Tryz.itoa v _ (by omega) Q3.o.ld).mono ?_))
    rintro e W5 ⟨rfl,b5⟩;have Q5:Hid (QW w b s a 4 te pe W5):=Hi (Q3.o.call hb (b5.mono Q3.o.sz));clear b5;obtain⟨rO,rX,rT,re,rP,rh,rj⟩:=Q5.o.t0.cs;obtain⟨rW,rV,rY,rQ,rM,rN,rS⟩:=Q5.o.t0.fs;obtain⟨rq,qo,rA,rB,rI,rC,qx⟩:=Q5.o.t1.cs;obtain⟨ru,sL,sM,sI,sN,sG,sF⟩:=Q5.o.t1.fs
    go_wp2_with fail
    refine lS (v:= .tuple #[Ai 4 ⟨#[]⟩ ⟨(Ar 10 v).toArray⟩ 0 a en false,.int .i64 0,.int .i64 0,.bool true]) ?_ rfl (Bp.ok HF.o (AE (FH Q5.o.Ac (mO _) _ _) (nR _) _ _ _ _ _ _ _));simp only[results,results83];go_simp
    try rfl
   ·go_wp2_with (go_at_call 94;(with_reducible refine(Tryz.itoa v _ (by omega) Q3.o.ld).mono ?_))
    rintro e W5 ⟨rfl,b5⟩;have Q5:Hid (QW w b s a 4 te pe W5):=Hi (Q3.o.call hb (b5.mono Q3.o.sz));clear b5;obtain⟨rO,rX,rT,re,rP,rh,rj⟩:=Q5.o.t0.cs;obtain⟨rW,rV,rY,rQ,rM,rN,rS⟩:=Q5.o.t0.fs;obtain⟨rq,qo,rA,rB,rI,rC,qx⟩:=Q5.o.t1.cs;obtain⟨ru,sL,sM,sI,sN,sG,sF⟩:=Q5.o.t1.fs
    go_wp2_with fail
    refine lS (v:= .tuple #[Ai 4 ⟨#[]⟩ ⟨(Ar 10 v).toArray⟩ 0 a en false,.int .i64 0,.int .i64 0,.bool true]) ?_ rfl (Bp.ok HF.o (AE (FH Q5.o.Ac (mO _) _ _) (nR _) _ _ _ _ _ _ _));simp only[results,results83];go_simp
    try rfl
  ·have HF:Hid (R=some (.err a2 30)):=Hi (by rw[HR.o,Is.o];exact eK h48.o (by have:=Is.o;omega) (by rw[<-Is.o];exact uE));clear uE;have C68:Hid (∀W,Ag W->Calls prog 82 #[.string u] W fun e w'=>e= .returned (.tuple #[.int .i32 65533,.int .i64 1])/\Below W.heap.size W w'):=Hi (fun W hW=>(Tryz.utf8_DecodeRuneInString u W hW.utf8).mono fun e w' ⟨h1,h2⟩=>⟨by rw[h1,yI,hd];try rfl,h2⟩);clear yI hd;have zb:=Hi qE;go_enter func83,ntmps83
   go_wp2_with fail
   rw[<-HU.o];generalize hW2:(w.alloc _).alloc _=W2;have Q2:Hid (QW w b s a 4 te pe W2):=Hi (ug.o W2 hW2.symm);clear hW2;have cb0:=Q2.o.st.c0;have cb1:=Q2.o.st.c1
   go_wp2_with (go_at_call 82;(with_reducible refine(C68.o _ Q2.o.ld).mono ?_))
   rintro e W3 ⟨rfl,b3⟩;have Q3:Hid (QW w b s a 4 te pe W3):=Hi (Q2.o.call hb (b3.mono Q2.o.sz));clear b3 cb0 cb1;have cc0:=Q3.o.st.c0;have cc1:=Q3.o.st.c1;obtain⟨rO,rX,rT,re,rP,rh,rj⟩:=Q3.o.t0.cs;obtain⟨rW,rV,rY,rQ,rM,rN,rS⟩:=Q3.o.t0.fs;obtain⟨rq,qo,rA,rB,rI,rC,qx⟩:=Q3.o.t1.cs;obtain⟨ru,sL,sM,sI,sN,sG,sF⟩:=Q3.o.t1.fs
   go_wp2_with fail
   refine lS (v:= .tuple #[Ai 4 ⟨#[]⟩ ⟨#[]⟩ 0 a 0 false,.int .i64 a2,.int .i64 30,.bool true]) ?_ rfl (Bp.er HF.o (AE (Q3.o.Ac) (nR _) _ _ _ _ _ _ _));simp only[results,results83];go_simp
   try rfl
 ·have li:(s.size:Int)<=(a2:Int):=by omega
  have HF:Hid (R=none):=Hi (by rw[HR.o];exact cL h48.o (by have:=Is.o;omega));go_enter func83,ntmps83;go_wp2;refine lS (v:= .tuple #[Ai 4 ⟨#[]⟩ ⟨#[]⟩ 0 a 0 false,.int .i64 0,.int .i64 0,.bool false]) ?_ rfl (Bp.no HF.o ?_)
  ·simp only[results,results83];go_simp
   try rfl
  ·exact(Bzz _).alloc (by simp) _
end Go.Proofs
section
namespace Go.Lx
open Go.Hb Go.Rb Go.Bg Go.Pf
theorem Wr {c:Nat} :AQ c=true↔48<=c/\c<=57:=by simp[AQ]
theorem QH {c:Nat}(h:48<=c/\c<=57):Cv c=c-48:=by unfold Cv;rw[lQ h]
theorem M9 {s:ByteArray} {f j:Nat}(hf:f<=s.size) (h1:f<=j) (h2:j<AF AQ s f):48<=byte s j/\byte s j<=57:=by
 have h3:=Bx AQ s f hf;rw[Dw (by omega)];exact Wr.1 (FP (a:=f) j (by omega) h1 h2)
structure XE (s:ByteArray) (a p e:Nat):Prop where
 ap:a<p
 ps:p<s.size
 dot:byte s p=46
 d1:∀j,a<=j->j<p->48<=byte s j/\byte s j<=57
 d2:∀j,p+1<=j->j<e->48<=byte s j/\byte s j<=57
 pe:p+1<e
 es:e<=s.size
theorem XU {s:ByteArray} {a p:Nat}(ha:a<s.size) (hp:p=AF AQ s a) (hd:AQ (AI s a).toNat=true) (rZ:AI s p=46) (qm:AQ (AI s (p+1)).toNat=true):XE s a p (AF AQ s (p+1)):=by
 have tN:p<s.size:=by
  rcases ls p s.size with h|h
  ·exact h
  ·rw[Ax s p h]at rZ;omega
 have xM:a<p:=by
  have h1:=BN AQ s a;have h2:AF AQ s a≠a:=by
   intro h;rw[<-hp]at h;subst h;rw[rZ]at hd;exact absurd hd (by decide)
  omega
 have hp1:p+1<s.size:=by
  rcases ls (p+1) s.size with h|h
  ·exact h
  ·rw[Ax s _ h]at qm;exact absurd qm (by decide)
 have h3:p+1<AF AQ s (p+1):=by
  rw[AP s _ hp1,mB]at qm;rw[Bb hp1 qm];exact BN AQ s (p+1+1)
 refine⟨xM,tN,?_,fun j h1 h2=>M9 (by omega) h1 (by omega),fun j h1 h2=>M9 (by omega) h1 h2,h3,Bx AQ s _ (by omega)⟩;have:=F9 s p;rw[rZ]at this;omega
theorem Ri {s:ByteArray} {a p e t:Nat}(h:XE s a p e) (het:e<=t) (ht:t<=s.size):∀k,k<=p-a->Fb (s.extract a t) k=vN 10 (s.extract a p++s.extract (p+1) e) k
 |0,_=>rfl
 |k+1,hk=>by
  have ih:=Ri h het ht k (by omega);have h1:=h.d1 (a+k) (by omega) (by omega);have hz:(s.extract a p).size=p-a:=by rw[l8];have:=h.ps;omega
  have hpe:=h.pe;rw[Fb,vN,ih,BP (by omega) ht,lL (by omega),Oq,hz,lQ (by omega),BP (by omega) (by have:=h.ps;omega),QH h1]
theorem OY {s:ByteArray} {a p e t:Nat}(h:XE s a p e) (het:e<=t) (ht:t<=s.size):∀j,j<=e-(p+1)->Fb (s.extract a t) (p-a+1+j)=vN 10 (s.extract a p++s.extract (p+1) e) (p-a+j)
 |0,_=>by
  have xM:=h.ap;have hpe:=h.pe;rw[nK,nK,Fb,BP (by omega) ht,show a+(p-a)=p by omega,lQ h.dot];exact Ri h het ht _ (nR _)
 |j+1,hj=>by
  have ih:=OY h het ht j (by omega);have xM:=h.ap;have h1:=h.d2 (p+1+j) (by omega) (by omega);have hz:(s.extract a p).size=p-a:=by rw[l8];have:=h.ps;omega
  rw[show p-a+1+(j+1)=(p-a+1+j)+1 by omega,show p-a+(j+1)=(p-a+j)+1 by omega,Fb,vN,ih,BP (by omega) ht,show a+(p-a+1+j)=p+1+j by omega,lL (by omega),Oq,hz,lL (by omega),BP (by omega) h.es,
   show p+1+(p-a+j-(p-a))=p+1+j by omega,QH h1]
theorem Xo {s:ByteArray} {a p t:Nat}(h:XE s a p (AF AQ s (p+1))) (het:AF AQ s (p+1)<=t) (ht:t<=s.size):Fb (s.extract a t) (AF AQ s (p+1)-a)=vN 10 (IS s a p) (IS s a p).size:=by
 have xM:=h.ap;have hpe:=h.pe;rw[UU (by omega) h.ps,show AF AQ s (p+1)-a=p-a+1+(AF AQ s (p+1)-(p+1)) by omega];exact OY h het ht _ (nR _)
theorem Xr {s:ByteArray} {a f t:Nat}(haf:a<=f) (ht:t<=s.size):∀j,f+j<=t->(∀i,i<j->48<=byte s (f+i)/\byte s (f+i)<=57)->ef (s.extract a t) (f-a) j=Fx 10 s f j
 |0,_,_=>rfl
 |j+1,h,hd=>by
  have h1:=hd j (by omega);rw[ef,Fx,Xr haf ht j (by omega) (fun i hi=>hd i (by omega)),BP (by omega) ht,show a+(f-a+j)=f+j by omega,F9,QH h1]
theorem Ub {s:ByteArray} {a p e:Nat}(h:XE s a p e):DW (s.extract a e) (p-a) (e-a) (e-a) 1:=by
 have xM:=h.ap;have hpe:=h.pe;have uP:=h.es;have hz:(s.extract a e).size=e-a:=by rw[l8];omega
 refine⟨by omega,by omega,by omega,fun j hj hjp=> ?_,?_,.inl ⟨by omega,by omega,rfl⟩⟩
 ·rw[BP (by omega) uP];rcases ls (a+j) p with h1|h1
  ·exact h.d1 _ (by omega) h1
  ·exact h.d2 _ (by omega) (by omega)
 ·rw[BP (by omega) uP,show a+(p-a)=p by omega];exact h.dot
theorem No {s:ByteArray} {a p e f t:Nat} {sg:Int}(h:XE s a p e) (he:AI s e=101\/AI s e=69) (hf:(f=e+1/\sg=1)\/(f=e+2/\sg=1/\AI s (e+1)=43)\/(f=e+2/\sg= -1/\AI s (e+1)=45)) (hft:f<t) (ht4:t<=f+4) (ht:t<=s.size) (hd:∀j,f<=j->j<t->48<=byte s j/\byte s j<=57):
 DW (s.extract a t) (p-a) (e-a) (f-a) sg:=by
 have xM:=h.ap;have hpe:=h.pe;have hef:e<f:=by omega
 have hz:(s.extract a t).size=t-a:=by rw[l8];omega
 have bb:∀k c:Nat,AI s k=c->byte s k=c:=fun k c hk=>by have:=F9 s k;rw[hk]at this;omega
 refine⟨by omega,by omega,by omega,fun j hj hjp=> ?_,?_,.inr ⟨by omega,?_,?_,by omega,by omega,fun j h1 h2=> ?_⟩⟩
 ·rw[BP (by omega) ht];rcases ls (a+j) p with h1|h1
  ·exact h.d1 _ (by omega) h1
  ·exact h.d2 _ (by omega) (by omega)
 ·rw[BP (by omega) ht,show a+(p-a)=p by omega];exact h.dot
 ·rw[BP (by omega) ht,show a+(e-a)=e by omega];rcases he with he|he
  ·exact .inl (bb e 101 he)
  ·exact .inr (bb e 69 he)
 ·rcases hf with⟨h1,h2⟩|⟨h1,h2,h3⟩|⟨h1,h2,h3⟩
  ·exact .inl ⟨by omega,h2⟩
  ·refine .inr (.inl ⟨by omega,h2,?_⟩);rw[BP (by omega) ht,show a+(e-a+1)=e+1 by omega];exact bb _ 43 h3
  ·refine .inr (.inr ⟨by omega,h2,?_⟩);rw[BP (by omega) ht,show a+(e-a+1)=e+1 by omega];exact bb _ 45 h3
 ·rw[BP (by omega) ht];exact hd _ (by omega) (by omega)
theorem WD {s:ByteArray} {a p f t:Nat} {sg x:Int} {b:Nat}(h:XE s a p (AF AQ s (p+1))) (het:AF AQ s (p+1)<=t) (ht:t<=s.size) (hx:ef (s.extract a t) (f-a) ((s.extract a t).size-(f-a))*sg=x)
 (hb:Po (s.extract a t) (p-a) (AF AQ s (p+1)-a) (f-a) sg b):b=Qs (vN 10 (IS s a p) (IS s a p).size) (x-((AF AQ s (p+1):Int)-p-1)):=by
 have xM:=h.ap;have hpe:=h.pe;unfold Po at hb;rw[Xo h het ht]at hb;have e:fx (s.extract a t) (p-a) (AF AQ s (p+1)-a) (f-a) sg=x-((AF AQ s (p+1):Int)-p-1):=by
  unfold fx;rw[hx];omega
 rw[e]at hb;exact(ZA hb).symm
theorem bz {m:ByteArray} {f:Nat}(h:m.size=f) (sg:Int):(ef m f (m.size-f):Int)*sg=0:=by
 rw[h,oj];simp[ef]
theorem ZJ {s:ByteArray} {a f t:Nat}(haf:a<=f) (hft:f<=t) (ht:t<=s.size) (hd:∀j,f<=j->j<t->48<=byte s j/\byte s j<=57):ef (s.extract a t) (f-a) ((s.extract a t).size-(f-a))=Fx 10 s f (t-f):=by
 have hz:(s.extract a t).size=t-a:=by rw[l8];omega
 rw[hz,show t-a-(f-a)=t-f by omega];exact Xr haf ht _ (by omega) (fun i hi=>hd _ (by omega) (by omega))
end Go.Lx
end
section
namespace Go.Proofs
open Go.RowKit Go.Pf
theorem Hf (b:Nat) (w:World):(callFunc 115 #[.float .f64 b]).run prog w= .ok (.value (.int .u64 (b:Int))) w:=by
 rw[run_callFunc_extern func115 (by kernel_rfl) (by kernel_rfl) (by kernel_rfl) (e:=Extern.MathFloatBits.float64bits) (by kernel_rfl)];rfl
theorem Ey (n:Nat) (w:World):(callFunc 100 #[.int .u64 (n:Int)]).run prog w= .ok (.value (.float .f64 n)) w:=by
 rw[run_callFunc_extern func100 (by kernel_rfl) (by kernel_rfl) (by kernel_rfl) (e:=Extern.MathFloatBits.float64frombits) (by kernel_rfl)];rfl
theorem Tryz.abs (b:Nat) (hb:b<=AW) (w:World):Calls prog 124 #[.float .f64 b] w fun e w'=>e= .returned (.float .f64 b)/\w=w':=by
 have qM:b<9223372036854775808:=by unfold AW at hb;omega
 have f2:bits .andNot .u64 (b:Int) 9223372036854775808=(b:Int):=by
  have h1:=u64_andNot_nat b 9223372036854775808 (by omega) (by decide);have e:18446744073709551615-9223372036854775808=2^63-1:=by decide
  rw[e,oN,mv (show b<2^63 from qM)]at h1;exact h1
 have hm:b<18446744073709551616:=by omega
 clear hb qM;go_enter func124,ntmps124;go_wp2;rw[Hf,nt];go_wp2;rw[Ey,nt];go_wp2;go_ret;exact⟨rfl,rfl⟩
theorem VQ {b:Nat}(h:b<=AW):(FloatKind.f64.format.order b 9218868437227405311==some Ordering.gt)=decide (b=AW):=by
 show(Ieee.double.order b 9218868437227405311==some Ordering.gt)=_;by_cases h1:b<AW
 ·rw[JC h1 (by decide),lO (by omega)];have h2:compare b 9218868437227405311≠ .gt:=by
   rw[Ne,Nat.compare_eq_gt];unfold AW at h1;omega
  cases hc:compare b 9218868437227405311 with
  |lt=>rfl
  |eq=>rfl
  |gt=>exact absurd hc h2
 ·obtain rfl:b=AW:=by omega
  rw[lU rfl];kernel_rfl
theorem Tryz.isInf (b:Nat) (hb:Hid (b<=AW)) (w:World):Calls prog 102 #[.float .f64 b,.int .i64 0] w fun e w'=>e= .returned (.bool (decide (b=AW)))/\w=w':=by
 have H:=Hi (VQ hb.o);go_enter func102,ntmps102
 go_wp2_with (go_at_call 124;(with_reducible refine(Tryz.abs b hb.o _).mono ?_);rintro e w' ⟨rfl,rfl⟩)
 rw[H.o];go_ret;exact⟨rfl,rfl⟩
end Go.Proofs
end
