import Derived.Test.YtpocgkiamgipdaaGreatDoorTbe
import Derived.BigRegion
set_option maxRecDepth 1000000
set_option maxHeartbeats 0
set_option linter.unusedVariables false
set_option linter.unusedSimpArgs false
open Go.Proofs.Tryz
namespace Go.Proofs
open Go.RowKit Go.Pf Go.Lx Go.Hb Go.Rb Go.Bg
theorem Y4 (b:Nat) (s:ByteArray) (a q:Nat) (w:World) (hs:s.size<=100000000) (ha:a<s.size) (hq:Hid (q=39\/q=34\/q=96)) (qk:Hid (St w b s a)) (hL:Hid (Ag w)) (te:TypeId) (pe:Value) (h6:Hid (w.cell? ⟨8,0,none⟩=some (.iface te pe))) (J5:Hid (Tryz.prog.globals.size<=w.heap.size)):
 Calls prog 58 #[.pointer (some ⟨b,0,none⟩),.int .u8 q] w (AK (Cz s a q (a+1) []) w):=by
 have hb:=qk.o.lt;have h6l:8<w.heap.size:=Lib.lt_of_cell h6.o;have k1:b<w.heap.size+1:=by omega
 have k2:b<w.heap.size+1+1:=by omega
 have k3:b<w.heap.size+1+1+1:=by omega
 obtain⟨R,hR⟩:∃R,R=Cz s a q (a+1) []:=⟨_,rfl⟩;rw[<-hR];obtain⟨a1,ha1⟩:∃a1,a1=a+1:=⟨_,rfl⟩;rw[<-ha1]at hR;have ea:(a:Int)+1=a1:=by omega
 have a1le:a1<=s.size:=by omega
 obtain⟨t,ht⟩:∃t,t=s.extract a1 s.size:=⟨_,rfl⟩;have tz:t.size+a1=s.size:=by rw[ht,l8];omega
 have q96:q<=96:=by have:=hq.o;omega
 obtain⟨K,hK⟩:∃K,K=L1 q:=⟨_,rfl⟩;have K7:K<=7:=by rw[hK];unfold L1;split<;>(try split)<;>omega
 have HR:=Hi hR;have HT:=Hi ht;have HTZ:=Hi tz;have HK:=Hi hK;have JY:=Hi ha1;have c0:=qk.o.c0;have c1:=qk.o.c1;clear hR ht tz hK ha1;go_enter func58,ntmps58
 go_upto_block 0 with fail
 generalize hW2:(w.alloc _).alloc _=W2;have sz2:W2.heap.size=w.heap.size+2:=by subst hW2;simp
 have sY:Below w.heap.size w W2:=by subst hW2;exact(Bzz _).alloc (by simp) _
 have tk0:Gf W2 w.heap.size:=by
  refine⟨?_⟩;subst hW2;rw[Lib.alloc_old _ _ _ (by simp)];exact lT w _
 have zL:Hd W2 (w.heap.size+1) (2:Nat) ⟨#[]⟩ ⟨#[]⟩ 0 a 0 false:=by
  refine⟨?_⟩;subst hW2;have:=lT (w.alloc (.cells (DF 0) 71)) (.cells #[.int .i64 2,.string ⟨#[]⟩,.string ⟨#[]⟩,.int .u64 0,.int .i64 a,.int .i64 0,.bool false] 71);rw[show(w.alloc (.cells (DF 0) 71)).heap.size=w.heap.size+1 by simp]at this;exact this
 have QK:∀k:Nat,Hd W2 (w.heap.size+1) k ⟨#[]⟩ ⟨#[]⟩ 0 a 0 false->k=K->QW w b s a K te pe W2:=fun k h1 h2=>
  ⟨tk0,h2▸h1,qk.o.below sY,sY,hL.o.below sY,(sY.cell (p:=⟨8,0,none⟩) h6l).trans h6.o,h6l,J5.o,by omega⟩
 have QS:∀k:Nat,k=K->QW w b s a K te pe (W2.setCell ⟨w.heap.size+1,0,none⟩ (.int .i64 k)):=fun k h2=>by
  have xN:=sY.setCell (p:=⟨w.heap.size+1,0,none⟩) (by show w.heap.size<=w.heap.size+1;omega) (.int .i64 k);refine⟨⟨?_⟩,h2▸(zL.gr k),qk.o.below xN,xN,hL.o.below xN,(xN.cell (p:=⟨8,0,none⟩) h6l).trans h6.o,h6l,J5.o,by simp;omega⟩;exact(oB _ _ _ _ (by show w.heap.size≠w.heap.size+1;omega)).trans tk0.h
 obtain⟨rq,qo,rA,rB,rI,rC,qx⟩:=zL.cs;have ru:=zL.f 0;have TK1:=Hi zL;have xG:=Hi sz2;have HQK:=Hi QK;have HQS:=Hi QS;clear hW2 sz2 zL QK QS tk0 sY c0 c1
 go_cut [21] (fun _ wx=>QW w b s a K te pe wx/\wx.heap.size=w.heap.size+2)
 case first=>
  rcases hq.o with rfl|rfl|rfl
  ·have t1:(((39:Nat):Int)==34)=false:=rfl;have t2:(((39:Nat):Int)==96)=false:=rfl;go_wp2;go_meet;exact⟨HQK.o 2 TK1.o (by rw[HK.o];rfl),xG.o⟩
  ·have t1:(((34:Nat):Int)==34)=true:=rfl;go_wp2;go_meet;exact⟨HQS.o 6 (by rw[HK.o];rfl),by simp;exact xG.o⟩
  ·have t1:(((96:Nat):Int)==34)=false:=rfl;have t2:(((96:Nat):Int)==96)=true:=rfl;go_wp2;go_meet;exact⟨HQS.o 7 (by rw[HK.o];rfl),by simp;exact xG.o⟩
 case rest=>
 clear rq qo rA rB rI rC qx ru;obtain⟨hqw,sz⟩:=hcut;have c0:=hqw.st.c0;have c1:=hqw.st.c1;have HQW:=Hi hqw;have hwc:w.heap.size+2=wc.heap.size:=sz.symm;clear hqw;have SZC:=Hi sz;clear hwc;go_wp2;generalize hW3:wc.alloc _=W3;have SZ:Hid (W3.heap.size=w.heap.size+3):=Hi (by subst hW3;simp;exact SZC.o);have b3:Below (w.heap.size+2) wc W3:=by subst hW3;rw[<-SZC.o];exact Bzz _
 have Q3:QW w b s a K te pe W3:=HQW.o.call hb b3;have ZI:Hid (Lib.IsBuilderF 145 5 (w.heap.size+1+1) (w.heap.size+1+1) (Lib.byteCells []) W3):=Hi (by
  subst hW3;have:=Lib.IsBuilderF.of (Lib.fresh_isBuilder 145 5 wc);rw[show wc.heap.size=w.heap.size+1+1 from SZC.o]at this;exact this)
 have C0:W3.cell? ⟨b,0,none⟩=some (.string s):=Q3.st.c0;have C1:W3.cell? ⟨b,1,none⟩=some (.int .i64 a):=Q3.st.c1;have HQ3:=Hi Q3;have xU:=Hi hW3;clear Q3 hW3 c0 c1 b3 sz;have hw:IntKind.i64.wrap (a1:Int)=(a1:Int):=pt _ (by omega);have hwe:IntKind.i64.wrap ((a:Int)+1)=(a1:Int):=by rw[ea];exact hw
 have w9:(Instr.slice 9 (.string s) (some (.int .i64 (a1:Int))) none none).run prog W3.drew= .ok (.string t) W3.drew:=by
  have:=run_slice_string_l (P:=prog) (w:=W3.drew) (t:=9) (s:=s) mS .i64 (a1:Int) (by omega) (by omega);rw[show((a1:Int)).toNat=a1 by omega,<-HT.o]at this;exact this
 refine nr 10 (by kernel_rfl) (by kernel_rfl) ?_;simp only[nL,ny,nZ,nI];change wpStill _ _ W3.drew _ _ _
 repeat still_step
 refine pS ?_;change wpList _ _ _ _ _ W3.drew;clear hw hwe w9;have sz3:=SZ.o;go_wp2;clear sz3;have HQr:∀W,Below (w.heap.size+1+1) W3 W->QW w b s a K te pe W:=fun W h=>HQ3.o.call hb h;have yN:=Hi HQr;clear HQr
 go_loopw [9] (fun skip wr=>∃(k pos:Nat) (acc:List UInt8),skip= .int .i64 k/\pos<=t.size/\a1+pos<=k/\k<=s.size/\acc.length<=k/\(∀j,a1+pos<=j->j<k->AI s j<128)/\R=Cz s a q k acc/\QR t w.heap.size W3 acc pos wr) (fun _ wr=>t.size-wr.iterPos (w.heap.size+3))
 case atStart=>
  have hi:(W3.drew.iter t 0).heap[w.heap.size+3]? =some (.stringIter t 0):=by
   have:=World.iter_heap W3.drew t 0;rw[<-SZ.o];simpa using this
  exact⟨a1,0,[],rfl,by omega,by omega,a1le,by simp,fun j h1 h2=>by omega,HR.o,ZI.o.alloc _,hi,((Below.refl (w.heap.size+1+1) W3).drew).alloc (by have:=SZ.o;show w.heap.size+1+1<=W3.heap.size;omega) _⟩
 case round=>
  obtain⟨k,pos,acc,rfl,hpt,hpk,uc,hal,ua,hinv,tO⟩:=hrel;have tV:=Hi hinv;have HLOW:=Hi ua;clear hinv ua;obtain⟨p,hp⟩:∃p,p=a1+pos:=⟨_,rfl⟩;have ep:(pos:Int)+(a1:Int)=p:=by omega
  have hz:=HTZ.o;by_cases qc:pos<t.size
  ·by_cases hpk2:p<k
   ·have tN:p<s.size:=by omega
    have zv:=HLOW.o p (by omega) hpk2;obtain⟨c,hc⟩:∃c:Nat,AI s p=c:=⟨s[p].toNat,AP s p tN⟩;have hd:Utf8.decode t pos=(c,1):=by
     have sX:=Jx tN zv;rw[HT.o,Nk,<-hp];rcases FN s p tN with⟨v,n,h1,h2⟩|⟨h1,_⟩
     ·have:=h1.unique sX;rw[h2];exact Prod.ext (by show v=c;omega) (by show n=1;omega)
     ·exact absurd sX (h1 _ _)
    obtain⟨wn,uw,qu⟩:=tO.next qc 1 c hd;have qn:=yN.o wn qu.Ac;have cn0:=qn.st.c0;have cn1:=qn.st.c1;have i1:=Bo tO.it;have i2:=Bo qu.it;have I:=Hi (show t.size-wn.iterPos (w.heap.size+3)<t.size-wr.iterPos (w.heap.size+3) by rw[i1,i2];omega);have qE:(p:Int)<k:=by omega
    have AAE:Hid (∀j,a1+(pos+1)<=j->j<k->AI s j<128):=Hi (fun j h1 h2=>HLOW.o j (by omega) h2);have HP:=Hi hp;have ps:pos+1<=t.size:=by omega
    have pk:a1+(pos+1)<=k:=by omega
    clear i1 i2 hd hc hp zv qn hz;go_wp2;go_roundw
    case rel=>exact⟨k,pos+1,acc,rfl,ps,pk,uc,hal,AAE.o,tV.o,qu⟩
    case measure=>exact I.o
   ·obtain rfl:k=p:=by omega
    rename_i k _;clear hpk2;have tN:k<s.size:=by omega
    obtain⟨c,hc⟩:∃c:Nat,c=s[k].toNat:=⟨_,rfl⟩;have yI:AI s k=(c:Int):=by rw[AP s k tN,hc]
    rcases FN s k tN with⟨v,n,sX,ur⟩|⟨uE,ur⟩
    ·have uh:=LC sX;have hd:Utf8.decode t pos=(v,n):=by rw[HT.o,Nk,<-hp];exact ur
     obtain⟨wn,uw,qu⟩:=tO.next qc n v hd;have qn:=yN.o wn qu.Ac;have cn0:=qn.st.c0;have cn1:=qn.st.c1;have i1:=Bo tO.it;have h1:=sX.size;have h2:=sX.last;have vJ:=sX.pos.2;unfold Ah at vJ;have RL:Hid (Lib.runeLen v=n):=Hi (Qn sX);have hlen:=S6 sX;have hvc:(v=c/\n=1)\/(128<=c/\128<=v):=by
      by_cases h:c<128
      ·have:=sX.unique (Jx tN (by omega));omega
      ·right;unfold D4 at sX;omega
     obtain⟨k2,sW⟩:∃k2,k2=k+n:=⟨_,rfl⟩;have ek:(k:Int)+(n:Int)=k2:=by omega
     have k2s:k2<=s.size:=by omega
     have HB:Hid (∀n,Lib.IsBuilderF 145 5 (w.heap.size+1+1) (w.heap.size+1+1) (Lib.byteCells acc) (wn.drewN n)):=Hi fun _=>qu.ZI;have HN:Hid (∀n,w.heap.size+1+1<=(wn.drewN n).heap.size):=Hi fun n=>by have:=qn.sz;show w.heap.size+1+1<=wn.heap.size;omega
     have HQD:Hid (∀n,QW w b s a K te pe (wn.drewN n)):=Hi (fun n=>qn.drewN n);have tI:=Hi qn;have PT2:pos+n<=t.size:=by omega
     have PK2:a1+(pos+n)=k2:=by omega
     have I1:=Hi i1;have ue:=Hi PK2;have HOK:=Hi sX.pos.2;have v11:v<=1114111:=by omega
     have kk:¬((k:Int)<k):=by omega
     have wM:=Hi sX;have xE:=Hi uh;have HV:=Hi hvc;have vR:=Hi sW;have HHP:=Hi hp;have rz:=Hi hlen;have xX:=Hi yI;have HC:=Hi hc;clear sX uh hd ur qn i1 h2 vJ hlen hvc sW hp PK2 yI hc;have HLW:Hid (∀j,a1+(pos+n)<=j->j<k2->AI s j<128):=Hi (fun j h1 h2=>by have:=ue.o;omega);have HQRD:Hid (∀m,QR t w.heap.size W3 acc (pos+n) (wn.drewN m)):=Hi (fun m=>qu.drewN m);by_cases c65:v=65533
     ·have hn3:n=3:=by have:=wM.o;unfold D4 cont at this;omega
      have t1:((v:Int)==65533)=true:=beq_of_eq (by omega);have t2:((v:Int)==10)=false:=AD (by omega);have t3:((v:Int)==(q:Int))=false:=AD (by omega);have t4:((v:Int)==92)=false:=AD (by omega);have HF:Hid (R=Cz s a q k2 (acc++Lib.encodeRune v)):=Hi (by rw[tV.o,vR.o];exact Rt tN xE.o (by omega) (by omega) (by omega));obtain⟨M,hM⟩:∃M,M=min s.size (k+3):=⟨_,rfl⟩;obtain⟨u,hu⟩:∃u,u=s.extract k M:=⟨_,rfl⟩;have us:u.size<=3:=by rw[hu,l8];omega
      have CO:Hid (∀W,Ag W->Calls prog 55 #[.string u] W fun e w'=>e= .returned (.int .i64 (-1))/\Below W.heap.size W w'):=Hi (fun W hW=>by
       rw[hu,hM];exact fV _ (-1) W (by rw[<-hM,<-hu];omega) (Hi (ae (by have:=wM.o;rw[hn3]at this;exact this))) hW)
      have w6:min (s.size:Int) ((k:Int)+3)=(M:Int):=by omega
      have w1:IntKind.i64.wrap ((k:Int)+3)=(k:Int)+3:=pt _ (by omega);have w9:(Instr.slice 9 (.string s) (some (.int .i64 (k:Int))) (some (.int .i64 (M:Int))) none).run prog wn.drew= .ok (.string u) wn.drew:=by
       have:=pW (P:=prog) (w:=wn.drew) 9 s .i64 .i64 (k:Int) (M:Int) mS (by omega) (by omega) (by omega);rw[show((k:Int)).toNat=k by omega,show((M:Int)).toNat=M by omega,<-hu]at this;exact this
      clear hM hu us;clear c65 hn3
      go_wp2_with (go_at_call 89;refine(Cc _ _ RL _).mono ?_;rintro e w' ⟨rfl,rfl⟩)
      refine nr 17 (by kernel_rfl) (by kernel_rfl) ?_;simp only[nL,ny,nZ,nI];change wpStill _ _ wn.drew _ _ _
      repeat still_step
      refine pS ?_;change wpList _ _ _ _ _ wn.drew;clear w6 w1 w9;have LD:Ag wn.drew:=tI.o.drew.ld
      go_wp2_with (go_at_call 55;(with_reducible refine(CO.o _ LD).mono ?_))
      rintro e W2 ⟨rfl,b3⟩;have wa:=qu.call b3;have q5:=yN.o W2 wa.Ac;have cm0:=q5.st.c0;have cm1:=q5.st.c1;have tM:Lib.IsBuilderF 145 5 (w.heap.size+1+1) (w.heap.size+1+1) (Lib.byteCells acc) W2:=wa.ZI;have sO:w.heap.size+1+1<=W2.heap.size:=by have:=q5.sz;omega
      clear b3 LD HB HN q5
      go_wp2_with (go_at_call 93;refine(GH (w.heap.size+1+1) (w.heap.size+1+1) (Lib.byteCells acc) _ (by omega) (by omega) _ tM (by rw[Lib.byteCells_length];omega) sO).mono ?_)
      rintro e' W1 ⟨rfl,b0,b1,b2⟩;have xH:=wa.write (n:=0) (x:=Lib.encodeRune v) (Lib.byteCells_encodeRune v) b0 b1 b2;clear b0 b1 b2;go_wp2;go_roundw
      case rel=>exact⟨k2,pos+n,acc++Lib.encodeRune v,rfl,PT2,by have:=ue.o;omega,k2s,by rw[l6];have:=rz.o;have:=vR.o;omega,HLW.o,HF.o,xH⟩
      case measure=>rw[Bo xH.it,I1.o];omega
     have t1:((v:Int)==65533)=false:=AD (by omega);by_cases xO:v=10
     ·have t2:((v:Int)==10)=true:=beq_of_eq (by omega);have HF:Hid (R= .err a 31):=Hi (by rw[tV.o];exact fo tN xE.o (by omega));clear xO
      go_wp2_with (go_at_call 89;refine(Cc _ _ RL _).mono ?_;rintro e w' ⟨rfl,rfl⟩)
      go_quiet (fail)
      go_wp2_with fail
      generalize hWd:wn.drewN _=Wd;have QD:Hid (QW w b s a K te pe Wd):=Hi (by rw[<-hWd];exact HQD.o _);clear hWd;obtain⟨rO,rX,rT,re,rP,rh,rj⟩:=QD.o.t0.cs;obtain⟨rW,rV,rY,rQ,rM,rN,rS⟩:=QD.o.t0.fs;obtain⟨rq,qo,rA,rB,rI,rC,qx⟩:=QD.o.t1.cs;obtain⟨ru,sL,sM,sI,sN,sG,sF⟩:=QD.o.t1.fs;have c1:=QD.o.st.c1
      go_region
      go_wp2_with fail
      refine lS (v:= .tuple #[Ai K ⟨#[]⟩ ⟨#[]⟩ 0 a 0 false,.int .i64 a,.int .i64 31]) ?_ rfl (AK.er HF.o (AE (QD.o.Ac) (nR _) _ _ _ _ _ _ _).drew);simp only[results,results58];go_simp
      try rfl
     have t2:((v:Int)==10)=false:=AD (by omega);by_cases cq:v=q
     ·have t3:((v:Int)==(q:Int))=true:=beq_of_eq (by omega);have tQ:n=1:=by have:=HV.o;omega
      have sZ:k2=k+1:=by have:=vR.o;omega
      by_cases uy:∃h:k2<s.size,(s[k2].toNat:Int)=(q:Int)
      ·obtain⟨qm,qR⟩:=uy;have li:(k2:Int)<s.size:=by omega
       have t5:((s[k2].toNat:Int)==(q:Int))=true:=beq_of_eq qR;obtain⟨k3,ux⟩:∃k3,k3=k2+1:=⟨_,rfl⟩;have ek3:(k2:Int)+1=k3:=by omega
       have HF:Hid (R=Cz s a q k3 (acc++ [q.toUInt8])):=Hi (by
        rw[tV.o,ux,sZ];subst sZ;exact Zm tN xE.o (by omega) (by omega) ⟨by rw[AP s _ qm];exact qR,qm⟩)
       have yG:Hid (∀j,a1+(pos+n)<=j->j<k3->AI s j<128):=Hi (fun j h1 h2=>by
        have:=ue.o;obtain rfl:j=k2:=by omega
        rw[AP s _ qm];omega)
       have HK3:=Hi ux;clear qR ux sZ tQ cq
       go_wp2_with (go_at_call 89;refine(Cc _ _ RL _).mono ?_;rintro e w' ⟨rfl,rfl⟩)
       go_quiet (fail)
       go_wp2_with (go_at_call 90;refine(PY (w.heap.size+1+1) (w.heap.size+1+1) (Lib.byteCells acc) q _ (HB.o _) (by rw[Lib.byteCells_length];omega) (HN.o _)).mono ?_)
       rintro e' W1 ⟨rfl,b0,b1,b2⟩;have xH:=qu.write (x:= [q.toUInt8]) (by have:q.toUInt8.toNat=q:=lE q (by omega);simp[Lib.byteCells,this]) b0 b1 b2;clear b0 b1 b2;go_wp2;go_roundw
       case rel=>exact⟨k3,pos+n,acc++ [q.toUInt8],rfl,PT2,by have:=ue.o;have:=HK3.o;omega,by have:=HK3.o;omega,by rw[l6];have:=HK3.o;have:=vR.o;simp;omega,yG.o,HF.o,xH⟩
       case measure=>rw[Bo xH.it,I1.o];omega
      have xF:¬(AI s (k+1)=q/\k+1<s.size):=by
       rintro⟨h1,h2⟩;refine uy ⟨by omega,?_⟩;subst sZ;rw[AP s _ h2]at h1;exact h1
      have HND:=Hi xF;have AB:¬((k2:Int)<s.size)\/∃h:k2<s.size,(k2:Int)<s.size/\((s[k2].toNat:Int)==(q:Int))=false:=by
       by_cases h:k2<s.size
       ·exact .inr ⟨h,by omega,AD (fun h2=>uy ⟨h,h2⟩)⟩
       ·exact .inl (by omega)
      clear xF uy;by_cases hlong:q=39/\1000<acc.length
      ·have HF:Hid (R= .err a 35):=Hi (by rw[tV.o];exact WC tN xE.o (by omega) (by omega) HND.o hlong);have kk2:((K:Int)==2)=true:=beq_of_eq (by rw[HK.o,hlong.1];rfl);have kl:decide (1000<acc.length)=true:=lU hlong.2;have kl2:(1000:Int)<acc.length:=by omega
       clear sZ tQ cq;rcases AB with li|⟨qm,li,t5⟩
       all_goals
        go_wp2_with (go_at_call 89;refine(Cc _ _ RL _).mono ?_;rintro e w' ⟨rfl,rfl⟩)
        go_quiet (fail)
        go_wp2_with (go_at_call 91;refine(Tryz.Builder_String_any_k (w.heap.size+1+1) (w.heap.size+1+1) acc _ (HB.o _) (HN.o _)).mono ?_)
        rintro e' W1 ⟨rfl,b0,b1,b2⟩;have Q1:Hid (QW w b s a K te pe W1):=Hi (yN.o W1 (qu.Ac.trans (⟨b1.os,b1.tape,b1.output,b1.size,b1.block⟩:Below _ wn W1)));clear b0 b1 b2;obtain⟨rO,rX,rT,re,rP,rh,rj⟩:=Q1.o.t0.cs;obtain⟨rW,rV,rY,rQ,rM,rN,rS⟩:=Q1.o.t0.fs;obtain⟨rq,qo,rA,rB,rI,rC,qx⟩:=Q1.o.t1.cs;obtain⟨ru,sL,sM,sI,sN,sG,sF⟩:=Q1.o.t1.fs
        go_wp2_with fail
        generalize hWd:(W1.setCell _ _).setCell _ _=Wd;have T1:Hid (Hd Wd (w.heap.size+1) K ⟨acc.toArray⟩ ⟨#[]⟩ 0 a k2 false):=Hi (by rw[<-hWd];exact Q1.o.t1.jI _ _);have T0:Hid (Gf Wd w.heap.size):=Hi ⟨by rw[<-hWd];exact(oB _ _ _ _ (by show w.heap.size≠w.heap.size+1;omega)).trans ((oB _ _ _ _ (by show w.heap.size≠w.heap.size+1;omega)).trans Q1.o.t0.h)⟩;have S1:Hid (St Wd b s a):=Hi ⟨by rw[<-hWd];exact(oB _ _ _ _ (by show b≠w.heap.size+1;omega)).trans ((oB _ _ _ _ (by show b≠w.heap.size+1;omega)).trans Q1.o.st.h)⟩;have BD:Hid (Below w.heap.size w Wd):=Hi (by rw[<-hWd];exact MJ Q1.o.Ac (mO _) _ _);clear hWd rO rX rT re rP rh rj rq qo rA rB rI rC qx rW rV rY rQ rM rN rS ru sL sM sI sN sG sF;obtain⟨rO,rX,rT,re,rP,rh,rj⟩:=T0.o.cs;obtain⟨rW,rV,rY,rQ,rM,rN,rS⟩:=T0.o.fs;obtain⟨rq,qo,rA,rB,rI,rC,qx⟩:=T1.o.cs;obtain⟨ru,sL,sM,sI,sN,sG,sF⟩:=T1.o.fs;have c1:=S1.o.c1
        go_region
        go_wp2_with fail
        refine lS (v:= .tuple #[Ai K ⟨acc.toArray⟩ ⟨#[]⟩ 0 a k2 false,.int .i64 a,.int .i64 35]) ?_ rfl (AK.er HF.o (AE (BD.o) (nR _) _ _ _ _ _ _ _).drew);simp only[results,results58];go_simp
        try rfl
      ·have HF:Hid (R= .ok K ⟨acc.toArray⟩ ⟨#[]⟩ 0 a k2):=Hi (by rw[tV.o,HK.o,sZ];exact aK tN xE.o (by omega) (by omega) HND.o hlong);have KL:(((K:Int)==2)=false)\/(((K:Int)==2)=true/\decide (1000<acc.length)=false/\¬((1000:Int)<acc.length)):=by
        rw[HK.o];rcases hq.o with h|h|h
        ·right;subst h;exact⟨rfl,lO (by omega),by omega⟩
        ·left;subst h;rfl
        ·left;subst h;rfl
       clear sZ tQ hlong cq;rcases KL with kk2|⟨kk2,kl1,kl2⟩
       all_goals
        rcases AB with li|⟨qm,li,t5⟩
        all_goals
         go_wp2_with (go_at_call 89;refine(Cc _ _ RL _).mono ?_;rintro e w' ⟨rfl,rfl⟩)
         go_quiet (fail)
         go_wp2_with (go_at_call 91;refine(Tryz.Builder_String_any_k (w.heap.size+1+1) (w.heap.size+1+1) acc _ (HB.o _) (HN.o _)).mono ?_)
         rintro e' W1 ⟨rfl,b0,b1,b2⟩;have Q1:Hid (QW w b s a K te pe W1):=Hi (yN.o W1 (qu.Ac.trans (⟨b1.os,b1.tape,b1.output,b1.size,b1.block⟩:Below _ wn W1)));clear b0 b1 b2;obtain⟨rO,rX,rT,re,rP,rh,rj⟩:=Q1.o.t0.cs;obtain⟨rW,rV,rY,rQ,rM,rN,rS⟩:=Q1.o.t0.fs;obtain⟨rq,qo,rA,rB,rI,rC,qx⟩:=Q1.o.t1.cs;obtain⟨ru,sL,sM,sI,sN,sG,sF⟩:=Q1.o.t1.fs
         go_wp2_with fail
         refine lS (v:= .tuple #[Ai K ⟨acc.toArray⟩ ⟨#[]⟩ 0 a k2 false,.int .i64 0,.int .i64 0]) ?_ rfl (AK.ok HF.o (AE (MJ Q1.o.Ac (mO _) _ _) (nR _) _ _ _ _ _ _ _));simp only[results,results58];go_simp
         try rfl
     have t3:((v:Int)==(q:Int))=false:=AD (by omega);by_cases c92:v=92
     ·have t4:((v:Int)==92)=true:=beq_of_eq (by omega);have tQ:n=1:=by have:=HV.o;omega
      have sZ:k2=k+1:=by have:=vR.o;omega
      by_cases uy:∃h:k2<s.size,(s[k2].toNat:Int)=10
      ·obtain⟨qm,qR⟩:=uy;have li:(k2:Int)<s.size:=by omega
       have t5:((s[k2].toNat:Int)==10)=true:=beq_of_eq qR;obtain⟨k3,ux⟩:∃k3,k3=k2+1:=⟨_,rfl⟩;have ek3:(k2:Int)+1=k3:=by omega
       have HF:Hid (R=Cz s a q k3 acc):=Hi (by
        rw[tV.o,ux,sZ];subst sZ;exact YJ tN xE.o (by omega) (by omega) (by rw[AP s _ qm];exact qR))
       have yG:Hid (∀j,a1+(pos+n)<=j->j<k3->AI s j<128):=Hi (fun j h1 h2=>by
        have:=ue.o;obtain rfl:j=k2:=by omega
        rw[AP s _ qm];omega)
       have HK3:=Hi ux;clear qR ux sZ tQ c92
       go_wp2_with (go_at_call 89;refine(Cc _ _ RL _).mono ?_;rintro e w' ⟨rfl,rfl⟩)
       go_quiet (fail)
       go_wp2;go_roundw
       case rel=>exact⟨k3,pos+n,acc,rfl,PT2,by have:=ue.o;have:=HK3.o;omega,by have:=HK3.o;omega,by have:=HK3.o;have:=vR.o;omega,yG.o,HF.o,HQRD.o _⟩
       case measure=>rw[Bo (HQRD.o _).it,I1.o];omega
      have xF:AI s (k+1)≠10:=by
       intro h1;subst sZ;rcases ls (k+1) s.size with h2|h2
       ·exact uy ⟨h2,by rw[AP s _ h2]at h1;exact h1⟩
       ·rw[Ax s _ h2]at h1;omega
      have HND:=Hi xF;have AB:¬((k2:Int)<s.size)\/∃h:k2<s.size,(k2:Int)<s.size/\((s[k2].toNat:Int)==10)=false:=by
       by_cases h:k2<s.size
       ·exact .inr ⟨h,by omega,AD (fun h2=>uy ⟨h,h2⟩)⟩
       ·exact .inl (by omega)
      clear xF uy;have wh:∀W,W.cell? ⟨8,0,none⟩=some (.iface te pe)->Calls prog 92 #[.string s,.int .i64 k2] W (Br (FQ s k) W):=fun W hW=>Sr s k k2 W hs (Hi sZ) k2s te pe (Hi hW);have E6:Hid (∀n,(wn.drewN n).cell? ⟨8,0,none⟩=some (.iface te pe)):=Hi (fun n=>(HQD.o n).e6);cases uP:FQ s k with
      |none=>
       rw[uP]at wh;have CE:Hid (∀W,W.cell? ⟨8,0,none⟩=some (.iface te pe)->Calls prog 92 #[.string s,.int .i64 k2] W fun e w'=>e= .returned (.tuple #[.int .i32 0,.int .i64 0,.bool false])/\Below W.heap.size W w'):=Hi wh;have HF:Hid (R= .err k 32):=Hi (by rw[tV.o];exact fh tN xE.o (by omega) (by omega) HND.o uP);clear wh uP sZ tQ c92;rcases AB with li|⟨qm,li,t5⟩
       all_goals
        go_wp2_with (go_at_call 89;refine(Cc _ _ RL _).mono ?_;rintro e w' ⟨rfl,rfl⟩)
        go_quiet (fail)
        go_wp2_with (go_at_call 92;(with_reducible refine(CE.o _ (E6.o _)).mono ?_))
        rintro e' W2 ⟨rfl,b3⟩;have wa:=qu.XW b3;have Q5:Hid (QW w b s a K te pe W2):=Hi (yN.o W2 wa.Ac);clear b3 wa;obtain⟨rO,rX,rT,re,rP,rh,rj⟩:=Q5.o.t0.cs;obtain⟨rW,rV,rY,rQ,rM,rN,rS⟩:=Q5.o.t0.fs;obtain⟨rq,qo,rA,rB,rI,rC,qx⟩:=Q5.o.t1.cs;obtain⟨ru,sL,sM,sI,sN,sG,sF⟩:=Q5.o.t1.fs
        go_wp2_with fail
        refine lS (v:= .tuple #[Ai K ⟨#[]⟩ ⟨#[]⟩ 0 a 0 false,.int .i64 k,.int .i64 32]) ?_ rfl (AK.er HF.o (AE (Q5.o.Ac) (nR _) _ _ _ _ _ _ _));simp only[results,results58];go_simp
        try rfl
      |some xt=>
       obtain⟨x,t2⟩:=xt;rw[uP]at wh;have CE:Hid (∀W,W.cell? ⟨8,0,none⟩=some (.iface te pe)->Calls prog 92 #[.string s,.int .i64 k2] W fun e w'=>e= .returned (.tuple #[.int .i32 x,.int .i64 t2,.bool true])/\Below W.heap.size W w'):=Hi wh;have HF:Hid (R=Cz s a q t2 (acc++Lib.encodeRune x)):=Hi (by rw[tV.o];exact aF tN xE.o (by omega) (by omega) HND.o uP);have g1:=Hy uP;have g2:=WX uP;have HG3:=Hi (Xy uP);have hx:=g1.2.2;unfold Ah at hx;have qo:x<=1114111:=by omega
       have t2s:t2<=s.size:=by omega
       have t2k:k+1<t2:=g1.1;have HT2K:Hid (k2<t2):=Hi (by omega);have yG:Hid (∀j,a1+(pos+n)<=j->j<t2->AI s j<128):=Hi (fun j h1 h2=>HG3.o j (by have:=ue.o;omega) h2);have HG2:=Hi g2;have AB2:∃h:k2<s.size,(k2:Int)<s.size/\((s[k2].toNat:Int)==10)=false:=by
        rcases AB with h|h
        ·omega
        ·exact h
       obtain⟨qm,li,t5⟩:=AB2;clear wh uP sZ tQ g1 g2 hx AB c92
       go_wp2_with (go_at_call 89;refine(Cc _ _ RL _).mono ?_;rintro e w' ⟨rfl,rfl⟩)
       go_quiet (fail)
       go_wp2_with (go_at_call 92;(with_reducible refine(CE.o _ (E6.o _)).mono ?_))
       rintro e' W2 ⟨rfl,b3⟩;have wa:=qu.XW b3;have q5:=yN.o W2 wa.Ac;have cm0:=q5.st.c0;have cm1:=q5.st.c1;have tM:Lib.IsBuilderF 145 5 (w.heap.size+1+1) (w.heap.size+1+1) (Lib.byteCells acc) W2:=wa.ZI;have sO:w.heap.size+1+1<=W2.heap.size:=by have:=q5.sz;omega
       clear b3 HB HN q5
       go_wp2_with (go_at_call 93;refine(GH (w.heap.size+1+1) (w.heap.size+1+1) (Lib.byteCells acc) _ (by omega) (by omega) _ tM (by rw[Lib.byteCells_length];omega) sO).mono ?_)
       rintro e' W1 ⟨rfl,b0,b1,b2⟩;have xH:=wa.write (n:=0) (x:=Lib.encodeRune x) (Lib.byteCells_encodeRune x) b0 b1 b2;clear b0 b1 b2;go_wp2;go_roundw
       case rel=>exact⟨t2,pos+n,acc++Lib.encodeRune x,rfl,PT2,by have:=ue.o;have:=HT2K.o;omega,t2s,by rw[l6];have:=HG2.o;omega,yG.o,HF.o,xH⟩
       case measure=>rw[Bo xH.it,I1.o];omega
     have t4:((v:Int)==92)=false:=AD (by omega);have HF:Hid (R=Cz s a q k2 (acc++Lib.encodeRune v)):=Hi (by rw[tV.o,vR.o];exact Rt tN xE.o (by omega) (by omega) (by omega))
     go_wp2_with (go_at_call 89;refine(Cc _ _ RL _).mono ?_;rintro e w' ⟨rfl,rfl⟩)
     go_quiet (fail)
     go_wp2_with (go_at_call 93;refine(GH (w.heap.size+1+1) (w.heap.size+1+1) (Lib.byteCells acc) _ (by omega) (by omega) _ (HB.o _) (by rw[Lib.byteCells_length];omega) (HN.o _)).mono ?_)
     rintro e' W1 ⟨rfl,b0,b1,b2⟩;have xH:=qu.write (x:=Lib.encodeRune v) (Lib.byteCells_encodeRune v) b0 b1 b2;clear b0 b1 b2;go_wp2;go_roundw
     case rel=>exact⟨k2,pos+n,acc++Lib.encodeRune v,rfl,PT2,by have:=ue.o;omega,k2s,by rw[l6];have:=rz.o;have:=vR.o;omega,HLW.o,HF.o,xH⟩
     case measure=>rw[Bo xH.it,I1.o];omega
    ·have hd:Utf8.decode t pos=(65533,1):=by rw[HT.o,Nk,<-hp];exact ur
     obtain⟨v,hv⟩:∃v:Nat,v=65533:=⟨_,rfl⟩;rw[<-hv]at hd;obtain⟨wn,uw,qu⟩:=tO.next qc 1 v hd;have qn:=yN.o wn qu.Ac;have cn0:=qn.st.c0;have cn1:=qn.st.c1;have tI:=Hi qn;have RL:Hid (Lib.runeLen v=(3:Nat)):=Hi (by rw[hv];rfl);have t1:((v:Int)==65533)=true:=beq_of_eq (by omega);have v11:v<=1114111:=by omega
     have kk:¬((k:Int)<k):=by omega
     have HF:Hid (R= .err k 30):=Hi (by rw[tV.o];exact bI tN (LU uE));have uH:=Hi uE;have HHP:=Hi hp;clear hd ur uE hv hp hc yI qn;obtain⟨M,hM⟩:∃M,M=min s.size (k+3):=⟨_,rfl⟩;obtain⟨u,hu⟩:∃u,u=s.extract k M:=⟨_,rfl⟩;have us:u.size<=3:=by rw[hu,l8];omega
     have CO:Hid (∀W,Ag W->Calls prog 55 #[.string u] W fun e w'=>e= .returned (.int .i64 (0))/\Below W.heap.size W w'):=Hi (fun W hW=>by
      rw[hu,hM];exact fV _ (0) W (by rw[<-hM,<-hu];omega) (Hi (fI uH.o tN)) hW)
     have w6:min (s.size:Int) ((k:Int)+3)=(M:Int):=by omega
     have w1:IntKind.i64.wrap ((k:Int)+3)=(k:Int)+3:=pt _ (by omega);have w9:(Instr.slice 9 (.string s) (some (.int .i64 (k:Int))) (some (.int .i64 (M:Int))) none).run prog wn.drew= .ok (.string u) wn.drew:=by
      have:=pW (P:=prog) (w:=wn.drew) 9 s .i64 .i64 (k:Int) (M:Int) mS (by omega) (by omega) (by omega);rw[show((k:Int)).toNat=k by omega,show((M:Int)).toNat=M by omega,<-hu]at this;exact this
     clear hM hu us
     skip
     go_wp2_with (go_at_call 89;refine(Cc _ _ RL _).mono ?_;rintro e w' ⟨rfl,rfl⟩)
     refine nr 17 (by kernel_rfl) (by kernel_rfl) ?_;simp only[nL,ny,nZ,nI];change wpStill _ _ wn.drew _ _ _
     repeat still_step
     refine pS ?_;change wpList _ _ _ _ _ wn.drew;clear w6 w1 w9;have LD:Ag wn.drew:=tI.o.drew.ld
     go_wp2_with (go_at_call 55;(with_reducible refine(CO.o _ LD).mono ?_))
     rintro e W2 ⟨rfl,b3⟩;have wa:=qu.call b3;have q5:=yN.o W2 wa.Ac;have Q5:Hid (QW w b s a K te pe W2):=Hi q5;clear b3 LD q5 wa;obtain⟨rO,rX,rT,re,rP,rh,rj⟩:=Q5.o.t0.cs;obtain⟨rW,rV,rY,rQ,rM,rN,rS⟩:=Q5.o.t0.fs;obtain⟨rq,qo,rA,rB,rI,rC,qx⟩:=Q5.o.t1.cs;obtain⟨ru,sL,sM,sI,sN,sG,sF⟩:=Q5.o.t1.fs
     go_wp2_with fail
     refine lS (v:= .tuple #[Ai K ⟨#[]⟩ ⟨#[]⟩ 0 a 0 false,.int .i64 k,.int .i64 30]) ?_ rfl (AK.er HF.o (AE (Q5.o.Ac) (nR _) _ _ _ _ _ _ _));simp only[results,results58];go_simp
     try rfl
  ·have yA:k=s.size:=by omega
   have HF:Hid (R= .err a 31):=Hi (by rw[tV.o];exact ZF (by omega));have uw:∀ty,(Instr.next (.pointer (some ⟨w.heap.size+3,0,none⟩)) true ty).run prog wr= .ok (.tuple #[.bool false]) wr:=fun ty=>run_next_end_at wr (w.heap.size+3) t pos ty tO.it qc;have Q5:Hid (QW w b s a K te pe wr):=Hi (yN.o wr tO.Ac);clear yA hz hp
   go_wp2_with fail
   obtain⟨rO,rX,rT,re,rP,rh,rj⟩:=Q5.o.t0.cs;obtain⟨rW,rV,rY,rQ,rM,rN,rS⟩:=Q5.o.t0.fs;obtain⟨rq,qo,rA,rB,rI,rC,qx⟩:=Q5.o.t1.cs;obtain⟨ru,sL,sM,sI,sN,sG,sF⟩:=Q5.o.t1.fs;have c1:=Q5.o.st.c1
   go_region
   go_wp2_with fail
   refine lS (v:= .tuple #[Ai K ⟨#[]⟩ ⟨#[]⟩ 0 a 0 false,.int .i64 a,.int .i64 31]) ?_ rfl (AK.er HF.o (AE (Q5.o.Ac) (nR _) _ _ _ _ _ _ _).drew);simp only[results,results58];go_simp
   try rfl
end Go.Proofs
