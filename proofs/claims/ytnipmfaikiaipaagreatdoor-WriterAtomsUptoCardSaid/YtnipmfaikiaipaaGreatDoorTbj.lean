import Derived.Test.YtnipmfaikiaipaaGreatDoorTbc
import Derived.BigRegion
set_option linter.unusedSimpArgs false
set_option maxRecDepth 1000000
set_option maxHeartbeats 40000000
namespace Go.Proofs
open Go.RowKit Go.Pf Go.Lx Go.Hb Go.Rb Go.Bg
theorem Yz (b:Nat) (s:ByteArray) (a q:Nat) (w:World) (hs:s.size<=100000000) (ha:a<s.size) (hq:Hid (q=39\/q=34\/q=96)) (hst:Hid (St w b s a)) (hL:Hid (Aj w)) (te:TypeId) (pe:Value) (h6:Hid (w.cell? ⟨8,0,none⟩=some (.iface te pe))) (Gx:Hid (Tryz.prog.globals.size<=w.heap.size)):
 Calls Tryz.prog 73 #[.pointer (some ⟨b,0,none⟩),.int .u8 q] w (AL (Br s a q (a+1) []) w):=by
 have hb:=hst.out.lt;have h6l:8<w.heap.size:=Lib.lt_of_cell h6.out;have k1:b<w.heap.size+1:=by omega
 have k2:b<w.heap.size+1+1:=by omega
 have k3:b<w.heap.size+1+1+1:=by omega
 obtain⟨R,hR⟩:∃R,R=Br s a q (a+1) []:=⟨_,rfl⟩;rw[<-hR];obtain⟨a1,ha1⟩:∃a1,a1=a+1:=⟨_,rfl⟩;rw[<-ha1]at hR;have ea:(a:Int)+1=a1:=by omega
 have a1le:a1<=s.size:=by omega
 obtain⟨t,ht⟩:∃t,t=s.extract a1 s.size:=⟨_,rfl⟩;have tz:t.size+a1=s.size:=by rw[ht,Of];omega
 have q96:q<=96:=by have:=hq.out;omega
 obtain⟨K,hK⟩:∃K,K=XE q:=⟨_,rfl⟩;have K7:K<=7:=by rw[hK];unfold XE;split<;>(try split)<;>omega
 have HR:=Hi hR;have HT:=Hi ht;have HTZ:=Hi tz;have HK:=Hi hK;have F0:=Hi ha1;have c0:=hst.out.c0;have c1:=hst.out.c1;clear hR ht tz hK ha1;go_enter Tryz.func73,Tryz.ntmps73
 go_upto_block 0 with fail
 generalize hW2:(w.alloc _).alloc _=W2;have sz2:W2.heap.size=w.heap.size+2:=by subst hW2;simp
 have bl2:Below w.heap.size w W2:=by subst hW2;exact((AH _ _).alloc (nR _) _).alloc (by simp) _
 have tk0:A8 W2 w.heap.size:=by
  refine⟨?_⟩;subst hW2;rw[Lib.alloc_old _ _ _ (by simp)];exact dk w _
 have tk1:F9 W2 (w.heap.size+1) (2:Nat) ⟨#[]⟩ ⟨#[]⟩ 0 a 0 false:=by
  refine⟨?_⟩;subst hW2;have:=dk (w.alloc (.cells (Ck 0) 30)) (.cells #[.int .i64 2,.string ⟨#[]⟩,.string ⟨#[]⟩,.int .u64 0,.int .i64 a,.int .i64 0,.bool false] 30);rw[show(w.alloc (.cells (Ck 0) 30)).heap.size=w.heap.size+1 by simp]at this;exact this
 have QK:∀k:Nat,F9 W2 (w.heap.size+1) k ⟨#[]⟩ ⟨#[]⟩ 0 a 0 false->k=K->QW w b s a K te pe W2:=fun k h1 h2=>
  ⟨tk0,h2▸h1,hst.out.below bl2,bl2,hL.out.below bl2,(bl2.cell (p:=⟨8,0,none⟩) h6l).trans h6.out,h6l,Gx.out,by omega⟩
 have QS:∀k:Nat,k=K->QW w b s a K te pe (W2.setCell ⟨w.heap.size+1,0,none⟩ (.int .i64 k)):=fun k h2=>by
  have bl3:=bl2.setCell (p:=⟨w.heap.size+1,0,none⟩) (by show w.heap.size<=w.heap.size+1;omega) (.int .i64 k);refine⟨⟨?_⟩,h2▸(tk1.eY k),hst.out.below bl3,bl3,hL.out.below bl3,(bl3.cell (p:=⟨8,0,none⟩) h6l).trans h6.out,h6l,Gx.out,by simp;omega⟩;exact(gW _ _ _ _ (by show w.heap.size≠w.heap.size+1;omega)).trans tk0.h
 obtain⟨x10,x11,x12,x13,x14,x15,x16⟩:=tk1.cs;have y10:=tk1.f 0;have TK1:=Hi tk1;have SZ2:=Hi sz2;have HQK:=Hi QK;have HQS:=Hi QS;clear hW2 sz2 tk1 QK QS tk0 bl2 c0 c1
 go_cut [21] (fun _ wx=>QW w b s a K te pe wx/\wx.heap.size=w.heap.size+2)
 case first=>
  rcases hq.out with rfl|rfl|rfl
  ·have t1:(((39:Nat):Int)==34)=false:=rfl;have t2:(((39:Nat):Int)==96)=false:=rfl;go_wp2;go_meet;exact⟨HQK.out 2 TK1.out (by rw[HK.out];rfl),SZ2.out⟩
  ·have t1:(((34:Nat):Int)==34)=true:=rfl;go_wp2;go_meet;exact⟨HQS.out 6 (by rw[HK.out];rfl),by simp;exact SZ2.out⟩
  ·have t1:(((96:Nat):Int)==34)=false:=rfl;have t2:(((96:Nat):Int)==96)=true:=rfl;go_wp2;go_meet;exact⟨HQS.out 7 (by rw[HK.out];rfl),by simp;exact SZ2.out⟩
 case rest=>
 clear x10 x11 x12 x13 x14 x15 x16 y10;obtain⟨hqw,sz⟩:=hcut;have c0:=hqw.st.c0;have c1:=hqw.st.c1;have HQW:=Hi hqw;have hwc:w.heap.size+2=wc.heap.size:=sz.symm;clear hqw;have SZC:=Hi sz;clear hwc;go_wp2;generalize hW3:wc.alloc _=W3;have SZ:Hid (W3.heap.size=w.heap.size+3):=Hi (by subst hW3;simp;exact SZC.out);have b3:Below (w.heap.size+2) wc W3:=by subst hW3;rw[<-SZC.out];exact(AH _ _).alloc (nR _) _
 have Q3:QW w b s a K te pe W3:=HQW.out.call hb b3;have MW:Hid (Lib.IsBuilderF 106 5 (w.heap.size+1+1) (w.heap.size+1+1) (Lib.byteCells []) W3):=Hi (by
  subst hW3;have:=Lib.IsBuilderF.of (Lib.fresh_isBuilder 106 5 wc);rw[show wc.heap.size=w.heap.size+1+1 from SZC.out]at this;exact this)
 have C0:W3.cell? ⟨b,0,none⟩=some (.string s):=Q3.st.c0;have C1:W3.cell? ⟨b,1,none⟩=some (.int .i64 a):=Q3.st.c1;have HQ3:=Hi Q3;have HW3:=Hi hW3;clear Q3 hW3 c0 c1 b3 sz;have hw:IntKind.i64.wrap (a1:Int)=(a1:Int):=gV _ (by omega);have hwe:IntKind.i64.wrap ((a:Int)+1)=(a1:Int):=by rw[ea];exact hw
 have w9:(Instr.slice 9 (.string s) (some (.int .i64 (a1:Int))) none none).run Tryz.prog W3.drew= .ok (.string t) W3.drew:=by
  have:=run_slice_string_l (P:=Tryz.prog) (w:=W3.drew) (t:=9) (s:=s) Tryz.underlying9 .i64 (a1:Int) (by omega) (by omega);rw[show((a1:Int)).toNat=a1 by omega,<-HT.out]at this;exact this
 refine wp_region_still_tail 10 (by kernel_rfl) (by kernel_rfl) ?_;simp only[List.take_succ_cons,List.take_zero,List.drop_succ_cons,gU];change wpStill _ _ W3.drew _ _ _
 repeat still_step
 refine wpStill_nil ?_;change wpList _ _ _ _ _ W3.drew;clear hw hwe w9;have sz3:=SZ.out;go_wp2;clear sz3;have HQr:∀W,Below (w.heap.size+1+1) W3 W->QW w b s a K te pe W:=fun W h=>HQ3.out.call hb h;have HQR:=Hi HQr;clear HQr
 go_loopw [9] (fun skip wr=>∃(k pos:Nat) (acc:List UInt8),skip= .int .i64 k/\pos<=t.size/\a1+pos<=k/\k<=s.size/\acc.length<=k/\(∀j,a1+pos<=j->j<k->AE s j<128)/\R=Br s a q k acc/\QR t w.heap.size W3 acc pos wr) (fun _ wr=>t.size-wr.iterPos (w.heap.size+3))
 case atStart=>
  have hi:(W3.drew.iter t 0).heap[w.heap.size+3]? =some (.stringIter t 0):=by
   have:=World.iter_heap W3.drew t 0;rw[<-SZ.out];simpa using this
  exact⟨a1,0,[],rfl,by omega,by omega,a1le,by simp,fun j h1 h2=>by omega,HR.out,MW.out.alloc _,hi,((AH (w.heap.size+1+1) W3).drew).alloc (by have:=SZ.out;show w.heap.size+1+1<=W3.heap.size;omega) _⟩
 case round=>
  obtain⟨k,pos,acc,rfl,hpt,hpk,hks,hal,hlow,hinv,hq1⟩:=hrel;have HINV:=Hi hinv;have HLOW:=Hi hlow;clear hinv hlow;obtain⟨p,hp⟩:∃p,p=a1+pos:=⟨_,rfl⟩;have ep:(pos:Int)+(a1:Int)=p:=by omega
  have hz:=HTZ.out;by_cases hpl:pos<t.size
  ·by_cases hpk2:p<k
   ·have hps:p<s.size:=by omega
    have hb128:=HLOW.out p (by omega) hpk2;obtain⟨c,hc⟩:∃c:Nat,AE s p=c:=⟨s[p].toNat,AO s p hps⟩;have hd:Utf8.decode t pos=(c,1):=by
     have hcv:=FV hps hb128;rw[HT.out,Mo,<-hp];rcases E5 s p hps with⟨v,n,h1,h2⟩|⟨h1,_⟩
     ·have:=h1.unique hcv;rw[h2];exact Prod.ext (by show v=c;omega) (by show n=1;omega)
     ·exact absurd hcv (h1 _ _)
    obtain⟨wn,hnx,hq2⟩:=hq1.next hpl 1 c hd;have qn:=HQR.out wn hq2.Ad;have cn0:=qn.st.c0;have cn1:=qn.st.c1;have i1:=BJ hq1.it;have i2:=BJ hq2.it;have I:=Hi (show t.size-wn.iterPos (w.heap.size+3)<t.size-wr.iterPos (w.heap.size+3) by rw[i1,i2];omega);have hlt:(p:Int)<k:=by omega
    have HLOW2:Hid (∀j,a1+(pos+1)<=j->j<k->AE s j<128):=Hi (fun j h1 h2=>HLOW.out j (by omega) h2);have HP:=Hi hp;have ps:pos+1<=t.size:=by omega
    have pk:a1+(pos+1)<=k:=by omega
    clear i1 i2 hd hc hp hb128 qn hz;go_wp2;go_roundw
    case rel=>exact⟨k,pos+1,acc,rfl,ps,pk,hks,hal,HLOW2.out,HINV.out,hq2⟩
    case measure=>exact I.out
   ·obtain rfl:k=p:=by omega
    rename_i k _;clear hpk2;have hps:k<s.size:=by omega
    obtain⟨c,hc⟩:∃c:Nat,c=s[k].toNat:=⟨_,rfl⟩;have hb0:AE s k=(c:Int):=by rw[AO s k hps,hc]
    rcases E5 s k hps with⟨v,n,hcv,hdk⟩|⟨hno,hdk⟩
    ·have hcd:=Ku hcv;have hd:Utf8.decode t pos=(v,n):=by rw[HT.out,Mo,<-hp];exact hdk
     obtain⟨wn,hnx,hq2⟩:=hq1.next hpl n v hd;have qn:=HQR.out wn hq2.Ad;have cn0:=qn.st.c0;have cn1:=qn.st.c1;have i1:=BJ hq1.it;have h1:=hcv.size;have h2:=hcv.last;have hok:=hcv.pos.2;unfold AR at hok;have RL:Hid (Lib.runeLen v=n):=Hi (RH hcv);have hlen:=Iw hcv;have hvc:(v=c/\n=1)\/(128<=c/\128<=v):=by
      by_cases h:c<128
      ·have:=hcv.unique (FV hps (by omega));omega
      ·right;unfold B8 at hcv;omega
     obtain⟨k2,hk2⟩:∃k2,k2=k+n:=⟨_,rfl⟩;have ek:(k:Int)+(n:Int)=k2:=by omega
     have k2s:k2<=s.size:=by omega
     have HB:Hid (∀n,Lib.IsBuilderF 106 5 (w.heap.size+1+1) (w.heap.size+1+1) (Lib.byteCells acc) (wn.drewN n)):=Hi fun _=>hq2.MW;have HN:Hid (∀n,w.heap.size+1+1<=(wn.drewN n).heap.size):=Hi fun n=>by have:=qn.sz;show w.heap.size+1+1<=wn.heap.size;omega
     have HQD:Hid (∀n,QW w b s a K te pe (wn.drewN n)):=Hi (fun n=>qn.drewN n);have HQN:=Hi qn;have PT2:pos+n<=t.size:=by omega
     have PK2:a1+(pos+n)=k2:=by omega
     have I1:=Hi i1;have HPK2:=Hi PK2;have HOK:=Hi hcv.pos.2;have v11:v<=1114111:=by omega
     have kk:¬((k:Int)<k):=by omega
     have HCV:=Hi hcv;have HCD:=Hi hcd;have HV:=Hi hvc;have HK2:=Hi hk2;have HHP:=Hi hp;have HLEN:=Hi hlen;have HB0:=Hi hb0;have HC:=Hi hc;clear hcv hcd hd hdk qn i1 h2 hok hlen hvc hk2 hp PK2 hb0 hc;have HLW:Hid (∀j,a1+(pos+n)<=j->j<k2->AE s j<128):=Hi (fun j h1 h2=>by have:=HPK2.out;omega);have HQRD:Hid (∀m,QR t w.heap.size W3 acc (pos+n) (wn.drewN m)):=Hi (fun m=>hq2.drewN m);by_cases c65:v=65533
     ·have hn3:n=3:=by have:=HCV.out;unfold B8 cont at this;omega
      have t1:((v:Int)==65533)=true:=beq_of_eq (by omega);have t2:((v:Int)==10)=false:=AA (by omega);have t3:((v:Int)==(q:Int))=false:=AA (by omega);have t4:((v:Int)==92)=false:=AA (by omega);have HF:Hid (R=Br s a q k2 (acc++Lib.encodeRune v)):=Hi (by rw[HINV.out,HK2.out];exact Nn hps HCD.out (by omega) (by omega) (by omega));obtain⟨M,hM⟩:∃M,M=min s.size (k+3):=⟨_,rfl⟩;obtain⟨u,hu⟩:∃u,u=s.extract k M:=⟨_,rfl⟩;have us:u.size<=3:=by rw[hu,Of];omega
      have CO:Hid (∀W,Aj W->Calls Tryz.prog 70 #[.string u] W fun e w'=>e= .returned (.int .i64 (-1))/\Below W.heap.size W w'):=Hi (fun W hW=>by
       rw[hu,hM];exact aZ _ (-1) W (by rw[<-hM,<-hu];omega) (Hi (ZS (by have:=HCV.out;rw[hn3]at this;exact this))) hW)
      have w6:min (s.size:Int) ((k:Int)+3)=(M:Int):=by omega
      have w1:IntKind.i64.wrap ((k:Int)+3)=(k:Int)+3:=gV _ (by omega);have w9:(Instr.slice 9 (.string s) (some (.int .i64 (k:Int))) (some (.int .i64 (M:Int))) none).run Tryz.prog wn.drew= .ok (.string u) wn.drew:=by
       have:=eE (P:=Tryz.prog) (w:=wn.drew) 9 s .i64 .i64 (k:Int) (M:Int) Tryz.underlying9 (by omega) (by omega) (by omega);rw[show((k:Int)).toNat=k by omega,show((M:Int)).toNat=M by omega,<-hu]at this;exact this
      clear hM hu us;clear c65 hn3
      go_wp2_with (go_at_call 119;refine(Bh _ _ RL _).mono ?_;rintro e w' ⟨rfl,rfl⟩)
      refine wp_region_still_tail 17 (by kernel_rfl) (by kernel_rfl) ?_;simp only[List.take_succ_cons,List.take_zero,List.drop_succ_cons,gU];change wpStill _ _ wn.drew _ _ _
      repeat still_step
      refine wpStill_nil ?_;change wpList _ _ _ _ _ wn.drew;clear w6 w1 w9;have LD:Aj wn.drew:=HQN.out.drew.ld
      go_wp2_with (go_at_call 70;(with_reducible refine(CO.out _ LD).mono ?_))
      rintro e W2 ⟨rfl,b3⟩;have hq5:=hq2.call b3;have q5:=HQR.out W2 hq5.Ad;have cm0:=q5.st.c0;have cm1:=q5.st.c1;have HB2:Lib.IsBuilderF 106 5 (w.heap.size+1+1) (w.heap.size+1+1) (Lib.byteCells acc) W2:=hq5.MW;have HN2:w.heap.size+1+1<=W2.heap.size:=by have:=q5.sz;omega
      clear b3 LD HB HN q5
      go_wp2_with (go_at_call 58;refine(De (w.heap.size+1+1) (w.heap.size+1+1) (Lib.byteCells acc) _ (by omega) (by omega) _ HB2 (by rw[Lib.byteCells_length];omega) HN2).mono ?_)
      rintro e' W1 ⟨rfl,b0,b1,b2⟩;have hq3:=hq5.write (n:=0) (x:=Lib.encodeRune v) (Lib.byteCells_encodeRune v) b0 b1 b2;clear b0 b1 b2;go_wp2;go_roundw
      case rel=>exact⟨k2,pos+n,acc++Lib.encodeRune v,rfl,PT2,by have:=HPK2.out;omega,k2s,by rw[eR];have:=HLEN.out;have:=HK2.out;omega,HLW.out,HF.out,hq3⟩
      case measure=>rw[BJ hq3.it,I1.out];omega
     have t1:((v:Int)==65533)=false:=AA (by omega);by_cases c10:v=10
     ·have t2:((v:Int)==10)=true:=beq_of_eq (by omega);have HF:Hid (R= .err a 31):=Hi (by rw[HINV.out];exact WN hps HCD.out (by omega));clear c10
      go_wp2_with (go_at_call 119;refine(Bh _ _ RL _).mono ?_;rintro e w' ⟨rfl,rfl⟩)
      go_quiet (fail)
      go_wp2_with fail
      generalize hWd:wn.drewN _=Wd;have QD:Hid (QW w b s a K te pe Wd):=Hi (by rw[<-hWd];exact HQD.out _);clear hWd;obtain⟨x00,x01,x02,x03,x04,x05,x06⟩:=QD.out.t0.cs;obtain⟨y00,y01,y02,y03,y04,y05,y06⟩:=QD.out.t0.fs;obtain⟨x10,x11,x12,x13,x14,x15,x16⟩:=QD.out.t1.cs;obtain⟨y10,y11,y12,y13,y14,y15,y16⟩:=QD.out.t1.fs;have c1:=QD.out.st.c1
      go_region
      go_wp2_with fail
      refine AI (v:= .tuple #[AK K ⟨#[]⟩ ⟨#[]⟩ 0 a 0 false,.int .i64 a,.int .i64 31]) ?_ rfl (AL.er HF.out (AJ (QD.out.Ad) (nR _) _ _ _ _ _ _ _).drew);simp only[results,Tryz.results73];go_simp
      try rfl
     have t2:((v:Int)==10)=false:=AA (by omega);by_cases cq:v=q
     ·have t3:((v:Int)==(q:Int))=true:=beq_of_eq (by omega);have hn1:n=1:=by have:=HV.out;omega
      have hk21:k2=k+1:=by have:=HK2.out;omega
      by_cases hdb:∃h:k2<s.size,(s[k2].toNat:Int)=(q:Int)
      ·obtain⟨hd1,hd2⟩:=hdb;have li:(k2:Int)<s.size:=by omega
       have t5:((s[k2].toNat:Int)==(q:Int))=true:=beq_of_eq hd2;obtain⟨k3,hk3⟩:∃k3,k3=k2+1:=⟨_,rfl⟩;have ek3:(k2:Int)+1=k3:=by omega
       have HF:Hid (R=Br s a q k3 (acc++ [q.toUInt8])):=Hi (by
        rw[HINV.out,hk3,hk21];subst hk21;exact SI hps HCD.out (by omega) (by omega) ⟨by rw[AO s _ hd1];exact hd2,hd1⟩)
       have HLW3:Hid (∀j,a1+(pos+n)<=j->j<k3->AE s j<128):=Hi (fun j h1 h2=>by
        have:=HPK2.out;obtain rfl:j=k2:=by omega
        rw[AO s _ hd1];omega)
       have HK3:=Hi hk3;clear hd2 hk3 hk21 hn1 cq
       go_wp2_with (go_at_call 119;refine(Bh _ _ RL _).mono ?_;rintro e w' ⟨rfl,rfl⟩)
       go_quiet (fail)
       go_wp2_with (go_at_call 57;refine(ES (w.heap.size+1+1) (w.heap.size+1+1) (Lib.byteCells acc) q _ (HB.out _) (by rw[Lib.byteCells_length];omega) (HN.out _)).mono ?_)
       rintro e' W1 ⟨rfl,b0,b1,b2⟩;have hq3:=hq2.write (x:= [q.toUInt8]) (by have:q.toUInt8.toNat=q:=aQ q (by omega);simp[Lib.byteCells,this]) b0 b1 b2;clear b0 b1 b2;go_wp2;go_roundw
       case rel=>exact⟨k3,pos+n,acc++ [q.toUInt8],rfl,PT2,by have:=HPK2.out;have:=HK3.out;omega,by have:=HK3.out;omega,by rw[eR];have:=HK3.out;have:=HK2.out;simp;omega,HLW3.out,HF.out,hq3⟩
       case measure=>rw[BJ hq3.it,I1.out];omega
      have hnd:¬(AE s (k+1)=q/\k+1<s.size):=by
       rintro⟨h1,h2⟩;refine hdb ⟨by omega,?_⟩;subst hk21;rw[AO s _ h2]at h1;exact h1
      have HND:=Hi hnd;have AB:¬((k2:Int)<s.size)\/∃h:k2<s.size,(k2:Int)<s.size/\((s[k2].toNat:Int)==(q:Int))=false:=by
       by_cases h:k2<s.size
       ·exact .inr ⟨h,by omega,AA (fun h2=>hdb ⟨h,h2⟩)⟩
       ·exact .inl (by omega)
      clear hnd hdb;by_cases hlong:q=39/\1000<acc.length
      ·have HF:Hid (R= .err a 35):=Hi (by rw[HINV.out];exact PD hps HCD.out (by omega) (by omega) HND.out hlong);have kk2:((K:Int)==2)=true:=beq_of_eq (by rw[HK.out,hlong.1];rfl);have kl:decide (1000<acc.length)=true:=AN hlong.2;have kl2:(1000:Int)<acc.length:=by omega
       clear hk21 hn1 cq;rcases AB with li|⟨hd1,li,t5⟩
       all_goals
        go_wp2_with (go_at_call 119;refine(Bh _ _ RL _).mono ?_;rintro e w' ⟨rfl,rfl⟩)
        go_quiet (fail)
        go_wp2_with (go_at_call 47;refine(Tryz.Builder_String_any_k (w.heap.size+1+1) (w.heap.size+1+1) acc _ (HB.out _) (HN.out _)).mono ?_)
        rintro e' W1 ⟨rfl,b0,b1,b2⟩;have Q1:Hid (QW w b s a K te pe W1):=Hi (HQR.out W1 (hq2.Ad.trans (⟨b1.os,b1.tape,b1.output,b1.size,b1.block⟩:Below _ wn W1)));clear b0 b1 b2;obtain⟨x00,x01,x02,x03,x04,x05,x06⟩:=Q1.out.t0.cs;obtain⟨y00,y01,y02,y03,y04,y05,y06⟩:=Q1.out.t0.fs;obtain⟨x10,x11,x12,x13,x14,x15,x16⟩:=Q1.out.t1.cs;obtain⟨y10,y11,y12,y13,y14,y15,y16⟩:=Q1.out.t1.fs
        go_wp2_with fail
        generalize hWd:(W1.setCell _ _).setCell _ _=Wd;have T1:Hid (F9 Wd (w.heap.size+1) K ⟨acc.toArray⟩ ⟨#[]⟩ 0 a k2 false):=Hi (by rw[<-hWd];exact Q1.out.t1.de _ _);have T0:Hid (A8 Wd w.heap.size):=Hi ⟨by rw[<-hWd];exact(gW _ _ _ _ (by show w.heap.size≠w.heap.size+1;omega)).trans ((gW _ _ _ _ (by show w.heap.size≠w.heap.size+1;omega)).trans Q1.out.t0.h)⟩;have S1:Hid (St Wd b s a):=Hi ⟨by rw[<-hWd];exact(gW _ _ _ _ (by show b≠w.heap.size+1;omega)).trans ((gW _ _ _ _ (by show b≠w.heap.size+1;omega)).trans Q1.out.st.h)⟩;have BD:Hid (Below w.heap.size w Wd):=Hi (by rw[<-hWd];exact MI Q1.out.Ad (Nat.le_succ _) _ _);clear hWd x00 x01 x02 x03 x04 x05 x06 x10 x11 x12 x13 x14 x15 x16 y00 y01 y02 y03 y04 y05 y06 y10 y11 y12 y13 y14 y15 y16;obtain⟨x00,x01,x02,x03,x04,x05,x06⟩:=T0.out.cs;obtain⟨y00,y01,y02,y03,y04,y05,y06⟩:=T0.out.fs;obtain⟨x10,x11,x12,x13,x14,x15,x16⟩:=T1.out.cs;obtain⟨y10,y11,y12,y13,y14,y15,y16⟩:=T1.out.fs;have c1:=S1.out.c1
        go_region
        go_wp2_with fail
        refine AI (v:= .tuple #[AK K ⟨acc.toArray⟩ ⟨#[]⟩ 0 a k2 false,.int .i64 a,.int .i64 35]) ?_ rfl (AL.er HF.out (AJ (BD.out) (nR _) _ _ _ _ _ _ _).drew);simp only[results,Tryz.results73];go_simp
        try rfl
      ·have HF:Hid (R= .ok K ⟨acc.toArray⟩ ⟨#[]⟩ 0 a k2):=Hi (by rw[HINV.out,HK.out,hk21];exact Sv hps HCD.out (by omega) (by omega) HND.out hlong);have KL:(((K:Int)==2)=false)\/(((K:Int)==2)=true/\decide (1000<acc.length)=false/\¬((1000:Int)<acc.length)):=by
        rw[HK.out];rcases hq.out with h|h|h
        ·right;subst h;exact⟨rfl,AS (by omega),by omega⟩
        ·left;subst h;rfl
        ·left;subst h;rfl
       clear hk21 hn1 hlong cq;rcases KL with kk2|⟨kk2,kl1,kl2⟩
       all_goals
        rcases AB with li|⟨hd1,li,t5⟩
        all_goals
         go_wp2_with (go_at_call 119;refine(Bh _ _ RL _).mono ?_;rintro e w' ⟨rfl,rfl⟩)
         go_quiet (fail)
         go_wp2_with (go_at_call 47;refine(Tryz.Builder_String_any_k (w.heap.size+1+1) (w.heap.size+1+1) acc _ (HB.out _) (HN.out _)).mono ?_)
         rintro e' W1 ⟨rfl,b0,b1,b2⟩;have Q1:Hid (QW w b s a K te pe W1):=Hi (HQR.out W1 (hq2.Ad.trans (⟨b1.os,b1.tape,b1.output,b1.size,b1.block⟩:Below _ wn W1)));clear b0 b1 b2;obtain⟨x00,x01,x02,x03,x04,x05,x06⟩:=Q1.out.t0.cs;obtain⟨y00,y01,y02,y03,y04,y05,y06⟩:=Q1.out.t0.fs;obtain⟨x10,x11,x12,x13,x14,x15,x16⟩:=Q1.out.t1.cs;obtain⟨y10,y11,y12,y13,y14,y15,y16⟩:=Q1.out.t1.fs
         go_wp2_with fail
         refine AI (v:= .tuple #[AK K ⟨acc.toArray⟩ ⟨#[]⟩ 0 a k2 false,.int .i64 0,.int .i64 0]) ?_ rfl (AL.ok HF.out (AJ (MI Q1.out.Ad (Nat.le_succ _) _ _) (nR _) _ _ _ _ _ _ _));simp only[results,Tryz.results73];go_simp
         try rfl
     have t3:((v:Int)==(q:Int))=false:=AA (by omega);by_cases c92:v=92
     ·have t4:((v:Int)==92)=true:=beq_of_eq (by omega);have hn1:n=1:=by have:=HV.out;omega
      have hk21:k2=k+1:=by have:=HK2.out;omega
      by_cases hdb:∃h:k2<s.size,(s[k2].toNat:Int)=10
      ·obtain⟨hd1,hd2⟩:=hdb;have li:(k2:Int)<s.size:=by omega
       have t5:((s[k2].toNat:Int)==10)=true:=beq_of_eq hd2;obtain⟨k3,hk3⟩:∃k3,k3=k2+1:=⟨_,rfl⟩;have ek3:(k2:Int)+1=k3:=by omega
       have HF:Hid (R=Br s a q k3 acc):=Hi (by
        rw[HINV.out,hk3,hk21];subst hk21;exact On hps HCD.out (by omega) (by omega) (by rw[AO s _ hd1];exact hd2))
       have HLW3:Hid (∀j,a1+(pos+n)<=j->j<k3->AE s j<128):=Hi (fun j h1 h2=>by
        have:=HPK2.out;obtain rfl:j=k2:=by omega
        rw[AO s _ hd1];omega)
       have HK3:=Hi hk3;clear hd2 hk3 hk21 hn1 c92
       go_wp2_with (go_at_call 119;refine(Bh _ _ RL _).mono ?_;rintro e w' ⟨rfl,rfl⟩)
       go_quiet (fail)
       go_wp2;go_roundw
       case rel=>exact⟨k3,pos+n,acc,rfl,PT2,by have:=HPK2.out;have:=HK3.out;omega,by have:=HK3.out;omega,by have:=HK3.out;have:=HK2.out;omega,HLW3.out,HF.out,HQRD.out _⟩
       case measure=>rw[BJ (HQRD.out _).it,I1.out];omega
      have hnd:AE s (k+1)≠10:=by
       intro h1;subst hk21;rcases BY (k+1) s.size with h2|h2
       ·exact hdb ⟨h2,by rw[AO s _ h2]at h1;exact h1⟩
       ·rw[Am s _ h2]at h1;omega
      have HND:=Hi hnd;have AB:¬((k2:Int)<s.size)\/∃h:k2<s.size,(k2:Int)<s.size/\((s[k2].toNat:Int)==10)=false:=by
       by_cases h:k2<s.size
       ·exact .inr ⟨h,by omega,AA (fun h2=>hdb ⟨h,h2⟩)⟩
       ·exact .inl (by omega)
      clear hnd hdb;have CE0:∀W,W.cell? ⟨8,0,none⟩=some (.iface te pe)->Calls Tryz.prog 120 #[.string s,.int .i64 k2] W (BK (Dp s k) W):=fun W hW=>Sj s k k2 W hs (Hi hk21) k2s te pe (Hi hW);have E6:Hid (∀n,(wn.drewN n).cell? ⟨8,0,none⟩=some (.iface te pe)):=Hi (fun n=>(HQD.out n).e6);cases hes:Dp s k with
      |none=>
       rw[hes]at CE0;have CE:Hid (∀W,W.cell? ⟨8,0,none⟩=some (.iface te pe)->Calls Tryz.prog 120 #[.string s,.int .i64 k2] W fun e w'=>e= .returned (.tuple #[.int .i32 0,.int .i64 0,.bool false])/\Below W.heap.size W w'):=Hi CE0;have HF:Hid (R= .err k 32):=Hi (by rw[HINV.out];exact WQ hps HCD.out (by omega) (by omega) HND.out hes);clear CE0 hes hk21 hn1 c92;rcases AB with li|⟨hd1,li,t5⟩
       all_goals
        go_wp2_with (go_at_call 119;refine(Bh _ _ RL _).mono ?_;rintro e w' ⟨rfl,rfl⟩)
        go_quiet (fail)
        go_wp2_with (go_at_call 120;(with_reducible refine(CE.out _ (E6.out _)).mono ?_))
        rintro e' W2 ⟨rfl,b3⟩;have hq5:=hq2.WX b3;have Q5:Hid (QW w b s a K te pe W2):=Hi (HQR.out W2 hq5.Ad);clear b3 hq5;obtain⟨x00,x01,x02,x03,x04,x05,x06⟩:=Q5.out.t0.cs;obtain⟨y00,y01,y02,y03,y04,y05,y06⟩:=Q5.out.t0.fs;obtain⟨x10,x11,x12,x13,x14,x15,x16⟩:=Q5.out.t1.cs;obtain⟨y10,y11,y12,y13,y14,y15,y16⟩:=Q5.out.t1.fs
        go_wp2_with fail
        refine AI (v:= .tuple #[AK K ⟨#[]⟩ ⟨#[]⟩ 0 a 0 false,.int .i64 k,.int .i64 32]) ?_ rfl (AL.er HF.out (AJ (Q5.out.Ad) (nR _) _ _ _ _ _ _ _));simp only[results,Tryz.results73];go_simp
        try rfl
      |some xt=>
       obtain⟨x,t2⟩:=xt;rw[hes]at CE0;have CE:Hid (∀W,W.cell? ⟨8,0,none⟩=some (.iface te pe)->Calls Tryz.prog 120 #[.string s,.int .i64 k2] W fun e w'=>e= .returned (.tuple #[.int .i32 x,.int .i64 t2,.bool true])/\Below W.heap.size W w'):=Hi CE0;have HF:Hid (R=Br s a q t2 (acc++Lib.encodeRune x)):=Hi (by rw[HINV.out];exact Ss hps HCD.out (by omega) (by omega) HND.out hes);have g1:=Gp hes;have g2:=O4 hes;have HG3:=Hi (V2 hes);have hx:=g1.2.2;unfold AR at hx;have x11:x<=1114111:=by omega
       have t2s:t2<=s.size:=by omega
       have t2k:k+1<t2:=g1.1;have HT2K:Hid (k2<t2):=Hi (by omega);have HLW3:Hid (∀j,a1+(pos+n)<=j->j<t2->AE s j<128):=Hi (fun j h1 h2=>HG3.out j (by have:=HPK2.out;omega) h2);have HG2:=Hi g2;have AB2:∃h:k2<s.size,(k2:Int)<s.size/\((s[k2].toNat:Int)==10)=false:=by
        rcases AB with h|h
        ·omega
        ·exact h
       obtain⟨hd1,li,t5⟩:=AB2;clear CE0 hes hk21 hn1 g1 g2 hx AB c92
       go_wp2_with (go_at_call 119;refine(Bh _ _ RL _).mono ?_;rintro e w' ⟨rfl,rfl⟩)
       go_quiet (fail)
       go_wp2_with (go_at_call 120;(with_reducible refine(CE.out _ (E6.out _)).mono ?_))
       rintro e' W2 ⟨rfl,b3⟩;have hq5:=hq2.WX b3;have q5:=HQR.out W2 hq5.Ad;have cm0:=q5.st.c0;have cm1:=q5.st.c1;have HB2:Lib.IsBuilderF 106 5 (w.heap.size+1+1) (w.heap.size+1+1) (Lib.byteCells acc) W2:=hq5.MW;have HN2:w.heap.size+1+1<=W2.heap.size:=by have:=q5.sz;omega
       clear b3 HB HN q5
       go_wp2_with (go_at_call 58;refine(De (w.heap.size+1+1) (w.heap.size+1+1) (Lib.byteCells acc) _ (by omega) (by omega) _ HB2 (by rw[Lib.byteCells_length];omega) HN2).mono ?_)
       rintro e' W1 ⟨rfl,b0,b1,b2⟩;have hq3:=hq5.write (n:=0) (x:=Lib.encodeRune x) (Lib.byteCells_encodeRune x) b0 b1 b2;clear b0 b1 b2;go_wp2;go_roundw
       case rel=>exact⟨t2,pos+n,acc++Lib.encodeRune x,rfl,PT2,by have:=HPK2.out;have:=HT2K.out;omega,t2s,by rw[eR];have:=HG2.out;omega,HLW3.out,HF.out,hq3⟩
       case measure=>rw[BJ hq3.it,I1.out];omega
     have t4:((v:Int)==92)=false:=AA (by omega);have HF:Hid (R=Br s a q k2 (acc++Lib.encodeRune v)):=Hi (by rw[HINV.out,HK2.out];exact Nn hps HCD.out (by omega) (by omega) (by omega))
     go_wp2_with (go_at_call 119;refine(Bh _ _ RL _).mono ?_;rintro e w' ⟨rfl,rfl⟩)
     go_quiet (fail)
     go_wp2_with (go_at_call 58;refine(De (w.heap.size+1+1) (w.heap.size+1+1) (Lib.byteCells acc) _ (by omega) (by omega) _ (HB.out _) (by rw[Lib.byteCells_length];omega) (HN.out _)).mono ?_)
     rintro e' W1 ⟨rfl,b0,b1,b2⟩;have hq3:=hq2.write (x:=Lib.encodeRune v) (Lib.byteCells_encodeRune v) b0 b1 b2;clear b0 b1 b2;go_wp2;go_roundw
     case rel=>exact⟨k2,pos+n,acc++Lib.encodeRune v,rfl,PT2,by have:=HPK2.out;omega,k2s,by rw[eR];have:=HLEN.out;have:=HK2.out;omega,HLW.out,HF.out,hq3⟩
     case measure=>rw[BJ hq3.it,I1.out];omega
    ·have hd:Utf8.decode t pos=(65533,1):=by rw[HT.out,Mo,<-hp];exact hdk
     obtain⟨v,hv⟩:∃v:Nat,v=65533:=⟨_,rfl⟩;rw[<-hv]at hd;obtain⟨wn,hnx,hq2⟩:=hq1.next hpl 1 v hd;have qn:=HQR.out wn hq2.Ad;have cn0:=qn.st.c0;have cn1:=qn.st.c1;have HQN:=Hi qn;have RL:Hid (Lib.runeLen v=(3:Nat)):=Hi (by rw[hv];rfl);have t1:((v:Int)==65533)=true:=beq_of_eq (by omega);have v11:v<=1114111:=by omega
     have kk:¬((k:Int)<k):=by omega
     have HF:Hid (R= .err k 30):=Hi (by rw[HINV.out];exact Su hps (K0 hno));have HNO:=Hi hno;have HHP:=Hi hp;clear hd hdk hno hv hp hc hb0 qn;obtain⟨M,hM⟩:∃M,M=min s.size (k+3):=⟨_,rfl⟩;obtain⟨u,hu⟩:∃u,u=s.extract k M:=⟨_,rfl⟩;have us:u.size<=3:=by rw[hu,Of];omega
     have CO:Hid (∀W,Aj W->Calls Tryz.prog 70 #[.string u] W fun e w'=>e= .returned (.int .i64 (0))/\Below W.heap.size W w'):=Hi (fun W hW=>by
      rw[hu,hM];exact aZ _ (0) W (by rw[<-hM,<-hu];omega) (Hi (bB HNO.out hps)) hW)
     have w6:min (s.size:Int) ((k:Int)+3)=(M:Int):=by omega
     have w1:IntKind.i64.wrap ((k:Int)+3)=(k:Int)+3:=gV _ (by omega);have w9:(Instr.slice 9 (.string s) (some (.int .i64 (k:Int))) (some (.int .i64 (M:Int))) none).run Tryz.prog wn.drew= .ok (.string u) wn.drew:=by
      have:=eE (P:=Tryz.prog) (w:=wn.drew) 9 s .i64 .i64 (k:Int) (M:Int) Tryz.underlying9 (by omega) (by omega) (by omega);rw[show((k:Int)).toNat=k by omega,show((M:Int)).toNat=M by omega,<-hu]at this;exact this
     clear hM hu us
     skip
     go_wp2_with (go_at_call 119;refine(Bh _ _ RL _).mono ?_;rintro e w' ⟨rfl,rfl⟩)
     refine wp_region_still_tail 17 (by kernel_rfl) (by kernel_rfl) ?_;simp only[List.take_succ_cons,List.take_zero,List.drop_succ_cons,gU];change wpStill _ _ wn.drew _ _ _
     repeat still_step
     refine wpStill_nil ?_;change wpList _ _ _ _ _ wn.drew;clear w6 w1 w9;have LD:Aj wn.drew:=HQN.out.drew.ld
     go_wp2_with (go_at_call 70;(with_reducible refine(CO.out _ LD).mono ?_))
     rintro e W2 ⟨rfl,b3⟩;have hq5:=hq2.call b3;have q5:=HQR.out W2 hq5.Ad;have Q5:Hid (QW w b s a K te pe W2):=Hi q5;clear b3 LD q5 hq5;obtain⟨x00,x01,x02,x03,x04,x05,x06⟩:=Q5.out.t0.cs;obtain⟨y00,y01,y02,y03,y04,y05,y06⟩:=Q5.out.t0.fs;obtain⟨x10,x11,x12,x13,x14,x15,x16⟩:=Q5.out.t1.cs;obtain⟨y10,y11,y12,y13,y14,y15,y16⟩:=Q5.out.t1.fs
     go_wp2_with fail
     refine AI (v:= .tuple #[AK K ⟨#[]⟩ ⟨#[]⟩ 0 a 0 false,.int .i64 k,.int .i64 30]) ?_ rfl (AL.er HF.out (AJ (Q5.out.Ad) (nR _) _ _ _ _ _ _ _));simp only[results,Tryz.results73];go_simp
     try rfl
  ·have hks2:k=s.size:=by omega
   have HF:Hid (R= .err a 31):=Hi (by rw[HINV.out];exact Rp (by omega));have hnx:∀ty,(Instr.next (.pointer (some ⟨w.heap.size+3,0,none⟩)) true ty).run Tryz.prog wr= .ok (.tuple #[.bool false]) wr:=fun ty=>run_next_end_at wr (w.heap.size+3) t pos ty hq1.it hpl;have Q5:Hid (QW w b s a K te pe wr):=Hi (HQR.out wr hq1.Ad);clear hks2 hz hp
   go_wp2_with fail
   obtain⟨x00,x01,x02,x03,x04,x05,x06⟩:=Q5.out.t0.cs;obtain⟨y00,y01,y02,y03,y04,y05,y06⟩:=Q5.out.t0.fs;obtain⟨x10,x11,x12,x13,x14,x15,x16⟩:=Q5.out.t1.cs;obtain⟨y10,y11,y12,y13,y14,y15,y16⟩:=Q5.out.t1.fs;have c1:=Q5.out.st.c1
   go_region
   go_wp2_with fail
   refine AI (v:= .tuple #[AK K ⟨#[]⟩ ⟨#[]⟩ 0 a 0 false,.int .i64 a,.int .i64 31]) ?_ rfl (AL.er HF.out (AJ (Q5.out.Ad) (nR _) _ _ _ _ _ _ _).drew);simp only[results,Tryz.results73];go_simp
   try rfl
end Go.Proofs
