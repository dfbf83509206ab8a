import Derived.Test.YtpocgkiamgipdaaGreatDoorRdK
import Derived.Test.YtpocgkiamgipdaaGreatDoorTbe
import Derived.Lib.OthersKept
import Derived.Laws.IdiomStrings
set_option maxRecDepth 1000000
set_option maxHeartbeats 0
set_option linter.unusedVariables false
set_option linter.unusedSimpArgs false
open Go.Proofs.Tryz
namespace Go.Proofs
open Go.RowKit Go.Hb Go.Pz Go.Bg
def Tg:Nat->ByteArray->Nat->List Nat
 |0,_,_=> []
 |n+1,s,p=>if p<s.size then(Utf8.decode s p).1::Tg n s (p+(Utf8.decode s p).2)else []
def WS (c:Nat):Bs:=(Utf8.encode c).data.toList
def GP (q:Int) (c:Nat):Tm:=if q=2 then .atom (WS c)else .int (Ar 10 c)
def CZ (s:Bs) (q:Int):Tm:=if q=3 then .atom s else Cd ((Tg s.length (bs s) 0).map (GP q)) (.atom DR)
def BU (s:Bs):Array Value:= #[.int .i64 2,.string (bs s),.string ⟨#[]⟩,.int .u64 0,.int .i64 0,.slice none 0 0]
theorem FV (s:Bs):(BU s).all (·.oneCell')=true:=by simp[BU,Value.oneCell']
theorem Gq (w:World) (S:Nat->Prop) (s:Bs):AT w S (BU s).toList (.atom s):= .atom s
theorem cF (s:ByteArray) (pos:Nat) (h:pos<s.size):1<=(Utf8.decode s pos).2:=by
 by_cases ha:(s[pos]'h).toNat<128
 ·rw[decode_ascii s pos h ha];exact lM _
 ·exact(decode_high s pos h (by omega)).2
theorem Lj (s:ByteArray) (pos:Nat):(Utf8.decode s pos).1<=1114111:=by
 have hb:∀k,(s.get! (pos+k)).toNat<256:=fun k=>(s.get! (pos+k)).toNat_lt;have h0:=hb 0;have h1:=hb 1;have h2:=hb 2;have h3:=hb 3;simp only[Utf8.decode]
 repeat' split
 all_goals simp_all[Utf8.runeError,Utf8.valid]
 all_goals omega
def KS (w:World) (k:Nat):Nat:=match w.heap[k]?with
 |some (.stringIter _ p)=>p
 |_=>0
def EI (q:Int) (c:Nat):Array Value:=if q=2 then BU (WS c)else Hm (Ar 10 c)
theorem Mh (q:Int) (c:Nat):(EI q c).toList.length=1*6:=by unfold EI;split<;>rfl
theorem MP (q:Int) (c:Nat):∀u∈(EI q c).toList,u.oneCell'=true:=by
 have h:(EI q c).all (·.oneCell')=true:=by
  unfold EI;split
  ·exact FV _
  ·exact VJ _
 intro u hu;exact(Array.all_eq_true_iff_forall_mem.1 h) u (by simpa using hu)
theorem Yr (w:World) (S:Nat->Prop) (q:Int) (l:List Nat):BJ w S (l.flatMap fun c=>(EI q c).toList) (l.map (GP q)):=by
 induction l with
 |nil=>exact .nil
 |cons c l ih=>
  rw[pK,List.map_cons];refine .cons _ _ _ _ ?_ ih;unfold EI GP;split
  ·exact .atom _
  ·exact .int _
theorem Vh:(Tryz.prog.info? 31).map (fun i=>(i.zero,i.size,i.bytes))=some (some (.agg zV),6,80):=by kernel_rfl
theorem XP (p:Value) (s:Bs) (q:Int) (w:World) (hs:s.length<=100000000) (hL:Hid (Ag w)) (tO:q<=9223372036854775807) (qu: -9223372036854775808<=q):
  Calls prog 66 #[p,.string (bs s),.int .i64 q] w fun e w'=>∃c',e= .returned (.agg c')/\AT w' (fun b=>w.heap.size<=b/\b<w'.heap.size) c'.toList (CZ s q)/\Below w.heap.size w w':=by
 have zI:(bs s).size=s.length:=rfl;by_cases h3:q=3
 ·subst h3;have e1:CZ s 3= .atom s:=rfl;rw[e1];go_enter func66,ntmps66;go_wp2;refine lS (v:= .agg (BU s)) ?_ rfl ⟨BU s,rfl,Gq _ _ _,Bzz _⟩;simp only[results,results66];go_simp
  try rfl
 ·have c3:(q==3)=false:=by rw[lY];exact h3
  have e1:CZ s q=Cd ((Tg s.length (bs s) 0).map (GP q)) (.atom DR):=lL h3;rw[e1];clear e1;go_enter func66,ntmps66;go_wp2;generalize hW:(w.alloc _).iter (bs s) 0=W;have BW:Hid (Below w.heap.size w W):=lK (by rw[<-hW];exact(Bzz _).alloc (by simp) _);have H6W:Hid (W.heap[w.heap.size]? =some (.cells zV 31)):=lK (by rw[<-hW];exact(Lib.alloc_old _ _ _ (by simp)).trans (lT w _));have HIW:Hid (W.heap[w.heap.size+1]? =some (.stringIter (bs s) 0)):=lK (by
   rw[<-hW];have h1:=lT (w.alloc (.cells zV 31)) (.stringIter (bs s) 0);rw[show(w.alloc (.cells zV 31)).heap.size=w.heap.size+1 by simp]at h1;exact h1)
  have szW:W.heap.size=w.heap.size+2:=by rw[<-hW];simp[World.iter]
  clear hW;have HSS:=lK zI
  go_loopw [7] (fun l7 wr=>∃(done:List Nat) (pos:Nat),Hid ((∃f,s.length<=pos+f/\Tg s.length (bs s) 0=done++Tg f (bs s) pos)/\done.length<=pos/\done.length<=s.length/\Below w.heap.size w wr/\wr.heap[w.heap.size]? =some (.cells zV 31)/\wr.heap[w.heap.size+1]? =some (.stringIter (bs s) pos)/\wr.ownsRow (w.heap.size+2) 31 6 l7 done.length (done.flatMap fun c=>(EI q c).toList)/\w.heap.size+2<=wr.heap.size)) (fun _ wr=>s.length-KS wr (w.heap.size+1))
  case atStart=>exact⟨[],0,lK ⟨⟨s.length,by omega,rfl⟩,by simp,by simp,BW.o,H6W.o,HIW.o,mq _ _ _ _,by omega⟩⟩
  case round=>
   obtain⟨done,pos,hq⟩:=hrel;obtain⟨g0,g1,g1b,g2,g3,g4,g5,g6⟩:=hq.o;obtain⟨la,lc,rfl⟩:=Ap g5;by_cases hp:pos<(bs s).size
   ·have uw:∀ty,(Instr.next (.pointer (some ⟨w.heap.size+1,0,none⟩)) true ty).run prog wr=_:=fun ty=>Lib.run_next_any_at wr (w.heap.size+1) (bs s) pos ty g4 hp;have dmax:=Lj (bs s) pos;obtain⟨c,hc⟩:∃c,c=(Utf8.decode (bs s) pos).1:=⟨_,rfl⟩;rw[<-hc]at uw dmax;have cmx:(c:Int)<=1114111:=by omega
    have HC:=lK hc;clear hc;have wp:=cF (bs s) pos hp;have tN:pos<s.length:=by have:=HSS.o;omega
    obtain⟨wd,hwd⟩:∃wd,wd=(Utf8.decode (bs s) pos).2:=⟨_,rfl⟩;rw[<-hwd]at uw wp;have HCH:Hid (∃f,s.length<=pos+wd+f/\Tg s.length (bs s) 0=(done++ [c])++Tg f (bs s) (pos+wd)):=lK (by
     obtain⟨f,h1,h2⟩:=g0;cases f with
     |zero=>omega
     |succ f=>
      refine⟨f,by omega,?_⟩;rw[h2,pJ];congr 1;show(if pos<(bs s).size then _ else _)=_;rw[lQ hp,<-HC.o,<-hwd];rfl)
    have hit:KS wr (w.heap.size+1)=pos:=by unfold KS;rw[g4]
    have VB:Below w.heap.size w (wr.iterAt (w.heap.size+1) (bs s) (pos+wd)):=Lib.below_iterAt g2 (by omega) _ _;have V6:(wr.iterAt (w.heap.size+1) (bs s) (pos+wd)).heap[w.heap.size]? =some (.cells zV 31):=(Lib.iterAt_other _ _ _ _ _ (by omega)).trans g3;have VI:(wr.iterAt (w.heap.size+1) (bs s) (pos+wd)).heap[w.heap.size+1]? =some (.stringIter (bs s) (pos+wd)):=Lib.iterAt_heap _ _ _ _ _ g4;have VO:(wr.iterAt (w.heap.size+1) (bs s) (pos+wd)).ownsRow (w.heap.size+2) 31 6 (.slice la done.length lc) done.length (done.flatMap fun c=>(EI q c).toList):=AS g5 (fun b hb=>Lib.iterAt_other _ _ _ _ _ (by have:=(g5.lt b hb).1;omega));have VS:(wr.iterAt (w.heap.size+1) (bs s) (pos+wd)).heap.size=wr.heap.size:=Lib.iterAt_size _ _ _ _;obtain⟨i0,hi,qX,qg,qe⟩:=nw Vh;have ze:Hid (∀(A:World) (g cap:Nat) (w2:World),Below w.heap.size w A->A.heap[w.heap.size]? =some (.cells zV 31)->A.heap[w.heap.size+1]? =some (.stringIter (bs s) (pos+wd))->w.heap.size+2<=A.heap.size->
      w2.ownsRow (w.heap.size+2) 31 6 (.slice (some ⟨g,0,none⟩) (done.length+1) cap) (done.length+1) ((done.flatMap fun c=>(EI q c).toList)++(EI q c).toList)->A.grownBy w2 (Value.slice la done.length lc).ownBlock->
      (∃f,s.length<=pos+wd+f/\Tg s.length (bs s) 0=(done++ [c])++Tg f (bs s) (pos+wd))/\(done++ [c]).length<=pos+wd/\(done++ [c]).length<=s.length/\Below w.heap.size w w2/\w2.heap[w.heap.size]? =some (.cells zV 31)/\w2.heap[w.heap.size+1]? =some (.stringIter (bs s) (pos+wd))/\w2.ownsRow (w.heap.size+2) 31 6 (.slice (some ⟨g,0,none⟩) (done.length+1) cap) (done++ [c]).length ((done++ [c]).flatMap fun c=>(EI q c).toList)/\w.heap.size+2<=w2.heap.size):=lK (by
     intro A g cap w2 a1 a2 a3 a4 a5 a6;have qK:∀k,(Value.slice la done.length lc).ownBlock=some k->w.heap.size+2<=k:=fun k hk=>(g5.lt k hk).1;refine⟨HCH.o,by rw[l6];simp;omega,by rw[l6];simp;omega,a1.grown a6 (by omega) (fun k hk=>by have:=qK k hk;omega),(a6.block _ (by omega) (fun e=>by have:=qK _ e.symm;omega)).trans a2,(a6.block _ (by omega) (fun e=>by have:=qK _ e.symm;omega)).trans a3,?_,lg a4 a6.size⟩;rw[l6,oW];simpa using a5)
    have MX:Hid (done.length+1<=maxLen):=lK (by unfold maxLen;omega);have BY:Hid ((done.length+1)*80<=140737488355328):=lK (by omega);have LL:Hid (∀W,Below w.heap.size w W->Ag W):=lK (fun W hb=>hL.o.below hb);have MEAS:Hid (∀w2:World,w2.heap[w.heap.size+1]? =some (.stringIter (bs s) (pos+wd))->s.length-KS w2 (w.heap.size+1)<s.length-KS wr (w.heap.size+1)):=lK (fun w2 h=>by
     have:KS w2 (w.heap.size+1)=pos+wd:=by unfold KS;rw[h]
     rw[this,hit];omega)
    have SZ:=lK g6;have VV:=lK (And.intro VB (And.intro V6 (And.intro VI (And.intro VO VS))));clear hq g0 g1 g1b g2 g3 g4 g5 g6 hit HCH hwd HC HSS VB V6 VI VO VS;by_cases h2:q=2
    ·have c2:(q==2)=true:=by rw[nH];exact h2
     obtain⟨E,hE,hA⟩:∃E:Bs,Utf8.encode (c:Int)=bs E/\EI q c=BU E:=⟨WS c,Jj _,lQ h2⟩;have hA0:=lK hA;clear hA h2
     go_upto_region 8 with fail
     clear uw;have hA:=hA0.o;obtain⟨D,hD⟩:∃D,D=(EI q c).toList:=⟨_,rfl⟩;have D6:=lK (Mh q c);have D1:=lK (MP q c);rw[<-hD]at D6 D1 ze;rw[hA]at hD;generalize wr.iterAt (w.heap.size+1) (bs s) (pos+wd)=V at VV⊢;obtain⟨VB,V6,VI,VO,VS⟩:=VV.o;have sz:=SZ.o;have VBa:=lK (VB.alloc VB.size (.cells (BU E) 31));have VN:=lK (VO.alloc (.cells (BU E) 31));have V6a:=lK ((Lib.alloc_old V (.cells (BU E) 31) _ (by omega)).trans V6);have VIa:=lK ((Lib.alloc_old V (.cells (BU E) 31) _ (by omega)).trans VI);have VSa:Hid (w.heap.size+2<=(V.alloc (.cells (BU E) 31)).heap.size):=lK (by simp;omega);have NW:Hid (∀j u,D[j]? =some u->(V.alloc (.cells (BU E) 31)).cell? ((⟨V.heap.size,0,none⟩:Addr).add j)=some u):=lK (by rw[hD];exact World.news_of_block (t:=31) (fr:=(0,0)) (lT V _));clear VB VO V6 VI VS sz hD hA
     go_wp2_with (at_builtin;refine wpList_append_lies _ rfl _ _ 29 rfl (w.heap.size+2) 31 i0 _ 6 80 underlying29 hi qX qg qe rfl (by decide) _ _ _ rfl VN.o ⟨V.heap.size,0,none⟩ 1 1 D rfl D6.o NW.o D1.o (by decide) MX.o BY.o VSa.o _ rfl ?_;intro g cap w2 qD qC qh _hlg)
     have uK:(V.alloc (.cells (BU E) 31)).grownBy w2 (Value.slice la done.length lc).ownBlock:=qC;have xy:=ze.o _ g cap w2 VBa.o V6a.o VIa.o VSa.o qD uK;clear qC qh;go_roundw
     case rel=>exact⟨done++ [c],pos+wd,lK xy⟩
     case measure=>exact MEAS.o w2 xy.2.2.2.2.2.1
    ·have c2:(q==2)=false:=by rw[lY];exact h2
     obtain⟨E,hE,hA⟩:∃E:Bs,E=Ar 10 c/\EI q c=Hm E:=⟨_,rfl,lL h2⟩;have CI:Hid (∀W,Ag W->Calls prog 94 #[.int .i64 c] W fun e w'=>e= .returned (.string (bs E))/\Below W.heap.size W w'):=lK (fun W h=>by rw[hE];exact Tryz.itoa c W dmax h);have hA0:=lK hA;clear hA h2 hE
     go_upto_region 9 with fail
     clear uw;have hA:=hA0.o;obtain⟨D,hD⟩:∃D,D=(EI q c).toList:=⟨_,rfl⟩;have D6:=lK (Mh q c);have D1:=lK (MP q c);rw[<-hD]at D6 D1 ze;rw[hA]at hD;generalize wr.iterAt (w.heap.size+1) (bs s) (pos+wd)=V at VV⊢;obtain⟨VB,V6,VI,VO,VS⟩:=VV.o;have sz:=SZ.o;have VB5:=lK VB;have VO5:=lK VO;have V65:=lK V6;have VI5:=lK VI;have VS5:Hid (w.heap.size+2<=V.heap.size):=lK (by omega);have VL:=lK (LL.o V VB);have hD:=lK hD;clear VB VO V6 VI VS sz hA
     go_wp2_with (go_at_call 94;(with_reducible refine(CI.o V VL.o).mono ?_))
     rintro e W5 ⟨rfl,b5⟩;have VBa:=lK ((VB5.o.trans (b5.mono VB5.o.size)).alloc (by have:=b5.size;have:=VB5.o.size;omega) (.cells (Hm E) 31));have VN:=lK ((AS VO5.o (fun b hb=>b5.block b (VO5.o.lt b hb).2)).alloc (.cells (Hm E) 31));have V6a:=lK ((Lib.alloc_old W5 (.cells (Hm E) 31) _ (by have:=b5.size;have:=VS5.o;omega)).trans ((b5.block _ (by have:=VS5.o;omega)).trans V65.o));have VIa:=lK ((Lib.alloc_old W5 (.cells (Hm E) 31) _ (by have:=b5.size;have:=VS5.o;omega)).trans ((b5.block _ (by have:=VS5.o;omega)).trans VI5.o));have VSa:Hid (w.heap.size+2<=(W5.alloc (.cells (Hm E) 31)).heap.size):=lK (by have:=b5.size;have:=VS5.o;simp;omega);have NW:Hid (∀j u,D[j]? =some u->(W5.alloc (.cells (Hm E) 31)).cell? ((⟨W5.heap.size,0,none⟩:Addr).add j)=some u):=lK (by rw[hD.o];exact World.news_of_block (t:=31) (fr:=(0,0)) (lT W5 _));clear b5
     go_wp2_with (at_builtin;refine wpList_append_lies _ rfl _ _ 29 rfl (w.heap.size+2) 31 i0 _ 6 80 underlying29 hi qX qg qe rfl (by decide) _ _ _ rfl VN.o ⟨W5.heap.size,0,none⟩ 1 1 D rfl D6.o NW.o D1.o (by decide) MX.o BY.o VSa.o _ rfl ?_;intro g cap w2 qD qC qh _hlg)
     have uK:(W5.alloc (.cells (Hm E) 31)).grownBy w2 (Value.slice la done.length lc).ownBlock:=qC;have xy:=ze.o _ g cap w2 VBa.o V6a.o VIa.o VSa.o qD uK;clear qC qh;go_roundw
     case rel=>exact⟨done++ [c],pos+wd,lK xy⟩
     case measure=>exact MEAS.o w2 xy.2.2.2.2.2.1
   ·have uw:∀ty,(Instr.next (.pointer (some ⟨w.heap.size+1,0,none⟩)) true ty).run prog wr=_:=fun ty=>Lib.run_next_end_at wr (w.heap.size+1) (bs s) pos ty g4 hp;have HD:Hid (Tg s.length (bs s) 0=done):=lK (by
     obtain⟨f,h1,h2⟩:=g0;rw[h2];cases f with
     |zero=>exact nj _
     |succ f=>
      have h3:Tg (f+1) (bs s) pos= []:=by
       show(if pos<(bs s).size then _ else _)=_;rw[lL hp]
      rw[h3,nj])
    have CL:Hid (Calls prog 70 #[.slice la done.length lc,.agg (BU DR)] wr fun e w'=>∃c',e= .returned (.agg c')/\AT w' (fun b=>(w.heap.size+2<=b/\b<wr.heap.size)\/(wr.heap.size<=b/\b<w'.heap.size)) c'.toList (Cd (done.map (GP q)) (.atom DR))/\Below wr.heap.size wr w'):=lK
     (Qm wr (fun b=>w.heap.size+2<=b/\b<wr.heap.size) (fun b hb=>hb.2) _ _ (GZ.EW g5 (by rw[nN]) (Yr _ _ _ _) (fun b h1 h2=>⟨h1,h2⟩)) (.atom DR) (BU DR) (Gq _ _ _) (by rw[nN];omega))
    have G2:=lK g2;have G3:=lK g3;have G6:=lK g6;clear hq g0 g1 g1b g2 g3 g4 g5 g6
    go_wp2_with (go_at_call 70;(refine CL.o.mono ?_))
    rintro e W5 ⟨c',rfl,hT,b5⟩;have H65:W5.heap[w.heap.size]? =some (.cells zV 31):=(b5.block _ (by have:=G6.o;omega)).trans G3.o;have B5:=lK (G2.o.trans (b5.mono G2.o.size));have HT:=lK hT;have Z6:Hid (c'.size=6):=lK (by have:=hT.len;simpa using this);have ZO:=lK (AT.Bq hT);have S5:Hid (wr.heap.size<=W5.heap.size):=lK b5.size;have H65:=lK H65;clear b5 hT
    go_wp2_with (refine F8 rfl _ _ rfl w.heap.size c' rfl rfl _ H65.o rfl Z6.o ZO.o ?_)
    rw[HD.o];refine lS (v:= .agg c') ?_ rfl ⟨c',rfl,?_,Below.row B5.o (lM _) c'⟩
    ·exact results_cell_row rfl _ _ w.heap.size 31 c' (0,0) _ rfl (mF _ _ _ _ _ _ H65.o) mE rfl (by rw[Z6.o];exact Cg)
    ·exact HT.o.Ak (fun b hb=>mH _ _ _ _ (by have:=G6.o;rcases hb with h|h<;>omega)) (fun b hb=>by have:=G6.o;have:=S5.o;rw[Al];rcases hb with h|h<;>omega)
end Go.Proofs
namespace Go.Proofs
open Go.RowKit Go.Hb Go.Pz
structure Cx.Za (C:Cx):Prop where
 pre:∀W nm,nm.length<=1000000000->C.Tb W->Calls prog 95 #[C.o,.string (bs nm)] W fun e w'=>e= .returned (AM nm (C.O.pre nm))/\Below W.heap.size W w'
 inf:∀W nm,nm.length<=1000000000->C.Tb W->Calls prog 42 #[C.o,.string (bs nm)] W fun e w'=>e= .returned (AM nm (C.O.inf nm))/\Below W.heap.size W w'
 post:∀W nm,nm.length<=1000000000->C.Tb W->Calls prog 44 #[C.o,.string (bs nm)] W fun e w'=>e= .returned (AM nm (C.O.post nm))/\Below W.heap.size W w'
 laid:∀W,C.Tb W->Ag W
 pu:∀t∈C.ts,t.kind=8->∃c,t.tx= [c]/\c∈ [(40:UInt8),41,91,93,123,125,44,124]
theorem Od (s sub:ByteArray) (w:World) (hs:s.size<4294967281) (hL:Ag w):Calls prog 122 #[.string s,.string sub] w fun e w'=>e= .returned (.bool (decide (0<=Lib.index s.data.toList sub.data.toList)))/\Below w.heap.size w w':=by
 obtain⟨m,hm⟩:=hL.maxLen;have CI:=lK (Tryz.strings_Index s sub m w hs hm);obtain⟨x,hx⟩:∃x,x=Lib.index s.data.toList sub.data.toList:=⟨_,rfl⟩;rw[<-hx]at CI⊢;clear hx hm;go_enter func122,ntmps122
 go_wp2_with (go_at_call 54;(with_reducible refine CI.o.mono ?_))
 rintro e W1 ⟨rfl,rfl⟩;go_wp2;go_ret;exact⟨rfl,Below.refl _ _⟩
theorem Af {w:World} {b:Nat} {t:Tk}(h:w.heap[b]? =some (.cells (BH t) 71)):w.cell? ⟨b,0,none⟩=some (.int .i64 t.kind)/\w.cell? ⟨b,1,none⟩=some (.string (bs t.tx))/\w.cell? ⟨b,6,none⟩=some (.bool t.ly):=by
 refine⟨?_,?_,?_⟩<;>(rw[Lib.cell_of_heap h];rfl)
theorem AL (k n:Nat):((k:Int)==(n:Int))=decide (k=n):=by
 rw[oZ,nH,mL];omega
theorem Of (k:Nat):((k:Int)==9)=decide (k=9):=AL k 9
theorem Mm (k:Nat):((k:Int)==10)=decide (k=10):=AL k 10
theorem PF (k:Nat):((k:Int)==8)=decide (k=8):=AL k 8
theorem IM (k:Nat):((k:Int)==1)=decide (k=1):=AL k 1
theorem IZ (k:Nat):((k:Int)==4)=decide (k=4):=AL k 4
theorem If (k:Nat):((k:Int)==5)=decide (k=5):=AL k 5
theorem GU (a:Bs) (c:UInt8):((bs a).toList== [c])=decide (a= [c]):=by
 have h2:(⟨#[c]⟩:ByteArray).toList= [c]:=by simp
 have h3:((bs a).toList==(⟨#[c]⟩:ByteArray).toList)=decide (a= [c]):=by
  rw[<-oz,Du];exact mZ.2 Fv
 rw[h2]at h3;exact h3
theorem R5 {C:Cx}(hC:C.Ok) (hT:C.Za){w:World} {s:RS} {nv tv:Value}(h:A0 C w s nv tv):Calls prog 96 #[.pointer (some ⟨C.R,0,none⟩)] w fun e w'=>e= .returned (.bool (DJ C.ts C.O s))/\Below w.heap.size w w':=by
 have CN:Hid (Calls prog 25 #[.pointer (some ⟨C.R,0,none⟩)] w fun e w'=>e= .returned (Fk (now C.ts s))/\Below w.heap.size w w'):=lK (JK hC h);have CU:Hid (∀W,Below w.heap.size w W->Calls prog 68 #[.pointer (some ⟨C.R,0,none⟩),.int .i64 1] W fun e w'=>e= .returned (Fk (Jc C.ts s 1))/\Below W.heap.size W w'):=lK (fun W hb=>Ot hC (h.below hC hb));have hmem:now C.ts s∈C.ts:=mP (Iw h.bd.kl);have hlen:=(hC.tk _ hmem).1;have HPU:Hid ((now C.ts s).kind=8->∃c,(now C.ts s).tx= [c]/\c∈ [(40:UInt8),41,91,93,123,125,44,124]):=lK (hT.pu _ hmem);have HI:=lK h;have HB:Hid (DJ C.ts C.O s=DJ C.ts C.O s):=lK rfl;have ql:DJ C.ts C.O s=(if(now C.ts s).kind=9\/(now C.ts s).kind=10 then false else if(now C.ts s).kind=8 then !((now C.ts s).tx= [41]||(now C.ts s).tx= [93]||(now C.ts s).tx= [125]||(now C.ts s).tx= [44]||(now C.ts s).tx= [124])else if Cb (now C.ts s)then(if(now C.ts s).kind=1/\(now C.ts s).tx= [45]/\(Jc C.ts s 1).ly=false/\((Jc C.ts s 1).kind=4\/(Jc C.ts s 1).kind=5)then true else !(C.O.inf (now C.ts s).tx).isSome&& !(C.O.post (now C.ts s).tx).isSome||(C.O.pre (now C.ts s).tx).isSome||Pz.AG (Jc C.ts s 1) 40&& !(Jc C.ts s 1).ly)else true):=rfl;obtain⟨z,hz⟩:∃z,z=DJ C.ts C.O s:=⟨_,rfl⟩;rw[<-hz];rw[ql]at hz;clear ql HB;have HZ:=lK hz;clear hz;generalize now C.ts s=t at*;generalize Jc C.ts s 1=u at*;have CP:=lK (fun W=>Au u 40 W);have CM:=lK (fun W=>Ru t W);have yg:C.R<w.heap.size:=lR hC.rb h.sz;have C2w:Hid (w.cell? ⟨C.R,2,none⟩=some C.o):=lK h.hR.cells.2.2.1;clear h hmem;go_enter func96,ntmps96
 go_wp2_with (go_at_call 25;(with_reducible refine CN.o.mono ?_))
 rintro e W1 ⟨rfl,b1⟩
 go_upto_region 2 with(refine YS rfl _ _ rfl W1.heap.size t rfl rfl _ (lT W1 _) rfl ?_)
 have HX:((W1.alloc (.cells zW 71)).setRow W1.heap.size (BH t)).heap[W1.heap.size]? =some (.cells (BH t) 71):=mF _ _ _ _ _ _ (lT W1 _);have BX:Below w.heap.size w ((W1.alloc (.cells zW 71)).setRow W1.heap.size (BH t)):=Below.row (b1.alloc b1.size _) b1.size _;generalize(W1.alloc (.cells zW 71)).setRow W1.heap.size (BH t)=X at*;obtain⟨T,sS⟩:∃T,T=W1.heap.size:=⟨_,rfl⟩;rw[<-sS]at HX⊢;have HX:=lK HX;have BX:=lK BX;have LT:Hid (T<X.heap.size):=lK (lN.1 HX.o).1;clear b1 sS CN;obtain⟨x0,x1,x6⟩:=Af HX.o;by_cases h9:t.kind=9\/t.kind=10
 ·have hzv:z=false:=by rw[HZ.o,lQ h9]
  have HZV:=lK hzv;clear hzv;have key:((t.kind:Int)==9)=true\/(((t.kind:Int)==9)=false/\((t.kind:Int)==10)=true):=by
   rw[Of,Mm];rcases h9 with h|h
   ·exact .inl (by rw[h];rfl)
   ·exact .inr ⟨by rw[h];rfl,by rw[h];rfl⟩
  clear h9;rcases key with k1|⟨k1,k2⟩
  all_goals
   go_wp2;go_ret;exact⟨by rw[HZV.o];rfl,BX.o⟩
 ·have hz:=HZ.o;rw[lL h9]at hz;have HZ:=lK hz;clear hz;have k9:((t.kind:Int)==9)=false:=by rw[Of,mN];exact fun h=>h9 (.inl h)
  have yf:((t.kind:Int)==10)=false:=by rw[Mm,mN];exact fun h=>h9 (.inr h)
  clear h9;by_cases h8:t.kind=8
  ·have hz:=HZ.o;rw[lQ h8]at hz;have HZ:=lK hz;clear hz;have k8:((t.kind:Int)==8)=true:=by rw[PF,h8];rfl
   obtain⟨c,hc,hm⟩:=HPU.o h8;have CC:Hid (Calls prog 122 #[.string ⟨#[41,93,125,44,124]⟩,.string (bs t.tx)] X fun e w'=>e= .returned (.bool (t.tx= [41]||t.tx= [93]||t.tx= [125]||t.tx= [44]||t.tx= [124]))/\Below X.heap.size X w'):=lK (by
    have h1:=Od ⟨#[41,93,125,44,124]⟩ (bs t.tx) X (by decide) (hT.laid X (HI.o.below hC BX.o).Fm);have h2:decide (0<=Lib.index [41,93,125,44,124] t.tx)=(t.tx= [41]||t.tx= [93]||t.tx= [125]||t.tx= [44]||t.tx= [124]):=by
     rw[hc];simp only[oK,List.mem_nil_iff,or_false]at hm;rcases hm with rfl|rfl|rfl|rfl|rfl|rfl|rfl|rfl<;>decide
    rw[<-h2];exact h1)
   generalize(t.tx= [41]||t.tx= [93]||t.tx= [125]||t.tx= [44]||t.tx= [124]:Bool)=y at CC HZ;clear hc hm h8 HX
   go_wp2_with (go_at_call 122;(with_reducible refine CC.o.mono ?_))
   rintro e W5 ⟨rfl,b5⟩;have B5:=lK (BX.o.trans (b5.mono BX.o.size));clear b5;go_wp2;go_ret;exact⟨by rw[HZ.o];rfl,B5.o⟩
  ·have hz:=HZ.o;rw[lL h8]at hz;have HZ:=lK hz;clear hz;have k8:((t.kind:Int)==8)=false:=by rw[PF,mN];exact h8
   clear h8 HPU;cases hn:Cb t with
   |false=>
    rw[hn,lL (by simp)]at HZ;rw[hn]at CM
    go_wp2_with (first|(refine Ei rfl _ rfl T t rfl HX.o ?_)|(go_at_call 40;(with_reducible refine(CM.o _).mono ?_)))
    rintro e W5 ⟨rfl,b5⟩;have B5:=lK (BX.o.trans (b5.mono BX.o.size));clear b5 x0 x1 x6;go_wp2;go_ret;exact⟨by rw[HZ.o];rfl,B5.o⟩
   |true=>
    rw[hn,lQ rfl]at HZ;rw[hn]at CM
    go_wp2_with (first|(refine Ei rfl _ rfl T t rfl HX.o ?_)|(go_at_call 40;(with_reducible refine(CM.o _).mono ?_)))
    rintro e W5 ⟨rfl,b5⟩;have B5:=lK (BX.o.trans (b5.mono BX.o.size));have X5:=lK ((b5.block T LT.o).trans HX.o);clear b5 x0 x1 x6 hn
    go_wp2_with (go_at_call 68;(with_reducible refine(CU.o _ B5.o).mono ?_))
    rintro e W6 ⟨rfl,b6⟩
    go_upto_region 8 with(refine YS rfl _ _ rfl W6.heap.size u rfl rfl _ (lT W6 _) rfl ?_)
    have HY:((W6.alloc (.cells zW 71)).setRow W6.heap.size (BH u)).heap[W6.heap.size]? =some (.cells (BH u) 71):=mF _ _ _ _ _ _ (lT W6 _);have Y5:((W6.alloc (.cells zW 71)).setRow W6.heap.size (BH u)).heap[T]? =some (.cells (BH t) 71):=by
     have hT5:T<W5.heap.size:=(lN.1 X5.o).1;have h6:=b6.size;exact(mH _ _ _ _ (by omega)).trans ((Lib.alloc_old W6 _ _ (by omega)).trans ((b6.block T hT5).trans X5.o))
    have BY:Below w.heap.size w ((W6.alloc (.cells zW 71)).setRow W6.heap.size (BH u)):=by
     have h1:=B5.o.trans (b6.mono B5.o.size);exact Below.row (h1.alloc h1.size _) h1.size _
    generalize(W6.alloc (.cells zW 71)).setRow W6.heap.size (BH u)=Y at*;obtain⟨U,hU⟩:∃U,U=W6.heap.size:=⟨_,rfl⟩;rw[<-hU]at HY⊢;have HY:=lK HY;have Y5:=lK Y5;have BY:=lK BY;clear b6 hU;obtain⟨x0,x1,x6⟩:=Af Y5.o;obtain⟨y0,y1,y6⟩:=Af HY.o;have e1:=IM t.kind;have e2:=GU t.tx 45;have e3:=IZ u.kind;have e4:=If u.kind;obtain⟨D,hD⟩:∃D:Bool,D=decide (t.kind=1/\t.tx= [45]/\u.ly=false/\(u.kind=4\/u.kind=5)):=⟨_,rfl⟩;have zh:Hid (z=if D then true else(!(C.O.inf t.tx).isSome&& !(C.O.post t.tx).isSome||(C.O.pre t.tx).isSome||Pz.AG u 40&& !u.ly)):=lK (by rw[HZ.o,hD];simp only[mL]);have qU:Hid ((((t.kind:Int)==1)=false/\D=false)\/(((t.kind:Int)==1)=true/\((bs t.tx).toList== [45])=false/\D=false)\/(((t.kind:Int)==1)=true/\((bs t.tx).toList== [45])=true/\u.ly=true/\D=false)\/
      (((t.kind:Int)==1)=true/\((bs t.tx).toList== [45])=true/\u.ly=false/\((u.kind:Int)==4)=true/\D=true)\/(((t.kind:Int)==1)=true/\((bs t.tx).toList== [45])=true/\u.ly=false/\((u.kind:Int)==4)=false/\((u.kind:Int)==5)=true/\D=true)\/
      (((t.kind:Int)==1)=true/\((bs t.tx).toList== [45])=true/\u.ly=false/\((u.kind:Int)==4)=false/\((u.kind:Int)==5)=false/\D=false)):=lK (by
     rw[e1,e2,e3,e4,hD];by_cases h1:t.kind=1<;>by_cases h2:t.tx= [45]<;>cases h3:u.ly<;>by_cases h4:u.kind=4<;>by_cases h5:u.kind=5<;>simp[h1,h2,h4,h5])
    clear e1 e2 e3 e4 hD HZ;simp only[Act.put]
    go_cut [57] (fun v57 wx=>v57= .bool D/\Y=wx)
    case first=>
     as_aux_lemma=>
     rcases qU.o with⟨k1,kd⟩|⟨k1,k2,kd⟩|⟨k1,k2,k3,kd⟩|⟨k1,k2,k3,k4,kd⟩|⟨k1,k2,k3,k4,k5,kd⟩|⟨k1,k2,k3,k4,k5,kd⟩
     all_goals
      have KD:=lK kd;clear kd;go_wp2;go_meet;exact⟨by rw[KD.o],rfl⟩
    case rest=>
    obtain⟨rfl,rfl⟩:=hcut;cases D with
    |true=>
     go_wp2;go_ret;exact⟨by rw[zh.o];rfl,BY.o⟩
    |false=>
     clear x0 x1 x6 y0 y1 y6 qU CM X5 B5 HX BX LT;have C2Y:Hid (Y.cell? ⟨C.R,2,none⟩=some C.o):=lK ((BY.o.cell (p:=⟨C.R,2,none⟩) yg).trans C2w.o);have HRY:Hid (C.R<Y.heap.size):=lK (lR yg BY.o.size);have za:Hid (T<Y.heap.size):=lK (lN.1 Y5.o).1;have CTY:Hid (Y.cell? ⟨T,1,none⟩=some (.string (bs t.tx))):=lK (Af Y5.o).2.1;have CFY:Hid (∀W,Below Y.heap.size Y W->Calls prog 42 #[C.o,.string (bs t.tx)] W fun e w'=>e= .returned (AM t.tx (C.O.inf t.tx))/\Below W.heap.size W w'):=lK (fun W hb=>hT.inf W t.tx hlen (HI.o.below hC (BY.o.trans (hb.mono BY.o.size))).Fm)
     go_upto_region 10 with fail
     generalize zg:C.O.inf t.tx=ri at CFY zh;clear zg
     go_cut [5,6] (fun v5 v6 wx=>∃b5,v5= .pointer (some ⟨b5,0,none⟩)/\v6= .bool ri.isSome/\wx.heap[b5]? =some (.cells (Fa (EL t.tx ri) (EC ri)) 61)/\Y.heap.size<=b5/\b5<wx.heap.size/\Below Y.heap.size Y wx)
     case first=>
      as_aux_lemma=>
      refine wp_region_held_drew (S:=fun W=>Below Y.heap.size Y W) (by kernel_rfl) (Ad (Below.refl _ _)) (fun hS=> ?_);refine tk 0 (.pointer (some ⟨C.R,0,none⟩)) rfl hS ?_;refine tk 1 (.pointer (some ⟨C.R,0,none⟩)) rfl hS ?_;refine tk 2 (.pointer (some ⟨C.R,2,none⟩)) rfl hS ?_;refine DQ 3 (C.o) rfl hS (fun W hSW=> ?_) ?_
      ·have e1:=(hSW.cell (p:=⟨C.R,2,none⟩) HRY.o).trans C2Y.o;go_simp
      refine tk 4 (.pointer (some ⟨T,1,none⟩)) rfl hS ?_;refine DQ 5 (.string (bs t.tx)) rfl hS (fun W hSW=> ?_) ?_
      ·have e1:=(hSW.cell (p:=⟨T,1,none⟩) za.o).trans CTY.o;go_simp
      try simp only[uu,Act.put]
      refine wpAnyH_ready (rs:= [6,10]) (by kernel_rfl) (by simp) ?_;refine AllReadyH.cons rfl (fun K hK=> ?_) (AllReadyH.cons rfl (fun K hK=> ?_) AllReadyH.nil)
      ·refine As (by rfl) 42 [.tmp 62,.tmp 64] #[24,9] (by rfl) #[C.o,.string (bs t.tx)] (by kernel_rfl) KN ((CFY.o _ hS).mono ?_);rintro e' W6 ⟨rfl,b6⟩;refine⟨_,rfl,?_⟩;refine hK.o _ _ (hS.trans (b6.mono hS.size)) (fun hS=> ?_);refine tk 7 (AM t.tx (ri)) rfl hS ?_;refine DQ 8 (Dl (EL t.tx (ri)) (EC (ri))) rfl hS (fun W hSW=> ?_) ?_
       ·unfold AM;go_simp
       refine DQ 9 (.bool (ri).isSome) rfl hS (fun W hSW=> ?_) ?_
       ·unfold AM;go_simp
       try simp only[uu,Act.put]
       refine DD 10 rfl (fun K hK=> ?_);go_simp;refine hK.o _ _ (hS.alloc hS.size _) (fun hS=> ?_)
       try simp only[uu,Act.put]
       refine DD 11 rfl (fun K hK=> ?_);refine Aj rfl (E3 _ _ rfl W6.heap.size (EL t.tx ri) (EC ri) rfl rfl #[.string ⟨#[]⟩,.int .i64 0,.int .i64 0] (lT W6 _) rfl ?_);refine hK.o _ _ (Below.row hS b6.size _) (fun hS=> ?_);refine tk 12 (.bool (ri).isSome) rfl hS ?_
       try simp only[uu,Act.put]
       refine wpAnyH_done (by kernel_rfl) ?_ _;go_wp2;go_meet;exact⟨W6.heap.size,rfl,rfl,mF _ _ _ _ _ _ (lT W6 _),b6.size,by rw[Al];simp,hS⟩
      ·go_simp;refine hK.o _ _ (hS.alloc hS.size _) (fun hS=> ?_)
       try simp only[uu,Act.put]
       refine DD 6 rfl (fun K hK=> ?_);refine As (by rfl) 42 [.tmp 62,.tmp 64] #[24,9] (by rfl) #[C.o,.string (bs t.tx)] (by kernel_rfl) KN ((CFY.o _ hS).mono ?_);rintro e' W6 ⟨rfl,b6⟩;refine⟨_,rfl,?_⟩;refine hK.o _ _ (hS.trans (b6.mono hS.size)) (fun hS=> ?_);refine tk 7 (AM t.tx (ri)) rfl hS ?_;refine DQ 8 (Dl (EL t.tx (ri)) (EC (ri))) rfl hS (fun W hSW=> ?_) ?_
       ·unfold AM;go_simp
       refine DQ 9 (.bool (ri).isSome) rfl hS (fun W hSW=> ?_) ?_
       ·unfold AM;go_simp
       try simp only[uu,Act.put]
       have hz:W6.heap[Y.heap.size]? =some (.cells #[.string ⟨#[]⟩,.int .i64 0,.int .i64 0] 61):=(b6.block _ (by show Y.heap.size<(Y.alloc _).heap.size;simp)).trans (lT Y _);refine DD 11 rfl (fun K hK=> ?_);refine Aj rfl (E3 _ _ rfl Y.heap.size (EL t.tx ri) (EC ri) rfl rfl #[.string ⟨#[]⟩,.int .i64 0,.int .i64 0] hz rfl ?_);refine hK.o _ _ (Below.row hS (lM _) _) (fun hS=> ?_);refine tk 12 (.bool (ri).isSome) rfl hS ?_
       try simp only[uu,Act.put]
       refine wpAnyH_done (by kernel_rfl) ?_ _;go_wp2;go_meet;exact⟨Y.heap.size,rfl,rfl,mF _ _ _ _ _ _ hz,lM _,by rw[Al];exact(lN.1 hz).1,hS⟩
     case rest=>
     obtain⟨bi,rfl,rfl,_,_,_,qi⟩:=hcut;obtain⟨Y1,hY1⟩:∃W,W=wc:=⟨_,rfl⟩;subst hY1;have BY1:=lK (BY.o.trans (qi.mono BY.o.size));have TY1:=lK ((qi.block T za.o).trans Y5.o);clear qi C2Y HRY za CTY CFY;have C2Y1:Hid (Y1.cell? ⟨C.R,2,none⟩=some C.o):=lK ((BY1.o.cell (p:=⟨C.R,2,none⟩) yg).trans C2w.o);have HRY1:Hid (C.R<Y1.heap.size):=lK (lR yg BY1.o.size);have HTY1:Hid (T<Y1.heap.size):=lK (lN.1 TY1.o).1;have CTY1:Hid (Y1.cell? ⟨T,1,none⟩=some (.string (bs t.tx))):=lK (Af TY1.o).2.1;have zJ:Hid (∀W,Below Y1.heap.size Y1 W->Calls prog 44 #[C.o,.string (bs t.tx)] W fun e w'=>e= .returned (AM t.tx (C.O.post t.tx))/\Below W.heap.size W w'):=lK (fun W hb=>hT.post W t.tx hlen (HI.o.below hC (BY1.o.trans (hb.mono BY1.o.size))).Fm)
     go_upto_region 11 with fail
     generalize hrp:C.O.post t.tx=rp at zJ zh;clear hrp
     go_cut [7,8] (fun v5 v6 wx=>∃b5,v5= .pointer (some ⟨b5,0,none⟩)/\v6= .bool rp.isSome/\wx.heap[b5]? =some (.cells (Fa (EL t.tx rp) (EC rp)) 61)/\Y1.heap.size<=b5/\b5<wx.heap.size/\Below Y1.heap.size Y1 wx)
     case first=>
      as_aux_lemma=>
      refine wp_region_held_drew (S:=fun W=>Below Y1.heap.size Y1 W) (by kernel_rfl) (Ad (Below.refl _ _)) (fun hS=> ?_);refine tk 0 (.pointer (some ⟨C.R,0,none⟩)) rfl hS ?_;refine tk 1 (.pointer (some ⟨C.R,0,none⟩)) rfl hS ?_;refine tk 2 (.pointer (some ⟨C.R,2,none⟩)) rfl hS ?_;refine DQ 3 (C.o) rfl hS (fun W hSW=> ?_) ?_
      ·have e1:=(hSW.cell (p:=⟨C.R,2,none⟩) HRY1.o).trans C2Y1.o;go_simp
      refine tk 4 (.pointer (some ⟨T,1,none⟩)) rfl hS ?_;refine DQ 5 (.string (bs t.tx)) rfl hS (fun W hSW=> ?_) ?_
      ·have e1:=(hSW.cell (p:=⟨T,1,none⟩) HTY1.o).trans CTY1.o;go_simp
      try simp only[uu,Act.put]
      refine wpAnyH_ready (rs:= [6,10]) (by kernel_rfl) (by simp) ?_;refine AllReadyH.cons rfl (fun K hK=> ?_) (AllReadyH.cons rfl (fun K hK=> ?_) AllReadyH.nil)
      ·refine As (by rfl) 44 [.tmp 72,.tmp 74] #[24,9] (by rfl) #[C.o,.string (bs t.tx)] (by kernel_rfl) J4 ((zJ.o _ hS).mono ?_);rintro e' W6 ⟨rfl,b6⟩;refine⟨_,rfl,?_⟩;refine hK.o _ _ (hS.trans (b6.mono hS.size)) (fun hS=> ?_);refine tk 7 (AM t.tx (rp)) rfl hS ?_;refine DQ 8 (Dl (EL t.tx (rp)) (EC (rp))) rfl hS (fun W hSW=> ?_) ?_
       ·unfold AM;go_simp
       refine DQ 9 (.bool (rp).isSome) rfl hS (fun W hSW=> ?_) ?_
       ·unfold AM;go_simp
       try simp only[uu,Act.put]
       refine DD 10 rfl (fun K hK=> ?_);go_simp;refine hK.o _ _ (hS.alloc hS.size _) (fun hS=> ?_)
       try simp only[uu,Act.put]
       refine DD 11 rfl (fun K hK=> ?_);refine Aj rfl (E3 _ _ rfl W6.heap.size (EL t.tx rp) (EC rp) rfl rfl #[.string ⟨#[]⟩,.int .i64 0,.int .i64 0] (lT W6 _) rfl ?_);refine hK.o _ _ (Below.row hS b6.size _) (fun hS=> ?_);refine tk 12 (.bool (rp).isSome) rfl hS ?_
       try simp only[uu,Act.put]
       refine wpAnyH_done (by kernel_rfl) ?_ _;go_wp2;go_meet;exact⟨W6.heap.size,rfl,rfl,mF _ _ _ _ _ _ (lT W6 _),b6.size,by rw[Al];simp,hS⟩
      ·go_simp;refine hK.o _ _ (hS.alloc hS.size _) (fun hS=> ?_)
       try simp only[uu,Act.put]
       refine DD 6 rfl (fun K hK=> ?_);refine As (by rfl) 44 [.tmp 72,.tmp 74] #[24,9] (by rfl) #[C.o,.string (bs t.tx)] (by kernel_rfl) J4 ((zJ.o _ hS).mono ?_);rintro e' W6 ⟨rfl,b6⟩;refine⟨_,rfl,?_⟩;refine hK.o _ _ (hS.trans (b6.mono hS.size)) (fun hS=> ?_);refine tk 7 (AM t.tx (rp)) rfl hS ?_;refine DQ 8 (Dl (EL t.tx (rp)) (EC (rp))) rfl hS (fun W hSW=> ?_) ?_
       ·unfold AM;go_simp
       refine DQ 9 (.bool (rp).isSome) rfl hS (fun W hSW=> ?_) ?_
       ·unfold AM;go_simp
       try simp only[uu,Act.put]
       have hz:W6.heap[Y1.heap.size]? =some (.cells #[.string ⟨#[]⟩,.int .i64 0,.int .i64 0] 61):=(b6.block _ (by show Y1.heap.size<(Y1.alloc _).heap.size;simp)).trans (lT Y1 _);refine DD 11 rfl (fun K hK=> ?_);refine Aj rfl (E3 _ _ rfl Y1.heap.size (EL t.tx rp) (EC rp) rfl rfl #[.string ⟨#[]⟩,.int .i64 0,.int .i64 0] hz rfl ?_);refine hK.o _ _ (Below.row hS (lM _) _) (fun hS=> ?_);refine tk 12 (.bool (rp).isSome) rfl hS ?_
       try simp only[uu,Act.put]
       refine wpAnyH_done (by kernel_rfl) ?_ _;go_wp2;go_meet;exact⟨Y1.heap.size,rfl,rfl,mF _ _ _ _ _ _ hz,lM _,by rw[Al];exact(lN.1 hz).1,hS⟩
     case rest=>
     obtain⟨bp,rfl,rfl,_,_,_,qp⟩:=hcut;obtain⟨Y2,hY2⟩:∃W,W=wc:=⟨_,rfl⟩;subst hY2;have BY2:=lK (BY1.o.trans (qp.mono BY1.o.size));have TY2:=lK ((qp.block T HTY1.o).trans TY1.o);clear qp C2Y1 HRY1 HTY1 CTY1 zJ;have C2Y2:Hid (Y2.cell? ⟨C.R,2,none⟩=some C.o):=lK ((BY2.o.cell (p:=⟨C.R,2,none⟩) yg).trans C2w.o);have HRY2:Hid (C.R<Y2.heap.size):=lK (lR yg BY2.o.size);have HTY2:Hid (T<Y2.heap.size):=lK (lN.1 TY2.o).1;have CTY2:Hid (Y2.cell? ⟨T,1,none⟩=some (.string (bs t.tx))):=lK (Af TY2.o).2.1;have yn:Hid (∀W,Below Y2.heap.size Y2 W->Calls prog 95 #[C.o,.string (bs t.tx)] W fun e w'=>e= .returned (AM t.tx (C.O.pre t.tx))/\Below W.heap.size W w'):=lK (fun W hb=>hT.pre W t.tx hlen (HI.o.below hC (BY2.o.trans (hb.mono BY2.o.size))).Fm)
     go_upto_region 12 with fail
     generalize hrf:C.O.pre t.tx=rf at yn zh;clear hrf
     go_cut [9,10] (fun v5 v6 wx=>∃b5,v5= .pointer (some ⟨b5,0,none⟩)/\v6= .bool rf.isSome/\wx.heap[b5]? =some (.cells (Fa (EL t.tx rf) (EC rf)) 61)/\Y2.heap.size<=b5/\b5<wx.heap.size/\Below Y2.heap.size Y2 wx)
     case first=>
      as_aux_lemma=>
      refine wp_region_held_drew (S:=fun W=>Below Y2.heap.size Y2 W) (by kernel_rfl) (Ad (Below.refl _ _)) (fun hS=> ?_);refine tk 0 (.pointer (some ⟨C.R,0,none⟩)) rfl hS ?_;refine tk 1 (.pointer (some ⟨C.R,0,none⟩)) rfl hS ?_;refine tk 2 (.pointer (some ⟨C.R,2,none⟩)) rfl hS ?_;refine DQ 3 (C.o) rfl hS (fun W hSW=> ?_) ?_
      ·have e1:=(hSW.cell (p:=⟨C.R,2,none⟩) HRY2.o).trans C2Y2.o;go_simp
      refine tk 4 (.pointer (some ⟨T,1,none⟩)) rfl hS ?_;refine DQ 5 (.string (bs t.tx)) rfl hS (fun W hSW=> ?_) ?_
      ·have e1:=(hSW.cell (p:=⟨T,1,none⟩) HTY2.o).trans CTY2.o;go_simp
      try simp only[uu,Act.put]
      refine wpAnyH_ready (rs:= [6,10]) (by kernel_rfl) (by simp) ?_;refine AllReadyH.cons rfl (fun K hK=> ?_) (AllReadyH.cons rfl (fun K hK=> ?_) AllReadyH.nil)
      ·refine As (by rfl) 95 [.tmp 82,.tmp 84] #[24,9] (by rfl) #[C.o,.string (bs t.tx)] (by kernel_rfl) Rg ((yn.o _ hS).mono ?_);rintro e' W6 ⟨rfl,b6⟩;refine⟨_,rfl,?_⟩;refine hK.o _ _ (hS.trans (b6.mono hS.size)) (fun hS=> ?_);refine tk 7 (AM t.tx (rf)) rfl hS ?_;refine DQ 8 (Dl (EL t.tx (rf)) (EC (rf))) rfl hS (fun W hSW=> ?_) ?_
       ·unfold AM;go_simp
       refine DQ 9 (.bool (rf).isSome) rfl hS (fun W hSW=> ?_) ?_
       ·unfold AM;go_simp
       try simp only[uu,Act.put]
       refine DD 10 rfl (fun K hK=> ?_);go_simp;refine hK.o _ _ (hS.alloc hS.size _) (fun hS=> ?_)
       try simp only[uu,Act.put]
       refine DD 11 rfl (fun K hK=> ?_);refine Aj rfl (E3 _ _ rfl W6.heap.size (EL t.tx rf) (EC rf) rfl rfl #[.string ⟨#[]⟩,.int .i64 0,.int .i64 0] (lT W6 _) rfl ?_);refine hK.o _ _ (Below.row hS b6.size _) (fun hS=> ?_);refine tk 12 (.bool (rf).isSome) rfl hS ?_
       try simp only[uu,Act.put]
       refine wpAnyH_done (by kernel_rfl) ?_ _;go_wp2;go_meet;exact⟨W6.heap.size,rfl,rfl,mF _ _ _ _ _ _ (lT W6 _),b6.size,by rw[Al];simp,hS⟩
      ·go_simp;refine hK.o _ _ (hS.alloc hS.size _) (fun hS=> ?_)
       try simp only[uu,Act.put]
       refine DD 6 rfl (fun K hK=> ?_);refine As (by rfl) 95 [.tmp 82,.tmp 84] #[24,9] (by rfl) #[C.o,.string (bs t.tx)] (by kernel_rfl) Rg ((yn.o _ hS).mono ?_);rintro e' W6 ⟨rfl,b6⟩;refine⟨_,rfl,?_⟩;refine hK.o _ _ (hS.trans (b6.mono hS.size)) (fun hS=> ?_);refine tk 7 (AM t.tx (rf)) rfl hS ?_;refine DQ 8 (Dl (EL t.tx (rf)) (EC (rf))) rfl hS (fun W hSW=> ?_) ?_
       ·unfold AM;go_simp
       refine DQ 9 (.bool (rf).isSome) rfl hS (fun W hSW=> ?_) ?_
       ·unfold AM;go_simp
       try simp only[uu,Act.put]
       have hz:W6.heap[Y2.heap.size]? =some (.cells #[.string ⟨#[]⟩,.int .i64 0,.int .i64 0] 61):=(b6.block _ (by show Y2.heap.size<(Y2.alloc _).heap.size;simp)).trans (lT Y2 _);refine DD 11 rfl (fun K hK=> ?_);refine Aj rfl (E3 _ _ rfl Y2.heap.size (EL t.tx rf) (EC rf) rfl rfl #[.string ⟨#[]⟩,.int .i64 0,.int .i64 0] hz rfl ?_);refine hK.o _ _ (Below.row hS (lM _) _) (fun hS=> ?_);refine tk 12 (.bool (rf).isSome) rfl hS ?_
       try simp only[uu,Act.put]
       refine wpAnyH_done (by kernel_rfl) ?_ _;go_wp2;go_meet;exact⟨Y2.heap.size,rfl,rfl,mF _ _ _ _ _ _ hz,lM _,by rw[Al];exact(lN.1 hz).1,hS⟩
     case rest=>
     obtain⟨bf,rfl,rfl,_,_,_,qf⟩:=hcut;obtain⟨Y3,hY3⟩:∃W,W=wc:=⟨_,rfl⟩;subst hY3;have BY3:=lK (BY2.o.trans (qf.mono BY2.o.size));have TY3:=lK ((qf.block T HTY2.o).trans TY2.o);clear qf C2Y2 HRY2 HTY2 CTY2 yn;have wZ:=lK (Below.refl w.heap.size w);clear HY Y5 BY BY1 BY2 TY1 TY2 TY3 HZ HI;obtain⟨i1,hi1⟩:∃x:Bool,x=ri.isSome:=⟨_,rfl⟩;obtain⟨i2,qN⟩:∃x:Bool,x=rp.isSome:=⟨_,rfl⟩;obtain⟨i3,hi3⟩:∃x:Bool,x=rf.isSome:=⟨_,rfl⟩;obtain⟨i4,hi4⟩:∃x:Bool,x=Pz.AG u 40:=⟨_,rfl⟩;obtain⟨i5,hi5⟩:∃x:Bool,x=u.ly:=⟨_,rfl⟩;rw[<-hi1,<-qN,<-hi3,<-hi4,<-hi5]at zh;rw[<-hi4]at CP;rw[<-hi1,<-qN,<-hi3];have FL:∀W:World,(Instr.field 71 (Fk u) 6).run prog W= .ok (.bool i5) W:=fun W=>by rw[hi5];exact dX u W
     clear hi1 qN hi3 hi4 hi5;by_cases hs:(i1=false/\i2=false)\/i3=true
     ·have HE:Hid (z=true):=lK (by rw[zh.o];rcases hs with⟨h1,h2⟩|h3<;>simp[*]);have key:(i1=false/\i2=false)\/(i1=true/\i3=true)\/(i1=false/\i2=true/\i3=true):=by
       revert hs;cases i1<;>cases i2<;>cases i3<;>simp
      clear hs zh;rcases key with⟨rfl,rfl⟩|⟨rfl,rfl⟩|⟨rfl,rfl,rfl⟩
      all_goals
       go_wp2;go_ret;exact⟨by rw[HE.o];rfl,BY3.o⟩
     ·have key:i3=false/\(i1=true\/(i1=false/\i2=true)):=by
       revert hs;cases i1<;>cases i2<;>cases i3<;>simp
      have HE:Hid (z=(i4&& !i5)):=lK (by rw[zh.o];obtain⟨h1,h2|⟨h2,h3⟩⟩:=key<;>simp[*]);clear hs zh;obtain⟨rfl,key⟩:=key;rcases key with rfl|⟨rfl,rfl⟩
      all_goals
       go_wp2_with (go_at_call 68;(with_reducible refine(CU.o _ BY3.o).mono ?_))
       rintro e V1 ⟨rfl,v1⟩;have V1B:=lK (BY3.o.trans (v1.mono BY3.o.size));clear v1
       go_wp2_with (go_at_call 41;(with_reducible refine(CP.o _).mono ?_))
       rintro e V2 ⟨rfl,v2⟩;have V2B:=lK (V1B.o.trans (v2.mono V1B.o.size));clear v2;cases i4
       ·go_wp2;go_ret;exact⟨by rw[HE.o];rfl,V2B.o⟩
       ·go_wp2_with (go_at_call 68;(with_reducible refine(CU.o _ V2B.o).mono ?_))
        rintro e V3 ⟨rfl,v3⟩;have V3B:=lK (V2B.o.trans (v3.mono V2B.o.size));clear v3;go_wp2;go_ret;exact⟨by rw[HE.o];rfl,V3B.o⟩
def Sn (C:Cx) (n:Nat) (nv tv:Value) (w:World) (b:Nat):Prop:=n<=b/\Sf C nv tv w b
def Out (C:Cx) (w:World) (nv tv:Value):Rz (Tm×Int×RS)->Ending->World->Prop
 | .ok (t,p,s'),e,w'=>∃c qH qG,e= .returned (.tuple #[.agg c,.int .i64 p])/\D8 C w nv tv w' s' qH qG/\AT w' (Sn C w.heap.size qH qG w') c.toList t
 | .stop wd a,e,w'=>e= .panicked (MU wd a)/\∃qH qG,F5 C w nv tv w' qH qG
def ig (C:Cx) (w:World) (nv tv:Value):Rz (List Tm×RS)->Ending->World->Prop
 | .ok (l,s'),e,w'=>∃v qH qG,e= .returned v/\D8 C w nv tv w' s' qH qG/\GZ w' (Sn C w.heap.size qH qG w') v l/\0<l.length/\l.length<=s'.k
 | .stop wd a,e,w'=>e= .panicked (MU wd a)/\∃qH qG,F5 C w nv tv w' qH qG
structure Rec (C:Cx) (n:Nat):Prop where
 term:∀(s:RS) (most:Int) (w:World) (nv tv:Value),A0 C w s nv tv->4*(C.ts.length-s.k)+3<=n->0<=most->most<=1200->Calls prog 24 #[.pointer (some ⟨C.R,0,none⟩),.int .i64 most] w (Out C w nv tv (Ay C.ts C.O C.qt CZ n s most))
 items:∀(s:RS) (w:World) (nv tv:Value),A0 C w s nv tv->4*(C.ts.length-s.k)+4<=n->Calls prog 69 #[.pointer (some ⟨C.R,0,none⟩)] w (ig C w nv tv (Ba C.ts C.O C.qt CZ n s))
 left:∀(s:RS) (most:Int) (w:World) (nv tv:Value),A0 C w s nv tv->4*(C.ts.length-s.k)+2<=n->0<=most->most<=1200->Calls prog 39 #[.pointer (some ⟨C.R,0,none⟩),.int .i64 most] w (Out C w nv tv (A6 C.ts C.O C.qt CZ n s most))
 named:∀(s:RS) (nm:Bs) (t:Tk) (most:Int) (w:World) (nv tv:Value),A0 C w s nv tv->nm.length<=1000000000->4*(C.ts.length-s.k)+4<=n->0<=most->most<=1200->Calls prog 71 #[.pointer (some ⟨C.R,0,none⟩),.string (bs nm),Fk t,.int .i64 most] w (Out C w nv tv (Aq C.ts C.O C.qt CZ n s nm t most))
theorem Sf.AY {C:Cx} {nv tv:Value} {w W:World} {b:Nat}(h:Sf C nv tv w b) (hs:w.heap.size<=W.heap.size):Sf C nv tv W b:=⟨h.1,lR h.2.1 hs,h.2.2⟩
theorem Sn.Ak {C:Cx} {n n':Nat} {nv tv qH qG:Value} {w w':World}(hn:n'<=n) (h:∀b,Sf C nv tv w b->Sf C qH qG w' b):∀b,Sn C n nv tv w b->Sn C n' qH qG w' b:=fun b hb=>⟨lg hn hb.1,h b hb.2⟩
theorem AT.K9 {C:Cx}(hC:C.Ok){n:Nat} {nv tv qH qG:Value} {w w':World} {c:List Value} {t:Tm}(h:AT w (Sn C n nv tv w) c t) (k:F5 C w nv tv w' qH qG):AT w' (Sn C n qH qG w') c t:=
 h.Ak (fun b hb=>k.same hC hb.2) (Sn.Ak (lM _) fun _ hb=>k.sf hb)
theorem BJ.K9 {C:Cx}(hC:C.Ok){n:Nat} {nv tv qH qG:Value} {w w':World} {c:List Value} {t:List Tm}(h:BJ w (Sn C n nv tv w) c t) (k:F5 C w nv tv w' qH qG):BJ w' (Sn C n qH qG w') c t:=
 h.Ak (fun b hb=>k.same hC hb.2) (Sn.Ak (lM _) fun _ hb=>k.sf hb)
theorem AT.low {C:Cx} {n n':Nat} {nv tv:Value} {w:World} {c:List Value} {t:Tm}(h:AT w (Sn C n nv tv w) c t) (hn:n'<=n):AT w (Sn C n' nv tv w) c t:=AT.imp h (Sn.Ak hn fun _ hb=>hb)
theorem BJ.low {C:Cx} {n n':Nat} {nv tv:Value} {w:World} {c:List Value} {t:List Tm}(h:BJ w (Sn C n nv tv w) c t) (hn:n'<=n):BJ w (Sn C n' nv tv w) c t:=h.Ak (fun _ _=>rfl) (Sn.Ak hn fun _ hb=>hb)
theorem Sf.row {C:Cx} {nv tv:Value} {w:World} {b:Nat}(h:Sf C nv tv w b) (k:Nat) (ds:Array Value):Sf C nv tv (w.setRow k ds) b:=h.AY (pR (Al _ _ _).symm)
theorem AT.ED {C:Cx} {n:Nat} {nv tv:Value} {w:World} {c:List Value} {t:Tm}(h:AT w (Sn C n nv tv w) c t){k:Nat}(hk:k<n) (ds:Array Value):AT (w.setRow k ds) (Sn C n nv tv (w.setRow k ds)) c t:=
 h.Ak (fun b hb=>mH _ _ _ _ (by have:=hb.1;omega)) (Sn.Ak (lM _) fun _ hb=>hb.row _ _)
theorem BJ.ED {C:Cx} {n:Nat} {nv tv:Value} {w:World} {c:List Value} {t:List Tm}(h:BJ w (Sn C n nv tv w) c t){k:Nat}(hk:k<n) (ds:Array Value):BJ (w.setRow k ds) (Sn C n nv tv (w.setRow k ds)) c t:=
 h.Ak (fun b hb=>mH _ _ _ _ (by have:=hb.1;omega)) (Sn.Ak (lM _) fun _ hb=>hb.row _ _)
theorem GZ.Ak {w w':World} {S S':Nat->Prop} {v:Value} {l:List Tm}(h:GZ w S v l) (hs:∀b,S b->w'.heap[b]? =w.heap[b]?) (hi:∀b,S b->S' b):GZ w' S' v l:=by
 rcases h with h|⟨b,cap,cs,h1,h2,h3,h4,h5⟩
 ·exact .inl h
 ·exact .inr ⟨b,cap,cs,h1,hi b h2,fun j hj=>(AO (hs b h2) j).trans (h3 j hj),h4.Ak hs hi,h5⟩
theorem GZ.K9 {C:Cx}(hC:C.Ok){n:Nat} {nv tv qH qG:Value} {w w':World} {v:Value} {l:List Tm}(h:GZ w (Sn C n nv tv w) v l) (k:F5 C w nv tv w' qH qG):GZ w' (Sn C n qH qG w') v l:=
 h.Ak (fun b hb=>k.same hC hb.2) (Sn.Ak (lM _) fun _ hb=>k.sf hb)
theorem AT.of_slice {w:World} {S:Nat->Prop} {v:Value} {l:List Tm}(h:GZ w S v l) (hl:0<l.length) (nm:Bs):AT w S (cQ 5 nm [] 0 0 v) (.cmp nm l):=by
 rcases h with⟨_,rfl⟩|⟨b,cap,cs,rfl,h2,h3,h4,h5⟩
 ·cases hl
 ·exact .cmp nm l b 0 cap cs h2 (fun j hj=>by rw[me];exact h3 j hj) h4
def Gy (nm:Bs) (v:Value):Array Value:= #[.int .i64 5,.string (bs nm),.string ⟨#[]⟩,.int .u64 0,.int .i64 0,v]
theorem IJ (nm:Bs){v:Value}(h:v.oneCell'=true):(Gy nm v).all (·.oneCell')=true:=by
 have e1:∀k a,(Value.int k a).oneCell'=true:=fun _ _=>rfl;have e2:∀x,(Value.string x).oneCell'=true:=fun _=>rfl;simp[Gy,e1,e2,h]
theorem GZ.form {w:World} {S:Nat->Prop} {v:Value} {l:List Tm}(h:GZ w S v l):∃a n c,v= .slice a n c:=by
 rcases h with⟨⟨a,c,rfl⟩,_⟩|⟨b,cap,cs,rfl,_⟩
 ·exact⟨_,_,_,rfl⟩
 ·exact⟨_,_,_,rfl⟩
theorem eX {C:Cx}(hC:C.Ok) (hT:C.Za){n:Nat}(ih:Rec C n){s:RS} {nm:Bs} {t:Tk} {most:Int} {w:World} {nv tv:Value}(h:A0 C w s nv tv) (sh:nm.length<=1000000000) (hf:4*(C.ts.length-s.k)+4<=n+1) (rK:0<=most) (qw:most<=1200) (hp:Pz.AG (now C.ts s) 40=true) (wE:(now C.ts s).ly=false):
  Calls prog 71 #[.pointer (some ⟨C.R,0,none⟩),.string (bs nm),Fk t,.int .i64 most] w (Out C w nv tv (Aq C.ts C.O C.qt CZ (n+1) s nm t most)):=by
 have e1:Aq C.ts C.O C.qt CZ (n+1) s nm t most=(Ba C.ts C.O C.qt CZ n (s.on 1)).bind fun(l,s)=>(pass C.ts s 41).bind fun s=>(Rz.ok (Tm.cmp nm l,(0:Int),s):Rz (Tm×Int×RS)):=by
  rw[Aq];rw[lQ (by rw[hp,wE];rfl)]
 rw[e1];clear e1;have rD:=lK (h.bd.AG hC.last hp);have HIT:=lK (fun W qH qG (hW:A0 C W (s.on 1) qH qG)=>ih.items (s.on 1) W qH qG hW (by have:=h.bd.kl;show 4*(C.ts.length-(s.k+1))+4<=n;omega));have HI:=lK h;have CN:Hid (∀W,Below w.heap.size w W->Calls prog 25 #[.pointer (some ⟨C.R,0,none⟩)] W fun e w'=>e= .returned (Fk (now C.ts s))/\Below W.heap.size W w'):=lK (fun W hb=>JK hC (h.below hC hb));obtain⟨u,hu⟩:∃u,u=now C.ts s:=⟨_,rfl⟩;rw[<-hu]at CN;have CP:=lK (fun W=>Au u 40 W);have lk:(s.k:Int)<100000000:=by have:=h.bd.kl;have:=hC.len;omega
 rw[<-hu]at hp wE;rw[hp]at CP;clear hp hu ih;generalize Ba C.ts C.O C.qt CZ n (s.on 1)=r at HIT⊢;have HB:Hid (Below w.heap.size w ((w.alloc (.cells (BH t) 71)).alloc (.cells zV 31))):=lK ((Bzz _).alloc (by simp) _);have wA:=lK ((Lc.new h (BH t) 71).below (w':=(w.alloc (.cells (BH t) 71)).alloc (.cells zV 31)) (Bzz _));have uJ:Hid (Lc C nv tv ((w.alloc (.cells (BH t) 71)).alloc (.cells zV 31)) (w.heap.size+1) zV 31):=lK (by
  have h1:=Lc.new (h.below hC (Bzz (.cells (BH t) 71))) zV 31
  rwa [show(w.alloc (.cells (BH t) 71)).heap.size=w.heap.size+1 by simp]at h1)
 have SA:=lK ((D8.start h).below hC HB.o);clear h;show Calls prog 71 #[.pointer (some ⟨C.R,0,none⟩),.string (bs nm),.agg (BH t),.int .i64 most] w _;go_enter func71,ntmps71
 go_wp2_with (go_at_call 25;(with_reducible refine(CN.o _ HB.o).mono ?_))
 rintro e W1 ⟨rfl,b1⟩;generalize(w.alloc (.cells (BH t) 71)).alloc (.cells zV 31)=A at*;have SB:=lK ((SA.o.below hC b1).below hC (Bzz (.cells zW 71)));have sA:=lK (Lc.new (SA.o.below hC b1).inv zW 71);have vQ:=lK ((wA.o.below b1).below (Bzz (.cells zW 71)));have xW:=lK ((uJ.o.below b1).below (Bzz (.cells zW 71)));have ry:Hid (w.heap.size<W1.heap.size/\w.heap.size+1<W1.heap.size):=lK ⟨lR wA.o.lt b1.size,lR uJ.o.lt b1.size⟩;clear b1 SA wA uJ HB
 go_upto_region 2 with(refine YS rfl _ _ rfl W1.heap.size u rfl rfl _ sA.o.h rfl ?_)
 have ST:=lK (SB.o.row hC sA.o.sf (by have:=ry.o;omega) (BH u));have sq:=lK (sA.o.row (BH u));have L6:=lK (vQ.o.Bu (nM ry.o.1) (BH u));have L8:=lK (xW.o.Bu (nM ry.o.2) (BH u));generalize(W1.alloc (.cells zW 71)).setRow W1.heap.size (BH u)=X at*;obtain⟨T,sS⟩:∃T,T=W1.heap.size:=⟨_,rfl⟩;rw[<-sS]at sq ry⊢;clear sS SB sA vQ xW
 try simp only[Act.put]
 have x6:=(Af sq.o.h).2.2;have zm:=lK wE;rw[wE]at x6;clear wE
 go_wp2_with (first|(refine Ei rfl _ rfl T u rfl sq.o.h ?_)|(go_at_call 41;(with_reducible refine(CP.o _).mono ?_)))
 rintro e W2 ⟨rfl,b2⟩;have ST:=lK (ST.o.below hC b2);have L8:=lK (L8.o.below b2);have x6:=(Af (sq.o.below b2).h).2.2;rw[zm.o]at x6;clear b2;have x1:=ST.o.inv.hR.cells.2.1;have f1:=Lib.frozen_of_heap ST.o.inv.hR.h 1
 go_upto_region 4 with fail
 have ST:=lK (ST.o.on hC rD.o (v:= .int .i64 ((s.k:Int)+1)) rfl);have L8:=lK (L8.o.on hC (.int .i64 ((s.k:Int)+1)));clear x1 f1 x6 zm sq L6;generalize W2.setCell _ _=V at*
 go_wp2_with (go_at_call 69;(refine(HIT.o _ _ _ ST.o.inv).mono ?_))
 rintro e W3 h3;cases r with
 |stop wd a=>
  obtain⟨rfl,qH,qG,hk⟩:=h3;have HK:=lK (ST.o.Bj.trans hk);clear hk;go_wp2;exact⟨rfl,rfl,qH,qG,HK.o⟩
 |ok p=>
  obtain⟨l,s1⟩:=p;obtain⟨v,qI,qJ,rfl,h4,h5,h6,h7⟩:=h3;obtain⟨va,vn,vc,rfl⟩:=GZ.form h5;have ST2:=lK (ST.o.call h4);have L8b:=lK (L8.o.step hC h4.Bj);have HS:=lK h5;have HL:=lK h6;have HV:Hid (w.heap.size+1<V.heap.size):=lK L8.o.lt;have vV:=lK (Og hC h4.inv 41);clear h4 h5 h6 h7 HIT;obtain⟨q,hq⟩:∃q,q=pass C.ts s1 41:=⟨_,rfl⟩;rw[<-hq]at vV;have HQ:=lK hq;clear hq
  go_wp2_with (go_at_call 67;(refine vV.o.mono ?_))
  rintro e W4 h8;cases q with
  |stop wd a=>
   obtain⟨rfl,hk⟩:=h8;have HK:=lK (ST2.o.Bj.trans hk);clear hk;go_wp2;refine⟨rfl,?_⟩;show Out C w nv tv ((pass C.ts s1 41).bind fun s=>Rz.ok (Tm.cmp nm l,(0:Int),s)) _ _;rw[<-HQ.o];exact⟨rfl,qI,qJ,HK.o⟩
  |ok s2=>
   obtain⟨rfl,h9⟩:=h8;have ST3:=lK (ST2.o.call h9);have L8c:=lK (L8b.o.step hC h9.Bj);have HS2:=lK (HS.o.K9 hC h9.Bj);clear h9
   go_wp2_with (refine F8 rfl _ _ rfl (w.heap.size+1) (Gy nm (.slice va vn vc)) rfl rfl _ L8c.o.h rfl rfl (IJ _ rfl) ?_)
   show bodyPost prog Tryz.f71 (Out C w nv tv ((pass C.ts s1 41).bind fun s=>Rz.ok (Tm.cmp nm l,(0:Int),s))) _ _ _;rw[<-HQ.o];refine lS (v:= .tuple #[.agg (Gy nm (.slice va vn vc)),.int .i64 0]) ?_ rfl ⟨Gy nm (.slice va vn vc),qI,qJ,rfl,ST3.o.row hC L8c.o.sf (mO _) _,?_⟩
   ·exact results_cell_tmp rfl _ _ (w.heap.size+1) 31 (Gy nm (.slice va vn vc)) (0,0) _ (.int .i64 0) rfl rfl (mF _ _ _ _ _ _ L8c.o.h) mE rfl Cg
   ·exact AT.low (AT.ED (AT.of_slice HS2.o HL.o nm) HV.o _) (by have:=HV.o;omega)
end Go.Proofs
