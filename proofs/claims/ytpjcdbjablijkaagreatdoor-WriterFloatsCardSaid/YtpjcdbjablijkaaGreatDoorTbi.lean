import Derived.Test.YtpjcdbjablijkaaGreatDoorTbc
import Derived.Test.YtpjcdbjablijkaaGreatDoorTbh
import Derived.Deep.CutRange
import Derived.RegionTactic
import Derived.ChangeAlike
import Derived.BigRegion
import Derived.Test.YtpjcdbjablijkaaGreatDoorTaa
set_option maxRecDepth 1000000
set_option maxHeartbeats 40000000
namespace Go.Pf
theorem TabF.mono {w:World} {B B':Nat}(h:TabF w B) (hb:B≤B'):TabF w B':=
 ⟨Nat.lt_of_lt_of_le h.lim hb,h.i0,h.i1,h.i2⟩
theorem Tab13.mono {w:World} {B B':Nat}(h:Tab13 w B) (hb:B≤B'):Tab13 w B':=by
 obtain⟨g,o,c,h1,h2,h3⟩:=h
 exact⟨g,o,c,by omega,by omega,h3⟩
end Go.Pf
namespace Go.Proofs
open Go.RowKit Go.Pf Go.Lx Go.Hb Go.Rb Go.Bg
theorem below_dn {B:Nat} {w W:World}(h:Below B w W) (n:Nat):Below B w (W.drewN n):=⟨h.os,h.tape,h.output,h.size,h.block⟩
theorem TabP.mono {w:World} {B B':Nat}(h:TabP w B) (hb:B≤B'):TabP w B':=⟨⟨h.a.f.mono hb,h.a.t13.mono hb,h.a.t16,h.a.o9⟩,h.e6⟩
theorem TabP.next {w w':World}(h:TabP w w.heap.size) (hb:Below w.heap.size w w'):TabP w' w'.heap.size:=(h.below hb).mono hb.size
theorem TabP.drewN {w:World} {B:Nat}(h:TabP w B) (n:Nat):TabP (w.drewN n) B:=h.below (below_dn (Below.refl B w) n)
theorem or_e {c:Nat}(h:c<256):((c|||32:Nat)==101)=decide (c=101∨c=69):=by
 have key:∀k:Fin 256,((k.val|||32:Nat)==101)=decide (k.val=101∨k.val=69):=by decide+kernel
 exact key ⟨c,h⟩
structure FW (w:World) (b:Nat) (s:ByteArray) (a:Nat) (W:World):Prop where
 t0:Tk7 W w.heap.size
 st:St W b s a
 bel:Below w.heap.size w W
 tab:TabP W W.heap.size
 sz:w.heap.size+1≤W.heap.size
theorem FW.call {w:World} {b:Nat} {s:ByteArray} {a:Nat} {W W':World}(h:FW w b s a W) (hbw:b<w.heap.size) (hb:Below W.heap.size W W'):FW w b s a W':=by
 have hz:=h.sz
 have hs:=hb.size
 exact⟨⟨(hb.block _ (by omega)).trans h.t0.h⟩,⟨(hb.block _ (by omega)).trans h.st.h⟩,h.bel.trans (hb.mono (by omega)),h.tab.next hb,by omega⟩
theorem FW.drewN {w:World} {b:Nat} {s:ByteArray} {a:Nat} {W:World}(h:FW w b s a W) (n:Nat):FW w b s a (W.drewN n):=
 ⟨⟨h.t0.h⟩,⟨h.st.h⟩,below_dn h.bel n,h.tab.drewN n,h.sz⟩
theorem Tryz.pfloat (b:Nat) (s:ByteArray) (a p:Nat) (w:World) (hs:s.size≤100000000) (hst:Hid (St w b s a)) (hT:Hid (TabP w w.heap.size)) (hP:Hid (FlP s a p (rowE digB s (p+1)))) (hN:Hid (∀t,rowE digB s (p+1)≤t→t≤s.size→(rf (s.extract a t) (rowE digB s (p+1)-a)).trunc=false)):
 Calls Tryz.prog 112 #[.pointer (some ⟨b,0,none⟩),.int .i64 p] w (TokpEnd (fltR s a p) w):=by
 have hb:=hst.out.lt
 have k1:b<w.heap.size+1:=by omega
 obtain⟨R,hR⟩:∃R,R=fltR s a p:=⟨_,rfl⟩
 rw[←hR]
 obtain⟨g,hg⟩:∃g,g=p+1:=⟨_,rfl⟩
 have eg:(p:Int)+1=g:=by omega
 obtain⟨E,hE⟩:∃E,E=rowE digB s g:=⟨_,rfl⟩
 have hap:=hP.out.ap
 have hpE:=hP.out.pe
 have hEs:=hP.out.es
 have hgp:=hP.out.ps
 rw[←hg,←hE]at hpE hEs
 have HP2:Hid (FlP s a p E):=Hi (by rw[hE,hg];exact hP.out)
 have CP1:Hid (∀w,Calls Tryz.prog 66 #[.string s,.int .i64 g,.func (.func 62) #[] #[]] w (RowEnd E w)):=Hi (fun w=>by rw[hE];exact Tryz.prowDig s g w (by omega) (by omega))
 obtain⟨m1,hm1⟩:∃m,m=E-a:=⟨_,rfl⟩
 obtain⟨m,hm⟩:∃m,m=m1-1:=⟨_,rfl⟩
 have em1:(E:Int)-a=m1:=by omega
 have em:(m1:Int)-1=m:=by omega
 have bm:m≤100000000:=by omega
 have bm1:m1≤100000000:=by omega
 have HM:Hid (m+1=E-a):=Hi (by omega)
 have HE:=Hi hE
 have HG:=Hi hg
 obtain⟨c,hc⟩:∃c,c=byt s E:=⟨_,rfl⟩
 have HC:=Hi hc
 obtain⟨TE,hTE⟩:∃T,T=decide (c=101∨c=69):=⟨_,rfl⟩
 have HTE:=Hi hTE
 obtain⟨x1,hx1⟩:∃x,x=E+1:=⟨_,rfl⟩
 have ex1:(E:Int)+1=x1:=by omega
 obtain⟨sb,hsb⟩:∃c,c=byt s x1:=⟨_,rfl⟩
 have HSB:=Hi hsb
 obtain⟨SG,hSG⟩:∃T,T=decide (sb=43∨sb=45):=⟨_,rfl⟩
 have HSG:=Hi hSG
 obtain⟨F,hF⟩:∃F,F=expF s E:=⟨_,rfl⟩
 obtain⟨L,hL⟩:∃L,L=rowE digB s F:=⟨_,rfl⟩
 have hFx:F=if SG=true then x1+1 else x1:=by
  rw[hF,hSG]
  unfold expF
  rw[←hx1,←hsb]
  by_cases h:sb=45∨sb=43
  ·rw[if_pos h,if_pos (decide_eq_true h.symm)];omega
  ·rw[if_neg h,if_neg (by rw[decide_eq_true_eq];exact fun h2=>h h2.symm)]
 have bF:F≤100000002:=by rw[hFx];split<;>omega
 have CPL:Hid (∀w,Calls Tryz.prog 66 #[.string s,.int .i64 F,.func (.func 62) #[] #[]] w (RowEnd L w)):=Hi (fun w=>by rw[hL];exact Tryz.prowDig s F w (by omega) (by omega))
 have hFL:F≤L:=by rw[hL];exact rowE_ge _ _ _
 have bL:L≤100000002:=by
  rcases Nat.lt_or_ge s.size F with h|h
  ·rw[hL,rowE_end (by omega)];omega
  ·have:=rowE_le digB s F h;omega
 have hLs:F<L→L≤s.size:=fun h=>by
  rcases Nat.lt_or_ge s.size F with h1|h1
  ·rw[hL,rowE_end (by omega)]at h;omega
  ·rw[hL];exact rowE_le digB s F h1
 have hI:expI s E↔(TE=true∧F<L):=by
  unfold expI
  rw[←hF,←hL,←hc,hTE]
  exact⟨fun h=>⟨decide_eq_true h.1,h.2⟩,fun h=>⟨of_decide_eq_true h.1,h.2⟩⟩
 obtain⟨TO,hTO⟩:∃TO:Nat,TO=if expI s E then L else E:=⟨_,rfl⟩
 have hR2:(expI s E∧4<L-F→R= .err a 34)∧(¬(expI s E∧4<L-F)→∃(f:Nat) (sg x:Int),R=fltF s a p x TO∧FTxt (s.extract a TO) (p-a) (E-a) (f-a) sg∧ef (s.extract a TO) (f-a) ((s.extract a TO).size-(f-a))*sg=x∧E≤TO∧TO≤s.size):=by
  rw[hR]
  unfold fltR
  rw[←hg,←hE,←hF,←hL]
  constructor
  ·rintro⟨h1,h2⟩
   rw[if_pos h1,if_pos h2]
  ·intro h
   by_cases h1:expI s E
   ·rw[if_pos h1,if_neg (fun h2=>h ⟨h1,h2⟩)]
    have h3:=hI.1 h1
    have h5:¬4<L-F:=fun h2=>h ⟨h1,h2⟩
    have h4:=hLs h3.2
    have hd:∀j,F≤j→j<L→48≤byte s j∧byte s j≤57:=fun j k1 k2=>row_dig (by omega) k1 (by rw[←hL];exact k2)
    have hto:TO=L:=by rw[hTO,if_pos h1]
    have h101:byt s E=101∨byt s E=69:=by rw[←hc];exact of_decide_eq_true (hTE▸h3.1)
    obtain⟨sg,hsg⟩:∃sg:Int,sg=if sb=45 then-1 else 1:=⟨_,rfl⟩
    have hEF:(F=E+1∧sg=1)∨(F=E+2∧sg=1∧byt s (E+1)=43)∨(F=E+2∧sg= -1∧byt s (E+1)=45):=by
     rw[←hx1,←hsb]
     by_cases q1:sb=45
     ·right;right
      have q2:SG=true:=by rw[hSG];exact decide_eq_true (.inr q1)
      rw[if_pos q2]at hFx
      rw[if_pos q1]at hsg
      exact⟨by omega,hsg,q1⟩
     ·rw[if_neg q1]at hsg
      by_cases q3:sb=43
      ·right;left
       have q2:SG=true:=by rw[hSG];exact decide_eq_true (.inl q3)
       rw[if_pos q2]at hFx
       exact⟨by omega,hsg,q3⟩
      ·left
       have q2:¬SG=true:=by rw[hSG,decide_eq_true_eq];exact fun h=>h.elim q3 q1
       rw[if_neg q2]at hFx
       exact⟨by omega,hsg⟩
    rw[hto]
    refine⟨F,sg,_,rfl,flt_exp HP2.out h101 hEF h3.2 (by omega) h4 hd,?_,by omega,h4⟩
    rw[ef_some (by omega) hFL h4 hd,hsg]
    unfold expV
    rw[←hF,←hL,←hx1,←hsb]
    split<;>omega
   ·have hto:TO=E:=by rw[hTO,if_neg h1]
    rw[if_neg h1,hto]
    exact⟨E,1,_,rfl,flt_plain HP2.out,ef_none (by rw[ByteArray.size_extract];omega) 1,nR _,hEs⟩
 have HR2:=Hi hR2
 have HI:=Hi hI
 have HTO:=Hi hTO
 have HFX:=Hi hFx
 have HX1:=Hi hx1
 have bTO:TO≤100000002:=by rw[hTO];split<;>omega
 have HW0:Hid (∀W1,W1=w.alloc (.cells #[.int .i64 0,.string ⟨#[]⟩,.string ⟨#[]⟩,.int .u64 0,.int .i64 0,.int .i64 0,.bool false] 28)→FW w b s a W1):=Hi (by
  rintro W1 rfl
  have bl:Below w.heap.size w (w.alloc (.cells #[.int .i64 0,.string ⟨#[]⟩,.string ⟨#[]⟩,.int .u64 0,.int .i64 0,.int .i64 0,.bool false] 28)):=(Below.refl _ _).alloc (nR _) _
  exact⟨Tk7.new w,hst.out.below bl,bl,hT.out.next bl,by simp⟩)
 clear hR hE hg hm hm1 hc hTE hx1 hsb hSG hF hL hFx hLs hI hTO hR2
 have e0:=hst.out.c0
 have e1:=hst.out.c1
 go_enter Tryz.func112,Tryz.ntmps112
 go_wp2_with fail
 generalize hW1:w.alloc _=W1
 have Q1:Hid (FW w b s a W1):=Hi (HW0.out W1 hW1.symm)
 clear hW1 e0 e1
 have c0:=Q1.out.st.c0
 have c1:=Q1.out.st.c1
 go_upto_region 3 with(go_at_call 66;(with_reducible refine(CP1.out _).mono ?_);rintro e w' ⟨rfl,rfl⟩)
 go_cut [43]from 13 to 44 (fun v wx=>W1=wx∧v= .bool TE)
 case first=>
  by_cases hlt:E<s.size
  ·have li:(E:Int)<s.size:=by omega
   have hcE:c=(s[E].toNat:Int):=by rw[HC.out];exact byt_in s E hlt
   obtain⟨y,hy⟩:∃y,y=s[E].toNat:=⟨_,rfl⟩
   have y256:y<256:=by rw[hy];exact s[E].toNat_lt
   obtain⟨o,ho⟩:∃o,o=y|||32:=⟨_,rfl⟩
   have hor:bits .or .u8 (s[E].toNat:Int) 32=(o:Int):=by
    rw[ho,←hy];exact u8_or_nat y 32 y256 (by decide)
   have ht:((o:Int)==101)=TE:=by
    have h1:=or_e y256
    rw[HTE.out,hcE,←hy]
    rw[←ho]at h1
    have h2:((o:Int)==101)=(o==101):=by
     by_cases h:o=101
     ·subst h;rfl
     ·rw[beq_of_ne (by omega:(o:Int)≠101),beq_false_of_ne h]
    rw[h2,h1]
    exact decide_eq_decide.2 (by omega)
   clear hcE hy ho y256
   go_wp2
   go_meet
   exact⟨rfl,rfl⟩
  ·have li:¬((E:Int)<s.size):=by omega
   have ht:TE=false:=by
    rw[HTE.out,HC.out,byt_out s E (by omega)];decide
   subst ht
   go_wp2
   go_meet
   exact⟨rfl,rfl⟩
 case rest=>
 obtain⟨rfl,rfl⟩:=hcut
 go_upto_if 43 with fail
 go_cut [7]from 9 (fun v7 wx=>W1=wx∧v7= .int .i64 TO∧¬(expI s E∧4<L-F))
 case first=>
  by_cases hTE2:TE=true
  ·subst hTE2
   go_upto_region 5 with fail
   go_cut [70]from 13 to 71 (fun v wx=>W1=wx∧v= .bool SG)
   case first=>
    by_cases hlt:x1<s.size
    ·have li:(x1:Int)<s.size:=by omega
     have hsE:sb=(s[x1].toNat:Int):=by rw[HSB.out];exact byt_in s x1 hlt
     by_cases q1:sb=43
     ·have t1:((s[x1].toNat:Int)==43)=true:=beq_of_eq (by omega)
      have t2:SG=true:=by rw[HSG.out];exact decide_eq_true (.inl q1)
      subst t2
      clear hsE q1
      go_wp2
      go_meet
      exact⟨rfl,rfl⟩
     ·have t1:((s[x1].toNat:Int)==43)=false:=beq_of_ne (by omega)
      by_cases q2:sb=45
      ·have t3:((s[x1].toNat:Int)==45)=true:=beq_of_eq (by omega)
       have t2:SG=true:=by rw[HSG.out];exact decide_eq_true (.inr q2)
       subst t2
       clear hsE q1 q2
       go_wp2
       go_meet
       exact⟨rfl,rfl⟩
      ·have t3:((s[x1].toNat:Int)==45)=false:=beq_of_ne (by omega)
       have t2:SG=false:=by rw[HSG.out];exact decide_eq_false (fun h=>h.elim q1 q2)
       subst t2
       clear hsE q1 q2
       go_wp2
       go_meet
       exact⟨rfl,rfl⟩
    ·have li:¬((x1:Int)<s.size):=by omega
     have t2:SG=false:=by rw[HSG.out,HSB.out,byt_out s x1 (by omega)];decide
     subst t2
     go_wp2
     go_meet
     exact⟨rfl,rfl⟩
   case rest=>
   obtain⟨rfl,rfl⟩:=hcut
   go_upto_if 70 with fail
   go_cut [9]from 13 (fun v9 wx=>W1=wx∧v9= .int .i64 F)
   case first=>
    by_cases hSG2:SG=true
    ·have eF:(x1:Int)+1=F:=by have h:=HFX.out;rw[if_pos hSG2]at h;omega
     subst hSG2
     go_wp2
     go_meet
     exact⟨rfl,rfl⟩
    ·have eF:x1=F:=by have h:=HFX.out;rw[if_neg hSG2]at h;omega
     have hS:SG=false:=by simpa using hSG2
     subst hS
     go_wp2
     go_meet
     exact⟨rfl,rfl⟩
   case rest=>
   obtain⟨rfl,rfl⟩:=hcut
   by_cases hFL2:F<L
   ·have v3:decide (F<L)=true:=decide_eq_true hFL2
    have v4:decide ((F:Int)<L)=true:=dTo
    have v5:(F:Int)<L:=by omega
    obtain⟨M,hM⟩:∃M,M=L-F:=⟨_,rfl⟩
    have eM:(L:Int)-F=M:=by omega
    have bM:M≤100000002:=by omega
    have i1:Hid (expI s E):=Hi (HI.out.2 ⟨rfl,hFL2⟩)
    by_cases h4:4<M
    ·have HF:Hid (R= .err a 34):=Hi (HR2.out.1 ⟨i1.out,by omega⟩)
     have v6:decide ((4:Int)<M)=true:=dTo
     have v7:(4:Int)<M:=by omega
     clear hM h4
     go_wp2_with (go_at_call 66;(with_reducible refine(CPL.out _).mono ?_);rintro e w' ⟨rfl,rfl⟩)
     obtain⟨x00,x01,x02,x03,x04,x05,x06⟩:=Q1.out.t0.cs
     obtain⟨y00,y01,y02,y03,y04,y05,y06⟩:=Q1.out.t0.fs
     have c1:=Q1.out.st.c1
     go_region
     go_wp2_with fail
     refine bodyPost_ret (v:= .tuple #[tokV 0 ⟨#[]⟩ ⟨#[]⟩ 0 0 0 false,.int .i64 a,.int .i64 34]) ?_ rfl (TokpEnd.er HF.out (below_tok7 Q1.out.bel (nR _) _ _ _ _ _ _ _).drew)
     simp only[results,Tryz.results112]
     go_simp
     try rfl
    ·have v6:decide ((4:Int)<M)=false:=dFo
     have v7:¬(4:Int)<M:=by omega
     have NN:Hid (TO=L∧¬(expI s E∧4<L-F)):=Hi ⟨by rw[HTO.out,if_pos i1.out],by omega⟩
     clear hM h4
     go_wp2_with (go_at_call 66;(with_reducible refine(CPL.out _).mono ?_);rintro e w' ⟨rfl,rfl⟩)
     go_meet
     exact⟨rfl,by rw[NN.out.1],NN.out.2⟩
   ·have v3:decide (F<L)=false:=decide_eq_false hFL2
    have v4:decide ((F:Int)<L)=false:=dFo
    have v5:¬(F:Int)<L:=by omega
    have NI:¬expI s E:=fun h=>hFL2 (HI.out.1 h).2
    have NN:Hid (TO=E∧¬(expI s E∧4<L-F)):=Hi ⟨by rw[HTO.out,if_neg NI],fun h=>NI h.1⟩
    clear NI
    go_wp2_with (go_at_call 66;(with_reducible refine(CPL.out _).mono ?_);rintro e w' ⟨rfl,rfl⟩)
    go_meet
    exact⟨rfl,by rw[NN.out.1],NN.out.2⟩
  ·have hS:TE=false:=by simpa using hTE2
   have NI:¬expI s E:=fun h=>hTE2 (HI.out.1 h).1
   have NN:Hid (TO=E∧¬(expI s E∧4<L-F)):=Hi ⟨by rw[HTO.out,if_neg NI],fun h=>NI h.1⟩
   clear NI hTE2
   subst hS
   go_wp2
   go_meet
   exact⟨rfl,by rw[NN.out.1],NN.out.2⟩
 case rest=>
 obtain⟨rfl,rfl,hnn⟩:=hcut
 obtain⟨f,sg,x,r1,r2,r3,r4,r5⟩:=HR2.out.2 hnn
 have w9:∀W,(Instr.slice 9 (.string s) (some (.int .i64 (a:Int))) (some (.int .i64 (TO:Int))) none).run Tryz.prog W= .ok (.string (s.extract a TO)) W:=fun W=>by
  have:=run_slice_string (P:=Tryz.prog) (w:=W) 9 s .i64 .i64 (a:Int) (TO:Int) Tryz.underlying9 (by omega) (by omega) (by omega)
  rw[show((a:Int)).toNat=a by omega,show((TO:Int)).toNat=TO by omega]at this
  exact this
 obtain⟨xs,hxs⟩:∃xs,xs=s.extract a TO:=⟨_,rfl⟩
 have hn2:Hid ((rf xs (E-a)).trunc=false):=Hi (by
  have e1:rowE digB s (p+1)=E:=by rw[HE.out,HG.out]
  have h:=hN.out TO (by omega) r5
  rw[e1]at h
  rw[hxs];exact h)
 have CPF:Hid (∀W,TabP W W.heap.size→Calls Tryz.prog 159 #[.string xs,.int .i64 64] W (FlSays xs (p-a) (E-a) (f-a) sg W)):=Hi (fun W hW=>Tryz.parseFloat xs (p-a) (E-a) (f-a) sg W (Hi (by rw[hxs];exact r2)) hn2 (by rw[hxs,ByteArray.size_extract];omega) (Hi hW))
 have HFT:Hid (∀bb,FlT xs (p-a) (E-a) (f-a) sg bb→bb=fltB (vN 10 (fltD s a p) (fltD s a p).size) (x-((rowE digB s (p+1):Int)-p-1))∧bb≤infB):=Hi (fun bb h=>⟨by
  have e1:rowE digB s (p+1)=E:=by rw[HE.out,HG.out]
  refine flt_bits (f:=f) (t:=TO) (sg:=sg) (by rw[e1];exact HP2.out) (by omega) (by omega) r3 ?_
  rw[e1,←hxs];exact h,h.le⟩)
 rw[←hxs]at w9
 have HR3:Hid (R=fltF s a p x TO∧rowE digB s (p+1)=E):=Hi ⟨r1,by rw[HE.out,HG.out]⟩
 clear r1 r2 r3 r4 r5 hnn hxs
 have HQD:Hid (FW w b s a W1.drew):=Hi ⟨⟨Q1.out.t0.h⟩,⟨Q1.out.st.h⟩,Q1.out.bel.drew,Q1.out.tab.below (Below.refl _ _).drew,Q1.out.sz⟩
 have HQN:Hid (∀n,FW w b s a (W1.drewN n)):=Hi (fun n=>Q1.out.drewN n)
 have HTD:Hid (TabP W1.drew W1.drew.heap.size):=Hi HQD.out.tab
 have HTN:Hid (∀n,TabP (W1.drewN n) (W1.drewN n).heap.size):=Hi (fun n=>(HQN.out n).tab)
 go_upto_region 12 with fail
 go_cut [11,12]from 13 (fun v11 v12 wx=>∃bb:Nat,v11= .float .f64 bb∧(E-a≤401→FlT xs (p-a) (E-a) (f-a) sg bb)∧FW w b s a wx)
 case first=>
  go_region_with (go_at_call 159;(with_reducible refine(CPF.out _ HTD.out).mono ?_);rintro e W2 ⟨bb,er,rfl,hfl,b2⟩;have Q2:=Hi (HQD.out.call hb b2);have HFL:=Hi hfl;clear b2 hfl)
  all_goals
   go_wp2
   go_meet
   exact⟨_,rfl,HFL.out,Q2.out⟩
 case rest=>
 obtain⟨bb,rfl,hfl,hq2⟩:=hcut
 have Q2:=Hi hq2
 have d0:=hq2.st.c0
 have d1:=hq2.st.c1
 clear hq2 c0 c1 w9
 by_cases h400:400<m
 ·have v1:decide ((400:Int)<m)=true:=dTo
  have v2:(400:Int)<m:=by omega
  have HF:Hid (R= .err a 34):=Hi (by rw[HR3.out.1];refine fltF_err ?_;rw[HR3.out.2];have:=HM.out;omega)
  clear h400 hfl
  go_wp2_with fail
  obtain⟨x00,x01,x02,x03,x04,x05,x06⟩:=Q2.out.t0.cs
  obtain⟨y00,y01,y02,y03,y04,y05,y06⟩:=Q2.out.t0.fs
  have c1:=Q2.out.st.c1
  go_region
  go_wp2_with fail
  refine bodyPost_ret (v:= .tuple #[tokV 0 ⟨#[]⟩ ⟨#[]⟩ 0 0 0 false,.int .i64 a,.int .i64 34]) ?_ rfl (TokpEnd.er HF.out (below_tok7 Q2.out.bel (nR _) _ _ _ _ _ _ _).drew)
  simp only[results,Tryz.results112]
  go_simp
  try rfl
 ·have v1:decide ((400:Int)<m)=false:=dFo
  have v2:¬(400:Int)<m:=by omega
  obtain⟨hb1,hb2⟩:=HFT.out bb (hfl (by have:=HM.out;omega))
  have hdec:=fltF_dec (s:=s) (a:=a) (p:=p) (t:=TO) (b:=bb) (x:=x) (by rw[HR3.out.2];have:=HM.out;omega) hb1
  rw[←HR3.out.1]at hdec
  have CI:Hid (∀W,Calls Tryz.prog 16 #[.float .f64 bb,.int .i64 0] W fun e w'=>e= .returned (.bool (decide (bb=infB)))∧W=w'):=Hi (fun W=>Tryz.isInf bb (Hi hb2) W)
  by_cases hinf:bb=infB
  ·have HF:Hid (R= .err a 34):=Hi (hdec.2 (by omega))
   have CI:Hid (∀W,Calls Tryz.prog 16 #[.float .f64 bb,.int .i64 0] W fun e w'=>e= .returned (.bool true)∧W=w'):=Hi (fun W=>by have h:=CI.out W;rw[decide_eq_true hinf]at h;exact h)
   clear hdec hb1 hb2 hfl h400 hinf
   go_wp2_with (go_at_call 16;(with_reducible refine(CI.out _).mono ?_);rintro e w' ⟨rfl,rfl⟩)
   obtain⟨x00,x01,x02,x03,x04,x05,x06⟩:=Q2.out.t0.cs
   obtain⟨y00,y01,y02,y03,y04,y05,y06⟩:=Q2.out.t0.fs
   have c1:=Q2.out.st.c1
   go_region
   go_wp2_with fail
   refine bodyPost_ret (v:= .tuple #[tokV 0 ⟨#[]⟩ ⟨#[]⟩ 0 0 0 false,.int .i64 a,.int .i64 34]) ?_ rfl (TokpEnd.er HF.out (below_tok7 Q2.out.bel (nR _) _ _ _ _ _ _ _).drew)
   simp only[results,Tryz.results112]
   go_simp
   try rfl
  ·have HF:Hid (R= .ok 5 ⟨#[]⟩ ⟨#[]⟩ bb a TO):=Hi (hdec.1 (by omega))
   have CI:Hid (∀W,Calls Tryz.prog 16 #[.float .f64 bb,.int .i64 0] W fun e w'=>e= .returned (.bool false)∧W=w'):=Hi (fun W=>by have h:=CI.out W;rw[decide_eq_false hinf]at h;exact h)
   clear hdec hb1 hb2 hfl h400 hinf
   go_wp2_with (go_at_call 16;(with_reducible refine(CI.out _).mono ?_);rintro e w' ⟨rfl,rfl⟩)
   obtain⟨x00,x01,x02,x03,x04,x05,x06⟩:=Q2.out.t0.cs
   obtain⟨y00,y01,y02,y03,y04,y05,y06⟩:=Q2.out.t0.fs
   have c1:=Q2.out.st.c1
   go_region_with (rw[tobits_run,Oper.upon_value])
   all_goals
    go_wp2_with fail
    refine bodyPost_ret (v:= .tuple #[tokV 5 ⟨#[]⟩ ⟨#[]⟩ bb a TO false,.int .i64 0,.int .i64 0]) ?_ rfl (TokpEnd.ok (k:=5) HF.out (below_tok7 Q2.out.bel (nR _) _ _ _ _ _ _ _).drew)
    simp only[results,Tryz.results112]
    go_simp
    try rfl
end Go.Proofs
