import Derived.Test.YtnipmfaikiaipaaGreatDoorTbc
import Derived.Test.YtnipmfaikiaipaaGreatDoorTbh
import Derived.BigRegion
set_option linter.unusedVariables false
set_option linter.unusedSimpArgs false
set_option maxRecDepth 1000000
set_option maxHeartbeats 40000000
namespace Go.Pf
theorem LP.mono {w:World} {B B':Nat}(h:LP w B) (hb:B<=B'):LP w B':=by
 obtain⟨g,o,c,h1,h2,h3,h4⟩:=h;exact⟨g,o,c,by omega,IN h2 hb,h3,h4⟩
theorem NC.mono {w:World} {B B':Nat}(h:NC w B) (hb:B<=B'):NC w B':=by
 obtain⟨g,o,c,h1,h2,h3⟩:=h.p;exact⟨IN h.cM hb,h.l.mono hb,⟨g,o,c,by omega,h2,h3⟩,h.i0,h.i1,h.i2⟩
theorem IG.mono {w:World} {B B':Nat}(h:IG w B) (hb:B<=B'):IG w B':=by
 obtain⟨g,o,c,h1,h2,h3⟩:=h;exact⟨g,o,c,by omega,by omega,h3⟩
end Go.Pf
namespace Go.Proofs
open Go.RowKit Go.Pf Go.Lx Go.Hb Go.Rb Go.Bg
theorem Lb {B:Nat} {w W:World}(h:Below B w W) (n:Nat):Below B w (W.drewN n):=⟨h.os,h.tape,h.output,h.size,h.block⟩
theorem Dl.mono {w:World} {B B':Nat}(h:Dl w B) (hb:B<=B'):Dl w B':=⟨⟨h.a.f.mono hb,h.a.t13.mono hb,h.a.t16,h.a.o9⟩,h.e6⟩
theorem Dl.next {w w':World}(h:Dl w w.heap.size) (hb:Below w.heap.size w w'):Dl w' w'.heap.size:=(h.below hb).mono hb.size
theorem Dl.drewN {w:World} {B:Nat}(h:Dl w B) (n:Nat):Dl (w.drewN n) B:=h.below (Lb (AH B w) n)
theorem fR {c:Nat}(h:c<256):((c|||32:Nat)==101)=decide (c=101\/c=69):=by
 have key:∀k:Fin 256,((k.val|||32:Nat)==101)=decide (k.val=101\/k.val=69):=by decide+kernel
 exact key ⟨c,h⟩
structure FW (w:World) (b:Nat) (s:ByteArray) (a:Nat) (W:World):Prop where
 t0:A8 W w.heap.size
 st:St W b s a
 Ad:Below w.heap.size w W
 SD:Dl W W.heap.size
 sz:w.heap.size+1<=W.heap.size
theorem FW.call {w:World} {b:Nat} {s:ByteArray} {a:Nat} {W W':World}(h:FW w b s a W) (hbw:b<w.heap.size) (hb:Below W.heap.size W W'):FW w b s a W':=by
 have hz:=h.sz;have hs:=hb.size;exact⟨⟨(hb.block _ (by omega)).trans h.t0.h⟩,⟨(hb.block _ (by omega)).trans h.st.h⟩,h.Ad.trans (hb.mono (by omega)),h.SD.next hb,by omega⟩
theorem FW.drewN {w:World} {b:Nat} {s:ByteArray} {a:Nat} {W:World}(h:FW w b s a W) (n:Nat):FW w b s a (W.drewN n):=
 ⟨⟨h.t0.h⟩,⟨h.st.h⟩,Lb h.Ad n,h.SD.drewN n,h.sz⟩
theorem Xq (s:ByteArray) (a p:Nat):TR.fo (E4 s a p):=by
 unfold E4 LH
 repeat' split
 all_goals rfl
theorem WS (b:Nat) (s:ByteArray) (a p:Nat) (w:World) (hs:s.size<=100000000) (hst:Hid (St w b s a)) (hT:Hid (Dl w w.heap.size)) (hP:Hid (ar s a p (AF AM s (p+1)))):
 Calls Tryz.prog 118 #[.pointer (some ⟨b,0,none⟩),.int .i64 p] w (AL (E4 s a p) w):=by
 have hb:=hst.out.lt;have k1:b<w.heap.size+1:=by omega
 obtain⟨R,hR⟩:∃R,R=E4 s a p:=⟨_,rfl⟩;rw[<-hR];have FO:Hid (TR.fo R):=Hi (by rw[hR];exact Xq s a p);clear hR;obtain⟨g,hg⟩:∃g,g=p+1:=⟨_,rfl⟩;have eg:(p:Int)+1=g:=by omega
 obtain⟨E,hE⟩:∃E,E=AF AM s g:=⟨_,rfl⟩;have hap:=hP.out.ap;have hpE:=hP.out.pe;have hEs:=hP.out.es;have hgp:=hP.out.ps;rw[<-hg,<-hE]at hpE hEs;have HP2:Hid (ar s a p E):=Hi (by rw[hE,hg];exact hP.out);have P9:Hid (∀w,Calls Tryz.prog 75 #[.string s,.int .i64 g,.func (.func 71) #[] #[]] w (Ag E w)):=Hi (fun w=>by rw[hE];exact Mn s g w (by omega) (by omega));obtain⟨m1,hm1⟩:∃m,m=E-a:=⟨_,rfl⟩;obtain⟨m,hm⟩:∃m,m=m1-1:=⟨_,rfl⟩;have em1:(E:Int)-a=m1:=by omega
 have em:(m1:Int)-1=m:=by omega
 have bm:m<=100000000:=by omega
 have bm1:m1<=100000000:=by omega
 have HM:Hid (m+1=E-a):=Hi (by omega);have HE:=Hi hE;have HG:=Hi hg;obtain⟨c,hc⟩:∃c,c=AE s E:=⟨_,rfl⟩;have HC:=Hi hc;obtain⟨TE,hTE⟩:∃T,T=decide (c=101\/c=69):=⟨_,rfl⟩;have HTE:=Hi hTE;obtain⟨x1,hx1⟩:∃x,x=E+1:=⟨_,rfl⟩;have ex1:(E:Int)+1=x1:=by omega
 obtain⟨sb,hsb⟩:∃c,c=AE s x1:=⟨_,rfl⟩;have HSB:=Hi hsb;obtain⟨SG,hSG⟩:∃T,T=decide (sb=43\/sb=45):=⟨_,rfl⟩;have HSG:=Hi hSG;obtain⟨F,hF⟩:∃F,F=F6 s E:=⟨_,rfl⟩;obtain⟨L,hL⟩:∃L,L=AF AM s F:=⟨_,rfl⟩;have hFx:F=if SG=true then x1+1 else x1:=by
  rw[hF,hSG];unfold F6;rw[<-hx1,<-hsb];by_cases h:sb=45\/sb=43
  ·rw[if_pos h,if_pos (AN h.symm)];omega
  ·rw[if_neg h,if_neg (by rw[decide_eq_true_eq];exact fun h2=>h h2.symm)]
 have bF:F<=100000002:=by rw[hFx];split<;>omega
 have CPL:Hid (∀w,Calls Tryz.prog 75 #[.string s,.int .i64 F,.func (.func 71) #[] #[]] w (Ag L w)):=Hi (fun w=>by rw[hL];exact Mn s F w (by omega) (by omega));have hFL:F<=L:=by rw[hL];exact Ae _ _ _
 have bL:L<=100000002:=by
  rcases BY s.size F with h|h
  ·rw[hL,Ac (by omega)];omega
  ·have:=Ai AM s F h;omega
 have hLs:F<L->L<=s.size:=fun h=>by
  rcases BY s.size F with h1|h1
  ·rw[hL,Ac (by omega)]at h;omega
  ·rw[hL];exact Ai AM s F h1
 have hI:Bo s E↔(TE=true/\F<L):=by
  unfold Bo;rw[<-hF,<-hL,<-hc,hTE];exact⟨fun h=>⟨AN h.1,h.2⟩,fun h=>⟨of_decide_eq_true h.1,h.2⟩⟩
 obtain⟨TO,hTO⟩:∃TO:Nat,TO=if Bo s E then L else E:=⟨_,rfl⟩;have hR2:¬(Bo s E/\4<L-F)->∃(f:Nat) (sg:Int),Fc (s.extract a TO) (p-a) (E-a) (f-a) sg/\E<=TO/\TO<=s.size:=by
   intro h;by_cases h1:Bo s E
   ·have h3:=hI.1 h1;have h5:¬4<L-F:=fun h2=>h ⟨h1,h2⟩;have h4:=hLs h3.2;have hd:∀j,F<=j->j<L->48<=byte s j/\byte s j<=57:=fun j k1 k2=>M8 (by omega) k1 (by rw[<-hL];exact k2);have hto:TO=L:=by rw[hTO,if_pos h1]
    have h101:AE s E=101\/AE s E=69:=by rw[<-hc];exact of_decide_eq_true (hTE▸h3.1)
    obtain⟨sg,hsg⟩:∃sg:Int,sg=if sb=45 then-1 else 1:=⟨_,rfl⟩;have hEF:(F=E+1/\sg=1)\/(F=E+2/\sg=1/\AE s (E+1)=43)\/(F=E+2/\sg= -1/\AE s (E+1)=45):=by
     rw[<-hx1,<-hsb];by_cases q1:sb=45
     ·right;right;have q2:SG=true:=by rw[hSG];exact AN (.inr q1)
      rw[if_pos q2]at hFx;rw[if_pos q1]at hsg;exact⟨by omega,hsg,q1⟩
     ·rw[if_neg q1]at hsg;by_cases q3:sb=43
      ·right;left;have q2:SG=true:=by rw[hSG];exact AN (.inl q3)
       rw[if_pos q2]at hFx;exact⟨by omega,hsg,q3⟩
      ·left;have q2:¬SG=true:=by rw[hSG,decide_eq_true_eq];exact fun h=>h.elim q3 q1
       rw[if_neg q2]at hFx;exact⟨by omega,hsg⟩
    rw[hto];exact⟨F,sg,Yj HP2.out h101 hEF h3.2 (by omega) h4 hd,by omega,h4⟩
   ·have hto:TO=E:=by rw[hTO,if_neg h1]
    rw[hto];exact⟨E,1,T8 HP2.out,nR _,hEs⟩
 have HR2:=Hi hR2;have HI:=Hi hI;have HTO:=Hi hTO;have HFX:=Hi hFx;have HX1:=Hi hx1;have bTO:TO<=100000002:=by rw[hTO];split<;>omega
 have Uc:Hid (∀W1,W1=w.alloc (.cells #[.int .i64 0,.string ⟨#[]⟩,.string ⟨#[]⟩,.int .u64 0,.int .i64 0,.int .i64 0,.bool false] 30)->FW w b s a W1):=Hi (by
  rintro W1 rfl;have bl:Below w.heap.size w (w.alloc (.cells #[.int .i64 0,.string ⟨#[]⟩,.string ⟨#[]⟩,.int .u64 0,.int .i64 0,.int .i64 0,.bool false] 30)):=(AH _ _).alloc (nR _) _;exact⟨A8.new w,hst.out.below bl,bl,hT.out.next bl,by simp⟩)
 clear hE hg hm hm1 hc hTE hx1 hsb hSG hF hL hFx hLs hI hTO hR2;have e0:=hst.out.c0;have e1:=hst.out.c1;go_enter Tryz.func118,Tryz.ntmps118
 go_wp2_with fail
 generalize hW1:w.alloc _=W1;have Q1:Hid (FW w b s a W1):=Hi (Uc.out W1 hW1.symm);clear hW1 e0 e1;have c0:=Q1.out.st.c0;have c1:=Q1.out.st.c1
 go_upto_region 3 with(go_at_call 75;(with_reducible refine(P9.out _).mono ?_);rintro e w' ⟨rfl,rfl⟩)
 go_cut [43]from 13 to 44 (fun v wx=>W1=wx/\v= .bool TE)
 case first=>
  by_cases hlt:E<s.size
  ·have li:(E:Int)<s.size:=by omega
   have hcE:c=(s[E].toNat:Int):=by rw[HC.out];exact AO s E hlt
   obtain⟨y,hy⟩:∃y,y=s[E].toNat:=⟨_,rfl⟩;have y256:y<256:=by rw[hy];exact s[E].toNat_lt
   obtain⟨o,ho⟩:∃o,o=y|||32:=⟨_,rfl⟩;have hor:bits .or .u8 (s[E].toNat:Int) 32=(o:Int):=by
    rw[ho,<-hy];exact u8_or_nat y 32 y256 (by decide)
   have ht:((o:Int)==101)=TE:=by
    have h1:=fR y256;rw[HTE.out,hcE,<-hy];rw[<-ho]at h1;have h2:((o:Int)==101)=(o==101):=by
     by_cases h:o=101
     ·subst h;rfl
     ·rw[AA (by omega:(o:Int)≠101),beq_false_of_ne h]
    rw[h2,h1];exact NO.2 (by omega)
   clear hcE hy ho y256;go_wp2;go_meet;exact⟨rfl,rfl⟩
  ·have li:¬((E:Int)<s.size):=by omega
   have ht:TE=false:=by
    rw[HTE.out,HC.out,Am s E (by omega)];decide
   subst ht;go_wp2;go_meet;exact⟨rfl,rfl⟩
 case rest=>
 obtain⟨rfl,rfl⟩:=hcut
 go_upto_if 43 with fail
 go_cut [7]from 9 (fun v7 wx=>W1=wx/\v7= .int .i64 TO/\¬(Bo s E/\4<L-F))
 case first=>
  by_cases hTE2:TE=true
  ·subst hTE2
   go_upto_region 5 with fail
   go_cut [70]from 13 to 71 (fun v wx=>W1=wx/\v= .bool SG)
   case first=>
    by_cases hlt:x1<s.size
    ·have li:(x1:Int)<s.size:=by omega
     have hsE:sb=(s[x1].toNat:Int):=by rw[HSB.out];exact AO s x1 hlt
     by_cases q1:sb=43
     ·have t1:((s[x1].toNat:Int)==43)=true:=beq_of_eq (by omega);have t2:SG=true:=by rw[HSG.out];exact AN (.inl q1)
      subst t2;clear hsE q1;go_wp2;go_meet;exact⟨rfl,rfl⟩
     ·have t1:((s[x1].toNat:Int)==43)=false:=AA (by omega);by_cases q2:sb=45
      ·have t3:((s[x1].toNat:Int)==45)=true:=beq_of_eq (by omega);have t2:SG=true:=by rw[HSG.out];exact AN (.inr q2)
       subst t2;clear hsE q1 q2;go_wp2;go_meet;exact⟨rfl,rfl⟩
      ·have t3:((s[x1].toNat:Int)==45)=false:=AA (by omega);have t2:SG=false:=by rw[HSG.out];exact AS (fun h=>h.elim q1 q2)
       subst t2;clear hsE q1 q2;go_wp2;go_meet;exact⟨rfl,rfl⟩
    ·have li:¬((x1:Int)<s.size):=by omega
     have t2:SG=false:=by rw[HSG.out,HSB.out,Am s x1 (by omega)];decide
     subst t2;go_wp2;go_meet;exact⟨rfl,rfl⟩
   case rest=>
   obtain⟨rfl,rfl⟩:=hcut
   go_upto_if 70 with fail
   go_cut [9]from 13 (fun v9 wx=>W1=wx/\v9= .int .i64 F)
   case first=>
    by_cases hSG2:SG=true
    ·have eF:(x1:Int)+1=F:=by have h:=HFX.out;rw[if_pos hSG2]at h;omega
     subst hSG2;go_wp2;go_meet;exact⟨rfl,rfl⟩
    ·have eF:x1=F:=by have h:=HFX.out;rw[if_neg hSG2]at h;omega
     have hS:SG=false:=by simpa using hSG2
     subst hS;go_wp2;go_meet;exact⟨rfl,rfl⟩
   case rest=>
   obtain⟨rfl,rfl⟩:=hcut;by_cases hFL2:F<L
   ·have v3:decide (F<L)=true:=AN hFL2;have v4:decide ((F:Int)<L)=true:=A5;have v5:(F:Int)<L:=by omega
    obtain⟨M,hM⟩:∃M,M=L-F:=⟨_,rfl⟩;have eM:(L:Int)-F=M:=by omega
    have bM:M<=100000002:=by omega
    have i1:Hid (Bo s E):=Hi (HI.out.2 ⟨rfl,hFL2⟩);by_cases h4:4<M
    ·have v6:decide ((4:Int)<M)=true:=A5;have v7:(4:Int)<M:=by omega
     clear hM h4
     go_wp2_with (go_at_call 75;(with_reducible refine(CPL.out _).mono ?_);rintro e w' ⟨rfl,rfl⟩)
     obtain⟨x00,x01,x02,x03,x04,x05,x06⟩:=Q1.out.t0.cs;obtain⟨y00,y01,y02,y03,y04,y05,y06⟩:=Q1.out.t0.fs;have c1:=Q1.out.st.c1
     go_region
     go_wp2_with fail
     refine AI (v:= .tuple #[AK 0 ⟨#[]⟩ ⟨#[]⟩ 0 0 0 false,.int .i64 a,.int .i64 34]) ?_ rfl (AL.fe FO.out (AJ Q1.out.Ad (nR _) _ _ _ _ _ _ _).drew);simp only[results,Tryz.results118];go_simp
     try rfl
    ·have v6:decide ((4:Int)<M)=false:=BC;have v7:¬(4:Int)<M:=by omega
     have NN:Hid (TO=L/\¬(Bo s E/\4<L-F)):=Hi ⟨by rw[HTO.out,if_pos i1.out],by omega⟩;clear hM h4
     go_wp2_with (go_at_call 75;(with_reducible refine(CPL.out _).mono ?_);rintro e w' ⟨rfl,rfl⟩)
     go_meet;exact⟨rfl,by rw[NN.out.1],NN.out.2⟩
   ·have v3:decide (F<L)=false:=AS hFL2;have v4:decide ((F:Int)<L)=false:=BC;have v5:¬(F:Int)<L:=by omega
    have NI:¬Bo s E:=fun h=>hFL2 (HI.out.1 h).2;have NN:Hid (TO=E/\¬(Bo s E/\4<L-F)):=Hi ⟨by rw[HTO.out,if_neg NI],fun h=>NI h.1⟩;clear NI
    go_wp2_with (go_at_call 75;(with_reducible refine(CPL.out _).mono ?_);rintro e w' ⟨rfl,rfl⟩)
    go_meet;exact⟨rfl,by rw[NN.out.1],NN.out.2⟩
  ·have hS:TE=false:=by simpa using hTE2
   have NI:¬Bo s E:=fun h=>hTE2 (HI.out.1 h).1;have NN:Hid (TO=E/\¬(Bo s E/\4<L-F)):=Hi ⟨by rw[HTO.out,if_neg NI],fun h=>NI h.1⟩;clear NI hTE2;subst hS;go_wp2;go_meet;exact⟨rfl,by rw[NN.out.1],NN.out.2⟩
 case rest=>
 obtain⟨rfl,rfl,hnn⟩:=hcut;obtain⟨f,sg,r2,r4,r5⟩:=HR2.out hnn;have w9:∀W,(Instr.slice 9 (.string s) (some (.int .i64 (a:Int))) (some (.int .i64 (TO:Int))) none).run Tryz.prog W= .ok (.string (s.extract a TO)) W:=fun W=>by
  have:=eE (P:=Tryz.prog) (w:=W) 9 s .i64 .i64 (a:Int) (TO:Int) Tryz.underlying9 (by omega) (by omega) (by omega);rw[show((a:Int)).toNat=a by omega,show((TO:Int)).toNat=TO by omega]at this;exact this
 obtain⟨xs,hxs⟩:∃xs,xs=s.extract a TO:=⟨_,rfl⟩;have CPF:Hid (∀W,Dl W W.heap.size->Calls Tryz.prog 171 #[.string xs,.int .i64 64] W (VL xs (p-a) (E-a) (f-a) sg W)):=Hi (fun W hW=>QO xs (p-a) (E-a) (f-a) sg W (Hi (by rw[hxs];exact r2)) (by rw[hxs,Of];omega) (Hi hW));rw[<-hxs]at w9;clear r2 r4 r5 hnn hxs;have HQD:Hid (FW w b s a W1.drew):=Hi ⟨⟨Q1.out.t0.h⟩,⟨Q1.out.st.h⟩,Q1.out.Ad.drew,Q1.out.SD.below (AH _ _).drew,Q1.out.sz⟩;have HQN:Hid (∀n,FW w b s a (W1.drewN n)):=Hi (fun n=>Q1.out.drewN n);have HTD:Hid (Dl W1.drew W1.drew.heap.size):=Hi HQD.out.SD;have HTN:Hid (∀n,Dl (W1.drewN n) (W1.drewN n).heap.size):=Hi (fun n=>(HQN.out n).SD)
 go_upto_region 12 with fail
 go_cut [11,12]from 13 (fun v11 v12 wx=>∃bb:Nat,v11= .float .f64 bb/\FW w b s a wx)
 case first=>
  go_region_with (go_at_call 171;(with_reducible refine(CPF.out _ HTD.out).mono ?_);rintro e W2 ⟨bb,er,rfl,b2⟩;have Q2:=Hi (HQD.out.call hb b2);clear b2)
  all_goals
   go_wp2;go_meet;exact⟨_,rfl,Q2.out⟩
 case rest=>
 obtain⟨bb,rfl,hq2⟩:=hcut;have Q2:=Hi hq2;have d0:=hq2.st.c0;have d1:=hq2.st.c1;clear hq2 c0 c1 w9;by_cases h400:400<m
 ·have v1:decide ((400:Int)<m)=true:=A5;have v2:(400:Int)<m:=by omega
  clear h400
  go_wp2_with fail
  obtain⟨x00,x01,x02,x03,x04,x05,x06⟩:=Q2.out.t0.cs;obtain⟨y00,y01,y02,y03,y04,y05,y06⟩:=Q2.out.t0.fs;have c1:=Q2.out.st.c1
  go_region
  go_wp2_with fail
  refine AI (v:= .tuple #[AK 0 ⟨#[]⟩ ⟨#[]⟩ 0 0 0 false,.int .i64 a,.int .i64 34]) ?_ rfl (AL.fe FO.out (AJ Q2.out.Ad (nR _) _ _ _ _ _ _ _).drew);simp only[results,Tryz.results118];go_simp
  try rfl
 ·have v1:decide ((400:Int)<m)=false:=BC;have v2:¬(400:Int)<m:=by omega
  cases hin:iV bb with
  |true=>
   have CI:Hid (∀W,Calls Tryz.prog 50 #[.float .f64 bb,.int .i64 0] W fun e w'=>e= .returned (.bool true)/\W=w'):=Hi (fun W=>by have h:=Tryz.isInf bb W;rw[hin]at h;exact h);clear hin
   go_wp2_with (go_at_call 50;(with_reducible refine(CI.out _).mono ?_);rintro e w' ⟨rfl,rfl⟩)
   obtain⟨x00,x01,x02,x03,x04,x05,x06⟩:=Q2.out.t0.cs;obtain⟨y00,y01,y02,y03,y04,y05,y06⟩:=Q2.out.t0.fs;have c1:=Q2.out.st.c1
   go_region
   go_wp2_with fail
   refine AI (v:= .tuple #[AK 0 ⟨#[]⟩ ⟨#[]⟩ 0 0 0 false,.int .i64 a,.int .i64 34]) ?_ rfl (AL.fe FO.out (AJ Q2.out.Ad (nR _) _ _ _ _ _ _ _).drew);simp only[results,Tryz.results118];go_simp
   try rfl
  |false=>
   have CI:Hid (∀W,Calls Tryz.prog 50 #[.float .f64 bb,.int .i64 0] W fun e w'=>e= .returned (.bool false)/\W=w'):=Hi (fun W=>by have h:=Tryz.isInf bb W;rw[hin]at h;exact h);clear hin
   go_wp2_with (go_at_call 50;(with_reducible refine(CI.out _).mono ?_);rintro e w' ⟨rfl,rfl⟩)
   obtain⟨x00,x01,x02,x03,x04,x05,x06⟩:=Q2.out.t0.cs;obtain⟨y00,y01,y02,y03,y04,y05,y06⟩:=Q2.out.t0.fs;have c1:=Q2.out.st.c1
   go_region_with (rw[K6,Oper.upon_value])
   all_goals
    go_wp2_with fail
    refine AI (v:= .tuple #[AK 5 ⟨#[]⟩ ⟨#[]⟩ bb a TO false,.int .i64 0,.int .i64 0]) ?_ rfl (AL.fk FO.out (AJ Q2.out.Ad (nR _) _ _ _ _ _ _ _).drew);simp only[results,Tryz.results118];go_simp
    try rfl
end Go.Proofs
