import Derived.Test.YtpocgkiamgipdaaGreatDoorTbh
set_option maxRecDepth 1000000
set_option maxHeartbeats 0
set_option linter.unusedVariables false
set_option linter.unusedSimpArgs false
open Go.Proofs.Tryz
namespace Go.Pf
theorem LO.mono {w:World} {B B':Nat}(h:LO w B) (hb:B<=B'):LO w B':=by
 obtain⟨g,o,c,h1,h2,h3,h4⟩:=h;exact⟨g,o,c,by omega,lR h2 hb,h3,h4⟩
theorem Nz.mono {w:World} {B B':Nat}(h:Nz w B) (hb:B<=B'):Nz w B':=by
 obtain⟨g,o,c,h1,h2,h3⟩:=h.p;exact⟨lR h.gV hb,h.l.mono hb,⟨g,o,c,by omega,h2,h3⟩,h.i0,h.i1,h.i2⟩
theorem Il.mono {w:World} {B B':Nat}(h:Il w B) (hb:B<=B'):Il w B':=by
 obtain⟨g,o,c,h1,h2,h3⟩:=h;exact⟨g,o,c,by omega,by omega,h3⟩
end Go.Pf
namespace Go.Proofs
open Go.RowKit Go.Pf Go.Lx Go.Hb Go.Rb Go.Bg
theorem Lh {B:Nat} {w W:World}(h:Below B w W) (n:Nat):Below B w (W.drewN n):=⟨h.os,h.tape,h.output,h.size,h.block⟩
theorem D3.mono {w:World} {B B':Nat}(h:D3 w B) (hb:B<=B'):D3 w B':=⟨⟨h.a.f.mono hb,h.a.t13.mono hb,h.a.t16,h.a.o9⟩,h.e6⟩
theorem D3.next {w w':World}(h:D3 w w.heap.size) (hb:Below w.heap.size w w'):D3 w' w'.heap.size:=(h.below hb).mono hb.size
theorem D3.drewN {w:World} {B:Nat}(h:D3 w B) (n:Nat):D3 (w.drewN n) B:=h.below (Lh (Below.refl B w) n)
theorem kG {c:Nat}(h:c<256):((c|||32:Nat)==101)=decide (c=101\/c=69):=by
 have key:∀k:Fin 256,((k.val|||32:Nat)==101)=decide (k.val=101\/k.val=69):=by decide+kernel
 exact key ⟨c,h⟩
structure FW (w:World) (b:Nat) (s:ByteArray) (a:Nat) (W:World):Prop where
 t0:Gf W w.heap.size
 st:St W b s a
 Ac:Below w.heap.size w W
 Fm:D3 W W.heap.size
 sz:w.heap.size+1<=W.heap.size
theorem FW.call {w:World} {b:Nat} {s:ByteArray} {a:Nat} {W W':World}(h:FW w b s a W) (qq:b<w.heap.size) (hb:Below W.heap.size W W'):FW w b s a W':=by
 have hz:=h.sz;have hs:=hb.size;exact⟨⟨(hb.block _ (by omega)).trans h.t0.h⟩,⟨(hb.block _ (by omega)).trans h.st.h⟩,h.Ac.trans (hb.mono (by omega)),h.Fm.next hb,by omega⟩
theorem FW.drewN {w:World} {b:Nat} {s:ByteArray} {a:Nat} {W:World}(h:FW w b s a W) (n:Nat):FW w b s a (W.drewN n):=
 ⟨⟨h.t0.h⟩,⟨h.st.h⟩,Lh h.Ac n,h.Fm.drewN n,h.sz⟩
theorem YF (b:Nat) (s:ByteArray) (a p:Nat) (w:World) (hs:s.size<=100000000) (qk:Hid (St w b s a)) (hT:Hid (D3 w w.heap.size)) (hP:Hid (XE s a p (AF AQ s (p+1)))):
 Calls prog 88 #[.pointer (some ⟨b,0,none⟩),.int .i64 p] w (AK (Ek s a p) w):=by
 have hb:=qk.o.lt;have k1:b<w.heap.size+1:=by omega
 obtain⟨R,hR⟩:∃R,R=Ek s a p:=⟨_,rfl⟩;rw[<-hR];obtain⟨g,hg⟩:∃g,g=p+1:=⟨_,rfl⟩;have eg:(p:Int)+1=g:=by omega
 obtain⟨E,hE⟩:∃E,E=AF AQ s g:=⟨_,rfl⟩;have xM:=hP.o.ap;have hpE:=hP.o.pe;have hEs:=hP.o.es;have hgp:=hP.o.ps;rw[<-hg,<-hE]at hpE hEs;have HP2:Hid (XE s a p E):=Hi (by rw[hE,hg];exact hP.o);have U3:Hid (∀w,Calls prog 60 #[.string s,.int .i64 g,.func (.func 56) #[] #[]] w (Cf E w)):=Hi (fun w=>by rw[hE];exact OE s g w (by omega) (by omega));obtain⟨m1,qw⟩:∃m,m=E-a:=⟨_,rfl⟩;obtain⟨m,hm⟩:∃m,m=m1-1:=⟨_,rfl⟩;have em1:(E:Int)-a=m1:=by omega
 have em:(m1:Int)-1=m:=by omega
 have bm:m<=100000000:=by omega
 have bm1:m1<=100000000:=by omega
 have HM:Hid (m+1=E-a):=Hi (by omega);have HE:=Hi hE;have HG:=Hi hg;obtain⟨c,hc⟩:∃c,c=AI s E:=⟨_,rfl⟩;have HC:=Hi hc;obtain⟨TE,hTE⟩:∃T,T=decide (c=101\/c=69):=⟨_,rfl⟩;have HTE:=Hi hTE;obtain⟨x1,xn⟩:∃x,x=E+1:=⟨_,rfl⟩;have ex1:(E:Int)+1=x1:=by omega
 obtain⟨sb,hsb⟩:∃c,c=AI s x1:=⟨_,rfl⟩;have HSB:=Hi hsb;obtain⟨SG,yH⟩:∃T,T=decide (sb=43\/sb=45):=⟨_,rfl⟩;have HSG:=Hi yH;obtain⟨F,hF⟩:∃F,F=Ht s E:=⟨_,rfl⟩;obtain⟨L,hL⟩:∃L,L=AF AQ s F:=⟨_,rfl⟩;have hFx:F=if SG=true then x1+1 else x1:=by
  rw[hF,yH];unfold Ht;rw[<-xn,<-hsb];by_cases h:sb=45\/sb=43
  ·rw[lQ h,lQ (lU h.symm)];omega
  ·rw[lL h,lL (by rw[mL];exact fun h2=>h h2.symm)]
 have bF:F<=100000002:=by rw[hFx];split<;>omega
 have xZ:Hid (∀w,Calls prog 60 #[.string s,.int .i64 F,.func (.func 56) #[] #[]] w (Cf L w)):=Hi (fun w=>by rw[hL];exact OE s F w (by omega) (by omega));have hFL:F<=L:=by rw[hL];exact BN _ _ _
 have bL:L<=100000002:=by
  rcases ls s.size F with h|h
  ·rw[hL,Bl (by omega)];omega
  ·have:=Bx AQ s F h;omega
 have hLs:F<L->L<=s.size:=fun h=>by
  rcases ls s.size F with h1|h1
  ·rw[hL,Bl (by omega)]at h;omega
  ·rw[hL];exact Bx AQ s F h1
 have hI:Gs s E↔(TE=true/\F<L):=by
  unfold Gs;rw[<-hF,<-hL,<-hc,hTE];exact⟨fun h=>⟨lU h.1,h.2⟩,fun h=>⟨lh h.1,h.2⟩⟩
 obtain⟨TO,hTO⟩:∃TO:Nat,TO=if Gs s E then L else E:=⟨_,rfl⟩;have yX:(Gs s E/\4<L-F->R= .err a 34)/\(¬(Gs s E/\4<L-F)->∃(f:Nat) (sg x:Int),R=Hr s a p x TO/\DW (s.extract a TO) (p-a) (E-a) (f-a) sg/\ef (s.extract a TO) (f-a) ((s.extract a TO).size-(f-a))*sg=x/\E<=TO/\TO<=s.size):=by
  rw[hR];unfold Ek;rw[<-hg,<-hE,<-hF,<-hL];constructor
  ·rintro⟨h1,h2⟩;rw[lQ h1,lQ h2]
  ·intro h;by_cases h1:Gs s E
   ·rw[lQ h1,lL (fun h2=>h ⟨h1,h2⟩)];have h3:=hI.1 h1;have h5:¬4<L-F:=fun h2=>h ⟨h1,h2⟩;have h4:=hLs h3.2;have hd:∀j,F<=j->j<L->48<=byte s j/\byte s j<=57:=fun j k1 k2=>M9 (by omega) k1 (by rw[<-hL];exact k2);have wS:TO=L:=by rw[hTO,lQ h1]
    have h101:AI s E=101\/AI s E=69:=by rw[<-hc];exact lh (hTE▸h3.1)
    obtain⟨sg,vj⟩:∃sg:Int,sg=if sb=45 then-1 else 1:=⟨_,rfl⟩;have hEF:(F=E+1/\sg=1)\/(F=E+2/\sg=1/\AI s (E+1)=43)\/(F=E+2/\sg= -1/\AI s (E+1)=45):=by
     rw[<-xn,<-hsb];by_cases q1:sb=45
     ·right;right;have q2:SG=true:=by rw[yH];exact lU (.inr q1)
      rw[lQ q2]at hFx;rw[lQ q1]at vj;exact⟨by omega,vj,q1⟩
     ·rw[lL q1]at vj;by_cases q3:sb=43
      ·right;left;have q2:SG=true:=by rw[yH];exact lU (.inl q3)
       rw[lQ q2]at hFx;exact⟨by omega,vj,q3⟩
      ·left;have q2:¬SG=true:=by rw[yH,mL];exact fun h=>h.elim q3 q1
       rw[lL q2]at hFx;exact⟨by omega,vj⟩
    rw[wS];refine⟨F,sg,_,rfl,No HP2.o h101 hEF h3.2 (by omega) h4 hd,?_,by omega,h4⟩;rw[ZJ (by omega) hFL h4 hd,vj];unfold iG;rw[<-hF,<-hL,<-xn,<-hsb];split<;>omega
   ·have wS:TO=E:=by rw[hTO,lL h1]
    rw[lL h1,wS];exact⟨E,1,_,rfl,Ub HP2.o,bz (by rw[l8];omega) 1,nR _,hEs⟩
 have qZ:=Hi yX;have HI:=Hi hI;have HTO:=Hi hTO;have HFX:=Hi hFx;have HX1:=Hi xn;have bTO:TO<=100000002:=by rw[hTO];split<;>omega
 have OR:Hid (∀W1,W1=w.alloc (.cells #[.int .i64 0,.string ⟨#[]⟩,.string ⟨#[]⟩,.int .u64 0,.int .i64 0,.int .i64 0,.bool false] 71)->FW w b s a W1):=Hi (by
  rintro W1 rfl;have bl:Below w.heap.size w (w.alloc (.cells #[.int .i64 0,.string ⟨#[]⟩,.string ⟨#[]⟩,.int .u64 0,.int .i64 0,.int .i64 0,.bool false] 71)):=Bzz _;exact⟨Gf.new w,qk.o.below bl,bl,hT.o.next bl,by simp⟩)
 clear hR hE hg hm qw hc hTE xn hsb yH hF hL hFx hLs hI hTO yX;have e0:=qk.o.c0;have e1:=qk.o.c1;go_enter func88,ntmps88
 go_wp2_with fail
 generalize hW1:w.alloc _=W1;have Q1:Hid (FW w b s a W1):=Hi (OR.o W1 hW1.symm);clear hW1 e0 e1;have c0:=Q1.o.st.c0;have c1:=Q1.o.st.c1
 go_upto_region 3 with(go_at_call 60;(with_reducible refine(U3.o _).mono ?_);rintro e w' ⟨rfl,rfl⟩)
 go_cut [43]from 13 to 44 (fun v wx=>W1=wx/\v= .bool TE)
 case first=>
  by_cases qE:E<s.size
  ·have li:(E:Int)<s.size:=by omega
   have hcE:c=(s[E].toNat:Int):=by rw[HC.o];exact AP s E qE
   obtain⟨y,hy⟩:∃y,y=s[E].toNat:=⟨_,rfl⟩;have y256:y<256:=by rw[hy];exact s[E].toNat_lt
   obtain⟨o,ho⟩:∃o,o=y|||32:=⟨_,rfl⟩;have hor:bits .or .u8 (s[E].toNat:Int) 32=(o:Int):=by
    rw[ho,<-hy];exact u8_or_nat y 32 y256 (by decide)
   have ht:((o:Int)==101)=TE:=by
    have h1:=kG y256;rw[HTE.o,hcE,<-hy];rw[<-ho]at h1;have h2:((o:Int)==101)=(o==101):=by
     by_cases h:o=101
     ·subst h;rfl
     ·rw[AD (by omega:(o:Int)≠101),beq_false_of_ne h]
    rw[h2,h1];exact mZ.2 (by omega)
   clear hcE hy ho y256;go_wp2;go_meet;exact⟨rfl,rfl⟩
  ·have li:¬((E:Int)<s.size):=by omega
   have ht:TE=false:=by
    rw[HTE.o,HC.o,Ax s E (by omega)];decide
   subst ht;go_wp2;go_meet;exact⟨rfl,rfl⟩
 case rest=>
 obtain⟨rfl,rfl⟩:=hcut
 go_upto_if 43 with fail
 go_cut [7]from 9 (fun v7 wx=>W1=wx/\v7= .int .i64 TO/\¬(Gs s E/\4<L-F))
 case first=>
  by_cases hTE2:TE=true
  ·subst hTE2
   go_upto_region 5 with fail
   go_cut [70]from 13 to 71 (fun v wx=>W1=wx/\v= .bool SG)
   case first=>
    by_cases qE:x1<s.size
    ·have li:(x1:Int)<s.size:=by omega
     have hsE:sb=(s[x1].toNat:Int):=by rw[HSB.o];exact AP s x1 qE
     by_cases q1:sb=43
     ·have t1:((s[x1].toNat:Int)==43)=true:=beq_of_eq (by omega);have t2:SG=true:=by rw[HSG.o];exact lU (.inl q1)
      subst t2;clear hsE q1;go_wp2;go_meet;exact⟨rfl,rfl⟩
     ·have t1:((s[x1].toNat:Int)==43)=false:=AD (by omega);by_cases q2:sb=45
      ·have t3:((s[x1].toNat:Int)==45)=true:=beq_of_eq (by omega);have t2:SG=true:=by rw[HSG.o];exact lU (.inr q2)
       subst t2;clear hsE q1 q2;go_wp2;go_meet;exact⟨rfl,rfl⟩
      ·have t3:((s[x1].toNat:Int)==45)=false:=AD (by omega);have t2:SG=false:=by rw[HSG.o];exact lO (fun h=>h.elim q1 q2)
       subst t2;clear hsE q1 q2;go_wp2;go_meet;exact⟨rfl,rfl⟩
    ·have li:¬((x1:Int)<s.size):=by omega
     have t2:SG=false:=by rw[HSG.o,HSB.o,Ax s x1 (by omega)];decide
     subst t2;go_wp2;go_meet;exact⟨rfl,rfl⟩
   case rest=>
   obtain⟨rfl,rfl⟩:=hcut
   go_upto_if 70 with fail
   go_cut [9]from 13 (fun v9 wx=>W1=wx/\v9= .int .i64 F)
   case first=>
    by_cases hSG2:SG=true
    ·have eF:(x1:Int)+1=F:=by have h:=HFX.o;rw[lQ hSG2]at h;omega
     subst hSG2;go_wp2;go_meet;exact⟨rfl,rfl⟩
    ·have eF:x1=F:=by have h:=HFX.o;rw[lL hSG2]at h;omega
     have hS:SG=false:=by simpa using hSG2
     subst hS;go_wp2;go_meet;exact⟨rfl,rfl⟩
   case rest=>
   obtain⟨rfl,rfl⟩:=hcut;by_cases hFL2:F<L
   ·have v3:decide (F<L)=true:=lU hFL2;have v4:decide ((F:Int)<L)=true:=Dq;have v5:(F:Int)<L:=by omega
    obtain⟨M,hM⟩:∃M,M=L-F:=⟨_,rfl⟩;have eM:(L:Int)-F=M:=by omega
    have bM:M<=100000002:=by omega
    have i1:Hid (Gs s E):=Hi (HI.o.2 ⟨rfl,hFL2⟩);by_cases h4:4<M
    ·have HF:Hid (R= .err a 34):=Hi (qZ.o.1 ⟨i1.o,by omega⟩);have v6:decide ((4:Int)<M)=true:=Dq;have v7:(4:Int)<M:=by omega
     clear hM h4
     go_wp2_with (go_at_call 60;(with_reducible refine(xZ.o _).mono ?_);rintro e w' ⟨rfl,rfl⟩)
     obtain⟨rO,rX,rT,re,rP,rh,rj⟩:=Q1.o.t0.cs;obtain⟨rW,rV,rY,rQ,rM,rN,rS⟩:=Q1.o.t0.fs;have c1:=Q1.o.st.c1
     go_region
     go_wp2_with fail
     refine lS (v:= .tuple #[Ai 0 ⟨#[]⟩ ⟨#[]⟩ 0 0 0 false,.int .i64 a,.int .i64 34]) ?_ rfl (AK.er HF.o (AE Q1.o.Ac (nR _) _ _ _ _ _ _ _).drew);simp only[results,results88];go_simp
     try rfl
    ·have v6:decide ((4:Int)<M)=false:=Ej;have v7:¬(4:Int)<M:=by omega
     have NN:Hid (TO=L/\¬(Gs s E/\4<L-F)):=Hi ⟨by rw[HTO.o,lQ i1.o],by omega⟩;clear hM h4
     go_wp2_with (go_at_call 60;(with_reducible refine(xZ.o _).mono ?_);rintro e w' ⟨rfl,rfl⟩)
     go_meet;exact⟨rfl,by rw[NN.o.1],NN.o.2⟩
   ·have v3:decide (F<L)=false:=lO hFL2;have v4:decide ((F:Int)<L)=false:=Ej;have v5:¬(F:Int)<L:=by omega
    have NI:¬Gs s E:=fun h=>hFL2 (HI.o.1 h).2;have NN:Hid (TO=E/\¬(Gs s E/\4<L-F)):=Hi ⟨by rw[HTO.o,lL NI],fun h=>NI h.1⟩;clear NI
    go_wp2_with (go_at_call 60;(with_reducible refine(xZ.o _).mono ?_);rintro e w' ⟨rfl,rfl⟩)
    go_meet;exact⟨rfl,by rw[NN.o.1],NN.o.2⟩
  ·have hS:TE=false:=by simpa using hTE2
   have NI:¬Gs s E:=fun h=>hTE2 (HI.o.1 h).1;have NN:Hid (TO=E/\¬(Gs s E/\4<L-F)):=Hi ⟨by rw[HTO.o,lL NI],fun h=>NI h.1⟩;clear NI hTE2;subst hS;go_wp2;go_meet;exact⟨rfl,by rw[NN.o.1],NN.o.2⟩
 case rest=>
 obtain⟨rfl,rfl,hnn⟩:=hcut;obtain⟨f,sg,x,r1,r2,r3,r4,r5⟩:=qZ.o.2 hnn;have w9:∀W,(Instr.slice 9 (.string s) (some (.int .i64 (a:Int))) (some (.int .i64 (TO:Int))) none).run prog W= .ok (.string (s.extract a TO)) W:=fun W=>by
  have:=pW (P:=prog) (w:=W) 9 s .i64 .i64 (a:Int) (TO:Int) mS (by omega) (by omega) (by omega);rw[show((a:Int)).toNat=a by omega,show((TO:Int)).toNat=TO by omega]at this;exact this
 obtain⟨xs,yl⟩:∃xs,xs=s.extract a TO:=⟨_,rfl⟩;have CPF:Hid (∀W,D3 W W.heap.size->Calls prog 114 #[.string xs,.int .i64 64] W (XD xs (p-a) (E-a) (f-a) sg W)):=Hi (fun W hW=>Qg xs (p-a) (E-a) (f-a) sg W (Hi (by rw[yl];exact r2)) (by rw[yl,l8];omega) (Hi hW));have HFT:Hid (∀bb,Po xs (p-a) (E-a) (f-a) sg bb->bb=Qs (vN 10 (IS s a p) (IS s a p).size) (x-((AF AQ s (p+1):Int)-p-1))/\bb<=AW):=Hi (fun bb h=>⟨by
  have e1:AF AQ s (p+1)=E:=by rw[HE.o,HG.o]
  refine WD (f:=f) (t:=TO) (sg:=sg) (by rw[e1];exact HP2.o) (by omega) (by omega) r3 ?_;rw[e1,<-yl];exact h,h.le⟩)
 rw[<-yl]at w9;have HR3:Hid (R=Hr s a p x TO/\AF AQ s (p+1)=E):=Hi ⟨r1,by rw[HE.o,HG.o]⟩;clear r1 r2 r3 r4 r5 hnn yl;have HQD:Hid (FW w b s a W1.drew):=Hi ⟨⟨Q1.o.t0.h⟩,⟨Q1.o.st.h⟩,Q1.o.Ac.drew,Q1.o.Fm.below (Below.refl _ _).drew,Q1.o.sz⟩;have tI:Hid (∀n,FW w b s a (W1.drewN n)):=Hi (fun n=>Q1.o.drewN n);have HTD:Hid (D3 W1.drew W1.drew.heap.size):=Hi HQD.o.Fm;have HTN:Hid (∀n,D3 (W1.drewN n) (W1.drewN n).heap.size):=Hi (fun n=>(tI.o n).Fm)
 go_upto_region 12 with fail
 go_cut [11,12]from 13 (fun v11 v12 wx=>∃bb:Nat,v11= .float .f64 bb/\(E-a<=401->Po xs (p-a) (E-a) (f-a) sg bb)/\FW w b s a wx)
 case first=>
  go_region_with (go_at_call 114;(with_reducible refine(CPF.o _ HTD.o).mono ?_);rintro e W2 ⟨bb,er,rfl,wu,b2⟩;have Q2:=Hi (HQD.o.call hb b2);have HFL:=Hi wu;clear b2 wu)
  all_goals
   go_wp2;go_meet;exact⟨_,rfl,HFL.o,Q2.o⟩
 case rest=>
 obtain⟨bb,rfl,wu,qu⟩:=hcut;have Q2:=Hi qu;have d0:=qu.st.c0;have d1:=qu.st.c1;clear qu c0 c1 w9;by_cases h400:400<m
 ·have v1:decide ((400:Int)<m)=true:=Dq;have v2:(400:Int)<m:=by omega
  have HF:Hid (R= .err a 34):=Hi (by rw[HR3.o.1];refine V8 ?_;rw[HR3.o.2];have:=HM.o;omega);clear h400 wu
  go_wp2_with fail
  obtain⟨rO,rX,rT,re,rP,rh,rj⟩:=Q2.o.t0.cs;obtain⟨rW,rV,rY,rQ,rM,rN,rS⟩:=Q2.o.t0.fs;have c1:=Q2.o.st.c1
  go_region
  go_wp2_with fail
  refine lS (v:= .tuple #[Ai 0 ⟨#[]⟩ ⟨#[]⟩ 0 0 0 false,.int .i64 a,.int .i64 34]) ?_ rfl (AK.er HF.o (AE Q2.o.Ac (nR _) _ _ _ _ _ _ _).drew);simp only[results,results88];go_simp
  try rfl
 ·have v1:decide ((400:Int)<m)=false:=Ej;have v2:¬(400:Int)<m:=by omega
  obtain⟨ql,qM⟩:=HFT.o bb (wu (by have:=HM.o;omega));have uD:=Vw (s:=s) (a:=a) (p:=p) (t:=TO) (b:=bb) (x:=x) (by rw[HR3.o.2];have:=HM.o;omega) ql;rw[<-HR3.o.1]at uD;have CI:Hid (∀W,Calls prog 102 #[.float .f64 bb,.int .i64 0] W fun e w'=>e= .returned (.bool (decide (bb=AW)))/\W=w'):=Hi (fun W=>Tryz.isInf bb (Hi qM) W);by_cases hinf:bb=AW
  ·have HF:Hid (R= .err a 34):=Hi (uD.2 (by omega));have CI:Hid (∀W,Calls prog 102 #[.float .f64 bb,.int .i64 0] W fun e w'=>e= .returned (.bool true)/\W=w'):=Hi (fun W=>by have h:=CI.o W;rw[lU hinf]at h;exact h);clear uD ql qM wu h400 hinf
   go_wp2_with (go_at_call 102;(with_reducible refine(CI.o _).mono ?_);rintro e w' ⟨rfl,rfl⟩)
   obtain⟨rO,rX,rT,re,rP,rh,rj⟩:=Q2.o.t0.cs;obtain⟨rW,rV,rY,rQ,rM,rN,rS⟩:=Q2.o.t0.fs;have c1:=Q2.o.st.c1
   go_region
   go_wp2_with fail
   refine lS (v:= .tuple #[Ai 0 ⟨#[]⟩ ⟨#[]⟩ 0 0 0 false,.int .i64 a,.int .i64 34]) ?_ rfl (AK.er HF.o (AE Q2.o.Ac (nR _) _ _ _ _ _ _ _).drew);simp only[results,results88];go_simp
   try rfl
  ·have HF:Hid (R= .ok 5 ⟨#[]⟩ ⟨#[]⟩ bb a TO):=Hi (uD.1 (by omega));have CI:Hid (∀W,Calls prog 102 #[.float .f64 bb,.int .i64 0] W fun e w'=>e= .returned (.bool false)/\W=w'):=Hi (fun W=>by have h:=CI.o W;rw[lO hinf]at h;exact h);clear uD ql qM wu h400 hinf
   go_wp2_with (go_at_call 102;(with_reducible refine(CI.o _).mono ?_);rintro e w' ⟨rfl,rfl⟩)
   obtain⟨rO,rX,rT,re,rP,rh,rj⟩:=Q2.o.t0.cs;obtain⟨rW,rV,rY,rQ,rM,rN,rS⟩:=Q2.o.t0.fs;have c1:=Q2.o.st.c1
   go_region_with (rw[Hf,nt])
   all_goals
    go_wp2_with fail
    refine lS (v:= .tuple #[Ai 5 ⟨#[]⟩ ⟨#[]⟩ bb a TO false,.int .i64 0,.int .i64 0]) ?_ rfl (AK.ok (k:=5) HF.o (AE Q2.o.Ac (nR _) _ _ _ _ _ _ _).drew);simp only[results,results88];go_simp
    try rfl
end Go.Proofs
