import Derived.Test.YtpocgkiamgipdaaGreatDoorTah
set_option maxRecDepth 1000000
set_option maxHeartbeats 0
set_option linter.unusedVariables false
set_option linter.unusedSimpArgs false
open Go.Proofs.Tryz
section
namespace Go.Pf
open Go.RowKit
def Il (w:World) (B:Nat):Prop:=∃g o c,g<B/\15<B/\w.cell? ⟨15,0,none⟩=some (.slice (some ⟨g,o,none⟩) 23 c)/\∀i,i<23->w.cell? ⟨g,o+i,none⟩=some (.float .f64 (Gu i))
theorem Il.below {w w':World} {B:Nat}(h:Il w B) (hb:Below B w w'):Il w' B:=by
 obtain⟨g,o,c,h1,h2,h3,h4⟩:=h;exact⟨g,o,c,h1,h2,(hb.cell (p:=⟨15,0,none⟩) h2).trans h3,fun i hi=>(hb.cell (p:=⟨g,o+i,none⟩) h1).trans (h4 i hi)⟩
theorem ax {a b:Nat}(ha:a<AW) (hb:b<AW):Ky a b<=AW:=by
 unfold Ky Ieee.Format.mul;rw[Bk a ha,Bk b hb];show Ieee.double.nearest (false^^false) (mg a*mg b) (-1074+(pe a:Nat)+(-1074+(pe b:Nat)))<=AW;rw[Bool.false_xor];unfold Ieee.Format.nearest;split
 ·rw[Fe];exact mK _
 ·simp only[Fe,IK];unfold AW;exact Nat.min_le_right _ _
end Go.Pf
namespace Go.Proofs
open Go.RowKit Go.Pf
theorem T4 (m:Nat):(m:Int)/2^52=((m/4503599627370496:Nat):Int):=by
 have:(2:Int)^52=4503599627370496:=by decide
 rw[this];omega
def Fq (m:Nat) (x:Int) (w:World) (e:Ending) (w':World):Prop:=∃y,e= .returned (.tuple #[.float .f64 y,.bool (Lq m x).isSome])/\(∀r,Lq m x=some r->y=r)/\w=w'
theorem Tryz.exact (m:Nat) (x:Int) (B:Nat) (w:World) (h0:0<m) (hm:m<18446744073709551616) (hx: -345<=x) (ya:x<=310) (hT:Hid (Il w B)) (sD:w.cell? ⟨12,0,none⟩=some (.int .u64 52)):
 Calls prog 175 #[.int .u64 m,.int .i64 x,.bool false] w (Fq m x w):=by
 obtain⟨q,hq⟩:∃q,q=m/4503599627370496:=⟨_,rfl⟩;have q1:(m:Int)/4503599627370496=(q:Int):=by omega
 have q0:(m:Int)/2^52=(q:Int):=by rw[hq];exact T4 m
 by_cases h1:4503599627370496<=m
 ·have hr:Lq m x=none:=by unfold Lq;rw[lQ h1]
  have qz:((q:Int)==0)=false:=DC (n:=0) (by omega);have HX:Hid (Fq m x w (.returned (.tuple #[.float .f64 0,.bool false])) w):=Hi ⟨0,by rw[hr];rfl,(by rw[hr];intro r h;cases h),rfl⟩;clear hq hr h1;go_enter func175,ntmps175;go_wp2;go_ret2;exact HX.o
 ·have qz:((q:Int)==0)=true:=Pv (n:=0) (by omega);obtain⟨F,hF⟩:∃F,F=YQ m:=⟨_,rfl⟩;have fF:floatOfInt .f64 (m:Int)=F:=hF.symm;obtain⟨W,-⟩:=OO h0 (by omega);rw[<-hF]at W;by_cases h2:x=0
  ·have hr:Lq m x=some F:=by unfold Lq;rw[lL h1,lQ h2,hF]
   have xz:(x==0)=true:=by rw[h2];rfl
   have HX:Hid (Fq m x w (.returned (.tuple #[.float .f64 F,.bool true])) w):=Hi ⟨F,by rw[hr];rfl,by rw[hr];intro r h;cases h;rfl,rfl⟩;clear hq hr h1 hF W h2;go_enter func175,ntmps175;go_wp2;go_ret2;exact HX.o
  ·have xz:(x==0)=false:=by simpa using h2
   by_cases h3:0<x/\x<=37
   ·have HT:=hT.o;obtain⟨g,o,c,_,_,t0,t1⟩:=HT;have x1:decide (0<x)=true:=lU h3.1;have x2:decide (x<=37)=true:=lU h3.2;obtain⟨k,hk⟩:∃k:Nat,k=(min x 22).toNat:=⟨_,rfl⟩;have k23:k<23:=by omega
    have tk:=t1 k k23;by_cases h22:22<x
    ·obtain⟨j,hj⟩:∃j:Nat,j=(x-22).toNat:=⟨_,rfl⟩;have ej:x-22=(j:Int):=by omega
     have lC:(j:Int)<23:=by omega
     have tj:=t1 j (by omega);have k22:k=22:=by omega
     subst k22;have wj:=(Ho j (by omega)).1;obtain⟨T1,hT1⟩:∃T,T=Gu j:=⟨_,rfl⟩;obtain⟨T2,tH⟩:∃T,T=Gu 22:=⟨_,rfl⟩;rw[<-hT1]at tj wj;rw[<-tH]at tk;obtain⟨G,hG⟩:∃G,G=Ky F T1:=⟨_,rfl⟩;have rG:∀w,(binOp .mul 155 (.float .f64 F) (.float .f64 T1)).run prog w= .ok (.float .f64 G) w:=fun w=>run_float_arith w .mul 155 .f64 F T1 G (by rw[hG];exact Kw W.1 wj.1);have Gle:G<=AW:=by rw[hG];exact ax W.1 wj.1
     have eG:YP m x=G:=by unfold YP;rw[lQ h22,<-hj,<-hT1,<-hF,<-hG]
     have cn:(FloatKind.f64.format.order G 14054727237768577024==some .lt)=false:=MZ Gle;by_cases vZ:Lu<G
     ·have cg:(FloatKind.f64.format.order G 4831355200913801216==some .gt)=true:=by
       have:=Ip (a:=G) (b:=Lu) Gle (by decide);rw[lU vZ]at this;exact this
      have hr:Lq m x=none:=by unfold Lq;rw[lL h1,lL h2,lQ h3,eG,lQ vZ]
      have HX:Hid (Fq m x w (.returned (.tuple #[.float .f64 G,.bool false])) w):=Hi ⟨G,by rw[hr];rfl,(by rw[hr];intro r h;cases h),rfl⟩;have b22:decide (22<x)=true:=lU h22;clear hq hr h1 hF W h2 t1 hk hT1 tH hG eG vZ wj Gle hj;go_enter func175,ntmps175;go_wp2;go_ret2;exact HX.o
     ·have cg:(FloatKind.f64.format.order G 4831355200913801216==some .gt)=false:=by
       have:=Ip (a:=G) (b:=Lu) Gle (by decide);rw[lO vZ]at this;exact this
      have WG:=Vb h0 (by omega) h3.1 h3.2 (by rw[eG];exact vZ);rw[eG]at WG;obtain⟨R,hR⟩:∃R,R=Ky G T2:=⟨_,rfl⟩;have rR:∀w,(binOp .mul 155 (.float .f64 G) (.float .f64 T2)).run prog w= .ok (.float .f64 R) w:=fun w=>run_float_arith w .mul 155 .f64 G T2 R (by rw[hR];exact Kw WG.1 (by rw[tH];exact(Ho 22 (by decide)).1.1));have hr:Lq m x=some R:=by unfold Lq;rw[lL h1,lL h2,lQ h3,eG,lL vZ,<-hk,<-tH,<-hR]
      have HX:Hid (Fq m x w (.returned (.tuple #[.float .f64 R,.bool true])) w):=Hi ⟨R,by rw[hr];rfl,by rw[hr];intro r h;cases h;rfl,rfl⟩;have b22:decide (22<x)=true:=lU h22;clear hq hr h1 hF W h2 t1 hk hT1 tH hG eG vZ wj Gle hj WG hR;go_enter func175,ntmps175;go_wp2;go_ret2;exact HX.o
    ·have ek:x=(k:Int):=by omega
     obtain⟨T2,tH⟩:∃T,T=Gu k:=⟨_,rfl⟩;rw[<-tH]at tk;have eG:YP m x=F:=by unfold YP;rw[lL h22,<-hF]
     have cn:(FloatKind.f64.format.order F 14054727237768577024==some .lt)=false:=MZ (mW W.1);have b22:decide (22<x)=false:=lO h22;by_cases vZ:Lu<F
     ·have cg:(FloatKind.f64.format.order F 4831355200913801216==some .gt)=true:=by
       have:=Ip (a:=F) (b:=Lu) (mW W.1) (by decide);rw[lU vZ]at this;exact this
      have hr:Lq m x=none:=by unfold Lq;rw[lL h1,lL h2,lQ h3,eG,lQ vZ]
      have HX:Hid (Fq m x w (.returned (.tuple #[.float .f64 F,.bool false])) w):=Hi ⟨F,by rw[hr];rfl,(by rw[hr];intro r h;cases h),rfl⟩;clear hq hr h1 hF W h2 t1 hk tH eG vZ ek;go_enter func175,ntmps175;go_wp2;go_ret2;exact HX.o
     ·have cg:(FloatKind.f64.format.order F 4831355200913801216==some .gt)=false:=by
       have:=Ip (a:=F) (b:=Lu) (mW W.1) (by decide);rw[lO vZ]at this;exact this
      obtain⟨R,hR⟩:∃R,R=Ky F T2:=⟨_,rfl⟩;have rR:∀w,(binOp .mul 155 (.float .f64 F) (.float .f64 T2)).run prog w= .ok (.float .f64 R) w:=fun w=>run_float_arith w .mul 155 .f64 F T2 R (by rw[hR];exact Kw W.1 (by rw[tH];exact(Ho k (by omega)).1.1));have hr:Lq m x=some R:=by unfold Lq;rw[lL h1,lL h2,lQ h3,eG,lL vZ,<-hk,<-tH,<-hR]
      have HX:Hid (Fq m x w (.returned (.tuple #[.float .f64 R,.bool true])) w):=Hi ⟨R,by rw[hr];rfl,by rw[hr];intro r h;cases h;rfl,rfl⟩;have ki:(k:Int)<23:=by omega
      clear hq hr h1 hF W t1 hk tH eG vZ hR;subst ek;clear h2;go_enter func175,ntmps175;go_wp2;go_ret2;exact HX.o
   ·have hgt:(decide (0<x)&&decide (x<=37))=false:=by
     rw[nD];intro hh;simp at hh;exact h3 hh
    by_cases h4:x<0/\ -22<=x
    ·have HT:=hT.o;obtain⟨g,o,c,_,_,t0,t1⟩:=HT;obtain⟨k,hk⟩:∃k:Nat,k=(-x).toNat:=⟨_,rfl⟩;have ek:x= -(k:Int):=by omega
     have k23:k<23:=by omega
     have ki:(k:Int)<23:=by omega
     have tk:=t1 k k23;have wk:=Ho k (by omega);obtain⟨T2,tH⟩:∃T,T=Gu k:=⟨_,rfl⟩;rw[<-tH]at tk wk;obtain⟨R,hR⟩:∃R,R=QZ F T2:=⟨_,rfl⟩;have rR:∀w,(binOp .quo 155 (.float .f64 F) (.float .f64 T2)).run prog w= .ok (.float .f64 R) w:=fun w=>run_float_arith w .quo 155 .f64 F T2 R (by rw[hR];exact YE W.1 wk.1.1 (by have:=wk.2;omega));have hr:Lq m x=some R:=by unfold Lq;rw[lL h1,lL h2,lL h3,lQ h4,<-hk,<-tH,<-hF,<-hR]
     have HX:Hid (Fq m x w (.returned (.tuple #[.float .f64 R,.bool true])) w):=Hi ⟨R,by rw[hr];rfl,by rw[hr];intro r h;cases h;rfl,rfl⟩;have x1:decide (0<x)=false:=Ej;have x3:decide (x<0)=true:=lU h4.1;have x4:decide (-22<=x)=true:=lU h4.2;have ek2: -x=(k:Int):=by omega
     clear hq hr h1 hF W t1 hk tH hR wk h2 h3 hgt ek k23;go_enter func175,ntmps175;go_wp2;go_ret2;exact HX.o
    ·have hr:Lq m x=none:=by unfold Lq;rw[lL h1,lL h2,lL h3,lL h4]
     have HX:Hid (Fq m x w (.returned (.tuple #[.float .f64 F,.bool false])) w):=Hi ⟨F,by rw[hr];rfl,(by rw[hr];intro r h;cases h),rfl⟩;have hh:(decide (0<x)=true/\decide (x<=37)=false)\/(decide (0<x)=false/\decide (x<0)=true/\decide (-22<=x)=false):=by
      rcases Int.lt_or_gt_of_ne h2 with h|h
      ·exact .inr ⟨lO (by omega),lU h,lO (by omega)⟩
      ·exact .inl ⟨lU h,lO (by omega)⟩
     rcases hh with⟨x1,x2⟩|⟨x1,x3,x4⟩
     ·have x3:decide (x<0)=false:=by
       have:=lh x1;exact lO (by omega)
      clear hq hr h1 hF W h2 h3 hgt h4;go_enter func175,ntmps175;go_wp2;go_ret2;exact HX.o
     ·clear hq hr h1 hF W h2 h3 hgt h4;go_enter func175,ntmps175;go_wp2;go_ret2;exact HX.o
end Go.Proofs
end
section
namespace Go.Proofs
open Go.RowKit Go.Pf
theorem Vk (c:Nat) (h:c=46\/gX c) (w:World):Calls prog 149 #[.int .u8 c] w fun e w'=>e= .returned (.int .u8 c)/\w=w':=by
 have:c=46\/c=48\/c=49\/c=50\/c=51\/c=52\/c=53\/c=54\/c=55\/c=56\/c=57:=by
  unfold gX at h;omega
 clear h;rcases this with rfl|rfl|rfl|rfl|rfl|rfl|rfl|rfl|rfl|rfl|rfl
 all_goals
  go_enter func149,ntmps149;go_wp2;go_ret;exact⟨rfl,rfl⟩
theorem JJ (c:Nat) (h:c=101\/c=69) (w:World):Calls prog 149 #[.int .u8 c] w fun e w'=>e= .returned (.int .u8 101)/\w=w':=by
 rcases h with rfl|rfl
 all_goals
  go_enter func149,ntmps149;go_wp2;go_ret;exact⟨rfl,rfl⟩
theorem ZN (s:ByteArray) (w:World) (h0:0<s.size) (hd:Hid (gX s[0].toNat)):
 Calls prog 164 #[.string s] w fun e w'=>e= .returned (.tuple #[.float .f64 0,.int .i64 0,.bool false])/\w=w':=by
 have d1:=hd.o.1;have d2:=hd.o.2;have e1:((s[0].toNat:Int)==43)=false:=DC (n:=43) (by omega);have e2:((s[0].toNat:Int)==45)=false:=DC (n:=45) (by omega);have e3:((s[0].toNat:Int)==105)=false:=DC (n:=105) (by omega);have e4:((s[0].toNat:Int)==73)=false:=DC (n:=73) (by omega);have e5:((s[0].toNat:Int)==110)=false:=DC (n:=110) (by omega);have e6:((s[0].toNat:Int)==78)=false:=DC (n:=78) (by omega);have z0:((s.size:Int)==0)=false:=DC (n:=0) (by omega);clear d1 d2;go_enter func164,ntmps164;go_wp2;refine lS (v:= .tuple #[.float .f64 0,.int .i64 0,.bool false]) ?_ rfl ⟨rfl,rfl⟩;simp only[results,results164];go_simp
end Go.Proofs
end
section
namespace Go.Proofs
open Go.RowKit Go.Pf
def FT (m:Nat) (x:Int) (tr:Bool) (n:Nat) (w:World) (e:Ending) (w':World):Prop:=
 e= .returned (.tuple #[.int .u64 m,.int .i64 x,.bool false,.bool tr,.bool false,.int .i64 n,.bool true])/\w=w'
theorem Tw (s:ByteArray) (p q f:Nat) (sg:Int) (w:World) (hF:Hid (DW s p q f sg)) (hs:s.size<=4611686018427387904):
 Calls prog 165 #[.string s] w (FT (rf s q).DT (Co s q f sg) (rf s q).GV s.size w):=by
 have p0:=hF.o.p0;have pq:=hF.o.pq;have qs:=hF.o.qs;have hB:∀k (h:k<s.size),s[k].toNat=byte s k:=fun k h=>(DA h).symm;have HB:=Hi hB;clear hB;have h0:0<s.size:=by omega
 have h1:1<s.size:=by omega
 have b0:=hF.o.Ca 0 (by omega) (by omega);rw[<-HB.o 0 h0]at b0;have e1:((s[0].toNat:Int)==43)=false:=DC (n:=43) (by omega);have e2:((s[0].toNat:Int)==45)=false:=DC (n:=45) (by omega);have b1:s[1].toNat=46\/gX s[1].toNat:=by
  rw[HB.o 1 h1];by_cases hp:p=1
  ·subst hp;exact .inl hF.o.dot
  ·exact .inr (hF.o.Ca 1 (by omega) (by omega))
 have e3:((s[1].toNat:Int)==120)=false:=DC (n:=120) (by unfold gX at b1;omega);have B1:=Hi b1;clear b0 b1;have qP:decide (s=ByteArray.empty)=false:=lO (by intro h;rw[h]at h0;simp at h0);go_enter func165,ntmps165;go_wp2
 go_step3
 go_upto_region 12 with fail
 go_cut [54]from 21 (fun s54 wx=>s54= .bool false/\w=wx)
 case first=>
  go_wp2_with (go_at_call 149;(with_reducible refine(Vk _ B1.o _).mono ?_);rintro e w' ⟨rfl,rfl⟩)
  all_goals (go_meet;exact⟨rfl,rfl⟩)
 case rest=>
 obtain⟨rfl,rfl⟩:=hcut;go_wp2
 go_step3
 go_wp2
 go_loop [2,5,7,9,13,14,15,16,17] (fun m tr i u dt sd nd nm dp=>∃(k m' ud tZ:Nat) (dp':Int) (qS dt' xv:Bool),k<=q/\m= .int .u64 m'/\tr= .bool qS/\i= .int .i64 k/\u= .bool false/\dt= .bool dt'/\sd= .bool xv/\nd= .int .i64 ud/\nm= .int .i64 tZ/\dp= .int .i64 dp'/\rf s k=⟨m',ud,tZ,dp',qS⟩/\dt'=decide (p<k)/\xv=decide (0<k)) (fun _ _ i _ _ _ _ _ _=>q+1-(intOf i).toNat)
 case atStart=>exact⟨0,0,0,0,0,false,false,false,by omega,rfl,rfl,rfl,rfl,rfl,rfl,rfl,rfl,rfl,rfl,by simp,by simp⟩
 case round=>
  obtain⟨k,m',ud,tZ,dp',qS,dt',xv,hk,rfl,rfl,rfl,rfl,rfl,rfl,rfl,rfl,rfl,hr,wz,xR⟩:=hrel;have ok:=hF.o.ok k hk;rw[hr]at ok;have o1:tZ<=19:=ok.m19;have o2:tZ<=ud:=ok.mn;have o3:ud<=k:=ok.nk;have o5: -(k:Int)<=dp':=ok.lo;have o6:dp'<=k:=ok.hi;by_cases qE:k<q
  ·as_aux_lemma=>
   have uc:k<s.size:=by omega
   have qk:rf s (k+1)=Ed ⟨m',ud,tZ,dp',qS⟩ s[k].toNat:=by rw[HB.o k uc,<-hr];rfl
   have tS:=Hi qk;by_cases hp:k=p
   ·subst hp;have c1:s[k].toNat=46:=by rw[HB.o k uc];exact hF.o.dot
    have d1:dt'=false:=by rw[wz];simp
    have d2:xv=true:=by rw[xR];simp;omega
    have e1:((s[k].toNat:Int)==95)=false:=DC (n:=95) (by omega);have e2:((s[k].toNat:Int)==46)=true:=by rw[c1];rfl
    have HC:=Hi c1;subst d1 d2;clear c1 hr ok qk wz xR;go_wp2;go_round
    case rel=>
     refine⟨k+1,m',ud,tZ,ud,qS,true,true,by omega,rfl,rfl,by go_num,rfl,rfl,rfl,rfl,rfl,rfl,?_,by simp,by simp⟩;rw[tS.o,HC.o];rfl
    case measure=>simp[intOf];omega
   ·have b0:=hF.o.Ca k qE hp;rw[<-HB.o k uc]at b0;have e1:((s[k].toNat:Int)==95)=false:=DC (n:=95) (by omega);have e2:((s[k].toNat:Int)==46)=false:=DC (n:=46) (by omega);have e3:decide ((48:Int)<=(s[k].toNat:Int))=true:=Dq;have e4:decide ((s[k].toNat:Int)<=57)=true:=Dq;have qR:dt'=decide (p<k+1):=by rw[wz];congr 1;simp;omega
    have HD:=Hi qR;have n46:s[k].toNat≠46:=by omega
    have zk:=Hi n46;have ml:tZ<19->m'<10^18:=fun h=>Uq ok h;obtain⟨c,hc⟩:∃c:Nat,c=s[k].toNat-48:=⟨_,rfl⟩;have uB:(s[k].toNat:Int)-48=(c:Int):=by omega
    have hc9:(c:Int)<=9:=by omega
    have HC:=Hi hc;have z1:((s[k].toNat:Int)==48)=decide (c=0):=by
     by_cases h:c=0
     ·rw[lU h];simp;omega
     ·rw[lO h];exact DC (n:=48) (by omega)
    have HZ:=Hi (show s[k].toNat=48↔c=0 by omega);clear hr ok qk wz xR b0 n46 hc qR;by_cases hz:c=0/\ud=0
    ·obtain⟨hc0,vG⟩:=hz;have z2:((s[k].toNat:Int)==48)=true:=by rw[z1];exact lU hc0
     have z3:((ud:Int)==0)=true:=by rw[vG];rfl
     have HN:=Hi vG;clear z1 ml vG;go_wp2;go_round
     case rel=>
      refine⟨k+1,m',ud,tZ,dp'-1,qS,dt',true,by omega,rfl,rfl,by go_num,rfl,rfl,rfl,rfl,rfl,by go_num,?_,HD.o,by simp⟩;rw[tS.o];simp only[Ed,lL zk.o,lQ (show s[k].toNat=48/\ud=0 from⟨HZ.o.2 hc0,HN.o⟩)]
     case measure=>simp[intOf];omega
    ·have wL:¬(s[k].toNat=48/\ud=0):=fun h=>hz ⟨HZ.o.1 h.1,h.2⟩;have HZZ:=Hi wL;have zz:(((s[k].toNat:Int)==48)=true/\((ud:Int)==0)=false)\/((s[k].toNat:Int)==48)=false:=by
      by_cases h:c=0
      ·exact .inl ⟨by rw[z1];exact lU h,DC (n:=0) (by omega)⟩
      ·exact .inr (by rw[z1];exact lO h)
     clear hz wL;by_cases h19:tZ<19
     ·have hm18:(m':Int)<1000000000000000000:=by have:=ml h19;omega
      have h19i:decide ((tZ:Int)<19)=true:=Dq;clear ml z1;have fin:∃(k2 m2 nd2 nm2:Nat) (dp2:Int) (tr2 dt2 sd2:Bool),k2<=q/\Value.int .u64 ((m':Int)*10+(c:Int))= .int .u64 m2/\Value.bool qS= .bool tr2/\Value.int .i64 ((k:Int)+1)= .int .i64 k2/\Value.bool false= .bool false/\Value.bool dt'= .bool dt2/\Value.bool true= .bool sd2/\Value.int .i64 ((ud:Int)+1)= .int .i64 nd2/\Value.int .i64 ((tZ:Int)+1)= .int .i64 nm2/\Value.int .i64 dp'= .int .i64 dp2/\rf s k2=⟨m2,nd2,nm2,dp2,tr2⟩/\dt2=decide (p<k2)/\sd2=decide (0<k2):=by
       refine⟨k+1,m'*10+c,ud+1,tZ+1,dp',qS,dt',true,by omega,by go_num,rfl,by go_num,rfl,rfl,rfl,by go_num,by go_num,rfl,?_,HD.o,by simp⟩;rw[tS.o];simp only[Ed,lL zk.o,lL HZZ.o,lQ h19,HC.o]
      have FIN:=Hi fin;clear fin;rcases zz with⟨z2,z3⟩|z2
      ·go_wp2;go_round
       case rel=>exact FIN.o
       case measure=>simp[intOf];omega
      ·go_wp2;go_round
       case rel=>exact FIN.o
       case measure=>simp[intOf];omega
     ·have h19i:decide ((tZ:Int)<19)=false:=Ej;have h19e:tZ=19:=by omega
      have nz:((ud:Int)==0)=false:=DC (n:=0) (by omega);have H19:=Hi h19;clear ml zz h19 h19e;by_cases h0c:c=0
      ·have z2:((s[k].toNat:Int)==48)=true:=by rw[z1];exact lU h0c
       have HZ0:=Hi (HZ.o.2 h0c);clear z1;go_wp2;go_round
       case rel=>
        refine⟨k+1,m',ud+1,tZ,dp',qS,dt',true,by omega,rfl,rfl,by go_num,rfl,rfl,rfl,by go_num,rfl,rfl,?_,HD.o,by simp⟩;rw[tS.o,Ed,lL zk.o,lL HZZ.o,lL H19.o];simp only[HZ0.o];simp
       case measure=>simp[intOf];omega
      ·have z2:((s[k].toNat:Int)==48)=false:=by rw[z1];exact lO h0c
       have HZ0:Hid (s[k].toNat≠48):=Hi (fun h=>h0c (HZ.o.1 h));clear z1;go_wp2;go_round
       case rel=>
        refine⟨k+1,m',ud+1,tZ,dp',true,dt',true,by omega,rfl,rfl,by go_num,rfl,rfl,rfl,by go_num,rfl,rfl,?_,HD.o,by simp⟩;rw[tS.o];simp only[Ed,lL zk.o,lL HZZ.o,lL H19.o];have:(s[k].toNat !=48)=true:=by simpa using HZ0.o
        rw[this];simp
       case measure=>simp[intOf];omega
  ·obtain rfl:k=q:=by omega
   have d1:dt'=true:=by rw[wz];simp;omega
   have d2:xv=true:=by rw[xR];simp;omega
   have HR:=Hi hr;subst d1 d2;have hT:=hF.o.tail;clear hr ok wz xR;rcases hT with⟨t1,t2,t3⟩|⟨t1,t2,t3,t4,t5,t6⟩
   ·as_aux_lemma=>
    have sV:FT m' (if m'=0 then 0 else dp'-tZ) qS s.size w=FT (rf s k).DT (Co s k f sg) (rf s k).GV s.size w:=by
     unfold Co;rw[HR.o,t2];simp[ef]
    have sK:=Hi sV;have uc:¬k<s.size:=by omega
    have HT:=Hi t1;clear sV t1 t2 t3;by_cases rK:m'=0
    ·subst rK;have z0:(((0:Nat):Int)==0)=true:=rfl;go_wp2;refine lS (v:= .tuple #[.int .u64 (0:Nat),.int .i64 0,.bool false,.bool qS,.bool false,.int .i64 k,.bool true]) ?_ rfl ?_
     ·simp only[results,results165];go_simp
     ·rw[<-sK.o];exact⟨by simp[HT.o],rfl⟩
    ·have z0:((m':Int)==0)=false:=DC (n:=0) (by omega);have HM:=Hi rK;clear rK;go_wp2;refine lS (v:= .tuple #[.int .u64 m',.int .i64 (dp'-tZ),.bool false,.bool qS,.bool false,.int .i64 k,.bool true]) ?_ rfl ?_
     ·simp only[results,results165];go_simp
     ·rw[<-sK.o,lL HM.o];exact⟨by simp[HT.o],rfl⟩
   ·have uc:k<s.size:=t1;have hck:=HB.o k t1;have yL:s[k].toNat=101\/s[k].toNat=69:=by rw[hck];exact t2
    have e1:((s[k].toNat:Int)==95)=false:=DC (n:=95) (by omega);have e2:((s[k].toNat:Int)==46)=false:=DC (n:=46) (by omega);have e3:decide ((48:Int)<=(s[k].toNat:Int))=true:=Dq;have e4:decide ((s[k].toNat:Int)<=57)=false:=Ej;have HE:=Hi yL;obtain⟨k1,wK⟩:∃k1:Nat,k1=k+1:=⟨_,rfl⟩;obtain⟨k2,sW⟩:∃k2:Nat,k2=k+2:=⟨_,rfl⟩;have i1:(k:Int)+1=(k1:Int):=by omega
    have i2:(k1:Int)+1=(k2:Int):=by omega
    have l1:k1<s.size:=by omega
    have lf:=t6 f (by omega) t4;have sV:FT m' (if m'=0 then 0 else dp'+ef s f (s.size-f)*sg-tZ) qS s.size w=FT (rf s k).DT (Co s k f sg) (rf s k).GV s.size w:=by
     unfold Co;rw[HR.o]
    have sK:=Hi sV;have T6:Hid (∀j (h:j<s.size),f<=j->48<=s[j].toNat/\s[j].toNat<=57):=Hi (fun j h hf=>by rw[HB.o j h];exact t6 j hf h);have t3':(f=k1/\sg=1/\48<=s[k1].toNat/\s[k1].toNat<=57)\/(f=k2/\sg=1/\s[k1].toNat=43)\/(f=k2/\sg= -1/\s[k1].toNat=45):=by
     rw[HB.o k1 l1];subst wK sW;rcases t3 with⟨a,b⟩|h|h
     ·refine .inl ⟨a,b,?_⟩;rw[<-a];exact lf
     ·exact .inr (.inl h)
     ·exact .inr (.inr h)
    have HX:=Hi (show k1<=f/\f<=k2 by omega);have lff:=T6.o f t4 (nR _);have q1:decide ((s[f].toNat:Int)<48)=false:=Ej;have q2:decide ((57:Int)<(s[f].toNat:Int))=false:=Ej;have q3:¬s.size<=f:=by omega
    have q4:¬s.size<=k1:=by omega
    have T5:=Hi t5;clear sV t1 t2 t3 t6 yL hck lf lff wK sW hF;rcases t3' with⟨ha,hb,uQ,uB⟩|⟨ha,hb,hc⟩|⟨ha,hb,hc⟩
    ·as_aux_lemma=>
     have g1:((s[k1].toNat:Int)==43)=false:=DC (n:=43) (by omega);have g2:((s[k1].toNat:Int)==45)=false:=DC (n:=45) (by omega);subst hb ha;clear uQ uB
     go_wp2_with (go_at_call 149;(with_reducible refine(JJ _ HE.o _).mono ?_);rintro e w' ⟨rfl,rfl⟩)
     go_loop [7,9,20] (fun i u e=>∃(j e':Nat),f<=j/\j<=s.size/\i= .int .i64 j/\u= .bool false/\e= .int .i64 e'/\e'=ef s f (j-f)) (fun i _ _=>s.size+1-(intOf i).toNat)
     case atStart=>exact⟨f,0,nR _,by omega,rfl,rfl,rfl,by simp[ef]⟩
     case round=>
      obtain⟨j,e',tq,vY,rfl,rfl,rfl,he⟩:=hrel;by_cases hjl:j<s.size
      ·have dj:=T6.o j hjl tq;have x1:decide ((48:Int)<=(s[j].toNat:Int))=true:=Dq;have x2:decide ((s[j].toNat:Int)<=57)=true:=Dq;have x3:((s[j].toNat:Int)==95)=false:=DC (n:=95) (by omega);have lt:e'<10^3:=by
        rw[he];exact lR (Em s f (j-f) (fun i hi=>by rw[<-HB.o (f+i) (by omega)];exact(T6.o (f+i) (by omega) (by omega)).2)) (lX (by decide) (by have:=T5.o;omega))
       have x4:decide ((e':Int)<10000)=true:=Dq;have x5:(e':Int)<=999:=by omega
       obtain⟨e2,uS⟩:∃e2:Nat,e2=e'*10+(s[j].toNat-48):=⟨_,rfl⟩;have x6:(e':Int)*10+(s[j].toNat:Int)-48=(e2:Int):=by omega
       have qL:e2=ef s f (j+1-f):=by
        have h1:j+1-f=(j-f)+1:=by omega
        have h2:f+(j-f)=j:=by omega
        rw[h1,ef,<-he,uS,HB.o j hjl,h2]
       have HN:=Hi qL;have x7:(s[j].toNat:Int)<=57:=by omega
       clear dj lt he uS qL;go_wp2;go_round
       case rel=>exact⟨j+1,e2,by omega,by omega,by go_num,rfl,by go_num,HN.o⟩
       case measure=>simp[intOf];omega
      ·have sw:j=s.size:=by omega
       have lt:e'<10^4:=by
        rw[he];exact lR (Em s f (j-f) (fun i hi=>by rw[<-HB.o (f+i) (by omega)];exact(T6.o (f+i) (by omega) (by omega)).2)) (lX (by decide) (by have:=T5.o;omega))
       have x5:(e':Int)<=9999:=by omega
       rw[sw]at he;rw[<-he]at sK;have HJ:=Hi sw;clear he lt sw;by_cases rK:m'=0
       ·subst rK;go_wp2;refine lS (v:= .tuple #[.int .u64 (0:Nat),.int .i64 0,.bool false,.bool qS,.bool false,.int .i64 j,.bool true]) ?_ rfl ?_
        ·simp only[results,results165];go_simp
        ·rw[<-sK.o];exact⟨by simp[HJ.o],rfl⟩
       ·have z0:((m':Int)==0)=false:=DC (n:=0) (by omega);have HM:=Hi rK;clear rK;go_wp2;refine lS (v:= .tuple #[.int .u64 m',.int .i64 (dp'+e'-tZ),.bool false,.bool qS,.bool false,.int .i64 j,.bool true]) ?_ rfl ?_
        ·simp only[results,results165];go_simp
        ·rw[<-sK.o,lL HM.o];exact⟨by simp[HJ.o],rfl⟩
    ·as_aux_lemma=>
     have g1:((s[k1].toNat:Int)==43)=true:=Pv (n:=43) hc;subst hb ha;clear hc
     go_wp2_with (go_at_call 149;(with_reducible refine(JJ _ HE.o _).mono ?_);rintro e w' ⟨rfl,rfl⟩)
     go_loop [7,9,20] (fun i u e=>∃(j e':Nat),f<=j/\j<=s.size/\i= .int .i64 j/\u= .bool false/\e= .int .i64 e'/\e'=ef s f (j-f)) (fun i _ _=>s.size+1-(intOf i).toNat)
     case atStart=>exact⟨f,0,nR _,by omega,rfl,rfl,rfl,by simp[ef]⟩
     case round=>
      obtain⟨j,e',tq,vY,rfl,rfl,rfl,he⟩:=hrel;by_cases hjl:j<s.size
      ·have dj:=T6.o j hjl tq;have x1:decide ((48:Int)<=(s[j].toNat:Int))=true:=Dq;have x2:decide ((s[j].toNat:Int)<=57)=true:=Dq;have x3:((s[j].toNat:Int)==95)=false:=DC (n:=95) (by omega);have lt:e'<10^3:=by
        rw[he];exact lR (Em s f (j-f) (fun i hi=>by rw[<-HB.o (f+i) (by omega)];exact(T6.o (f+i) (by omega) (by omega)).2)) (lX (by decide) (by have:=T5.o;omega))
       have x4:decide ((e':Int)<10000)=true:=Dq;have x5:(e':Int)<=999:=by omega
       obtain⟨e2,uS⟩:∃e2:Nat,e2=e'*10+(s[j].toNat-48):=⟨_,rfl⟩;have x6:(e':Int)*10+(s[j].toNat:Int)-48=(e2:Int):=by omega
       have qL:e2=ef s f (j+1-f):=by
        have h1:j+1-f=(j-f)+1:=by omega
        have h2:f+(j-f)=j:=by omega
        rw[h1,ef,<-he,uS,HB.o j hjl,h2]
       have HN:=Hi qL;have x7:(s[j].toNat:Int)<=57:=by omega
       clear dj lt he uS qL;go_wp2;go_round
       case rel=>exact⟨j+1,e2,by omega,by omega,by go_num,rfl,by go_num,HN.o⟩
       case measure=>simp[intOf];omega
      ·have sw:j=s.size:=by omega
       have lt:e'<10^4:=by
        rw[he];exact lR (Em s f (j-f) (fun i hi=>by rw[<-HB.o (f+i) (by omega)];exact(T6.o (f+i) (by omega) (by omega)).2)) (lX (by decide) (by have:=T5.o;omega))
       have x5:(e':Int)<=9999:=by omega
       rw[sw]at he;rw[<-he]at sK;have HJ:=Hi sw;clear he lt sw;by_cases rK:m'=0
       ·subst rK;go_wp2;refine lS (v:= .tuple #[.int .u64 (0:Nat),.int .i64 0,.bool false,.bool qS,.bool false,.int .i64 j,.bool true]) ?_ rfl ?_
        ·simp only[results,results165];go_simp
        ·rw[<-sK.o];exact⟨by simp[HJ.o],rfl⟩
       ·have z0:((m':Int)==0)=false:=DC (n:=0) (by omega);have HM:=Hi rK;clear rK;go_wp2;refine lS (v:= .tuple #[.int .u64 m',.int .i64 (dp'+e'-tZ),.bool false,.bool qS,.bool false,.int .i64 j,.bool true]) ?_ rfl ?_
        ·simp only[results,results165];go_simp
        ·rw[<-sK.o,lL HM.o];exact⟨by simp[HJ.o],rfl⟩
    ·as_aux_lemma=>
     have g1:((s[k1].toNat:Int)==43)=false:=DC (n:=43) (by omega);have g2:((s[k1].toNat:Int)==45)=true:=Pv (n:=45) hc;subst hb ha;clear hc
     go_wp2_with (go_at_call 149;(with_reducible refine(JJ _ HE.o _).mono ?_);rintro e w' ⟨rfl,rfl⟩)
     go_loop [7,9,20] (fun i u e=>∃(j e':Nat),f<=j/\j<=s.size/\i= .int .i64 j/\u= .bool false/\e= .int .i64 e'/\e'=ef s f (j-f)) (fun i _ _=>s.size+1-(intOf i).toNat)
     case atStart=>exact⟨f,0,nR _,by omega,rfl,rfl,rfl,by simp[ef]⟩
     case round=>
      obtain⟨j,e',tq,vY,rfl,rfl,rfl,he⟩:=hrel;by_cases hjl:j<s.size
      ·have dj:=T6.o j hjl tq;have x1:decide ((48:Int)<=(s[j].toNat:Int))=true:=Dq;have x2:decide ((s[j].toNat:Int)<=57)=true:=Dq;have x3:((s[j].toNat:Int)==95)=false:=DC (n:=95) (by omega);have lt:e'<10^3:=by
        rw[he];exact lR (Em s f (j-f) (fun i hi=>by rw[<-HB.o (f+i) (by omega)];exact(T6.o (f+i) (by omega) (by omega)).2)) (lX (by decide) (by have:=T5.o;omega))
       have x4:decide ((e':Int)<10000)=true:=Dq;have x5:(e':Int)<=999:=by omega
       obtain⟨e2,uS⟩:∃e2:Nat,e2=e'*10+(s[j].toNat-48):=⟨_,rfl⟩;have x6:(e':Int)*10+(s[j].toNat:Int)-48=(e2:Int):=by omega
       have qL:e2=ef s f (j+1-f):=by
        have h1:j+1-f=(j-f)+1:=by omega
        have h2:f+(j-f)=j:=by omega
        rw[h1,ef,<-he,uS,HB.o j hjl,h2]
       have HN:=Hi qL;have x7:(s[j].toNat:Int)<=57:=by omega
       clear dj lt he uS qL;go_wp2;go_round
       case rel=>exact⟨j+1,e2,by omega,by omega,by go_num,rfl,by go_num,HN.o⟩
       case measure=>simp[intOf];omega
      ·have sw:j=s.size:=by omega
       have lt:e'<10^4:=by
        rw[he];exact lR (Em s f (j-f) (fun i hi=>by rw[<-HB.o (f+i) (by omega)];exact(T6.o (f+i) (by omega) (by omega)).2)) (lX (by decide) (by have:=T5.o;omega))
       have x5:(e':Int)<=9999:=by omega
       rw[sw]at he;rw[<-he]at sK;have HJ:=Hi sw;clear he lt sw;by_cases rK:m'=0
       ·subst rK;go_wp2;refine lS (v:= .tuple #[.int .u64 (0:Nat),.int .i64 0,.bool false,.bool qS,.bool false,.int .i64 j,.bool true]) ?_ rfl ?_
        ·simp only[results,results165];go_simp
        ·rw[<-sK.o];exact⟨by simp[HJ.o],rfl⟩
       ·have z0:((m':Int)==0)=false:=DC (n:=0) (by omega);have HM:=Hi rK;clear rK;go_wp2;refine lS (v:= .tuple #[.int .u64 m',.int .i64 (dp'+e'* -1-tZ),.bool false,.bool qS,.bool false,.int .i64 j,.bool true]) ?_ rfl ?_
        ·simp only[results,results165];go_simp
        ·rw[<-sK.o,lL HM.o];exact⟨by simp[HJ.o],rfl⟩
def H9 (w:World) (B b:Nat) (t:Cm) (e:Ending) (w':World):Prop:=e= .returned (.bool true)/\Eg w' b t.A t.nd t.dp t.tr/\Below B w w'
theorem dD (B b:Nat) (s:ByteArray) (p q f:Nat) (sg:Int) (w:World) (hF:Hid (DW s p q f sg)) (hs:s.size<=4611686018427387904) (hB:B<=b) (hD:Hid (Eg w b (fun _=>0) 0 0 false)):
 Calls prog 171 #[.pointer (some ⟨b,0,none⟩),.string s] w (H9 w B b ⟨(By s q).A,(By s q).nd,(By s q).dp+ef s f (s.size-f)*sg,(By s q).tr⟩):=by
 have p0:=hF.o.p0;have pq:=hF.o.pq;have qs:=hF.o.qs;have hB2:∀k (h:k<s.size),s[k].toNat=byte s k:=fun k h=>(DA h).symm;have HB:=Hi hB2;clear hB2;have h0:0<s.size:=by omega
 have b0:=hF.o.Ca 0 (by omega) (by omega);rw[<-HB.o 0 h0]at b0;have e1:((s[0].toNat:Int)==43)=false:=DC (n:=43) (by omega);have e2:((s[0].toNat:Int)==45)=false:=DC (n:=45) (by omega);have k2:=hD.o.Vi;have k3:=hD.o.UW;have f2:=hD.o.fz 802;have f3:=hD.o.fz 803;have qP:decide (s=ByteArray.empty)=false:=lO (by intro h;rw[h]at h0;simp at h0);have S0:Eg ((w.setCell ⟨b,802,none⟩ (.bool false)).setCell ⟨b,803,none⟩ (.bool false)) b (fun _=>0) 0 0 false:=
  ⟨hD.o.le,hD.o.Ca,fun i hi=>other (other (hD.o.cell i hi) (by omega)) (by omega),other (other hD.o.MA (by decide)) (by decide),other (other hD.o.P5 (by decide)) (by decide),other (DO hD.o.Vi) (by decide),DO (other hD.o.UW (by decide)),fun i=>by rw[oY,oY];exact hD.o.fz i⟩
 have HS0:=Hi S0;clear b0 S0;go_enter func171,ntmps171;go_wp2
 go_loopw [5,6,7] (fun iv dt sd wr=>∃(k:Nat) (t:Cm) (dt' xv:Bool),iv= .int .i64 k/\dt= .bool dt'/\sd= .bool xv/\k<=q/\t=By s k/\dt'=decide (p<k)/\xv=decide (0<k)/\Eg wr b t.A t.nd t.dp t.tr/\Below B w wr) (fun iv _ _ _=>q+1-(intOf iv).toNat)
 case atStart=>exact⟨0,⟨fun _=>0,0,0,false⟩,false,false,rfl,rfl,rfl,by omega,rfl,by simp,by simp,HS0.o,((Below.refl _ _).setCell (p:=⟨b,802,none⟩) hB _).setCell (p:=⟨b,803,none⟩) hB _⟩
 case round=>
  obtain⟨k,t,dt',xv,rfl,rfl,rfl,hk,ht,wz,xR,hd,qV⟩:=hrel;have ok:=hF.o.YM k hk;rw[<-ht]at ok;have o1:=ok.n8;have o2:=ok.nk;have o5:=ok.lo;have o6:=ok.hi;have m0:=hd.MA;have m1:=hd.P5;have m3:=hd.UW;have z0:=hd.fz 800;have z1:=hd.fz 801;have z3:=hd.fz 803;have wH:=Hi hd;have sH:=Hi qV;have HTT:=Hi ht;clear hd qV ht;by_cases qE:k<q
  ·have uc:k<s.size:=by omega
   have qk:By s (k+1)=DY t s[k].toNat:=by rw[HB.o k uc,HTT.o];rfl
   have tS:=Hi qk;by_cases hp:k=p
   ·subst hp;have c1:s[k].toNat=46:=by rw[HB.o k uc];exact hF.o.dot
    have d1:dt'=false:=by rw[wz];simp
    have d2:xv=true:=by rw[xR];simp;omega
    have e1:((s[k].toNat:Int)==95)=false:=DC (n:=95) (by omega);have e2:((s[k].toNat:Int)==46)=true:=Pv (n:=46) c1;have HC:=Hi c1;have HX:Hid (Eg (wr.setCell ⟨b,801,none⟩ (.int .i64 t.nd)) b t.A t.nd t.nd t.tr/\Below B w (wr.setCell ⟨b,801,none⟩ (.int .i64 t.nd))):=Hi ⟨wH.o.F1 t.nd,sH.o.setCell (p:=⟨b,801,none⟩) hB _⟩;subst d1 d2;clear c1 ok qk wz xR;go_wp2;go_roundw
    case rel=>exact⟨k+1,{t with dp:=t.nd},true,true,by go_num,rfl,rfl,by omega,by rw[tS.o,HC.o];rfl,by simp,by simp,HX.o⟩
    case measure=>simp[intOf];omega
   ·have b0:=hF.o.Ca k qE hp;rw[<-HB.o k uc]at b0;have e1:((s[k].toNat:Int)==95)=false:=DC (n:=95) (by omega);have e2:((s[k].toNat:Int)==46)=false:=DC (n:=46) (by omega);have e3:decide ((48:Int)<=(s[k].toNat:Int))=true:=Dq;have e4:decide ((s[k].toNat:Int)<=57)=true:=Dq;have qR:dt'=decide (p<k+1):=by rw[wz];congr 1;simp;omega
    have uA:=Hi qR;have zk:=Hi (show s[k].toNat≠46 by omega);have B0:=Hi b0;clear qk wz xR qR;by_cases hz:s[k].toNat=48/\t.nd=0
    ·have y1:((s[k].toNat:Int)==48)=true:=Pv (n:=48) hz.1;have y2:((t.nd:Int)==0)=true:=Pv (n:=0) hz.2;have HX:Hid (By s (k+1)= {t with dp:=t.dp-1} /\Eg (wr.setCell ⟨b,801,none⟩ (.int .i64 (t.dp-1))) b t.A t.nd (t.dp-1) t.tr/\Below B w (wr.setCell ⟨b,801,none⟩ (.int .i64 (t.dp-1)))):=Hi ⟨by rw[tS.o,DY,lL zk.o,lQ hz],wH.o.F1 _,sH.o.setCell (p:=⟨b,801,none⟩) hB _⟩;clear hz ok b0;go_wp2;go_roundw
     case rel=>exact⟨k+1,{t with dp:=t.dp-1},dt',true,by go_num,rfl,rfl,by omega,HX.o.1.symm,uA.o,by simp,HX.o.2⟩
     case measure=>simp[intOf];omega
    ·have zz:(((s[k].toNat:Int)==48)=true/\((t.nd:Int)==0)=false)\/((s[k].toNat:Int)==48)=false:=by
      by_cases h:s[k].toNat=48
      ·exact .inl ⟨Pv (n:=48) h,DC (n:=0) (fun h2=>hz ⟨h,h2⟩)⟩
      ·exact .inr (DC (n:=48) h)
     by_cases h8:t.nd<800
     ·have ni:(t.nd:Int)<800:=by omega
      have cw:=wH.o.cell t.nd h8;have zw:=wH.o.fz t.nd;have HX:Hid (By s (k+1)= {t with A:=SP t.A t.nd s[k].toNat,nd:=t.nd+1} /\∀wq,wq.heap=wr.heap->Below B w wq->Eg ((wq.setCell ⟨b,t.nd,none⟩ (.int .u8 (s[k].toNat:Int))).setCell ⟨b,800,none⟩ (.int .i64 ((t.nd:Int)+1))) b (SP t.A t.nd s[k].toNat) (t.nd+1) t.dp t.tr/\Below B w ((wq.setCell ⟨b,t.nd,none⟩ (.int .u8 (s[k].toNat:Int))).setCell ⟨b,800,none⟩ (.int .i64 ((t.nd:Int)+1)))):=Hi ⟨by rw[tS.o,DY,lL zk.o,lL hz,lQ h8],fun wq hq hbq=>⟨((wH.o.same hq).Nf t.nd s[k].toNat h8 t.nd rfl (fun i hi _=>ok.Ca i hi) (fun h=>absurd h (Nat.lt_irrefl _))).SW (t.nd+1) (by omega) (fun i hi=>by
       by_cases e:i=t.nd
       ·subst e;simp only[lQ];exact B0.o
       ·simp only[lL e];exact ok.Ca i (by omega)),(hbq.setCell (p:=⟨b,t.nd,none⟩) hB _).setCell (p:=⟨b,800,none⟩) hB _⟩⟩
      clear hz ok b0;rcases zz with⟨y1,y2⟩|y1
      all_goals
       go_wp2
       go_region
       go_wp2
      all_goals
       go_roundw
       case rel=>exact⟨k+1,{t with A:=SP t.A t.nd s[k].toNat,nd:=t.nd+1},dt',true,by go_num,rfl,rfl,by omega,HX.o.1.symm,uA.o,by simp,(HX.o.2 wr rfl sH.o).1.same rfl,(HX.o.2 wr rfl sH.o).2.drew⟩
       case measure=>simp[intOf];omega
     ·have ni:(800:Int)<=t.nd:=by omega
      by_cases h48:s[k].toNat=48
      ·have y1:((s[k].toNat:Int)==48)=true:=Pv (n:=48) h48;have y2:((t.nd:Int)==0)=false:=DC (n:=0) (by omega);have HX:Hid (By s (k+1)=t):=Hi (by rw[tS.o,DY,lL zk.o,lL hz,lL h8,h48];simp);clear hz ok b0 zz h48;go_wp2;go_roundw
       case rel=>exact⟨k+1,t,dt',true,by go_num,rfl,rfl,by omega,HX.o.symm,uA.o,by simp,wH.o,sH.o⟩
       case measure=>simp[intOf];omega
      ·have y1:((s[k].toNat:Int)==48)=false:=DC (n:=48) h48;have HX:Hid (By s (k+1)= {t with tr:=true} /\Eg (wr.setCell ⟨b,803,none⟩ (.bool true)) b t.A t.nd t.dp true/\Below B w (wr.setCell ⟨b,803,none⟩ (.bool true))):=Hi ⟨by
        rw[tS.o,DY,lL zk.o,lL hz,lL h8];have:(s[k].toNat !=48)=true:=by simpa using h48
        rw[this];simp,wH.o.Sh true,sH.o.setCell (p:=⟨b,803,none⟩) hB _⟩
       clear hz ok b0 zz h48;go_wp2;go_roundw
       case rel=>exact⟨k+1,{t with tr:=true},dt',true,by go_num,rfl,rfl,by omega,HX.o.1.symm,uA.o,by simp,HX.o.2⟩
       case measure=>simp[intOf];omega
  ·obtain rfl:k=q:=by omega
   have d1:dt'=true:=by rw[wz];simp;omega
   have d2:xv=true:=by rw[xR];simp;omega
   subst d1 d2;have hT:=hF.o.tail;have HRT:Hid (By s k=t):=Hi HTT.o.symm;clear ok wz xR;rcases hT with⟨t1,t2,t3⟩|⟨t1,t2,t3,t4,t5,t6⟩
   ·have uc:¬k<s.size:=by omega
    have HE:Hid (H9 w B b ⟨(By s k).A,(By s k).nd,(By s k).dp+ef s f (s.size-f)*sg,(By s k).tr⟩ (.returned (.bool true)) wr):=Hi ⟨rfl,by rw[HRT.o,t2];simpa[ef]using wH.o,sH.o⟩;have kz:((k:Int)==(s.size:Int))=true:=by rw[t1];simp
    have HKS:=Hi t1;clear t1 t2 t3;go_wp2;go_ret;exact HE.o
   ·have uc:k<s.size:=t1;have hck:=HB.o k t1;have yL:s[k].toNat=101\/s[k].toNat=69:=by rw[hck];exact t2
    have e1:((s[k].toNat:Int)==95)=false:=DC (n:=95) (by omega);have e2:((s[k].toNat:Int)==46)=false:=DC (n:=46) (by omega);have e3:decide ((48:Int)<=(s[k].toNat:Int))=true:=Dq;have e4:decide ((s[k].toNat:Int)<=57)=false:=Ej;have HE:=Hi yL;obtain⟨k1,wK⟩:∃k1:Nat,k1=k+1:=⟨_,rfl⟩;obtain⟨k2,sW⟩:∃k2:Nat,k2=k+2:=⟨_,rfl⟩;have i1:(k:Int)+1=(k1:Int):=by omega
    have i2:(k1:Int)+1=(k2:Int):=by omega
    have l1:k1<s.size:=by omega
    have lf:=t6 f (by omega) t4;have T6:Hid (∀j (h:j<s.size),f<=j->48<=s[j].toNat/\s[j].toNat<=57):=Hi (fun j h hf=>by rw[HB.o j h];exact t6 j hf h);have t3':(f=k1/\sg=1/\48<=s[k1].toNat/\s[k1].toNat<=57)\/(f=k2/\sg=1/\s[k1].toNat=43)\/(f=k2/\sg= -1/\s[k1].toNat=45):=by
     rw[HB.o k1 l1];subst wK sW;rcases t3 with⟨a,b⟩|h|h
     ·refine .inl ⟨a,b,?_⟩;rw[<-a];exact lf
     ·exact .inr (.inl h)
     ·exact .inr (.inr h)
    have HX:=Hi (show k1<=f/\f<=k2 by omega);have lff:=T6.o f t4 (nR _);have q1:decide ((s[f].toNat:Int)<48)=false:=Ej;have q2:decide ((57:Int)<(s[f].toNat:Int))=false:=Ej;have q3:¬s.size<=f:=by omega
    have q4:¬s.size<=k1:=by omega
    have T5:=Hi t5;clear t1 t2 t3 t6 yL hck lf lff wK sW hF;rcases t3' with⟨ha,hb,uQ,uB⟩|⟨ha,hb,hc⟩|⟨ha,hb,hc⟩
    ·have g1:((s[k1].toNat:Int)==43)=false:=DC (n:=43) (by omega);have g2:((s[k1].toNat:Int)==45)=false:=DC (n:=45) (by omega);subst hb ha;clear uQ uB
     go_wp2_with (go_at_call 149;(with_reducible refine(JJ _ HE.o _).mono ?_);rintro e w' ⟨rfl,rfl⟩)
     go_loop [5,9] (fun i e=>∃(j e':Nat),f<=j/\j<=s.size/\i= .int .i64 j/\e= .int .i64 e'/\e'=ef s f (j-f)) (fun i _=>s.size+1-(intOf i).toNat)
     case atStart=>exact⟨f,0,nR _,by omega,rfl,rfl,by simp[ef]⟩
     case round=>
      obtain⟨j,e',tq,vY,rfl,rfl,he⟩:=hrel;by_cases hjl:j<s.size
      ·have dj:=T6.o j hjl tq;have x1:decide ((48:Int)<=(s[j].toNat:Int))=true:=Dq;have x2:decide ((s[j].toNat:Int)<=57)=true:=Dq;have x3:((s[j].toNat:Int)==95)=false:=DC (n:=95) (by omega);have lt:e'<10^3:=by
        rw[he];exact lR (Em s f (j-f) (fun i hi=>by rw[<-HB.o (f+i) (by omega)];exact(T6.o (f+i) (by omega) (by omega)).2)) (lX (by decide) (by have:=T5.o;omega))
       have x4:decide ((e':Int)<10000)=true:=Dq;have x5:(e':Int)<=999:=by omega
       obtain⟨e2,uS⟩:∃e2:Nat,e2=e'*10+(s[j].toNat-48):=⟨_,rfl⟩;have x6:(e':Int)*10+(s[j].toNat:Int)-48=(e2:Int):=by omega
       have qL:e2=ef s f (j+1-f):=by
        have h1:j+1-f=(j-f)+1:=by omega
        have h2:f+(j-f)=j:=by omega
        rw[h1,ef,<-he,uS,HB.o j hjl,h2]
       have HN:=Hi qL;have x7:(s[j].toNat:Int)<=57:=by omega
       clear dj lt he uS qL;go_wp2;go_round
       case rel=>exact⟨j+1,e2,by omega,by omega,by go_num,by go_num,HN.o⟩
       case measure=>simp[intOf];omega
      ·have sw:j=s.size:=by omega
       have lt:e'<10^4:=by
        rw[he];exact lR (Em s f (j-f) (fun i hi=>by rw[<-HB.o (f+i) (by omega)];exact(T6.o (f+i) (by omega) (by omega)).2)) (lX (by decide) (by have:=T5.o;omega))
       have x5:(e':Int)<=9999:=by omega
       rw[sw]at he;have HX:Hid (∀x:Int,x=t.dp+e'->H9 w B b ⟨(By s k).A,(By s k).nd,(By s k).dp+ef s f (s.size-f)*1,(By s k).tr⟩ (.returned (.bool true)) (wr.setCell ⟨b,801,none⟩ (.int .i64 x))):=Hi (fun x hx=>⟨rfl,by rw[HRT.o,<-he,hx];first|exact wH.o.F1 _|(rw[Int.mul_one];exact wH.o.F1 _),sH.o.setCell (p:=⟨b,801,none⟩) hB _⟩);have HJ:=Hi sw;have jz:((j:Int)==(s.size:Int))=true:=by rw[sw];simp
       clear he lt sw;go_wp2;go_ret;have hf:=HX.o (t.dp+e') rfl;rw[Int.mul_one]at hf;exact hf
    ·have g1:((s[k1].toNat:Int)==43)=true:=Pv (n:=43) hc;subst hb ha;clear hc
     go_wp2_with (go_at_call 149;(with_reducible refine(JJ _ HE.o _).mono ?_);rintro e w' ⟨rfl,rfl⟩)
     go_loop [5,9] (fun i e=>∃(j e':Nat),f<=j/\j<=s.size/\i= .int .i64 j/\e= .int .i64 e'/\e'=ef s f (j-f)) (fun i _=>s.size+1-(intOf i).toNat)
     case atStart=>exact⟨f,0,nR _,by omega,rfl,rfl,by simp[ef]⟩
     case round=>
      obtain⟨j,e',tq,vY,rfl,rfl,he⟩:=hrel;by_cases hjl:j<s.size
      ·have dj:=T6.o j hjl tq;have x1:decide ((48:Int)<=(s[j].toNat:Int))=true:=Dq;have x2:decide ((s[j].toNat:Int)<=57)=true:=Dq;have x3:((s[j].toNat:Int)==95)=false:=DC (n:=95) (by omega);have lt:e'<10^3:=by
        rw[he];exact lR (Em s f (j-f) (fun i hi=>by rw[<-HB.o (f+i) (by omega)];exact(T6.o (f+i) (by omega) (by omega)).2)) (lX (by decide) (by have:=T5.o;omega))
       have x4:decide ((e':Int)<10000)=true:=Dq;have x5:(e':Int)<=999:=by omega
       obtain⟨e2,uS⟩:∃e2:Nat,e2=e'*10+(s[j].toNat-48):=⟨_,rfl⟩;have x6:(e':Int)*10+(s[j].toNat:Int)-48=(e2:Int):=by omega
       have qL:e2=ef s f (j+1-f):=by
        have h1:j+1-f=(j-f)+1:=by omega
        have h2:f+(j-f)=j:=by omega
        rw[h1,ef,<-he,uS,HB.o j hjl,h2]
       have HN:=Hi qL;have x7:(s[j].toNat:Int)<=57:=by omega
       clear dj lt he uS qL;go_wp2;go_round
       case rel=>exact⟨j+1,e2,by omega,by omega,by go_num,by go_num,HN.o⟩
       case measure=>simp[intOf];omega
      ·have sw:j=s.size:=by omega
       have lt:e'<10^4:=by
        rw[he];exact lR (Em s f (j-f) (fun i hi=>by rw[<-HB.o (f+i) (by omega)];exact(T6.o (f+i) (by omega) (by omega)).2)) (lX (by decide) (by have:=T5.o;omega))
       have x5:(e':Int)<=9999:=by omega
       rw[sw]at he;have HX:Hid (∀x:Int,x=t.dp+e'->H9 w B b ⟨(By s k).A,(By s k).nd,(By s k).dp+ef s f (s.size-f)*1,(By s k).tr⟩ (.returned (.bool true)) (wr.setCell ⟨b,801,none⟩ (.int .i64 x))):=Hi (fun x hx=>⟨rfl,by rw[HRT.o,<-he,hx];first|exact wH.o.F1 _|(rw[Int.mul_one];exact wH.o.F1 _),sH.o.setCell (p:=⟨b,801,none⟩) hB _⟩);have HJ:=Hi sw;have jz:((j:Int)==(s.size:Int))=true:=by rw[sw];simp
       clear he lt sw;go_wp2;go_ret;have hf:=HX.o (t.dp+e') rfl;rw[Int.mul_one]at hf;exact hf
    ·have g1:((s[k1].toNat:Int)==43)=false:=DC (n:=43) (by omega);have g2:((s[k1].toNat:Int)==45)=true:=Pv (n:=45) hc;subst hb ha;clear hc
     go_wp2_with (go_at_call 149;(with_reducible refine(JJ _ HE.o _).mono ?_);rintro e w' ⟨rfl,rfl⟩)
     go_loop [5,9] (fun i e=>∃(j e':Nat),f<=j/\j<=s.size/\i= .int .i64 j/\e= .int .i64 e'/\e'=ef s f (j-f)) (fun i _=>s.size+1-(intOf i).toNat)
     case atStart=>exact⟨f,0,nR _,by omega,rfl,rfl,by simp[ef]⟩
     case round=>
      obtain⟨j,e',tq,vY,rfl,rfl,he⟩:=hrel;by_cases hjl:j<s.size
      ·have dj:=T6.o j hjl tq;have x1:decide ((48:Int)<=(s[j].toNat:Int))=true:=Dq;have x2:decide ((s[j].toNat:Int)<=57)=true:=Dq;have x3:((s[j].toNat:Int)==95)=false:=DC (n:=95) (by omega);have lt:e'<10^3:=by
        rw[he];exact lR (Em s f (j-f) (fun i hi=>by rw[<-HB.o (f+i) (by omega)];exact(T6.o (f+i) (by omega) (by omega)).2)) (lX (by decide) (by have:=T5.o;omega))
       have x4:decide ((e':Int)<10000)=true:=Dq;have x5:(e':Int)<=999:=by omega
       obtain⟨e2,uS⟩:∃e2:Nat,e2=e'*10+(s[j].toNat-48):=⟨_,rfl⟩;have x6:(e':Int)*10+(s[j].toNat:Int)-48=(e2:Int):=by omega
       have qL:e2=ef s f (j+1-f):=by
        have h1:j+1-f=(j-f)+1:=by omega
        have h2:f+(j-f)=j:=by omega
        rw[h1,ef,<-he,uS,HB.o j hjl,h2]
       have HN:=Hi qL;have x7:(s[j].toNat:Int)<=57:=by omega
       clear dj lt he uS qL;go_wp2;go_round
       case rel=>exact⟨j+1,e2,by omega,by omega,by go_num,by go_num,HN.o⟩
       case measure=>simp[intOf];omega
      ·have sw:j=s.size:=by omega
       have lt:e'<10^4:=by
        rw[he];exact lR (Em s f (j-f) (fun i hi=>by rw[<-HB.o (f+i) (by omega)];exact(T6.o (f+i) (by omega) (by omega)).2)) (lX (by decide) (by have:=T5.o;omega))
       have x5:(e':Int)<=9999:=by omega
       rw[sw]at he;have HX:Hid (∀x:Int,x=t.dp+e'* -1->H9 w B b ⟨(By s k).A,(By s k).nd,(By s k).dp+ef s f (s.size-f)*(-1),(By s k).tr⟩ (.returned (.bool true)) (wr.setCell ⟨b,801,none⟩ (.int .i64 x))):=Hi (fun x hx=>⟨rfl,by rw[HRT.o,<-he,hx];first|exact wH.o.F1 _|(rw[Int.mul_one];exact wH.o.F1 _),sH.o.setCell (p:=⟨b,801,none⟩) hB _⟩);have HJ:=Hi sw;have jz:((j:Int)==(s.size:Int))=true:=by rw[sw];simp
       clear he lt sw;go_wp2;go_ret;have hf:=HX.o (t.dp+ -(e':Int)) (by omega);rw[show((ef s f (s.size-f):Nat):Int)* -1= -((ef s f (s.size-f):Nat):Int) by omega]at hf;exact hf
end Go.Proofs
end
