import Derived.Test.YtnipmfaikiaipaaGreatDoorTah
set_option maxRecDepth 1000000
set_option maxHeartbeats 40000000
section
namespace Go.Pf
open Go.RowKit
def IG (w:World) (B:Nat):Prop:=∃g o c,g<B/\19<B/\w.cell? ⟨19,0,none⟩=some (.slice (some ⟨g,o,none⟩) 23 c)/\∀i,i<23->w.cell? ⟨g,o+i,none⟩=some (.float .f64 (Gu i))
theorem IG.below {w w':World} {B:Nat}(h:IG w B) (hb:Below B w w'):IG w' B:=by
 obtain⟨g,o,c,h1,h2,h3,h4⟩:=h;exact⟨g,o,c,h1,h2,(hb.cell (p:=⟨19,0,none⟩) h2).trans h3,fun i hi=>(hb.cell (p:=⟨g,o+i,none⟩) h1).trans (h4 i hi)⟩
theorem XS {a b:Nat}(ha:a<BR) (hb:b<BR):My a b<=BR:=by
 unfold My Ieee.Format.mul;rw[Cj a ha,Cj b hb];show Ieee.double.nearest (false^^false) (mg a*mg b) (-1074+(pe a:Nat)+(-1074+(pe b:Nat)))<=BR;rw[Bool.false_xor];unfold Ieee.Format.nearest;split
 ·rw[Hw];exact Nat.zero_le _
 ·simp only[Hw,Mi];unfold BR;exact Nat.min_le_right _ _
end Go.Pf
namespace Go.Proofs
open Go.RowKit Go.Pf
theorem Tp (m:Nat):(m:Int)/2^52=((m/4503599627370496:Nat):Int):=by
 have:(2:Int)^52=4503599627370496:=by decide
 rw[this];omega
def Fm (m:Nat) (x:Int) (w:World) (e:Ending) (w':World):Prop:=∃y,e= .returned (.tuple #[.float .f64 y,.bool (NU m x).isSome])/\(∀r,NU m x=some r->y=r)/\w=w'
theorem Tryz.exact (m:Nat) (x:Int) (B:Nat) (w:World) (h0:0<m) (hm:m<18446744073709551616) (hx: -345<=x) (hx2:x<=310) (hT:Hid (IG w B)) (h10:w.cell? ⟨16,0,none⟩=some (.int .u64 52)):
 Calls Tryz.prog 283 #[.int .u64 m,.int .i64 x,.bool false] w (Fm m x w):=by
 obtain⟨q,hq⟩:∃q,q=m/4503599627370496:=⟨_,rfl⟩;have q1:(m:Int)/4503599627370496=(q:Int):=by omega
 have q0:(m:Int)/2^52=(q:Int):=by rw[hq];exact Tp m
 by_cases h1:4503599627370496<=m
 ·have hr:NU m x=none:=by unfold NU;rw[if_pos h1]
  have qz:((q:Int)==0)=false:=Bn (n:=0) (by omega);have HX:Hid (Fm m x w (.returned (.tuple #[.float .f64 0,.bool false])) w):=Hi ⟨0,by rw[hr];rfl,(by rw[hr];intro r h;cases h),rfl⟩;clear hq hr h1;go_enter Tryz.func283,Tryz.ntmps283;go_wp2;go_ret2;exact HX.out
 ·have qz:((q:Int)==0)=true:=QC (n:=0) (by omega);obtain⟨F,hF⟩:∃F,F=XO m:=⟨_,rfl⟩;have fF:floatOfInt .f64 (m:Int)=F:=hF.symm;obtain⟨W,-⟩:=bX h0 (by omega);rw[<-hF]at W;by_cases h2:x=0
  ·have hr:NU m x=some F:=by unfold NU;rw[if_neg h1,if_pos h2,hF]
   have xz:(x==0)=true:=by rw[h2];rfl
   have HX:Hid (Fm m x w (.returned (.tuple #[.float .f64 F,.bool true])) w):=Hi ⟨F,by rw[hr];rfl,by rw[hr];intro r h;cases h;rfl,rfl⟩;clear hq hr h1 hF W h2;go_enter Tryz.func283,Tryz.ntmps283;go_wp2;go_ret2;exact HX.out
  ·have xz:(x==0)=false:=by simpa using h2
   by_cases h3:0<x/\x<=37
   ·have HT:=hT.out;obtain⟨g,o,c,_,_,t0,t1⟩:=HT;have x1:decide (0<x)=true:=AN h3.1;have x2:decide (x<=37)=true:=AN h3.2;obtain⟨k,hk⟩:∃k:Nat,k=(min x 22).toNat:=⟨_,rfl⟩;have k23:k<23:=by omega
    have tk:=t1 k k23;by_cases h22:22<x
    ·obtain⟨j,hj⟩:∃j:Nat,j=(x-22).toNat:=⟨_,rfl⟩;have ej:x-22=(j:Int):=by omega
     have hO:(j:Int)<23:=by omega
     have tj:=t1 j (by omega);have k22:k=22:=by omega
     subst k22;have wj:=(Nj j (by omega)).1;obtain⟨T1,hT1⟩:∃T,T=Gu j:=⟨_,rfl⟩;obtain⟨T2,hT2⟩:∃T,T=Gu 22:=⟨_,rfl⟩;rw[<-hT1]at tj wj;rw[<-hT2]at tk;obtain⟨G,hG⟩:∃G,G=My F T1:=⟨_,rfl⟩;have rG:∀w,(binOp .mul 117 (.float .f64 F) (.float .f64 T1)).run Tryz.prog w= .ok (.float .f64 G) w:=fun w=>run_float_arith w .mul 117 .f64 F T1 G (by rw[hG];exact Kl W.1 wj.1);have Gle:G<=BR:=by rw[hG];exact XS W.1 wj.1
     have eG:cQ m x=G:=by unfold cQ;rw[if_pos h22,<-hj,<-hT1,<-hF,<-hG]
     have cn:(FloatKind.f64.format.order G 14054727237768577024==some .lt)=false:=ME Gle;by_cases h15:Pv<G
     ·have cg:(FloatKind.f64.format.order G 4831355200913801216==some .gt)=true:=by
       have:=Iq (a:=G) (b:=Pv) Gle (by decide);rw[AN h15]at this;exact this
      have hr:NU m x=none:=by unfold NU;rw[if_neg h1,if_neg h2,if_pos h3,eG,if_pos h15]
      have HX:Hid (Fm m x w (.returned (.tuple #[.float .f64 G,.bool false])) w):=Hi ⟨G,by rw[hr];rfl,(by rw[hr];intro r h;cases h),rfl⟩;have b22:decide (22<x)=true:=AN h22;clear hq hr h1 hF W h2 t1 hk hT1 hT2 hG eG h15 wj Gle hj;go_enter Tryz.func283,Tryz.ntmps283;go_wp2;go_ret2;exact HX.out
     ·have cg:(FloatKind.f64.format.order G 4831355200913801216==some .gt)=false:=by
       have:=Iq (a:=G) (b:=Pv) Gle (by decide);rw[AS h15]at this;exact this
      have WG:G<BR:=by unfold Pv at h15;unfold BR;omega
      obtain⟨R,hR⟩:∃R,R=My G T2:=⟨_,rfl⟩;have rR:∀w,(binOp .mul 117 (.float .f64 G) (.float .f64 T2)).run Tryz.prog w= .ok (.float .f64 R) w:=fun w=>run_float_arith w .mul 117 .f64 G T2 R (by rw[hR];exact Kl WG (by rw[hT2];exact(Nj 22 (by decide)).1.1));have hr:NU m x=some R:=by unfold NU;rw[if_neg h1,if_neg h2,if_pos h3,eG,if_neg h15,<-hk,<-hT2,<-hR]
      have HX:Hid (Fm m x w (.returned (.tuple #[.float .f64 R,.bool true])) w):=Hi ⟨R,by rw[hr];rfl,by rw[hr];intro r h;cases h;rfl,rfl⟩;have b22:decide (22<x)=true:=AN h22;clear hq hr h1 hF W h2 t1 hk hT1 hT2 hG eG h15 wj Gle hj WG hR;go_enter Tryz.func283,Tryz.ntmps283;go_wp2;go_ret2;exact HX.out
    ·have ek:x=(k:Int):=by omega
     obtain⟨T2,hT2⟩:∃T,T=Gu k:=⟨_,rfl⟩;rw[<-hT2]at tk;have eG:cQ m x=F:=by unfold cQ;rw[if_neg h22,<-hF]
     have cn:(FloatKind.f64.format.order F 14054727237768577024==some .lt)=false:=ME (Nat.le_of_lt W.1);have b22:decide (22<x)=false:=AS h22;by_cases h15:Pv<F
     ·have cg:(FloatKind.f64.format.order F 4831355200913801216==some .gt)=true:=by
       have:=Iq (a:=F) (b:=Pv) (Nat.le_of_lt W.1) (by decide);rw[AN h15]at this;exact this
      have hr:NU m x=none:=by unfold NU;rw[if_neg h1,if_neg h2,if_pos h3,eG,if_pos h15]
      have HX:Hid (Fm m x w (.returned (.tuple #[.float .f64 F,.bool false])) w):=Hi ⟨F,by rw[hr];rfl,(by rw[hr];intro r h;cases h),rfl⟩;clear hq hr h1 hF W h2 t1 hk hT2 eG h15 ek;go_enter Tryz.func283,Tryz.ntmps283;go_wp2;go_ret2;exact HX.out
     ·have cg:(FloatKind.f64.format.order F 4831355200913801216==some .gt)=false:=by
       have:=Iq (a:=F) (b:=Pv) (Nat.le_of_lt W.1) (by decide);rw[AS h15]at this;exact this
      obtain⟨R,hR⟩:∃R,R=My F T2:=⟨_,rfl⟩;have rR:∀w,(binOp .mul 117 (.float .f64 F) (.float .f64 T2)).run Tryz.prog w= .ok (.float .f64 R) w:=fun w=>run_float_arith w .mul 117 .f64 F T2 R (by rw[hR];exact Kl W.1 (by rw[hT2];exact(Nj k (by omega)).1.1));have hr:NU m x=some R:=by unfold NU;rw[if_neg h1,if_neg h2,if_pos h3,eG,if_neg h15,<-hk,<-hT2,<-hR]
      have HX:Hid (Fm m x w (.returned (.tuple #[.float .f64 R,.bool true])) w):=Hi ⟨R,by rw[hr];rfl,by rw[hr];intro r h;cases h;rfl,rfl⟩;have ki:(k:Int)<23:=by omega
      clear hq hr h1 hF W t1 hk hT2 eG h15 hR;subst ek;clear h2;go_enter Tryz.func283,Tryz.ntmps283;go_wp2;go_ret2;exact HX.out
   ·have hgt:(decide (0<x)&&decide (x<=37))=false:=by
     rw[Lq];intro hh;simp at hh;exact h3 hh
    by_cases h4:x<0/\ -22<=x
    ·have HT:=hT.out;obtain⟨g,o,c,_,_,t0,t1⟩:=HT;obtain⟨k,hk⟩:∃k:Nat,k=(-x).toNat:=⟨_,rfl⟩;have ek:x= -(k:Int):=by omega
     have k23:k<23:=by omega
     have ki:(k:Int)<23:=by omega
     have tk:=t1 k k23;have wk:=Nj k (by omega);obtain⟨T2,hT2⟩:∃T,T=Gu k:=⟨_,rfl⟩;rw[<-hT2]at tk wk;obtain⟨R,hR⟩:∃R,R=ZY F T2:=⟨_,rfl⟩;have rR:∀w,(binOp .quo 117 (.float .f64 F) (.float .f64 T2)).run Tryz.prog w= .ok (.float .f64 R) w:=fun w=>run_float_arith w .quo 117 .f64 F T2 R (by rw[hR];exact Vi W.1 wk.1.1 (by have:=wk.2;omega));have hr:NU m x=some R:=by unfold NU;rw[if_neg h1,if_neg h2,if_neg h3,if_pos h4,<-hk,<-hT2,<-hF,<-hR]
     have HX:Hid (Fm m x w (.returned (.tuple #[.float .f64 R,.bool true])) w):=Hi ⟨R,by rw[hr];rfl,by rw[hr];intro r h;cases h;rfl,rfl⟩;have x1:decide (0<x)=false:=BC;have x3:decide (x<0)=true:=AN h4.1;have x4:decide (-22<=x)=true:=AN h4.2;have ek2: -x=(k:Int):=by omega
     clear hq hr h1 hF W t1 hk hT2 hR wk h2 h3 hgt ek k23;go_enter Tryz.func283,Tryz.ntmps283;go_wp2;go_ret2;exact HX.out
    ·have hr:NU m x=none:=by unfold NU;rw[if_neg h1,if_neg h2,if_neg h3,if_neg h4]
     have HX:Hid (Fm m x w (.returned (.tuple #[.float .f64 F,.bool false])) w):=Hi ⟨F,by rw[hr];rfl,(by rw[hr];intro r h;cases h),rfl⟩;have hh:(decide (0<x)=true/\decide (x<=37)=false)\/(decide (0<x)=false/\decide (x<0)=true/\decide (-22<=x)=false):=by
      rcases Int.lt_or_gt_of_ne h2 with h|h
      ·exact .inr ⟨AS (by omega),AN h,AS (by omega)⟩
      ·exact .inl ⟨AN h,AS (by omega)⟩
     rcases hh with⟨x1,x2⟩|⟨x1,x3,x4⟩
     ·have x3:decide (x<0)=false:=by
       have:=of_decide_eq_true x1;exact AS (by omega)
      clear hq hr h1 hF W h2 h3 hgt h4;go_enter Tryz.func283,Tryz.ntmps283;go_wp2;go_ret2;exact HX.out
     ·clear hq hr h1 hF W h2 h3 hgt h4;go_enter Tryz.func283,Tryz.ntmps283;go_wp2;go_ret2;exact HX.out
end Go.Proofs
end
section
namespace Go.Proofs
open Go.RowKit Go.Pf
theorem VN (c:Nat) (h:c=46\/cN c) (w:World):Calls Tryz.prog 229 #[.int .u8 c] w fun e w'=>e= .returned (.int .u8 c)/\w=w':=by
 have:c=46\/c=48\/c=49\/c=50\/c=51\/c=52\/c=53\/c=54\/c=55\/c=56\/c=57:=by
  unfold cN at h;omega
 clear h;rcases this with rfl|rfl|rfl|rfl|rfl|rfl|rfl|rfl|rfl|rfl|rfl
 all_goals
  go_enter Tryz.func229,Tryz.ntmps229;go_wp2;go_ret;exact⟨rfl,rfl⟩
theorem JF (c:Nat) (h:c=101\/c=69) (w:World):Calls Tryz.prog 229 #[.int .u8 c] w fun e w'=>e= .returned (.int .u8 101)/\w=w':=by
 rcases h with rfl|rfl
 all_goals
  go_enter Tryz.func229,Tryz.ntmps229;go_wp2;go_ret;exact⟨rfl,rfl⟩
theorem Yu (s:ByteArray) (w:World) (h0:0<s.size) (hd:Hid (cN s[0].toNat)):
 Calls Tryz.prog 273 #[.string s] w fun e w'=>e= .returned (.tuple #[.float .f64 0,.int .i64 0,.bool false])/\w=w':=by
 have d1:=hd.out.1;have d2:=hd.out.2;have e1:((s[0].toNat:Int)==43)=false:=Bn (n:=43) (by omega);have e2:((s[0].toNat:Int)==45)=false:=Bn (n:=45) (by omega);have e3:((s[0].toNat:Int)==105)=false:=Bn (n:=105) (by omega);have e4:((s[0].toNat:Int)==73)=false:=Bn (n:=73) (by omega);have e5:((s[0].toNat:Int)==110)=false:=Bn (n:=110) (by omega);have e6:((s[0].toNat:Int)==78)=false:=Bn (n:=78) (by omega);have z0:((s.size:Int)==0)=false:=Bn (n:=0) (by omega);clear d1 d2;go_enter Tryz.func273,Tryz.ntmps273;go_wp2;refine AI (v:= .tuple #[.float .f64 0,.int .i64 0,.bool false]) ?_ rfl ⟨rfl,rfl⟩;simp only[results,Tryz.results273];go_simp
def FA (m:Nat) (x:Int) (tr:Bool) (n:Nat) (w:World) (e:Ending) (w':World):Prop:=
 e= .returned (.tuple #[.int .u64 m,.int .i64 x,.bool false,.bool tr,.bool false,.int .i64 n,.bool true])/\w=w'
theorem Th (s:ByteArray) (p q f:Nat) (sg:Int) (w:World) (hF:Hid (Fc s p q f sg)) (hs:s.size<=4611686018427387904):
 Calls Tryz.prog 274 #[.string s] w (FA (rf s q).Hx (ID s q f sg) (rf s q).Ir s.size w):=by
 have p0:=hF.out.p0;have pq:=hF.out.pq;have qs:=hF.out.qs;have hB:∀k (h:k<s.size),s[k].toNat=byte s k:=fun k h=>(FK h).symm;have HB:=Hi hB;clear hB;have h0:0<s.size:=by omega
 have h1:1<s.size:=by omega
 have b0:=hF.out.Bq 0 (by omega) (by omega);rw[<-HB.out 0 h0]at b0;have e1:((s[0].toNat:Int)==43)=false:=Bn (n:=43) (by omega);have e2:((s[0].toNat:Int)==45)=false:=Bn (n:=45) (by omega);have b1:s[1].toNat=46\/cN s[1].toNat:=by
  rw[HB.out 1 h1];by_cases hp:p=1
  ·subst hp;exact .inl hF.out.dot
  ·exact .inr (hF.out.Bq 1 (by omega) (by omega))
 have e3:((s[1].toNat:Int)==120)=false:=Bn (n:=120) (by unfold cN at b1;omega);have B1:=Hi b1;clear b0 b1;have hne:decide (s=ByteArray.empty)=false:=AS (by intro h;rw[h]at h0;simp at h0);go_enter Tryz.func274,Tryz.ntmps274;go_wp2
 go_step3
 go_upto_region 12 with fail
 go_cut [54]from 21 (fun s54 wx=>s54= .bool false/\w=wx)
 case first=>
  go_wp2_with (go_at_call 229;(with_reducible refine(VN _ B1.out _).mono ?_);rintro e w' ⟨rfl,rfl⟩)
  all_goals (go_meet;exact⟨rfl,rfl⟩)
 case rest=>
 obtain⟨rfl,rfl⟩:=hcut;go_wp2
 go_step3
 go_wp2
 go_loop [2,5,7,9,13,14,15,16,17] (fun m tr i u dt sd nd nm dp=>∃(k m' nd' nm':Nat) (dp':Int) (tr' dt' sd':Bool),k<=q/\m= .int .u64 m'/\tr= .bool tr'/\i= .int .i64 k/\u= .bool false/\dt= .bool dt'/\sd= .bool sd'/\nd= .int .i64 nd'/\nm= .int .i64 nm'/\dp= .int .i64 dp'/\rf s k=⟨m',nd',nm',dp',tr'⟩/\dt'=decide (p<k)/\sd'=decide (0<k)) (fun _ _ i _ _ _ _ _ _=>q+1-(intOf i).toNat)
 case atStart=>exact⟨0,0,0,0,0,false,false,false,by omega,rfl,rfl,rfl,rfl,rfl,rfl,rfl,rfl,rfl,rfl,by simp,by simp⟩
 case round=>
  obtain⟨k,m',nd',nm',dp',tr',dt',sd',hk,rfl,rfl,rfl,rfl,rfl,rfl,rfl,rfl,rfl,hr,hdt,hsd⟩:=hrel;have ok:=hF.out.ok k hk;rw[hr]at ok;have o1:nm'<=19:=ok.m19;have o2:nm'<=nd':=ok.mn;have o3:nd'<=k:=ok.nk;have o5: -(k:Int)<=dp':=ok.lo;have o6:dp'<=k:=ok.hi;by_cases hlt:k<q
  ·have hks:k<s.size:=by omega
   have hst:rf s (k+1)=D3 ⟨m',nd',nm',dp',tr'⟩ s[k].toNat:=by rw[HB.out k hks,<-hr];rfl
   have HST:=Hi hst;by_cases hp:k=p
   ·subst hp;have c1:s[k].toNat=46:=by rw[HB.out k hks];exact hF.out.dot
    have d1:dt'=false:=by rw[hdt];simp
    have d2:sd'=true:=by rw[hsd];simp;omega
    have e1:((s[k].toNat:Int)==95)=false:=Bn (n:=95) (by omega);have e2:((s[k].toNat:Int)==46)=true:=by rw[c1];rfl
    have HC:=Hi c1;subst d1 d2;clear c1 hr ok hst hdt hsd;go_wp2;go_round
    case rel=>
     refine⟨k+1,m',nd',nm',nd',tr',true,true,by omega,rfl,rfl,by go_num,rfl,rfl,rfl,rfl,rfl,rfl,?_,by simp,by simp⟩;rw[HST.out,HC.out];rfl
    case measure=>simp[intOf];omega
   ·have b0:=hF.out.Bq k hlt hp;rw[<-HB.out k hks]at b0;have e1:((s[k].toNat:Int)==95)=false:=Bn (n:=95) (by omega);have e2:((s[k].toNat:Int)==46)=false:=Bn (n:=46) (by omega);have e3:decide ((48:Int)<=(s[k].toNat:Int))=true:=A5;have e4:decide ((s[k].toNat:Int)<=57)=true:=A5;have hd2:dt'=decide (p<k+1):=by rw[hdt];congr 1;simp;omega
    have HD:=Hi hd2;have n46:s[k].toNat≠46:=by omega
    have N46:=Hi n46;have ml:nm'<19->m'<10^18:=fun h=>UA ok h;obtain⟨c,hc⟩:∃c:Nat,c=s[k].toNat-48:=⟨_,rfl⟩;have hc2:(s[k].toNat:Int)-48=(c:Int):=by omega
    have hc9:(c:Int)<=9:=by omega
    have HC:=Hi hc;have z1:((s[k].toNat:Int)==48)=decide (c=0):=by
     by_cases h:c=0
     ·rw[AN h];simp;omega
     ·rw[AS h];exact Bn (n:=48) (by omega)
    have HZ:=Hi (show s[k].toNat=48↔c=0 by omega);clear hr ok hst hdt hsd b0 n46 hc hd2;by_cases hz:c=0/\nd'=0
    ·obtain⟨hc0,hn0⟩:=hz;have z2:((s[k].toNat:Int)==48)=true:=by rw[z1];exact AN hc0
     have z3:((nd':Int)==0)=true:=by rw[hn0];rfl
     have HN:=Hi hn0;clear z1 ml hn0;go_wp2;go_round
     case rel=>
      refine⟨k+1,m',nd',nm',dp'-1,tr',dt',true,by omega,rfl,rfl,by go_num,rfl,rfl,rfl,rfl,rfl,by go_num,?_,HD.out,by simp⟩;rw[HST.out];simp only[D3,if_neg N46.out,if_pos (show s[k].toNat=48/\nd'=0 from⟨HZ.out.2 hc0,HN.out⟩)]
     case measure=>simp[intOf];omega
    ·have hzz:¬(s[k].toNat=48/\nd'=0):=fun h=>hz ⟨HZ.out.1 h.1,h.2⟩;have HZZ:=Hi hzz;have zz:(((s[k].toNat:Int)==48)=true/\((nd':Int)==0)=false)\/((s[k].toNat:Int)==48)=false:=by
      by_cases h:c=0
      ·exact .inl ⟨by rw[z1];exact AN h,Bn (n:=0) (by omega)⟩
      ·exact .inr (by rw[z1];exact AS h)
     clear hz hzz;by_cases h19:nm'<19
     ·have hm18:(m':Int)<1000000000000000000:=by have:=ml h19;omega
      have h19i:decide ((nm':Int)<19)=true:=A5;clear ml z1;have fin:∃(k2 m2 nd2 nm2:Nat) (dp2:Int) (tr2 dt2 sd2:Bool),k2<=q/\Value.int .u64 ((m':Int)*10+(c:Int))= .int .u64 m2/\Value.bool tr'= .bool tr2/\Value.int .i64 ((k:Int)+1)= .int .i64 k2/\Value.bool false= .bool false/\Value.bool dt'= .bool dt2/\Value.bool true= .bool sd2/\Value.int .i64 ((nd':Int)+1)= .int .i64 nd2/\Value.int .i64 ((nm':Int)+1)= .int .i64 nm2/\Value.int .i64 dp'= .int .i64 dp2/\rf s k2=⟨m2,nd2,nm2,dp2,tr2⟩/\dt2=decide (p<k2)/\sd2=decide (0<k2):=by
       refine⟨k+1,m'*10+c,nd'+1,nm'+1,dp',tr',dt',true,by omega,by go_num,rfl,by go_num,rfl,rfl,rfl,by go_num,by go_num,rfl,?_,HD.out,by simp⟩;rw[HST.out];simp only[D3,if_neg N46.out,if_neg HZZ.out,if_pos h19,HC.out]
      have FIN:=Hi fin;clear fin;rcases zz with⟨z2,z3⟩|z2
      ·go_wp2;go_round
       case rel=>exact FIN.out
       case measure=>simp[intOf];omega
      ·go_wp2;go_round
       case rel=>exact FIN.out
       case measure=>simp[intOf];omega
     ·have h19i:decide ((nm':Int)<19)=false:=BC;have h19e:nm'=19:=by omega
      have nz:((nd':Int)==0)=false:=Bn (n:=0) (by omega);have H19:=Hi h19;clear ml zz h19 h19e;by_cases h0c:c=0
      ·have z2:((s[k].toNat:Int)==48)=true:=by rw[z1];exact AN h0c
       have HZ0:=Hi (HZ.out.2 h0c);clear z1;go_wp2;go_round
       case rel=>
        refine⟨k+1,m',nd'+1,nm',dp',tr',dt',true,by omega,rfl,rfl,by go_num,rfl,rfl,rfl,by go_num,rfl,rfl,?_,HD.out,by simp⟩;rw[HST.out,D3,if_neg N46.out,if_neg HZZ.out,if_neg H19.out];simp only[HZ0.out];simp
       case measure=>simp[intOf];omega
      ·have z2:((s[k].toNat:Int)==48)=false:=by rw[z1];exact AS h0c
       have HZ0:Hid (s[k].toNat≠48):=Hi (fun h=>h0c (HZ.out.1 h));clear z1;go_wp2;go_round
       case rel=>
        refine⟨k+1,m',nd'+1,nm',dp',true,dt',true,by omega,rfl,rfl,by go_num,rfl,rfl,rfl,by go_num,rfl,rfl,?_,HD.out,by simp⟩;rw[HST.out];simp only[D3,if_neg N46.out,if_neg HZZ.out,if_neg H19.out];have:(s[k].toNat !=48)=true:=by simpa using HZ0.out
        rw[this];simp
       case measure=>simp[intOf];omega
  ·obtain rfl:k=q:=by omega
   have d1:dt'=true:=by rw[hdt];simp;omega
   have d2:sd'=true:=by rw[hsd];simp;omega
   have HR:=Hi hr;subst d1 d2;have hT:=hF.out.tail;clear hr ok hdt hsd;rcases hT with⟨t1,t2,t3⟩|⟨t1,t2,t3,t4,t5,t6⟩
   ·have hres:FA m' (if m'=0 then 0 else dp'-nm') tr' s.size w=FA (rf s k).Hx (ID s k f sg) (rf s k).Ir s.size w:=by
     unfold ID;rw[HR.out,t2];simp[ef]
    have HRES:=Hi hres;have hks:¬k<s.size:=by omega
    have HT:=Hi t1;clear hres t1 t2 t3;by_cases hm0:m'=0
    ·subst hm0;have z0:(((0:Nat):Int)==0)=true:=rfl;go_wp2;refine AI (v:= .tuple #[.int .u64 (0:Nat),.int .i64 0,.bool false,.bool tr',.bool false,.int .i64 k,.bool true]) ?_ rfl ?_
     ·simp only[results,Tryz.results274];go_simp
     ·rw[<-HRES.out];exact⟨by simp[HT.out],rfl⟩
    ·have z0:((m':Int)==0)=false:=Bn (n:=0) (by omega);have HM:=Hi hm0;clear hm0;go_wp2;refine AI (v:= .tuple #[.int .u64 m',.int .i64 (dp'-nm'),.bool false,.bool tr',.bool false,.int .i64 k,.bool true]) ?_ rfl ?_
     ·simp only[results,Tryz.results274];go_simp
     ·rw[<-HRES.out,if_neg HM.out];exact⟨by simp[HT.out],rfl⟩
   ·have hks:k<s.size:=t1;have hck:=HB.out k t1;have E101:s[k].toNat=101\/s[k].toNat=69:=by rw[hck];exact t2
    have e1:((s[k].toNat:Int)==95)=false:=Bn (n:=95) (by omega);have e2:((s[k].toNat:Int)==46)=false:=Bn (n:=46) (by omega);have e3:decide ((48:Int)<=(s[k].toNat:Int))=true:=A5;have e4:decide ((s[k].toNat:Int)<=57)=false:=BC;have HE:=Hi E101;obtain⟨k1,hk1⟩:∃k1:Nat,k1=k+1:=⟨_,rfl⟩;obtain⟨k2,hk2⟩:∃k2:Nat,k2=k+2:=⟨_,rfl⟩;have i1:(k:Int)+1=(k1:Int):=by omega
    have i2:(k1:Int)+1=(k2:Int):=by omega
    have l1:k1<s.size:=by omega
    have lf:=t6 f (by omega) t4;have hres:FA m' (if m'=0 then 0 else dp'+ef s f (s.size-f)*sg-nm') tr' s.size w=FA (rf s k).Hx (ID s k f sg) (rf s k).Ir s.size w:=by
     unfold ID;rw[HR.out]
    have HRES:=Hi hres;have T6:Hid (∀j (h:j<s.size),f<=j->48<=s[j].toNat/\s[j].toNat<=57):=Hi (fun j h hf=>by rw[HB.out j h];exact t6 j hf h);have t3':(f=k1/\sg=1/\48<=s[k1].toNat/\s[k1].toNat<=57)\/(f=k2/\sg=1/\s[k1].toNat=43)\/(f=k2/\sg= -1/\s[k1].toNat=45):=by
     rw[HB.out k1 l1];subst hk1 hk2;rcases t3 with⟨a,b⟩|h|h
     ·refine .inl ⟨a,b,?_⟩;rw[<-a];exact lf
     ·exact .inr (.inl h)
     ·exact .inr (.inr h)
    have HX:=Hi (show k1<=f/\f<=k2 by omega);have lff:=T6.out f t4 (nR _);have q1:decide ((s[f].toNat:Int)<48)=false:=BC;have q2:decide ((57:Int)<(s[f].toNat:Int))=false:=BC;have q3:¬s.size<=f:=by omega
    have q4:¬s.size<=k1:=by omega
    have T5:=Hi t5;clear hres t1 t2 t3 t6 E101 hck lf lff hk1 hk2 hF;rcases t3' with⟨ha,hb,hc1,hc2⟩|⟨ha,hb,hc⟩|⟨ha,hb,hc⟩
    ·have g1:((s[k1].toNat:Int)==43)=false:=Bn (n:=43) (by omega);have g2:((s[k1].toNat:Int)==45)=false:=Bn (n:=45) (by omega);subst hb ha;clear hc1 hc2
     go_wp2_with (go_at_call 229;(with_reducible refine(JF _ HE.out _).mono ?_);rintro e w' ⟨rfl,rfl⟩)
     go_loop [7,9,20] (fun i u e=>∃(j e':Nat),f<=j/\j<=s.size/\i= .int .i64 j/\u= .bool false/\e= .int .i64 e'/\e'=ef s f (j-f)) (fun i _ _=>s.size+1-(intOf i).toNat)
     case atStart=>exact⟨f,0,nR _,by omega,rfl,rfl,rfl,by simp[ef]⟩
     case round=>
      obtain⟨j,e',hj1,hj2,rfl,rfl,rfl,he⟩:=hrel;by_cases hjl:j<s.size
      ·have dj:=T6.out j hjl hj1;have x1:decide ((48:Int)<=(s[j].toNat:Int))=true:=A5;have x2:decide ((s[j].toNat:Int)<=57)=true:=A5;have x3:((s[j].toNat:Int)==95)=false:=Bn (n:=95) (by omega);have lt:e'<10^3:=by
        rw[he];exact IN (EM s f (j-f) (fun i hi=>by rw[<-HB.out (f+i) (by omega)];exact(T6.out (f+i) (by omega) (by omega)).2)) (AT (by decide) (by have:=T5.out;omega))
       have x4:decide ((e':Int)<10000)=true:=A5;have x5:(e':Int)<=999:=by omega
       obtain⟨e2,he2⟩:∃e2:Nat,e2=e'*10+(s[j].toNat-48):=⟨_,rfl⟩;have x6:(e':Int)*10+(s[j].toNat:Int)-48=(e2:Int):=by omega
       have hnext:e2=ef s f (j+1-f):=by
        have h1:j+1-f=(j-f)+1:=by omega
        have h2:f+(j-f)=j:=by omega
        rw[h1,ef,<-he,he2,HB.out j hjl,h2]
       have HN:=Hi hnext;have x7:(s[j].toNat:Int)<=57:=by omega
       clear dj lt he he2 hnext;go_wp2;go_round
       case rel=>exact⟨j+1,e2,by omega,by omega,by go_num,rfl,by go_num,HN.out⟩
       case measure=>simp[intOf];omega
      ·have hjs:j=s.size:=by omega
       have lt:e'<10^4:=by
        rw[he];exact IN (EM s f (j-f) (fun i hi=>by rw[<-HB.out (f+i) (by omega)];exact(T6.out (f+i) (by omega) (by omega)).2)) (AT (by decide) (by have:=T5.out;omega))
       have x5:(e':Int)<=9999:=by omega
       rw[hjs]at he;rw[<-he]at HRES;have HJ:=Hi hjs;clear he lt hjs;by_cases hm0:m'=0
       ·subst hm0;go_wp2;refine AI (v:= .tuple #[.int .u64 (0:Nat),.int .i64 0,.bool false,.bool tr',.bool false,.int .i64 j,.bool true]) ?_ rfl ?_
        ·simp only[results,Tryz.results274];go_simp
        ·rw[<-HRES.out];exact⟨by simp[HJ.out],rfl⟩
       ·have z0:((m':Int)==0)=false:=Bn (n:=0) (by omega);have HM:=Hi hm0;clear hm0;go_wp2;refine AI (v:= .tuple #[.int .u64 m',.int .i64 (dp'+e'-nm'),.bool false,.bool tr',.bool false,.int .i64 j,.bool true]) ?_ rfl ?_
        ·simp only[results,Tryz.results274];go_simp
        ·rw[<-HRES.out,if_neg HM.out];exact⟨by simp[HJ.out],rfl⟩
    ·have g1:((s[k1].toNat:Int)==43)=true:=QC (n:=43) hc;subst hb ha;clear hc
     go_wp2_with (go_at_call 229;(with_reducible refine(JF _ HE.out _).mono ?_);rintro e w' ⟨rfl,rfl⟩)
     go_loop [7,9,20] (fun i u e=>∃(j e':Nat),f<=j/\j<=s.size/\i= .int .i64 j/\u= .bool false/\e= .int .i64 e'/\e'=ef s f (j-f)) (fun i _ _=>s.size+1-(intOf i).toNat)
     case atStart=>exact⟨f,0,nR _,by omega,rfl,rfl,rfl,by simp[ef]⟩
     case round=>
      obtain⟨j,e',hj1,hj2,rfl,rfl,rfl,he⟩:=hrel;by_cases hjl:j<s.size
      ·have dj:=T6.out j hjl hj1;have x1:decide ((48:Int)<=(s[j].toNat:Int))=true:=A5;have x2:decide ((s[j].toNat:Int)<=57)=true:=A5;have x3:((s[j].toNat:Int)==95)=false:=Bn (n:=95) (by omega);have lt:e'<10^3:=by
        rw[he];exact IN (EM s f (j-f) (fun i hi=>by rw[<-HB.out (f+i) (by omega)];exact(T6.out (f+i) (by omega) (by omega)).2)) (AT (by decide) (by have:=T5.out;omega))
       have x4:decide ((e':Int)<10000)=true:=A5;have x5:(e':Int)<=999:=by omega
       obtain⟨e2,he2⟩:∃e2:Nat,e2=e'*10+(s[j].toNat-48):=⟨_,rfl⟩;have x6:(e':Int)*10+(s[j].toNat:Int)-48=(e2:Int):=by omega
       have hnext:e2=ef s f (j+1-f):=by
        have h1:j+1-f=(j-f)+1:=by omega
        have h2:f+(j-f)=j:=by omega
        rw[h1,ef,<-he,he2,HB.out j hjl,h2]
       have HN:=Hi hnext;have x7:(s[j].toNat:Int)<=57:=by omega
       clear dj lt he he2 hnext;go_wp2;go_round
       case rel=>exact⟨j+1,e2,by omega,by omega,by go_num,rfl,by go_num,HN.out⟩
       case measure=>simp[intOf];omega
      ·have hjs:j=s.size:=by omega
       have lt:e'<10^4:=by
        rw[he];exact IN (EM s f (j-f) (fun i hi=>by rw[<-HB.out (f+i) (by omega)];exact(T6.out (f+i) (by omega) (by omega)).2)) (AT (by decide) (by have:=T5.out;omega))
       have x5:(e':Int)<=9999:=by omega
       rw[hjs]at he;rw[<-he]at HRES;have HJ:=Hi hjs;clear he lt hjs;by_cases hm0:m'=0
       ·subst hm0;go_wp2;refine AI (v:= .tuple #[.int .u64 (0:Nat),.int .i64 0,.bool false,.bool tr',.bool false,.int .i64 j,.bool true]) ?_ rfl ?_
        ·simp only[results,Tryz.results274];go_simp
        ·rw[<-HRES.out];exact⟨by simp[HJ.out],rfl⟩
       ·have z0:((m':Int)==0)=false:=Bn (n:=0) (by omega);have HM:=Hi hm0;clear hm0;go_wp2;refine AI (v:= .tuple #[.int .u64 m',.int .i64 (dp'+e'-nm'),.bool false,.bool tr',.bool false,.int .i64 j,.bool true]) ?_ rfl ?_
        ·simp only[results,Tryz.results274];go_simp
        ·rw[<-HRES.out,if_neg HM.out];exact⟨by simp[HJ.out],rfl⟩
    ·have g1:((s[k1].toNat:Int)==43)=false:=Bn (n:=43) (by omega);have g2:((s[k1].toNat:Int)==45)=true:=QC (n:=45) hc;subst hb ha;clear hc
     go_wp2_with (go_at_call 229;(with_reducible refine(JF _ HE.out _).mono ?_);rintro e w' ⟨rfl,rfl⟩)
     go_loop [7,9,20] (fun i u e=>∃(j e':Nat),f<=j/\j<=s.size/\i= .int .i64 j/\u= .bool false/\e= .int .i64 e'/\e'=ef s f (j-f)) (fun i _ _=>s.size+1-(intOf i).toNat)
     case atStart=>exact⟨f,0,nR _,by omega,rfl,rfl,rfl,by simp[ef]⟩
     case round=>
      obtain⟨j,e',hj1,hj2,rfl,rfl,rfl,he⟩:=hrel;by_cases hjl:j<s.size
      ·have dj:=T6.out j hjl hj1;have x1:decide ((48:Int)<=(s[j].toNat:Int))=true:=A5;have x2:decide ((s[j].toNat:Int)<=57)=true:=A5;have x3:((s[j].toNat:Int)==95)=false:=Bn (n:=95) (by omega);have lt:e'<10^3:=by
        rw[he];exact IN (EM s f (j-f) (fun i hi=>by rw[<-HB.out (f+i) (by omega)];exact(T6.out (f+i) (by omega) (by omega)).2)) (AT (by decide) (by have:=T5.out;omega))
       have x4:decide ((e':Int)<10000)=true:=A5;have x5:(e':Int)<=999:=by omega
       obtain⟨e2,he2⟩:∃e2:Nat,e2=e'*10+(s[j].toNat-48):=⟨_,rfl⟩;have x6:(e':Int)*10+(s[j].toNat:Int)-48=(e2:Int):=by omega
       have hnext:e2=ef s f (j+1-f):=by
        have h1:j+1-f=(j-f)+1:=by omega
        have h2:f+(j-f)=j:=by omega
        rw[h1,ef,<-he,he2,HB.out j hjl,h2]
       have HN:=Hi hnext;have x7:(s[j].toNat:Int)<=57:=by omega
       clear dj lt he he2 hnext;go_wp2;go_round
       case rel=>exact⟨j+1,e2,by omega,by omega,by go_num,rfl,by go_num,HN.out⟩
       case measure=>simp[intOf];omega
      ·have hjs:j=s.size:=by omega
       have lt:e'<10^4:=by
        rw[he];exact IN (EM s f (j-f) (fun i hi=>by rw[<-HB.out (f+i) (by omega)];exact(T6.out (f+i) (by omega) (by omega)).2)) (AT (by decide) (by have:=T5.out;omega))
       have x5:(e':Int)<=9999:=by omega
       rw[hjs]at he;rw[<-he]at HRES;have HJ:=Hi hjs;clear he lt hjs;by_cases hm0:m'=0
       ·subst hm0;go_wp2;refine AI (v:= .tuple #[.int .u64 (0:Nat),.int .i64 0,.bool false,.bool tr',.bool false,.int .i64 j,.bool true]) ?_ rfl ?_
        ·simp only[results,Tryz.results274];go_simp
        ·rw[<-HRES.out];exact⟨by simp[HJ.out],rfl⟩
       ·have z0:((m':Int)==0)=false:=Bn (n:=0) (by omega);have HM:=Hi hm0;clear hm0;go_wp2;refine AI (v:= .tuple #[.int .u64 m',.int .i64 (dp'+e'* -1-nm'),.bool false,.bool tr',.bool false,.int .i64 j,.bool true]) ?_ rfl ?_
        ·simp only[results,Tryz.results274];go_simp
        ·rw[<-HRES.out,if_neg HM.out];exact⟨by simp[HJ.out],rfl⟩
end Go.Proofs
end
section
namespace Go.Proofs
open Go.RowKit Go.Pf
def Iu (w:World) (B b:Nat) (t:Cm) (e:Ending) (w':World):Prop:=e= .returned (.bool true)/\EF w' b t.A t.nd t.dp t.tr/\Below B w w'
theorem aR (B b:Nat) (s:ByteArray) (p q f:Nat) (sg:Int) (w:World) (hF:Hid (Fc s p q f sg)) (hs:s.size<=4611686018427387904) (hB:B<=b) (hD:Hid (EF w b (fun _=>0) 0 0 false)):
 Calls Tryz.prog 280 #[.pointer (some ⟨b,0,none⟩),.string s] w (Iu w B b ⟨(Bp s q).A,(Bp s q).nd,(Bp s q).dp+ef s f (s.size-f)*sg,(Bp s q).tr⟩):=by
 have p0:=hF.out.p0;have pq:=hF.out.pq;have qs:=hF.out.qs;have hB2:∀k (h:k<s.size),s[k].toNat=byte s k:=fun k h=>(FK h).symm;have HB:=Hi hB2;clear hB2;have h0:0<s.size:=by omega
 have b0:=hF.out.Bq 0 (by omega) (by omega);rw[<-HB.out 0 h0]at b0;have e1:((s[0].toNat:Int)==43)=false:=Bn (n:=43) (by omega);have e2:((s[0].toNat:Int)==45)=false:=Bn (n:=45) (by omega);have k2:=hD.out.Wq;have k3:=hD.out.TU;have f2:=hD.out.fz 802;have f3:=hD.out.fz 803;have hne:decide (s=ByteArray.empty)=false:=AS (by intro h;rw[h]at h0;simp at h0);have S0:EF ((w.setCell ⟨b,802,none⟩ (.bool false)).setCell ⟨b,803,none⟩ (.bool false)) b (fun _=>0) 0 0 false:=
  ⟨hD.out.le,hD.out.Bq,fun i hi=>other (other (hD.out.cell i hi) (by omega)) (by omega),other (other hD.out.Mc (by decide)) (by decide),other (other hD.out.Qh (by decide)) (by decide),other (Cy hD.out.Wq) (by decide),Cy (other hD.out.TU (by decide)),fun i=>by rw[World.frozen?_setCell,World.frozen?_setCell];exact hD.out.fz i⟩
 have HS0:=Hi S0;clear b0 S0;go_enter Tryz.func280,Tryz.ntmps280;go_wp2
 go_loopw [5,6,7] (fun iv dt sd wr=>∃(k:Nat) (t:Cm) (dt' sd':Bool),iv= .int .i64 k/\dt= .bool dt'/\sd= .bool sd'/\k<=q/\t=Bp s k/\dt'=decide (p<k)/\sd'=decide (0<k)/\EF wr b t.A t.nd t.dp t.tr/\Below B w wr) (fun iv _ _ _=>q+1-(intOf iv).toNat)
 case atStart=>exact⟨0,⟨fun _=>0,0,0,false⟩,false,false,rfl,rfl,rfl,by omega,rfl,by simp,by simp,HS0.out,((AH _ _).setCell (p:=⟨b,802,none⟩) hB _).setCell (p:=⟨b,803,none⟩) hB _⟩
 case round=>
  obtain⟨k,t,dt',sd',rfl,rfl,rfl,hk,ht,hdt,hsd,hd,hbl⟩:=hrel;have ok:=hF.out.Vv k hk;rw[<-ht]at ok;have o1:=ok.n8;have o2:=ok.nk;have o5:=ok.lo;have o6:=ok.hi;have m0:=hd.Mc;have m1:=hd.Qh;have m3:=hd.TU;have z0:=hd.fz 800;have z1:=hd.fz 801;have z3:=hd.fz 803;have HDC:=Hi hd;have HBL:=Hi hbl;have HTT:=Hi ht;clear hd hbl ht;by_cases hlt:k<q
  ·have hks:k<s.size:=by omega
   have hst:Bp s (k+1)=Dw t s[k].toNat:=by rw[HB.out k hks,HTT.out];rfl
   have HST:=Hi hst;by_cases hp:k=p
   ·subst hp;have c1:s[k].toNat=46:=by rw[HB.out k hks];exact hF.out.dot
    have d1:dt'=false:=by rw[hdt];simp
    have d2:sd'=true:=by rw[hsd];simp;omega
    have e1:((s[k].toNat:Int)==95)=false:=Bn (n:=95) (by omega);have e2:((s[k].toNat:Int)==46)=true:=QC (n:=46) c1;have HC:=Hi c1;have HX:Hid (EF (wr.setCell ⟨b,801,none⟩ (.int .i64 t.nd)) b t.A t.nd t.nd t.tr/\Below B w (wr.setCell ⟨b,801,none⟩ (.int .i64 t.nd))):=Hi ⟨HDC.out.F2 t.nd,HBL.out.setCell (p:=⟨b,801,none⟩) hB _⟩;subst d1 d2;clear c1 ok hst hdt hsd;go_wp2;go_roundw
    case rel=>exact⟨k+1,{t with dp:=t.nd},true,true,by go_num,rfl,rfl,by omega,by rw[HST.out,HC.out];rfl,by simp,by simp,HX.out⟩
    case measure=>simp[intOf];omega
   ·have b0:=hF.out.Bq k hlt hp;rw[<-HB.out k hks]at b0;have e1:((s[k].toNat:Int)==95)=false:=Bn (n:=95) (by omega);have e2:((s[k].toNat:Int)==46)=false:=Bn (n:=46) (by omega);have e3:decide ((48:Int)<=(s[k].toNat:Int))=true:=A5;have e4:decide ((s[k].toNat:Int)<=57)=true:=A5;have hd2:dt'=decide (p<k+1):=by rw[hdt];congr 1;simp;omega
    have HD2:=Hi hd2;have N46:=Hi (show s[k].toNat≠46 by omega);have B0:=Hi b0;clear hst hdt hsd hd2;by_cases hz:s[k].toNat=48/\t.nd=0
    ·have y1:((s[k].toNat:Int)==48)=true:=QC (n:=48) hz.1;have y2:((t.nd:Int)==0)=true:=QC (n:=0) hz.2;have HX:Hid (Bp s (k+1)= {t with dp:=t.dp-1} /\EF (wr.setCell ⟨b,801,none⟩ (.int .i64 (t.dp-1))) b t.A t.nd (t.dp-1) t.tr/\Below B w (wr.setCell ⟨b,801,none⟩ (.int .i64 (t.dp-1)))):=Hi ⟨by rw[HST.out,Dw,if_neg N46.out,if_pos hz],HDC.out.F2 _,HBL.out.setCell (p:=⟨b,801,none⟩) hB _⟩;clear hz ok b0;go_wp2;go_roundw
     case rel=>exact⟨k+1,{t with dp:=t.dp-1},dt',true,by go_num,rfl,rfl,by omega,HX.out.1.symm,HD2.out,by simp,HX.out.2⟩
     case measure=>simp[intOf];omega
    ·have zz:(((s[k].toNat:Int)==48)=true/\((t.nd:Int)==0)=false)\/((s[k].toNat:Int)==48)=false:=by
      by_cases h:s[k].toNat=48
      ·exact .inl ⟨QC (n:=48) h,Bn (n:=0) (fun h2=>hz ⟨h,h2⟩)⟩
      ·exact .inr (Bn (n:=48) h)
     by_cases h8:t.nd<800
     ·have ni:(t.nd:Int)<800:=by omega
      have cw:=HDC.out.cell t.nd h8;have zw:=HDC.out.fz t.nd;have HX:Hid (Bp s (k+1)= {t with A:=MX t.A t.nd s[k].toNat,nd:=t.nd+1} /\∀wq,wq.heap=wr.heap->Below B w wq->EF ((wq.setCell ⟨b,t.nd,none⟩ (.int .u8 (s[k].toNat:Int))).setCell ⟨b,800,none⟩ (.int .i64 ((t.nd:Int)+1))) b (MX t.A t.nd s[k].toNat) (t.nd+1) t.dp t.tr/\Below B w ((wq.setCell ⟨b,t.nd,none⟩ (.int .u8 (s[k].toNat:Int))).setCell ⟨b,800,none⟩ (.int .i64 ((t.nd:Int)+1)))):=Hi ⟨by rw[HST.out,Dw,if_neg N46.out,if_neg hz,if_pos h8],fun wq hq hbq=>⟨((HDC.out.same hq).Nq t.nd s[k].toNat h8 t.nd rfl (fun i hi _=>ok.Bq i hi) (fun h=>absurd h (Nat.lt_irrefl _))).SF (t.nd+1) (by omega) (fun i hi=>by
       by_cases e:i=t.nd
       ·subst e;simp only[if_pos];exact B0.out
       ·simp only[if_neg e];exact ok.Bq i (by omega)),(hbq.setCell (p:=⟨b,t.nd,none⟩) hB _).setCell (p:=⟨b,800,none⟩) hB _⟩⟩
      clear hz ok b0;rcases zz with⟨y1,y2⟩|y1
      all_goals
       go_wp2
       go_region
       go_wp2
      all_goals
       go_roundw
       case rel=>exact⟨k+1,{t with A:=MX t.A t.nd s[k].toNat,nd:=t.nd+1},dt',true,by go_num,rfl,rfl,by omega,HX.out.1.symm,HD2.out,by simp,(HX.out.2 wr rfl HBL.out).1.same rfl,(HX.out.2 wr rfl HBL.out).2.drew⟩
       case measure=>simp[intOf];omega
     ·have ni:(800:Int)<=t.nd:=by omega
      by_cases h48:s[k].toNat=48
      ·have y1:((s[k].toNat:Int)==48)=true:=QC (n:=48) h48;have y2:((t.nd:Int)==0)=false:=Bn (n:=0) (by omega);have HX:Hid (Bp s (k+1)=t):=Hi (by rw[HST.out,Dw,if_neg N46.out,if_neg hz,if_neg h8,h48];simp);clear hz ok b0 zz h48;go_wp2;go_roundw
       case rel=>exact⟨k+1,t,dt',true,by go_num,rfl,rfl,by omega,HX.out.symm,HD2.out,by simp,HDC.out,HBL.out⟩
       case measure=>simp[intOf];omega
      ·have y1:((s[k].toNat:Int)==48)=false:=Bn (n:=48) h48;have HX:Hid (Bp s (k+1)= {t with tr:=true} /\EF (wr.setCell ⟨b,803,none⟩ (.bool true)) b t.A t.nd t.dp true/\Below B w (wr.setCell ⟨b,803,none⟩ (.bool true))):=Hi ⟨by
        rw[HST.out,Dw,if_neg N46.out,if_neg hz,if_neg h8];have:(s[k].toNat !=48)=true:=by simpa using h48
        rw[this];simp,HDC.out.SN true,HBL.out.setCell (p:=⟨b,803,none⟩) hB _⟩
       clear hz ok b0 zz h48;go_wp2;go_roundw
       case rel=>exact⟨k+1,{t with tr:=true},dt',true,by go_num,rfl,rfl,by omega,HX.out.1.symm,HD2.out,by simp,HX.out.2⟩
       case measure=>simp[intOf];omega
  ·obtain rfl:k=q:=by omega
   have d1:dt'=true:=by rw[hdt];simp;omega
   have d2:sd'=true:=by rw[hsd];simp;omega
   subst d1 d2;have hT:=hF.out.tail;have HRT:Hid (Bp s k=t):=Hi HTT.out.symm;clear ok hdt hsd;rcases hT with⟨t1,t2,t3⟩|⟨t1,t2,t3,t4,t5,t6⟩
   ·have hks:¬k<s.size:=by omega
    have HE:Hid (Iu w B b ⟨(Bp s k).A,(Bp s k).nd,(Bp s k).dp+ef s f (s.size-f)*sg,(Bp s k).tr⟩ (.returned (.bool true)) wr):=Hi ⟨rfl,by rw[HRT.out,t2];simpa[ef]using HDC.out,HBL.out⟩;have kz:((k:Int)==(s.size:Int))=true:=by rw[t1];simp
    have HKS:=Hi t1;clear t1 t2 t3;go_wp2;go_ret;exact HE.out
   ·have hks:k<s.size:=t1;have hck:=HB.out k t1;have E101:s[k].toNat=101\/s[k].toNat=69:=by rw[hck];exact t2
    have e1:((s[k].toNat:Int)==95)=false:=Bn (n:=95) (by omega);have e2:((s[k].toNat:Int)==46)=false:=Bn (n:=46) (by omega);have e3:decide ((48:Int)<=(s[k].toNat:Int))=true:=A5;have e4:decide ((s[k].toNat:Int)<=57)=false:=BC;have HE:=Hi E101;obtain⟨k1,hk1⟩:∃k1:Nat,k1=k+1:=⟨_,rfl⟩;obtain⟨k2,hk2⟩:∃k2:Nat,k2=k+2:=⟨_,rfl⟩;have i1:(k:Int)+1=(k1:Int):=by omega
    have i2:(k1:Int)+1=(k2:Int):=by omega
    have l1:k1<s.size:=by omega
    have lf:=t6 f (by omega) t4;have T6:Hid (∀j (h:j<s.size),f<=j->48<=s[j].toNat/\s[j].toNat<=57):=Hi (fun j h hf=>by rw[HB.out j h];exact t6 j hf h);have t3':(f=k1/\sg=1/\48<=s[k1].toNat/\s[k1].toNat<=57)\/(f=k2/\sg=1/\s[k1].toNat=43)\/(f=k2/\sg= -1/\s[k1].toNat=45):=by
     rw[HB.out k1 l1];subst hk1 hk2;rcases t3 with⟨a,b⟩|h|h
     ·refine .inl ⟨a,b,?_⟩;rw[<-a];exact lf
     ·exact .inr (.inl h)
     ·exact .inr (.inr h)
    have HX:=Hi (show k1<=f/\f<=k2 by omega);have lff:=T6.out f t4 (nR _);have q1:decide ((s[f].toNat:Int)<48)=false:=BC;have q2:decide ((57:Int)<(s[f].toNat:Int))=false:=BC;have q3:¬s.size<=f:=by omega
    have q4:¬s.size<=k1:=by omega
    have T5:=Hi t5;clear t1 t2 t3 t6 E101 hck lf lff hk1 hk2 hF;rcases t3' with⟨ha,hb,hc1,hc2⟩|⟨ha,hb,hc⟩|⟨ha,hb,hc⟩
    ·have g1:((s[k1].toNat:Int)==43)=false:=Bn (n:=43) (by omega);have g2:((s[k1].toNat:Int)==45)=false:=Bn (n:=45) (by omega);subst hb ha;clear hc1 hc2
     go_wp2_with (go_at_call 229;(with_reducible refine(JF _ HE.out _).mono ?_);rintro e w' ⟨rfl,rfl⟩)
     go_loop [5,9] (fun i e=>∃(j e':Nat),f<=j/\j<=s.size/\i= .int .i64 j/\e= .int .i64 e'/\e'=ef s f (j-f)) (fun i _=>s.size+1-(intOf i).toNat)
     case atStart=>exact⟨f,0,nR _,by omega,rfl,rfl,by simp[ef]⟩
     case round=>
      obtain⟨j,e',hj1,hj2,rfl,rfl,he⟩:=hrel;by_cases hjl:j<s.size
      ·have dj:=T6.out j hjl hj1;have x1:decide ((48:Int)<=(s[j].toNat:Int))=true:=A5;have x2:decide ((s[j].toNat:Int)<=57)=true:=A5;have x3:((s[j].toNat:Int)==95)=false:=Bn (n:=95) (by omega);have lt:e'<10^3:=by
        rw[he];exact IN (EM s f (j-f) (fun i hi=>by rw[<-HB.out (f+i) (by omega)];exact(T6.out (f+i) (by omega) (by omega)).2)) (AT (by decide) (by have:=T5.out;omega))
       have x4:decide ((e':Int)<10000)=true:=A5;have x5:(e':Int)<=999:=by omega
       obtain⟨e2,he2⟩:∃e2:Nat,e2=e'*10+(s[j].toNat-48):=⟨_,rfl⟩;have x6:(e':Int)*10+(s[j].toNat:Int)-48=(e2:Int):=by omega
       have hnext:e2=ef s f (j+1-f):=by
        have h1:j+1-f=(j-f)+1:=by omega
        have h2:f+(j-f)=j:=by omega
        rw[h1,ef,<-he,he2,HB.out j hjl,h2]
       have HN:=Hi hnext;have x7:(s[j].toNat:Int)<=57:=by omega
       clear dj lt he he2 hnext;go_wp2;go_round
       case rel=>exact⟨j+1,e2,by omega,by omega,by go_num,by go_num,HN.out⟩
       case measure=>simp[intOf];omega
      ·have hjs:j=s.size:=by omega
       have lt:e'<10^4:=by
        rw[he];exact IN (EM s f (j-f) (fun i hi=>by rw[<-HB.out (f+i) (by omega)];exact(T6.out (f+i) (by omega) (by omega)).2)) (AT (by decide) (by have:=T5.out;omega))
       have x5:(e':Int)<=9999:=by omega
       rw[hjs]at he;have HX:Hid (∀x:Int,x=t.dp+e'->Iu w B b ⟨(Bp s k).A,(Bp s k).nd,(Bp s k).dp+ef s f (s.size-f)*1,(Bp s k).tr⟩ (.returned (.bool true)) (wr.setCell ⟨b,801,none⟩ (.int .i64 x))):=Hi (fun x hx=>⟨rfl,by rw[HRT.out,<-he,hx];first|exact HDC.out.F2 _|(rw[Int.mul_one];exact HDC.out.F2 _),HBL.out.setCell (p:=⟨b,801,none⟩) hB _⟩);have HJ:=Hi hjs;have jz:((j:Int)==(s.size:Int))=true:=by rw[hjs];simp
       clear he lt hjs;go_wp2;go_ret;have hf:=HX.out (t.dp+e') rfl;rw[Int.mul_one]at hf;exact hf
    ·have g1:((s[k1].toNat:Int)==43)=true:=QC (n:=43) hc;subst hb ha;clear hc
     go_wp2_with (go_at_call 229;(with_reducible refine(JF _ HE.out _).mono ?_);rintro e w' ⟨rfl,rfl⟩)
     go_loop [5,9] (fun i e=>∃(j e':Nat),f<=j/\j<=s.size/\i= .int .i64 j/\e= .int .i64 e'/\e'=ef s f (j-f)) (fun i _=>s.size+1-(intOf i).toNat)
     case atStart=>exact⟨f,0,nR _,by omega,rfl,rfl,by simp[ef]⟩
     case round=>
      obtain⟨j,e',hj1,hj2,rfl,rfl,he⟩:=hrel;by_cases hjl:j<s.size
      ·have dj:=T6.out j hjl hj1;have x1:decide ((48:Int)<=(s[j].toNat:Int))=true:=A5;have x2:decide ((s[j].toNat:Int)<=57)=true:=A5;have x3:((s[j].toNat:Int)==95)=false:=Bn (n:=95) (by omega);have lt:e'<10^3:=by
        rw[he];exact IN (EM s f (j-f) (fun i hi=>by rw[<-HB.out (f+i) (by omega)];exact(T6.out (f+i) (by omega) (by omega)).2)) (AT (by decide) (by have:=T5.out;omega))
       have x4:decide ((e':Int)<10000)=true:=A5;have x5:(e':Int)<=999:=by omega
       obtain⟨e2,he2⟩:∃e2:Nat,e2=e'*10+(s[j].toNat-48):=⟨_,rfl⟩;have x6:(e':Int)*10+(s[j].toNat:Int)-48=(e2:Int):=by omega
       have hnext:e2=ef s f (j+1-f):=by
        have h1:j+1-f=(j-f)+1:=by omega
        have h2:f+(j-f)=j:=by omega
        rw[h1,ef,<-he,he2,HB.out j hjl,h2]
       have HN:=Hi hnext;have x7:(s[j].toNat:Int)<=57:=by omega
       clear dj lt he he2 hnext;go_wp2;go_round
       case rel=>exact⟨j+1,e2,by omega,by omega,by go_num,by go_num,HN.out⟩
       case measure=>simp[intOf];omega
      ·have hjs:j=s.size:=by omega
       have lt:e'<10^4:=by
        rw[he];exact IN (EM s f (j-f) (fun i hi=>by rw[<-HB.out (f+i) (by omega)];exact(T6.out (f+i) (by omega) (by omega)).2)) (AT (by decide) (by have:=T5.out;omega))
       have x5:(e':Int)<=9999:=by omega
       rw[hjs]at he;have HX:Hid (∀x:Int,x=t.dp+e'->Iu w B b ⟨(Bp s k).A,(Bp s k).nd,(Bp s k).dp+ef s f (s.size-f)*1,(Bp s k).tr⟩ (.returned (.bool true)) (wr.setCell ⟨b,801,none⟩ (.int .i64 x))):=Hi (fun x hx=>⟨rfl,by rw[HRT.out,<-he,hx];first|exact HDC.out.F2 _|(rw[Int.mul_one];exact HDC.out.F2 _),HBL.out.setCell (p:=⟨b,801,none⟩) hB _⟩);have HJ:=Hi hjs;have jz:((j:Int)==(s.size:Int))=true:=by rw[hjs];simp
       clear he lt hjs;go_wp2;go_ret;have hf:=HX.out (t.dp+e') rfl;rw[Int.mul_one]at hf;exact hf
    ·have g1:((s[k1].toNat:Int)==43)=false:=Bn (n:=43) (by omega);have g2:((s[k1].toNat:Int)==45)=true:=QC (n:=45) hc;subst hb ha;clear hc
     go_wp2_with (go_at_call 229;(with_reducible refine(JF _ HE.out _).mono ?_);rintro e w' ⟨rfl,rfl⟩)
     go_loop [5,9] (fun i e=>∃(j e':Nat),f<=j/\j<=s.size/\i= .int .i64 j/\e= .int .i64 e'/\e'=ef s f (j-f)) (fun i _=>s.size+1-(intOf i).toNat)
     case atStart=>exact⟨f,0,nR _,by omega,rfl,rfl,by simp[ef]⟩
     case round=>
      obtain⟨j,e',hj1,hj2,rfl,rfl,he⟩:=hrel;by_cases hjl:j<s.size
      ·have dj:=T6.out j hjl hj1;have x1:decide ((48:Int)<=(s[j].toNat:Int))=true:=A5;have x2:decide ((s[j].toNat:Int)<=57)=true:=A5;have x3:((s[j].toNat:Int)==95)=false:=Bn (n:=95) (by omega);have lt:e'<10^3:=by
        rw[he];exact IN (EM s f (j-f) (fun i hi=>by rw[<-HB.out (f+i) (by omega)];exact(T6.out (f+i) (by omega) (by omega)).2)) (AT (by decide) (by have:=T5.out;omega))
       have x4:decide ((e':Int)<10000)=true:=A5;have x5:(e':Int)<=999:=by omega
       obtain⟨e2,he2⟩:∃e2:Nat,e2=e'*10+(s[j].toNat-48):=⟨_,rfl⟩;have x6:(e':Int)*10+(s[j].toNat:Int)-48=(e2:Int):=by omega
       have hnext:e2=ef s f (j+1-f):=by
        have h1:j+1-f=(j-f)+1:=by omega
        have h2:f+(j-f)=j:=by omega
        rw[h1,ef,<-he,he2,HB.out j hjl,h2]
       have HN:=Hi hnext;have x7:(s[j].toNat:Int)<=57:=by omega
       clear dj lt he he2 hnext;go_wp2;go_round
       case rel=>exact⟨j+1,e2,by omega,by omega,by go_num,by go_num,HN.out⟩
       case measure=>simp[intOf];omega
      ·have hjs:j=s.size:=by omega
       have lt:e'<10^4:=by
        rw[he];exact IN (EM s f (j-f) (fun i hi=>by rw[<-HB.out (f+i) (by omega)];exact(T6.out (f+i) (by omega) (by omega)).2)) (AT (by decide) (by have:=T5.out;omega))
       have x5:(e':Int)<=9999:=by omega
       rw[hjs]at he;have HX:Hid (∀x:Int,x=t.dp+e'* -1->Iu w B b ⟨(Bp s k).A,(Bp s k).nd,(Bp s k).dp+ef s f (s.size-f)*(-1),(Bp s k).tr⟩ (.returned (.bool true)) (wr.setCell ⟨b,801,none⟩ (.int .i64 x))):=Hi (fun x hx=>⟨rfl,by rw[HRT.out,<-he,hx];first|exact HDC.out.F2 _|(rw[Int.mul_one];exact HDC.out.F2 _),HBL.out.setCell (p:=⟨b,801,none⟩) hB _⟩);have HJ:=Hi hjs;have jz:((j:Int)==(s.size:Int))=true:=by rw[hjs];simp
       clear he lt hjs;go_wp2;go_ret;have hf:=HX.out (t.dp+ -(e':Int)) (by omega);rw[show((ef s f (s.size-f):Nat):Int)* -1= -((ef s f (s.size-f):Nat):Int) by omega]at hf;exact hf
end Go.Proofs
end
