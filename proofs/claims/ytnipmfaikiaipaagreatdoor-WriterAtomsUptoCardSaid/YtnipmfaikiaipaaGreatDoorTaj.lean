import Derived.Test.YtnipmfaikiaipaaGreatDoorTai
import Derived.Lib.Strings
import Derived.Lib.Walk
import Derived.Lib.BufferWrite
import Derived.Lib.UnsafeStr
import Derived.Lib.AtoiErrMem
import Derived.Laws.MakeOwn
set_option linter.unusedVariables false
set_option linter.unusedSimpArgs false
set_option maxRecDepth 1000000
set_option maxHeartbeats 40000000
section
namespace Go.Proofs
open Go.RowKit Go.Pf
def aN (w:World) (B:Nat) (s:Cm) (e:Ending) (w':World):Prop:=∃r:Nat×Bool,e= .returned (.tuple #[.int .u64 (r.1:Nat),.bool r.2])/\FB s r/\Below B w w'
theorem LR {l:Nat} {J:Act->World->Prop} {Q:Exit->Act->World->Prop} {a:Act} {w:World} :Exit.jump l J Q .ret a w=Q .ret a w:=rfl
theorem Tryz.floatBits (B b:Nat) (s:Cm) (w:World) (hB:B<=b) (hT:Hid (NC w B)) (hD:Hid (DY w b s)) (d1: -100000<=s.dp) (d2:s.dp<=100000):
 Calls Tryz.prog 281 #[.pointer (some ⟨b,0,none⟩),.pointer (some ⟨16,0,none⟩)] w (aN w B s):=by
 have k0:=hD.out.dec.Mc;have k1:=hD.out.dec.Qh;have k2:=hD.out.dec.Wq;have i0:=hT.out.i0;have i1:=hT.out.i1;have i2:=hT.out.i2;have n0:((s.nd:Int)==0)=false:=Bn (n:=0) (by have:=hD.out.pos;omega);have a0:bits .and .u64 0 4503599627370495=0:=by decide
 have a1:bits .and .i64 2047 2047=2047:=by decide
 have a2:bits .or .u64 0 9218868437227405312=9218868437227405312:=by decide
 have a3:bits .and .i64 0 2047=0:=by decide
 have a4:bits .or .u64 0 0=0:=by decide
 by_cases h310:310<s.dp
 ·have HF:Hid (FB s (9218868437227405312,true)):=Hi (by unfold FB;rw[if_pos h310];rfl);go_enter Tryz.func281,Tryz.ntmps281;go_wp2;refine Ej 0 1 rfl rfl ?_;go_wp2
  go_step3
  refine Or.inr ⟨rfl,?_⟩;go_wp2
  go_quiet (fail)
  go_wp2
  go_step3
  go_wp2
  go_quiet (fail)
  go_wp2;rw[LR];refine AI (v:= .tuple #[.int .u64 9218868437227405312,.bool true]) ?_ rfl ?_
  ·simp only[results,Tryz.results281];go_simp
  ·exact⟨_,rfl,HF.out,Au (AH _ _)⟩
 ·by_cases h330:s.dp< -330
  ·have HF:Hid (FB s (0,false)):=Hi (by unfold FB;rw[if_neg h310,if_pos h330];rfl);go_enter Tryz.func281,Tryz.ntmps281;go_wp2;refine Ej 0 1 rfl rfl ?_;go_wp2
   go_step3
   refine Or.inl ⟨rfl,?_⟩;go_wp2
   go_quiet (fail)
   go_wp2;rw[Exit.noGoto_ret];refine AI (v:= .tuple #[.int .u64 0,.bool false]) ?_ rfl ?_
   ·simp only[results,Tryz.results281];go_simp
   ·exact⟨_,rfl,HF.out,Au (AH _ _)⟩
  ·have e310:s.dp<=310:=by omega
   have e330: -330<=s.dp:=by omega
   have hlead:∀t:Cm,49<=t.A 0->1<=(t.A 0-48:Nat):=fun t h=>by omega
   go_enter Tryz.func281,Tryz.ntmps281;go_wp2;refine Ej 0 1 rfl rfl ?_;go_wp2
   go_loopg [6] 3200 (fun g ev wr=>∃(t:Cm) (e:Int),ev= .int .i64 e/\DY wr b t/\Below B w wr/\(∀s' e',Dn t e s' e'->Dn s 0 s' e')/\(0<t.dp->10*t.dp+(t.A 0-48:Nat)<=g)/\0<=e/\e+27*g<=86400/\ -330<=t.dp/\t.dp<=310)
   case atStart=>
    refine⟨s,0,rfl,hD.out,AH _ _,fun _ _ h=>h,fun _=> ?_,by omega,by omega,e330,e310⟩;have:=hD.out.dec.Bq 0 hD.out.pos;omega
   case round=>
    obtain⟨t,e,rfl,hd,hb,hpre,hg,he0,heg,t1,t2⟩:=hrel;have jd:=hd.dec.Qh;have HD:=Hi hd;have HB:=Hi hb;have HPR:=Hi hpre;have HTF:=Hi (hT.out.below hb);obtain⟨g,o,c,g1,g2,g3⟩:=HTF.out.p;clear hd hb hpre;by_cases hp:0<t.dp
    ·have hg2:=hg hp;have hpb:=MS t.dp;obtain⟨x,hx⟩:∃x,x=pw t.dp:=⟨_,rfl⟩;rw[<-hx]at hpb;have C:=Hi (fun n=>Wf B b t x (wr.drewN n) hB (Hi ⟨HD.out.dec.same rfl,HD.out.pos,HD.out.lead⟩) hpb.1 (by omega) (by omega) (by omega));have HX:Hid (∀t' w' n,OM x t t'->DY w' b t'->Below B (wr.drewN n) w'->∃(t2:Cm) (e2:Int),Value.int .i64 (e+x)= .int .i64 e2/\DY w' b t2/\Below B w w'/\(∀s' e',Dn t2 e2 s' e'->Dn s 0 s' e')/\(0<t2.dp->10*t2.dp+(t2.A 0-48:Nat)<=((gk-1:Nat):Int))/\0<=e2/\e2+27*((gk-1:Nat):Int)<=86400/\ -330<=t2.dp/\t2.dp<=310):=Hi (by
      intro t' w' n hr hd' hb';have hst:=hr.small (by omega);have hmu:=hst.mu hpb.1 HD.out.dec.Bq HD.out.pos HD.out.lead;have hdp:=hst.dp (by omega) HD.out.pos HD.out.lead;have hl:=hd'.lead;exact⟨t',e+x,rfl,hd',HB.out.trans ((Au (AH _ _)).trans hb'),fun s' e' hh=>HPR.out s' e' (.step hp (hx▸hr) (hx▸hh)),fun _=>by omega,by omega,by omega,by omega,by omega⟩)
     have HG:=Hi (show 1<=gk by omega);have ex:e+x<=90000:=by omega
     clear hg hg2;by_cases h9:9<=t.dp
     ·have hx27:x=27:=by rw[hx];unfold pw;rw[if_pos h9]
      subst hx27;clear hx;have C2:Hid (∀n,Calls Tryz.prog 197 #[.pointer (some ⟨b,0,none⟩),.int .i64 (-27)] (wr.drewN n) fun e w'=>e= .returned (.tuple #[])/\∃s',OM 27 t s'/\DY w' b s'/\Below B (wr.drewN n) w'):=Hi C.out;clear C;go_wp2
      go_quiet (fail)
      go_wp2_with (go_at_call 197;(with_reducible refine(C2.out _).mono ?_))
      rintro e2 w2 ⟨rfl,t',hr,hd',hb'⟩;have H:=Hi (HX.out t' w2 _ hr hd' hb');clear hr hd' hb';go_wp2
      go_roundg (gk-1)
      case measure=>have:=HG.out;omega
      case rel=>exact H.out
     ·obtain⟨i,hi⟩:∃i:Nat,t.dp=i:=⟨t.dp.toNat,by omega⟩;have i9:i<9:=by omega
      have hxi:x=Ub.getD i 1:=by rw[hx];unfold pw;rw[if_neg h9,hi];rfl
      have gi:=g3 i i9;rw[<-hxi]at gi;rw[hi]at jd;have ip:0<i:=by omega
      have ii:(i:Int)<9:=by omega
      have HI:=Hi hi;have xb:(x:Int)<=27:=by omega
      clear hx hxi h9 g3 hp hi t1 t2;go_wp2
      go_quiet (fail)
      go_wp2
      go_quiet (fail)
      go_wp2_with (go_at_call 197;(with_reducible refine(C.out _).mono ?_))
      rintro e2 w2 ⟨rfl,t',hr,hd',hb'⟩;have H:=Hi (HX.out t' w2 _ hr hd' hb');clear hr hd' hb';go_wp2
      go_roundg (gk-1)
      case measure=>have:=HG.out;omega
      case rel=>exact H.out
    ·have HDN:=Hi (HPR.out t e (.done (by omega)));have hpn:t.dp<=0:=by omega
     have e86:e<=86400:=by omega
     clear hg hp heg g3;go_wp2
     go_loopg [6] 3320 (fun g ev wr=>∃(t2:Cm) (e2:Int),ev= .int .i64 e2/\DY wr b t2/\Below B w wr/\(∀s' e',Up t2 e2 s' e'->Up t e s' e')/\(Dt t2->(10:Int)-(10*t2.dp+(t2.A 0-48:Nat))<=g)/\e2<=86400/\27*g-89640<=e2/\ -330<=t2.dp/\t2.dp<=310)
     case atStart=>exact⟨t,e,rfl,HD.out,HB.out,fun _ _ h=>h,fun _=>by omega,e86,by omega,t1,by omega⟩
     case round=>
      obtain⟨t2,e2,rfl,hd,hb,hpre,hg,he1,he2,u1,u2⟩:=hrel;have jd:=hd.dec.Qh;have j0:=hd.dec.cell 0 (by omega);have HD2:=Hi hd;have HB2:=Hi hb;have HPR2:=Hi hpre;have HTF2:=Hi (hT.out.below hb);obtain⟨g',o',c',g1',g2',g3'⟩:=HTF2.out.p;clear hd hb hpre;by_cases hs:Dt t2
      ·obtain⟨j,hj⟩:∃j:Nat,t2.dp= -(j:Int):=⟨(-t2.dp).toNat,by unfold Dt at hs;omega⟩;have hg2:=hg hs;have HG:Hid (1<=gk):=Hi (by unfold Dt at hs;have:=HD2.out.lead;have:=HD2.out.dec.Bq 0 HD2.out.pos;omega);have hgk:=HG.out;obtain⟨x,hx⟩:∃x,x=pw (-t2.dp):=⟨_,rfl⟩;have hpb:=MS (-t2.dp);rw[<-hx]at hpb;have HX:Hid (∀t' w' n,DD x t2 t'->DY w' b t'->Below B (wr.drewN n) w'->∃(t3:Cm) (e3:Int),Value.int .i64 (e2-x)= .int .i64 e3/\DY w' b t3/\Below B w w'/\(∀s' e',Up t3 e3 s' e'->Up t e s' e')/\(Dt t3->(10:Int)-(10*t3.dp+(t3.A 0-48:Nat))<=((gk-1:Nat):Int))/\e3<=86400/\27*((gk-1:Nat):Int)-89640<=e3/\ -330<=t3.dp/\t3.dp<=310):=Hi (by
        intro t' w' n hr hd' hb';have hmu:=hr.mu hpb.1 HD2.out.dec.Bq HD2.out.pos HD2.out.dec.le HD2.out.lead;exact⟨t',e2-x,rfl,hd',HB2.out.trans ((Au (AH _ _)).trans hb'),fun s' e' hh=>HPR2.out s' e' (.step hs (hx▸hr) (hx▸hh)),fun _=>by omega,by omega,by unfold Dt at hs;omega,by omega,by omega⟩)
       have C:=Hi (fun n=>Uv B b t2 x (wr.drewN n) hB (Hi (HTF2.out.l.below (Au (AH _ _)))) (Hi ⟨HD2.out.dec.same rfl,HD2.out.pos,HD2.out.lead⟩) hpb.1 (by omega) (by omega) (by omega));have xb:(x:Int)<=27:=by omega
       have eb: -90000<=e2:=by omega
       have HJ:=Hi hj;rw[hj]at jd;have hcase:(0<j)\/(j=0/\t2.A 0<53):=by unfold Dt at hs;omega
       clear hg hg2 hs hgk;by_cases h9:9<=j
       ·have hx27:x=27:=by rw[hx,HJ.out];unfold pw;rw[if_pos (by omega)]
        subst hx27;have jp:0<j:=by omega
        clear hx hcase;have C2:Hid (∀n,Calls Tryz.prog 197 #[.pointer (some ⟨b,0,none⟩),.int .i64 27] (wr.drewN n) fun e w'=>e= .returned (.tuple #[])/\∃s',DD 27 t2 s'/\DY w' b s'/\Below B (wr.drewN n) w'):=Hi C.out;clear C;go_wp2
        go_quiet (fail)
        go_wp2_with (go_at_call 197;(with_reducible refine(C2.out _).mono ?_))
        rintro e3 w2 ⟨rfl,t',hr,hd',hb'⟩;have H:=Hi (HX.out t' w2 _ hr hd' hb');clear hr hd' hb';go_wp2
        go_roundg (gk-1)
        case measure=>have:=HG.out;omega
        case rel=>exact H.out
       ·have i9:j<9:=by omega
        have hxi:x=Ub.getD j 1:=by rw[hx,HJ.out];unfold pw;rw[if_neg (by omega),Int.neg_neg];rfl
        have gi:=g3' j i9;rw[<-hxi]at gi;have ii:(j:Int)<9:=by omega
        clear hx hxi h9 g3' HPR2;rcases hcase with jp|⟨rfl,j53⟩
        ·go_wp2
         go_quiet (fail)
         go_wp2
         go_quiet (fail)
         go_wp2_with (go_at_call 197;(with_reducible refine(C.out _).mono ?_))
         rintro e3 w2 ⟨rfl,t',hr,hd',hb'⟩;have H:=Hi (HX.out t' w2 _ hr hd' hb');clear hr hd' hb';go_wp2
         go_roundg (gk-1)
         case measure=>have:=HG.out;omega
         case rel=>exact H.out
        ·have j53':decide ((t2.A 0:Int)<53)=true:=A5;rw[gZ]at gi;have jd0:wr.cell? ⟨b,801,none⟩=some (.int .i64 0):=jd;clear jd ii i9;go_wp2
         go_quiet (fail)
         go_wp2
         go_quiet (fail)
         go_wp2_with (go_at_call 197;(with_reducible refine(C.out _).mono ?_))
         rintro e3 w2 ⟨rfl,t',hr,hd',hb'⟩;have H:=Hi (HX.out t' w2 _ hr hd' hb');clear hr hd' hb';go_wp2
         go_roundg (gk-1)
         case measure=>have:=HG.out;omega
         case rel=>exact H.out
      ·have HUP:=Hi (HPR2.out t2 e2 (.done hs));have eb: -90000<=e2:=by omega
       have hcase:0<t2.dp\/(t2.dp=0/\53<=t2.A 0):=by unfold Dt at hs;omega
       clear hg hs g3' he2
       go_upto_region 18 with fail
       go_cut [80] (fun v wx=>wr=wx/\v= .bool false)
       case first=>
        rcases hcase with jp|⟨jz,j53⟩
        ·have z1:¬t2.dp<0:=by omega
         have z2:(t2.dp==0)=false:=by rw[Lq];intro h;have:=eq_of_beq h;omega
         go_wp2;go_meet;exact⟨rfl,rfl⟩
        ·rw[jz]at jd;have z3:decide ((t2.A 0:Int)<53)=false:=BC;go_wp2;go_meet;exact⟨rfl,rfl⟩
       case rest=>
       obtain⟨rfl,rfl⟩:=hcut;have q0:=HTF2.out.i0;have q1:=HTF2.out.i1;have q2:=HTF2.out.i2
       go_upto_if 111 with fail
       go_cut [6] (fun ev wx=>∃(s3:Cm) (e3:Int),ev= .int .i64 e3/\DY wx b s3/\Below B w wx/\dJ t2 s3 e2 e3/\ -1022<=e3/\e3<=90000/\ -60000<=s3.dp/\s3.dp<=400)
       case first=>
        by_cases hlow:e2-1< -1022
        ·obtain⟨k,hk⟩:∃k:Nat,-1022-(e2-1)=(k:Int):=⟨(-1022-(e2-1)).toNat,by omega⟩;have C:=Hi (Wf B b t2 k wr hB HD2 (by omega) (by omega) (by omega) (by omega));have hk2:(k:Int)<=90000:=by omega
         have hk3:e2-1+(k:Int)= -1022:=by omega
         go_wp2_with (go_at_call 197;(with_reducible refine C.out.mono ?_))
         rintro e3 w2 ⟨rfl,t',hr,hd',hb'⟩;have hdp:=hr.dp HD2.out.pos HD2.out.lead;have H:=Hi (show DY w2 b t'/\Below B w w2/\dJ t2 t' e2 (-1022)/\(-1022:Int)<= -1022/\(-1022:Int)<=90000/\ -60000<=t'.dp/\t'.dp<=400 from⟨hd',HB2.out.trans hb',by unfold dJ;rw[if_pos hlow,hk];exact⟨hr,rfl⟩,by omega,by omega,by omega,by omega⟩);clear hr hd' hb' hdp;go_wp2;go_meet;exact⟨t',-1022,by first|rfl|(congr 1;omega),H.out⟩
        ·have hl2:decide (e2-1< -1022)=false:=AS hlow;have H:=Hi (show DY wr b t2/\Below B w wr/\dJ t2 t2 e2 (e2-1)/\ -1022<=e2-1/\e2-1<=90000/\ -60000<=t2.dp/\t2.dp<=400 from⟨HD2.out,HB2.out,by unfold dJ;rw[if_neg hlow];exact⟨rfl,rfl⟩,by omega,by omega,by omega,by omega⟩);go_wp2;go_meet;exact⟨t2,e2-1,rfl,H.out⟩
       case rest=>
       obtain⟨s3,e3,rfl,hd3,hb3,hrel3,v1,v2,v3,v4⟩:=hcut;have HT3:=Hi (hT.out.below hb3);have p0:=HT3.out.i0;have p1:=HT3.out.i1;have p2:=HT3.out.i2;have p3:=hd3.dec.Wq;have HB3:=Hi hb3;have HD3:=Hi hd3;have HR3:=Hi hrel3;have HH:Hid (∀r,(if 2047<=e3+1023 then r=(JZ 0 1024,true)else∃s4,DD 53 s3 s4/\r=Ht (Ef s4.A s4.nd s4.tr s4.dp) e3)->FB s r):=Hi (fun r hr=>by
        unfold FB;rw[if_neg (by omega),if_neg (by omega)];exact⟨t,e,t2,e2,s3,e3,HDN.out,HUP.out,HR3.out,hr⟩)
       clear hb3 hd3 hrel3 q0 q1 q2;by_cases hov:2047<=e3+1023
       ·have HF:Hid (FB s (9218868437227405312,true)):=Hi (HH.out _ (by rw[if_pos hov];rfl));go_wp2
        go_quiet (fail)
        go_wp2
        go_step3
        refine Or.inr ⟨rfl,?_⟩;go_wp2
        go_quiet (fail)
        go_wp2
        go_step3
        go_wp2
        go_quiet (fail)
        go_wp2;rw[LR];refine AI (v:= .tuple #[.int .u64 9218868437227405312,.bool true]) ?_ rfl ?_
        ·simp only[results,Tryz.results281];go_simp
        ·exact⟨_,rfl,HF.out,Au HB3.out⟩
       ·have C53:Hid (∀n,Calls Tryz.prog 197 #[.pointer (some ⟨b,0,none⟩),.int .i64 53] (wc.drewN n) fun e w'=>e= .returned (.tuple #[])/\∃s',DD 53 s3 s'/\DY w' b s'/\Below B (wc.drewN n) w'):=Hi (fun n=>Uv B b s3 53 (wc.drewN n) hB (Hi (HT3.out.l.below (Au (AH _ _)))) (Hi ⟨HD3.out.dec.same rfl,HD3.out.pos,HD3.out.lead⟩) (by omega) (by omega) (by omega) (by omega));have hov':e3+1023<2047:=by omega
        go_wp2
        go_quiet (fail)
        go_wp2_with (go_at_call 197;(with_reducible refine(C53.out _).mono ?_))
        rintro e5 w4 ⟨rfl,s4,hs4,hd4,hb4⟩;have H4:=Hi (show DD 53 s3 s4/\DY w4 b s4/\Below B w w4 from⟨hs4,hd4,HB3.out.trans ((Au (AH _ _)).trans hb4)⟩);have hmu:=hs4.mu (by omega) HD3.out.dec.Bq HD3.out.pos HD3.out.dec.le HD3.out.lead;have w1: -100000<=s4.dp:=by omega
        have w2:s4.dp<=100000:=by omega
        clear hs4 hd4 hb4 hmu p0 p1 p2 p3;have CR:=Hi (Lf b s4.A s4.nd s4.dp s4.tr w4 (Hi H4.out.2.1.dec) w1 w2);obtain⟨m,hm⟩:∃m,m=Ef s4.A s4.nd s4.tr s4.dp:=⟨_,rfl⟩;have hm64:=TC s4.A s4.nd s4.tr s4.dp;rw[<-hm]at CR hm64;have HR4:Hid (FB s (Ht m e3)):=Hi (HH.out _ (by rw[if_neg (by omega)];exact⟨s4,H4.out.1,by rw[hm]⟩));have HT4:=Hi (hT.out.below H4.out.2.2);have p0:=HT4.out.i0;have p1:=HT4.out.i1;have p2:=HT4.out.i2;have p3:=H4.out.2.1.dec.Wq;clear hm;by_cases hm53:m=9007199254740992
        ·subst hm53;have mm:((9007199254740992:Nat):Int)=9007199254740992:=rfl;by_cases hov2:2047<=e3+1+1023
         ·have HF:Hid (FB s (9218868437227405312,true)):=Hi (by have:=HR4.out;unfold Ht at this;rw[if_pos rfl,if_pos hov2]at this;exact this)
          go_wp2_with (go_at_call 292;(with_reducible refine CR.out.mono ?_);rintro e w' ⟨rfl,rfl⟩)
          go_quiet (fail)
          go_wp2
          go_step3
          refine Or.inr ⟨rfl,?_⟩;go_wp2
          go_quiet (fail)
          go_wp2
          go_step3
          go_wp2
          go_quiet (fail)
          go_wp2;rw[LR];refine AI (v:= .tuple #[.int .u64 9218868437227405312,.bool true]) ?_ rfl ?_
          ·simp only[results,Tryz.results281];go_simp
          ·exact⟨_,rfl,HF.out,Au H4.out.2.2⟩
         ·obtain⟨m1,x,R,b1,b2,b3,b4,b5,b6⟩:=Kb 4503599627370496 (by decide) (e3+1) (by omega) (by omega);have HF:Hid (FB s (R,false)):=Hi (by have:=HR4.out;unfold Ht at this;rw[if_pos rfl,if_neg (by omega)]at this;unfold Ko at this;rw[if_neg (by decide),<-b5]at this;exact this);have c1:bits .and .u64 4503599627370496 4503599627370495=(m1:Int):=b1;have c2:bits .and .u64 4503599627370496 4503599627370496=4503599627370496:=by decide
          have c3:(x:Int)<=2046:=by omega
          clear b1 b5 b6
          go_wp2_with (go_at_call 292;(with_reducible refine CR.out.mono ?_);rintro e w' ⟨rfl,rfl⟩)
          go_quiet (fail)
          go_wp2
          go_step3
          refine Or.inl ⟨rfl,?_⟩;go_wp2
          go_quiet (fail)
          go_wp2;rw[Exit.noGoto_ret];refine AI (v:= .tuple #[.int .u64 (R:Nat),.bool false]) ?_ rfl ?_
          ·simp only[results,Tryz.results281];go_simp
          ·exact⟨(R,false),rfl,HF.out,by first|exact Au H4.out.2.2|exact H4.out.2.2⟩
        ·have zz:((m:Int)==9007199254740992)=false:=Bn (n:=9007199254740992) hm53;obtain⟨a,ha⟩:∃a,a=m&&&4503599627370496:=⟨_,rfl⟩;have c2:bits .and .u64 (m:Int) 4503599627370496=(a:Int):=by rw[ha];exact YN m hm64
         by_cases hz:a=0
         ·obtain⟨m1,x,R,b1,b2,b3,b4,b5,b6⟩:=Kb m hm64 (-1023) (by omega) (by omega);have HF:Hid (FB s (R,false)):=Hi (by have:=HR4.out;unfold Ht at this;rw[if_neg hm53]at this;unfold Ko at this;rw[<-ha,if_pos hz,<-b5]at this;exact this);have hx:x=0:=by omega
          subst hx;have b4':bits .or .u64 (m1:Int) 0=(R:Int):=by simpa using b4
          have z0:((a:Int)==0)=true:=QC (n:=0) hz;clear b2 b3 b4 b5 b6 ha hz hm53
          go_wp2_with (go_at_call 292;(with_reducible refine CR.out.mono ?_);rintro e w' ⟨rfl,rfl⟩)
          go_step3
          refine Or.inl ⟨rfl,?_⟩;go_wp2
          go_quiet (fail)
          go_wp2;rw[Exit.noGoto_ret];refine AI (v:= .tuple #[.int .u64 (R:Nat),.bool false]) ?_ rfl ?_
          ·simp only[results,Tryz.results281];go_simp
          ·exact⟨(R,false),rfl,HF.out,by first|exact Au H4.out.2.2|exact H4.out.2.2⟩
         ·obtain⟨m1,x,R,b1,b2,b3,b4,b5,b6⟩:=Kb m hm64 e3 (by omega) (by omega);have HF:Hid (FB s (R,false)):=Hi (by have:=HR4.out;unfold Ht at this;rw[if_neg hm53]at this;unfold Ko at this;rw[<-ha,if_neg hz,<-b5]at this;exact this);have z0:((a:Int)==0)=false:=Bn (n:=0) hz;have c3:(x:Int)<=2046:=by omega
          clear b5 b6 ha hz hm53
          go_wp2_with (go_at_call 292;(with_reducible refine CR.out.mono ?_);rintro e w' ⟨rfl,rfl⟩)
          go_step3
          refine Or.inl ⟨rfl,?_⟩;go_wp2
          go_quiet (fail)
          go_wp2;rw[Exit.noGoto_ret];refine AI (v:= .tuple #[.int .u64 (R:Nat),.bool false]) ?_ rfl ?_
          ·simp only[results,Tryz.results281];go_simp
          ·exact⟨(R,false),rfl,HF.out,by first|exact Au H4.out.2.2|exact H4.out.2.2⟩
end Go.Proofs
end
section
namespace Go.Pf
open Go.RowKit
structure NJ (w:World) (B:Nat):Prop where
 f:NC w B
 t13:IG w B
 t16:LX w
 o9:w.cell? ⟨6,0,none⟩=some (.bool true)
theorem NJ.below {w w':World} {B:Nat}(h:NJ w B) (hb:Below B w w'):NJ w' B:=by
 have hl:=h.f.cM;exact⟨h.f.below hb,h.t13.below hb,h.t16.below hb (by omega),(hb.cell (p:=⟨6,0,none⟩) (by show 6<B;omega)).trans h.o9⟩
def Fe (s:ByteArray) (p q f:Nat) (sg:Int) (w:World) (e:Ending) (w':World):Prop:=
 ∃b er,e= .returned (.tuple #[.float .f64 b,.int .i64 s.size,er])/\(er= .nilIface\/er= .iface 197 (.int .i64 1))/\Below w.heap.size w w'
theorem Jl (b:Bool):D8 b= .nilIface\/D8 b= .iface 197 (.int .i64 1):=by
 cases b
 ·exact .inl rfl
 ·exact .inr rfl
end Go.Pf
namespace Go.Proofs
open Go.RowKit Go.Pf
def aC:Option Value->Bool
 |some (.int .u8 0)=>true
 |_=>false
theorem X1 {x:Option Value}(h:aC x=true):x=some (.int .u8 0):=by
 unfold aC at h;split at h
 ·rfl
 ·cases h
theorem Mz:(List.range 800).all (fun i=>aC Tryz.zeroCells259[i]?)=true:=by kernel_rfl
theorem Ng:Tryz.zeroCells259[800]? =some (.int .i64 0):=by kernel_rfl
theorem Mu:Tryz.zeroCells259[801]? =some (.int .i64 0):=by kernel_rfl
theorem Mg:Tryz.zeroCells259[802]? =some (.bool false):=by kernel_rfl
theorem NZ:Tryz.zeroCells259[803]? =some (.bool false):=by kernel_rfl
theorem fS (W:World):EF (W.alloc (.cells Tryz.zeroCells259 259)) W.heap.size (fun _=>0) 0 0 false:=by
 have c:∀i v,Tryz.zeroCells259[i]? =some v->(W.alloc (.cells Tryz.zeroCells259 259)).cell? ⟨W.heap.size,i,none⟩=some v:=fun i v h=>by
  rw[World.cell?_alloc_new,h]
 exact⟨by decide,fun i h=>absurd h (by omega),fun i hi=>c i _ (X1 (List.all_eq_true.1 Mz i (List.mem_range.2 hi))),c 800 _ Ng,c 801 _ Mu,c 802 _ Mg,c 803 _ NZ,fun i=>World.frozen?_alloc_new W _ _ i⟩
def eB (w w':World) (b:Nat) (d:Cm):Prop:=w.heap.size<=b/\DY w' b d/\NC w' w.heap.size/\Below w.heap.size w w'
theorem bP (s:ByteArray) (p q f:Nat) (sg:Int) (w:World) (hF:Hid (Fc s p q f sg)) (hs:s.size<=4611686018427387904) (hT:Hid (NJ w w.heap.size)):
 Calls Tryz.prog 267 #[.string s] w (Fe s p q f sg w):=by
 have p0:=hF.out.p0;have pq:=hF.out.pq;have qs:=hF.out.qs;have h0:0<s.size:=by omega
 have hd:Hid (cN s[0].toNat):=Hi (by have:=hF.out.Bq 0 (by omega) (by omega);rw[FK h0]at this;exact this);have CS:=Hi (Yu s w h0 hd);have CR:=Hi (Th s p q f sg w hF hs);obtain⟨m,hm⟩:∃m,m=(rf s q).Hx:=⟨_,rfl⟩;obtain⟨x,hx⟩:∃x,x=ID s q f sg:=⟨_,rfl⟩;obtain⟨tr,htr⟩:∃t,t=(rf s q).Ir:=⟨_,rfl⟩;unfold FA at CR;rw[<-hm,<-hx,<-htr]at CR;have o9:=hT.out.o9;have a0:bits .or .u64 0 0=0:=by decide
 have a1:bits .or .u64 0 9218868437227405312=9218868437227405312:=by decide
 have zf:Tryz.prog=Tryz.prog:=rfl;by_cases hz:m=0
 ·have HX:Hid (Fe s p q f sg w (.returned (.tuple #[.float .f64 0,.int .i64 s.size,.nilIface])) w):=Hi ⟨0,_,rfl,.inl rfl,AH _ _⟩;have mz:((m:Int)==0)=true:=QC (n:=0) hz;clear hm hx htr hz zf;go_enter Tryz.func267,Tryz.ntmps267
  go_wp2_with ((first|(go_at_call 273;(with_reducible refine CS.out.mono ?_))|(go_at_call 274;(with_reducible refine CR.out.mono ?_))|(go_at_call 260;(with_reducible refine(Fb _ _).mono ?_)));rintro e w' ⟨rfl,rfl⟩)
  rw[show(0:Int)=((0:Nat):Int)from rfl,Bs,Oper.upon_value];go_wp2;go_ret3;exact HX.out
 ·have mz:((m:Int)==0)=false:=Bn (n:=0) hz;have hmz:(rf s q).Hx≠0:=by rw[<-hm];exact hz
  have ml:=ZL (hF.out.ok q (nR _));rw[<-hm]at ml;have ml2:m<10000000000000000000:=ml;by_cases h3:310<x
  ·have HX:Hid (Fe s p q f sg w (.returned (.tuple #[.float .f64 9218868437227405312,.int .i64 s.size,.iface 197 (.int .i64 1)])) w):=Hi ⟨_,_,rfl,.inr rfl,AH _ _⟩;have c3:decide (310<x)=true:=AN h3;clear hm hx htr hz zf hmz;go_enter Tryz.func267,Tryz.ntmps267
   go_wp2_with ((first|(go_at_call 273;(with_reducible refine CS.out.mono ?_))|(go_at_call 274;(with_reducible refine CR.out.mono ?_))|(go_at_call 260;(with_reducible refine(Fb _ _).mono ?_)));rintro e w' ⟨rfl,rfl⟩)
   rw[show(9218868437227405312:Int)=((9218868437227405312:Nat):Int)from rfl,Bs,Oper.upon_value];go_wp2;go_ret3;exact HX.out
  ·by_cases h4:x< -345
   ·have HX:Hid (Fe s p q f sg w (.returned (.tuple #[.float .f64 0,.int .i64 s.size,.nilIface])) w):=Hi ⟨_,_,rfl,.inl rfl,AH _ _⟩;have c3:decide (310<x)=false:=AS h3;have c4:decide (x< -345)=true:=AN h4;clear hm hx htr hz zf hmz;go_enter Tryz.func267,Tryz.ntmps267
    go_wp2_with ((first|(go_at_call 273;(with_reducible refine CS.out.mono ?_))|(go_at_call 274;(with_reducible refine CR.out.mono ?_))|(go_at_call 260;(with_reducible refine(Fb _ _).mono ?_)));rintro e w' ⟨rfl,rfl⟩)
    rw[show(0:Int)=((0:Nat):Int)from rfl,Bs,Oper.upon_value];go_wp2;go_ret3;exact HX.out
   ·have c3:decide (310<x)=false:=AS h3;have c4:decide (x< -345)=false:=AS h4;have cM:=hT.out.f.cM;have CP:=Hi (fun W (hW:Hid (NJ W w.heap.size)) (hl:w.heap.size<=W.heap.size)=>IB m x W hz (by omega) (by omega) (by omega) (Hi hW.out.t16) (by omega));obtain⟨R,hR⟩:∃R,R=dE m x:=⟨_,rfl⟩;rw[<-hR]at CP;have CPw:=Hi (CP.out w hT (nR _));cases htr2:tr with
    |false=>
     rw[htr2]at CR htr;have HP:Hid (∀w',Below w.heap.size w w'->Fe s p q f sg w (.returned (.tuple #[.float .f64 R.1,.int .i64 s.size,D8 R.2])) w'):=Hi (fun w' hb=>⟨_,_,rfl,Jl _,hb⟩);cases hax:NU m x with
     |some r=>
      have CE:Hid (Calls Tryz.prog 283 #[.int .u64 m,.int .i64 x,.bool false] w fun e w'=>e= .returned (.tuple #[.float .f64 r,.bool true])/\w=w'):=Hi ((Tryz.exact m x w.heap.size w (by omega) (by omega) (by omega) (by omega) (Hi hT.out.t13) hT.out.f.i0).mono (by
       rintro e w' ⟨y,h1,h2,h3⟩;rw[h2 r hax,hax]at h1;exact⟨h1,h3⟩))
      have HX:Hid (Fe s p q f sg w (.returned (.tuple #[.float .f64 r,.int .i64 s.size,.nilIface])) w):=Hi ⟨_,_,rfl,.inl rfl,AH _ _⟩;clear hm hx htr hz zf hmz CP hR hax ml ml2 h3 h4;go_enter Tryz.func267,Tryz.ntmps267
      go_wp2_with ((first|(go_at_call 273;(with_reducible refine CS.out.mono ?_))|(go_at_call 274;(with_reducible refine CR.out.mono ?_))|(go_at_call 260;(with_reducible refine(Fb _ _).mono ?_))|(go_at_call 283;(with_reducible refine CE.out.mono ?_)));rintro e w' ⟨rfl,rfl⟩)
      go_ret3;exact HX.out
     |none=>
      have CE:Hid (Calls Tryz.prog 283 #[.int .u64 m,.int .i64 x,.bool false] w fun e w'=>∃y,e= .returned (.tuple #[.float .f64 y,.bool false])/\w=w'):=Hi ((Tryz.exact m x w.heap.size w (by omega) (by omega) (by omega) (by omega) (Hi hT.out.t13) hT.out.f.i0).mono (by
       rintro e w' ⟨y,h1,h2,h3⟩;rw[hax]at h1;exact⟨y,h1,h3⟩))
      clear hm hx htr hz zf hmz CP hR hax ml ml2 h3 h4;go_enter Tryz.func267,Tryz.ntmps267
      go_wp2_with ((first|(go_at_call 273;(with_reducible refine CS.out.mono ?_))|(go_at_call 274;(with_reducible refine CR.out.mono ?_))|(go_at_call 260;(with_reducible refine(Fb _ _).mono ?_)));rintro e w' ⟨rfl,rfl⟩)
      go_wp2_with (go_at_call 283;(with_reducible refine CE.out.mono ?_);rintro e w' ⟨y,rfl,rfl⟩)
      go_wp2_with (go_at_call 284;(with_reducible refine CPw.out.mono ?_);rintro e w' ⟨rfl,hb⟩)
      go_ret3;exact HP.out _ hb
    |true=>
     rw[htr2]at CR;have CP2:=Hi (fun W (hW:Hid (NJ W w.heap.size)) (hl:w.heap.size<=W.heap.size)=>IB (m+1) x W (by omega) (by omega) (by omega) (by omega) (Hi hW.out.t16) (by omega));obtain⟨R2,hR2⟩:∃R,R=dE (m+1) x:=⟨_,rfl⟩;rw[<-hR2]at CP2;obtain⟨oc,ocmp⟩:∃oc,(FloatKind.f64.format.order R.1 R2.1==some .eq)=oc:=⟨_,rfl⟩;have mi:(m:Int)+1=((m+1:Nat):Int):=by omega
     obtain⟨m1,hm1⟩:∃m1,m1=m+1:=⟨_,rfl⟩;rw[<-hm1]at mi CP2;have m1l:(m1:Int)<=18446744073709551615:=by omega
     by_cases heq:oc=true
     ·have HP:Hid (∀w',Below w.heap.size w w'->Fe s p q f sg w (.returned (.tuple #[.float .f64 R.1,.int .i64 s.size,D8 R.2])) w'):=Hi (fun w' hb=>⟨_,_,rfl,Jl _,hb⟩);rw[heq]at ocmp;clear hm hx htr hz zf hmz hR hR2 heq ml ml2 h3 h4 hm1;go_enter Tryz.func267,Tryz.ntmps267
      go_wp2_with ((first|(go_at_call 273;(with_reducible refine CS.out.mono ?_))|(go_at_call 274;(with_reducible refine CR.out.mono ?_))|(go_at_call 260;(with_reducible refine(Fb _ _).mono ?_)));rintro e w' ⟨rfl,rfl⟩)
      go_wp2_with (go_at_call 284;(with_reducible refine CPw.out.mono ?_);rintro e W1 ⟨rfl,hb⟩)
      have CPx:=Hi (CP2.out W1 (Hi (hT.out.below hb)) hb.size);have HB:=Hi hb;clear hb
      go_wp2_with (go_at_call 284;(with_reducible refine CPx.out.mono ?_);rintro e w' ⟨rfl,hb⟩)
      go_ret3;exact HP.out _ (HB.out.trans (hb.mono HB.out.size))
     ·rw[(by simpa using heq:oc=false)]at ocmp;have gd:=X4 hF.out hmz;have dpb:=YO hF.out hmz (by rw[<-hx];omega) (by rw[<-hx];omega);have HP:Hid (∀w' r,FB (NR s q f sg) r->Below w.heap.size w w'->∀er,(er= .nilIface\/er= .iface 197 (.int .i64 1))->Fe s p q f sg w (.returned (.tuple #[.float .f64 r.1,.int .i64 s.size,er])) w'):=Hi (fun w' r hr hb er he=>⟨_,_,rfl,he,hb⟩);have CSET:Hid (∀W,Below w.heap.size w W->Calls Tryz.prog 280 #[.pointer (some ⟨W.heap.size,0,none⟩),.string s] (W.alloc (.cells Tryz.zeroCells259 259)) fun e w'=>e= .returned (.bool true)/\eB w w' W.heap.size (NR s q f sg)):=Hi (fun W hb=>by
       have hb1:Below w.heap.size w (W.alloc (.cells Tryz.zeroCells259 259)):=hb.alloc hb.size _;refine(aR w.heap.size W.heap.size s p q f sg _ hF hs hb.size (Hi (fS W))).mono ?_;rintro e w' ⟨h1,h2,h3⟩;have hb2:=hb1.trans h3;exact⟨h1,hb.size,⟨h2,gd.pos,gd.lead⟩,hT.out.f.below hb2,hb2⟩)
      have CFB:Hid (∀W b,eB w W b (NR s q f sg)->Calls Tryz.prog 281 #[.pointer (some ⟨b,0,none⟩),.pointer (some ⟨16,0,none⟩)] W fun e w'=>∃r:Nat×Bool,e= .returned (.tuple #[.int .u64 (r.1:Nat),.bool r.2])/\FB (NR s q f sg) r/\Below w.heap.size w w'):=Hi (fun W b h=>(Tryz.floatBits w.heap.size b (NR s q f sg) W h.1 (Hi h.2.2.1) (Hi h.2.1) dpb.1 dpb.2).mono (by
       rintro e w' ⟨r,h1,h2,h3⟩;exact⟨r,h1,h2,h.2.2.2.trans h3⟩))
      clear hm hx htr hz zf hmz hR hR2 heq ml ml2 h3 h4 hm1 gd dpb;go_enter Tryz.func267,Tryz.ntmps267
      go_wp2_with ((first|(go_at_call 273;(with_reducible refine CS.out.mono ?_))|(go_at_call 274;(with_reducible refine CR.out.mono ?_))|(go_at_call 260;(with_reducible refine(Fb _ _).mono ?_)));rintro e w' ⟨rfl,rfl⟩)
      go_wp2_with (go_at_call 284;(with_reducible refine CPw.out.mono ?_);rintro e W1 ⟨rfl,hb⟩)
      have HT1:=Hi (hT.out.below hb);have CPx:=Hi (CP2.out W1 HT1 hb.size);have HB:=Hi hb;clear hb
      go_wp2_with (first|(go_at_call 284;(with_reducible refine CPx.out.mono ?_);rintro e W2 ⟨rfl,hb⟩)|(go_at_call 280;(with_reducible refine(CSET.out _ (HB.out.trans (hb.mono HB.out.size))).mono ?_);rintro e W3 ⟨rfl,hd3⟩)|(go_at_call 281;(with_reducible refine(CFB.out _ _ hd3).mono ?_);rintro e W4 ⟨r,rfl,hr4,hb4⟩))
      rw[Bs,Oper.upon_value];have HR4:=Hi hr4;have HB4:=Hi hb4;clear hr4 hb4 hd3 hb;cases ho:r.2
      all_goals
       go_wp2;go_ret3
      ·exact HP.out _ r HR4.out HB4.out _ (.inl rfl)
      ·exact HP.out _ r HR4.out HB4.out _ (.inr rfl)
end Go.Proofs
end
section
namespace Go.Proofs
open Go.RowKit Go.Pf
theorem da:(Tryz.prog.info? 5).map (fun i=>(i.zero,i.size,i.bytes))=some (some (.int .u8 0),1,1):=by kernel_rfl
theorem Tryz.clone (s:ByteArray) (w:World) (hlim:s.size<=281474976710656):Calls Tryz.prog 202 #[.string s] w fun e w'=>e= .returned (.string s)/\Below w.heap.size w w':=by
 by_cases h0:s.size=0
 ·have hs:s=⟨#[]⟩:=by
   apply ByteArray.ext;exact Array.eq_empty_of_size_eq_zero h0
  subst hs;go_enter Tryz.func202,Tryz.ntmps202;go_wp2;go_ret;exact⟨rfl,AH _ _⟩
 ·obtain⟨i0,hi,hz0,hz1,hz2⟩:=info_parts da;have hinfo:(Tryz.prog.info? 5).map (·.size)=some 1:=by rw[hi];simp[hz1]
  have hco:Tryz.prog.cellsOf 5=1:=by simp[Program.cellsOf,hi,hz1]
  obtain⟨M,hM⟩:∃M,M=madeCells (Value.int .u8 0).cells (((s.size:Nat):Int).toNat*i0.size):=⟨_,rfl⟩;have hMs:M.size=s.size:=by rw[hM,size_madeCells,hz1];simp
  have hmk:∀W:World,(Instr.makeSlice 104 (.int .i64 (s.size:Int)) (.int .i64 (s.size:Int))).run Tryz.prog W= .ok (.slice (some ⟨W.heap.size,0,none⟩) s.size s.size) (W.alloc (.cells M 5)):=fun W=>by
   have h:=run_make (P:=Tryz.prog) W 104 5 i0 (.int .u8 0) Tryz.underlying104 hi hz0 .i64 .i64 (s.size:Int) (s.size:Int) (by omega) (by omega) (by rw[hz2];omega) (by omega);rw[<-hM]at h;simpa using h
  clear hM;have hcp:=Lib.run_copy_row_string (P:=Tryz.prog) (w.alloc (.cells M 5)) 104 9 3 5 w.heap.size 0 s.size s.size s M 5 Tryz.underlying104 hinfo (dk w _) (nR _) (by omega);obtain⟨Y,hY⟩:∃Y,Y=(M.toList.take 0++Lib.byteCells s.data.toList++M.toList.drop (0+s.size)).toArray:=⟨_,rfl⟩;rw[<-hY]at hcp;have hYl:Y.toList=Lib.byteCells s.data.toList:=by
   rw[hY,List.toList_toArray,List.take_zero,List.nil_append,List.drop_of_length_le (by rw[Array.length_toList];omega),List.append_nil]
  have hYs:Y.size=s.size:=by rw[<-Array.length_toList,hYl,Lib.byteCells_length,<-Lib.size_eq]
  have hgY:((w.alloc (.cells M 5)).setRow w.heap.size Y).heap[w.heap.size]? =some (.cells Y 5 (0,0)):=setRow_heap _ _ M _ 5 (0,0) (dk w _);have hne:s.data.toList≠ []:=fun e=>h0 (by rw[Lib.size_eq,e];rfl);have hUS:=Lib.run_unsafeString_row (P:=Tryz.prog) ((w.alloc (.cells M 5)).setRow w.heap.size Y) 156 3 9 5 Tryz.underlying156 hco w.heap.size Y.size (by unfold World.shape?;rw[hgY]) s.data.toList hne (by rw[<-Lib.size_eq];omega) (by rw[<-Lib.size_eq];omega)
   (fun j x hx=>Lib.cells_of_row hgY Y.size j _ (by rw[List.take_of_length_le (by rw[Array.length_toList];exact nR _),hYl];simp[Lib.byteCells,hx]))
  rw[<-Lib.size_eq]at hUS;clear hY;go_enter Tryz.func202,Tryz.ntmps202;go_wp2;go_ret;have hb1:Below w.heap.size w (w.alloc (.cells M 5)):=(AH _ w).alloc (nR _) _;have hb2:Below w.heap.size (w.alloc (.cells M 5)) ((w.alloc (.cells M 5)).setRow w.heap.size Y):=⟨rfl,rfl,rfl,by simp,fun k hk=>setRow_other _ _ _ _ (by omega)⟩;exact⟨rfl,Lib.below_freeze (hb1.trans hb2) (p:=⟨w.heap.size,0,none⟩) (nR _) _⟩
theorem Ph (fn s:ByteArray) (te:TypeId) (pe:Value) (w:World) (hlim:s.size<=281474976710656) (hv:w.cell? ⟨8,0,none⟩=some (.iface te pe)):
 Calls Tryz.prog 146 #[.string fn,.string s] w fun e w'=>∃N,e= .returned (.pointer (some ⟨N,0,none⟩))/\Below w.heap.size w w':=by
 have hG:8<w.heap.size:=Lib.lt_of_cell hv;have hvd:w.drew.cell? ⟨8,0,none⟩=some (.iface te pe):=hv;go_enter Tryz.func146,Tryz.ntmps146;go_wp2
 go_region_with (go_at_call 202;(with_reducible refine(Tryz.clone s _ hlim).mono ?_);rintro e w2 ⟨rfl,hbel⟩;have hv2:w2.cell? ⟨8,0,none⟩=some (.iface te pe):=(hbel.cell (p:=⟨8,0,none⟩) (show 8<w.drew.heap.size from hG)).trans hvd)
 all_goals
  go_wp2;go_ret;have hs2:w.heap.size<=w2.heap.size:=hbel.size;exact⟨_,rfl,((Below.drew (AH _ w)).trans hbel).alloc hs2 _⟩
theorem Qa (fn s:ByteArray) (a b:Int) (te:TypeId) (pe:Value) (w:World) (hlim:s.size<=281474976710656) (hv:w.cell? ⟨8,0,none⟩=some (.iface te pe)):
 Calls Tryz.prog 99 #[.string fn,.string s,.int .i64 a,.int .i64 b,.iface 197 (.int .i64 1)] w fun e w'=>∃v,e= .returned v/\Below w.heap.size w w':=by
 have h1:∀w,(binOp .eql 44 (.iface 197 (.int .i64 1)) (.iface 197 (.int .i64 2))).run Tryz.prog w= .ok (.bool false) w:=fun _=>by kernel_rfl
 have h2:∀w,(binOp .eql 44 (.iface 197 (.int .i64 1)) (.iface 197 (.int .i64 1))).run Tryz.prog w= .ok (.bool true) w:=fun _=>by kernel_rfl
 go_enter Tryz.func99,Tryz.ntmps99
 go_wp2_with (go_at_call 146;(with_reducible refine(Ph _ _ te pe _ hlim hv).mono ?_);rintro e w' ⟨N,rfl,hb⟩)
 go_ret;exact⟨_,rfl,hb⟩
structure Dl (w:World) (B:Nat):Prop where
 a:NJ w B
 e6:∃te pe,w.cell? ⟨8,0,none⟩=some (.iface te pe)
theorem Dl.below {w w':World} {B:Nat}(h:Dl w B) (hb:Below B w w'):Dl w' B:=by
 obtain⟨te,pe,h6⟩:=h.e6;have hl:=h.a.f.cM;exact⟨h.a.below hb,te,pe,(hb.cell (p:=⟨8,0,none⟩) (by show 8<B;omega)).trans h6⟩
theorem JW (s:ByteArray) (p q f:Nat) (sg:Int) (w:World) (hF:Hid (Fc s p q f sg)) (hs:s.size<=4611686018427387904) (hT:Hid (NJ w w.heap.size)):
 Calls Tryz.prog 255 #[.string s,.int .i64 64] w (Fe s p q f sg w):=by
 go_enter Tryz.func255,Tryz.ntmps255
 go_wp2_with (go_at_call 267;(with_reducible refine(bP s p q f sg _ hF hs hT).mono ?_);rintro e w' ⟨b,er,rfl,he,hb⟩)
 go_ret3;exact⟨b,er,rfl,he,hb⟩
def bp (s:ByteArray) (p q f:Nat) (sg:Int) (w:World) (e:Ending) (w':World):Prop:=
 ∃b er,e= .returned (.tuple #[.float .f64 b,er])/\(er= .nilIface\/er= .iface 197 (.int .i64 1))/\Below w.heap.size w w'
theorem J3 (s:ByteArray) (p q f:Nat) (sg:Int) (w:World) (hF:Hid (Fc s p q f sg)) (hs:s.size<=4611686018427387904) (hT:Hid (NJ w w.heap.size)):
 Calls Tryz.prog 223 #[.string s,.int .i64 64] w (bp s p q f sg w):=by
 go_enter Tryz.func223,Tryz.ntmps223
 go_wp2_with (go_at_call 255;(with_reducible refine(JW s p q f sg _ hF hs hT).mono ?_);rintro e w' ⟨b,er,rfl,he,hb⟩)
 go_ret2;exact⟨b,er,rfl,he,hb⟩
def VL (s:ByteArray) (p q f:Nat) (sg:Int) (w:World) (e:Ending) (w':World):Prop:=
 ∃b er,e= .returned (.tuple #[.float .f64 b,er])/\Below w.heap.size w w'
theorem QO (s:ByteArray) (p q f:Nat) (sg:Int) (w:World) (hF:Hid (Fc s p q f sg)) (hs:s.size<=140737488355328) (hT:Hid (Dl w w.heap.size)):
 Calls Tryz.prog 171 #[.string s,.int .i64 64] w (VL s p q f sg w):=by
 go_enter Tryz.func171,Tryz.ntmps171
 go_upto_region 1 with fail
 go_cut [6,7]from 8 (fun s6 s7 wx=>∃b er,s6= .float .f64 b/\s7=er/\(er= .nilIface\/er= .iface 197 (.int .i64 1))/\Below w.heap.size w wx)
 case first=>
  go_wp2_with (go_at_call 223;(with_reducible refine(J3 s p q f sg _ hF (by omega) (Hi hT.out.a)).mono ?_);rintro e w1 ⟨b,er,rfl,he,hb⟩)
  go_meet;exact⟨b,er,rfl,rfl,he,hb⟩
 case rest=>
  obtain⟨b,er,rfl,rfl,he,hb⟩:=hcut;rcases he with rfl|rfl
  ·go_wp2;go_ret2;exact⟨b,_,rfl,hb⟩
  ·obtain⟨te,pe,h6⟩:=(hT.out.below hb).e6
   go_wp2_with (go_at_call 99;(with_reducible refine(Qa _ _ _ _ te pe _ (by omega) h6).mono ?_);rintro e w2 ⟨v,rfl,hb2⟩)
   go_ret2;exact⟨b,_,rfl,hb.trans (hb2.mono hb.size)⟩
end Go.Proofs
end
