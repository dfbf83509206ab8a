import Derived.Test.YtpocgkiamgipdaaGreatDoorTaiB
import Derived.Lib.Strings
import Derived.Lib.Walk
import Derived.Lib.BufferWrite
import Derived.Lib.UnsafeStr
import Derived.Lib.AtoiErrMem
import Derived.Laws.MakeOwn
set_option maxRecDepth 1000000
set_option maxHeartbeats 0
set_option linter.unusedVariables false
set_option linter.unusedSimpArgs false
open Go.Proofs.Tryz
section
namespace Go.Proofs
open Go.RowKit Go.Pf
def dT (w:World) (B:Nat) (s:Cm) (e:Ending) (w':World):Prop:=∃r:Nat×Bool,e= .returned (.tuple #[.int .u64 (r.1:Nat),.bool r.2])/\FB s r/\Below B w w'
theorem Ku {l:Nat} {J:Act->World->Prop} {Q:Exit->Act->World->Prop} {a:Act} {w:World} :Exit.jump l J Q .ret a w=Q .ret a w:=rfl
theorem Tryz.floatBits (B b:Nat) (s:Cm) (w:World) (hB:B<=b) (hT:Hid (Nz w B)) (hD:Hid (Dp w b s)) (d1: -100000<=s.dp) (d2:s.dp<=100000):
 Calls prog 172 #[.pointer (some ⟨b,0,none⟩),.pointer (some ⟨12,0,none⟩)] w (dT w B s):=by
 have k0:=hD.o.dec.MA;have k1:=hD.o.dec.P5;have k2:=hD.o.dec.Vi;have i0:=hT.o.i0;have i1:=hT.o.i1;have i2:=hT.o.i2;have n0:((s.nd:Int)==0)=false:=DC (n:=0) (by have:=hD.o.pos;omega);have a0:bits .and .u64 0 4503599627370495=0:=by decide
 have a1:bits .and .i64 2047 2047=2047:=by decide
 have a2:bits .or .u64 0 9218868437227405312=9218868437227405312:=by decide
 have a3:bits .and .i64 0 2047=0:=by decide
 have a4:bits .or .u64 0 0=0:=by decide
 by_cases h310:310<s.dp
 ·have HF:Hid (FB s (9218868437227405312,true)):=Hi (by unfold FB;rw[lQ h310];rfl);go_enter func172,ntmps172;go_wp2;refine E9 0 1 rfl rfl ?_;go_wp2
  go_step3
  refine Or.inr ⟨rfl,?_⟩;go_wp2
  go_quiet (fail)
  go_wp2
  go_step3
  go_wp2
  go_quiet (fail)
  go_wp2;rw[Ku];refine lS (v:= .tuple #[.int .u64 9218868437227405312,.bool true]) ?_ rfl ?_
  ·simp only[results,results172];go_simp
  ·exact⟨_,rfl,HF.o,BG (Below.refl _ _)⟩
 ·by_cases h330:s.dp< -330
  ·have HF:Hid (FB s (0,false)):=Hi (by unfold FB;rw[lL h310,lQ h330];rfl);go_enter func172,ntmps172;go_wp2;refine E9 0 1 rfl rfl ?_;go_wp2
   go_step3
   refine Or.inl ⟨rfl,?_⟩;go_wp2
   go_quiet (fail)
   go_wp2;rw[Exit.noGoto_ret];refine lS (v:= .tuple #[.int .u64 0,.bool false]) ?_ rfl ?_
   ·simp only[results,results172];go_simp
   ·exact⟨_,rfl,HF.o,BG (Below.refl _ _)⟩
  ·have e310:s.dp<=310:=by omega
   have e330: -330<=s.dp:=by omega
   have xu:∀t:Cm,49<=t.A 0->1<=(t.A 0-48:Nat):=fun t h=>by omega
   go_enter func172,ntmps172;go_wp2;refine E9 0 1 rfl rfl ?_;go_wp2
   go_loopg [6] 3200 (fun g ev wr=>∃(t:Cm) (e:Int),ev= .int .i64 e/\Dp wr b t/\Below B w wr/\(∀s' e',Dn t e s' e'->Dn s 0 s' e')/\(0<t.dp->10*t.dp+(t.A 0-48:Nat)<=g)/\0<=e/\e+27*g<=86400/\ -330<=t.dp/\t.dp<=310)
   case atStart=>
    refine⟨s,0,rfl,hD.o,Below.refl _ _,fun _ _ h=>h,fun _=> ?_,by omega,by omega,e330,e310⟩;have:=hD.o.dec.Ca 0 hD.o.pos;omega
   case round=>
    obtain⟨t,e,rfl,hd,hb,qd,hg,he0,heg,t1,t2⟩:=hrel;have jd:=hd.dec.P5;have HD:=Hi hd;have HB:=Hi hb;have zx:=Hi qd;have HTF:=Hi (hT.o.below hb);obtain⟨g,o,c,g1,g2,g3⟩:=HTF.o.p;clear hd hb qd;by_cases hp:0<t.dp
    ·have uF:=hg hp;have hpb:=JE t.dp;obtain⟨x,hx⟩:∃x,x=pw t.dp:=⟨_,rfl⟩;rw[<-hx]at hpb;have C:=Hi (fun n=>Wq B b t x (wr.drewN n) hB (Hi ⟨HD.o.dec.same rfl,HD.o.pos,HD.o.lead⟩) hpb.1 (by omega) (by omega) (by omega));have HX:Hid (∀t' w' n,Mo x t t'->Dp w' b t'->Below B (wr.drewN n) w'->∃(t2:Cm) (e2:Int),Value.int .i64 (e+x)= .int .i64 e2/\Dp w' b t2/\Below B w w'/\(∀s' e',Dn t2 e2 s' e'->Dn s 0 s' e')/\(0<t2.dp->10*t2.dp+(t2.A 0-48:Nat)<=((gk-1:Nat):Int))/\0<=e2/\e2+27*((gk-1:Nat):Int)<=86400/\ -330<=t2.dp/\t2.dp<=310):=Hi (by
      intro t' w' n hr tF rF;have qk:=hr.small (by omega);have hmu:=qk.mu hpb.1 HD.o.dec.Ca HD.o.pos HD.o.lead;have hdp:=qk.dp (by omega) HD.o.pos HD.o.lead;have hl:=tF.lead;exact⟨t',e+x,rfl,tF,HB.o.trans ((BG (Below.refl _ _)).trans rF),fun s' e' hh=>zx.o s' e' (.step hp (hx▸hr) (hx▸hh)),fun _=>by omega,by omega,by omega,by omega,by omega⟩)
     have HG:=Hi (show 1<=gk by omega);have ex:e+x<=90000:=by omega
     clear hg uF;by_cases h9:9<=t.dp
     ·have hx27:x=27:=by rw[hx];unfold pw;rw[lQ h9]
      subst hx27;clear hx;have C2:Hid (∀n,Calls prog 188 #[.pointer (some ⟨b,0,none⟩),.int .i64 (-27)] (wr.drewN n) fun e w'=>e= .returned (.tuple #[])/\∃s',Mo 27 t s'/\Dp w' b s'/\Below B (wr.drewN n) w'):=Hi C.o;clear C;go_wp2
      go_quiet (fail)
      go_wp2_with (go_at_call 188;(with_reducible refine(C2.o _).mono ?_))
      rintro e2 w2 ⟨rfl,t',hr,tF,rF⟩;have H:=Hi (HX.o t' w2 _ hr tF rF);clear hr tF rF;go_wp2
      go_roundg (gk-1)
      case measure=>have:=HG.o;omega
      case rel=>exact H.o
     ·obtain⟨i,hi⟩:∃i:Nat,t.dp=i:=⟨t.dp.toNat,by omega⟩;have i9:i<9:=by omega
      have hxi:x=U5.getD i 1:=by rw[hx];unfold pw;rw[lL h9,hi];rfl
      have gi:=g3 i i9;rw[<-hxi]at gi;rw[hi]at jd;have ip:0<i:=by omega
      have ii:(i:Int)<9:=by omega
      have HI:=Hi hi;have xb:(x:Int)<=27:=by omega
      clear hx hxi h9 g3 hp hi t1 t2;go_wp2
      go_quiet (fail)
      go_wp2
      go_quiet (fail)
      go_wp2_with (go_at_call 188;(with_reducible refine(C.o _).mono ?_))
      rintro e2 w2 ⟨rfl,t',hr,tF,rF⟩;have H:=Hi (HX.o t' w2 _ hr tF rF);clear hr tF rF;go_wp2
      go_roundg (gk-1)
      case measure=>have:=HG.o;omega
      case rel=>exact H.o
    ·have HDN:=Hi (zx.o t e (.done (by omega)));have hpn:t.dp<=0:=by omega
     have e86:e<=86400:=by omega
     clear hg hp heg g3;go_wp2
     go_loopg [6] 3320 (fun g ev wr=>∃(t2:Cm) (e2:Int),ev= .int .i64 e2/\Dp wr b t2/\Below B w wr/\(∀s' e',Up t2 e2 s' e'->Up t e s' e')/\(Da t2->(10:Int)-(10*t2.dp+(t2.A 0-48:Nat))<=g)/\e2<=86400/\27*g-89640<=e2/\ -330<=t2.dp/\t2.dp<=310)
     case atStart=>exact⟨t,e,rfl,HD.o,HB.o,fun _ _ h=>h,fun _=>by omega,e86,by omega,t1,by omega⟩
     case round=>
      obtain⟨t2,e2,rfl,hd,hb,qd,hg,he1,uS,u1,u2⟩:=hrel;have jd:=hd.dec.P5;have j0:=hd.dec.cell 0 (by omega);have uA:=Hi hd;have tM:=Hi hb;have HPR2:=Hi qd;have yE:=Hi (hT.o.below hb);obtain⟨g',o',c',g1',g2',g3'⟩:=yE.o.p;clear hd hb qd;by_cases hs:Da t2
      ·obtain⟨j,hj⟩:∃j:Nat,t2.dp= -(j:Int):=⟨(-t2.dp).toNat,by unfold Da at hs;omega⟩;have uF:=hg hs;have HG:Hid (1<=gk):=Hi (by unfold Da at hs;have:=uA.o.lead;have:=uA.o.dec.Ca 0 uA.o.pos;omega);have hgk:=HG.o;obtain⟨x,hx⟩:∃x,x=pw (-t2.dp):=⟨_,rfl⟩;have hpb:=JE (-t2.dp);rw[<-hx]at hpb;have HX:Hid (∀t' w' n,DX x t2 t'->Dp w' b t'->Below B (wr.drewN n) w'->∃(t3:Cm) (e3:Int),Value.int .i64 (e2-x)= .int .i64 e3/\Dp w' b t3/\Below B w w'/\(∀s' e',Up t3 e3 s' e'->Up t e s' e')/\(Da t3->(10:Int)-(10*t3.dp+(t3.A 0-48:Nat))<=((gk-1:Nat):Int))/\e3<=86400/\27*((gk-1:Nat):Int)-89640<=e3/\ -330<=t3.dp/\t3.dp<=310):=Hi (by
        intro t' w' n hr tF rF;have hmu:=hr.mu hpb.1 uA.o.dec.Ca uA.o.pos uA.o.dec.le uA.o.lead;exact⟨t',e2-x,rfl,tF,tM.o.trans ((BG (Below.refl _ _)).trans rF),fun s' e' hh=>HPR2.o s' e' (.step hs (hx▸hr) (hx▸hh)),fun _=>by omega,by omega,by unfold Da at hs;omega,by omega,by omega⟩)
       have C:=Hi (fun n=>WO B b t2 x (wr.drewN n) hB (Hi (yE.o.l.below (BG (Below.refl _ _)))) (Hi ⟨uA.o.dec.same rfl,uA.o.pos,uA.o.lead⟩) hpb.1 (by omega) (by omega) (by omega));have xb:(x:Int)<=27:=by omega
       have eb: -90000<=e2:=by omega
       have HJ:=Hi hj;rw[hj]at jd;have tn:(0<j)\/(j=0/\t2.A 0<53):=by unfold Da at hs;omega
       clear hg uF hs hgk;by_cases h9:9<=j
       ·have hx27:x=27:=by rw[hx,HJ.o];unfold pw;rw[lQ (by omega)]
        subst hx27;have jp:0<j:=by omega
        clear hx tn;have C2:Hid (∀n,Calls prog 188 #[.pointer (some ⟨b,0,none⟩),.int .i64 27] (wr.drewN n) fun e w'=>e= .returned (.tuple #[])/\∃s',DX 27 t2 s'/\Dp w' b s'/\Below B (wr.drewN n) w'):=Hi C.o;clear C;go_wp2
        go_quiet (fail)
        go_wp2_with (go_at_call 188;(with_reducible refine(C2.o _).mono ?_))
        rintro e3 w2 ⟨rfl,t',hr,tF,rF⟩;have H:=Hi (HX.o t' w2 _ hr tF rF);clear hr tF rF;go_wp2
        go_roundg (gk-1)
        case measure=>have:=HG.o;omega
        case rel=>exact H.o
       ·have i9:j<9:=by omega
        have hxi:x=U5.getD j 1:=by rw[hx,HJ.o];unfold pw;rw[lL (by omega),Int.neg_neg];rfl
        have gi:=g3' j i9;rw[<-hxi]at gi;have ii:(j:Int)<9:=by omega
        clear hx hxi h9 g3' HPR2;rcases tn with jp|⟨rfl,j53⟩
        ·go_wp2
         go_quiet (fail)
         go_wp2
         go_quiet (fail)
         go_wp2_with (go_at_call 188;(with_reducible refine(C.o _).mono ?_))
         rintro e3 w2 ⟨rfl,t',hr,tF,rF⟩;have H:=Hi (HX.o t' w2 _ hr tF rF);clear hr tF rF;go_wp2
         go_roundg (gk-1)
         case measure=>have:=HG.o;omega
         case rel=>exact H.o
        ·have j53':decide ((t2.A 0:Int)<53)=true:=Dq;rw[nK]at gi;have jd0:wr.cell? ⟨b,801,none⟩=some (.int .i64 0):=jd;clear jd ii i9;go_wp2
         go_quiet (fail)
         go_wp2
         go_quiet (fail)
         go_wp2_with (go_at_call 188;(with_reducible refine(C.o _).mono ?_))
         rintro e3 w2 ⟨rfl,t',hr,tF,rF⟩;have H:=Hi (HX.o t' w2 _ hr tF rF);clear hr tF rF;go_wp2
         go_roundg (gk-1)
         case measure=>have:=HG.o;omega
         case rel=>exact H.o
      ·have HUP:=Hi (HPR2.o t2 e2 (.done hs));have eb: -90000<=e2:=by omega
       have tn:0<t2.dp\/(t2.dp=0/\53<=t2.A 0):=by unfold Da at hs;omega
       clear hg hs g3' uS
       go_upto_region 18 with fail
       go_cut [80] (fun v wx=>wr=wx/\v= .bool false)
       case first=>
        rcases tn with jp|⟨jz,j53⟩
        ·have z1:¬t2.dp<0:=by omega
         have z2:(t2.dp==0)=false:=by rw[nD];intro h;have:=eq_of_beq h;omega
         go_wp2;go_meet;exact⟨rfl,rfl⟩
        ·rw[jz]at jd;have z3:decide ((t2.A 0:Int)<53)=false:=Ej;go_wp2;go_meet;exact⟨rfl,rfl⟩
       case rest=>
       obtain⟨rfl,rfl⟩:=hcut;have q0:=yE.o.i0;have q1:=yE.o.i1;have q2:=yE.o.i2
       go_upto_if 111 with fail
       go_cut [6] (fun ev wx=>∃(s3:Cm) (e3:Int),ev= .int .i64 e3/\Dp wx b s3/\Below B w wx/\iM t2 s3 e2 e3/\ -1022<=e3/\e3<=90000/\ -60000<=s3.dp/\s3.dp<=400)
       case first=>
        by_cases ua:e2-1< -1022
        ·obtain⟨k,hk⟩:∃k:Nat,-1022-(e2-1)=(k:Int):=⟨(-1022-(e2-1)).toNat,by omega⟩;have C:=Hi (Wq B b t2 k wr hB uA (by omega) (by omega) (by omega) (by omega));have sW:(k:Int)<=90000:=by omega
         have ux:e2-1+(k:Int)= -1022:=by omega
         go_wp2_with (go_at_call 188;(with_reducible refine C.o.mono ?_))
         rintro e3 w2 ⟨rfl,t',hr,tF,rF⟩;have hdp:=hr.dp uA.o.pos uA.o.lead;have H:=Hi (show Dp w2 b t'/\Below B w w2/\iM t2 t' e2 (-1022)/\(-1022:Int)<= -1022/\(-1022:Int)<=90000/\ -60000<=t'.dp/\t'.dp<=400 from⟨tF,tM.o.trans rF,by unfold iM;rw[lQ ua,hk];exact⟨hr,rfl⟩,by omega,by omega,by omega,by omega⟩);clear hr tF rF hdp;go_wp2;go_meet;exact⟨t',-1022,by first|rfl|(congr 1;omega),H.o⟩
        ·have uL:decide (e2-1< -1022)=false:=lO ua;have H:=Hi (show Dp wr b t2/\Below B w wr/\iM t2 t2 e2 (e2-1)/\ -1022<=e2-1/\e2-1<=90000/\ -60000<=t2.dp/\t2.dp<=400 from⟨uA.o,tM.o,by unfold iM;rw[lL ua];exact⟨rfl,rfl⟩,by omega,by omega,by omega,by omega⟩);go_wp2;go_meet;exact⟨t2,e2-1,rfl,H.o⟩
       case rest=>
       obtain⟨s3,e3,rfl,yZ,yi,z8,v1,v2,v3,v4⟩:=hcut;have ve:=Hi (hT.o.below yi);have p0:=ve.o.i0;have p1:=ve.o.i1;have p2:=ve.o.i2;have p3:=yZ.dec.Vi;have wZ:=Hi yi;have HD3:=Hi yZ;have HR3:=Hi z8;have HH:Hid (∀r,(if 2047<=e3+1023 then r=(Dg 0 1024,true)else∃s4,DX 53 s3 s4/\r=Fw (EG s4.A s4.nd s4.tr s4.dp) e3)->FB s r):=Hi (fun r hr=>by
        unfold FB;rw[lL (by omega),lL (by omega)];exact⟨t,e,t2,e2,s3,e3,HDN.o,HUP.o,HR3.o,hr⟩)
       clear yi yZ z8 q0 q1 q2;by_cases wB:2047<=e3+1023
       ·have HF:Hid (FB s (9218868437227405312,true)):=Hi (HH.o _ (by rw[lQ wB];rfl));go_wp2
        go_quiet (fail)
        go_wp2
        go_step3
        refine Or.inr ⟨rfl,?_⟩;go_wp2
        go_quiet (fail)
        go_wp2
        go_step3
        go_wp2
        go_quiet (fail)
        go_wp2;rw[Ku];refine lS (v:= .tuple #[.int .u64 9218868437227405312,.bool true]) ?_ rfl ?_
        ·simp only[results,results172];go_simp
        ·exact⟨_,rfl,HF.o,BG wZ.o⟩
       ·have C53:Hid (∀n,Calls prog 188 #[.pointer (some ⟨b,0,none⟩),.int .i64 53] (wc.drewN n) fun e w'=>e= .returned (.tuple #[])/\∃s',DX 53 s3 s'/\Dp w' b s'/\Below B (wc.drewN n) w'):=Hi (fun n=>WO B b s3 53 (wc.drewN n) hB (Hi (ve.o.l.below (BG (Below.refl _ _)))) (Hi ⟨HD3.o.dec.same rfl,HD3.o.pos,HD3.o.lead⟩) (by omega) (by omega) (by omega) (by omega));have hov':e3+1023<2047:=by omega
        go_wp2
        go_quiet (fail)
        go_wp2_with (go_at_call 188;(with_reducible refine(C53.o _).mono ?_))
        rintro e5 w4 ⟨rfl,s4,xc,hd4,xB⟩;have H4:=Hi (show DX 53 s3 s4/\Dp w4 b s4/\Below B w w4 from⟨xc,hd4,wZ.o.trans ((BG (Below.refl _ _)).trans xB)⟩);have hmu:=xc.mu (by omega) HD3.o.dec.Ca HD3.o.pos HD3.o.dec.le HD3.o.lead;have w1: -100000<=s4.dp:=by omega
        have w2:s4.dp<=100000:=by omega
        clear xc hd4 xB hmu p0 p1 p2 p3;have CR:=Hi (Kn b s4.A s4.nd s4.dp s4.tr w4 (Hi H4.o.2.1.dec) w1 w2);obtain⟨m,hm⟩:∃m,m=EG s4.A s4.nd s4.tr s4.dp:=⟨_,rfl⟩;have zN:=UO s4.A s4.nd s4.tr s4.dp;rw[<-hm]at CR zN;have HR4:Hid (FB s (Fw m e3)):=Hi (HH.o _ (by rw[lL (by omega)];exact⟨s4,H4.o.1,by rw[hm]⟩));have HT4:=Hi (hT.o.below H4.o.2.2);have p0:=HT4.o.i0;have p1:=HT4.o.i1;have p2:=HT4.o.i2;have p3:=H4.o.2.1.dec.Vi;clear hm;by_cases hm53:m=9007199254740992
        ·subst hm53;have mm:((9007199254740992:Nat):Int)=9007199254740992:=rfl;by_cases hov2:2047<=e3+1+1023
         ·have HF:Hid (FB s (9218868437227405312,true)):=Hi (by have:=HR4.o;unfold Fw at this;rw[lQ rfl,lQ hov2]at this;exact this)
          go_wp2_with (go_at_call 189;(with_reducible refine CR.o.mono ?_);rintro e w' ⟨rfl,rfl⟩)
          go_quiet (fail)
          go_wp2
          go_step3
          refine Or.inr ⟨rfl,?_⟩;go_wp2
          go_quiet (fail)
          go_wp2
          go_step3
          go_wp2
          go_quiet (fail)
          go_wp2;rw[Ku];refine lS (v:= .tuple #[.int .u64 9218868437227405312,.bool true]) ?_ rfl ?_
          ·simp only[results,results172];go_simp
          ·exact⟨_,rfl,HF.o,BG H4.o.2.2⟩
         ·obtain⟨m1,x,R,b1,b2,b3,b4,b5,b6⟩:=La 4503599627370496 (by decide) (e3+1) (by omega) (by omega);have HF:Hid (FB s (R,false)):=Hi (by have:=HR4.o;unfold Fw at this;rw[lQ rfl,lL (by omega)]at this;unfold Hq at this;rw[lL (by decide),<-b5]at this;exact this);have c1:bits .and .u64 4503599627370496 4503599627370495=(m1:Int):=b1;have c2:bits .and .u64 4503599627370496 4503599627370496=4503599627370496:=by decide
          have c3:(x:Int)<=2046:=by omega
          clear b1 b5 b6
          go_wp2_with (go_at_call 189;(with_reducible refine CR.o.mono ?_);rintro e w' ⟨rfl,rfl⟩)
          go_quiet (fail)
          go_wp2
          go_step3
          refine Or.inl ⟨rfl,?_⟩;go_wp2
          go_quiet (fail)
          go_wp2;rw[Exit.noGoto_ret];refine lS (v:= .tuple #[.int .u64 (R:Nat),.bool false]) ?_ rfl ?_
          ·simp only[results,results172];go_simp
          ·exact⟨(R,false),rfl,HF.o,by first|exact BG H4.o.2.2|exact H4.o.2.2⟩
        ·have zz:((m:Int)==9007199254740992)=false:=DC (n:=9007199254740992) hm53;obtain⟨a,ha⟩:∃a,a=m&&&4503599627370496:=⟨_,rfl⟩;have c2:bits .and .u64 (m:Int) 4503599627370496=(a:Int):=by rw[ha];exact Zd m zN
         by_cases hz:a=0
         ·obtain⟨m1,x,R,b1,b2,b3,b4,b5,b6⟩:=La m zN (-1023) (by omega) (by omega);have HF:Hid (FB s (R,false)):=Hi (by have:=HR4.o;unfold Fw at this;rw[lL hm53]at this;unfold Hq at this;rw[<-ha,lQ hz,<-b5]at this;exact this);have hx:x=0:=by omega
          subst hx;have b4':bits .or .u64 (m1:Int) 0=(R:Int):=by simpa using b4
          have z0:((a:Int)==0)=true:=Pv (n:=0) hz;clear b2 b3 b4 b5 b6 ha hz hm53
          go_wp2_with (go_at_call 189;(with_reducible refine CR.o.mono ?_);rintro e w' ⟨rfl,rfl⟩)
          go_step3
          refine Or.inl ⟨rfl,?_⟩;go_wp2
          go_quiet (fail)
          go_wp2;rw[Exit.noGoto_ret];refine lS (v:= .tuple #[.int .u64 (R:Nat),.bool false]) ?_ rfl ?_
          ·simp only[results,results172];go_simp
          ·exact⟨(R,false),rfl,HF.o,by first|exact BG H4.o.2.2|exact H4.o.2.2⟩
         ·obtain⟨m1,x,R,b1,b2,b3,b4,b5,b6⟩:=La m zN e3 (by omega) (by omega);have HF:Hid (FB s (R,false)):=Hi (by have:=HR4.o;unfold Fw at this;rw[lL hm53]at this;unfold Hq at this;rw[<-ha,lL hz,<-b5]at this;exact this);have z0:((a:Int)==0)=false:=DC (n:=0) hz;have c3:(x:Int)<=2046:=by omega
          clear b5 b6 ha hz hm53
          go_wp2_with (go_at_call 189;(with_reducible refine CR.o.mono ?_);rintro e w' ⟨rfl,rfl⟩)
          go_step3
          refine Or.inl ⟨rfl,?_⟩;go_wp2
          go_quiet (fail)
          go_wp2;rw[Exit.noGoto_ret];refine lS (v:= .tuple #[.int .u64 (R:Nat),.bool false]) ?_ rfl ?_
          ·simp only[results,results172];go_simp
          ·exact⟨(R,false),rfl,HF.o,by first|exact BG H4.o.2.2|exact H4.o.2.2⟩
end Go.Proofs
end
section
namespace Go.Pf
open Go.RowKit
structure NA (w:World) (B:Nat):Prop where
 f:Nz w B
 t13:Il w B
 t16:KT w
 o9:w.cell? ⟨11,0,none⟩=some (.bool true)
theorem NA.below {w w':World} {B:Nat}(h:NA w B) (hb:Below B w w'):NA w' B:=by
 have hl:=h.f.gV;exact⟨h.f.below hb,h.t13.below hb,h.t16.below hb (by omega),(hb.cell (p:=⟨11,0,none⟩) (by show 11<B;omega)).trans h.o9⟩
def Fy (s:ByteArray) (p q f:Nat) (sg:Int) (w:World) (e:Ending) (w':World):Prop:=
 ∃b er,e= .returned (.tuple #[.float .f64 b,.int .i64 s.size,er])/\(er= .nilIface\/er= .iface 218 (.int .i64 1))/\(q<=401->Po s p q f sg b)/\Below w.heap.size w w'
theorem Ja (b:Bool):EY b= .nilIface\/EY b= .iface 218 (.int .i64 1):=by
 cases b
 ·exact .inl rfl
 ·exact .inr rfl
end Go.Pf
namespace Go.Proofs
open Go.RowKit Go.Pf
def dV:Option Value->Bool
 |some (.int .u8 0)=>true
 |_=>false
theorem aV {x:Option Value}(h:dV x=true):x=some (.int .u8 0):=by
 unfold dV at h;split at h
 ·rfl
 ·cases h
theorem N3:(List.range 800).all (fun i=>dV zeroCells256[i]?)=true:=by kernel_rfl
theorem NB:zeroCells256[800]? =some (.int .i64 0):=by kernel_rfl
theorem NG:zeroCells256[801]? =some (.int .i64 0):=by kernel_rfl
theorem Nr:zeroCells256[802]? =some (.bool false):=by kernel_rfl
theorem My:zeroCells256[803]? =some (.bool false):=by kernel_rfl
theorem kT (W:World):Eg (W.alloc (.cells zeroCells256 256)) W.heap.size (fun _=>0) 0 0 false:=by
 have c:∀i v,zeroCells256[i]? =some v->(W.alloc (.cells zeroCells256 256)).cell? ⟨W.heap.size,i,none⟩=some v:=fun i v h=>by
  rw[World.cell?_alloc_new,h]
 exact⟨by decide,fun i h=>absurd h (by omega),fun i hi=>c i _ (aV (nS.1 N3 i (pX.2 hi))),c 800 _ NB,c 801 _ NG,c 802 _ Nr,c 803 _ My,fun i=>World.frozen?_alloc_new W _ _ i⟩
def gv (w w':World) (b:Nat) (d:Cm):Prop:=w.heap.size<=b/\Dp w' b d/\Nz w' w.heap.size/\Below w.heap.size w w'
theorem dx (s:ByteArray) (p q f:Nat) (sg:Int) (w:World) (hF:Hid (DW s p q f sg)) (hs:s.size<=4611686018427387904) (hT:Hid (NA w w.heap.size)):
 Calls prog 156 #[.string s] w (Fy s p q f sg w):=by
 have p0:=hF.o.p0;have pq:=hF.o.pq;have qs:=hF.o.qs;have h0:0<s.size:=by omega
 have hd:Hid (gX s[0].toNat):=Hi (by have:=hF.o.Ca 0 (by omega) (by omega);rw[DA h0]at this;exact this);have CS:=Hi (ZN s w h0 hd);have CR:=Hi (Tw s p q f sg w hF hs);obtain⟨m,hm⟩:∃m,m=(rf s q).DT:=⟨_,rfl⟩;obtain⟨x,hx⟩:∃x,x=Co s q f sg:=⟨_,rfl⟩;obtain⟨tr,vd⟩:∃t,t=(rf s q).GV:=⟨_,rfl⟩;unfold FT at CR;rw[<-hm,<-hx,<-vd]at CR;have o9:=hT.o.o9;have a0:bits .or .u64 0 0=0:=by decide
 have a1:bits .or .u64 0 9218868437227405312=9218868437227405312:=by decide
 have zf:prog=prog:=rfl;by_cases hz:m=0
 ·have HX:Hid (Fy s p q f sg w (.returned (.tuple #[.float .f64 0,.int .i64 s.size,.nilIface])) w):=Hi ⟨0,_,rfl,.inl rfl,fun _=>gD hF.o (by rw[<-hm];exact hz),Below.refl _ _⟩;have mz:((m:Int)==0)=true:=Pv (n:=0) hz;clear hm hx vd hz zf;go_enter func156,ntmps156
  go_wp2_with ((first|(go_at_call 164;(with_reducible refine CS.o.mono ?_))|(go_at_call 165;(with_reducible refine CR.o.mono ?_))|(go_at_call 173;(with_reducible refine(Fg _ _).mono ?_)));rintro e w' ⟨rfl,rfl⟩)
  rw[show(0:Int)=((0:Nat):Int)from rfl,Ci,nt];go_wp2;go_ret3;exact HX.o
 ·have mz:((m:Int)==0)=false:=DC (n:=0) hz;have wG:(rf s q).DT≠0:=by rw[<-hm];exact hz
  have ml:=Su (hF.o.ok q (nR _));rw[<-hm]at ml;have ml2:m<10000000000000000000:=ml;by_cases h3:310<x
  ·have HX:Hid (Fy s p q f sg w (.returned (.tuple #[.float .f64 9218868437227405312,.int .i64 s.size,.iface 218 (.int .i64 1)])) w):=Hi ⟨_,_,rfl,.inr rfl,fun _=>fH hF.o wG (by rw[<-hx];exact h3),Below.refl _ _⟩;have c3:decide (310<x)=true:=lU h3;clear hm hx vd hz zf wG;go_enter func156,ntmps156
   go_wp2_with ((first|(go_at_call 164;(with_reducible refine CS.o.mono ?_))|(go_at_call 165;(with_reducible refine CR.o.mono ?_))|(go_at_call 173;(with_reducible refine(Fg _ _).mono ?_)));rintro e w' ⟨rfl,rfl⟩)
   rw[show(9218868437227405312:Int)=((9218868437227405312:Nat):Int)from rfl,Ci,nt];go_wp2;go_ret3;exact HX.o
  ·by_cases h4:x< -345
   ·have HX:Hid (Fy s p q f sg w (.returned (.tuple #[.float .f64 0,.int .i64 s.size,.nilIface])) w):=Hi ⟨_,_,rfl,.inl rfl,fun _=>ei hF.o wG (by rw[<-hx];exact h4),Below.refl _ _⟩;have c3:decide (310<x)=false:=lO h3;have c4:decide (x< -345)=true:=lU h4;clear hm hx vd hz zf wG;go_enter func156,ntmps156
    go_wp2_with ((first|(go_at_call 164;(with_reducible refine CS.o.mono ?_))|(go_at_call 165;(with_reducible refine CR.o.mono ?_))|(go_at_call 173;(with_reducible refine(Fg _ _).mono ?_)));rintro e w' ⟨rfl,rfl⟩)
    rw[show(0:Int)=((0:Nat):Int)from rfl,Ci,nt];go_wp2;go_ret3;exact HX.o
   ·have c3:decide (310<x)=false:=lO h3;have c4:decide (x< -345)=false:=lO h4;have gV:=hT.o.f.gV;have CP:=Hi (fun W (hW:Hid (NA W w.heap.size)) (hl:w.heap.size<=W.heap.size)=>Hx m x W hz (by omega) (by omega) (by omega) (Hi hW.o.t16) (by omega));have PO:=Vr m x hz (by omega) (by omega) (by omega);obtain⟨R,hR⟩:∃R,R=cY m x:=⟨_,rfl⟩;rw[<-hR]at CP PO;have CPw:=Hi (CP.o w hT (nR _));cases htr2:tr with
    |false=>
     rw[htr2]at CR vd;have HP:Hid (∀w',Below w.heap.size w w'->Fy s p q f sg w (.returned (.tuple #[.float .f64 R.1,.int .i64 s.size,EY R.2])) w'):=Hi (fun w' hb=>⟨_,_,rfl,Ja _,fun _=>cu hF.o wG vd.symm (by rw[<-hm,<-hx];exact PO),hb⟩);cases hax:Lq m x with
     |some r=>
      have CE:Hid (Calls prog 175 #[.int .u64 m,.int .i64 x,.bool false] w fun e w'=>e= .returned (.tuple #[.float .f64 r,.bool true])/\w=w'):=Hi ((Tryz.exact m x w.heap.size w (by omega) (by omega) (by omega) (by omega) (Hi hT.o.t13) hT.o.f.i0).mono (by
       rintro e w' ⟨y,h1,h2,h3⟩;rw[h2 r hax,hax]at h1;exact⟨h1,h3⟩))
      have HX:Hid (Fy s p q f sg w (.returned (.tuple #[.float .f64 r,.int .i64 s.size,.nilIface])) w):=Hi ⟨_,_,rfl,.inl rfl,fun _=>cu hF.o wG vd.symm (by rw[<-hm,<-hx];exact fB (by omega) hax),Below.refl _ _⟩;clear hm hx vd hz zf wG CP PO hR hax ml ml2 h3 h4;go_enter func156,ntmps156
      go_wp2_with ((first|(go_at_call 164;(with_reducible refine CS.o.mono ?_))|(go_at_call 165;(with_reducible refine CR.o.mono ?_))|(go_at_call 173;(with_reducible refine(Fg _ _).mono ?_))|(go_at_call 175;(with_reducible refine CE.o.mono ?_)));rintro e w' ⟨rfl,rfl⟩)
      go_ret3;exact HX.o
     |none=>
      have CE:Hid (Calls prog 175 #[.int .u64 m,.int .i64 x,.bool false] w fun e w'=>∃y,e= .returned (.tuple #[.float .f64 y,.bool false])/\w=w'):=Hi ((Tryz.exact m x w.heap.size w (by omega) (by omega) (by omega) (by omega) (Hi hT.o.t13) hT.o.f.i0).mono (by
       rintro e w' ⟨y,h1,h2,h3⟩;rw[hax]at h1;exact⟨y,h1,h3⟩))
      clear hm hx vd hz zf wG CP PO hR hax ml ml2 h3 h4;go_enter func156,ntmps156
      go_wp2_with ((first|(go_at_call 164;(with_reducible refine CS.o.mono ?_))|(go_at_call 165;(with_reducible refine CR.o.mono ?_))|(go_at_call 173;(with_reducible refine(Fg _ _).mono ?_)));rintro e w' ⟨rfl,rfl⟩)
      go_wp2_with (go_at_call 175;(with_reducible refine CE.o.mono ?_);rintro e w' ⟨y,rfl,rfl⟩)
      go_wp2_with (go_at_call 176;(with_reducible refine CPw.o.mono ?_);rintro e w' ⟨rfl,hb⟩)
      go_ret3;exact HP.o _ hb
    |true=>
     rw[htr2]at CR;have PO2:=Vr (m+1) x (by omega) (by omega) (by omega) (by omega);have CP2:=Hi (fun W (hW:Hid (NA W w.heap.size)) (hl:w.heap.size<=W.heap.size)=>Hx (m+1) x W (by omega) (by omega) (by omega) (by omega) (Hi hW.o.t16) (by omega));obtain⟨R2,yX⟩:∃R,R=cY (m+1) x:=⟨_,rfl⟩;rw[<-yX]at CP2 PO2;have ocmp:(FloatKind.f64.format.order R.1 R2.1==some .eq)=decide (R.1=R2.1):=XI PO.le PO2.le;have mi:(m:Int)+1=((m+1:Nat):Int):=by omega
     obtain⟨m1,qw⟩:∃m1,m1=m+1:=⟨_,rfl⟩;rw[<-qw]at mi CP2;have m1l:(m1:Int)<=18446744073709551615:=by omega
     by_cases heq:R.1=R2.1
     ·have HP:Hid (∀w',Below w.heap.size w w'->Fy s p q f sg w (.returned (.tuple #[.float .f64 R.1,.int .i64 s.size,EY R.2])) w'):=Hi (fun w' hb=>⟨_,_,rfl,Ja _,fun _=>RC hF.o wG (by rw[<-hm,<-hx];exact PO) (by rw[<-hm,<-hx,heq];exact PO2),hb⟩);rw[lU heq]at ocmp;clear hm hx vd hz zf wG PO PO2 hR yX heq ml ml2 h3 h4 qw;go_enter func156,ntmps156
      go_wp2_with ((first|(go_at_call 164;(with_reducible refine CS.o.mono ?_))|(go_at_call 165;(with_reducible refine CR.o.mono ?_))|(go_at_call 173;(with_reducible refine(Fg _ _).mono ?_)));rintro e w' ⟨rfl,rfl⟩)
      go_wp2_with (go_at_call 176;(with_reducible refine CPw.o.mono ?_);rintro e W1 ⟨rfl,hb⟩)
      have CPx:=Hi (CP2.o W1 (Hi (hT.o.below hb)) hb.size);have HB:=Hi hb;clear hb
      go_wp2_with (go_at_call 176;(with_reducible refine CPx.o.mono ?_);rintro e w' ⟨rfl,hb⟩)
      go_ret3;exact HP.o _ (HB.o.trans (hb.mono HB.o.size))
     ·rw[lO heq]at ocmp;have gd:=SI hF.o wG;have dpb:=Yf hF.o wG (by rw[<-hx];omega) (by rw[<-hx];omega);have HP:Hid (∀w' r,FB (GI s q f sg) r->Below w.heap.size w w'->∀er,(er= .nilIface\/er= .iface 218 (.int .i64 1))->Fy s p q f sg w (.returned (.tuple #[.float .f64 r.1,.int .i64 s.size,er])) w'):=Hi (fun w' r hr hb er he=>⟨_,_,rfl,he,fun hq=>gS hF.o wG hq hr,hb⟩);have CSET:Hid (∀W,Below w.heap.size w W->Calls prog 171 #[.pointer (some ⟨W.heap.size,0,none⟩),.string s] (W.alloc (.cells zeroCells256 256)) fun e w'=>e= .returned (.bool true)/\gv w w' W.heap.size (GI s q f sg)):=Hi (fun W hb=>by
       have ql:Below w.heap.size w (W.alloc (.cells zeroCells256 256)):=hb.alloc hb.size _;refine(dD w.heap.size W.heap.size s p q f sg _ hF hs hb.size (Hi (kT W))).mono ?_;rintro e w' ⟨h1,h2,h3⟩;have qM:=ql.trans h3;exact⟨h1,hb.size,⟨h2,gd.pos,gd.lead⟩,hT.o.f.below qM,qM⟩)
      have CFB:Hid (∀W b,gv w W b (GI s q f sg)->Calls prog 172 #[.pointer (some ⟨b,0,none⟩),.pointer (some ⟨12,0,none⟩)] W fun e w'=>∃r:Nat×Bool,e= .returned (.tuple #[.int .u64 (r.1:Nat),.bool r.2])/\FB (GI s q f sg) r/\Below w.heap.size w w'):=Hi (fun W b h=>(Tryz.floatBits w.heap.size b (GI s q f sg) W h.1 (Hi h.2.2.1) (Hi h.2.1) dpb.1 dpb.2).mono (by
       rintro e w' ⟨r,h1,h2,h3⟩;exact⟨r,h1,h2,h.2.2.2.trans h3⟩))
      clear hm hx vd hz zf wG PO PO2 hR yX heq ml ml2 h3 h4 qw gd dpb;go_enter func156,ntmps156
      go_wp2_with ((first|(go_at_call 164;(with_reducible refine CS.o.mono ?_))|(go_at_call 165;(with_reducible refine CR.o.mono ?_))|(go_at_call 173;(with_reducible refine(Fg _ _).mono ?_)));rintro e w' ⟨rfl,rfl⟩)
      go_wp2_with (go_at_call 176;(with_reducible refine CPw.o.mono ?_);rintro e W1 ⟨rfl,hb⟩)
      have zX:=Hi (hT.o.below hb);have CPx:=Hi (CP2.o W1 zX hb.size);have HB:=Hi hb;clear hb
      go_wp2_with (first|(go_at_call 176;(with_reducible refine CPx.o.mono ?_);rintro e W2 ⟨rfl,hb⟩)|(go_at_call 171;(with_reducible refine(CSET.o _ (HB.o.trans (hb.mono HB.o.size))).mono ?_);rintro e W3 ⟨rfl,yZ⟩)|(go_at_call 172;(with_reducible refine(CFB.o _ _ yZ).mono ?_);rintro e W4 ⟨r,rfl,hr4,xB⟩))
      rw[Ci,nt];have HR4:=Hi hr4;have yc:=Hi xB;clear hr4 xB yZ hb;cases ho:r.2
      all_goals
       go_wp2;go_ret3
      ·exact HP.o _ r HR4.o yc.o _ (.inl rfl)
      ·exact HP.o _ r HR4.o yc.o _ (.inr rfl)
end Go.Proofs
end
section
namespace Go.Proofs
open Go.RowKit Go.Pf
theorem iA:(Tryz.prog.info? 5).map (fun i=>(i.zero,i.size,i.bytes))=some (some (.int .u8 0),1,1):=by kernel_rfl
theorem Tryz.clone (s:ByteArray) (w:World) (u7:s.size<=281474976710656):Calls prog 157 #[.string s] w fun e w'=>e= .returned (.string s)/\Below w.heap.size w w':=by
 by_cases h0:s.size=0
 ·have hs:s=⟨#[]⟩:=by
   apply pH;exact Array.eq_empty_of_size_eq_zero h0
  subst hs;go_enter func157,ntmps157;go_wp2;go_ret;exact⟨rfl,Below.refl _ _⟩
 ·obtain⟨i0,hi,qX,qg,qe⟩:=nw iA;have AAG:(Tryz.prog.info? 5).map (·.size)=some 1:=by rw[hi];simp[qg]
  have hco:Tryz.prog.cellsOf 5=1:=by simp[Program.cellsOf,hi,qg]
  obtain⟨M,hM⟩:∃M,M=madeCells (Value.int .u8 0).cells (((s.size:Nat):Int).toNat*i0.size):=⟨_,rfl⟩;have hMs:M.size=s.size:=by rw[hM,size_madeCells,qg];simp
  have hmk:∀W:World,(Instr.makeSlice 143 (.int .i64 (s.size:Int)) (.int .i64 (s.size:Int))).run prog W= .ok (.slice (some ⟨W.heap.size,0,none⟩) s.size s.size) (W.alloc (.cells M 5)):=fun W=>by
   have h:=run_make (P:=prog) W 143 5 i0 (.int .u8 0) my hi qX .i64 .i64 (s.size:Int) (s.size:Int) (by omega) (by omega) (by rw[qe];omega) (by omega);rw[<-hM]at h;simpa using h
  clear hM;have hcp:=Lib.run_copy_row_string (P:=prog) (w.alloc (.cells M 5)) 143 9 3 5 w.heap.size 0 s.size s.size s M 5 my AAG (lT w _) (nR _) (by omega);obtain⟨Y,hY⟩:∃Y,Y=(M.toList.take 0++Lib.byteCells s.data.toList++M.toList.drop (0+s.size)).toArray:=⟨_,rfl⟩;rw[<-hY]at hcp;have hYl:Y.toList=Lib.byteCells s.data.toList:=by
   rw[hY,List.toList_toArray,ny,List.nil_append,List.drop_of_length_le (by rw[nG];omega),nj]
  have hYs:Y.size=s.size:=by rw[<-nG,hYl,Lib.byteCells_length,<-Lib.size_eq]
  have hgY:((w.alloc (.cells M 5)).setRow w.heap.size Y).heap[w.heap.size]? =some (.cells Y 5 (0,0)):=mF _ _ M _ 5 (0,0) (lT w _);have qP:s.data.toList≠ []:=fun e=>h0 (by rw[Lib.size_eq,e];rfl);have hUS:=Lib.run_unsafeString_row (P:=prog) ((w.alloc (.cells M 5)).setRow w.heap.size Y) 186 3 9 5 underlying186 hco w.heap.size Y.size (by unfold World.shape?;rw[hgY]) s.data.toList qP (by rw[<-Lib.size_eq];omega) (by rw[<-Lib.size_eq];omega)
   (fun j x hx=>Lib.cells_of_row hgY Y.size j _ (by rw[nO (by rw[nG];exact nR _),hYl];simp[Lib.byteCells,hx]))
  rw[<-Lib.size_eq]at hUS;clear hY;go_enter func157,ntmps157;go_wp2;go_ret;have ql:Below w.heap.size w (w.alloc (.cells M 5)):=(Below.refl _ w).alloc (nR _) _;have qM:Below w.heap.size (w.alloc (.cells M 5)) ((w.alloc (.cells M 5)).setRow w.heap.size Y):=⟨rfl,rfl,rfl,by simp,fun k hk=>mH _ _ _ _ (by omega)⟩;exact⟨rfl,Lib.below_freeze (ql.trans qM) (p:=⟨w.heap.size,0,none⟩) (nR _) _⟩
theorem Pr (fn s:ByteArray) (te:TypeId) (pe:Value) (w:World) (u7:s.size<=281474976710656) (hv:w.cell? ⟨8,0,none⟩=some (.iface te pe)):
 Calls prog 146 #[.string fn,.string s] w fun e w'=>∃N,e= .returned (.pointer (some ⟨N,0,none⟩))/\Below w.heap.size w w':=by
 have hG:8<w.heap.size:=Lib.lt_of_cell hv;have hvd:w.drew.cell? ⟨8,0,none⟩=some (.iface te pe):=hv;go_enter func146,ntmps146;go_wp2
 go_region_with (go_at_call 157;(with_reducible refine(Tryz.clone s _ u7).mono ?_);rintro e w2 ⟨rfl,qF⟩;have se:w2.cell? ⟨8,0,none⟩=some (.iface te pe):=(qF.cell (p:=⟨8,0,none⟩) (show 8<w.drew.heap.size from hG)).trans hvd)
 all_goals
  go_wp2;go_ret;have yP:w.heap.size<=w2.heap.size:=qF.size;exact⟨_,rfl,((Below.drew (Below.refl _ w)).trans qF).alloc yP _⟩
theorem RP (fn s:ByteArray) (a b:Int) (te:TypeId) (pe:Value) (w:World) (u7:s.size<=281474976710656) (hv:w.cell? ⟨8,0,none⟩=some (.iface te pe)):
 Calls prog 138 #[.string fn,.string s,.int .i64 a,.int .i64 b,.iface 218 (.int .i64 1)] w fun e w'=>∃v,e= .returned v/\Below w.heap.size w w':=by
 have h1:∀w,(binOp .eql 37 (.iface 218 (.int .i64 1)) (.iface 218 (.int .i64 2))).run prog w= .ok (.bool false) w:=fun _=>by kernel_rfl
 have h2:∀w,(binOp .eql 37 (.iface 218 (.int .i64 1)) (.iface 218 (.int .i64 1))).run prog w= .ok (.bool true) w:=fun _=>by kernel_rfl
 go_enter func138,ntmps138
 go_wp2_with (go_at_call 146;(with_reducible refine(Pr _ _ te pe _ u7 hv).mono ?_);rintro e w' ⟨N,rfl,hb⟩)
 go_ret;exact⟨_,rfl,hb⟩
structure D3 (w:World) (B:Nat):Prop where
 a:NA w B
 e6:∃te pe,w.cell? ⟨8,0,none⟩=some (.iface te pe)
theorem D3.below {w w':World} {B:Nat}(h:D3 w B) (hb:Below B w w'):D3 w' B:=by
 obtain⟨te,pe,h6⟩:=h.e6;have hl:=h.a.f.gV;exact⟨h.a.below hb,te,pe,(hb.cell (p:=⟨8,0,none⟩) (by show 8<B;omega)).trans h6⟩
theorem JB (s:ByteArray) (p q f:Nat) (sg:Int) (w:World) (hF:Hid (DW s p q f sg)) (hs:s.size<=4611686018427387904) (hT:Hid (NA w w.heap.size)):
 Calls prog 144 #[.string s,.int .i64 64] w (Fy s p q f sg w):=by
 go_enter func144,ntmps144
 go_wp2_with (go_at_call 156;(with_reducible refine(dx s p q f sg _ hF hs hT).mono ?_);rintro e w' ⟨b,er,rfl,he,hf,hb⟩)
 go_ret3;exact⟨b,er,rfl,he,hf,hb⟩
def fg (s:ByteArray) (p q f:Nat) (sg:Int) (w:World) (e:Ending) (w':World):Prop:=
 ∃b er,e= .returned (.tuple #[.float .f64 b,er])/\(er= .nilIface\/er= .iface 218 (.int .i64 1))/\(q<=401->Po s p q f sg b)/\Below w.heap.size w w'
theorem Ju (s:ByteArray) (p q f:Nat) (sg:Int) (w:World) (hF:Hid (DW s p q f sg)) (hs:s.size<=4611686018427387904) (hT:Hid (NA w w.heap.size)):
 Calls prog 137 #[.string s,.int .i64 64] w (fg s p q f sg w):=by
 go_enter func137,ntmps137
 go_wp2_with (go_at_call 144;(with_reducible refine(JB s p q f sg _ hF hs hT).mono ?_);rintro e w' ⟨b,er,rfl,he,hf,hb⟩)
 go_ret2;exact⟨b,er,rfl,he,hf,hb⟩
def XD (s:ByteArray) (p q f:Nat) (sg:Int) (w:World) (e:Ending) (w':World):Prop:=
 ∃b er,e= .returned (.tuple #[.float .f64 b,er])/\(q<=401->Po s p q f sg b)/\Below w.heap.size w w'
theorem Qg (s:ByteArray) (p q f:Nat) (sg:Int) (w:World) (hF:Hid (DW s p q f sg)) (hs:s.size<=140737488355328) (hT:Hid (D3 w w.heap.size)):
 Calls prog 114 #[.string s,.int .i64 64] w (XD s p q f sg w):=by
 go_enter func114,ntmps114
 go_upto_region 1 with fail
 go_cut [6,7]from 8 (fun s6 s7 wx=>∃b er,s6= .float .f64 b/\s7=er/\(er= .nilIface\/er= .iface 218 (.int .i64 1))/\(q<=401->Po s p q f sg b)/\Below w.heap.size w wx)
 case first=>
  go_wp2_with (go_at_call 137;(with_reducible refine(Ju s p q f sg _ hF (by omega) (Hi hT.o.a)).mono ?_);rintro e w1 ⟨b,er,rfl,he,hf,hb⟩)
  go_meet;exact⟨b,er,rfl,rfl,he,hf,hb⟩
 case rest=>
  obtain⟨b,er,rfl,rfl,he,hf,hb⟩:=hcut;rcases he with rfl|rfl
  ·go_wp2;go_ret2;exact⟨b,_,rfl,hf,hb⟩
  ·obtain⟨te,pe,h6⟩:=(hT.o.below hb).e6
   go_wp2_with (go_at_call 138;(with_reducible refine(RP _ _ _ _ te pe _ (by omega) h6).mono ?_);rintro e w2 ⟨v,rfl,qM⟩)
   go_ret2;exact⟨b,_,rfl,hf,hb.trans (qM.mono hb.size)⟩
end Go.Proofs
end
