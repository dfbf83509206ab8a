import Derived.Test.YtnipmfaikiaipaaGreatDoorTad
import Derived.ScopeJumps
set_option maxRecDepth 1000000
set_option maxHeartbeats 40000000
section
namespace Go.Proofs
open Go.RowKit Go.Pf
def Rw (w:World) (B b:Nat) (A:Nat->Nat) (nd:Nat) (dp:Int) (tr:Bool) (k:Nat) (e:Ending) (w':World):Prop:=
 e= .returned (.tuple #[])/\∃(A':Nat->Nat) (W:Nat) (dp':Int) (tr':Bool) (n:Nat),QG A nd dp tr k A' W dp' tr'/\0<n/\n<=W/\A' (n-1)≠48/\(∀i,n<=i->i<W->A' i=48)/\EF w' b A' n dp' tr'/\Below B w w'
theorem Qe (B b:Nat) (A:Nat->Nat) (nd:Nat) (dp:Int) (tr:Bool) (k:Nat) (w:World) (hB:B<=b) (hD:Hid (EF w b A nd dp tr)) (h0:0<nd) (hA:49<=A 0) (k1:1<=k) (hk:k<=60) (d1: -100000<=dp) (d2:dp<=100000):
 Calls Tryz.prog 242 #[.pointer (some ⟨b,0,none⟩),.int .u64 k] w (Rw w B b A nd dp tr k):=by
 obtain⟨PP,hP⟩:∃PP:Nat,PP=2^k:=⟨_,rfl⟩;have p0:0<PP:=by rw[hP];exact An k
 have p1:PP<=1152921504606846976:=by rw[hP];exact To (AT (by decide) hk) (by decide)
 have pc:(2:Int)^k=(PP:Int):=by rw[hP,FE]
 have HP:=Hi hP;have kle:=hD.out.le;have k0:=hD.out.Mc;have kz:=hD.out.fz 800;have ki:(k:Int)<=60:=by omega
 have hpos:=Ou h0 hA;have HN:=Hi hpos;clear hP hpos;go_enter Tryz.func242,Tryz.ntmps242
 go_upto_block 0 with fail
 go_cut [4,6] (fun rv nv wx=>w=wx/\∃r n:Nat,rv= .int .i64 r/\nv= .int .u64 n/\1<=r/\r<=1000/\n=Ax A nd r/\PP<=n/\n<10*PP/\Ax A nd (r-1)<PP)
 case first=>
  go_wp2_with fail
  go_loop [4,6] (fun rv nv=>∃r n:Nat,rv= .int .i64 r/\nv= .int .u64 n/\n=Ax A nd r/\r<=nd/\(1<=r->Ax A nd (r-1)<PP)) (fun rv _=>nd+1-(intOf rv).toNat)
  case atStart=>exact⟨0,0,rfl,rfl,rfl,by omega,by omega⟩
  case round=>
   obtain⟨r,n,rfl,rfl,hn,hr,hpre⟩:=hrel;obtain⟨q,hq⟩:∃q,q=n/PP:=⟨_,rfl⟩;have q1:(n:Int)/(PP:Int)=(q:Int):=by rw[hq];exact(Int.natCast_ediv _ _).symm
   by_cases hnP:n<PP
   ·have q0:q=0:=by rw[hq];exact bh hnP
    subst q0;by_cases hrn:r<nd
    ·have cr:=hD.out.cell r (by omega);have dr:=hD.out.Bq r hrn;obtain⟨n2,hn2⟩:∃n2,n2=n*10+(A r-48):=⟨_,rfl⟩;have x1:(n:Int)*10+(A r:Int)-48=(n2:Int):=by omega
     have x2:(A r:Int)<=57:=by omega
     have x3:(48:Int)<=(A r:Int):=by omega
     have x4:(n:Int)<=1152921504606846976:=by omega
     have ri:(r:Int)<800:=by omega
     have hnext:n2=Ax A nd (r+1):=by rw[Ax,if_pos hrn,<-hn,hn2]
     have hlt:Ax A nd (r+1-1)<PP:=by rw[Nat.add_sub_cancel,<-hn];exact hnP
     have HNX:=Hi (And.intro hnext hlt);clear hn hn2 hq hnext hlt hpre dr hnP;go_wp2;go_round
     case rel=>exact⟨r+1,n2,by go_num,rfl,HNX.out.1,by omega,fun _=>HNX.out.2⟩
     case measure=>simp[intOf];omega
    ·have hrd:r=nd:=by omega
     have hn0:1<=n:=by
      have:=HN.out (nd-1);rw[Nat.sub_add_cancel h0]at this;rw[hn,hrd];exact this
     have z0:((n:Int)==0)=false:=Bn (n:=0) (by omega);have HNN:=Hi hn;have Nw:=Hi (hpre (by omega));have HRD:=Hi hrd;have hnrd:¬r<nd:=hrn;clear hn hq hpre hrd hrn;go_wp2
     go_loop [4,6] (fun rv nv=>∃r n:Nat,rv= .int .i64 r/\nv= .int .u64 n/\n=Ax A nd r/\nd<=r/\Ax A nd (r-1)<PP/\1<=n/\10^(r-nd)<=n/\n<10*PP) (fun _ nv=>10*PP-(intOf nv).toNat)
     case atStart=>exact⟨r,n,rfl,rfl,HNN.out,by omega,Nw.out,hn0,by rw[HRD.out,Nat.sub_self];exact hn0,by omega⟩
     case round=>
      obtain⟨r,n,rfl,rfl,hn,hr,hpre,hn1,h10,hn10⟩:=hrel;obtain⟨q,hq⟩:∃q,q=n/PP:=⟨_,rfl⟩;have q1:(n:Int)/(PP:Int)=(q:Int):=by rw[hq];exact(Int.natCast_ediv _ _).symm
      have hr20:r-nd<20:=by
       apply No;intro h;have:=AT (n:=10) (by decide) (show 20<=r-nd by omega);omega
      by_cases hnP:n<PP
      ·have q0:q=0:=by rw[hq];exact bh hnP
       subst q0;have hnext:n*10=Ax A nd (r+1):=by rw[Ax,if_neg (by omega),<-hn,gZ]
       have hlt:Ax A nd (r+1-1)<PP:=by rw[Nat.add_sub_cancel,<-hn];exact hnP
       have h10':10^(r+1-nd)<=n*10:=by rw[show r+1-nd=(r-nd)+1 by omega,gj];omega
       have HNX:=Hi (And.intro hnext (And.intro hlt h10'));have x4:(n:Int)<=1152921504606846976:=by omega
       have ri:(r:Int)<=1000:=by omega
       have HL:=Hi (show n<PP/\1<=n/\nd<=r from⟨hnP,hn1,hr⟩);clear hn hq hnext hlt hpre hnP h10 h10' hn10 hr20 hn1;go_wp2;go_round
       case rel=>exact⟨r+1,n*10,by go_num,by go_num,HNX.out.1,by omega,HNX.out.2.1,by have:=HL.out;omega,HNX.out.2.2,by have:=HL.out;omega⟩
       case measure=>have:=HL.out;simp[intOf];omega
      ·have q0:((q:Int)==0)=false:=Bn (n:=0) (by
        intro h;rw[hq]at h;have:=(Nat.div_eq_zero_iff_lt p0).1 h;omega)
       have HX:=Hi (show 1<=r/\r<=1000/\n=Ax A nd r/\PP<=n/\n<10*PP/\Ax A nd (r-1)<PP from⟨by omega,by omega,hn,by omega,hn10,hpre⟩);clear hn hq hpre hnP h10 hn10 hr20 hn1;go_wp2;go_meet;exact⟨rfl,r,n,rfl,rfl,HX.out⟩
   ·have hr1:1<=r:=by
     apply No;intro h;have:r=0:=by omega
     subst this;rw[Ax]at hn;omega
    have q0:((q:Int)==0)=false:=Bn (n:=0) (by
     intro h;rw[hq]at h;have:=(Nat.div_eq_zero_iff_lt p0).1 h;omega)
    have hb:n<10*PP:=by
     have h1:=hpre hr1;obtain⟨s,rfl⟩:∃s,r=s+1:=⟨r-1,by omega⟩;rw[Nat.add_sub_cancel]at h1;have d:=hD.out.Bq s (by omega);rw[Ax,if_pos (by omega)]at hn;omega
    have HX:=Hi (show 1<=r/\r<=1000/\n=Ax A nd r/\PP<=n/\n<10*PP/\Ax A nd (r-1)<PP from⟨hr1,by omega,hn,by omega,hb,hpre hr1⟩);clear hn hq hpre hnP hb;go_wp2;go_meet;exact⟨rfl,r,n,rfl,rfl,HX.out⟩
 case rest=>
 obtain⟨rfl,r1,n1,rfl,rfl,hr1,hr1k,hn1,hPn,hn10,hpre⟩:=hcut;have k8:=hD.out.Qh;have kz8:=hD.out.fz 801;have mk1:(1:Int)*(PP:Int)=(PP:Int):=Int.one_mul _;have x4:(PP:Int)<=1152921504606846976:=by omega
 obtain⟨M,hM⟩:∃M:Nat,M=PP-1:=⟨_,rfl⟩;have x5:(PP:Int)-1=(M:Int):=by omega
 have hand:∀n:Nat,n<18446744073709551616->bits .and .u64 (n:Int) (M:Int)=((n %PP:Nat):Int):=by
  intro n h;have:=u64_and_nat n M h (by omega);rw[this,hM,HP.out,Nat.and_two_pow_sub_one_eq_mod]
 have HA:=Hi hand;obtain⟨dp1,hdp1⟩:∃d:Int,d=dp-((r1:Int)-1):=⟨_,rfl⟩;have x6:dp-((r1:Int)-1)=dp1:=hdp1.symm;have HDP:=Hi hdp1;have S2:P2 A nd dp1 tr PP r1 b B w r1 0 n1 A (w.setCell ⟨b,801,none⟩ (.int .i64 dp1)):=
  ⟨hD.out.F2 dp1,(AH _ _).setCell (p:=⟨b,801,none⟩) hB _,fun _ _=>rfl,by omega,.inr rfl,by rw[num,hn1];omega,hn10,.inl ⟨rfl,hPn⟩,fun i hi=>by omega⟩
 have HS2:=Hi S2;have HPR:=Hi hpre;have HPN:Hid (PP<=Ax A nd r1):=Hi (by rw[<-hn1];exact hPn);clear hM hand hdp1 S2 hpre hPn hn10 hn1;go_wp2
 go_loopw [4,5,6] (fun rv wv nv wr=>∃(r wc n:Nat) (A':Nat->Nat),rv= .int .i64 r/\wv= .int .i64 wc/\nv= .int .u64 n/\P2 A nd dp1 tr PP r1 b B w r wc n A' wr) (fun rv _ _ _=>2000-(intOf rv).toNat)
 case atStart=>exact⟨r1,0,n1,A,rfl,rfl,rfl,HS2.out⟩
 case round=>
  obtain⟨r,wc,n,A',rfl,rfl,rfl,hp2⟩:=hrel;have j0:=hp2.dec.Mc;by_cases hr:r<nd
  ·have r8:r<800:=by omega
   have wlt:wc<800:=by have:=hp2.Ln;omega
   have jr:=hp2.dec.cell r r8;rw[hp2.old r (nR _)]at jr;have jw:=hp2.dec.cell wc wlt;have jz:=hp2.dec.fz wc;have dr:=hD.out.Bq r hr;have nlt:=hp2.lt;obtain⟨q,hq⟩:∃q,q=n/PP:=⟨_,rfl⟩;have q1:(n:Int)/(PP:Int)=(q:Int):=by rw[hq];exact(Int.natCast_ediv _ _).symm
   obtain⟨m,hm⟩:∃m,m=n %PP:=⟨_,rfl⟩;have q2:bits .and .u64 (n:Int) (M:Int)=(m:Int):=by rw[HA.out n (by omega),hm]
   have q9:q<=9:=by
    have:=(ad p0).2 nlt;omega
   obtain⟨q48,hq48⟩:∃q48,q48=q+48:=⟨_,rfl⟩;have q3:(q:Int)+48=(q48:Int):=by omega
   have q4:(q48:Int)<=57:=by omega
   have mlt:m<PP:=by rw[hm];exact gR _ p0
   obtain⟨n2,hn2⟩:∃n2,n2=m*10+(A r-48):=⟨_,rfl⟩;have q5:(m:Int)*10+(A r:Int)-48=(n2:Int):=by omega
   have q6:(A r:Int)<=57:=by omega
   have q7:(m:Int)<=1152921504606846976:=by omega
   have NX:=hp2.next hr1 hB p0 hr dr (q:=q) (n2:=n2) hq (by rw[<-hm];exact hn2);rw[<-hq48]at NX;have HNX:=Hi NX;have wi:(wc:Int)<800:=by omega
   have ri:(r:Int)<800:=by omega
   have HW:=Hi (show(r:Int)<=1999 by omega);clear NX hq hm hn2 hq48 mlt nlt dr hp2 q9;go_wp2;go_roundw
   case rel=>exact⟨r+1,wc+1,n2,_,by go_num,by go_num,rfl,HNX.out⟩
   case measure=>have:=HW.out;simp[intOf];omega
  ·have S3:=hp2.start hr1 (by omega);have HS3:=Hi S3;have hri:(nd:Int)<=r:=by omega
   clear S3 hp2;go_wp2
   go_loopg [5,6] (k+1) (fun g wv nv wr=>∃(wc n V c:Nat) (A':Nat->Nat) (tr':Bool),wv= .int .i64 wc/\nv= .int .u64 n/\P3 A nd dp1 tr PP r1 b B w wc n V c A' tr' wr/\(n=0\/∃h,g=h+1/\2^k∣n*2^h))
   case atStart=>exact⟨wc,n,_,_,_,_,rfl,rfl,HS3.out,.inr ⟨k,rfl,Nat.dvd_mul_left _ _⟩⟩
   case round=>
    obtain⟨wc,n,V,c,A',tr',rfl,rfl,hp3,hg⟩:=hrel;have nlt:=hp3.lt;by_cases hz:n=0
    ·subst hz;have DN:=hp3;rw[HP.out]at DN;have RS:=DN.done (dp0:=dp) hr1 (by rw[HDP.out];omega) (by rw[<-HP.out];exact HPN.out) (by rw[<-HP.out];exact HPR.out);obtain⟨m0,hD3⟩:=hp3.dec;have jn:=hD3.Mc;have jf:=hD3.fz 800;have hw8:wc<=800:=by have:=hp3.kept;omega
     have hD4:=Hi (hD3.SF wc hw8 hp3.Bq);have hb4:=Hi (hp3.Ad.setCell (p:=⟨b,800,none⟩) hB (.int .i64 wc));have HRS:=Hi RS;clear hp3 DN RS hD3 hg nlt
     go_wp2_with (go_at_call 240;(with_reducible refine(VC B b A' wc dp1 tr' _ hB hD4).mono ?_))
     rintro e w' ⟨rfl,n,hnw,hlast,hzz,hd5,hb5⟩;have n0:0<n:=by
      apply No;intro h;have h1:=hzz 0 (by omega) HRS.out.pos;have h2:=HRS.out.lead;omega
     have hl:A' (n-1)≠48:=hlast.resolve_left (by omega);have HE:Hid (Rw w B b A nd dp tr k (.returned (.tuple #[])) w'):=Hi ⟨rfl,A',wc,dp1,tr',n,HRS.out,n0,hnw,hl,hzz,by rw[if_neg (by omega)]at hd5;exact hd5,hb4.out.trans hb5⟩;clear hlast hzz hd5 hb5 hl;go_wp2
     go_end0
     exact HE.out
    ·obtain⟨h,rfl,hdv⟩:=hg.resolve_left hz;obtain⟨q,hq⟩:∃q,q=n/PP:=⟨_,rfl⟩;have q1:(n:Int)/(PP:Int)=(q:Int):=by rw[hq];exact(Int.natCast_ediv _ _).symm
     obtain⟨m,hm⟩:∃m,m=n %PP:=⟨_,rfl⟩;have q2:bits .and .u64 (n:Int) (M:Int)=(m:Int):=by rw[HA.out n (by omega),hm]
     have q9:q<=9:=by
      have:=(ad p0).2 nlt;omega
     have mlt:m<PP:=by rw[hm];exact gR _ p0
     have q7:(m:Int)<=1152921504606846976:=by omega
     have np:0<n:=by omega
     have hgh:m*10=0\/∃h',h=h'+1/\2^k∣m*10*2^h':=by
      rw[hm,HP.out];cases h with
      |zero=>rw[Tu hdv];exact .inl rfl
      |succ h'=>exact .inr ⟨h',rfl,Qz hdv⟩
     have HG:=Hi hgh;obtain⟨m0,hD3⟩:=hp3.dec;by_cases hw:wc<800
     ·have jw:=hD3.cell wc hw;have jz:=hD3.fz wc;obtain⟨q48,hq48⟩:∃q48,q48=q+48:=⟨_,rfl⟩;have q3:(q:Int)+48=(q48:Int):=by omega
      have q4:(q48:Int)<=57:=by omega
      have NX:=hp3.next hB p0 hw (q:=q) (n2:=m*10) hq (by rw[<-hm]);rw[<-hq48]at NX;have HNX:=Hi NX;have wi:(wc:Int)<800:=by omega
      clear NX hq hm hq48 mlt nlt hp3 q9 hD3 hg hgh hdv;go_wp2
      go_roundg h
      case measure=>omega
      case rel=>exact⟨wc+1,m*10,_,_,_,_,by go_num,by go_num,HNX.out,HG.out⟩
     ·have jt:=hD3.TU;have jz:=hD3.fz 803;have wi:(800:Int)<=wc:=by omega
      have hb3:=hp3.Ad;by_cases hq0:q=0
      ·have NX:=hp3.drop p0 hw (q:=q) (n2:=m*10) (wr2:=wr) hq (by rw[<-hm]) ⟨m0,by rw[hq0];simpa using hD3⟩ hb3;have HNX:=Hi NX;have z0:¬0<q:=by omega
       clear NX hq hm mlt nlt hp3 q9 hD3 hg hgh hdv hb3;go_wp2
       go_roundg h
       case measure=>omega
       case rel=>exact⟨wc,m*10,_,_,_,_,rfl,by go_num,HNX.out,HG.out⟩
      ·have NX:=hp3.drop p0 hw (q:=q) (n2:=m*10) (wr2:=wr.setCell ⟨b,803,none⟩ (.bool true)) hq (by rw[<-hm]) ⟨m0,by rw[AN hq0,Bool.or_true];exact hD3.SN true⟩ (hb3.setCell (p:=⟨b,803,none⟩) hB _);have HNX:=Hi NX;have z0:0<q:=by omega
       clear NX hq hm mlt nlt hp3 q9 hD3 hg hgh hdv hb3;go_wp2
       go_roundg h
       case measure=>omega
       case rel=>exact⟨wc,m*10,_,_,_,_,rfl,by go_num,HNX.out,HG.out⟩
end Go.Proofs
end
section
namespace Go.Pf
open Go.RowKit
structure Cm where
 A:Nat->Nat
 nd:Nat
 dp:Int
 tr:Bool
structure DY (w:World) (b:Nat) (s:Cm):Prop where
 dec:EF w b s.A s.nd s.dp s.tr
 pos:0<s.nd
 lead:49<=s.A 0
def DD (k:Nat) (s s':Cm):Prop:=∃W,QY s.A s.nd s.dp s.tr k s'.A W s'.dp s'.tr/\0<s'.nd/\s'.nd<=W/\s'.A (s'.nd-1)≠48/\(∀i,s'.nd<=i->i<W->s'.A i=48)
def FD (k:Nat) (s s':Cm):Prop:=∃W,QG s.A s.nd s.dp s.tr k s'.A W s'.dp s'.tr/\0<s'.nd/\s'.nd<=W/\s'.A (s'.nd-1)≠48/\(∀i,s'.nd<=i->i<W->s'.A i=48)
inductive OM:Nat->Cm->Cm->Prop
 |last {k:Nat} {s s':Cm}(h:k<=60) (r:FD k s s'):OM k s s'
 |more {k:Nat} {s t s':Cm}(h:60<k) (r:FD 60 s t) (c:OM (k-60) t s'):OM k s s'
theorem PO {A:Nat->Nat} {nd:Nat}(h0:0<nd) (hA:49<=A 0):∀t,10^t<=Ax A nd (t+1)
 |0=>by rw[Ax,Ax,if_pos h0];simp;omega
 |t+1=>by rw[Ax,gj];have:=PO h0 hA t;omega
theorem FD.dp {k:Nat} {s s':Cm}(h:FD k s s') (hk:k<=60) (h0:0<s.nd) (hA:49<=s.A 0):s'.dp<=s.dp/\s.dp<=s'.dp+20:=by
 obtain⟨W,hs,_⟩:=h;obtain⟨V,c,r,h1,_,_,hd,_,_,_,_,hp⟩:=hs.ex;have hr:r<=21:=by
  apply No;intro hh;obtain⟨t,ht⟩:∃t,r-1=t+1:=⟨r-2,by omega⟩;rw[ht]at hp;have h3:=PO h0 hA t;have h4:(10:Nat)^19<=10^t:=AT (by decide) (by omega);have h5:(2:Nat)^k<=2^60:=AT (by decide) hk;omega
 omega
end Go.Pf
namespace Go.Proofs
open Go.RowKit Go.Pf
theorem ct (B b:Nat) (s:Cm) (k:Nat) (w:World) (hB:B<=b) (hT:Hid (LP w B)) (hD:Hid (DY w b s)) (k1:1<=k) (hk:k<=60) (d1: -100000<=s.dp) (d2:s.dp<=100000):
 Calls Tryz.prog 241 #[.pointer (some ⟨b,0,none⟩),.int .u64 k] w fun e w'=>e= .returned (.tuple #[])/\∃s',DD k s s'/\DY w' b s'/\Below B w w':=by
 refine(UX B b s.A s.nd s.dp s.tr k w hB hT (Hi hD.out.dec) hD.out.pos hD.out.lead k1 hk d1 d2).mono ?_;rintro e w' ⟨rfl,A',W,dp',tr',n,hs,h1,h2,h3,h4,h5,h6⟩;exact⟨rfl,⟨A',n,dp',tr'⟩,⟨W,hs,h1,h2,h3,h4⟩,⟨h5,h1,hs.lead⟩,h6⟩
theorem Zu (B b:Nat) (s:Cm) (k:Nat) (w:World) (hB:B<=b) (hD:Hid (DY w b s)) (k1:1<=k) (hk:k<=60) (d1: -100000<=s.dp) (d2:s.dp<=100000):
 Calls Tryz.prog 242 #[.pointer (some ⟨b,0,none⟩),.int .u64 k] w fun e w'=>e= .returned (.tuple #[])/\∃s',FD k s s'/\DY w' b s'/\Below B w w':=by
 refine(Qe B b s.A s.nd s.dp s.tr k w hB (Hi hD.out.dec) hD.out.pos hD.out.lead k1 hk d1 d2).mono ?_;rintro e w' ⟨rfl,A',W,dp',tr',n,hs,h1,h2,h3,h4,h5,h6⟩;exact⟨rfl,⟨A',n,dp',tr'⟩,⟨W,hs,h1,h2,h3,h4⟩,⟨h5,h1,hs.lead⟩,h6⟩
theorem Uv (B b:Nat) (s:Cm) (k:Nat) (w:World) (hB:B<=b) (hT:Hid (LP w B)) (hD:Hid (DY w b s)) (k1:1<=k) (hk:k<=60) (d1: -100000<=s.dp) (d2:s.dp<=100000):
 Calls Tryz.prog 197 #[.pointer (some ⟨b,0,none⟩),.int .i64 k] w fun e w'=>e= .returned (.tuple #[])/\∃s',DD k s s'/\DY w' b s'/\Below B w w':=by
 have k0:=hD.out.dec.Mc;have n0:((s.nd:Int)==0)=false:=Bn (n:=0) (by have:=hD.out.pos;omega);have C:=Hi (ct B b s k w hB hT hD k1 hk d1 d2);have k2:(k:Int)<=60:=by omega
 have k3:(1:Int)<=k:=by omega
 have k4:0<k:=by omega
 go_enter Tryz.func197,Tryz.ntmps197;go_wp2
 go_loopw [1] (fun kv wr=>kv= .int .i64 k/\wr=w) (fun _ _=>0)
 case atStart=>exact⟨rfl,rfl⟩
 case round=>
  obtain⟨rfl,rfl⟩:=hrel
  go_wp2_with (go_at_call 241;(with_reducible refine C.out.mono ?_))
  rintro e w' ⟨rfl,h⟩;have H:=Hi h;clear h;go_wp2
  go_end0
  exact⟨rfl,H.out⟩
theorem Wf (B b:Nat) (s:Cm) (k:Nat) (w:World) (hB:B<=b) (hD:Hid (DY w b s)) (k1:1<=k) (hk:k<=90000) (d1: -60000<=s.dp) (d2:s.dp<=60000):
 Calls Tryz.prog 197 #[.pointer (some ⟨b,0,none⟩),.int .i64 (-(k:Int))] w fun e w'=>e= .returned (.tuple #[])/\∃s',OM k s s'/\DY w' b s'/\Below B w w':=by
 have k0:=hD.out.dec.Mc;have n0:((s.nd:Int)==0)=false:=Bn (n:=0) (by have:=hD.out.pos;omega);have k2:(k:Int)<=90000:=by omega
 have k3:(1:Int)<=k:=by omega
 have kp:0<k:=by omega
 have kq:¬(k:Int)<0:=by omega
 have kr:(0:Int)<=k:=by omega
 go_enter Tryz.func197,Tryz.ntmps197;go_wp2
 go_loopg [1] k (fun g kv wr=>∃(j:Nat) (t:Cm),g=j/\kv= .int .i64 (-(j:Int))/\1<=j/\j<=k/\DY wr b t/\Below B w wr/\(∀s',OM j t s'->OM k s s')/\t.dp<=s.dp/\3*(s.dp-t.dp)<=((k:Int)-j))
 case atStart=>exact⟨k,s,rfl,rfl,k1,nR _,hD.out,AH _ _,fun _ h=>h,by omega,by omega⟩
 case round=>
  obtain⟨j,t,hgj,rfl,j1,jk,hd,hb,hpre,t1,t2⟩:=hrel;obtain rfl:j=gk:=hgj.symm;have HD:=Hi hd;by_cases hj:60<j
  ·have ji:(60:Int)<j:=by omega
   have C:Hid (Calls Tryz.prog 242 #[.pointer (some ⟨b,0,none⟩),.int .u64 60] wr fun e w'=>e= .returned (.tuple #[])/\∃s',FD 60 t s'/\DY w' b s'/\Below B wr w'):=Hi (Zu B b t 60 wr hB HD (by omega) (by omega) (by omega) (by omega));have HB:=Hi hb;have HPR:=Hi hpre;clear hd hb hpre
   go_wp2_with (go_at_call 242;(with_reducible refine C.out.mono ?_))
   rintro e w' rfl t' hr hd' hb';have hdp:=hr.dp (nR _) HD.out.pos HD.out.lead;have H:=Hi (show DY w' b t'/\Below B w w'/\(∀s',OM (j-60) t' s'->OM k s s')/\t'.dp<=s.dp/\3*(s.dp-t'.dp)<=((k:Int)-((j-60:Nat):Int))from⟨hd',HB.out.trans hb',fun s' c=>HPR.out s' (.more hj hr c),by omega,by omega⟩);clear hr hd' hb' hdp;go_wp2
   go_roundg (j-60)
   case measure=>omega
   case rel=>exact⟨j-60,t',rfl,by(refine congrArg _ ?_;omega),by omega,by omega,H.out⟩
  ·have ji:(j:Int)<=60:=by omega
   have ji1:(1:Int)<=j:=by omega
   have C:=Hi (Zu B b t j wr hB HD j1 (by omega) (by omega) (by omega));have HB:=Hi hb;have HPR:=Hi hpre;clear hd hb hpre
   go_wp2_with (go_at_call 242;(with_reducible refine C.out.mono ?_))
   rintro e w' rfl t' hr hd' hb';have H:=Hi (show∃s',OM k s s'/\DY w' b s'/\Below B w w' from⟨t',HPR.out t' (.last (by omega) hr),hd',HB.out.trans hb'⟩);clear hr hd' hb';go_wp2
   go_end0
   exact⟨rfl,H.out⟩
end Go.Proofs
end
section
namespace Go.Pf
theorem E9 {A:Nat->Nat} {n:Nat}(h0:0<n) (hd:∀i,i<n->A i<=57):num A n/10^(n-1)=A 0-48:=by
 have h1:=Mh n (n-1) hd (by omega);have h2:=LL n hd;have h3:num A n/10^(n-1)<10:=by
  rw[ad (A3 _),So 10,<-gj,show(n-1).succ=n by omega];exact h2
 rw[e8 h3,show n-1-(n-1)=0 by omega]at h1;exact h1
theorem R7 {A:Nat->Nat} {nd:Nat}(hd:∀i,i<nd->A i<=57):∀c,Ax A nd (c+1)<(Ax A nd 1+1)*10^c
 |0=>by simp
 |c+1=>by
  have h1:=R7 hd c;rw[Ax,gj,<-G0];generalize(Ax A nd 1+1)*10^c=Z at*;by_cases h:c+1<nd
  ·have:=hd (c+1) h;rw[if_pos h];omega
  ·rw[if_neg h];omega
theorem FD.mu {k:Nat} {s s':Cm}(h:FD k s s') (k1:1<=k) (hd:∀i,i<s.nd->48<=s.A i/\s.A i<=57) (h0:0<s.nd) (hA:49<=s.A 0):10*s'.dp+(s'.A 0-48:Nat)<10*s.dp+(s.A 0-48:Nat):=by
 obtain⟨W,hs,_⟩:=h;obtain⟨V,c,r,h1,h2,h3,h4,h5,h6,_,h8,_⟩:=hs.ex;have hl:=hs.Bq 0 hs.pos;have hw:=hs.pos;by_cases hr:r=1
 ·subst hr;have e1:Ax s.A s.nd 1=s.A 0-48:=by rw[Ax,Ax,if_pos h0];omega
  have hup:=R7 (fun i hi=>(hd i hi).2) c;rw[e1]at hup h8;rw[<-h3]at hup;have hlead:=E9 hs.pos (fun i hi=>(hs.Bq i hi).2);rw[h6,SO,<-E3,show c-W+(W-1)=c-1 by omega]at hlead;have h9:(s'.A 0-48)*10^(c-1)<=V:=by rw[<-hlead];exact Nat.div_mul_le_self _ _
  have h10:2<=2^k:=by
   have:=AT (n:=2) (by decide) k1;omega
  have h11:V*20<=V*(10*2^k):=dg _ (by omega);have h12:10^c=10^(c-1)*10:=by rw[<-gj,show(c-1).succ=c by omega]
  rw[h12]at hup;have hup2:=IS h11 hup;rw[<-G0]at hup2;clear hup h11 h3;have h13:(s.A 0-48+1)*10^(c-1)<=(s.A 0-48)*2*10^(c-1):=FF _ (by omega);have h14:(s'.A 0-48)*2<(s.A 0-48)*2:=by
   apply cS (a:=10^(c-1));have h15:(s'.A 0-48)*2*10^(c-1)=(s'.A 0-48)*10^(c-1)*2:=Nat.mul_right_comm _ _ _;rw[h15];generalize(s'.A 0-48)*10^(c-1)=X at*;generalize(s.A 0-48+1)*10^(c-1)=Y at*;omega
  omega
 ·omega
theorem DD.mu {k:Nat} {s s':Cm}(h:DD k s s') (k1:1<=k) (hd:∀i,i<s.nd->48<=s.A i/\s.A i<=57) (h0:0<s.nd) (hn:s.nd<=800) (hA:49<=s.A 0):
 10*s.dp+(s.A 0-48:Nat)<10*s'.dp+(s'.A 0-48:Nat)/\s.dp<=s'.dp/\s'.dp<=s.dp+19:=by
 obtain⟨W,hs,_⟩:=h;obtain⟨D,hD,h4,h5,h6,_,_,_⟩:=hs.ex;have hl:=hs.Bq 0 hs.pos;have hl2:=hs.lead;have hh:=hd 0 h0;by_cases hr:D=0
 ·subst hr;have hW:W=s.nd:=by omega
  subst hW;rw[gZ,Nat.sub_self,gf,Nat.div_one]at h6;have e1:=E9 h0 (fun i hi=>(hd i hi).2);have e2:=E9 hs.pos (fun i hi=>(hs.Bq i hi).2);rw[h6]at e2;have h9:num s.A s.nd/10^(s.nd-1)*10^(s.nd-1)<=num s.A s.nd:=Nat.div_mul_le_self _ _;have h10:2<=2^k:=by
   have:=AT (n:=2) (by decide) k1;omega
  have h11:num s.A s.nd*2<=num s.A s.nd*2^k:=dg _ h10;have h12:(s.A 0-48)*2<=s'.A 0-48:=by
   rw[<-e2,gP (A3 _),<-e1,Nat.mul_right_comm];omega
  omega
 ·omega
end Go.Pf
end
section
namespace Go.Pf
def dL (l0:Nat) (J0:Act->World->Prop) (l1:Nat) (J1:Act->World->Prop) (Q:Exit->Act->World->Prop):Exit->Act->World->Prop
 | .goto l,a,w=>(l=l0/\J0 a w)\/(l=l1/\J1 a w)
 |e,a,w=>Q e a w
section
variable {P:Program} {a:Act} {w:World} {Q:Exit->Act->World->Prop}
theorem Ej {c rest0 rest1:Code}(l0 l1:Nat) (hf0:findLabel c l0=some rest0) (hf1:findLabel c l1=some rest1)
 (h:c.wp P (dL l0 (fun a w=>rest0.wp P (Exit.noGoto Q) a w) l1 (fun a w=>rest1.wp P (Exit.jump l0 (fun a w=>rest0.wp P (Exit.noGoto Q) a w) Q) a w) Q) a w):(Code.scope c).wp P Q a w:=by
 intro b k cs;have hg0:gotoIn l0 (.inScope c::k)=some (.code rest0:: .inScope c::k):=by simp[gotoIn,hf0]
 have hg1:gotoIn l1 (.inScope c::k)=some (.code rest1:: .inScope c::k):=by simp[gotoIn,hf1]
 have key0:∀a w,rest0.wp P (Exit.noGoto Q) a w->∃e a' w',Q e a' w'/\Arrives P (lone (b.at a (.code rest0:: .inScope c::k)) cs w) b k cs e a' w':=by
  intro a w h0;obtain⟨e,a₁,w₁,hq,harr⟩:=h0 b (.inScope c::k) cs;cases e with
  |normal=>exact⟨.normal,a₁,w₁,hq,Steps.trans harr (.one step_inScope)⟩
  |exit id=>exact⟨.exit id,a₁,w₁,hq,fun k' hk=>harr k' (by simp[exitTo,hk])⟩
  |goto l'=>exact hq.elim
  |ret=>exact⟨_,a₁,w₁,hq,harr⟩
  |panic ch=>exact⟨_,a₁,w₁,hq,harr⟩
  |outgrown=>exact⟨_,a₁,w₁,hq,harr⟩
 have key1:∀a w,rest1.wp P (Exit.jump l0 (fun a w=>rest0.wp P (Exit.noGoto Q) a w) Q) a w->∃e a' w',Q e a' w'/\Arrives P (lone (b.at a (.code rest1:: .inScope c::k)) cs w) b k cs e a' w':=by
  intro a w h0;obtain⟨e,a₁,w₁,hq,harr⟩:=h0 b (.inScope c::k) cs;cases e with
  |normal=>exact⟨.normal,a₁,w₁,hq,Steps.trans harr (.one step_inScope)⟩
  |exit id=>exact⟨.exit id,a₁,w₁,hq,fun k' hk=>harr k' (by simp[exitTo,hk])⟩
  |goto l'=>
   obtain⟨rfl,hJ'⟩:=hq;obtain⟨e₂,a₂,w₂,hq₂,harr₂⟩:=key0 a₁ w₁ hJ';exact⟨e₂,a₂,w₂,hq₂,.of_steps (harr _ hg0) harr₂⟩
  |ret=>exact⟨_,a₁,w₁,hq,harr⟩
  |panic ch=>exact⟨_,a₁,w₁,hq,harr⟩
  |outgrown=>exact⟨_,a₁,w₁,hq,harr⟩
 obtain⟨e,a₁,w₁,hq,harr⟩:=h b (.inScope c::k) cs;cases e with
 |normal=>exact⟨.normal,a₁,w₁,hq,.head step_scope (Steps.trans harr (.one step_inScope))⟩
 |exit id=>exact⟨.exit id,a₁,w₁,hq,fun k' hk=> .head step_scope (harr k' (by simp[exitTo,hk]))⟩
 |goto l'=>
  rcases hq with⟨rfl,hJ'⟩|⟨rfl,hJ'⟩
  ·obtain⟨e₂,a₂,w₂,hq₂,harr₂⟩:=key0 a₁ w₁ hJ';exact⟨e₂,a₂,w₂,hq₂,.of_steps (.head step_scope (harr _ hg0)) harr₂⟩
  ·obtain⟨e₂,a₂,w₂,hq₂,harr₂⟩:=key1 a₁ w₁ hJ';exact⟨e₂,a₂,w₂,hq₂,.of_steps (.head step_scope (harr _ hg1)) harr₂⟩
 |ret=>exact⟨_,a₁,w₁,hq,.of_steps (.one step_scope) harr⟩
 |panic ch=>exact⟨_,a₁,w₁,hq,.of_steps (.one step_scope) harr⟩
 |outgrown=>exact⟨_,a₁,w₁,hq,.of_steps (.one step_scope) harr⟩
end
end Go.Pf
end
section
namespace Go.Pf
open Go.RowKit
def Ub:List Nat:= [1,3,6,9,13,16,19,23,26]
def pw (d:Int):Nat:=if 9<=d then 27 else Ub.getD d.toNat 1
theorem MS (d:Int):1<=pw d/\pw d<=27:=by
 unfold pw;split
 ·decide
 ·have key:∀n,n<9->1<=Ub.getD n 1/\Ub.getD n 1<=27:=by decide
  by_cases h:d.toNat<9
  ·exact key _ h
  ·rw[SM,gQ (by simp[Ub];omega)];decide
inductive Dn:Cm->Int->Cm->Int->Prop
 |done {s:Cm} {e:Int}(h:s.dp<=0):Dn s e s e
 |step {s t s':Cm} {e e':Int}(h:0<s.dp) (r:OM (pw s.dp) s t) (c:Dn t (e+pw s.dp) s' e'):Dn s e s' e'
def Dt (s:Cm):Prop:=s.dp<0\/s.dp=0/\s.A 0<53
inductive Up:Cm->Int->Cm->Int->Prop
 |done {s:Cm} {e:Int}(h:¬Dt s):Up s e s e
 |step {s t s':Cm} {e e':Int}(h:Dt s) (r:DD (pw (-s.dp)) s t) (c:Up t (e-pw (-s.dp)) s' e'):Up s e s' e'
def JZ (m:Nat) (e:Int):Nat:=(m&&&4503599627370495)|||((e+1023).toNat*4503599627370496)
def Ko (m:Nat) (e:Int):Nat×Bool:=(JZ m (if m&&&4503599627370496=0 then-1023 else e),false)
def Ht (m:Nat) (e:Int):Nat×Bool:=
 if m=9007199254740992 then(if 2047<=e+1+1023 then(JZ 0 1024,true)else Ko 4503599627370496 (e+1))else Ko m e
def FB (s:Cm) (r:Nat×Bool):Prop:=
 if 310<s.dp then r=(JZ 0 1024,true)
 else if s.dp< -330 then r=(JZ 0 (-1023),false)
 else∃s1 e1 s2 e2 s3 e3,Dn s 0 s1 e1/\Up s1 e1 s2 e2/\(if e2-1< -1022 then OM (-1022-(e2-1)).toNat s2 s3/\e3= -1022 else s3=s2/\e3=e2-1)/\
  (if 2047<=e3+1023 then r=(JZ 0 1024,true)else∃s4,DD 53 s3 s4/\r=Ht (Ef s4.A s4.nd s4.tr s4.dp) e3)
theorem OM.dp {k:Nat} {s s':Cm}(h:OM k s s'):0<s.nd->49<=s.A 0->s'.dp<=s.dp/\3*(s.dp-s'.dp)<=k+60:=by
 induction h with
 |last hk r=>
  intro h0 hA;have:=r.dp hk h0 hA;omega
 |more hk r c ih=>
  intro h0 hA;have h1:=r.dp (nR _) h0 hA;obtain⟨W,hs,hp,_⟩:=r;have h2:=ih hp hs.lead;omega
theorem OM.small {k:Nat} {s s':Cm}(h:OM k s s') (hk:k<=60):FD k s s':=by
 cases h with
 |last _ r=>exact r
 |more h2 _ _=>omega
structure NC (w:World) (B:Nat):Prop where
 cM:21<B
 l:LP w B
 p:∃g o c,g<B/\w.cell? ⟨18,0,none⟩=some (.slice (some ⟨g,o,none⟩) 9 c)/\∀i,i<9->w.cell? ⟨g,o+i,none⟩=some (.int .i64 (Ub.getD i 1:Nat))
 i0:w.cell? ⟨16,0,none⟩=some (.int .u64 52)
 i1:w.cell? ⟨16,1,none⟩=some (.int .u64 11)
 i2:w.cell? ⟨16,2,none⟩=some (.int .i64 (-1023))
theorem LP.below {w w':World} {B:Nat}(h:LP w B) (hb:Below B w w'):LP w' B:=by
 obtain⟨g,o,c,h1,h2,h3,h4⟩:=h;exact⟨g,o,c,h1,h2,(hb.cell (p:=⟨12,0,none⟩) h2).trans h3,fun i hi=>⟨(hb.cell (p:=⟨g,o+i*2,none⟩) h1).trans (h4 i hi).1,(hb.cell (p:=⟨g,o+i*2+1,none⟩) h1).trans (h4 i hi).2⟩⟩
theorem NC.below {w w':World} {B:Nat}(h:NC w B) (hb:Below B w w'):NC w' B:=by
 have hl:=h.cM;refine⟨hl,h.l.below hb,?_,(hb.cell (p:=⟨16,0,none⟩) (by show 16<B;omega)).trans h.i0,(hb.cell (p:=⟨16,1,none⟩) (by show 16<B;omega)).trans h.i1,(hb.cell (p:=⟨16,2,none⟩) (by show 16<B;omega)).trans h.i2⟩;obtain⟨g,o,c,h1,h3,h4⟩:=h.p;exact⟨g,o,c,h1,(hb.cell (p:=⟨18,0,none⟩) (by show 18<B;omega)).trans h3,fun i hi=>(hb.cell (p:=⟨g,o+i,none⟩) h1).trans (h4 i hi)⟩
end Go.Pf
end
section
namespace Go.Pf
def dJ (t2 s3:Cm) (e2 e3:Int):Prop:=if e2-1< -1022 then OM (-1022-(e2-1)).toNat t2 s3/\e3= -1022 else s3=t2/\e3=e2-1
theorem Pm (x:Nat) (h:x<=2047):bits .and .i64 (x:Int) 2047=(x:Int):=by
 have:=bits_mask .i64 63 (by decide) (fun n h0 h1=>gV n ⟨by omega,by omega⟩) 11 (by decide) (x:Int) (by omega) (by omega);have e:(2:Int)^11-1=2047:=by decide
 rw[e]at this;rw[this];omega
theorem Kb (m:Nat) (hm:m<18446744073709551616) (e:Int) (h1: -1023<=e) (h2:e<=1023):
 ∃m1 x R:Nat,bits .and .u64 (m:Int) 4503599627370495=(m1:Int)/\e+1023=(x:Int)/\bits .and .i64 (x:Int) 2047=(x:Int)/\bits .or .u64 (m1:Int) ((x:Int)*4503599627370496)=(R:Int)/\R=JZ m e/\x<=2046:=by
 refine⟨m&&&4503599627370495,(e+1023).toNat,JZ m e,u64_and_nat m 4503599627370495 hm (by decide),by omega,Pm _ (by omega),?_,rfl,by omega⟩;have hx:(e+1023).toNat<=2046:=by omega
 have h3:=u64_or_nat (m&&&4503599627370495) ((e+1023).toNat*4503599627370496) (IS Nat.and_le_left hm) (by omega);rw[Int.natCast_mul]at h3;exact h3
theorem YN (m:Nat) (hm:m<18446744073709551616):bits .and .u64 (m:Int) 4503599627370496=((m&&&4503599627370496:Nat):Int):=u64_and_nat m 4503599627370496 hm (by decide)
theorem TC (A:Nat->Nat) (nd:Nat) (tr:Bool) (dp:Int):Ef A nd tr dp<18446744073709551616:=by
 unfold Ef;split
 ·decide
 ·exact gR _ (by decide)
end Go.Pf
end
