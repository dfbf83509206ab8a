import Derived.Test.YtpocgkiamgipdaaGreatDoorTab
import Derived.Laws.BitsAllLaws
import GoSem.PinnedTables
import Derived.Lib.ItoaNum
import Derived.Deep.LoopGhost
set_option maxRecDepth 1000000
set_option maxHeartbeats 0
open Go.Proofs.Tryz
section
namespace Go.Proofs
open Go.RowKit Go.Pf
theorem Ia (n:Int) (w:World):(callFunc 174 #[.int .u64 n]).run prog w= .ok (.value (.float .f64 n.toNat)) w:=by
 rw[run_callFunc_extern func174 (by kernel_rfl) (by kernel_rfl) (by kernel_rfl) (e:=Extern.MathFloatBits.float64frombits) (by kernel_rfl)];rfl
theorem Tn (p:Int) (h1: -400<=p) (h2:p<=400) (w:World):Calls prog 182 #[.int .i64 p] w fun e w'=>e= .returned (.int .i64 (p*108853/32768))/\w=w':=by
 go_enter func182,ntmps182;go_wp2;go_ret;exact⟨rfl,rfl⟩
theorem eQ (b:Bool) (w:World):Calls prog 161 #[.bool b] w fun e w'=>e= .returned (.int .i64 (if b then 1 else 0))/\w=w':=by
 cases b
 all_goals
  go_enter func161,ntmps161;go_wp2;go_ret;exact⟨rfl,rfl⟩
theorem Fg (b:Bool) (w:World):Calls prog 173 #[.bool b] w fun e w'=>e= .returned (.int .u64 (if b then 1 else 0))/\w=w':=by
 cases b
 all_goals
  go_enter func173,ntmps173;go_wp2;go_ret;exact⟨rfl,rfl⟩
theorem iV (w:World):Calls prog 185 #[.int .u64 9007199254740992] w fun e w'=>e= .returned (.int .u64 36028797018963966)/\w=w':=by
 go_enter func185,ntmps185;go_wp2;go_ret;exact⟨rfl,rfl⟩
theorem js (u:Nat) (hu:u<1152921504606846976) (w:World):Calls prog 187 #[.int .u64 u] w fun e w'=>e= .returned (.int .u64 ((u+1+u/4 %2)/4:Nat))/\w=w':=by
 obtain⟨v,hv⟩:∃v,v=u/4:=⟨_,rfl⟩;obtain⟨t,ht⟩:∃t,t=v %2:=⟨_,rfl⟩;have f1:(u:Int)/4=(v:Int):=by omega
 have f2:bits .and .u64 (v:Int) 1=(t:Int):=by
  have:=u64_and_nat v 1 (by omega) (by omega);rw[Nat.and_one_is_mod,<-ht]at this;exact this
 have f3:(t:Int)<=1:=by omega
 have f4:(u:Int)<1152921504606846976:=by omega
 have HR:Hid ((((u+1+u/4 %2)/4:Nat):Int)=((u:Int)+1+(t:Int))/4):=Hi (by omega);clear hv ht;go_enter func187,ntmps187;go_wp2;go_ret;rw[HR.o];exact⟨rfl,rfl⟩
end Go.Proofs
end
section
namespace Go.Pf
def D7 (m:Nat) (e:Int):Nat×Bool:=
 if m&&&4503599627370496=0 then(m,false)
 else if 972<=e then((m&&&9223372036854775808)|||9218868437227405312,true)
 else((m&&&18442240474082181119)|||((1075+e).toNat*4503599627370496),false)
def EY (b:Bool):Value:=if b then .iface 218 (.int .i64 1)else .nilIface
end Go.Pf
namespace Go.Proofs
open Go.RowKit Go.Pf
theorem Ci (n:Nat) (w:World):(callFunc 174 #[.int .u64 (n:Int)]).run prog w= .ok (.value (.float .f64 n)) w:=Ia n w
theorem dP (m:Nat) (x:Int) (hm:m<18446744073709551616) (hx: -1074<=x) (ya:x<=5000) (w:World):
 Calls prog 190 #[.int .u64 m,.int .i64 x] w fun e w'=>e= .returned (.tuple #[.float .f64 (D7 m x).1,EY (D7 m x).2])/\w=w':=by
 have f1:bits .and .u64 (m:Int) 4503599627370496=((m&&&4503599627370496:Nat):Int):=u64_and_nat m 4503599627370496 hm (by decide);obtain⟨a,ha⟩:∃a,a=m&&&4503599627370496:=⟨_,rfl⟩;rw[<-ha]at f1;have HA:=Hi ha;by_cases h0:a=0
 ·have hr:D7 m x=(m,false):=by unfold D7;rw[<-ha,lQ h0]
  rw[hr];have z:((a:Int)==0)=true:=by rw[h0];rfl
  clear h0 ha hr;go_enter func190,ntmps190;go_wp2;rw[Ci,nt];go_wp2;go_ret2;exact⟨rfl,rfl⟩
 ·have z:((a:Int)==0)=false:=DC (n:=0) h0;by_cases h1:972<=x
  ·obtain⟨b,hb⟩:∃b,b=m&&&9223372036854775808:=⟨_,rfl⟩;obtain⟨c,hc⟩:∃c,c=b|||9218868437227405312:=⟨_,rfl⟩;have qM:b<18446744073709551616:=by rw[hb];exact mG Nat.and_le_left hm
   have f2:bits .and .u64 (m:Int) 9223372036854775808=(b:Int):=by rw[hb];exact u64_and_nat m 9223372036854775808 hm (by decide)
   have f3:bits .or .u64 (b:Int) 9218868437227405312=(c:Int):=by rw[hc];exact u64_or_nat b 9218868437227405312 qM (by decide)
   have hr:D7 m x=(c,true):=by unfold D7;rw[<-ha,lL h0,lQ h1,<-hb,<-hc]
   rw[hr];have z2:decide (972<=x)=true:=lU h1;clear h0 ha hr hb hc qM h1;go_enter func190,ntmps190;go_wp2;rw[Ci,nt];go_wp2;go_ret2;exact⟨rfl,rfl⟩
  ·obtain⟨b,hb⟩:∃b,b=m&&&18442240474082181119:=⟨_,rfl⟩;obtain⟨y,hy⟩:∃y:Nat,y=(1075+x).toNat:=⟨_,rfl⟩;obtain⟨c,hc⟩:∃c,c=b|||(y*4503599627370496):=⟨_,rfl⟩;have qM:b<18446744073709551616:=by rw[hb];exact mG Nat.and_le_left hm
   have f0:1075+x=(y:Int):=by omega
   have hy2:(y:Int)<=2046:=by omega
   have f2:bits .andNot .u64 (m:Int) 4503599627370496=(b:Int):=by rw[hb];exact u64_andNot_nat m 4503599627370496 hm (by decide)
   have f3:bits .or .u64 (b:Int) ((y:Int)*4503599627370496)=(c:Int):=by
    rw[hc];have:=u64_or_nat b (y*4503599627370496) qM (by omega);rw[oP]at this;exact this
   have hr:D7 m x=(c,false):=by unfold D7;rw[<-ha,lL h0,lL h1,<-hb,<-hy,<-hc]
   rw[hr];have z2:decide (972<=x)=false:=lO h1;clear h0 ha hr hb hc qM h1 hy;go_enter func190,ntmps190;go_wp2;rw[Ci,nt];go_wp2;go_ret2;exact⟨rfl,rfl⟩
end Go.Proofs
end
section
namespace Go.Pf
def FG (i:Nat):Nat:=(Go.Pinned.pow10Rows.getD i (0,0)).1
def FY (i:Nat):Nat:=(Go.Pinned.pow10Rows.getD i (0,0)).2
def KT (w:World):Prop:=∀i,i<696->w.cell? ⟨18,i*2,none⟩=some (.int .u64 (FG i))/\w.cell? ⟨18,i*2+1,none⟩=some (.int .u64 (FY i))
end Go.Pf
namespace Go.Proofs
open Go.RowKit Go.Pf
theorem PW (b i:Nat) (e p lp:Int) (w:World) (hi:p+348=i) (qN:i<696) (he: -5000<=e) (uS:e<=5000) (hl: -5000<=lp) (uL:lp<=5000) (hb:18<b) (hT:Hid (KT w)){v0 v1 v2:Value}
 (c0:w.cell? ⟨b,0,none⟩=some v0) (c1:w.cell? ⟨b,1,none⟩=some v1) (c2:w.cell? ⟨b,2,none⟩=some v2)
 (f0:w.frozen? ⟨b,0,none⟩=false) (f1:w.frozen? ⟨b,1,none⟩=false) (f2:w.frozen? ⟨b,2,none⟩=false):
 Calls prog 183 #[.pointer (some ⟨b,0,none⟩),.int .i64 e,.int .i64 p,.int .i64 lp] w fun r w'=>r= .returned (.tuple #[])/\w'=((w.setCell ⟨b,0,none⟩ (.int .u64 (FG i))).setCell ⟨b,1,none⟩ (.int .u64 (FY i))).setCell ⟨b,2,none⟩ (.int .i64 (-(e+lp+3))):=by
 obtain⟨t0,t1⟩:=hT.o i qN;have n1:b≠18:=by omega
 have n2:(18:Nat)≠b:=by omega
 go_enter func183,ntmps183;go_wp2
 go_end0
 exact⟨rfl,rfl⟩
end Go.Proofs
end
section
namespace Go.Pf
def Jq (x hi lo k:Nat):Nat:=
 if x*hi/18446744073709551616/2^k*2^k=x*hi/18446744073709551616 then
  ((x*hi/18446744073709551616+18446744073709551616-(if x*hi %18446744073709551616<x*lo/18446744073709551616 then 1 else 0)) %18446744073709551616/2^k)
   |||(if 1<(x*hi %18446744073709551616+18446744073709551616-x*lo/18446744073709551616) %18446744073709551616 then 1 else 0)
 else x*hi/18446744073709551616/2^k|||1
end Go.Pf
namespace Go.Proofs
open Go.RowKit Go.Pf
theorem UJ (k:Nat) (h:k<64):bits .and .i64 (k:Int) 63=(k:Int):=by
 have key:∀k:Fin 64,bits .and .i64 ((k.val:Nat):Int) 63=((k.val:Nat):Int):=by decide
 exact key ⟨k,h⟩
theorem Vq {m:Nat}(a b:Nat) (h1:a<m) (h2:b<m):a*b/m<m:=by
 rw[mY (by omega)];exact mG (mU a (mW h2)) (mA h1 (by omega))
theorem LW {a b:Nat}(ha:a<18446744073709551616) (hb:b<18446744073709551616):IntKind.u64.wrap ((a:Int)-(b:Int))=(((a+18446744073709551616-b) %18446744073709551616:Nat):Int):=by
 rw[IntKind.wrap_u64];omega
theorem FR (k:Nat):((2^k:Nat):Int)=(2:Int)^k:=by rw[Int.natCast_pow];rfl
theorem gE (b x hi lo k:Nat) (w:World) (hx:x<18446744073709551616) (hh:hi<18446744073709551616) (hl:lo<18446744073709551616) (hk:k<64)
 (c0:w.cell? ⟨b,0,none⟩=some (.int .u64 hi)) (c1:w.cell? ⟨b,1,none⟩=some (.int .u64 lo)) (c2:w.cell? ⟨b,2,none⟩=some (.int .i64 k)):
 Calls prog 184 #[.int .u64 x,.pointer (some ⟨b,0,none⟩)] w fun r w'=>∃n,r= .returned (.int .u64 (Jq x hi lo k))/\w'=w.drewN n:=by
 obtain⟨H,hH⟩:∃H,H=x*hi/18446744073709551616:=⟨_,rfl⟩;obtain⟨M,hM⟩:∃M,M=x*hi %18446744073709551616:=⟨_,rfl⟩;obtain⟨M2,hM2⟩:∃M,M=x*lo/18446744073709551616:=⟨_,rfl⟩;obtain⟨L2,hL2⟩:∃M,M=x*lo %18446744073709551616:=⟨_,rfl⟩;obtain⟨Q,hQ⟩:∃Q,Q=H/2^k:=⟨_,rfl⟩;obtain⟨R,hR⟩:∃R,R=Q*2^k:=⟨_,rfl⟩;have bH:H<18446744073709551616:=by rw[hH];exact Vq x hi hx hh
 have bM2:M2<18446744073709551616:=by rw[hM2];exact Vq x lo hx hl
 have bM:M<18446744073709551616:=by rw[hM];exact mw _ (by decide)
 have bQ:Q<=H:=by rw[hQ];exact pN _ _
 have bR:R<=H:=by rw[hR,hQ];exact pj _ _
 have e1:(H:Int)/2^k=(Q:Int):=by rw[hQ,<-FR];exact(Int.natCast_ediv _ _).symm
 have e2:(Q:Int)*2^k=(R:Int):=by rw[hR,oP,FR]
 have e3:=UJ k hk;have C1:Hid (∀W,Calls prog 191 #[.int .u64 x,.int .u64 hi] W fun e w'=>e= .returned (.tuple #[.int .u64 (H:Int),.int .u64 (M:Int)])/\W=w'):=Hi (fun W=>by
  rw[hH,hM];exact(Tryz.bits_Mul64 x hi hx hh W).mono (by rintro e w' ⟨rfl,rfl⟩;exact⟨rfl,rfl⟩))
 have C2:Hid (∀W,Calls prog 191 #[.int .u64 x,.int .u64 lo] W fun e w'=>e= .returned (.tuple #[.int .u64 (M2:Int),.int .u64 (L2:Int)])/\W=w'):=Hi (fun W=>by
  rw[hM2,hL2];exact(Tryz.bits_Mul64 x lo hx hl W).mono (by rintro e w' ⟨rfl,rfl⟩;exact⟨rfl,rfl⟩))
 have hu:Jq x hi lo k=if R=H then((H+18446744073709551616-(if M<M2 then 1 else 0)) %18446744073709551616/2^k)|||(if 1<(M+18446744073709551616-M2) %18446744073709551616 then 1 else 0)else Q|||1:=by
  unfold Jq;rw[<-hH,<-hM,<-hM2,<-hQ,<-hR]
 rw[hu];have HU:=Hi hk;have k0:(k:Int)<=63:=by omega
 clear hu hH hM hM2 hL2 hQ hR hk;by_cases hRH:R=H
 ·rw[lQ hRH];obtain⟨bo,hbo⟩:∃bo:Bool,bo=decide (M<M2):=⟨_,rfl⟩;obtain⟨H2,hH2⟩:∃H2,H2=(H+18446744073709551616-(if M<M2 then 1 else 0)) %18446744073709551616:=⟨_,rfl⟩;obtain⟨D,hD⟩:∃D,D=(M+18446744073709551616-M2) %18446744073709551616:=⟨_,rfl⟩;rw[<-hH2,<-hD];have f1:IntKind.u64.wrap ((H:Int)-(if bo then 1 else 0))=(H2:Int):=by
   rw[hH2,hbo];by_cases h:M<M2
   ·rw[lQ h];have:=LW (a:=H) (b:=1) bH (by decide);rw[<-this,lU h];rfl
   ·rw[lL h];have:=LW (a:=H) (b:=0) bH (by decide);rw[<-this,lO h];rfl
  have f2:IntKind.u64.wrap ((M:Int)-(M2:Int))=(D:Int):=by
   rw[hD];exact LW bM bM2
  obtain⟨bn,wQ⟩:∃bn:Nat,(bn:Int)=if bo then 1 else 0:=by cases bo;exact⟨0,rfl⟩;exact⟨1,rfl⟩
  obtain⟨dd,rr⟩:∃dd:Bool,dd=decide (1<D):=⟨_,rfl⟩;obtain⟨dn,hdn⟩:∃dn:Nat,dn=if 1<D then 1 else 0:=⟨_,rfl⟩;obtain⟨Q2,hQ2⟩:∃Q,Q=H2/2^k:=⟨_,rfl⟩;obtain⟨Z,hZ⟩:∃Z,Z=Q2|||dn:=⟨_,rfl⟩;have C3:Hid (∀W,Calls prog 173 #[.bool bo] W fun e w'=>e= .returned (.int .u64 (bn:Int))/\W=w'):=Hi (fun W=>by rw[wQ];exact Fg bo W);have hdn2:(dn:Int)=if dd then 1 else 0:=by
   rw[hdn,rr];by_cases h:1<D
   ·rw[lQ h,lU h];rfl
   ·rw[lL h,lO h];rfl
  have C4:Hid (∀W,Calls prog 173 #[.bool dd] W fun e w'=>e= .returned (.int .u64 (dn:Int))/\W=w'):=Hi (fun W=>by rw[hdn2];exact Fg dd W);rw[<-wQ]at f1;have bH2:H2<18446744073709551616:=by rw[hH2];exact mw _ (by decide)
  have bQ2:Q2<18446744073709551616:=by rw[hQ2];exact mG (pN _ _) bH2
  have f3:(H2:Int)/2^k=(Q2:Int):=by rw[hQ2,<-FR];exact(Int.natCast_ediv _ _).symm
  have bd:dn<=1:=by rw[hdn];split<;>omega
  have f4:bits .or .u64 (Q2:Int) (dn:Int)=(Z:Int):=by rw[hZ];exact u64_or_nat Q2 dn bQ2 (by omega)
  have f5:decide ((M:Int)<(M2:Int))=bo:=by rw[hbo];congr 1;simp
  have f6:decide ((1:Int)<(D:Int))=dd:=by rw[rr];congr 1;simp;omega
  have f5n:decide (M<M2)=bo:=hbo.symm;have f6n:decide (1<D)=dd:=rr.symm;rw[<-hdn,<-hQ2,<-hZ];clear hH2 hD hbo wQ rr hdn hdn2 hQ2 hZ;subst hRH;go_enter func184,ntmps184
  go_wp2_with ((first|(go_at_call 191;first|(with_reducible refine(C1.o _).mono ?_)|(with_reducible refine(C2.o _).mono ?_))|(go_at_call 173;(with_reducible refine(C3.o _).mono ?_)));rintro e w' ⟨rfl,rfl⟩)
  go_region_with (go_at_call 173;(with_reducible refine(C4.o _).mono ?_);rintro e w' ⟨rfl,rfl⟩)
  all_goals
   go_wp2;go_ret;exact⟨_,rfl,rfl⟩
 ·obtain⟨Z,hZ⟩:∃Z,Z=Q|||1:=⟨_,rfl⟩;have f4:bits .or .u64 (Q:Int) 1=(Z:Int):=by rw[hZ];exact u64_or_nat Q 1 (by omega) (by decide)
  rw[lL hRH,<-hZ];clear hZ;have f5:((R:Int)==(H:Int))=false:=DC hRH;go_enter func184,ntmps184
  go_wp2_with ((first|(go_at_call 191;first|(with_reducible refine(C1.o _).mono ?_)|(with_reducible refine(C2.o _).mono ?_)));rintro e w' ⟨rfl,rfl⟩)
  go_ret;exact⟨0,rfl,rfl⟩
end Go.Proofs
end
section
namespace Go.Pf
def gH (b:Nat) (lp:Int):Int:=min 1074 (53-b-lp)
def jY (b:Nat) (lp:Int):Int:= -(gH b lp-(64-b)+lp+3)
def kK (d:Nat) (p:Int):Nat:=Jq (d*2^(64-Lib.bitLen d)) (FG (p+348).toNat) (FY (p+348).toNat) (jY (Lib.bitLen d) (p*108853/32768)).toNat
def ec (u:Nat) (e:Int):Nat×Bool:=
 if 36028797018963966<=u then D7 (((u/2|||(u&&&1))+1+(u/2|||(u&&&1))/4 %2)/4) (-(e-1))
 else D7 (((u|||(u&&&1))+1+(u|||(u&&&1))/4 %2)/4) (-e)
def cY (d:Nat) (p:Int):Nat×Bool:=
 if 64<=jY (Lib.bitLen d) (p*108853/32768)then(0,false)
 else ec (kK d p) (gH (Lib.bitLen d) (p*108853/32768))
theorem Zz {x hi lo k:Nat}(hh:x*hi/18446744073709551616<18446744073709551616) (hk:8<=k):Jq x hi lo k<2^57:=by
 have key:∀H,H<18446744073709551616->H/2^k<2^57:=by
  intro H h;have h1:H/2^k<=H/2^8:=Nat.div_le_div_left (lX (by decide) hk) (by decide);omega
 unfold Jq;split
 ·refine Nat.or_lt_two_pow (key _ (mw _ (by decide))) ?_;split<;>decide
 ·exact Nat.or_lt_two_pow (key _ hh) (by decide)
theorem ar:Go.Pinned.pow10Rows.all (fun x=>Nat.blt x.1 18446744073709551616&&Nat.blt x.2 18446744073709551616)=true:=by kernel_rfl
theorem dY (i:Nat):FG i<18446744073709551616/\FY i<18446744073709551616:=by
 unfold FG FY;rw[lZ];cases h:Go.Pinned.pow10Rows[i]?with
 |none=>exact⟨by simp,by simp⟩
 |some x=>
  have:=nS.1 ar x (mP h);simp only[mJ,Nat.blt_eq]at this;exact this
theorem Gz {d:Nat}(h0:d≠0) (h:d<18446744073709551616):1<=Lib.bitLen d/\Lib.bitLen d<=64/\d*2^(64-Lib.bitLen d)<18446744073709551616:=by
 have h1:=Lib.bitLenAux_bounds 64 d h h0;have h2:=Lib.bitLenAux_le 64 d 64 h;refine⟨h1.1,h2,?_⟩;have h3:d*2^(64-Lib.bitLen d)<2^Lib.bitLen d*2^(64-Lib.bitLen d):=mA h1.2.2 (lj _);rw[<-lW]at h3;have h4:Lib.bitLen d+(64-Lib.bitLen d)=64:=by have:Lib.bitLen d<=64:=h2;omega
 rw[h4]at h3;exact h3
end Go.Pf
namespace Go.Proofs
open Go.RowKit Go.Pf
theorem _root_.Go.Pf.KT.below {w w':World} {B:Nat}(h:KT w) (hb:Below B w w') (h16:18<B):KT w':=by
 intro i hi;have e:=hb.block 18 h16;have k:=h i hi;exact⟨(oQ (a:=⟨18,i*2,none⟩) e).trans k.1,(oQ (a:=⟨18,i*2+1,none⟩) e).trans k.2⟩
def fu (r:Nat×Bool) (w:World) (e:Ending) (w':World):Prop:=e= .returned (.tuple #[.float .f64 r.1,EY r.2])/\Below w.heap.size w w'
theorem Hx (d:Nat) (p:Int) (w:World) (h0:d≠0) (hd:d<18446744073709551616) (hp: -345<=p) (qj:p<=310) (hT:Hid (KT w)) (h16:18<w.heap.size):
 Calls prog 176 #[.int .u64 d,.int .i64 p,.int .u64 0] w (fu (cY d p) w):=by
 obtain⟨b,hb⟩:∃b,b=Lib.bitLen d:=⟨_,rfl⟩;obtain⟨lp,vl⟩:∃lp,lp=p*108853/32768:=⟨_,rfl⟩;obtain⟨ee,hee⟩:∃ee,ee=gH b lp:=⟨_,rfl⟩;obtain⟨ss,zI⟩:∃ss,ss=jY b lp:=⟨_,rfl⟩;obtain⟨i,hi⟩:∃i:Nat,i=(p+348).toNat:=⟨_,rfl⟩;have B:=Gz h0 hd;rw[<-hb]at B;obtain⟨b1,b64,bx⟩:=B;have hr:cY d p=if 64<=ss then(0,false)else ec (Jq (d*2^(64-b)) (FG i) (FY i) ss.toNat) ee:=by
  unfold cY kK;rw[<-hb,<-vl,<-zI,<-hee,<-hi]
 rw[hr];have hpi:p+348=(i:Int):=by omega
 have qN:i<696:=by omega
 have l1: -1147<=lp:=by omega
 have l2:lp<=1030:=by omega
 have q1:ss= -(ee-(64-(b:Int))+lp+3):=by rw[zI,hee];rfl
 have q2:ee<=1074:=by rw[hee];unfold gH;omega
 have q3: -2000<=ee:=by rw[hee];unfold gH;omega
 have q4:ee<=53-(b:Int)-lp:=by rw[hee];unfold gH;omega
 have q5:8<=ss:=by omega
 have q6:min (1074:Int) (53-(b:Int)-lp)=ee:=by rw[hee];rfl
 have CL:Hid (∀W,Calls prog 160 #[.int .u64 (d:Int)] W fun e w'=>e= .returned (.int .i64 (b:Int))/\W=w'):=Hi (fun W=>by
  rw[hb];exact(Tryz.bits_Len64 d W (by omega) (by omega)).mono (by rintro e w' ⟨rfl,rfl⟩;exact⟨rfl,rfl⟩))
 have CP:Hid (∀W,Calls prog 182 #[.int .i64 p] W fun e w'=>e= .returned (.int .i64 lp)/\W=w'):=Hi (fun W=>by
  rw[vl];exact Tn p (by omega) (by omega) W)
 obtain⟨j,hj⟩:∃j,j=64-b:=⟨_,rfl⟩;obtain⟨x,hx⟩:∃x,x=d*2^(64-b):=⟨_,rfl⟩;rw[<-hx]at bx;have j1:(64:Int)-(b:Int)=(j:Int):=by omega
 have j2:(d:Int)*2^j=(x:Int):=by rw[hx,<-hj,oP,FR]
 have j3:(j:Int)<=63:=by omega
 rw[j1]at q1;have HX:=Hi hx;rw[<-hx];clear hr hb vl hee zI hi hx hj;have z0:bits .or .u64 0 0=0:=by decide
 by_cases h64:64<=ss
 ·rw[lQ h64];go_enter func176,ntmps176
  go_wp2_with ((first|(go_at_call 160;(with_reducible refine(CL.o _).mono ?_))|(go_at_call 182;(with_reducible refine(CP.o _).mono ?_)));rintro e w' ⟨rfl,rfl⟩)
  generalize hW:w.alloc _=W1;have c0:W1.cell? ⟨w.heap.size,0,none⟩=some (.int .u64 0):=by subst hW;go_simp
  have c1:W1.cell? ⟨w.heap.size,1,none⟩=some (.int .u64 0):=by subst hW;go_simp
  have c2:W1.cell? ⟨w.heap.size,2,none⟩=some (.int .i64 0):=by subst hW;go_simp
  have f0:W1.frozen? ⟨w.heap.size,0,none⟩=false:=by subst hW;go_simp
  have f1:W1.frozen? ⟨w.heap.size,1,none⟩=false:=by subst hW;go_simp
  have f2:W1.frozen? ⟨w.heap.size,2,none⟩=false:=by subst hW;go_simp
  have bl:Below w.heap.size w W1:=by subst hW;exact Bzz _
  have hT1:=Hi (hT.o.below bl h16);clear hW
  go_wp2_with (go_at_call 183;(with_reducible refine(PW w.heap.size i _ p lp W1 hpi qN (by omega) (by omega) (by omega) (by omega) h16 hT1 c0 c1 c2 f0 f1 f2).mono ?_);rintro e w' ⟨rfl,rfl⟩)
  rw[Ia,nt];go_wp2;go_ret2;refine⟨rfl,?_⟩
  iterate 3 refine Below.setCell ?_ (by simp) _
  exact bl
 ·rw[lL h64];obtain⟨k,hk⟩:∃k:Nat,k=ss.toNat:=⟨_,rfl⟩;have k1:ss=(k:Int):=by omega
  have k64:k<64:=by omega
  have k8:8<=k:=by omega
  obtain⟨hh,hhh⟩:∃h,h=FG i:=⟨_,rfl⟩;obtain⟨lo,zH⟩:∃h,h=FY i:=⟨_,rfl⟩;have PL:=dY i;rw[<-hhh,<-zH]at PL;obtain⟨u,hu⟩:∃u,u=Jq x hh lo k:=⟨_,rfl⟩;have u57:u<2^57:=by rw[hu];exact Zz (Vq x hh bx PL.1) k8
  have q7: -(ee-(j:Int)+lp+3)=(k:Int):=by omega
  have zs:=Hi (fun W1 h1 h2 h3 h4 h5 h6 h7=>PW w.heap.size i (ee-(j:Int)) p lp W1 hpi qN (by omega) (by omega) (by omega) (by omega) h16 h1 (v0:= .int .u64 0) (v1:= .int .u64 0) (v2:= .int .i64 0) h2 h3 h4 h5 h6 h7);rw[<-hhh,<-zH]at zs;rw[q7]at zs;have CU:=Hi (fun W c0 c1 c2=>gE w.heap.size x hh lo k W bx PL.1 PL.2 k64 c0 c1 c2);rw[<-hu]at CU;rw[<-hhh,<-zH,<-hk,<-hu];clear hhh zH hu hk;obtain⟨u1,hu1⟩:∃u1,u1=u&&&1:=⟨_,rfl⟩;have g1:bits .and .u64 (u:Int) 1=(u1:Int):=by rw[hu1];exact u64_and_nat u 1 (by omega) (by decide)
  have u1b:u1<=1:=by rw[hu1];exact Nat.and_le_right
  obtain⟨v,hv⟩:∃v,v=(if 36028797018963966<=u then u/2 else u):=⟨_,rfl⟩;obtain⟨tt,sU⟩:∃tt:Int,tt=(if 36028797018963966<=u then 1 else 0):=⟨_,rfl⟩;obtain⟨cc,uY⟩:∃cc:Bool,cc=decide (36028797018963966<=u):=⟨_,rfl⟩;obtain⟨u2,hu2⟩:∃u2,u2=v|||u1:=⟨_,rfl⟩;have vb:v<2^57:=by rw[hv];split<;>omega
  have u2b:u2<2^57:=by rw[hu2];exact Nat.or_lt_two_pow vb (mG u1b (by decide))
  have g2:bits .or .u64 (v:Int) (u1:Int)=(u2:Int):=by rw[hu2];exact u64_or_nat v u1 (by omega) (by omega)
  obtain⟨m,hm⟩:∃m,m=(u2+1+u2/4 %2)/4:=⟨_,rfl⟩;have mb:m<18446744073709551616:=by omega
  have g3:bits .or .u64 0 (m:Int)=(m:Int):=by
   have:=u64_or_nat 0 m (by decide) mb;rw[Nat.zero_or]at this;exact this
  have g4:decide ((36028797018963966:Int)<=(u:Int))=cc:=by rw[uY];congr 1;simp;omega
  have g5:decide (36028797018963966<=u)=cc:=uY.symm;have g6:(u:Int)/2^tt.toNat=(v:Int):=by
   rw[hv,sU];split
   ·show(u:Int)/2^1=_;omega
   ·show(u:Int)/2^0=_;omega
  have tb:0<=tt/\tt<=1:=by rw[sU];split<;>omega
  have C1:Hid (∀W,Calls prog 161 #[.bool cc] W fun e w'=>e= .returned (.int .i64 tt)/\W=w'):=Hi (fun W=>by
   refine(eQ cc W).mono ?_;rintro e w' ⟨rfl,rfl⟩;refine⟨?_,rfl⟩;rw[sU,uY];by_cases h:36028797018963966<=u
   ·rw[lQ h,lU h];rfl
   ·rw[lL h,lO h];rfl)
  have C2:Hid (∀W,Calls prog 187 #[.int .u64 (u2:Int)] W fun e w'=>e= .returned (.int .u64 (m:Int))/\W=w'):=Hi (fun W=>by rw[hm];exact js u2 (by omega) W);have sV:ec u ee=D7 m (-(ee-tt)):=by
   unfold ec;rw[<-hu1,hm,hu2,hv,sU];split
   ·rfl
   ·rw[Int.sub_zero]
  rw[sV];have C3:Hid (∀W,Calls prog 190 #[.int .u64 (m:Int),.int .i64 (-(ee-tt))] W fun e w'=>e= .returned (.tuple #[.float .f64 (D7 m (-(ee-tt))).1,EY (D7 m (-(ee-tt))).2])/\W=w'):=Hi (fun W=>dP m _ mb (by omega) (by omega) W);obtain⟨pk,hpk⟩:∃pk,pk=D7 m (-(ee-tt)):=⟨_,rfl⟩;rw[<-hpk]at C3⊢;have e1: -5000<=ee-tt:=by omega
  have e2:ee-tt<=5000:=by omega
  have kk:¬64<=k:=by omega
  have kk2:decide ((64:Int)<=(k:Int))=false:=Ej;have xb:(x:Int)<=18446744073709551615:=by omega
  have t1:=tb.1;have t2:=tb.2;clear sV hpk hm mb hu2 vb u2b uY sU hv hu1 u1b tb u57 q1 q2 q3 q4 q5 PL bx k64 k8 h64;go_enter func176,ntmps176
  go_wp2_with ((first|(go_at_call 160;(with_reducible refine(CL.o _).mono ?_))|(go_at_call 182;(with_reducible refine(CP.o _).mono ?_)));rintro e w' ⟨rfl,rfl⟩)
  generalize hW:w.alloc _=W1;have c0:W1.cell? ⟨w.heap.size,0,none⟩=some (.int .u64 0):=by subst hW;go_simp
  have c1:W1.cell? ⟨w.heap.size,1,none⟩=some (.int .u64 0):=by subst hW;go_simp
  have c2:W1.cell? ⟨w.heap.size,2,none⟩=some (.int .i64 0):=by subst hW;go_simp
  have f0:W1.frozen? ⟨w.heap.size,0,none⟩=false:=by subst hW;go_simp
  have f1:W1.frozen? ⟨w.heap.size,1,none⟩=false:=by subst hW;go_simp
  have f2:W1.frozen? ⟨w.heap.size,2,none⟩=false:=by subst hW;go_simp
  have bl:Below w.heap.size w W1:=by subst hW;exact Bzz _
  have hT1:=Hi (hT.o.below bl h16);clear hW
  go_wp2_with ((first|(go_at_call 183;(with_reducible refine(zs.o W1 hT1 c0 c1 c2 f0 f1 f2).mono ?_)));rintro e w' ⟨rfl,rfl⟩)
  generalize hW2:((W1.setCell _ _).setCell _ _).setCell _ _=W2;have d0:W2.cell? ⟨w.heap.size,0,none⟩=some (.int .u64 hh):=by subst hW2;go_simp
  have d1:W2.cell? ⟨w.heap.size,1,none⟩=some (.int .u64 lo):=by subst hW2;go_simp
  have d2:W2.cell? ⟨w.heap.size,2,none⟩=some (.int .i64 k):=by subst hW2;go_simp
  have sY:Below w.heap.size w W2:=by
   subst hW2
   iterate 3 refine Below.setCell ?_ (by simp) _
   exact bl
  clear hW2 c0 c1 c2 f0 f1 f2 bl
  go_wp2_with (go_at_call 184;(with_reducible refine(CU.o W2 d0 d1 d2).mono ?_);rintro e w' ⟨n,rfl,rfl⟩)
  go_wp2_with ((first|(go_at_call 185;(with_reducible refine(iV _).mono ?_))|(go_at_call 161;(with_reducible refine(C1.o _).mono ?_))|(go_at_call 187;(with_reducible refine(C2.o _).mono ?_))|(go_at_call 190;(with_reducible refine(C3.o _).mono ?_)));rintro e w' ⟨rfl,rfl⟩)
  go_ret2;exact⟨rfl,sY.trans ⟨rfl,rfl,rfl,nR _,fun _ _=>rfl⟩⟩
end Go.Proofs
end
section
namespace Go.Pf
def num (A:Nat->Nat):Nat->Nat
 |0=>0
 |n+1=>num A n*10+(A n-48)
structure Eg (w:World) (b:Nat) (A:Nat->Nat) (nd:Nat) (dp:Int) (tr:Bool):Prop where
 le:nd<=800
 Ca:∀i,i<nd->48<=A i/\A i<=57
 cell:∀i,i<800->w.cell? ⟨b,i,none⟩=some (.int .u8 (A i:Nat))
 MA:w.cell? ⟨b,800,none⟩=some (.int .i64 nd)
 P5:w.cell? ⟨b,801,none⟩=some (.int .i64 dp)
 Vi:w.cell? ⟨b,802,none⟩=some (.bool false)
 UW:w.cell? ⟨b,803,none⟩=some (.bool tr)
 fz:∀i,w.frozen? ⟨b,i,none⟩=false
theorem other {w:World} {b i j:Nat} {v u:Value}(hc:w.cell? ⟨b,j,none⟩=some v) (h:i≠j):(w.setCell ⟨b,i,none⟩ u).cell? ⟨b,j,none⟩=some v:=by
 rw[oV (h:=fun e=>h (mQ Addr.off e)),hc]
theorem DO {w:World} {b i:Nat} {v u:Value}(hc:w.cell? ⟨b,i,none⟩=some v):(w.setCell ⟨b,i,none⟩ u).cell? ⟨b,i,none⟩=some u:=by
 exact World.cell?_setCell_same _ _ _ hc
theorem Eg.same {w w':World} {b:Nat} {A:Nat->Nat} {nd:Nat} {dp:Int} {tr:Bool}(h:Eg w b A nd dp tr) (e:w'.heap=w.heap):Eg w' b A nd dp tr:=by
 have c:∀a,w'.cell? a=w.cell? a:=fun a=>oQ (by rw[e]);have f:∀a,w'.frozen? a=w.frozen? a:=fun a=>World.frozen?_of_block (by rw[e]);exact⟨h.le,h.Ca,fun i hi=>(c _).trans (h.cell i hi),(c _).trans h.MA,(c _).trans h.P5,(c _).trans h.Vi,(c _).trans h.UW,fun i=>(f _).trans (h.fz i)⟩
theorem Eg.SW {w:World} {b:Nat} {A:Nat->Nat} {nd:Nat} {dp:Int} {tr:Bool}(h:Eg w b A nd dp tr) (n:Nat) (hn:n<=800) (hd:∀i,i<n->48<=A i/\A i<=57):
 Eg (w.setCell ⟨b,800,none⟩ (.int .i64 n)) b A n dp tr:=
 ⟨hn,hd,fun i hi=>other (h.cell i hi) (by omega),DO h.MA,other h.P5 (by decide),other h.Vi (by decide),other h.UW (by decide),fun i=>by rw[oY];exact h.fz i⟩
theorem Eg.F1 {w:World} {b:Nat} {A:Nat->Nat} {nd:Nat} {dp:Int} {tr:Bool}(h:Eg w b A nd dp tr) (x:Int):
 Eg (w.setCell ⟨b,801,none⟩ (.int .i64 x)) b A nd x tr:=
 ⟨h.le,h.Ca,fun i hi=>other (h.cell i hi) (by omega),other h.MA (by decide),DO h.P5,other h.Vi (by decide),other h.UW (by decide),fun i=>by rw[oY];exact h.fz i⟩
theorem Eg.Sh {w:World} {b:Nat} {A:Nat->Nat} {nd:Nat} {dp:Int} {tr:Bool}(h:Eg w b A nd dp tr) (x:Bool):
 Eg (w.setCell ⟨b,803,none⟩ (.bool x)) b A nd dp x:=
 ⟨h.le,h.Ca,fun i hi=>other (h.cell i hi) (by omega),other h.MA (by decide),other h.P5 (by decide),other h.Vi (by decide),DO h.UW,fun i=>by rw[oY];exact h.fz i⟩
theorem Eg.Nf {w:World} {b:Nat} {A:Nat->Nat} {nd:Nat} {dp:Int} {tr:Bool}(h:Eg w b A nd dp tr) (k v:Nat) (hk:k<800) (n:Nat) (hn:n=nd) (hd:∀i,i<n->i≠k->48<=A i/\A i<=57) (hv:k<n->48<=v/\v<=57):
 Eg (w.setCell ⟨b,k,none⟩ (.int .u8 (v:Nat))) b (fun i=>if i=k then v else A i) nd dp tr:=by
 subst hn;refine⟨h.le,fun i hi=> ?_,fun i hi=> ?_,other h.MA (by omega),other h.P5 (by omega),other h.Vi (by omega),other h.UW (by omega),fun i=>by rw[oY];exact h.fz i⟩
 ·by_cases e:i=k
  ·subst e;simp only[lQ];exact hv hi
  ·simp only[lL e];exact hd i hi e
 ·by_cases e:i=k
  ·subst e;simp only[lQ];exact DO (h.cell i hi)
  ·simp only[lL e];exact other (h.cell i hi) (Ne.symm e)
end Go.Pf
namespace Go.Proofs
open Go.RowKit Go.Pf
theorem BG {B n:Nat} {a w:World}(h:Below B a w):Below B a (w.drewN n):=h.trans ⟨rfl,rfl,rfl,nR _,fun _ _=>rfl⟩
def UQ (w:World) (B b:Nat) (A:Nat->Nat) (nd:Nat) (dp:Int) (tr:Bool) (e:Ending) (w':World):Prop:=
 e= .returned (.tuple #[])/\∃n,n<=nd/\(n=0\/A (n-1)≠48)/\(∀i,n<=i->i<nd->A i=48)/\Eg w' b A n (if n=0 then 0 else dp) tr/\Below B w w'
theorem YH (B b:Nat) (A:Nat->Nat) (nd:Nat) (dp:Int) (tr:Bool) (w:World) (hB:B<=b) (hD:Hid (Eg w b A nd dp tr)):
 Calls prog 196 #[.pointer (some ⟨b,0,none⟩)] w (UQ w B b A nd dp tr):=by
 go_enter func196,ntmps196;go_wp2
 go_loopg [] nd (fun g wr=>∃n,n=g/\n<=nd/\Hid (Eg wr b A n dp tr)/\(∀i,n<=i->i<nd->A i=48)/\Below B w wr)
 case atStart=>exact⟨nd,rfl,nR _,hD,fun i h1 h2=>by omega,Below.refl _ _⟩
 case round=>
  obtain⟨n,rfl,hn,hd,hz,qV⟩:=hrel;have k0:=hd.o.MA;have k1:=hd.o.fz 800;have k2:=hd.o.P5;have k3:=hd.o.fz 801;have HZ:=Hi hz;have HB:=Hi qV;clear hz qV;by_cases h0:n=0
  ·subst h0;go_wp2
   go_quiet (fail)
   go_wp2
   go_end0
   have qR:Eg (wr.drewN nq) b A 0 dp tr:=hd.o.same rfl;exact⟨rfl,0,mK _,.inl rfl,HZ.o,qR.F1 0,(BG HB.o).setCell (p:=⟨b,801,none⟩) hB _⟩
  ·obtain⟨m,rfl⟩:∃m,n=m+1:=⟨n-1,by omega⟩;have mn:m<800:=by have:=hd.o.le;omega
   have mi:(m:Int)<800:=by omega
   have cm:=hd.o.cell m mn;have fm:=hd.o.fz m;by_cases h48:A m=48
   ·have a1:((A m:Int)==48)=true:=Pv (n:=48) h48;have zY:=Hi h48;clear h48;go_wp2
    go_quiet (fail)
    go_wp2;have qR:Eg (wr.drewN nq) b A (m+1) dp tr:=hd.o.same rfl;have uA:=Hi (qR.SW m (by omega) (fun i hi=>qR.Ca i (by omega)));clear qR
    go_roundg m
    case measure=>omega
    case rel=>
     refine⟨m,rfl,by omega,uA,fun i h1 h2=> ?_,(BG HB.o).setCell (p:=⟨b,800,none⟩) hB _⟩;by_cases e:i=m
     ·subst e;exact zY.o
     ·exact HZ.o i (by omega) h2
   ·have a1:((A m:Int)==48)=false:=DC (n:=48) h48;have zY:=Hi h48;clear h48;go_wp2
    go_quiet (fail)
    go_wp2
    go_end0
    exact⟨rfl,m+1,hn,.inr zY.o,HZ.o,hd.o.same rfl,BG HB.o⟩
end Go.Proofs
end
section
namespace Go.Pf
def E7 (A:Nat->Nat) (nd:Nat) (tr:Bool) (n:Int):Bool:=
 if n<0\/(nd:Int)<=n then false
 else if A n.toNat=53/\n.toNat+1=nd then(tr||(decide (0<n.toNat)&&decide ((A (n.toNat-1)-48) %2≠0)))
 else decide (53<=A n.toNat)
def A8 (A:Nat->Nat) (nd:Nat):Nat->Nat
 |0=>0
 |t+1=>A8 A nd t*10+(if t<nd then A t-48 else 0)
def EG (A:Nat->Nat) (nd:Nat) (tr:Bool) (dp:Int):Nat:=
 if 20<dp then 18446744073709551615
 else(A8 A nd dp.toNat+(if E7 A nd tr dp then 1 else 0)) %18446744073709551616
theorem NP (x c:Nat):((x %18446744073709551616*10) %18446744073709551616+c) %18446744073709551616=(x*10+c) %18446744073709551616:=by omega
end Go.Pf
namespace Go.Proofs
open Go.RowKit Go.Pf
theorem Lt (b:Nat) (A:Nat->Nat) (nd:Nat) (dp:Int) (tr:Bool) (n:Int) (w:World) (hD:Hid (Eg w b A nd dp tr)) (h1: -100000<=n) (h2:n<=100000):
 Calls prog 194 #[.pointer (some ⟨b,0,none⟩),.int .i64 n] w fun e w'=>e= .returned (.bool (E7 A nd tr n))/\w=w':=by
 have k0:=hD.o.MA;have k1:=hD.o.UW;have kle:=hD.o.le;by_cases hn:n<0
 ·have hr:E7 A nd tr n=false:=by unfold E7;rw[lQ (.inl hn)]
  rw[hr];clear hr;go_enter func194,ntmps194;go_wp2;go_ret;exact⟨rfl,rfl⟩
 ·obtain⟨m,rfl⟩:∃m:Nat,n=m:=⟨n.toNat,by omega⟩;by_cases hm:nd<=m
  ·have hr:E7 A nd tr m=false:=by unfold E7;rw[lQ (.inr (by omega))]
   rw[hr];clear hr;go_enter func194,ntmps194;go_wp2;go_ret;exact⟨rfl,rfl⟩
  ·have mlt:m<nd:=by omega
   have m8:m<800:=by omega
   have cm:=hD.o.cell m m8;have dm:=hD.o.Ca m mlt;have qO:E7 A nd tr m=if A m=53/\m+1=nd then(tr||(decide (0<m)&&decide ((A (m-1)-48) %2≠0)))else decide (53<=A m):=by
    unfold E7;rw[lL (by omega)];rfl
   by_cases h53:A m=53
   ·have a1:((A m:Int)==53)=true:=Pv (n:=53) h53;by_cases hl:m+1=nd
    ·rw[lQ ⟨h53,hl⟩]at qO;have a2:(((m:Int)+1)==(nd:Int))=true:=by rw[<-hl];simp
     cases tr with
     |true=>
      rw[qO];clear qO h53;subst hl;go_enter func194,ntmps194;go_wp2;go_ret;exact⟨rfl,rfl⟩
     |false=>
      by_cases h0:m=0
      ·subst h0;have:E7 A nd false (0:Nat)=false:=by rw[qO];simp
       rw[this];clear qO h53 this;subst hl;go_enter func194,ntmps194;go_wp2;go_ret;exact⟨rfl,rfl⟩
      ·obtain⟨j,hj⟩:∃j,j=m-1:=⟨_,rfl⟩;have cj:=hD.o.cell j (by omega);have dj:=hD.o.Ca j (by omega);obtain⟨x,hx⟩:∃x:Nat,x=A j-48:=⟨_,rfl⟩;have x1:(A j:Int)-48=(x:Int):=by omega
       have x9:(x:Int)<=9:=by omega
       have hs:E7 A nd false (m:Int)=decide (x %2≠0):=by rw[qO,<-hj,<-hx];simp;omega
       rw[hs];have mi:(j:Int)<800:=by omega
       have mj1:(m:Int)-1=(j:Int):=by omega
       have mj2:m-1=j:=hj.symm;have mp:0<m:=by omega
       clear qO h53 hs hx hj;by_cases hp:x %2=0
       ·have p1:(x:Int) %2=0:=by omega
        rw[lO (by omega)];clear hp;go_enter func194,ntmps194;go_wp2;go_ret;exact⟨rfl,rfl⟩
       ·have p1:(x:Int) %2=1:=by omega
        rw[lU hp];clear hp;go_enter func194,ntmps194;go_wp2;go_ret;exact⟨rfl,rfl⟩
    ·rw[lL (fun h=>hl h.2)]at qO;have a2:(((m:Int)+1)==(nd:Int))=false:=by rw[nD];intro h;have:=eq_of_beq h;omega
     have:E7 A nd tr m=true:=by rw[qO];simp;omega
     rw[this];have a3:(53:Int)<=(A m:Int):=by omega
     clear qO h53 this;go_enter func194,ntmps194;go_wp2;go_ret;exact⟨rfl,rfl⟩
   ·have a1:((A m:Int)==53)=false:=DC (n:=53) h53;rw[lL (fun h=>h53 h.1)]at qO;have a3:decide ((53:Int)<=(A m:Int))=decide (53<=A m):=by congr 1;simp;omega
    rw[qO];clear qO h53;go_enter func194,ntmps194;go_wp2;go_ret;exact⟨rfl,rfl⟩
theorem Kn (b:Nat) (A:Nat->Nat) (nd:Nat) (dp:Int) (tr:Bool) (w:World) (hD:Hid (Eg w b A nd dp tr)) (h1: -100000<=dp) (h2:dp<=100000):
 Calls prog 189 #[.pointer (some ⟨b,0,none⟩)] w fun e w'=>e= .returned (.int .u64 (EG A nd tr dp:Nat))/\w=w':=by
 have k0:=hD.o.MA;have k1:=hD.o.P5;have kle:=hD.o.le;by_cases h20:20<dp
 ·have hr:EG A nd tr dp=18446744073709551615:=by unfold EG;rw[lQ h20]
  rw[hr];clear hr;go_enter func189,ntmps189;go_wp2;go_ret;exact⟨rfl,rfl⟩
 ·have hr:EG A nd tr dp=(A8 A nd dp.toNat+(if E7 A nd tr dp then 1 else 0)) %18446744073709551616:=by unfold EG;rw[lL h20]
  rw[hr];clear hr;obtain⟨sr,hsr⟩:∃sr,sr=E7 A nd tr dp:=⟨_,rfl⟩;have CS:Hid (∀W,w=W->Calls prog 194 #[.pointer (some ⟨b,0,none⟩),.int .i64 dp] W fun e w'=>e= .returned (.bool sr)/\W=w'):=Hi (fun W hW=>by subst hW;rw[hsr];exact Lt b A nd dp tr dp w hD h1 h2);rw[<-hsr];obtain⟨X,hX⟩:∃X,X=A8 A nd dp.toNat:=⟨_,rfl⟩;have HX:=Hi hX;rw[<-hX];obtain⟨R,hR⟩:∃R,R=(X+if sr=true then 1 else 0) %18446744073709551616:=⟨_,rfl⟩;have HR:=Hi hR;rw[<-hR];clear hsr hX hR;go_enter func189,ntmps189;go_wp2
  go_loop [3,4] (fun iv nv=>∃(i n:Nat),iv= .int .i64 i/\nv= .int .u64 n/\n=A8 A nd i %18446744073709551616/\(i:Int)<=max 0 dp/\i<=nd) (fun iv _=>1000-(intOf iv).toNat)
  case atStart=>exact⟨0,0,rfl,rfl,rfl,by omega,by omega⟩
  case round=>
   obtain⟨i,n,rfl,rfl,hn,hi,hid⟩:=hrel;by_cases hc:(i:Int)<dp/\i<nd
   ·obtain⟨c1,c2⟩:=hc;have i8:i<800:=by omega
    have ci:=hD.o.cell i i8;have di:=hD.o.Ca i c2;obtain⟨c,uY⟩:∃c,c=A i-48:=⟨_,rfl⟩;have x1:(A i:Int)-48=(c:Int):=by omega
    have x9:(c:Int)<=9:=by omega
    obtain⟨n1,tQ⟩:∃n1,n1=n*10 %18446744073709551616:=⟨_,rfl⟩;obtain⟨n2,sy⟩:∃n2,n2=(n1+c) %18446744073709551616:=⟨_,rfl⟩;have f1:IntKind.u64.wrap ((n:Int)*10)=(n1:Int):=by rw[IntKind.wrap_u64,tQ];omega
    have f2:IntKind.u64.wrap ((n1:Int)+(c:Int))=(n2:Int):=by rw[IntKind.wrap_u64,sy];omega
    have qL:n2=A8 A nd (i+1) %18446744073709551616:=by
     rw[A8,lQ c2,<-uY,sy,tQ,hn];exact NP _ c
    have HN:=Hi qL;clear qL hn tQ sy uY di;go_wp2;go_round
    case rel=>exact⟨i+1,n2,by go_num,rfl,HN.o,by omega,by omega⟩
    case measure=>simp[intOf];omega
   ·have HN:=Hi hn;clear hn;have uY:decide ((i:Int)<dp)=false\/(decide ((i:Int)<dp)=true/\¬i<nd):=by
     by_cases h:(i:Int)<dp
     ·exact .inr ⟨lU h,fun h'=>hc ⟨h,h'⟩⟩
     ·exact .inl (lO h)
    have hor:nd<=i\/dp<=(i:Int):=by omega
    clear hc;rcases uY with uY|⟨uY,hcn⟩
    all_goals
     go_wp2
     go_loop [3,4] (fun iv nv=>∃(i n:Nat),iv= .int .i64 i/\nv= .int .u64 n/\n=A8 A nd i %18446744073709551616/\(i:Int)<=max 0 dp/\(nd<=i\/dp<=(i:Int))) (fun iv _=>1000-(intOf iv).toNat)
     case atStart=>exact⟨i,n,rfl,rfl,HN.o,hi,hor⟩
     case round=>
      obtain⟨i2,m,rfl,rfl,hm,qN,hor2⟩:=hrel;by_cases hc:(i2:Int)<dp
      ·have xF:¬i2<nd:=by omega
       obtain⟨n1,tQ⟩:∃n1,n1=m*10 %18446744073709551616:=⟨_,rfl⟩;have f1:IntKind.u64.wrap ((m:Int)*10)=(n1:Int):=by rw[IntKind.wrap_u64,tQ];omega
       have qL:n1=A8 A nd (i2+1) %18446744073709551616:=by
        rw[A8,lL xF,tQ,hm];omega
       have HM:=Hi qL;clear qL tQ hm;go_wp2;go_round
       case rel=>exact⟨i2+1,n1,by go_num,rfl,HM.o,by omega,by omega⟩
       case measure=>simp[intOf];omega
      ·have hid:i2=dp.toNat:=by omega
       rw[hid,<-HX.o]at hm;have si:(m:Int)<18446744073709551616:=by omega
       have e1:decide ((i2:Int)<dp)=false:=lO hc;cases sr with
       |true=>
        obtain⟨n3,hn3⟩:∃n3,n3=(m+1) %18446744073709551616:=⟨_,rfl⟩;have f3:IntKind.u64.wrap ((m:Int)+1)=(n3:Int):=by rw[IntKind.wrap_u64,hn3];omega
        have HM:R=n3:=by rw[HR.o,hn3,hm];simp
        subst HM;clear hm hn3 hid hc
        go_wp2_with (go_at_call 194;(with_reducible refine(CS.o _ rfl).mono ?_);rintro e w' ⟨rfl,rfl⟩)
        go_ret;exact⟨rfl,rfl⟩
       |false=>
        have HM:R=m:=by rw[HR.o,hm];simp
        subst HM;clear hm hid hc
        go_wp2_with (go_at_call 194;(with_reducible refine(CS.o _ rfl).mono ?_);rintro e w' ⟨rfl,rfl⟩)
        go_ret;exact⟨rfl,rfl⟩
end Go.Proofs
end
section
namespace Go.Pf
theorem JQ {A A':Nat->Nat} :∀n,(∀i,i<n->A i=A' i)->num A n=num A' n
 |0,_=>rfl
 |n+1,h=>by rw[num,num,JQ n (fun i hi=>h i (by omega)),h n (by omega)]
theorem M7 {A:Nat->Nat} {nd:Nat} :∀t,t<=nd->A8 A nd t=num A t
 |0,_=>rfl
 |t+1,h=>by rw[A8,num,M7 t (by omega),lQ (by omega)]
theorem Ph {A:Nat->Nat} {nd:Nat}(h0:0<nd) (hA:49<=A 0):∀t,1<=A8 A nd (t+1)
 |0=>by rw[A8,A8,lQ h0];omega
 |t+1=>by rw[A8];have:=Ph h0 hA t;omega
theorem Ke {O n c P Y:Nat}(h:O*(10*P)+n=Y) (hc:c<=9) (hn:n<10*P) (hP:0<P):
 (O*10+n/P)*(10*P)+(n %P*10+c)=Y*10+c/\n %P*10+c<10*P/\n/P<=9:=by
 have h1:n/P*P+n %P=n:=Nat.div_add_mod' n P;have h2:n %P<P:=mw _ hP;have h3:n/P<10:=(mY hP).2 hn;refine⟨?_,by omega,by omega⟩;rw[<-h];have e1:(O*10+n/P)*(10*P)=10*(O*(10*P))+10*(n/P*P):=by
  rw[mI,mR O 10,l5,Nat.mul_left_comm (n/P) 10 P]
 rw[e1];generalize O*(10*P)=X at*;generalize n/P*P=Z at*;omega
theorem Qe {n k g:Nat}(h:2^k∣n*2^(g+1)):2^k∣n %2^k*10*2^g:=by
 have h1:2^k∣n %2^k*2^(g+1):=by
  have e:=oD n (2^k);have e2:n*2^(g+1)=2^k*(n/2^k*2^(g+1))+n %2^k*2^(g+1):=by
   conv=>lhs;rw[<-e]
   rw[mI,l5]
  rw[e2]at h;exact(Nat.dvd_add_right (Nat.dvd_mul_right _ _)).1 h
 have e3:n %2^k*10*2^g=n %2^k*2^(g+1)*5:=by
  rw[l9,l5 (n %2^k),l5 (n %2^k)];congr 1;omega
 rw[e3];exact Nat.dvd_trans h1 (Nat.dvd_mul_right _ _)
theorem Tq {n k:Nat}(h:2^k∣n*2^0):n %2^k=0:=by rw[nC,nf]at h;exact Nat.mod_eq_zero_of_dvd h
structure Qj (A:Nat->Nat) (nd:Nat) (dp:Int) (tr:Bool) (k:Nat) (A':Nat->Nat) (w:Nat) (dp':Int) (qS:Bool):Prop where
 ex:∃V c r,1<=r/\nd<=c+r/\V*(10*2^k)=A8 A nd (c+r)/\dp'=dp-r+1/\w=min c 800/\num A' w=V/10^(c-w)/\qS=(tr||decide (V %10^(c-w)≠0))/\2^k<=A8 A nd r/\A8 A nd (r-1)<2^k
 pos:0<w
 lead:49<=A' 0
 Ca:∀i,i<w->48<=A' i/\A' i<=57
end Go.Pf
end
section
namespace Go.Pf
open Go.RowKit
def SP (A:Nat->Nat) (k v:Nat):Nat->Nat:=fun i=>if i=k then v else A i
theorem Cn (A:Nat->Nat) (k v:Nat):SP A k v k=v:=by simp[SP]
theorem Bm {A:Nat->Nat} {k v i:Nat}(h:i≠k):SP A k v i=A i:=by simp[SP,h]
theorem Ss (A:Nat->Nat) (k v:Nat):num (SP A k v) (k+1)=num A k*10+(v-48):=by
 rw[num,Cn,JQ k (fun i hi=>Bm (by omega))]
structure P2 (A:Nat->Nat) (nd:Nat) (dp:Int) (tr:Bool) (PP r1 b B:Nat) (w0:World) (r wc n:Nat) (A':Nat->Nat) (wr:World):Prop where
 dec:Eg wr b A' nd dp tr
 Ac:Below B w0 wr
 JR:∀i,r<=i->A' i=A i
 Dx:wc+r1=r
 le:r<=nd\/r=r1
 val:num A' wc*(10*PP)+n=A8 A nd r
 lt:n<10*PP
 lead:(wc=0/\PP<=n)\/(0<wc/\49<=A' 0)
 Ca:∀i,i<wc->48<=A' i/\A' i<=57
theorem P2.next {A:Nat->Nat} {nd:Nat} {dp:Int} {tr:Bool} {PP r1 b B:Nat} {w0:World} {r wc n:Nat} {A':Nat->Nat} {wr:World}(h:P2 A nd dp tr PP r1 b B w0 r wc n A' wr) (h1:1<=r1) (hB:B<=b) (hp:0<PP) (hr:r<nd) (hdA:48<=A r/\A r<=57){q n2:Nat}(hq:q=n/PP) (sy:n2=n %PP*10+(A r-48)):
 P2 A nd dp tr PP r1 b B w0 (r+1) (wc+1) n2 (SP A' wc (q+48)) (wr.setCell ⟨b,wc,none⟩ (.int .u8 ((q+48:Nat):Int))):=by
 have hw:wc<r:=by have:=h.Dx;omega
 have hle:=h.dec.le;obtain⟨s1,s2,s3⟩:=Ke h.val (c:=A r-48) (by omega) h.lt hp;rw[<-sy,<-hq]at s1;rw[<-sy]at s2;rw[<-hq]at s3;have tO:wc=0->1<=q:=by
  intro h0;rcases h.lead with⟨_,h2⟩|⟨h2,_⟩
  ·rw[hq];exact(nY hp).2 (by omega)
  ·omega
 have EM:∀i,i<nd->48<=SP A' wc (q+48) i/\SP A' wc (q+48) i<=57:=by
  intro i hi;by_cases e:i=wc
  ·subst e;rw[Cn];omega
  ·rw[Bm e];exact h.dec.Ca i hi
 refine⟨h.dec.Nf wc (q+48) (by omega) nd rfl (fun i hi _=>h.dec.Ca i hi) (fun _=>by omega),h.Ac.setCell (p:=⟨b,wc,none⟩) hB _,?_,by have:=h.Dx;omega,.inl (by omega),?_,s2,.inr ⟨by omega,?_⟩,?_⟩
 ·intro i hi;rw[Bm (by omega)];exact h.JR i (by omega)
 ·rw[Ss,A8,lQ hr];have:q+48-48=q:=by omega
  rw[this];exact s1
 ·by_cases e:wc=0
  ·subst e;rw[Cn];have:=tO rfl;omega
  ·rw[Bm (by omega)];rcases h.lead with⟨h2,_⟩|⟨_,h2⟩
   ·omega
   ·exact h2
 ·intro i hi;by_cases e:i=wc
  ·subst e;rw[Cn];omega
  ·rw[Bm e];exact h.Ca i (by omega)
structure P3 (A:Nat->Nat) (nd:Nat) (dp:Int) (tr:Bool) (PP r1 b B:Nat) (w0:World) (wc n V c:Nat) (A':Nat->Nat) (qS:Bool) (wr:World):Prop where
 dec:∃m,Eg wr b A' m dp qS
 Ac:Below B w0 wr
 end_:nd<=c+r1
 val:V*(10*PP)+n=A8 A nd (c+r1)
 lt:n<10*PP
 lead:(wc=0/\PP<=n)\/(0<wc/\49<=A' 0)
 Ca:∀i,i<wc->48<=A' i/\A' i<=57
 kept:wc=min c 800
 num:num A' wc=V/10^(c-wc)
 eW:qS=(tr||decide (V %10^(c-wc)≠0))
theorem P2.start {A:Nat->Nat} {nd:Nat} {dp:Int} {tr:Bool} {PP r1 b B:Nat} {w0:World} {r wc n:Nat} {A':Nat->Nat} {wr:World}(h:P2 A nd dp tr PP r1 b B w0 r wc n A' wr) (h1:1<=r1) (hr:nd<=r):
 P3 A nd dp tr PP r1 b B w0 wc n (num A' wc) wc A' tr wr:=by
 have hc:=h.Dx;have hle:=h.dec.le;have hw:wc<=800:=by rcases h.le with h2|h2<;>omega
 refine⟨⟨nd,h.dec⟩,h.Ac,by omega,by rw[hc];exact h.val,h.lt,h.lead,h.Ca,by omega,by simp,by rw[oj,nC,Nat.mod_one];simp⟩
theorem P3.next {A:Nat->Nat} {nd:Nat} {dp:Int} {tr:Bool} {PP r1 b B:Nat} {w0:World} {wc n V c:Nat} {A':Nat->Nat} {qS:Bool} {wr:World}(h:P3 A nd dp tr PP r1 b B w0 wc n V c A' qS wr) (hB:B<=b) (hp:0<PP) (hr:wc<800){q n2:Nat}(hq:q=n/PP) (sy:n2=n %PP*10):
 P3 A nd dp tr PP r1 b B w0 (wc+1) n2 (V*10+q) (c+1) (SP A' wc (q+48)) qS (wr.setCell ⟨b,wc,none⟩ (.int .u8 ((q+48:Nat):Int))):=by
 have hk:=h.kept;have hc:wc=c:=by omega
 have he:=h.end_;obtain⟨s1,s2,s3⟩:=Ke h.val (c:=0) (by omega) h.lt hp;rw[nK,<-sy,<-hq]at s1;rw[nK,<-sy]at s2;rw[<-hq]at s3;obtain⟨m,hD⟩:=h.dec;have hn:=h.num;rw[hc,oj,nC,Nat.div_one,<-hc]at hn;have tO:wc=0->1<=q:=by
  intro h0;rcases h.lead with⟨_,h2⟩|⟨h2,_⟩
  ·rw[hq];exact(nY hp).2 (by omega)
  ·omega
 have ht:=h.eW;rw[hc,oj,nC,Nat.mod_one]at ht;refine⟨⟨m,hD.Nf wc (q+48) hr m rfl (fun i hi _=>hD.Ca i hi) (fun _=>by omega)⟩,h.Ac.setCell (p:=⟨b,wc,none⟩) hB _,by omega,?_,s2,.inr ⟨by omega,?_⟩,?_,by omega,?_,?_⟩
 ·rw[show c+1+r1=(c+r1)+1 by omega,A8,lL (by omega)];exact s1
 ·by_cases e:wc=0
  ·subst e;rw[Cn];have:=tO rfl;omega
  ·rw[Bm (by omega)];rcases h.lead with⟨h2,_⟩|⟨_,h2⟩
   ·omega
   ·exact h2
 ·intro i hi;by_cases e:i=wc
  ·subst e;rw[Cn];omega
  ·rw[Bm e];exact h.Ca i (by omega)
 ·rw[Ss,show q+48-48=q by omega,show c+1-(wc+1)=0 by omega,nC,Nat.div_one,hn]
 ·rw[show c+1-(wc+1)=0 by omega,nC,Nat.mod_one];exact ht
theorem P3.drop {A:Nat->Nat} {nd:Nat} {dp:Int} {tr:Bool} {PP r1 b B:Nat} {w0:World} {wc n V c:Nat} {A':Nat->Nat} {qS:Bool} {wr wr2:World}(h:P3 A nd dp tr PP r1 b B w0 wc n V c A' qS wr) (hp:0<PP) (hr:¬wc<800){q n2:Nat}(hq:q=n/PP) (sy:n2=n %PP*10) (hD2:∃m,Eg wr2 b A' m dp (qS||decide (q≠0))) (qM:Below B w0 wr2):
 P3 A nd dp tr PP r1 b B w0 wc n2 (V*10+q) (c+1) A' (qS||decide (q≠0)) wr2:=by
 have hk:=h.kept;have he:=h.end_;obtain⟨s1,s2,s3⟩:=Ke h.val (c:=0) (by omega) h.lt hp;rw[nK,<-sy,<-hq]at s1;rw[nK,<-sy]at s2;rw[<-hq]at s3;have hj:c+1-wc=(c-wc)+1:=by omega
 refine⟨hD2,qM,by omega,?_,s2,?_,h.Ca,by omega,?_,?_⟩
 ·rw[show c+1+r1=(c+r1)+1 by omega,A8,lL (by omega)];exact s1
 ·rcases h.lead with⟨h2,_⟩|h2
  ·omega
  ·exact .inr h2
 ·rw[hj,l9,mR (10^(c-wc)) 10,<-mf,show(V*10+q)/10=V by omega];exact h.num
 ·rw[hj,l9,mR (10^(c-wc)) 10,Nat.mod_mul,show(V*10+q) %10=q by omega,show(V*10+q)/10=V by omega,h.eW];by_cases h1:q=0
  ·subst h1;generalize V %10^(c-wc)=Z;by_cases h2:Z=0
   ·subst h2;simp
   ·rw[lU h2,lU (show 0+10*Z≠0 by omega)];simp
  ·rw[lU h1,lU (show q+10*(V %10^(c-wc))≠0 by omega)];simp
theorem P3.done {A:Nat->Nat} {nd:Nat} {dp0 dp:Int} {tr:Bool} {k r1 b B:Nat} {w0:World} {wc V c:Nat} {A':Nat->Nat} {qS:Bool} {wr:World}(h:P3 A nd dp tr (2^k) r1 b B w0 wc 0 V c A' qS wr) (h1:1<=r1) (hdp:dp=dp0-r1+1) (tQ:2^k<=A8 A nd r1) (qd:A8 A nd (r1-1)<2^k):
 Qj A nd dp0 tr k A' wc dp qS:=by
 have h0:0<wc/\49<=A' 0:=by
  rcases h.lead with⟨_,h2⟩|h2
  ·have:=lj k;omega
  ·exact h2
 exact⟨⟨V,c,r1,h1,h.end_,h.val,hdp,h.kept,h.num,h.eW,tQ,qd⟩,h0.1,h0.2,h.Ca⟩
end Go.Pf
end
section
namespace Go.Pf
def Qr (A:Nat->Nat) (nd:Nat):List UInt8->Nat->Bool
 | [],_=>false
 |c::r,i=>if nd<=i then true else if A i=c.toNat then Qr A nd r (i+1)else decide (A i<c.toNat)
theorem cO {A:Nat->Nat} {nd i:Nat} {l:List UInt8}(h:l.length<=i):Qr A nd (l.drop i) i=false:=by rw[ot h];rfl
theorem XG {A:Nat->Nat} {nd i:Nat} {l:List UInt8}(h:i<l.length):Qr A nd (l.drop i) i=if nd<=i then true else if A i=l[i].toNat then Qr A nd (l.drop (i+1)) (i+1)else decide (A i<l[i].toNat):=by
 rw[pB h];rfl
end Go.Pf
namespace Go.Proofs
open Go.RowKit Go.Pf
theorem I6 (b nd c:Nat) (A:Nat->Nat) (s:ByteArray) (w:World) (hn:nd<=800) (hs:s.size<=100) (hA:Hid (∀i,i<nd->w.cell? ⟨b,i,none⟩=some (.int .u8 (A i:Nat)))):
 Calls prog 195 #[.slice (some ⟨b,0,none⟩) nd c,.string s] w fun e w'=>e= .returned (.bool (Qr A nd s.data.toList 0))/\∃n,w'=w.drewN n:=by
 obtain⟨R,hR⟩:∃R,R=Qr A nd s.data.toList 0:=⟨_,rfl⟩;have HR:=Hi hR;rw[<-hR];clear hR;go_enter func195,ntmps195;go_wp2
 go_loopw [5] (fun iv wr=>∃i:Nat,iv= .int .i64 i/\i<=s.size/\R=Qr A nd (s.data.toList.drop i) i/\∃n,wr=w.drewN n) (fun iv _=>s.size-(intOf iv).toNat)
 case atStart=>exact⟨0,rfl,by omega,by rw[HR.o];rfl,0,rfl⟩
 case round=>
  obtain⟨i,rfl,hi,hr,hh⟩:=hrel;by_cases qE:i<s.size
  ·have hl:i<s.data.toList.length:=by simpa using qE
   rw[XG hl]at hr
   replace hr:R=if nd<=i then true else if A i=s[i].toNat then Qr A nd (s.data.toList.drop (i+1)) (i+1)else decide (A i<s[i].toNat):=hr
   have HH:=Hi hh;have he0:wr.heap=w.heap:=by obtain⟨n,rfl⟩:=hh;rfl
   have HE:=Hi he0;have HN:Hid (∀q,∃n,wr.drewN q=w.drewN n):=Hi (fun q=>by obtain⟨n,rfl⟩:=hh;exact⟨n+q,World.drewN_drewN ..⟩);clear hh he0;by_cases hni:nd<=i
   ·rw[lQ hni]at hr;subst hr;go_wp2;go_ret;exact⟨rfl,HH.o⟩
   ·rw[lL hni]at hr;have ci:wr.cell? ⟨b,i,none⟩=some (.int .u8 (A i:Nat)):=by rw[oQ (w:=w) (by rw[HE.o])];exact hA.o i (by omega)
    have i9:(i:Int)<nd:=by omega
    have i8:i<nd:=by omega
    by_cases he:A i=s[i].toNat
    ·rw[lQ he]at hr;have a1:((A i:Int)==(s[i].toNat:Int))=true:=by rw[he];simp
     have HRR:=Hi hr;clear hr he;go_wp2
     go_quiet (fail)
     go_wp2;go_roundw
     case rel=>exact⟨i+1,by go_num,by omega,HRR.o,HN.o _⟩
     case measure=>simp[intOf];omega
    ·rw[lL he]at hr;have a1:((A i:Int)==(s[i].toNat:Int))=false:=by rw[nD];intro h;have:=eq_of_beq h;omega
     have a2:decide ((A i:Int)<(s[i].toNat:Int))=R:=by rw[hr];congr 1;simp
     have a3:decide (A i<s[i].toNat)=R:=hr.symm;clear hr he;go_wp2
     go_quiet (fail)
     go_wp2
     go_quiet (fail)
     go_wp2;go_ret;refine⟨rfl,?_⟩;rw[World.drewN_drewN];exact HN.o _
  ·rw[cO (by simpa using(by omega:s.size<=i))]at hr;subst hr;go_wp2;go_ret;exact⟨rfl,hh⟩
end Go.Proofs
end
