import Derived.Test.YtnipmfaikiaipaaGreatDoorTaa
import Derived.Laws.BitsAllLaws
import GoSem.PinnedTables
import Derived.Lib.ItoaNum
import Derived.Deep.LoopGhost
set_option maxRecDepth 1000000
set_option maxHeartbeats 40000000
section
namespace Go.Proofs
open Go.RowKit Go.Pf
theorem Is (n:Int) (w:World):(callFunc 282 #[.int .u64 n]).run Tryz.prog w= .ok (.value (.float .f64 n.toNat)) w:=by
 rw[run_callFunc_extern Tryz.func282 (by kernel_rfl) (by kernel_rfl) (by kernel_rfl) (e:=Extern.MathFloatBits.float64frombits) (by kernel_rfl)];rfl
theorem Tx (p:Int) (h1: -400<=p) (h2:p<=400) (w:World):Calls Tryz.prog 232 #[.int .i64 p] w fun e w'=>e= .returned (.int .i64 (p*108853/32768))/\w=w':=by
 go_enter Tryz.func232,Tryz.ntmps232;go_wp2;go_ret;exact⟨rfl,rfl⟩
theorem aO (b:Bool) (w:World):Calls Tryz.prog 204 #[.bool b] w fun e w'=>e= .returned (.int .i64 (if b then 1 else 0))/\w=w':=by
 cases b
 all_goals
  go_enter Tryz.func204,Tryz.ntmps204;go_wp2;go_ret;exact⟨rfl,rfl⟩
theorem Fb (b:Bool) (w:World):Calls Tryz.prog 260 #[.bool b] w fun e w'=>e= .returned (.int .u64 (if b then 1 else 0))/\w=w':=by
 cases b
 all_goals
  go_enter Tryz.func260,Tryz.ntmps260;go_wp2;go_ret;exact⟨rfl,rfl⟩
theorem eU (w:World):Calls Tryz.prog 238 #[.int .u64 9007199254740992] w fun e w'=>e= .returned (.int .u64 36028797018963966)/\w=w':=by
 go_enter Tryz.func238,Tryz.ntmps238;go_wp2;go_ret;exact⟨rfl,rfl⟩
theorem fa (u:Nat) (hu:u<1152921504606846976) (w:World):Calls Tryz.prog 237 #[.int .u64 u] w fun e w'=>e= .returned (.int .u64 ((u+1+u/4 %2)/4:Nat))/\w=w':=by
 obtain⟨v,hv⟩:∃v,v=u/4:=⟨_,rfl⟩;obtain⟨t,ht⟩:∃t,t=v %2:=⟨_,rfl⟩;have f1:(u:Int)/4=(v:Int):=by omega
 have f2:bits .and .u64 (v:Int) 1=(t:Int):=by
  have:=u64_and_nat v 1 (by omega) (by omega);rw[Nat.and_one_is_mod,<-ht]at this;exact this
 have f3:(t:Int)<=1:=by omega
 have f4:(u:Int)<1152921504606846976:=by omega
 have HR:Hid ((((u+1+u/4 %2)/4:Nat):Int)=((u:Int)+1+(t:Int))/4):=Hi (by omega);clear hv ht;go_enter Tryz.func237,Tryz.ntmps237;go_wp2;go_ret;rw[HR.out];exact⟨rfl,rfl⟩
end Go.Proofs
end
section
namespace Go.Pf
def EH (m:Nat) (e:Int):Nat×Bool:=
 if m&&&4503599627370496=0 then(m,false)
 else if 972<=e then((m&&&9223372036854775808)|||9218868437227405312,true)
 else((m&&&18442240474082181119)|||((1075+e).toNat*4503599627370496),false)
def D8 (b:Bool):Value:=if b then .iface 197 (.int .i64 1)else .nilIface
end Go.Pf
namespace Go.Proofs
open Go.RowKit Go.Pf
theorem Bs (n:Nat) (w:World):(callFunc 282 #[.int .u64 (n:Int)]).run Tryz.prog w= .ok (.value (.float .f64 n)) w:=Is n w
theorem bK (m:Nat) (x:Int) (hm:m<18446744073709551616) (hx: -1074<=x) (hx2:x<=5000) (w:World):
 Calls Tryz.prog 293 #[.int .u64 m,.int .i64 x] w fun e w'=>e= .returned (.tuple #[.float .f64 (EH m x).1,D8 (EH m x).2])/\w=w':=by
 have f1:bits .and .u64 (m:Int) 4503599627370496=((m&&&4503599627370496:Nat):Int):=u64_and_nat m 4503599627370496 hm (by decide);obtain⟨a,ha⟩:∃a,a=m&&&4503599627370496:=⟨_,rfl⟩;rw[<-ha]at f1;have HA:=Hi ha;by_cases h0:a=0
 ·have hr:EH m x=(m,false):=by unfold EH;rw[<-ha,if_pos h0]
  rw[hr];have z:((a:Int)==0)=true:=by rw[h0];rfl
  clear h0 ha hr;go_enter Tryz.func293,Tryz.ntmps293;go_wp2;rw[Bs,Oper.upon_value];go_wp2;go_ret2;exact⟨rfl,rfl⟩
 ·have z:((a:Int)==0)=false:=Bn (n:=0) h0;by_cases h1:972<=x
  ·obtain⟨b,hb⟩:∃b,b=m&&&9223372036854775808:=⟨_,rfl⟩;obtain⟨c,hc⟩:∃c,c=b|||9218868437227405312:=⟨_,rfl⟩;have hb2:b<18446744073709551616:=by rw[hb];exact IS Nat.and_le_left hm
   have f2:bits .and .u64 (m:Int) 9223372036854775808=(b:Int):=by rw[hb];exact u64_and_nat m 9223372036854775808 hm (by decide)
   have f3:bits .or .u64 (b:Int) 9218868437227405312=(c:Int):=by rw[hc];exact u64_or_nat b 9218868437227405312 hb2 (by decide)
   have hr:EH m x=(c,true):=by unfold EH;rw[<-ha,if_neg h0,if_pos h1,<-hb,<-hc]
   rw[hr];have z2:decide (972<=x)=true:=AN h1;clear h0 ha hr hb hc hb2 h1;go_enter Tryz.func293,Tryz.ntmps293;go_wp2;rw[Bs,Oper.upon_value];go_wp2;go_ret2;exact⟨rfl,rfl⟩
  ·obtain⟨b,hb⟩:∃b,b=m&&&18442240474082181119:=⟨_,rfl⟩;obtain⟨y,hy⟩:∃y:Nat,y=(1075+x).toNat:=⟨_,rfl⟩;obtain⟨c,hc⟩:∃c,c=b|||(y*4503599627370496):=⟨_,rfl⟩;have hb2:b<18446744073709551616:=by rw[hb];exact IS Nat.and_le_left hm
   have f0:1075+x=(y:Int):=by omega
   have hy2:(y:Int)<=2046:=by omega
   have f2:bits .andNot .u64 (m:Int) 4503599627370496=(b:Int):=by rw[hb];exact u64_andNot_nat m 4503599627370496 hm (by decide)
   have f3:bits .or .u64 (b:Int) ((y:Int)*4503599627370496)=(c:Int):=by
    rw[hc];have:=u64_or_nat b (y*4503599627370496) hb2 (by omega);rw[Int.natCast_mul]at this;exact this
   have hr:EH m x=(c,false):=by unfold EH;rw[<-ha,if_neg h0,if_neg h1,<-hb,<-hy,<-hc]
   rw[hr];have z2:decide (972<=x)=false:=AS h1;clear h0 ha hr hb hc hb2 h1 hy;go_enter Tryz.func293,Tryz.ntmps293;go_wp2;rw[Bs,Oper.upon_value];go_wp2;go_ret2;exact⟨rfl,rfl⟩
end Go.Proofs
end
section
namespace Go.Pf
def Jy (i:Nat):Nat:=(Go.Pinned.pow10Rows.getD i (0,0)).1
def Je (i:Nat):Nat:=(Go.Pinned.pow10Rows.getD i (0,0)).2
def LX (w:World):Prop:=∀i,i<696->w.cell? ⟨11,i*2,none⟩=some (.int .u64 (Jy i))/\w.cell? ⟨11,i*2+1,none⟩=some (.int .u64 (Je i))
end Go.Pf
namespace Go.Proofs
open Go.RowKit Go.Pf
theorem O7 (b i:Nat) (e p lp:Int) (w:World) (hi:p+348=i) (hi2:i<696) (he: -5000<=e) (he2:e<=5000) (hl: -5000<=lp) (hl2:lp<=5000) (hb:11<b) (hT:Hid (LX w)){v0 v1 v2:Value}
 (c0:w.cell? ⟨b,0,none⟩=some v0) (c1:w.cell? ⟨b,1,none⟩=some v1) (c2:w.cell? ⟨b,2,none⟩=some v2)
 (f0:w.frozen? ⟨b,0,none⟩=false) (f1:w.frozen? ⟨b,1,none⟩=false) (f2:w.frozen? ⟨b,2,none⟩=false):
 Calls Tryz.prog 231 #[.pointer (some ⟨b,0,none⟩),.int .i64 e,.int .i64 p,.int .i64 lp] w fun r w'=>r= .returned (.tuple #[])/\w'=((w.setCell ⟨b,0,none⟩ (.int .u64 (Jy i))).setCell ⟨b,1,none⟩ (.int .u64 (Je i))).setCell ⟨b,2,none⟩ (.int .i64 (-(e+lp+3))):=by
 obtain⟨t0,t1⟩:=hT.out i hi2;have n1:b≠11:=by omega
 have n2:(11:Nat)≠b:=by omega
 go_enter Tryz.func231,Tryz.ntmps231;go_wp2
 go_end0
 exact⟨rfl,rfl⟩
end Go.Proofs
end
section
namespace Go.Pf
def PU (x hi lo k:Nat):Nat:=
 if x*hi/18446744073709551616/2^k*2^k=x*hi/18446744073709551616 then
  ((x*hi/18446744073709551616+18446744073709551616-(if x*hi %18446744073709551616<x*lo/18446744073709551616 then 1 else 0)) %18446744073709551616/2^k)
   |||(if 1<(x*hi %18446744073709551616+18446744073709551616-x*lo/18446744073709551616) %18446744073709551616 then 1 else 0)
 else x*hi/18446744073709551616/2^k|||1
end Go.Pf
namespace Go.Proofs
open Go.RowKit Go.Pf
theorem S6 (k:Nat) (h:k<64):bits .and .i64 (k:Int) 63=(k:Int):=by
 have key:∀k:Fin 64,bits .and .i64 ((k.val:Nat):Int) 63=((k.val:Nat):Int):=by decide
 exact key ⟨k,h⟩
theorem Vc {m:Nat}(a b:Nat) (h1:a<m) (h2:b<m):a*b/m<m:=by
 rw[ad (by omega)];exact IS (dg a (Nat.le_of_lt h2)) (c8 h1 (by omega))
theorem Kc {a b:Nat}(ha:a<18446744073709551616) (hb:b<18446744073709551616):IntKind.u64.wrap ((a:Int)-(b:Int))=(((a+18446744073709551616-b) %18446744073709551616:Nat):Int):=by
 rw[IntKind.wrap_u64];omega
theorem FE (k:Nat):((2^k:Nat):Int)=(2:Int)^k:=by rw[Int.natCast_pow];rfl
theorem Tryz.uscale (b x hi lo k:Nat) (w:World) (hx:x<18446744073709551616) (hh:hi<18446744073709551616) (hl:lo<18446744073709551616) (hk:k<64)
 (c0:w.cell? ⟨b,0,none⟩=some (.int .u64 hi)) (c1:w.cell? ⟨b,1,none⟩=some (.int .u64 lo)) (c2:w.cell? ⟨b,2,none⟩=some (.int .i64 k)):
 Calls Tryz.prog 233 #[.int .u64 x,.pointer (some ⟨b,0,none⟩)] w fun r w'=>∃n,r= .returned (.int .u64 (PU x hi lo k))/\w'=w.drewN n:=by
 obtain⟨H,hH⟩:∃H,H=x*hi/18446744073709551616:=⟨_,rfl⟩;obtain⟨M,hM⟩:∃M,M=x*hi %18446744073709551616:=⟨_,rfl⟩;obtain⟨M2,hM2⟩:∃M,M=x*lo/18446744073709551616:=⟨_,rfl⟩;obtain⟨L2,hL2⟩:∃M,M=x*lo %18446744073709551616:=⟨_,rfl⟩;obtain⟨Q,hQ⟩:∃Q,Q=H/2^k:=⟨_,rfl⟩;obtain⟨R,hR⟩:∃R,R=Q*2^k:=⟨_,rfl⟩;have bH:H<18446744073709551616:=by rw[hH];exact Vc x hi hx hh
 have bM2:M2<18446744073709551616:=by rw[hM2];exact Vc x lo hx hl
 have bM:M<18446744073709551616:=by rw[hM];exact gR _ (by decide)
 have bQ:Q<=H:=by rw[hQ];exact Nat.div_le_self _ _
 have bR:R<=H:=by rw[hR,hQ];exact Nat.div_mul_le_self _ _
 have e1:(H:Int)/2^k=(Q:Int):=by rw[hQ,<-FE];exact(Int.natCast_ediv _ _).symm
 have e2:(Q:Int)*2^k=(R:Int):=by rw[hR,Int.natCast_mul,FE]
 have e3:=S6 k hk;have C1:Hid (∀W,Calls Tryz.prog 150 #[.int .u64 x,.int .u64 hi] W fun e w'=>e= .returned (.tuple #[.int .u64 (H:Int),.int .u64 (M:Int)])/\W=w'):=Hi (fun W=>by
  rw[hH,hM];exact(Tryz.bits_Mul64 x hi hx hh W).mono (by rintro e w' ⟨rfl,rfl⟩;exact⟨rfl,rfl⟩))
 have C2:Hid (∀W,Calls Tryz.prog 150 #[.int .u64 x,.int .u64 lo] W fun e w'=>e= .returned (.tuple #[.int .u64 (M2:Int),.int .u64 (L2:Int)])/\W=w'):=Hi (fun W=>by
  rw[hM2,hL2];exact(Tryz.bits_Mul64 x lo hx hl W).mono (by rintro e w' ⟨rfl,rfl⟩;exact⟨rfl,rfl⟩))
 have hu:PU x hi lo k=if R=H then((H+18446744073709551616-(if M<M2 then 1 else 0)) %18446744073709551616/2^k)|||(if 1<(M+18446744073709551616-M2) %18446744073709551616 then 1 else 0)else Q|||1:=by
  unfold PU;rw[<-hH,<-hM,<-hM2,<-hQ,<-hR]
 rw[hu];have HU:=Hi hk;have k0:(k:Int)<=63:=by omega
 clear hu hH hM hM2 hL2 hQ hR hk;by_cases hRH:R=H
 ·rw[if_pos hRH];obtain⟨bo,hbo⟩:∃bo:Bool,bo=decide (M<M2):=⟨_,rfl⟩;obtain⟨H2,hH2⟩:∃H2,H2=(H+18446744073709551616-(if M<M2 then 1 else 0)) %18446744073709551616:=⟨_,rfl⟩;obtain⟨D,hD⟩:∃D,D=(M+18446744073709551616-M2) %18446744073709551616:=⟨_,rfl⟩;rw[<-hH2,<-hD];have f1:IntKind.u64.wrap ((H:Int)-(if bo then 1 else 0))=(H2:Int):=by
   rw[hH2,hbo];by_cases h:M<M2
   ·rw[if_pos h];have:=Kc (a:=H) (b:=1) bH (by decide);rw[<-this,AN h];rfl
   ·rw[if_neg h];have:=Kc (a:=H) (b:=0) bH (by decide);rw[<-this,AS h];rfl
  have f2:IntKind.u64.wrap ((M:Int)-(M2:Int))=(D:Int):=by
   rw[hD];exact Kc bM bM2
  obtain⟨bn,hbn⟩:∃bn:Nat,(bn:Int)=if bo then 1 else 0:=by cases bo;exact⟨0,rfl⟩;exact⟨1,rfl⟩
  obtain⟨dd,hdd⟩:∃dd:Bool,dd=decide (1<D):=⟨_,rfl⟩;obtain⟨dn,hdn⟩:∃dn:Nat,dn=if 1<D then 1 else 0:=⟨_,rfl⟩;obtain⟨Q2,hQ2⟩:∃Q,Q=H2/2^k:=⟨_,rfl⟩;obtain⟨Z,hZ⟩:∃Z,Z=Q2|||dn:=⟨_,rfl⟩;have C3:Hid (∀W,Calls Tryz.prog 260 #[.bool bo] W fun e w'=>e= .returned (.int .u64 (bn:Int))/\W=w'):=Hi (fun W=>by rw[hbn];exact Fb bo W);have hdn2:(dn:Int)=if dd then 1 else 0:=by
   rw[hdn,hdd];by_cases h:1<D
   ·rw[if_pos h,AN h];rfl
   ·rw[if_neg h,AS h];rfl
  have C4:Hid (∀W,Calls Tryz.prog 260 #[.bool dd] W fun e w'=>e= .returned (.int .u64 (dn:Int))/\W=w'):=Hi (fun W=>by rw[hdn2];exact Fb dd W);rw[<-hbn]at f1;have bH2:H2<18446744073709551616:=by rw[hH2];exact gR _ (by decide)
  have bQ2:Q2<18446744073709551616:=by rw[hQ2];exact IS (Nat.div_le_self _ _) bH2
  have f3:(H2:Int)/2^k=(Q2:Int):=by rw[hQ2,<-FE];exact(Int.natCast_ediv _ _).symm
  have bd:dn<=1:=by rw[hdn];split<;>omega
  have f4:bits .or .u64 (Q2:Int) (dn:Int)=(Z:Int):=by rw[hZ];exact u64_or_nat Q2 dn bQ2 (by omega)
  have f5:decide ((M:Int)<(M2:Int))=bo:=by rw[hbo];congr 1;simp
  have f6:decide ((1:Int)<(D:Int))=dd:=by rw[hdd];congr 1;simp;omega
  have f5n:decide (M<M2)=bo:=hbo.symm;have f6n:decide (1<D)=dd:=hdd.symm;rw[<-hdn,<-hQ2,<-hZ];clear hH2 hD hbo hbn hdd hdn hdn2 hQ2 hZ;subst hRH;go_enter Tryz.func233,Tryz.ntmps233
  go_wp2_with ((first|(go_at_call 150;first|(with_reducible refine(C1.out _).mono ?_)|(with_reducible refine(C2.out _).mono ?_))|(go_at_call 260;(with_reducible refine(C3.out _).mono ?_)));rintro e w' ⟨rfl,rfl⟩)
  go_region_with (go_at_call 260;(with_reducible refine(C4.out _).mono ?_);rintro e w' ⟨rfl,rfl⟩)
  all_goals
   go_wp2;go_ret;exact⟨_,rfl,rfl⟩
 ·obtain⟨Z,hZ⟩:∃Z,Z=Q|||1:=⟨_,rfl⟩;have f4:bits .or .u64 (Q:Int) 1=(Z:Int):=by rw[hZ];exact u64_or_nat Q 1 (by omega) (by decide)
  rw[if_neg hRH,<-hZ];clear hZ;have f5:((R:Int)==(H:Int))=false:=Bn hRH;go_enter Tryz.func233,Tryz.ntmps233
  go_wp2_with ((first|(go_at_call 150;first|(with_reducible refine(C1.out _).mono ?_)|(with_reducible refine(C2.out _).mono ?_)));rintro e w' ⟨rfl,rfl⟩)
  go_ret;exact⟨0,rfl,rfl⟩
end Go.Proofs
end
section
namespace Go.Pf
def cP (b:Nat) (lp:Int):Int:=min 1074 (53-b-lp)
def ff (b:Nat) (lp:Int):Int:= -(cP b lp-(64-b)+lp+3)
def gI (d:Nat) (p:Int):Nat:=PU (d*2^(64-Lib.bitLen d)) (Jy (p+348).toNat) (Je (p+348).toNat) (ff (Lib.bitLen d) (p*108853/32768)).toNat
def fK (u:Nat) (e:Int):Nat×Bool:=
 if 36028797018963966<=u then EH (((u/2|||(u&&&1))+1+(u/2|||(u&&&1))/4 %2)/4) (-(e-1))
 else EH (((u|||(u&&&1))+1+(u|||(u&&&1))/4 %2)/4) (-e)
def dE (d:Nat) (p:Int):Nat×Bool:=
 if 64<=ff (Lib.bitLen d) (p*108853/32768)then(0,false)
 else fK (gI d p) (cP (Lib.bitLen d) (p*108853/32768))
theorem ZX {x hi lo k:Nat}(hh:x*hi/18446744073709551616<18446744073709551616) (hk:8<=k):PU x hi lo k<2^57:=by
 have key:∀H,H<18446744073709551616->H/2^k<2^57:=by
  intro H h;have h1:H/2^k<=H/2^8:=Nat.div_le_div_left (AT (by decide) hk) (by decide);omega
 unfold PU;split
 ·refine Nat.or_lt_two_pow (key _ (gR _ (by decide))) ?_;split<;>decide
 ·exact Nat.or_lt_two_pow (key _ hh) (by decide)
theorem Yw:Go.Pinned.pow10Rows.all (fun x=>Nat.blt x.1 18446744073709551616&&Nat.blt x.2 18446744073709551616)=true:=by kernel_rfl
theorem aG (i:Nat):Jy i<18446744073709551616/\Je i<18446744073709551616:=by
 unfold Jy Je;rw[SM];cases h:Go.Pinned.pow10Rows[i]?with
 |none=>exact⟨by simp,by simp⟩
 |some x=>
  have:=List.all_eq_true.1 Yw x (List.mem_of_getElem? h);simp only[Bool.and_eq_true,Nat.blt_eq]at this;exact this
theorem L1 {d:Nat}(h0:d≠0) (h:d<18446744073709551616):1<=Lib.bitLen d/\Lib.bitLen d<=64/\d*2^(64-Lib.bitLen d)<18446744073709551616:=by
 have h1:=Lib.bitLenAux_bounds 64 d h h0;have h2:=Lib.bitLenAux_le 64 d 64 h;refine⟨h1.1,h2,?_⟩;have h3:d*2^(64-Lib.bitLen d)<2^Lib.bitLen d*2^(64-Lib.bitLen d):=c8 h1.2.2 (An _);rw[<-E3]at h3;have h4:Lib.bitLen d+(64-Lib.bitLen d)=64:=by have:Lib.bitLen d<=64:=h2;omega
 rw[h4]at h3;exact h3
end Go.Pf
namespace Go.Proofs
open Go.RowKit Go.Pf
theorem _root_.Go.Pf.LX.below {w w':World} {B:Nat}(h:LX w) (hb:Below B w w') (h16:11<B):LX w':=by
 intro i hi;have e:=hb.block 11 h16;have k:=h i hi;exact⟨(World.cell?_of_block (a:=⟨11,i*2,none⟩) e).trans k.1,(World.cell?_of_block (a:=⟨11,i*2+1,none⟩) e).trans k.2⟩
def aY (r:Nat×Bool) (w:World) (e:Ending) (w':World):Prop:=e= .returned (.tuple #[.float .f64 r.1,D8 r.2])/\Below w.heap.size w w'
theorem IB (d:Nat) (p:Int) (w:World) (h0:d≠0) (hd:d<18446744073709551616) (hp: -345<=p) (hp2:p<=310) (hT:Hid (LX w)) (h16:11<w.heap.size):
 Calls Tryz.prog 284 #[.int .u64 d,.int .i64 p,.int .u64 0] w (aY (dE d p) w):=by
 obtain⟨b,hb⟩:∃b,b=Lib.bitLen d:=⟨_,rfl⟩;obtain⟨lp,hlp⟩:∃lp,lp=p*108853/32768:=⟨_,rfl⟩;obtain⟨ee,hee⟩:∃ee,ee=cP b lp:=⟨_,rfl⟩;obtain⟨ss,hss⟩:∃ss,ss=ff b lp:=⟨_,rfl⟩;obtain⟨i,hi⟩:∃i:Nat,i=(p+348).toNat:=⟨_,rfl⟩;have B:=L1 h0 hd;rw[<-hb]at B;obtain⟨b1,b64,bx⟩:=B;have hr:dE d p=if 64<=ss then(0,false)else fK (PU (d*2^(64-b)) (Jy i) (Je i) ss.toNat) ee:=by
  unfold dE gI;rw[<-hb,<-hlp,<-hss,<-hee,<-hi]
 rw[hr];have hpi:p+348=(i:Int):=by omega
 have hi2:i<696:=by omega
 have l1: -1147<=lp:=by omega
 have l2:lp<=1030:=by omega
 have q1:ss= -(ee-(64-(b:Int))+lp+3):=by rw[hss,hee];rfl
 have q2:ee<=1074:=by rw[hee];unfold cP;omega
 have q3: -2000<=ee:=by rw[hee];unfold cP;omega
 have q4:ee<=53-(b:Int)-lp:=by rw[hee];unfold cP;omega
 have q5:8<=ss:=by omega
 have q6:min (1074:Int) (53-(b:Int)-lp)=ee:=by rw[hee];rfl
 have CL:Hid (∀W,Calls Tryz.prog 191 #[.int .u64 (d:Int)] W fun e w'=>e= .returned (.int .i64 (b:Int))/\W=w'):=Hi (fun W=>by
  rw[hb];exact(Tryz.bits_Len64 d W (by omega) (by omega)).mono (by rintro e w' ⟨rfl,rfl⟩;exact⟨rfl,rfl⟩))
 have CP:Hid (∀W,Calls Tryz.prog 232 #[.int .i64 p] W fun e w'=>e= .returned (.int .i64 lp)/\W=w'):=Hi (fun W=>by
  rw[hlp];exact Tx p (by omega) (by omega) W)
 obtain⟨j,hj⟩:∃j,j=64-b:=⟨_,rfl⟩;obtain⟨x,hx⟩:∃x,x=d*2^(64-b):=⟨_,rfl⟩;rw[<-hx]at bx;have j1:(64:Int)-(b:Int)=(j:Int):=by omega
 have j2:(d:Int)*2^j=(x:Int):=by rw[hx,<-hj,Int.natCast_mul,FE]
 have j3:(j:Int)<=63:=by omega
 rw[j1]at q1;have HX:=Hi hx;rw[<-hx];clear hr hb hlp hee hss hi hx hj;have z0:bits .or .u64 0 0=0:=by decide
 by_cases h64:64<=ss
 ·rw[if_pos h64];go_enter Tryz.func284,Tryz.ntmps284
  go_wp2_with ((first|(go_at_call 191;(with_reducible refine(CL.out _).mono ?_))|(go_at_call 232;(with_reducible refine(CP.out _).mono ?_)));rintro e w' ⟨rfl,rfl⟩)
  generalize hW:w.alloc _=W1;have c0:W1.cell? ⟨w.heap.size,0,none⟩=some (.int .u64 0):=by subst hW;go_simp
  have c1:W1.cell? ⟨w.heap.size,1,none⟩=some (.int .u64 0):=by subst hW;go_simp
  have c2:W1.cell? ⟨w.heap.size,2,none⟩=some (.int .i64 0):=by subst hW;go_simp
  have f0:W1.frozen? ⟨w.heap.size,0,none⟩=false:=by subst hW;go_simp
  have f1:W1.frozen? ⟨w.heap.size,1,none⟩=false:=by subst hW;go_simp
  have f2:W1.frozen? ⟨w.heap.size,2,none⟩=false:=by subst hW;go_simp
  have bl:Below w.heap.size w W1:=by subst hW;exact(AH _ _).alloc (nR _) _
  have hT1:=Hi (hT.out.below bl h16);clear hW
  go_wp2_with (go_at_call 231;(with_reducible refine(O7 w.heap.size i _ p lp W1 hpi hi2 (by omega) (by omega) (by omega) (by omega) h16 hT1 c0 c1 c2 f0 f1 f2).mono ?_);rintro e w' ⟨rfl,rfl⟩)
  rw[Is,Oper.upon_value];go_wp2;go_ret2;refine⟨rfl,?_⟩
  iterate 3 refine By ?_ (by simp) _
  exact bl
 ·rw[if_neg h64];obtain⟨k,hk⟩:∃k:Nat,k=ss.toNat:=⟨_,rfl⟩;have k1:ss=(k:Int):=by omega
  have k64:k<64:=by omega
  have k8:8<=k:=by omega
  obtain⟨hh,hhh⟩:∃h,h=Jy i:=⟨_,rfl⟩;obtain⟨lo,hlo⟩:∃h,h=Je i:=⟨_,rfl⟩;have PL:=aG i;rw[<-hhh,<-hlo]at PL;obtain⟨u,hu⟩:∃u,u=PU x hh lo k:=⟨_,rfl⟩;have u57:u<2^57:=by rw[hu];exact ZX (Vc x hh bx PL.1) k8
  have q7: -(ee-(j:Int)+lp+3)=(k:Int):=by omega
  have CPr:=Hi (fun W1 h1 h2 h3 h4 h5 h6 h7=>O7 w.heap.size i (ee-(j:Int)) p lp W1 hpi hi2 (by omega) (by omega) (by omega) (by omega) h16 h1 (v0:= .int .u64 0) (v1:= .int .u64 0) (v2:= .int .i64 0) h2 h3 h4 h5 h6 h7);rw[<-hhh,<-hlo]at CPr;rw[q7]at CPr;have CU:=Hi (fun W c0 c1 c2=>Tryz.uscale w.heap.size x hh lo k W bx PL.1 PL.2 k64 c0 c1 c2);rw[<-hu]at CU;rw[<-hhh,<-hlo,<-hk,<-hu];clear hhh hlo hu hk;obtain⟨u1,hu1⟩:∃u1,u1=u&&&1:=⟨_,rfl⟩;have g1:bits .and .u64 (u:Int) 1=(u1:Int):=by rw[hu1];exact u64_and_nat u 1 (by omega) (by decide)
  have u1b:u1<=1:=by rw[hu1];exact Nat.and_le_right
  obtain⟨v,hv⟩:∃v,v=(if 36028797018963966<=u then u/2 else u):=⟨_,rfl⟩;obtain⟨tt,htt⟩:∃tt:Int,tt=(if 36028797018963966<=u then 1 else 0):=⟨_,rfl⟩;obtain⟨cc,hcc⟩:∃cc:Bool,cc=decide (36028797018963966<=u):=⟨_,rfl⟩;obtain⟨u2,hu2⟩:∃u2,u2=v|||u1:=⟨_,rfl⟩;have vb:v<2^57:=by rw[hv];split<;>omega
  have u2b:u2<2^57:=by rw[hu2];exact Nat.or_lt_two_pow vb (IS u1b (by decide))
  have g2:bits .or .u64 (v:Int) (u1:Int)=(u2:Int):=by rw[hu2];exact u64_or_nat v u1 (by omega) (by omega)
  obtain⟨m,hm⟩:∃m,m=(u2+1+u2/4 %2)/4:=⟨_,rfl⟩;have mb:m<18446744073709551616:=by omega
  have g3:bits .or .u64 0 (m:Int)=(m:Int):=by
   have:=u64_or_nat 0 m (by decide) mb;rw[Nat.zero_or]at this;exact this
  have g4:decide ((36028797018963966:Int)<=(u:Int))=cc:=by rw[hcc];congr 1;simp;omega
  have g5:decide (36028797018963966<=u)=cc:=hcc.symm;have g6:(u:Int)/2^tt.toNat=(v:Int):=by
   rw[hv,htt];split
   ·show(u:Int)/2^1=_;omega
   ·show(u:Int)/2^0=_;omega
  have tb:0<=tt/\tt<=1:=by rw[htt];split<;>omega
  have C1:Hid (∀W,Calls Tryz.prog 204 #[.bool cc] W fun e w'=>e= .returned (.int .i64 tt)/\W=w'):=Hi (fun W=>by
   refine(aO cc W).mono ?_;rintro e w' ⟨rfl,rfl⟩;refine⟨?_,rfl⟩;rw[htt,hcc];by_cases h:36028797018963966<=u
   ·rw[if_pos h,AN h];rfl
   ·rw[if_neg h,AS h];rfl)
  have C2:Hid (∀W,Calls Tryz.prog 237 #[.int .u64 (u2:Int)] W fun e w'=>e= .returned (.int .u64 (m:Int))/\W=w'):=Hi (fun W=>by rw[hm];exact fa u2 (by omega) W);have hres:fK u ee=EH m (-(ee-tt)):=by
   unfold fK;rw[<-hu1,hm,hu2,hv,htt];split
   ·rfl
   ·rw[Int.sub_zero]
  rw[hres];have C3:Hid (∀W,Calls Tryz.prog 293 #[.int .u64 (m:Int),.int .i64 (-(ee-tt))] W fun e w'=>e= .returned (.tuple #[.float .f64 (EH m (-(ee-tt))).1,D8 (EH m (-(ee-tt))).2])/\W=w'):=Hi (fun W=>bK m _ mb (by omega) (by omega) W);obtain⟨pk,hpk⟩:∃pk,pk=EH m (-(ee-tt)):=⟨_,rfl⟩;rw[<-hpk]at C3⊢;have e1: -5000<=ee-tt:=by omega
  have e2:ee-tt<=5000:=by omega
  have kk:¬64<=k:=by omega
  have kk2:decide ((64:Int)<=(k:Int))=false:=BC;have xb:(x:Int)<=18446744073709551615:=by omega
  have t1:=tb.1;have t2:=tb.2;clear hres hpk hm mb hu2 vb u2b hcc htt hv hu1 u1b tb u57 q1 q2 q3 q4 q5 PL bx k64 k8 h64;go_enter Tryz.func284,Tryz.ntmps284
  go_wp2_with ((first|(go_at_call 191;(with_reducible refine(CL.out _).mono ?_))|(go_at_call 232;(with_reducible refine(CP.out _).mono ?_)));rintro e w' ⟨rfl,rfl⟩)
  generalize hW:w.alloc _=W1;have c0:W1.cell? ⟨w.heap.size,0,none⟩=some (.int .u64 0):=by subst hW;go_simp
  have c1:W1.cell? ⟨w.heap.size,1,none⟩=some (.int .u64 0):=by subst hW;go_simp
  have c2:W1.cell? ⟨w.heap.size,2,none⟩=some (.int .i64 0):=by subst hW;go_simp
  have f0:W1.frozen? ⟨w.heap.size,0,none⟩=false:=by subst hW;go_simp
  have f1:W1.frozen? ⟨w.heap.size,1,none⟩=false:=by subst hW;go_simp
  have f2:W1.frozen? ⟨w.heap.size,2,none⟩=false:=by subst hW;go_simp
  have bl:Below w.heap.size w W1:=by subst hW;exact(AH _ _).alloc (nR _) _
  have hT1:=Hi (hT.out.below bl h16);clear hW
  go_wp2_with ((first|(go_at_call 231;(with_reducible refine(CPr.out W1 hT1 c0 c1 c2 f0 f1 f2).mono ?_)));rintro e w' ⟨rfl,rfl⟩)
  generalize hW2:((W1.setCell _ _).setCell _ _).setCell _ _=W2;have d0:W2.cell? ⟨w.heap.size,0,none⟩=some (.int .u64 hh):=by subst hW2;go_simp
  have d1:W2.cell? ⟨w.heap.size,1,none⟩=some (.int .u64 lo):=by subst hW2;go_simp
  have d2:W2.cell? ⟨w.heap.size,2,none⟩=some (.int .i64 k):=by subst hW2;go_simp
  have bl2:Below w.heap.size w W2:=by
   subst hW2
   iterate 3 refine By ?_ (by simp) _
   exact bl
  clear hW2 c0 c1 c2 f0 f1 f2 bl
  go_wp2_with (go_at_call 233;(with_reducible refine(CU.out W2 d0 d1 d2).mono ?_);rintro e w' ⟨n,rfl,rfl⟩)
  go_wp2_with ((first|(go_at_call 238;(with_reducible refine(eU _).mono ?_))|(go_at_call 204;(with_reducible refine(C1.out _).mono ?_))|(go_at_call 237;(with_reducible refine(C2.out _).mono ?_))|(go_at_call 293;(with_reducible refine(C3.out _).mono ?_)));rintro e w' ⟨rfl,rfl⟩)
  go_ret2;exact⟨rfl,bl2.trans ⟨rfl,rfl,rfl,nR _,fun _ _=>rfl⟩⟩
end Go.Proofs
end
section
namespace Go.Pf
def num (A:Nat->Nat):Nat->Nat
 |0=>0
 |n+1=>num A n*10+(A n-48)
structure EF (w:World) (b:Nat) (A:Nat->Nat) (nd:Nat) (dp:Int) (tr:Bool):Prop where
 le:nd<=800
 Bq:∀i,i<nd->48<=A i/\A i<=57
 cell:∀i,i<800->w.cell? ⟨b,i,none⟩=some (.int .u8 (A i:Nat))
 Mc:w.cell? ⟨b,800,none⟩=some (.int .i64 nd)
 Qh:w.cell? ⟨b,801,none⟩=some (.int .i64 dp)
 Wq:w.cell? ⟨b,802,none⟩=some (.bool false)
 TU:w.cell? ⟨b,803,none⟩=some (.bool tr)
 fz:∀i,w.frozen? ⟨b,i,none⟩=false
theorem other {w:World} {b i j:Nat} {v u:Value}(hc:w.cell? ⟨b,j,none⟩=some v) (h:i≠j):(w.setCell ⟨b,i,none⟩ u).cell? ⟨b,j,none⟩=some v:=by
 rw[World.cell?_setCell_other (h:=fun e=>h (congrArg Addr.off e)),hc]
theorem Cy {w:World} {b i:Nat} {v u:Value}(hc:w.cell? ⟨b,i,none⟩=some v):(w.setCell ⟨b,i,none⟩ u).cell? ⟨b,i,none⟩=some u:=by
 exact World.cell?_setCell_same _ _ _ hc
theorem EF.same {w w':World} {b:Nat} {A:Nat->Nat} {nd:Nat} {dp:Int} {tr:Bool}(h:EF w b A nd dp tr) (e:w'.heap=w.heap):EF w' b A nd dp tr:=by
 have c:∀a,w'.cell? a=w.cell? a:=fun a=>World.cell?_of_block (by rw[e]);have f:∀a,w'.frozen? a=w.frozen? a:=fun a=>World.frozen?_of_block (by rw[e]);exact⟨h.le,h.Bq,fun i hi=>(c _).trans (h.cell i hi),(c _).trans h.Mc,(c _).trans h.Qh,(c _).trans h.Wq,(c _).trans h.TU,fun i=>(f _).trans (h.fz i)⟩
theorem EF.SF {w:World} {b:Nat} {A:Nat->Nat} {nd:Nat} {dp:Int} {tr:Bool}(h:EF w b A nd dp tr) (n:Nat) (hn:n<=800) (hd:∀i,i<n->48<=A i/\A i<=57):
 EF (w.setCell ⟨b,800,none⟩ (.int .i64 n)) b A n dp tr:=
 ⟨hn,hd,fun i hi=>other (h.cell i hi) (by omega),Cy h.Mc,other h.Qh (by decide),other h.Wq (by decide),other h.TU (by decide),fun i=>by rw[World.frozen?_setCell];exact h.fz i⟩
theorem EF.F2 {w:World} {b:Nat} {A:Nat->Nat} {nd:Nat} {dp:Int} {tr:Bool}(h:EF w b A nd dp tr) (x:Int):
 EF (w.setCell ⟨b,801,none⟩ (.int .i64 x)) b A nd x tr:=
 ⟨h.le,h.Bq,fun i hi=>other (h.cell i hi) (by omega),other h.Mc (by decide),Cy h.Qh,other h.Wq (by decide),other h.TU (by decide),fun i=>by rw[World.frozen?_setCell];exact h.fz i⟩
theorem EF.SN {w:World} {b:Nat} {A:Nat->Nat} {nd:Nat} {dp:Int} {tr:Bool}(h:EF w b A nd dp tr) (x:Bool):
 EF (w.setCell ⟨b,803,none⟩ (.bool x)) b A nd dp x:=
 ⟨h.le,h.Bq,fun i hi=>other (h.cell i hi) (by omega),other h.Mc (by decide),other h.Qh (by decide),other h.Wq (by decide),Cy h.TU,fun i=>by rw[World.frozen?_setCell];exact h.fz i⟩
theorem EF.Nq {w:World} {b:Nat} {A:Nat->Nat} {nd:Nat} {dp:Int} {tr:Bool}(h:EF w b A nd dp tr) (k v:Nat) (hk:k<800) (n:Nat) (hn:n=nd) (hd:∀i,i<n->i≠k->48<=A i/\A i<=57) (hv:k<n->48<=v/\v<=57):
 EF (w.setCell ⟨b,k,none⟩ (.int .u8 (v:Nat))) b (fun i=>if i=k then v else A i) nd dp tr:=by
 subst hn;refine⟨h.le,fun i hi=> ?_,fun i hi=> ?_,other h.Mc (by omega),other h.Qh (by omega),other h.Wq (by omega),other h.TU (by omega),fun i=>by rw[World.frozen?_setCell];exact h.fz i⟩
 ·by_cases e:i=k
  ·subst e;simp only[if_pos];exact hv hi
  ·simp only[if_neg e];exact hd i hi e
 ·by_cases e:i=k
  ·subst e;simp only[if_pos];exact Cy (h.cell i hi)
  ·simp only[if_neg e];exact other (h.cell i hi) (Ne.symm e)
end Go.Pf
namespace Go.Proofs
open Go.RowKit Go.Pf
theorem Au {B n:Nat} {a w:World}(h:Below B a w):Below B a (w.drewN n):=h.trans ⟨rfl,rfl,rfl,nR _,fun _ _=>rfl⟩
def UD (w:World) (B b:Nat) (A:Nat->Nat) (nd:Nat) (dp:Int) (tr:Bool) (e:Ending) (w':World):Prop:=
 e= .returned (.tuple #[])/\∃n,n<=nd/\(n=0\/A (n-1)≠48)/\(∀i,n<=i->i<nd->A i=48)/\EF w' b A n (if n=0 then 0 else dp) tr/\Below B w w'
theorem VC (B b:Nat) (A:Nat->Nat) (nd:Nat) (dp:Int) (tr:Bool) (w:World) (hB:B<=b) (hD:Hid (EF w b A nd dp tr)):
 Calls Tryz.prog 240 #[.pointer (some ⟨b,0,none⟩)] w (UD w B b A nd dp tr):=by
 go_enter Tryz.func240,Tryz.ntmps240;go_wp2
 go_loopg [] nd (fun g wr=>∃n,n=g/\n<=nd/\Hid (EF wr b A n dp tr)/\(∀i,n<=i->i<nd->A i=48)/\Below B w wr)
 case atStart=>exact⟨nd,rfl,nR _,hD,fun i h1 h2=>by omega,AH _ _⟩
 case round=>
  obtain⟨n,rfl,hn,hd,hz,hbl⟩:=hrel;have k0:=hd.out.Mc;have k1:=hd.out.fz 800;have k2:=hd.out.Qh;have k3:=hd.out.fz 801;have HZ:=Hi hz;have HB:=Hi hbl;clear hz hbl;by_cases h0:n=0
  ·subst h0;go_wp2
   go_quiet (fail)
   go_wp2
   go_end0
   have hd2:EF (wr.drewN nq) b A 0 dp tr:=hd.out.same rfl;exact⟨rfl,0,Nat.zero_le _,.inl rfl,HZ.out,hd2.F2 0,(Au HB.out).setCell (p:=⟨b,801,none⟩) hB _⟩
  ·obtain⟨m,rfl⟩:∃m,n=m+1:=⟨n-1,by omega⟩;have mn:m<800:=by have:=hd.out.le;omega
   have mi:(m:Int)<800:=by omega
   have cm:=hd.out.cell m mn;have fm:=hd.out.fz m;by_cases h48:A m=48
   ·have a1:((A m:Int)==48)=true:=QC (n:=48) h48;have H48:=Hi h48;clear h48;go_wp2
    go_quiet (fail)
    go_wp2;have hd2:EF (wr.drewN nq) b A (m+1) dp tr:=hd.out.same rfl;have HD2:=Hi (hd2.SF m (by omega) (fun i hi=>hd2.Bq i (by omega)));clear hd2
    go_roundg m
    case measure=>omega
    case rel=>
     refine⟨m,rfl,by omega,HD2,fun i h1 h2=> ?_,(Au HB.out).setCell (p:=⟨b,800,none⟩) hB _⟩;by_cases e:i=m
     ·subst e;exact H48.out
     ·exact HZ.out i (by omega) h2
   ·have a1:((A m:Int)==48)=false:=Bn (n:=48) h48;have H48:=Hi h48;clear h48;go_wp2
    go_quiet (fail)
    go_wp2
    go_end0
    exact⟨rfl,m+1,hn,.inr H48.out,HZ.out,hd.out.same rfl,Au HB.out⟩
end Go.Proofs
end
section
namespace Go.Pf
def I8 (A:Nat->Nat) (nd:Nat) (tr:Bool) (n:Int):Bool:=
 if n<0\/(nd:Int)<=n then false
 else if A n.toNat=53/\n.toNat+1=nd then(tr||(decide (0<n.toNat)&&decide ((A (n.toNat-1)-48) %2≠0)))
 else decide (53<=A n.toNat)
def Ax (A:Nat->Nat) (nd:Nat):Nat->Nat
 |0=>0
 |t+1=>Ax A nd t*10+(if t<nd then A t-48 else 0)
def Ef (A:Nat->Nat) (nd:Nat) (tr:Bool) (dp:Int):Nat:=
 if 20<dp then 18446744073709551615
 else(Ax A nd dp.toNat+(if I8 A nd tr dp then 1 else 0)) %18446744073709551616
theorem Nx (x c:Nat):((x %18446744073709551616*10) %18446744073709551616+c) %18446744073709551616=(x*10+c) %18446744073709551616:=by omega
end Go.Pf
namespace Go.Proofs
open Go.RowKit Go.Pf
theorem Lu (b:Nat) (A:Nat->Nat) (nd:Nat) (dp:Int) (tr:Bool) (n:Int) (w:World) (hD:Hid (EF w b A nd dp tr)) (h1: -100000<=n) (h2:n<=100000):
 Calls Tryz.prog 243 #[.pointer (some ⟨b,0,none⟩),.int .i64 n] w fun e w'=>e= .returned (.bool (I8 A nd tr n))/\w=w':=by
 have k0:=hD.out.Mc;have k1:=hD.out.TU;have kle:=hD.out.le;by_cases hn:n<0
 ·have hr:I8 A nd tr n=false:=by unfold I8;rw[if_pos (.inl hn)]
  rw[hr];clear hr;go_enter Tryz.func243,Tryz.ntmps243;go_wp2;go_ret;exact⟨rfl,rfl⟩
 ·obtain⟨m,rfl⟩:∃m:Nat,n=m:=⟨n.toNat,by omega⟩;by_cases hm:nd<=m
  ·have hr:I8 A nd tr m=false:=by unfold I8;rw[if_pos (.inr (by omega))]
   rw[hr];clear hr;go_enter Tryz.func243,Tryz.ntmps243;go_wp2;go_ret;exact⟨rfl,rfl⟩
  ·have mlt:m<nd:=by omega
   have m8:m<800:=by omega
   have cm:=hD.out.cell m m8;have dm:=hD.out.Bq m mlt;have hr0:I8 A nd tr m=if A m=53/\m+1=nd then(tr||(decide (0<m)&&decide ((A (m-1)-48) %2≠0)))else decide (53<=A m):=by
    unfold I8;rw[if_neg (by omega)];rfl
   by_cases h53:A m=53
   ·have a1:((A m:Int)==53)=true:=QC (n:=53) h53;by_cases hl:m+1=nd
    ·rw[if_pos ⟨h53,hl⟩]at hr0;have a2:(((m:Int)+1)==(nd:Int))=true:=by rw[<-hl];simp
     cases tr with
     |true=>
      rw[hr0];clear hr0 h53;subst hl;go_enter Tryz.func243,Tryz.ntmps243;go_wp2;go_ret;exact⟨rfl,rfl⟩
     |false=>
      by_cases h0:m=0
      ·subst h0;have:I8 A nd false (0:Nat)=false:=by rw[hr0];simp
       rw[this];clear hr0 h53 this;subst hl;go_enter Tryz.func243,Tryz.ntmps243;go_wp2;go_ret;exact⟨rfl,rfl⟩
      ·obtain⟨j,hj⟩:∃j,j=m-1:=⟨_,rfl⟩;have cj:=hD.out.cell j (by omega);have dj:=hD.out.Bq j (by omega);obtain⟨x,hx⟩:∃x:Nat,x=A j-48:=⟨_,rfl⟩;have x1:(A j:Int)-48=(x:Int):=by omega
       have x9:(x:Int)<=9:=by omega
       have hs:I8 A nd false (m:Int)=decide (x %2≠0):=by rw[hr0,<-hj,<-hx];simp;omega
       rw[hs];have mi:(j:Int)<800:=by omega
       have mj1:(m:Int)-1=(j:Int):=by omega
       have mj2:m-1=j:=hj.symm;have mp:0<m:=by omega
       clear hr0 h53 hs hx hj;by_cases hp:x %2=0
       ·have p1:(x:Int) %2=0:=by omega
        rw[AS (by omega)];clear hp;go_enter Tryz.func243,Tryz.ntmps243;go_wp2;go_ret;exact⟨rfl,rfl⟩
       ·have p1:(x:Int) %2=1:=by omega
        rw[AN hp];clear hp;go_enter Tryz.func243,Tryz.ntmps243;go_wp2;go_ret;exact⟨rfl,rfl⟩
    ·rw[if_neg (fun h=>hl h.2)]at hr0;have a2:(((m:Int)+1)==(nd:Int))=false:=by rw[Lq];intro h;have:=eq_of_beq h;omega
     have:I8 A nd tr m=true:=by rw[hr0];simp;omega
     rw[this];have a3:(53:Int)<=(A m:Int):=by omega
     clear hr0 h53 this;go_enter Tryz.func243,Tryz.ntmps243;go_wp2;go_ret;exact⟨rfl,rfl⟩
   ·have a1:((A m:Int)==53)=false:=Bn (n:=53) h53;rw[if_neg (fun h=>h53 h.1)]at hr0;have a3:decide ((53:Int)<=(A m:Int))=decide (53<=A m):=by congr 1;simp;omega
    rw[hr0];clear hr0 h53;go_enter Tryz.func243,Tryz.ntmps243;go_wp2;go_ret;exact⟨rfl,rfl⟩
theorem Lf (b:Nat) (A:Nat->Nat) (nd:Nat) (dp:Int) (tr:Bool) (w:World) (hD:Hid (EF w b A nd dp tr)) (h1: -100000<=dp) (h2:dp<=100000):
 Calls Tryz.prog 292 #[.pointer (some ⟨b,0,none⟩)] w fun e w'=>e= .returned (.int .u64 (Ef A nd tr dp:Nat))/\w=w':=by
 have k0:=hD.out.Mc;have k1:=hD.out.Qh;have kle:=hD.out.le;by_cases h20:20<dp
 ·have hr:Ef A nd tr dp=18446744073709551615:=by unfold Ef;rw[if_pos h20]
  rw[hr];clear hr;go_enter Tryz.func292,Tryz.ntmps292;go_wp2;go_ret;exact⟨rfl,rfl⟩
 ·have hr:Ef A nd tr dp=(Ax A nd dp.toNat+(if I8 A nd tr dp then 1 else 0)) %18446744073709551616:=by unfold Ef;rw[if_neg h20]
  rw[hr];clear hr;obtain⟨sr,hsr⟩:∃sr,sr=I8 A nd tr dp:=⟨_,rfl⟩;have CS:Hid (∀W,w=W->Calls Tryz.prog 243 #[.pointer (some ⟨b,0,none⟩),.int .i64 dp] W fun e w'=>e= .returned (.bool sr)/\W=w'):=Hi (fun W hW=>by subst hW;rw[hsr];exact Lu b A nd dp tr dp w hD h1 h2);rw[<-hsr];obtain⟨X,hX⟩:∃X,X=Ax A nd dp.toNat:=⟨_,rfl⟩;have HX:=Hi hX;rw[<-hX];obtain⟨R,hR⟩:∃R,R=(X+if sr=true then 1 else 0) %18446744073709551616:=⟨_,rfl⟩;have HR:=Hi hR;rw[<-hR];clear hsr hX hR;go_enter Tryz.func292,Tryz.ntmps292;go_wp2
  go_loop [3,4] (fun iv nv=>∃(i n:Nat),iv= .int .i64 i/\nv= .int .u64 n/\n=Ax A nd i %18446744073709551616/\(i:Int)<=max 0 dp/\i<=nd) (fun iv _=>1000-(intOf iv).toNat)
  case atStart=>exact⟨0,0,rfl,rfl,rfl,by omega,by omega⟩
  case round=>
   obtain⟨i,n,rfl,rfl,hn,hi,hid⟩:=hrel;by_cases hc:(i:Int)<dp/\i<nd
   ·obtain⟨c1,c2⟩:=hc;have i8:i<800:=by omega
    have ci:=hD.out.cell i i8;have di:=hD.out.Bq i c2;obtain⟨c,hcc⟩:∃c,c=A i-48:=⟨_,rfl⟩;have x1:(A i:Int)-48=(c:Int):=by omega
    have x9:(c:Int)<=9:=by omega
    obtain⟨n1,hn1⟩:∃n1,n1=n*10 %18446744073709551616:=⟨_,rfl⟩;obtain⟨n2,hn2⟩:∃n2,n2=(n1+c) %18446744073709551616:=⟨_,rfl⟩;have f1:IntKind.u64.wrap ((n:Int)*10)=(n1:Int):=by rw[IntKind.wrap_u64,hn1];omega
    have f2:IntKind.u64.wrap ((n1:Int)+(c:Int))=(n2:Int):=by rw[IntKind.wrap_u64,hn2];omega
    have hnext:n2=Ax A nd (i+1) %18446744073709551616:=by
     rw[Ax,if_pos c2,<-hcc,hn2,hn1,hn];exact Nx _ c
    have HN:=Hi hnext;clear hnext hn hn1 hn2 hcc di;go_wp2;go_round
    case rel=>exact⟨i+1,n2,by go_num,rfl,HN.out,by omega,by omega⟩
    case measure=>simp[intOf];omega
   ·have HN:=Hi hn;clear hn;have hcc:decide ((i:Int)<dp)=false\/(decide ((i:Int)<dp)=true/\¬i<nd):=by
     by_cases h:(i:Int)<dp
     ·exact .inr ⟨AN h,fun h'=>hc ⟨h,h'⟩⟩
     ·exact .inl (AS h)
    have hor:nd<=i\/dp<=(i:Int):=by omega
    clear hc;rcases hcc with hcc|⟨hcc,hcn⟩
    all_goals
     go_wp2
     go_loop [3,4] (fun iv nv=>∃(i n:Nat),iv= .int .i64 i/\nv= .int .u64 n/\n=Ax A nd i %18446744073709551616/\(i:Int)<=max 0 dp/\(nd<=i\/dp<=(i:Int))) (fun iv _=>1000-(intOf iv).toNat)
     case atStart=>exact⟨i,n,rfl,rfl,HN.out,hi,hor⟩
     case round=>
      obtain⟨i2,m,rfl,rfl,hm,hi2,hor2⟩:=hrel;by_cases hc:(i2:Int)<dp
      ·have hnd:¬i2<nd:=by omega
       obtain⟨n1,hn1⟩:∃n1,n1=m*10 %18446744073709551616:=⟨_,rfl⟩;have f1:IntKind.u64.wrap ((m:Int)*10)=(n1:Int):=by rw[IntKind.wrap_u64,hn1];omega
       have hnext:n1=Ax A nd (i2+1) %18446744073709551616:=by
        rw[Ax,if_neg hnd,hn1,hm];omega
       have HM:=Hi hnext;clear hnext hn1 hm;go_wp2;go_round
       case rel=>exact⟨i2+1,n1,by go_num,rfl,HM.out,by omega,by omega⟩
       case measure=>simp[intOf];omega
      ·have hid:i2=dp.toNat:=by omega
       rw[hid,<-HX.out]at hm;have hm2:(m:Int)<18446744073709551616:=by omega
       have e1:decide ((i2:Int)<dp)=false:=AS hc;cases sr with
       |true=>
        obtain⟨n3,hn3⟩:∃n3,n3=(m+1) %18446744073709551616:=⟨_,rfl⟩;have f3:IntKind.u64.wrap ((m:Int)+1)=(n3:Int):=by rw[IntKind.wrap_u64,hn3];omega
        have HM:R=n3:=by rw[HR.out,hn3,hm];simp
        subst HM;clear hm hn3 hid hc
        go_wp2_with (go_at_call 243;(with_reducible refine(CS.out _ rfl).mono ?_);rintro e w' ⟨rfl,rfl⟩)
        go_ret;exact⟨rfl,rfl⟩
       |false=>
        have HM:R=m:=by rw[HR.out,hm];simp
        subst HM;clear hm hid hc
        go_wp2_with (go_at_call 243;(with_reducible refine(CS.out _ rfl).mono ?_);rintro e w' ⟨rfl,rfl⟩)
        go_ret;exact⟨rfl,rfl⟩
end Go.Proofs
end
section
namespace Go.Pf
theorem MG {A A':Nat->Nat} :∀n,(∀i,i<n->A i=A' i)->num A n=num A' n
 |0,_=>rfl
 |n+1,h=>by rw[num,num,MG n (fun i hi=>h i (by omega)),h n (by omega)]
theorem Ry {A:Nat->Nat} {nd:Nat} :∀t,t<=nd->Ax A nd t=num A t
 |0,_=>rfl
 |t+1,h=>by rw[Ax,num,Ry t (by omega),if_pos (by omega)]
theorem Ou {A:Nat->Nat} {nd:Nat}(h0:0<nd) (hA:49<=A 0):∀t,1<=Ax A nd (t+1)
 |0=>by rw[Ax,Ax,if_pos h0];omega
 |t+1=>by rw[Ax];have:=Ou h0 hA t;omega
theorem Ks {O n c P Y:Nat}(h:O*(10*P)+n=Y) (hc:c<=9) (hn:n<10*P) (hP:0<P):
 (O*10+n/P)*(10*P)+(n %P*10+c)=Y*10+c/\n %P*10+c<10*P/\n/P<=9:=by
 have h1:n/P*P+n %P=n:=Nat.div_add_mod' n P;have h2:n %P<P:=gR _ hP;have h3:n/P<10:=(ad hP).2 hn;refine⟨?_,by omega,by omega⟩;rw[<-h];have e1:(O*10+n/P)*(10*P)=10*(O*(10*P))+10*(n/P*P):=by
  rw[UP,So O 10,G0,Nat.mul_left_comm (n/P) 10 P]
 rw[e1];generalize O*(10*P)=X at*;generalize n/P*P=Z at*;omega
theorem Qz {n k g:Nat}(h:2^k∣n*2^(g+1)):2^k∣n %2^k*10*2^g:=by
 have h1:2^k∣n %2^k*2^(g+1):=by
  have e:=Nat.div_add_mod n (2^k);have e2:n*2^(g+1)=2^k*(n/2^k*2^(g+1))+n %2^k*2^(g+1):=by
   conv=>lhs;rw[<-e]
   rw[UP,G0]
  rw[e2]at h;exact(Nat.dvd_add_right (Nat.dvd_mul_right _ _)).1 h
 have e3:n %2^k*10*2^g=n %2^k*2^(g+1)*5:=by
  rw[gj,G0 (n %2^k),G0 (n %2^k)];congr 1;omega
 rw[e3];exact Nat.dvd_trans h1 (Nat.dvd_mul_right _ _)
theorem Tu {n k:Nat}(h:2^k∣n*2^0):n %2^k=0:=by rw[gf,gY]at h;exact Nat.mod_eq_zero_of_dvd h
structure QG (A:Nat->Nat) (nd:Nat) (dp:Int) (tr:Bool) (k:Nat) (A':Nat->Nat) (w:Nat) (dp':Int) (tr':Bool):Prop where
 ex:∃V c r,1<=r/\nd<=c+r/\V*(10*2^k)=Ax A nd (c+r)/\dp'=dp-r+1/\w=min c 800/\num A' w=V/10^(c-w)/\tr'=(tr||decide (V %10^(c-w)≠0))/\2^k<=Ax A nd r/\Ax A nd (r-1)<2^k
 pos:0<w
 lead:49<=A' 0
 Bq:∀i,i<w->48<=A' i/\A' i<=57
end Go.Pf
end
section
namespace Go.Pf
open Go.RowKit
def MX (A:Nat->Nat) (k v:Nat):Nat->Nat:=fun i=>if i=k then v else A i
theorem Ci (A:Nat->Nat) (k v:Nat):MX A k v k=v:=by simp[MX]
theorem BZ {A:Nat->Nat} {k v i:Nat}(h:i≠k):MX A k v i=A i:=by simp[MX,h]
theorem SA (A:Nat->Nat) (k v:Nat):num (MX A k v) (k+1)=num A k*10+(v-48):=by
 rw[num,Ci,MG k (fun i hi=>BZ (by omega))]
structure P2 (A:Nat->Nat) (nd:Nat) (dp:Int) (tr:Bool) (PP r1 b B:Nat) (w0:World) (r wc n:Nat) (A':Nat->Nat) (wr:World):Prop where
 dec:EF wr b A' nd dp tr
 Ad:Below B w0 wr
 old:∀i,r<=i->A' i=A i
 Ln:wc+r1=r
 le:r<=nd\/r=r1
 val:num A' wc*(10*PP)+n=Ax A nd r
 lt:n<10*PP
 lead:(wc=0/\PP<=n)\/(0<wc/\49<=A' 0)
 Bq:∀i,i<wc->48<=A' i/\A' i<=57
theorem P2.next {A:Nat->Nat} {nd:Nat} {dp:Int} {tr:Bool} {PP r1 b B:Nat} {w0:World} {r wc n:Nat} {A':Nat->Nat} {wr:World}(h:P2 A nd dp tr PP r1 b B w0 r wc n A' wr) (h1:1<=r1) (hB:B<=b) (hp:0<PP) (hr:r<nd) (hdA:48<=A r/\A r<=57){q n2:Nat}(hq:q=n/PP) (hn2:n2=n %PP*10+(A r-48)):
 P2 A nd dp tr PP r1 b B w0 (r+1) (wc+1) n2 (MX A' wc (q+48)) (wr.setCell ⟨b,wc,none⟩ (.int .u8 ((q+48:Nat):Int))):=by
 have hw:wc<r:=by have:=h.Ln;omega
 have hle:=h.dec.le;obtain⟨s1,s2,s3⟩:=Ks h.val (c:=A r-48) (by omega) h.lt hp;rw[<-hn2,<-hq]at s1;rw[<-hn2]at s2;rw[<-hq]at s3;have hq1:wc=0->1<=q:=by
  intro h0;rcases h.lead with⟨_,h2⟩|⟨h2,_⟩
  ·rw[hq];exact(gP hp).2 (by omega)
  ·omega
 have Db:∀i,i<nd->48<=MX A' wc (q+48) i/\MX A' wc (q+48) i<=57:=by
  intro i hi;by_cases e:i=wc
  ·subst e;rw[Ci];omega
  ·rw[BZ e];exact h.dec.Bq i hi
 refine⟨h.dec.Nq wc (q+48) (by omega) nd rfl (fun i hi _=>h.dec.Bq i hi) (fun _=>by omega),h.Ad.setCell (p:=⟨b,wc,none⟩) hB _,?_,by have:=h.Ln;omega,.inl (by omega),?_,s2,.inr ⟨by omega,?_⟩,?_⟩
 ·intro i hi;rw[BZ (by omega)];exact h.old i (by omega)
 ·rw[SA,Ax,if_pos hr];have:q+48-48=q:=by omega
  rw[this];exact s1
 ·by_cases e:wc=0
  ·subst e;rw[Ci];have:=hq1 rfl;omega
  ·rw[BZ (by omega)];rcases h.lead with⟨h2,_⟩|⟨_,h2⟩
   ·omega
   ·exact h2
 ·intro i hi;by_cases e:i=wc
  ·subst e;rw[Ci];omega
  ·rw[BZ e];exact h.Bq i (by omega)
structure P3 (A:Nat->Nat) (nd:Nat) (dp:Int) (tr:Bool) (PP r1 b B:Nat) (w0:World) (wc n V c:Nat) (A':Nat->Nat) (tr':Bool) (wr:World):Prop where
 dec:∃m,EF wr b A' m dp tr'
 Ad:Below B w0 wr
 end_:nd<=c+r1
 val:V*(10*PP)+n=Ax A nd (c+r1)
 lt:n<10*PP
 lead:(wc=0/\PP<=n)\/(0<wc/\49<=A' 0)
 Bq:∀i,i<wc->48<=A' i/\A' i<=57
 kept:wc=min c 800
 num:num A' wc=V/10^(c-wc)
 cH:tr'=(tr||decide (V %10^(c-wc)≠0))
theorem P2.start {A:Nat->Nat} {nd:Nat} {dp:Int} {tr:Bool} {PP r1 b B:Nat} {w0:World} {r wc n:Nat} {A':Nat->Nat} {wr:World}(h:P2 A nd dp tr PP r1 b B w0 r wc n A' wr) (h1:1<=r1) (hr:nd<=r):
 P3 A nd dp tr PP r1 b B w0 wc n (num A' wc) wc A' tr wr:=by
 have hc:=h.Ln;have hle:=h.dec.le;have hw:wc<=800:=by rcases h.le with h2|h2<;>omega
 refine⟨⟨nd,h.dec⟩,h.Ad,by omega,by rw[hc];exact h.val,h.lt,h.lead,h.Bq,by omega,by simp,by rw[Nat.sub_self,gf,Nat.mod_one];simp⟩
theorem P3.next {A:Nat->Nat} {nd:Nat} {dp:Int} {tr:Bool} {PP r1 b B:Nat} {w0:World} {wc n V c:Nat} {A':Nat->Nat} {tr':Bool} {wr:World}(h:P3 A nd dp tr PP r1 b B w0 wc n V c A' tr' wr) (hB:B<=b) (hp:0<PP) (hr:wc<800){q n2:Nat}(hq:q=n/PP) (hn2:n2=n %PP*10):
 P3 A nd dp tr PP r1 b B w0 (wc+1) n2 (V*10+q) (c+1) (MX A' wc (q+48)) tr' (wr.setCell ⟨b,wc,none⟩ (.int .u8 ((q+48:Nat):Int))):=by
 have hk:=h.kept;have hc:wc=c:=by omega
 have he:=h.end_;obtain⟨s1,s2,s3⟩:=Ks h.val (c:=0) (by omega) h.lt hp;rw[gZ,<-hn2,<-hq]at s1;rw[gZ,<-hn2]at s2;rw[<-hq]at s3;obtain⟨m,hD⟩:=h.dec;have hn:=h.num;rw[hc,Nat.sub_self,gf,Nat.div_one,<-hc]at hn;have hq1:wc=0->1<=q:=by
  intro h0;rcases h.lead with⟨_,h2⟩|⟨h2,_⟩
  ·rw[hq];exact(gP hp).2 (by omega)
  ·omega
 have ht:=h.cH;rw[hc,Nat.sub_self,gf,Nat.mod_one]at ht;refine⟨⟨m,hD.Nq wc (q+48) hr m rfl (fun i hi _=>hD.Bq i hi) (fun _=>by omega)⟩,h.Ad.setCell (p:=⟨b,wc,none⟩) hB _,by omega,?_,s2,.inr ⟨by omega,?_⟩,?_,by omega,?_,?_⟩
 ·rw[show c+1+r1=(c+r1)+1 by omega,Ax,if_neg (by omega)];exact s1
 ·by_cases e:wc=0
  ·subst e;rw[Ci];have:=hq1 rfl;omega
  ·rw[BZ (by omega)];rcases h.lead with⟨h2,_⟩|⟨_,h2⟩
   ·omega
   ·exact h2
 ·intro i hi;by_cases e:i=wc
  ·subst e;rw[Ci];omega
  ·rw[BZ e];exact h.Bq i (by omega)
 ·rw[SA,show q+48-48=q by omega,show c+1-(wc+1)=0 by omega,gf,Nat.div_one,hn]
 ·rw[show c+1-(wc+1)=0 by omega,gf,Nat.mod_one];exact ht
theorem P3.drop {A:Nat->Nat} {nd:Nat} {dp:Int} {tr:Bool} {PP r1 b B:Nat} {w0:World} {wc n V c:Nat} {A':Nat->Nat} {tr':Bool} {wr wr2:World}(h:P3 A nd dp tr PP r1 b B w0 wc n V c A' tr' wr) (hp:0<PP) (hr:¬wc<800){q n2:Nat}(hq:q=n/PP) (hn2:n2=n %PP*10) (hD2:∃m,EF wr2 b A' m dp (tr'||decide (q≠0))) (hb2:Below B w0 wr2):
 P3 A nd dp tr PP r1 b B w0 wc n2 (V*10+q) (c+1) A' (tr'||decide (q≠0)) wr2:=by
 have hk:=h.kept;have he:=h.end_;obtain⟨s1,s2,s3⟩:=Ks h.val (c:=0) (by omega) h.lt hp;rw[gZ,<-hn2,<-hq]at s1;rw[gZ,<-hn2]at s2;rw[<-hq]at s3;have hj:c+1-wc=(c-wc)+1:=by omega
 refine⟨hD2,hb2,by omega,?_,s2,?_,h.Bq,by omega,?_,?_⟩
 ·rw[show c+1+r1=(c+r1)+1 by omega,Ax,if_neg (by omega)];exact s1
 ·rcases h.lead with⟨h2,_⟩|h2
  ·omega
  ·exact .inr h2
 ·rw[hj,gj,So (10^(c-wc)) 10,<-SO,show(V*10+q)/10=V by omega];exact h.num
 ·rw[hj,gj,So (10^(c-wc)) 10,Nat.mod_mul,show(V*10+q) %10=q by omega,show(V*10+q)/10=V by omega,h.cH];by_cases h1:q=0
  ·subst h1;generalize V %10^(c-wc)=Z;by_cases h2:Z=0
   ·subst h2;simp
   ·rw[AN h2,AN (show 0+10*Z≠0 by omega)];simp
  ·rw[AN h1,AN (show q+10*(V %10^(c-wc))≠0 by omega)];simp
theorem P3.done {A:Nat->Nat} {nd:Nat} {dp0 dp:Int} {tr:Bool} {k r1 b B:Nat} {w0:World} {wc V c:Nat} {A':Nat->Nat} {tr':Bool} {wr:World}(h:P3 A nd dp tr (2^k) r1 b B w0 wc 0 V c A' tr' wr) (h1:1<=r1) (hdp:dp=dp0-r1+1) (hn1:2^k<=Ax A nd r1) (hpre:Ax A nd (r1-1)<2^k):
 QG A nd dp0 tr k A' wc dp tr':=by
 have h0:0<wc/\49<=A' 0:=by
  rcases h.lead with⟨_,h2⟩|h2
  ·have:=An k;omega
  ·exact h2
 exact⟨⟨V,c,r1,h1,h.end_,h.val,hdp,h.kept,h.num,h.cH,hn1,hpre⟩,h0.1,h0.2,h.Bq⟩
end Go.Pf
end
section
namespace Go.Pf
def Qd (A:Nat->Nat) (nd:Nat):List UInt8->Nat->Bool
 | [],_=>false
 |c::r,i=>if nd<=i then true else if A i=c.toNat then Qd A nd r (i+1)else decide (A i<c.toNat)
theorem Xd {A:Nat->Nat} {nd i:Nat} {l:List UInt8}(h:l.length<=i):Qd A nd (l.drop i) i=false:=by rw[List.drop_eq_nil_of_le h];rfl
theorem VF {A:Nat->Nat} {nd i:Nat} {l:List UInt8}(h:i<l.length):Qd A nd (l.drop i) i=if nd<=i then true else if A i=l[i].toNat then Qd A nd (l.drop (i+1)) (i+1)else decide (A i<l[i].toNat):=by
 rw[List.drop_eq_getElem_cons h];rfl
end Go.Pf
namespace Go.Proofs
open Go.RowKit Go.Pf
theorem I7 (b nd c:Nat) (A:Nat->Nat) (s:ByteArray) (w:World) (hn:nd<=800) (hs:s.size<=100) (hA:Hid (∀i,i<nd->w.cell? ⟨b,i,none⟩=some (.int .u8 (A i:Nat)))):
 Calls Tryz.prog 262 #[.slice (some ⟨b,0,none⟩) nd c,.string s] w fun e w'=>e= .returned (.bool (Qd A nd s.data.toList 0))/\∃n,w'=w.drewN n:=by
 obtain⟨R,hR⟩:∃R,R=Qd A nd s.data.toList 0:=⟨_,rfl⟩;have HR:=Hi hR;rw[<-hR];clear hR;go_enter Tryz.func262,Tryz.ntmps262;go_wp2
 go_loopw [5] (fun iv wr=>∃i:Nat,iv= .int .i64 i/\i<=s.size/\R=Qd A nd (s.data.toList.drop i) i/\∃n,wr=w.drewN n) (fun iv _=>s.size-(intOf iv).toNat)
 case atStart=>exact⟨0,rfl,by omega,by rw[HR.out];rfl,0,rfl⟩
 case round=>
  obtain⟨i,rfl,hi,hr,hh⟩:=hrel;by_cases hlt:i<s.size
  ·have hl:i<s.data.toList.length:=by simpa using hlt
   rw[VF hl]at hr
   replace hr:R=if nd<=i then true else if A i=s[i].toNat then Qd A nd (s.data.toList.drop (i+1)) (i+1)else decide (A i<s[i].toNat):=hr
   have HH:=Hi hh;have he0:wr.heap=w.heap:=by obtain⟨n,rfl⟩:=hh;rfl
   have HE:=Hi he0;have HN:Hid (∀q,∃n,wr.drewN q=w.drewN n):=Hi (fun q=>by obtain⟨n,rfl⟩:=hh;exact⟨n+q,World.drewN_drewN ..⟩);clear hh he0;by_cases hni:nd<=i
   ·rw[if_pos hni]at hr;subst hr;go_wp2;go_ret;exact⟨rfl,HH.out⟩
   ·rw[if_neg hni]at hr;have ci:wr.cell? ⟨b,i,none⟩=some (.int .u8 (A i:Nat)):=by rw[World.cell?_of_block (w:=w) (by rw[HE.out])];exact hA.out i (by omega)
    have i9:(i:Int)<nd:=by omega
    have i8:i<nd:=by omega
    by_cases he:A i=s[i].toNat
    ·rw[if_pos he]at hr;have a1:((A i:Int)==(s[i].toNat:Int))=true:=by rw[he];simp
     have HRR:=Hi hr;clear hr he;go_wp2
     go_quiet (fail)
     go_wp2;go_roundw
     case rel=>exact⟨i+1,by go_num,by omega,HRR.out,HN.out _⟩
     case measure=>simp[intOf];omega
    ·rw[if_neg he]at hr;have a1:((A i:Int)==(s[i].toNat:Int))=false:=by rw[Lq];intro h;have:=eq_of_beq h;omega
     have a2:decide ((A i:Int)<(s[i].toNat:Int))=R:=by rw[hr];congr 1;simp
     have a3:decide (A i<s[i].toNat)=R:=hr.symm;clear hr he;go_wp2
     go_quiet (fail)
     go_wp2
     go_quiet (fail)
     go_wp2;go_ret;refine⟨rfl,?_⟩;rw[World.drewN_drewN];exact HN.out _
  ·rw[Xd (by simpa using(by omega:s.size<=i))]at hr;subst hr;go_wp2;go_ret;exact⟨rfl,hh⟩
end Go.Proofs
end
