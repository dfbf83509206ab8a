import Derived.Test.YtpjcdbjablijkaaGreatDoorTaa
import Derived.Laws.BitsAllLaws
import GoSem.PinnedTables
import Derived.Lib.ItoaNum
import Derived.Deep.LoopGhost
set_option maxRecDepth 1000000
set_option maxHeartbeats 40000000
section
namespace Go.Proofs
open Go.RowKit Go.Pf
theorem frombits_run (n:Int) (w:World):(callFunc 235 #[.int .u64 n]).run Tryz.prog w= .ok (.value (.float .f64 n.toNat)) w:=by
 rw[run_callFunc_extern Tryz.func235 (by kernel_rfl) (by kernel_rfl) (by kernel_rfl) (e:=Extern.MathFloatBits.float64frombits) (by kernel_rfl)]
 rfl
theorem Tryz.log2Pow10 (p:Int) (h1: -400≤p) (h2:p≤400) (w:World):Calls Tryz.prog 183 #[.int .i64 p] w fun e w'=>e= .returned (.int .i64 (p*108853/32768))∧w=w':=by
 go_enter Tryz.func183,Tryz.ntmps183
 go_wp2
 go_ret
 exact⟨rfl,rfl⟩
theorem Tryz.bool2i (b:Bool) (w:World):Calls Tryz.prog 189 #[.bool b] w fun e w'=>e= .returned (.int .i64 (if b then 1 else 0))∧w=w':=by
 cases b
 all_goals
  go_enter Tryz.func189,Tryz.ntmps189
  go_wp2
  go_ret
  exact⟨rfl,rfl⟩
theorem Tryz.bool2u (b:Bool) (w:World):Calls Tryz.prog 212 #[.bool b] w fun e w'=>e= .returned (.int .u64 (if b then 1 else 0))∧w=w':=by
 cases b
 all_goals
  go_enter Tryz.func212,Tryz.ntmps212
  go_wp2
  go_ret
  exact⟨rfl,rfl⟩
theorem Tryz.unmin (w:World):Calls Tryz.prog 190 #[.int .u64 9007199254740992] w fun e w'=>e= .returned (.int .u64 36028797018963966)∧w=w':=by
 go_enter Tryz.func190,Tryz.ntmps190
 go_wp2
 go_ret
 exact⟨rfl,rfl⟩
theorem Tryz.urnd (u:Nat) (hu:u<1152921504606846976) (w:World):Calls Tryz.prog 188 #[.int .u64 u] w fun e w'=>e= .returned (.int .u64 ((u+1+u/4 %2)/4:Nat))∧w=w':=by
 obtain⟨v,hv⟩:∃v,v=u/4:=⟨_,rfl⟩
 obtain⟨t,ht⟩:∃t,t=v %2:=⟨_,rfl⟩
 have f1:(u:Int)/4=(v:Int):=by omega
 have f2:bits .and .u64 (v:Int) 1=(t:Int):=by
  have:=u64_and_nat v 1 (by omega) (by omega)
  rw[Nat.and_one_is_mod,←ht]at this
  exact this
 have f3:(t:Int)≤1:=by omega
 have f4:(u:Int)<1152921504606846976:=by omega
 have HR:Hid ((((u+1+u/4 %2)/4:Nat):Int)=((u:Int)+1+(t:Int))/4):=Hi (by omega)
 clear hv ht
 go_enter Tryz.func188,Tryz.ntmps188
 go_wp2
 go_ret
 rw[HR.out]
 exact⟨rfl,rfl⟩
end Go.Proofs
end
section
namespace Go.Pf
def packN (m:Nat) (e:Int):Nat×Bool:=
 if m&&&4503599627370496=0 then(m,false)
 else if 972≤e then((m&&&9223372036854775808)|||9218868437227405312,true)
 else((m&&&18442240474082181119)|||((1075+e).toNat*4503599627370496),false)
def errRange (b:Bool):Value:=if b then .iface 136 (.int .i64 1)else .nilIface
end Go.Pf
namespace Go.Proofs
open Go.RowKit Go.Pf
theorem frombits_nat (n:Nat) (w:World):(callFunc 235 #[.int .u64 (n:Int)]).run Tryz.prog w= .ok (.value (.float .f64 n)) w:=frombits_run n w
theorem Tryz.pack64 (m:Nat) (x:Int) (hm:m<18446744073709551616) (hx: -1074≤x) (hx2:x≤5000) (w:World):
 Calls Tryz.prog 243 #[.int .u64 m,.int .i64 x] w fun e w'=>e= .returned (.tuple #[.float .f64 (packN m x).1,errRange (packN m x).2])∧w=w':=by
 have f1:bits .and .u64 (m:Int) 4503599627370496=((m&&&4503599627370496:Nat):Int):=u64_and_nat m 4503599627370496 hm (by decide)
 obtain⟨a,ha⟩:∃a,a=m&&&4503599627370496:=⟨_,rfl⟩
 rw[←ha]at f1
 have HA:=Hi ha
 by_cases h0:a=0
 ·have hr:packN m x=(m,false):=by unfold packN;rw[←ha,if_pos h0]
  rw[hr]
  have z:((a:Int)==0)=true:=by rw[h0];rfl
  clear h0 ha hr
  go_enter Tryz.func243,Tryz.ntmps243
  go_wp2
  rw[frombits_nat,Oper.upon_value]
  go_wp2
  go_ret2
  exact⟨rfl,rfl⟩
 ·have z:((a:Int)==0)=false:=eqf (n:=0) h0
  by_cases h1:972≤x
  ·obtain⟨b,hb⟩:∃b,b=m&&&9223372036854775808:=⟨_,rfl⟩
   obtain⟨c,hc⟩:∃c,c=b|||9218868437227405312:=⟨_,rfl⟩
   have hb2:b<18446744073709551616:=by rw[hb];exact Nat.lt_of_le_of_lt Nat.and_le_left hm
   have f2:bits .and .u64 (m:Int) 9223372036854775808=(b:Int):=by rw[hb];exact u64_and_nat m 9223372036854775808 hm (by decide)
   have f3:bits .or .u64 (b:Int) 9218868437227405312=(c:Int):=by rw[hc];exact u64_or_nat b 9218868437227405312 hb2 (by decide)
   have hr:packN m x=(c,true):=by unfold packN;rw[←ha,if_neg h0,if_pos h1,←hb,←hc]
   rw[hr]
   have z2:decide (972≤x)=true:=decide_eq_true h1
   clear h0 ha hr hb hc hb2 h1
   go_enter Tryz.func243,Tryz.ntmps243
   go_wp2
   rw[frombits_nat,Oper.upon_value]
   go_wp2
   go_ret2
   exact⟨rfl,rfl⟩
  ·obtain⟨b,hb⟩:∃b,b=m&&&18442240474082181119:=⟨_,rfl⟩
   obtain⟨y,hy⟩:∃y:Nat,y=(1075+x).toNat:=⟨_,rfl⟩
   obtain⟨c,hc⟩:∃c,c=b|||(y*4503599627370496):=⟨_,rfl⟩
   have hb2:b<18446744073709551616:=by rw[hb];exact Nat.lt_of_le_of_lt Nat.and_le_left hm
   have f0:1075+x=(y:Int):=by omega
   have hy2:(y:Int)≤2046:=by omega
   have f2:bits .andNot .u64 (m:Int) 4503599627370496=(b:Int):=by rw[hb];exact u64_andNot_nat m 4503599627370496 hm (by decide)
   have f3:bits .or .u64 (b:Int) ((y:Int)*4503599627370496)=(c:Int):=by
    rw[hc]
    have:=u64_or_nat b (y*4503599627370496) hb2 (by omega)
    rw[Int.natCast_mul]at this
    exact this
   have hr:packN m x=(c,false):=by unfold packN;rw[←ha,if_neg h0,if_neg h1,←hb,←hy,←hc]
   rw[hr]
   have z2:decide (972≤x)=false:=decide_eq_false h1
   clear h0 ha hr hb hc hb2 h1 hy
   go_enter Tryz.func243,Tryz.ntmps243
   go_wp2
   rw[frombits_nat,Oper.upon_value]
   go_wp2
   go_ret2
   exact⟨rfl,rfl⟩
end Go.Proofs
end
section
namespace Go.Pf
def powHi (i:Nat):Nat:=(Go.Pinned.pow10Rows.getD i (0,0)).1
def powLo (i:Nat):Nat:=(Go.Pinned.pow10Rows.getD i (0,0)).2
def Tab16 (w:World):Prop:=∀i,i<696→w.cell? ⟨10,i*2,none⟩=some (.int .u64 (powHi i))∧w.cell? ⟨10,i*2+1,none⟩=some (.int .u64 (powLo i))
end Go.Pf
namespace Go.Proofs
open Go.RowKit Go.Pf
theorem Tryz.prescale (b i:Nat) (e p lp:Int) (w:World) (hi:p+348=i) (hi2:i<696) (he: -5000≤e) (he2:e≤5000) (hl: -5000≤lp) (hl2:lp≤5000) (hb:10<b) (hT:Hid (Tab16 w)){v0 v1 v2:Value}
 (c0:w.cell? ⟨b,0,none⟩=some v0) (c1:w.cell? ⟨b,1,none⟩=some v1) (c2:w.cell? ⟨b,2,none⟩=some v2)
 (f0:w.frozen? ⟨b,0,none⟩=false) (f1:w.frozen? ⟨b,1,none⟩=false) (f2:w.frozen? ⟨b,2,none⟩=false):
 Calls Tryz.prog 182 #[.pointer (some ⟨b,0,none⟩),.int .i64 e,.int .i64 p,.int .i64 lp] w fun r w'=>r= .returned (.tuple #[])∧w'=((w.setCell ⟨b,0,none⟩ (.int .u64 (powHi i))).setCell ⟨b,1,none⟩ (.int .u64 (powLo i))).setCell ⟨b,2,none⟩ (.int .i64 (-(e+lp+3))):=by
 obtain⟨t0,t1⟩:=hT.out i hi2
 have n1:b≠10:=by omega
 have n2:(10:Nat)≠b:=by omega
 go_enter Tryz.func182,Tryz.ntmps182
 go_wp2
 go_end0
 exact⟨rfl,rfl⟩
end Go.Proofs
end
section
namespace Go.Pf
def uscN (x hi lo k:Nat):Nat:=
 if x*hi/18446744073709551616/2^k*2^k=x*hi/18446744073709551616 then
  ((x*hi/18446744073709551616+18446744073709551616-(if x*hi %18446744073709551616<x*lo/18446744073709551616 then 1 else 0)) %18446744073709551616/2^k)
   |||(if 1<(x*hi %18446744073709551616+18446744073709551616-x*lo/18446744073709551616) %18446744073709551616 then 1 else 0)
 else x*hi/18446744073709551616/2^k|||1
end Go.Pf
namespace Go.Proofs
open Go.RowKit Go.Pf
theorem i64_and63 (k:Nat) (h:k<64):bits .and .i64 (k:Int) 63=(k:Int):=by
 have key:∀k:Fin 64,bits .and .i64 ((k.val:Nat):Int) 63=((k.val:Nat):Int):=by decide
 exact key ⟨k,h⟩
theorem hprod {m:Nat}(a b:Nat) (h1:a<m) (h2:b<m):a*b/m<m:=by
 rw[Nat.div_lt_iff_lt_mul (by omega)]
 exact Nat.lt_of_le_of_lt (Nat.mul_le_mul_left a (Nat.le_of_lt h2)) (Nat.mul_lt_mul_of_pos_right h1 (by omega))
theorem wrap_sub {a b:Nat}(ha:a<18446744073709551616) (hb:b<18446744073709551616):IntKind.u64.wrap ((a:Int)-(b:Int))=(((a+18446744073709551616-b) %18446744073709551616:Nat):Int):=by
 rw[IntKind.wrap_u64];omega
theorem pow_cast (k:Nat):((2^k:Nat):Int)=(2:Int)^k:=by rw[Int.natCast_pow];rfl
theorem Tryz.uscale (b x hi lo k:Nat) (w:World) (hx:x<18446744073709551616) (hh:hi<18446744073709551616) (hl:lo<18446744073709551616) (hk:k<64)
 (c0:w.cell? ⟨b,0,none⟩=some (.int .u64 hi)) (c1:w.cell? ⟨b,1,none⟩=some (.int .u64 lo)) (c2:w.cell? ⟨b,2,none⟩=some (.int .i64 k)):
 Calls Tryz.prog 184 #[.int .u64 x,.pointer (some ⟨b,0,none⟩)] w fun r w'=>∃n,r= .returned (.int .u64 (uscN x hi lo k))∧w'=w.drewN n:=by
 obtain⟨H,hH⟩:∃H,H=x*hi/18446744073709551616:=⟨_,rfl⟩
 obtain⟨M,hM⟩:∃M,M=x*hi %18446744073709551616:=⟨_,rfl⟩
 obtain⟨M2,hM2⟩:∃M,M=x*lo/18446744073709551616:=⟨_,rfl⟩
 obtain⟨L2,hL2⟩:∃M,M=x*lo %18446744073709551616:=⟨_,rfl⟩
 obtain⟨Q,hQ⟩:∃Q,Q=H/2^k:=⟨_,rfl⟩
 obtain⟨R,hR⟩:∃R,R=Q*2^k:=⟨_,rfl⟩
 have bH:H<18446744073709551616:=by rw[hH];exact hprod x hi hx hh
 have bM2:M2<18446744073709551616:=by rw[hM2];exact hprod x lo hx hl
 have bM:M<18446744073709551616:=by rw[hM];exact Nat.mod_lt _ (by decide)
 have bQ:Q≤H:=by rw[hQ];exact Nat.div_le_self _ _
 have bR:R≤H:=by rw[hR,hQ];exact Nat.div_mul_le_self _ _
 have e1:(H:Int)/2^k=(Q:Int):=by rw[hQ,←pow_cast];exact(Int.natCast_ediv _ _).symm
 have e2:(Q:Int)*2^k=(R:Int):=by rw[hR,Int.natCast_mul,pow_cast]
 have e3:=i64_and63 k hk
 have C1:Hid (∀W,Calls Tryz.prog 96 #[.int .u64 x,.int .u64 hi] W fun e w'=>e= .returned (.tuple #[.int .u64 (H:Int),.int .u64 (M:Int)])∧W=w'):=Hi (fun W=>by
  rw[hH,hM];exact(Tryz.bits_Mul64 x hi hx hh W).mono (by rintro e w' ⟨rfl,rfl⟩;exact⟨rfl,rfl⟩))
 have C2:Hid (∀W,Calls Tryz.prog 96 #[.int .u64 x,.int .u64 lo] W fun e w'=>e= .returned (.tuple #[.int .u64 (M2:Int),.int .u64 (L2:Int)])∧W=w'):=Hi (fun W=>by
  rw[hM2,hL2];exact(Tryz.bits_Mul64 x lo hx hl W).mono (by rintro e w' ⟨rfl,rfl⟩;exact⟨rfl,rfl⟩))
 have hu:uscN x hi lo k=if R=H then((H+18446744073709551616-(if M<M2 then 1 else 0)) %18446744073709551616/2^k)|||(if 1<(M+18446744073709551616-M2) %18446744073709551616 then 1 else 0)else Q|||1:=by
  unfold uscN
  rw[←hH,←hM,←hM2,←hQ,←hR]
 rw[hu]
 have HU:=Hi hk
 have k0:(k:Int)≤63:=by omega
 clear hu hH hM hM2 hL2 hQ hR hk
 by_cases hRH:R=H
 ·rw[if_pos hRH]
  obtain⟨bo,hbo⟩:∃bo:Bool,bo=decide (M<M2):=⟨_,rfl⟩
  obtain⟨H2,hH2⟩:∃H2,H2=(H+18446744073709551616-(if M<M2 then 1 else 0)) %18446744073709551616:=⟨_,rfl⟩
  obtain⟨D,hD⟩:∃D,D=(M+18446744073709551616-M2) %18446744073709551616:=⟨_,rfl⟩
  rw[←hH2,←hD]
  have f1:IntKind.u64.wrap ((H:Int)-(if bo then 1 else 0))=(H2:Int):=by
   rw[hH2,hbo]
   by_cases h:M<M2
   ·rw[if_pos h]
    have:=wrap_sub (a:=H) (b:=1) bH (by decide)
    rw[←this,decide_eq_true h];rfl
   ·rw[if_neg h]
    have:=wrap_sub (a:=H) (b:=0) bH (by decide)
    rw[←this,decide_eq_false h];rfl
  have f2:IntKind.u64.wrap ((M:Int)-(M2:Int))=(D:Int):=by
   rw[hD];exact wrap_sub bM bM2
  obtain⟨bn,hbn⟩:∃bn:Nat,(bn:Int)=if bo then 1 else 0:=by cases bo;exact⟨0,rfl⟩;exact⟨1,rfl⟩
  obtain⟨dd,hdd⟩:∃dd:Bool,dd=decide (1<D):=⟨_,rfl⟩
  obtain⟨dn,hdn⟩:∃dn:Nat,dn=if 1<D then 1 else 0:=⟨_,rfl⟩
  obtain⟨Q2,hQ2⟩:∃Q,Q=H2/2^k:=⟨_,rfl⟩
  obtain⟨Z,hZ⟩:∃Z,Z=Q2|||dn:=⟨_,rfl⟩
  have C3:Hid (∀W,Calls Tryz.prog 212 #[.bool bo] W fun e w'=>e= .returned (.int .u64 (bn:Int))∧W=w'):=Hi (fun W=>by rw[hbn];exact Tryz.bool2u bo W)
  have hdn2:(dn:Int)=if dd then 1 else 0:=by
   rw[hdn,hdd]
   by_cases h:1<D
   ·rw[if_pos h,decide_eq_true h];rfl
   ·rw[if_neg h,decide_eq_false h];rfl
  have C4:Hid (∀W,Calls Tryz.prog 212 #[.bool dd] W fun e w'=>e= .returned (.int .u64 (dn:Int))∧W=w'):=Hi (fun W=>by rw[hdn2];exact Tryz.bool2u dd W)
  rw[←hbn]at f1
  have bH2:H2<18446744073709551616:=by rw[hH2];exact Nat.mod_lt _ (by decide)
  have bQ2:Q2<18446744073709551616:=by rw[hQ2];exact Nat.lt_of_le_of_lt (Nat.div_le_self _ _) bH2
  have f3:(H2:Int)/2^k=(Q2:Int):=by rw[hQ2,←pow_cast];exact(Int.natCast_ediv _ _).symm
  have bd:dn≤1:=by rw[hdn];split<;>omega
  have f4:bits .or .u64 (Q2:Int) (dn:Int)=(Z:Int):=by rw[hZ];exact u64_or_nat Q2 dn bQ2 (by omega)
  have f5:decide ((M:Int)<(M2:Int))=bo:=by rw[hbo];congr 1;simp
  have f6:decide ((1:Int)<(D:Int))=dd:=by rw[hdd];congr 1;simp;omega
  have f5n:decide (M<M2)=bo:=hbo.symm
  have f6n:decide (1<D)=dd:=hdd.symm
  rw[←hdn,←hQ2,←hZ]
  clear hH2 hD hbo hbn hdd hdn hdn2 hQ2 hZ
  subst hRH
  go_enter Tryz.func184,Tryz.ntmps184
  go_wp2_with ((first|(go_at_call 96;first|(with_reducible refine(C1.out _).mono ?_)|(with_reducible refine(C2.out _).mono ?_))|(go_at_call 212;(with_reducible refine(C3.out _).mono ?_)));rintro e w' ⟨rfl,rfl⟩)
  go_region_with (go_at_call 212;(with_reducible refine(C4.out _).mono ?_);rintro e w' ⟨rfl,rfl⟩)
  all_goals
   go_wp2
   go_ret
   exact⟨_,rfl,rfl⟩
 ·obtain⟨Z,hZ⟩:∃Z,Z=Q|||1:=⟨_,rfl⟩
  have f4:bits .or .u64 (Q:Int) 1=(Z:Int):=by rw[hZ];exact u64_or_nat Q 1 (by omega) (by decide)
  rw[if_neg hRH,←hZ]
  clear hZ
  have f5:((R:Int)==(H:Int))=false:=eqf hRH
  go_enter Tryz.func184,Tryz.ntmps184
  go_wp2_with ((first|(go_at_call 96;first|(with_reducible refine(C1.out _).mono ?_)|(with_reducible refine(C2.out _).mono ?_)));rintro e w' ⟨rfl,rfl⟩)
  go_ret
  exact⟨0,rfl,rfl⟩
end Go.Proofs
end
section
namespace Go.Pf
def pfE (b:Nat) (lp:Int):Int:=min 1074 (53-b-lp)
def pfS (b:Nat) (lp:Int):Int:= -(pfE b lp-(64-b)+lp+3)
def pfU (d:Nat) (p:Int):Nat:=uscN (d*2^(64-Lib.bitLen d)) (powHi (p+348).toNat) (powLo (p+348).toNat) (pfS (Lib.bitLen d) (p*108853/32768)).toNat
def pfR (u:Nat) (e:Int):Nat×Bool:=
 if 36028797018963966≤u then packN (((u/2|||(u&&&1))+1+(u/2|||(u&&&1))/4 %2)/4) (-(e-1))
 else packN (((u|||(u&&&1))+1+(u|||(u&&&1))/4 %2)/4) (-e)
def pfN (d:Nat) (p:Int):Nat×Bool:=
 if 64≤pfS (Lib.bitLen d) (p*108853/32768)then(0,false)
 else pfR (pfU d p) (pfE (Lib.bitLen d) (p*108853/32768))
theorem uscN_lt {x hi lo k:Nat}(hh:x*hi/18446744073709551616<18446744073709551616) (hk:8≤k):uscN x hi lo k<2^57:=by
 have key:∀H,H<18446744073709551616→H/2^k<2^57:=by
  intro H h
  have h1:H/2^k≤H/2^8:=Nat.div_le_div_left (Nat.pow_le_pow_right (by decide) hk) (by decide)
  omega
 unfold uscN
 split
 ·refine Nat.or_lt_two_pow (key _ (Nat.mod_lt _ (by decide))) ?_
  split<;>decide
 ·exact Nat.or_lt_two_pow (key _ hh) (by decide)
theorem pow_all:Go.Pinned.pow10Rows.all (fun x=>Nat.blt x.1 18446744073709551616&&Nat.blt x.2 18446744073709551616)=true:=by kernel_rfl
theorem pow_lt (i:Nat):powHi i<18446744073709551616∧powLo i<18446744073709551616:=by
 unfold powHi powLo
 rw[List.getD_eq_getElem?_getD]
 cases h:Go.Pinned.pow10Rows[i]?with
 |none=>exact⟨by simp,by simp⟩
 |some x=>
  have:=List.all_eq_true.1 pow_all x (List.mem_of_getElem? h)
  simp only[Bool.and_eq_true,Nat.blt_eq]at this
  exact this
theorem bitLen_bounds {d:Nat}(h0:d≠0) (h:d<18446744073709551616):1≤Lib.bitLen d∧Lib.bitLen d≤64∧d*2^(64-Lib.bitLen d)<18446744073709551616:=by
 have h1:=Lib.bitLenAux_bounds 64 d h h0
 have h2:=Lib.bitLenAux_le 64 d 64 h
 refine⟨h1.1,h2,?_⟩
 have h3:d*2^(64-Lib.bitLen d)<2^Lib.bitLen d*2^(64-Lib.bitLen d):=Nat.mul_lt_mul_of_pos_right h1.2.2 (Nat.two_pow_pos _)
 rw[←Nat.pow_add]at h3
 have h4:Lib.bitLen d+(64-Lib.bitLen d)=64:=by have:Lib.bitLen d≤64:=h2;omega
 rw[h4]at h3
 exact h3
end Go.Pf
namespace Go.Proofs
open Go.RowKit Go.Pf
theorem _root_.Go.Pf.Tab16.below {w w':World} {B:Nat}(h:Tab16 w) (hb:Below B w w') (h16:10<B):Tab16 w':=by
 intro i hi
 have e:=hb.block 10 h16
 have k:=h i hi
 exact⟨(World.cell?_of_block (a:=⟨10,i*2,none⟩) e).trans k.1,(World.cell?_of_block (a:=⟨10,i*2+1,none⟩) e).trans k.2⟩
def PfSays (r:Nat×Bool) (w:World) (e:Ending) (w':World):Prop:=e= .returned (.tuple #[.float .f64 r.1,errRange r.2])∧Below w.heap.size w w'
theorem Tryz.parseFloat64 (d:Nat) (p:Int) (w:World) (h0:d≠0) (hd:d<18446744073709551616) (hp: -345≤p) (hp2:p≤310) (hT:Hid (Tab16 w)) (h16:10<w.heap.size):
 Calls Tryz.prog 237 #[.int .u64 d,.int .i64 p,.int .u64 0] w (PfSays (pfN d p) w):=by
 obtain⟨b,hb⟩:∃b,b=Lib.bitLen d:=⟨_,rfl⟩
 obtain⟨lp,hlp⟩:∃lp,lp=p*108853/32768:=⟨_,rfl⟩
 obtain⟨ee,hee⟩:∃ee,ee=pfE b lp:=⟨_,rfl⟩
 obtain⟨ss,hss⟩:∃ss,ss=pfS b lp:=⟨_,rfl⟩
 obtain⟨i,hi⟩:∃i:Nat,i=(p+348).toNat:=⟨_,rfl⟩
 have B:=bitLen_bounds h0 hd
 rw[←hb]at B
 obtain⟨b1,b64,bx⟩:=B
 have hr:pfN d p=if 64≤ss then(0,false)else pfR (uscN (d*2^(64-b)) (powHi i) (powLo i) ss.toNat) ee:=by
  unfold pfN pfU
  rw[←hb,←hlp,←hss,←hee,←hi]
 rw[hr]
 have hpi:p+348=(i:Int):=by omega
 have hi2:i<696:=by omega
 have l1: -1147≤lp:=by omega
 have l2:lp≤1030:=by omega
 have q1:ss= -(ee-(64-(b:Int))+lp+3):=by rw[hss,hee];rfl
 have q2:ee≤1074:=by rw[hee];unfold pfE;omega
 have q3: -2000≤ee:=by rw[hee];unfold pfE;omega
 have q4:ee≤53-(b:Int)-lp:=by rw[hee];unfold pfE;omega
 have q5:8≤ss:=by omega
 have q6:min (1074:Int) (53-(b:Int)-lp)=ee:=by rw[hee];rfl
 have CL:Hid (∀W,Calls Tryz.prog 133 #[.int .u64 (d:Int)] W fun e w'=>e= .returned (.int .i64 (b:Int))∧W=w'):=Hi (fun W=>by
  rw[hb];exact(Tryz.bits_Len64 d W (by omega) (by omega)).mono (by rintro e w' ⟨rfl,rfl⟩;exact⟨rfl,rfl⟩))
 have CP:Hid (∀W,Calls Tryz.prog 183 #[.int .i64 p] W fun e w'=>e= .returned (.int .i64 lp)∧W=w'):=Hi (fun W=>by
  rw[hlp];exact Tryz.log2Pow10 p (by omega) (by omega) W)
 obtain⟨j,hj⟩:∃j,j=64-b:=⟨_,rfl⟩
 obtain⟨x,hx⟩:∃x,x=d*2^(64-b):=⟨_,rfl⟩
 rw[←hx]at bx
 have j1:(64:Int)-(b:Int)=(j:Int):=by omega
 have j2:(d:Int)*2^j=(x:Int):=by rw[hx,←hj,Int.natCast_mul,pow_cast]
 have j3:(j:Int)≤63:=by omega
 rw[j1]at q1
 have HX:=Hi hx
 rw[←hx]
 clear hr hb hlp hee hss hi hx hj
 have z0:bits .or .u64 0 0=0:=by decide
 by_cases h64:64≤ss
 ·rw[if_pos h64]
  go_enter Tryz.func237,Tryz.ntmps237
  go_wp2_with ((first|(go_at_call 133;(with_reducible refine(CL.out _).mono ?_))|(go_at_call 183;(with_reducible refine(CP.out _).mono ?_)));rintro e w' ⟨rfl,rfl⟩)
  generalize hW:w.alloc _=W1
  have c0:W1.cell? ⟨w.heap.size,0,none⟩=some (.int .u64 0):=by subst hW;go_simp
  have c1:W1.cell? ⟨w.heap.size,1,none⟩=some (.int .u64 0):=by subst hW;go_simp
  have c2:W1.cell? ⟨w.heap.size,2,none⟩=some (.int .i64 0):=by subst hW;go_simp
  have f0:W1.frozen? ⟨w.heap.size,0,none⟩=false:=by subst hW;go_simp
  have f1:W1.frozen? ⟨w.heap.size,1,none⟩=false:=by subst hW;go_simp
  have f2:W1.frozen? ⟨w.heap.size,2,none⟩=false:=by subst hW;go_simp
  have bl:Below w.heap.size w W1:=by subst hW;exact(Below.refl _ _).alloc (nR _) _
  have hT1:=Hi (hT.out.below bl h16)
  clear hW
  go_wp2_with (go_at_call 182;(with_reducible refine(Tryz.prescale w.heap.size i _ p lp W1 hpi hi2 (by omega) (by omega) (by omega) (by omega) h16 hT1 c0 c1 c2 f0 f1 f2).mono ?_);rintro e w' ⟨rfl,rfl⟩)
  rw[frombits_run,Oper.upon_value]
  go_wp2
  go_ret2
  refine⟨rfl,?_⟩
  iterate 3 refine Below.setCell ?_ (by simp) _
  exact bl
 ·rw[if_neg h64]
  obtain⟨k,hk⟩:∃k:Nat,k=ss.toNat:=⟨_,rfl⟩
  have k1:ss=(k:Int):=by omega
  have k64:k<64:=by omega
  have k8:8≤k:=by omega
  obtain⟨hh,hhh⟩:∃h,h=powHi i:=⟨_,rfl⟩
  obtain⟨lo,hlo⟩:∃h,h=powLo i:=⟨_,rfl⟩
  have PL:=pow_lt i
  rw[←hhh,←hlo]at PL
  obtain⟨u,hu⟩:∃u,u=uscN x hh lo k:=⟨_,rfl⟩
  have u57:u<2^57:=by rw[hu];exact uscN_lt (hprod x hh bx PL.1) k8
  have q7: -(ee-(j:Int)+lp+3)=(k:Int):=by omega
  have CPr:=Hi (fun W1 h1 h2 h3 h4 h5 h6 h7=>Tryz.prescale w.heap.size i (ee-(j:Int)) p lp W1 hpi hi2 (by omega) (by omega) (by omega) (by omega) h16 h1 (v0:= .int .u64 0) (v1:= .int .u64 0) (v2:= .int .i64 0) h2 h3 h4 h5 h6 h7)
  rw[←hhh,←hlo]at CPr
  rw[q7]at CPr
  have CU:=Hi (fun W c0 c1 c2=>Tryz.uscale w.heap.size x hh lo k W bx PL.1 PL.2 k64 c0 c1 c2)
  rw[←hu]at CU
  rw[←hhh,←hlo,←hk,←hu]
  clear hhh hlo hu hk
  obtain⟨u1,hu1⟩:∃u1,u1=u&&&1:=⟨_,rfl⟩
  have g1:bits .and .u64 (u:Int) 1=(u1:Int):=by rw[hu1];exact u64_and_nat u 1 (by omega) (by decide)
  have u1b:u1≤1:=by rw[hu1];exact Nat.and_le_right
  obtain⟨v,hv⟩:∃v,v=(if 36028797018963966≤u then u/2 else u):=⟨_,rfl⟩
  obtain⟨tt,htt⟩:∃tt:Int,tt=(if 36028797018963966≤u then 1 else 0):=⟨_,rfl⟩
  obtain⟨cc,hcc⟩:∃cc:Bool,cc=decide (36028797018963966≤u):=⟨_,rfl⟩
  obtain⟨u2,hu2⟩:∃u2,u2=v|||u1:=⟨_,rfl⟩
  have vb:v<2^57:=by rw[hv];split<;>omega
  have u2b:u2<2^57:=by rw[hu2];exact Nat.or_lt_two_pow vb (Nat.lt_of_le_of_lt u1b (by decide))
  have g2:bits .or .u64 (v:Int) (u1:Int)=(u2:Int):=by rw[hu2];exact u64_or_nat v u1 (by omega) (by omega)
  obtain⟨m,hm⟩:∃m,m=(u2+1+u2/4 %2)/4:=⟨_,rfl⟩
  have mb:m<18446744073709551616:=by omega
  have g3:bits .or .u64 0 (m:Int)=(m:Int):=by
   have:=u64_or_nat 0 m (by decide) mb
   rw[Nat.zero_or]at this
   exact this
  have g4:decide ((36028797018963966:Int)≤(u:Int))=cc:=by rw[hcc];congr 1;simp;omega
  have g5:decide (36028797018963966≤u)=cc:=hcc.symm
  have g6:(u:Int)/2^tt.toNat=(v:Int):=by
   rw[hv,htt]
   split
   ·show(u:Int)/2^1=_;omega
   ·show(u:Int)/2^0=_;omega
  have tb:0≤tt∧tt≤1:=by rw[htt];split<;>omega
  have C1:Hid (∀W,Calls Tryz.prog 189 #[.bool cc] W fun e w'=>e= .returned (.int .i64 tt)∧W=w'):=Hi (fun W=>by
   refine(Tryz.bool2i cc W).mono ?_
   rintro e w' ⟨rfl,rfl⟩
   refine⟨?_,rfl⟩
   rw[htt,hcc]
   by_cases h:36028797018963966≤u
   ·rw[if_pos h,decide_eq_true h];rfl
   ·rw[if_neg h,decide_eq_false h];rfl)
  have C2:Hid (∀W,Calls Tryz.prog 188 #[.int .u64 (u2:Int)] W fun e w'=>e= .returned (.int .u64 (m:Int))∧W=w'):=Hi (fun W=>by rw[hm];exact Tryz.urnd u2 (by omega) W)
  have hres:pfR u ee=packN m (-(ee-tt)):=by
   unfold pfR
   rw[←hu1,hm,hu2,hv,htt]
   split
   ·rfl
   ·rw[Int.sub_zero]
  rw[hres]
  have C3:Hid (∀W,Calls Tryz.prog 243 #[.int .u64 (m:Int),.int .i64 (-(ee-tt))] W fun e w'=>e= .returned (.tuple #[.float .f64 (packN m (-(ee-tt))).1,errRange (packN m (-(ee-tt))).2])∧W=w'):=Hi (fun W=>Tryz.pack64 m _ mb (by omega) (by omega) W)
  obtain⟨pk,hpk⟩:∃pk,pk=packN m (-(ee-tt)):=⟨_,rfl⟩
  rw[←hpk]at C3⊢
  have e1: -5000≤ee-tt:=by omega
  have e2:ee-tt≤5000:=by omega
  have kk:¬64≤k:=by omega
  have kk2:decide ((64:Int)≤(k:Int))=false:=dFo
  have xb:(x:Int)≤18446744073709551615:=by omega
  have t1:=tb.1
  have t2:=tb.2
  clear hres hpk hm mb hu2 vb u2b hcc htt hv hu1 u1b tb u57 q1 q2 q3 q4 q5 PL bx k64 k8 h64
  go_enter Tryz.func237,Tryz.ntmps237
  go_wp2_with ((first|(go_at_call 133;(with_reducible refine(CL.out _).mono ?_))|(go_at_call 183;(with_reducible refine(CP.out _).mono ?_)));rintro e w' ⟨rfl,rfl⟩)
  generalize hW:w.alloc _=W1
  have c0:W1.cell? ⟨w.heap.size,0,none⟩=some (.int .u64 0):=by subst hW;go_simp
  have c1:W1.cell? ⟨w.heap.size,1,none⟩=some (.int .u64 0):=by subst hW;go_simp
  have c2:W1.cell? ⟨w.heap.size,2,none⟩=some (.int .i64 0):=by subst hW;go_simp
  have f0:W1.frozen? ⟨w.heap.size,0,none⟩=false:=by subst hW;go_simp
  have f1:W1.frozen? ⟨w.heap.size,1,none⟩=false:=by subst hW;go_simp
  have f2:W1.frozen? ⟨w.heap.size,2,none⟩=false:=by subst hW;go_simp
  have bl:Below w.heap.size w W1:=by subst hW;exact(Below.refl _ _).alloc (nR _) _
  have hT1:=Hi (hT.out.below bl h16)
  clear hW
  go_wp2_with ((first|(go_at_call 182;(with_reducible refine(CPr.out W1 hT1 c0 c1 c2 f0 f1 f2).mono ?_)));rintro e w' ⟨rfl,rfl⟩)
  generalize hW2:((W1.setCell _ _).setCell _ _).setCell _ _=W2
  have d0:W2.cell? ⟨w.heap.size,0,none⟩=some (.int .u64 hh):=by subst hW2;go_simp
  have d1:W2.cell? ⟨w.heap.size,1,none⟩=some (.int .u64 lo):=by subst hW2;go_simp
  have d2:W2.cell? ⟨w.heap.size,2,none⟩=some (.int .i64 k):=by subst hW2;go_simp
  have bl2:Below w.heap.size w W2:=by
   subst hW2
   iterate 3 refine Below.setCell ?_ (by simp) _
   exact bl
  clear hW2 c0 c1 c2 f0 f1 f2 bl
  go_wp2_with (go_at_call 184;(with_reducible refine(CU.out W2 d0 d1 d2).mono ?_);rintro e w' ⟨n,rfl,rfl⟩)
  go_wp2_with ((first|(go_at_call 190;(with_reducible refine(Tryz.unmin _).mono ?_))|(go_at_call 189;(with_reducible refine(C1.out _).mono ?_))|(go_at_call 188;(with_reducible refine(C2.out _).mono ?_))|(go_at_call 243;(with_reducible refine(C3.out _).mono ?_)));rintro e w' ⟨rfl,rfl⟩)
  go_ret2
  exact⟨rfl,bl2.trans ⟨rfl,rfl,rfl,nR _,fun _ _=>rfl⟩⟩
end Go.Proofs
end
section
namespace Go.Pf
def num (A:Nat→Nat):Nat→Nat
 |0=>0
 |n+1=>num A n*10+(A n-48)
structure Dec (w:World) (b:Nat) (A:Nat→Nat) (nd:Nat) (dp:Int) (tr:Bool):Prop where
 le:nd≤800
 dig:∀i,i<nd→48≤A i∧A i≤57
 cell:∀i,i<800→w.cell? ⟨b,i,none⟩=some (.int .u8 (A i:Nat))
 cnd:w.cell? ⟨b,800,none⟩=some (.int .i64 nd)
 cdp:w.cell? ⟨b,801,none⟩=some (.int .i64 dp)
 cng:w.cell? ⟨b,802,none⟩=some (.bool false)
 ctr:w.cell? ⟨b,803,none⟩=some (.bool tr)
 fz:∀i,w.frozen? ⟨b,i,none⟩=false
theorem other {w:World} {b i j:Nat} {v u:Value}(hc:w.cell? ⟨b,j,none⟩=some v) (h:i≠j):(w.setCell ⟨b,i,none⟩ u).cell? ⟨b,j,none⟩=some v:=by
 rw[World.cell?_setCell_other (h:=fun e=>h (congrArg Addr.off e)),hc]
theorem same_cell {w:World} {b i:Nat} {v u:Value}(hc:w.cell? ⟨b,i,none⟩=some v):(w.setCell ⟨b,i,none⟩ u).cell? ⟨b,i,none⟩=some u:=by
 exact World.cell?_setCell_same _ _ _ hc
theorem Dec.same {w w':World} {b:Nat} {A:Nat→Nat} {nd:Nat} {dp:Int} {tr:Bool}(h:Dec w b A nd dp tr) (e:w'.heap=w.heap):Dec w' b A nd dp tr:=by
 have c:∀a,w'.cell? a=w.cell? a:=fun a=>World.cell?_of_block (by rw[e])
 have f:∀a,w'.frozen? a=w.frozen? a:=fun a=>World.frozen?_of_block (by rw[e])
 exact⟨h.le,h.dig,fun i hi=>(c _).trans (h.cell i hi),(c _).trans h.cnd,(c _).trans h.cdp,(c _).trans h.cng,(c _).trans h.ctr,fun i=>(f _).trans (h.fz i)⟩
theorem Dec.setDig {w:World} {b:Nat} {A:Nat→Nat} {nd:Nat} {dp:Int} {tr:Bool}(h:Dec w b A nd dp tr) (k v:Nat) (hk:k<800) (n:Nat) (hn:n=nd) (hd:∀i,i<n→i≠k→48≤A i∧A i≤57) (hv:k<n→48≤v∧v≤57):
 Dec (w.setCell ⟨b,k,none⟩ (.int .u8 (v:Nat))) b (fun i=>if i=k then v else A i) nd dp tr:=by
 subst hn
 refine⟨h.le,fun i hi=> ?_,fun i hi=> ?_,other h.cnd (by omega),other h.cdp (by omega),other h.cng (by omega),other h.ctr (by omega),fun i=>by rw[World.frozen?_setCell];exact h.fz i⟩
 ·by_cases e:i=k
  ·subst e;simp only[if_pos];exact hv hi
  ·simp only[if_neg e];exact hd i hi e
 ·by_cases e:i=k
  ·subst e;simp only[if_pos];exact same_cell (h.cell i hi)
  ·simp only[if_neg e];exact other (h.cell i hi) (Ne.symm e)
end Go.Pf
namespace Go.Proofs
open Go.RowKit Go.Pf
theorem bel_drewN {B n:Nat} {a w:World}(h:Below B a w):Below B a (w.drewN n):=h.trans ⟨rfl,rfl,rfl,nR _,fun _ _=>rfl⟩
end Go.Proofs
end
section
namespace Go.Pf
def numz (A:Nat→Nat) (nd:Nat):Nat→Nat
 |0=>0
 |t+1=>numz A nd t*10+(if t<nd then A t-48 else 0)
end Go.Pf
end
section
namespace Go.Pf
theorem num_congr {A A':Nat→Nat} :∀n,(∀i,i<n→A i=A' i)→num A n=num A' n
 |0,_=>rfl
 |n+1,h=>by rw[num,num,num_congr n (fun i hi=>h i (by omega)),h n (by omega)]
theorem numz_le {A:Nat→Nat} {nd:Nat} :∀t,t≤nd→numz A nd t=num A t
 |0,_=>rfl
 |t+1,h=>by rw[numz,num,numz_le t (by omega),if_pos (by omega)]
theorem step_out {O n c P Y:Nat}(h:O*(10*P)+n=Y) (hc:c≤9) (hn:n<10*P) (hP:0<P):
 (O*10+n/P)*(10*P)+(n %P*10+c)=Y*10+c∧n %P*10+c<10*P∧n/P≤9:=by
 have h1:n/P*P+n %P=n:=Nat.div_add_mod' n P
 have h2:n %P<P:=Nat.mod_lt _ hP
 have h3:n/P<10:=(Nat.div_lt_iff_lt_mul hP).2 hn
 refine⟨?_,by omega,by omega⟩
 rw[←h]
 have e1:(O*10+n/P)*(10*P)=10*(O*(10*P))+10*(n/P*P):=by
  rw[Nat.add_mul,Nat.mul_comm O 10,Nat.mul_assoc,Nat.mul_left_comm (n/P) 10 P]
 rw[e1]
 generalize O*(10*P)=X at*
 generalize n/P*P=Z at*
 omega
structure RShift (A:Nat→Nat) (nd:Nat) (dp:Int) (tr:Bool) (k:Nat) (A':Nat→Nat) (w:Nat) (dp':Int) (tr':Bool):Prop where
 ex:∃V c r,1≤r∧nd≤c+r∧V*(10*2^k)=numz A nd (c+r)∧dp'=dp-r+1∧w=min c 800∧num A' w=V/10^(c-w)∧tr'=(tr||decide (V %10^(c-w)≠0))∧2^k≤numz A nd r∧numz A nd (r-1)<2^k
 pos:0<w
 lead:49≤A' 0
 dig:∀i,i<w→48≤A' i∧A' i≤57
end Go.Pf
end
section
namespace Go.Pf
open Go.RowKit
def upd (A:Nat→Nat) (k v:Nat):Nat→Nat:=fun i=>if i=k then v else A i
theorem upd_same (A:Nat→Nat) (k v:Nat):upd A k v k=v:=by simp[upd]
theorem upd_other {A:Nat→Nat} {k v i:Nat}(h:i≠k):upd A k v i=A i:=by simp[upd,h]
theorem num_upd (A:Nat→Nat) (k v:Nat):num (upd A k v) (k+1)=num A k*10+(v-48):=by
 rw[num,upd_same,num_congr k (fun i hi=>upd_other (by omega))]
structure P2 (A:Nat→Nat) (nd:Nat) (dp:Int) (tr:Bool) (PP r1 b B:Nat) (w0:World) (r wc n:Nat) (A':Nat→Nat) (wr:World):Prop where
 dec:Dec wr b A' nd dp tr
 bel:Below B w0 wr
 old:∀i,r≤i→A' i=A i
 cnt:wc+r1=r
 le:r≤nd∨r=r1
 val:num A' wc*(10*PP)+n=numz A nd r
 lt:n<10*PP
 lead:(wc=0∧PP≤n)∨(0<wc∧49≤A' 0)
 dig:∀i,i<wc→48≤A' i∧A' i≤57
theorem P2.next {A:Nat→Nat} {nd:Nat} {dp:Int} {tr:Bool} {PP r1 b B:Nat} {w0:World} {r wc n:Nat} {A':Nat→Nat} {wr:World}(h:P2 A nd dp tr PP r1 b B w0 r wc n A' wr) (h1:1≤r1) (hB:B≤b) (hp:0<PP) (hr:r<nd) (hdA:48≤A r∧A r≤57){q n2:Nat}(hq:q=n/PP) (hn2:n2=n %PP*10+(A r-48)):
 P2 A nd dp tr PP r1 b B w0 (r+1) (wc+1) n2 (upd A' wc (q+48)) (wr.setCell ⟨b,wc,none⟩ (.int .u8 ((q+48:Nat):Int))):=by
 have hw:wc<r:=by have:=h.cnt;omega
 have hle:=h.dec.le
 obtain⟨s1,s2,s3⟩:=step_out h.val (c:=A r-48) (by omega) h.lt hp
 rw[←hn2,←hq]at s1
 rw[←hn2]at s2
 rw[←hq]at s3
 have hq1:wc=0→1≤q:=by
  intro h0
  rcases h.lead with⟨_,h2⟩|⟨h2,_⟩
  ·rw[hq];exact(Nat.le_div_iff_mul_le hp).2 (by omega)
  ·omega
 have hdig:∀i,i<nd→48≤upd A' wc (q+48) i∧upd A' wc (q+48) i≤57:=by
  intro i hi
  by_cases e:i=wc
  ·subst e;rw[upd_same];omega
  ·rw[upd_other e];exact h.dec.dig i hi
 refine⟨h.dec.setDig wc (q+48) (by omega) nd rfl (fun i hi _=>h.dec.dig i hi) (fun _=>by omega),h.bel.setCell (p:=⟨b,wc,none⟩) hB _,?_,by have:=h.cnt;omega,.inl (by omega),?_,s2,.inr ⟨by omega,?_⟩,?_⟩
 ·intro i hi
  rw[upd_other (by omega)]
  exact h.old i (by omega)
 ·rw[num_upd,numz,if_pos hr]
  have:q+48-48=q:=by omega
  rw[this]
  exact s1
 ·by_cases e:wc=0
  ·subst e;rw[upd_same];have:=hq1 rfl;omega
  ·rw[upd_other (by omega)]
   rcases h.lead with⟨h2,_⟩|⟨_,h2⟩
   ·omega
   ·exact h2
 ·intro i hi
  by_cases e:i=wc
  ·subst e;rw[upd_same];omega
  ·rw[upd_other e];exact h.dig i (by omega)
structure P3 (A:Nat→Nat) (nd:Nat) (dp:Int) (tr:Bool) (PP r1 b B:Nat) (w0:World) (wc n V c:Nat) (A':Nat→Nat) (tr':Bool) (wr:World):Prop where
 dec:∃m,Dec wr b A' m dp tr'
 bel:Below B w0 wr
 end_:nd≤c+r1
 val:V*(10*PP)+n=numz A nd (c+r1)
 lt:n<10*PP
 lead:(wc=0∧PP≤n)∨(0<wc∧49≤A' 0)
 dig:∀i,i<wc→48≤A' i∧A' i≤57
 kept:wc=min c 800
 num:num A' wc=V/10^(c-wc)
 trn:tr'=(tr||decide (V %10^(c-wc)≠0))
theorem P3.next {A:Nat→Nat} {nd:Nat} {dp:Int} {tr:Bool} {PP r1 b B:Nat} {w0:World} {wc n V c:Nat} {A':Nat→Nat} {tr':Bool} {wr:World}(h:P3 A nd dp tr PP r1 b B w0 wc n V c A' tr' wr) (hB:B≤b) (hp:0<PP) (hr:wc<800){q n2:Nat}(hq:q=n/PP) (hn2:n2=n %PP*10):
 P3 A nd dp tr PP r1 b B w0 (wc+1) n2 (V*10+q) (c+1) (upd A' wc (q+48)) tr' (wr.setCell ⟨b,wc,none⟩ (.int .u8 ((q+48:Nat):Int))):=by
 have hk:=h.kept
 have hc:wc=c:=by omega
 have he:=h.end_
 obtain⟨s1,s2,s3⟩:=step_out h.val (c:=0) (by omega) h.lt hp
 rw[Nat.add_zero,←hn2,←hq]at s1
 rw[Nat.add_zero,←hn2]at s2
 rw[←hq]at s3
 obtain⟨m,hD⟩:=h.dec
 have hn:=h.num
 rw[hc,Nat.sub_self,Nat.pow_zero,Nat.div_one,←hc]at hn
 have hq1:wc=0→1≤q:=by
  intro h0
  rcases h.lead with⟨_,h2⟩|⟨h2,_⟩
  ·rw[hq];exact(Nat.le_div_iff_mul_le hp).2 (by omega)
  ·omega
 have ht:=h.trn
 rw[hc,Nat.sub_self,Nat.pow_zero,Nat.mod_one]at ht
 refine⟨⟨m,hD.setDig wc (q+48) hr m rfl (fun i hi _=>hD.dig i hi) (fun _=>by omega)⟩,h.bel.setCell (p:=⟨b,wc,none⟩) hB _,by omega,?_,s2,.inr ⟨by omega,?_⟩,?_,by omega,?_,?_⟩
 ·rw[show c+1+r1=(c+r1)+1 by omega,numz,if_neg (by omega)]
  exact s1
 ·by_cases e:wc=0
  ·subst e;rw[upd_same];have:=hq1 rfl;omega
  ·rw[upd_other (by omega)]
   rcases h.lead with⟨h2,_⟩|⟨_,h2⟩
   ·omega
   ·exact h2
 ·intro i hi
  by_cases e:i=wc
  ·subst e;rw[upd_same];omega
  ·rw[upd_other e];exact h.dig i (by omega)
 ·rw[num_upd,show q+48-48=q by omega,show c+1-(wc+1)=0 by omega,Nat.pow_zero,Nat.div_one,hn]
 ·rw[show c+1-(wc+1)=0 by omega,Nat.pow_zero,Nat.mod_one]
  exact ht
theorem P3.drop {A:Nat→Nat} {nd:Nat} {dp:Int} {tr:Bool} {PP r1 b B:Nat} {w0:World} {wc n V c:Nat} {A':Nat→Nat} {tr':Bool} {wr wr2:World}(h:P3 A nd dp tr PP r1 b B w0 wc n V c A' tr' wr) (hp:0<PP) (hr:¬wc<800){q n2:Nat}(hq:q=n/PP) (hn2:n2=n %PP*10) (hD2:∃m,Dec wr2 b A' m dp (tr'||decide (q≠0))) (hb2:Below B w0 wr2):
 P3 A nd dp tr PP r1 b B w0 wc n2 (V*10+q) (c+1) A' (tr'||decide (q≠0)) wr2:=by
 have hk:=h.kept
 have he:=h.end_
 obtain⟨s1,s2,s3⟩:=step_out h.val (c:=0) (by omega) h.lt hp
 rw[Nat.add_zero,←hn2,←hq]at s1
 rw[Nat.add_zero,←hn2]at s2
 rw[←hq]at s3
 have hj:c+1-wc=(c-wc)+1:=by omega
 refine⟨hD2,hb2,by omega,?_,s2,?_,h.dig,by omega,?_,?_⟩
 ·rw[show c+1+r1=(c+r1)+1 by omega,numz,if_neg (by omega)]
  exact s1
 ·rcases h.lead with⟨h2,_⟩|h2
  ·omega
  ·exact .inr h2
 ·rw[hj,Nat.pow_succ,Nat.mul_comm (10^(c-wc)) 10,←Nat.div_div_eq_div_mul,show(V*10+q)/10=V by omega]
  exact h.num
 ·rw[hj,Nat.pow_succ,Nat.mul_comm (10^(c-wc)) 10,Nat.mod_mul,show(V*10+q) %10=q by omega,show(V*10+q)/10=V by omega,h.trn]
  by_cases h1:q=0
  ·subst h1
   generalize V %10^(c-wc)=Z
   by_cases h2:Z=0
   ·subst h2;simp
   ·rw[decide_eq_true h2,decide_eq_true (show 0+10*Z≠0 by omega)];simp
  ·rw[decide_eq_true h1,decide_eq_true (show q+10*(V %10^(c-wc))≠0 by omega)]
   simp
theorem P3.done {A:Nat→Nat} {nd:Nat} {dp0 dp:Int} {tr:Bool} {k r1 b B:Nat} {w0:World} {wc V c:Nat} {A':Nat→Nat} {tr':Bool} {wr:World}(h:P3 A nd dp tr (2^k) r1 b B w0 wc 0 V c A' tr' wr) (h1:1≤r1) (hdp:dp=dp0-r1+1) (hn1:2^k≤numz A nd r1) (hpre:numz A nd (r1-1)<2^k):
 RShift A nd dp0 tr k A' wc dp tr':=by
 have h0:0<wc∧49≤A' 0:=by
  rcases h.lead with⟨_,h2⟩|h2
  ·have:=Nat.two_pow_pos k;omega
  ·exact h2
 exact⟨⟨V,c,r1,h1,h.end_,h.val,hdp,h.kept,h.num,h.trn,hn1,hpre⟩,h0.1,h0.2,h.dig⟩
end Go.Pf
end
