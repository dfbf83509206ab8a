import Derived.Test.YtpjcdbjablijkaaGreatDoorTap
import Derived.Deep.CutRange
import Derived.Deep.RegionHeldLaw
import Derived.Test.YtpjcdbjablijkaaGreatDoorTaa
set_option linter.unusedSimpArgs false
set_option maxRecDepth 1000000
set_option maxHeartbeats 40000000
namespace Go.Proofs
open Go.RowKit Go.Pf Go.Rb
theorem p2_le {k N:Nat}(h:k≤N):2^k≤2^N:=Nat.pow_le_pow_right (by decide) h
theorem Tryz.enter98 (vs:Array Value) (w:World):(callFunc 98 vs).run Tryz.prog w= .ok (.enter 98 vs) w:=by kernel_rfl
theorem Tryz.enter55 (vs:Array Value) (w:World):(callFunc 55 vs).run Tryz.prog w= .ok (.enter 55 vs) w:=by kernel_rfl
theorem Tryz.enter104 (vs:Array Value) (w:World):(callFunc 104 vs).run Tryz.prog w= .ok (.enter 104 vs) w:=by kernel_rfl
theorem beq_of_ne' {a:Int} {n:Int}(h:a≠n):(a==n)=false:=by rw[Bool.eq_false_iff];intro e;exact h (eq_of_beq e)
theorem beq_of_eq' {a:Int} {n:Int}(h:a=n):(a==n)=true:=by rw[h];exact beq_self_eq_true _
theorem below_drew' {w:World} :Below w.heap.size w w.drew:=⟨rfl,rfl,rfl,nR _,fun _ _=>rfl⟩
def RatSays (A B:Nat) (w:World) (e:Ending) (w':World):Prop:=∃r:Nat×Bool,e= .returned (.tuple #[.int .u64 r.1,.bool r.2])∧RatOk A B r∧Below w.heap.size w w'
theorem rat_quo {A B la lb less u p q:Nat}(hA:T2 A la) (hB:T2 B lb) (a0:0<A) (b0:0<B) (hl:less=if A*2^(lb-la)<B*2^(la-lb)then 1 else 0) (hu:(u:Int)=max ((la:Int)-lb-less-52) (-1074)+1074)
 (hp:p=1074-u) (hq:q=u-1074):A*2^p/(B*2^q)<9007199254740992:=by
 obtain⟨_,h2⟩:=rat_unit hA hB a0 b0 hl hu KE KE_eq
 have hKE:=KE_eq
 have e5:p+u=KE+q:=by omega
 rw[Nat.div_lt_iff_lt_mul (Nat.mul_pos b0 (Nat.two_pow_pos q))]
 refine Nat.lt_of_mul_lt_mul_right (a:=2^u) ?_
 clear hKE hu hl hp hq
 generalize KE=k at*
 calc A*2^p*2^u=A*2^k*2^q:=by rw[Nat.mul_assoc,←Nat.pow_add,e5,Nat.pow_add,Nat.mul_assoc]
  _<B*2^(u+53)*2^q:=(Nat.mul_lt_mul_right (Nat.two_pow_pos q)).2 h2
  _=2^53*(B*2^q)*2^u:=by rw[Nat.pow_add];ac_rfl
  _=9007199254740992*(B*2^q)*2^u:=rfl
theorem Tryz.rratio (va vb:Value) (A B la lb:Nat) (w:World) (hA:BtV w va A la) (hB:BtV w vb B lb) (tA:T2 A la) (tB:T2 B lb) (a0:0<A) (b0:0<B) (hla:la≤10000) (hlb:lb≤10000):
 Calls Tryz.prog 154 #[.agg #[.bool false,va],.agg #[.bool false,vb]] w (RatSays A B w):=by
 obtain⟨aa,ac,rfl⟩:=hA.slice
 obtain⟨ba,bc,rfl⟩:=hB.slice
 obtain⟨H,hH⟩:∃H:Int,H=(la:Int)-lb:=⟨_,rfl⟩
 have eH:(la:Int)-lb=H:=hH.symm
 obtain⟨p1,hp1⟩:∃p1,p1=lb-la:=⟨_,rfl⟩
 obtain⟨p2,hp2⟩:∃p2,p2=la-lb:=⟨_,rfl⟩
 have mx1:max (0:Int) (-H)=(p1:Int):=by omega
 have mx2:max (0:Int) H=(p2:Int):=by omega
 have H1: -10000≤H:=by omega
 have H2:H≤10000:=by omega
 have P1:p1≤10000:=by omega
 have P2:p2≤10000:=by omega
 have wr1:IntKind.i64.wrap (-H)= -H:=IntWalk.i64_in _ (by omega)
 have HA:=Hi hA
 have HB:=Hi hB
 have HH:=Hi hH
 have HP1:=Hi hp1
 have HP2:=Hi hp2
 have TA:=Hi tA
 have TB:=Hi tB
 clear hA hB hH hp1 hp2 tA tB
 go_enter Tryz.func154,Tryz.ntmps154
 go_upto_region 2 with fail
 generalize hW:(w.alloc _).alloc _=W1
 have bl:Below w.heap.size w W1:=by subst hW;exact((Below.refl _ _).alloc (nR _) _).alloc (by simp) _
 have ca:Ce W1 w.heap.size (.bool false) (.slice aa la ac):=by subst hW;exact(Ce.new w _ _).below ((Below.refl _ _).alloc (nR _) _)
 have cb:Ce W1 (w.heap.size+1) (.bool false) (.slice ba lb bc):=by
  subst hW
  have h:=Ce.new (w.alloc (.cells #[.bool false,.slice aa la ac] 65)) (.bool false) (.slice ba lb bc)
  rwa [show(w.alloc (.cells #[.bool false,.slice aa la ac] 65)).heap.size=w.heap.size+1 by simp]at h
 clear hW
 have x0:=ca.c0
 have x1:=ca.c1
 have y0:=cb.c0
 have y1:=cb.c1
 have lt0:w.heap.size<W1.heap.size:=ca.lt
 have lt1:w.heap.size+1<W1.heap.size:=cb.lt
 have hA1:=HA.out.below bl
 have hB1:=HB.out.below bl
 have BL:=Hi bl
 have CSA:Hid (∀(W:World) (k:Nat),Below W1.heap.size W1 W→k≤100000→Calls Tryz.prog 98 #[.agg #[.bool false,.slice aa la ac],.int .i64 k] W (Big1 (A*2^k) W)):=Hi (fun W k h hk=>(Tryz.rshift _ A la k W (Hi (hA1.below h)) (by omega) (by omega)).mono fun _ _ h=>h.one)
 have CSB:Hid (∀(W:World) (k:Nat),Below W1.heap.size W1 W→k≤100000→Calls Tryz.prog 98 #[.agg #[.bool false,.slice ba lb bc],.int .i64 k] W (Big1 (B*2^k) W)):=Hi (fun W k h hk=>(Tryz.rshift _ B lb k W (Hi (hB1.below h)) (by omega) (by omega)).mono fun _ _ h=>h.one)
 have MB:Hid (∀m k,k≤100000→T2 (A*2^k) m∨T2 (B*2^k) m→m≤1000000):=Hi (fun m k hk h=>by
  have key:∀{Y l:Nat},Y<2^l→l≤10000→T2 (Y*2^k) m→m≤1000000:=fun {Y l} h1 h2 h3=>by
   have h4:Y*2^k<2^(l+k):=by rw[Nat.pow_add];exact(Nat.mul_lt_mul_right (Nat.two_pow_pos k)).2 h1
   have:=T2.le h3 h4 (nR _)
   omega
  rcases h with h|h
  ·exact key TA.out.1 hla h
  ·exact key TB.out.1 hlb h)
 clear bl hA1 hB1
 obtain⟨cv,hcv⟩:∃cv:Int,cv=if A*2^p1<B*2^p2 then-1 else if A*2^p1=B*2^p2 then 0 else 1:=⟨_,rfl⟩
 have CMP:Hid (∀(W:World) (v1 v2:Value) (m1 m2:Nat),BtV W v1 (A*2^p1) m1→T2 (A*2^p1) m1→BtV W v2 (B*2^p2) m2→T2 (B*2^p2) m2→Calls Tryz.prog 55 #[.agg #[.bool false,v1],.agg #[.bool false,v2]] W fun e W'=>e= .returned (.int .i64 cv)∧Below W.heap.size W W'):=Hi (fun W v1 v2 m1 m2 h1 h2 h3 h4=>by
  rw[hcv]
  have l1:=MB.out m1 p1 (by omega) (.inl h2)
  have l2:=MB.out m2 p2 (by omega) (.inr h4)
  exact Tryz.rcmp v1 v2 _ _ m1 m2 W (Hi h1) (Hi h3) h2 h4 (by omega) (by omega))
 obtain⟨D1,hD1⟩:∃D1,D1=decide (A*2^p1<B*2^p2):=⟨_,rfl⟩
 have dcv:decide (cv<0)=D1:=by
  rw[hD1,hcv]
  by_cases h:A*2^p1<B*2^p2
  ·rw[if_pos h,decide_eq_true h];rfl
  ·rw[if_neg h,decide_eq_false h]
   split<;>rfl
 have HD1:=Hi hD1
 clear hcv hD1
 go_cut [7]from 21 to 31 (fun s7 wx=>s7= .bool D1∧Below W1.heap.size W1 wx)
 case first=>
  refine wp_region_held_drew (S:=fun W=>Below W1.heap.size W1 W) (by kernel_rfl) below_drew' (fun hS=> ?_)
  refine wpAnyH_take (i:=0) (oi:=_) (v:= .agg #[.bool false,.slice aa la ac]) rfl (by kernel_rfl) (by kernel_rfl) (by kernel_rfl) (fun _ _ _ h=>h) (Or.inl ⟨by rfl,?_⟩) hS ?_
  ·intro W hSW
   have z0:=(hSW.cell (p:=⟨w.heap.size,0,none⟩) lt0).trans x0
   have z1:=(hSW.cell (p:=⟨w.heap.size,1,none⟩) lt0).trans x1
   go_simp
  simp only[uu1,uu2,uu3,Act.put,uu4,uu5,uu6]
  refine wpAnyH_take (i:=1) (oi:=_) (v:= .int .i64 H) rfl (by kernel_rfl) (by kernel_rfl) (by kernel_rfl) (fun _ _ _ h=>h) (Or.inl ⟨by rfl,?_⟩) hS ?_
  ·intro W hSW
   go_simp
  simp only[uu1,uu2,uu3,Act.put,uu4,uu5,uu6]
  refine wpAnyH_take (i:=2) (oi:=_) (v:= .int .i64 (-H)) rfl (by kernel_rfl) (by kernel_rfl) (by kernel_rfl) (fun _ _ _ h=>h) (Or.inl ⟨by rfl,?_⟩) hS ?_
  ·intro W hSW
   go_simp
  simp only[uu1,uu2,uu3,Act.put,uu4,uu5,uu6]
  refine wpAnyH_take (i:=3) (oi:=_) (v:= .int .i64 p1) rfl (by kernel_rfl) (by kernel_rfl) (by kernel_rfl) (fun _ _ _ h=>h) (Or.inl ⟨by rfl,?_⟩) hS ?_
  ·intro W hSW
   go_simp
  simp only[uu1,uu2,uu3,Act.put,uu4,uu5,uu6]
  refine wpAnyH_take (i:=5) (oi:=_) (v:= .agg #[.bool false,.slice ba lb bc]) rfl (by kernel_rfl) (by kernel_rfl) (by kernel_rfl) (fun _ _ _ h=>h) (Or.inl ⟨by rfl,?_⟩) hS ?_
  ·intro W hSW
   have z0:=(hSW.cell (p:=⟨w.heap.size+1,0,none⟩) lt1).trans y0
   have z1:=(hSW.cell (p:=⟨w.heap.size+1,1,none⟩) lt1).trans y1
   go_simp
  simp only[uu1,uu2,uu3,Act.put,uu4,uu5,uu6]
  refine wpAnyH_take (i:=6) (oi:=_) (v:= .int .i64 H) rfl (by kernel_rfl) (by kernel_rfl) (by kernel_rfl) (fun _ _ _ h=>h) (Or.inl ⟨by rfl,?_⟩) hS ?_
  ·intro W hSW
   go_simp
  simp only[uu1,uu2,uu3,Act.put,uu4,uu5,uu6]
  refine wpAnyH_take (i:=7) (oi:=_) (v:= .int .i64 p2) rfl (by kernel_rfl) (by kernel_rfl) (by kernel_rfl) (fun _ _ _ h=>h) (Or.inl ⟨by rfl,?_⟩) hS ?_
  ·intro W hSW
   go_simp
  simp only[uu1,uu2,uu3,Act.put,uu4,uu5,uu6]
  refine wpAnyH_ready (rs:= [4]) (by kernel_rfl) (by simp) ?_
  refine AllReadyH.cons rfl (fun K hK=> ?_) AllReadyH.nil
  refine step_call (by rfl) 98 [.tmp 21,.tmp 24] #[65,3] (by rfl) #[.agg #[.bool false,.slice aa la ac],.int .i64 p1] (by kernel_rfl) Tryz.enter98 ((CSA.out _ _ hS (by omega)).mono ?_)
  rintro e W3 ⟨⟨a3,m3,c3,rfl,ht3,hv3,hb3⟩⟩
  refine⟨_,rfl,?_⟩
  refine hK.out _ _ (hS.trans (hb3.mono hS.size)) (fun hS=> ?_)
  simp only[uu1,uu2,uu3,Act.put,uu4,uu5,uu6]
  refine wpAnyH_ready (rs:= [8]) (by kernel_rfl) (by simp) ?_
  refine AllReadyH.cons rfl (fun K hK=> ?_) AllReadyH.nil
  refine step_call (by rfl) 98 [.tmp 26,.tmp 28] #[65,3] (by rfl) #[.agg #[.bool false,.slice ba lb bc],.int .i64 p2] (by kernel_rfl) Tryz.enter98 ((CSB.out _ _ hS (by omega)).mono ?_)
  rintro e W4 ⟨⟨a4,m4,c4,rfl,ht4,hv4,hb4⟩⟩
  refine⟨_,rfl,?_⟩
  refine hK.out _ _ (hS.trans (hb4.mono hS.size)) (fun hS=> ?_)
  simp only[uu1,uu2,uu3,Act.put,uu4,uu5,uu6]
  refine wpAnyH_ready (rs:= [9]) (by kernel_rfl) (by simp) ?_
  refine AllReadyH.cons rfl (fun K hK=> ?_) AllReadyH.nil
  refine step_call (by rfl) 55 [.tmp 25,.tmp 29] #[65,65] (by rfl) #[.agg #[.bool false,.slice a3 m3 c3],.agg #[.bool false,.slice a4 m4 c4]] (by kernel_rfl) Tryz.enter55 ((CMP.out _ _ _ m3 m4 (hv3.below hb4) ht3 hv4 ht4).mono ?_)
  rintro e W5 ⟨rfl,hb5⟩
  refine⟨_,rfl,?_⟩
  refine hK.out _ _ (hS.trans (hb5.mono hS.size)) (fun hS=> ?_)
  simp only[uu1,uu2,uu3,Act.put,uu4,uu5,uu6]
  refine wpAnyH_take (i:=10) (oi:=_) (v:= .bool D1) rfl (by kernel_rfl) (by kernel_rfl) (by kernel_rfl) (fun _ _ _ h=>h) (Or.inl ⟨by rfl,?_⟩) hS ?_
  ·intro W hSW
   go_simp
  simp only[uu1,uu2,uu3,Act.put,uu4,uu5,uu6]
  refine wpAnyH_take (i:=11) (oi:=_) (v:= .bool D1) rfl (by kernel_rfl) (by kernel_rfl) (by kernel_rfl) (fun _ _ _ h=>h) (Or.inl ⟨by rfl,?_⟩) hS ?_
  ·intro W hSW
   go_simp
  simp only[uu1,uu2,uu3,Act.put,uu4,uu5,uu6]
  refine wpAnyH_done (by kernel_rfl) ?_ _
  go_wp2
  go_meet
  exact⟨rfl,hS⟩
 case rest=>
 obtain⟨rfl,hcut2⟩:=hcut
 have CUT:=Hi hcut2
 clear hcut2
 obtain⟨less,hless⟩:∃less,less=if A*2^p1<B*2^p2 then 1 else 0:=⟨_,rfl⟩
 obtain⟨G,hG⟩:∃G:Int,G=H-less:=⟨_,rfl⟩
 have l1:less≤1:=by rw[hless];split<;>omega
 have G1: -10001≤G:=by omega
 have G2:G≤10000:=by omega
 have HL:=Hi hless
 have hDl:(D1=true∧less=1)∨(D1=false∧less=0):=by
  by_cases h:A*2^p1<B*2^p2
  ·left;rw[HD1.out,hless,decide_eq_true h,if_pos h];exact⟨rfl,rfl⟩
  ·right;rw[HD1.out,hless,decide_eq_false h,if_neg h];exact⟨rfl,rfl⟩
 clear hless
 go_upto_if 32 with fail
 go_cut [6] (fun v wy=>wc=wy∧v= .int .i64 G)
 case first=>
  rcases hDl with⟨rfl,h1⟩|⟨rfl,h1⟩
  ·go_wp2
   go_meet
   exact⟨rfl,by congr 1;omega⟩
  ·go_wp2
   go_meet
   exact⟨rfl,by congr 1;omega⟩
 case rest=>
 obtain⟨rfl,rfl⟩:=hcut
 obtain⟨U,hU⟩:∃U:Int,U=max (G-52) (-1074):=⟨_,rfl⟩
 obtain⟨u,hu⟩:∃u:Nat,u=(U+1074).toNat:=⟨_,rfl⟩
 have mxU:max (G-52) (-1074)=U:=hU.symm
 have hu2:(u:Int)=U+1074:=by omega
 obtain⟨q1,hq1⟩:∃q1,q1=1074-u:=⟨_,rfl⟩
 obtain⟨q2,hq2⟩:∃q2,q2=u-1074:=⟨_,rfl⟩
 have mq1:max (0:Int) (-U)=(q1:Int):=by omega
 have mq2:max (0:Int) U=(q2:Int):=by omega
 have Q1:q1≤1074:=by omega
 have Q2:q2≤10000:=by omega
 have U1: -1074≤U:=by omega
 have U2:U≤10000:=by omega
 have wr2:IntKind.i64.wrap (-U)= -U:=IntWalk.i64_in _ (by omega)
 have uU:(u:Int)=max ((la:Int)-lb-less-52) (-1074)+1074:=by have:=HH.out;omega
 have OK:RatOk A B (ratEnd u (rne (A*2^q1) (B*2^q2))):=rat_ok TA.out TB.out a0 b0 (by rw[HL.out,HP1.out,HP2.out]) uU hq1 hq2
 have HOK:=Hi OK
 have HUU:=Hi uU
 have HQ1:=Hi hq1
 have HQ2:=Hi hq2
 have HU2:=Hi hu2
 clear OK uU hq1 hq2 hu hU mx1 mx2 wr1 hG hu2
 obtain⟨x,hx⟩:∃x,x=A*2^q1:=⟨_,rfl⟩
 obtain⟨y,hy⟩:∃y,y=B*2^q2:=⟨_,rfl⟩
 have x0p:0<x:=by rw[hx];exact Nat.mul_pos a0 (Nat.two_pow_pos _)
 have y0p:0<y:=by rw[hy];exact Nat.mul_pos b0 (Nat.two_pow_pos _)
 have CQU:Hid (∀(W:World) (v1 v2:Value) (m1 m2:Nat),BtV W v1 (A*2^q1) m1→T2 (A*2^q1) m1→BtV W v2 (B*2^q2) m2→T2 (B*2^q2) m2→Calls Tryz.prog 104 #[.agg #[.bool false,v1],.agg #[.bool false,v2]] W (QuoSays x y W)):=Hi (fun W v1 v2 m1 m2 h1 h2 h3 h4=>by
  have l1:=MB.out m1 q1 (by omega) (.inl h2)
  have l2:=MB.out m2 q2 (by omega) (.inr h4)
  rw[←hx]at h1 h2
  rw[←hy]at h3 h4
  exact Tryz.rquo v1 v2 x y m1 m2 W (Hi h1) (Hi h3) h4 (T2.pos_le h2 x0p).2 y0p (by omega) (by omega))
 obtain⟨qq,hqq⟩:∃q,q=x/y:=⟨_,rfl⟩
 obtain⟨rr,hrr⟩:∃r,r=x %y:=⟨_,rfl⟩
 unfold QuoSays at CQU
 rw[←hqq,←hrr]at CQU
 go_upto_region 6 with fail
 go_cut [9,10]from 38 to 50 (fun s9 s10 wx=>∃b9 b10 qa qm qc ra rm rc,s9= .pointer (some ⟨b9,0,none⟩)∧s10= .pointer (some ⟨b10,0,none⟩)∧Ce wx b9 (.bool false) (.slice qa qm qc)∧Ce wx b10 (.bool false) (.slice ra rm rc)∧T2 qq qm∧BtV wx (.slice qa qm qc) qq qm∧T2 rr rm∧BtV wx (.slice ra rm rc) rr rm∧Below W1.heap.size W1 wx)
 case first=>
  refine wp_region_held_drew (S:=fun W=>Below W1.heap.size W1 W) (by kernel_rfl) (CUT.out.trans (below_drew'.mono CUT.out.size)) (fun hS=> ?_)
  refine wpAnyH_take (i:=0) (oi:=_) (v:= .agg #[.bool false,.slice aa la ac]) rfl (by kernel_rfl) (by kernel_rfl) (by kernel_rfl) (fun _ _ _ h=>h) (Or.inl ⟨by rfl,?_⟩) hS ?_
  ·intro W hSW
   have z0:=(hSW.cell (p:=⟨w.heap.size,0,none⟩) lt0).trans x0
   have z1:=(hSW.cell (p:=⟨w.heap.size,1,none⟩) lt0).trans x1
   go_simp
  simp only[uu1,uu2,uu3,Act.put,uu4,uu5,uu6]
  refine wpAnyH_take (i:=1) (oi:=_) (v:= .int .i64 U) rfl (by kernel_rfl) (by kernel_rfl) (by kernel_rfl) (fun _ _ _ h=>h) (Or.inl ⟨by rfl,?_⟩) hS ?_
  ·intro W hSW
   go_simp
  simp only[uu1,uu2,uu3,Act.put,uu4,uu5,uu6]
  refine wpAnyH_take (i:=2) (oi:=_) (v:= .int .i64 (-U)) rfl (by kernel_rfl) (by kernel_rfl) (by kernel_rfl) (fun _ _ _ h=>h) (Or.inl ⟨by rfl,?_⟩) hS ?_
  ·intro W hSW
   go_simp
  simp only[uu1,uu2,uu3,Act.put,uu4,uu5,uu6]
  refine wpAnyH_take (i:=3) (oi:=_) (v:= .int .i64 q1) rfl (by kernel_rfl) (by kernel_rfl) (by kernel_rfl) (fun _ _ _ h=>h) (Or.inl ⟨by rfl,?_⟩) hS ?_
  ·intro W hSW
   go_simp
  simp only[uu1,uu2,uu3,Act.put,uu4,uu5,uu6]
  refine wpAnyH_take (i:=5) (oi:=_) (v:= .agg #[.bool false,.slice ba lb bc]) rfl (by kernel_rfl) (by kernel_rfl) (by kernel_rfl) (fun _ _ _ h=>h) (Or.inl ⟨by rfl,?_⟩) hS ?_
  ·intro W hSW
   have z0:=(hSW.cell (p:=⟨w.heap.size+1,0,none⟩) lt1).trans y0
   have z1:=(hSW.cell (p:=⟨w.heap.size+1,1,none⟩) lt1).trans y1
   go_simp
  simp only[uu1,uu2,uu3,Act.put,uu4,uu5,uu6]
  refine wpAnyH_take (i:=6) (oi:=_) (v:= .int .i64 U) rfl (by kernel_rfl) (by kernel_rfl) (by kernel_rfl) (fun _ _ _ h=>h) (Or.inl ⟨by rfl,?_⟩) hS ?_
  ·intro W hSW
   go_simp
  simp only[uu1,uu2,uu3,Act.put,uu4,uu5,uu6]
  refine wpAnyH_take (i:=7) (oi:=_) (v:= .int .i64 q2) rfl (by kernel_rfl) (by kernel_rfl) (by kernel_rfl) (fun _ _ _ h=>h) (Or.inl ⟨by rfl,?_⟩) hS ?_
  ·intro W hSW
   go_simp
  simp only[uu1,uu2,uu3,Act.put,uu4,uu5,uu6]
  obtain⟨W,hWW⟩:∃W,W=wc.drew:=⟨_,rfl⟩
  rw[←hWW]at hS⊢
  clear hWW
  all_goals
   refine wpAnyH_ready (rs:= [4,13,14]) (by kernel_rfl) (by simp) ?_
   refine AllReadyH.cons rfl (fun K hK=> ?_) (AllReadyH.cons rfl (fun K hK=> ?_) (AllReadyH.cons rfl (fun K hK=> ?_) AllReadyH.nil))
   focus
    refine step_call (by rfl) 98 [.tmp 39,.tmp 42] #[65,3] (by rfl) #[.agg #[.bool false,.slice aa la ac],.int .i64 q1] (by kernel_rfl) Tryz.enter98 ((CSA.out _ _ hS (by omega)).mono ?_)
    rintro e Wn ⟨⟨a3,m3,c3,rfl,ht3,hv3n,hb⟩⟩
    refine⟨_,rfl,?_⟩
    refine hK.out _ _ (hS.trans (hb.mono hS.size)) (fun hS=> ?_)
    simp only[uu1,uu2,uu3,Act.put,uu4,uu5,uu6]
    have hv3:=hv3n
    clear hv3n
    clear hb
    obtain⟨W,rfl⟩:∃W,W=Wn:=⟨_,rfl⟩
   rotate_left
   focus
    have hS0:=hS
    go_simp
    refine hK.out _ _ (hS.alloc hS.size _) (fun hS=> ?_)
    have hbA:Below W.heap.size W (W.alloc (.cells #[.bool false,.slice none 0 0] 65)):=(Below.refl _ _).alloc (nR _) _
    have t9:=Tok.new1 W
    have g9:W1.heap.size≤W.heap.size:=hS0.size
    obtain⟨b9,hb9⟩:∃b,b=W.heap.size:=⟨_,rfl⟩
    rw[←hb9]at t9 g9⊢
    obtain⟨Wn,hWn⟩:∃Wn,Wn=W.alloc (.cells #[.bool false,.slice none 0 0] 65):=⟨_,rfl⟩
    rw[←hWn]at hS t9⊢
    clear hWn hbA hb9 hS0
    obtain⟨W,rfl⟩:∃W,W=Wn:=⟨_,rfl⟩
   rotate_left
   focus
    have hS0:=hS
    go_simp
    refine hK.out _ _ (hS.alloc hS.size _) (fun hS=> ?_)
    have hbA:Below W.heap.size W (W.alloc (.cells #[.bool false,.slice none 0 0] 65)):=(Below.refl _ _).alloc (nR _) _
    have t10:=Tok.new1 W
    have g10:W1.heap.size≤W.heap.size:=hS0.size
    obtain⟨b10,hb10⟩:∃b,b=W.heap.size:=⟨_,rfl⟩
    rw[←hb10]at t10 g10⊢
    obtain⟨Wn,hWn⟩:∃Wn,Wn=W.alloc (.cells #[.bool false,.slice none 0 0] 65):=⟨_,rfl⟩
    rw[←hWn]at hS t10⊢
    clear hWn hbA hb10 hS0
    obtain⟨W,rfl⟩:∃W,W=Wn:=⟨_,rfl⟩
   rotate_left
  all_goals first
   | (refine wpAnyH_ready (rs:= [4,13]) (by kernel_rfl) (by simp) ?_
      refine AllReadyH.cons rfl (fun K hK=> ?_) (AllReadyH.cons rfl (fun K hK=> ?_) AllReadyH.nil)
      focus
       refine step_call (by rfl) 98 [.tmp 39,.tmp 42] #[65,3] (by rfl) #[.agg #[.bool false,.slice aa la ac],.int .i64 q1] (by kernel_rfl) Tryz.enter98 ((CSA.out _ _ hS (by omega)).mono ?_)
       rintro e Wn ⟨⟨a3,m3,c3,rfl,ht3,hv3n,hb⟩⟩
       refine⟨_,rfl,?_⟩
       refine hK.out _ _ (hS.trans (hb.mono hS.size)) (fun hS=> ?_)
       simp only[uu1,uu2,uu3,Act.put,uu4,uu5,uu6]
       have t10:=t10.below hb
       have hv3:=hv3n
       clear hv3n
       clear hb
       obtain⟨W,rfl⟩:∃W,W=Wn:=⟨_,rfl⟩
      rotate_left
      focus
       have hS0:=hS
       have t10o:=t10
       go_simp
       refine hK.out _ _ (hS.alloc hS.size _) (fun hS=> ?_)
       have hbA:Below W.heap.size W (W.alloc (.cells #[.bool false,.slice none 0 0] 65)):=(Below.refl _ _).alloc (nR _) _
       have t10:=t10.below hbA
       have t9:=Tok.new1 W
       have g9:W1.heap.size≤W.heap.size:=hS0.size
       have hne:W.heap.size≠b10:=by have:=t10o.lt;omega
       obtain⟨b9,hb9⟩:∃b,b=W.heap.size:=⟨_,rfl⟩
       rw[←hb9]at t9 g9 hne⊢
       obtain⟨Wn,hWn⟩:∃Wn,Wn=W.alloc (.cells #[.bool false,.slice none 0 0] 65):=⟨_,rfl⟩
       rw[←hWn]at hS t9 t10⊢
       clear hWn hbA hb9 hS0 t10o
       obtain⟨W,rfl⟩:∃W,W=Wn:=⟨_,rfl⟩
      rotate_left)
   | (refine wpAnyH_ready (rs:= [4,14]) (by kernel_rfl) (by simp) ?_
      refine AllReadyH.cons rfl (fun K hK=> ?_) (AllReadyH.cons rfl (fun K hK=> ?_) AllReadyH.nil)
      focus
       refine step_call (by rfl) 98 [.tmp 39,.tmp 42] #[65,3] (by rfl) #[.agg #[.bool false,.slice aa la ac],.int .i64 q1] (by kernel_rfl) Tryz.enter98 ((CSA.out _ _ hS (by omega)).mono ?_)
       rintro e Wn ⟨⟨a3,m3,c3,rfl,ht3,hv3n,hb⟩⟩
       refine⟨_,rfl,?_⟩
       refine hK.out _ _ (hS.trans (hb.mono hS.size)) (fun hS=> ?_)
       simp only[uu1,uu2,uu3,Act.put,uu4,uu5,uu6]
       have t9:=t9.below hb
       have hv3:=hv3n
       clear hv3n
       clear hb
       obtain⟨W,rfl⟩:∃W,W=Wn:=⟨_,rfl⟩
      rotate_left
      focus
       have hS0:=hS
       have t9o:=t9
       go_simp
       refine hK.out _ _ (hS.alloc hS.size _) (fun hS=> ?_)
       have hbA:Below W.heap.size W (W.alloc (.cells #[.bool false,.slice none 0 0] 65)):=(Below.refl _ _).alloc (nR _) _
       have t9:=t9.below hbA
       have t10:=Tok.new1 W
       have g10:W1.heap.size≤W.heap.size:=hS0.size
       have hne:b9≠W.heap.size:=by have:=t9o.lt;omega
       obtain⟨b10,hb10⟩:∃b,b=W.heap.size:=⟨_,rfl⟩
       rw[←hb10]at t10 g10 hne⊢
       obtain⟨Wn,hWn⟩:∃Wn,Wn=W.alloc (.cells #[.bool false,.slice none 0 0] 65):=⟨_,rfl⟩
       rw[←hWn]at hS t9 t10⊢
       clear hWn hbA hb10 hS0 t9o
       obtain⟨W,rfl⟩:∃W,W=Wn:=⟨_,rfl⟩
      rotate_left)
   | (refine wpAnyH_ready (rs:= [8,13,14]) (by kernel_rfl) (by simp) ?_
      refine AllReadyH.cons rfl (fun K hK=> ?_) (AllReadyH.cons rfl (fun K hK=> ?_) (AllReadyH.cons rfl (fun K hK=> ?_) AllReadyH.nil))
      focus
       refine step_call (by rfl) 98 [.tmp 44,.tmp 46] #[65,3] (by rfl) #[.agg #[.bool false,.slice ba lb bc],.int .i64 q2] (by kernel_rfl) Tryz.enter98 ((CSB.out _ _ hS (by omega)).mono ?_)
       rintro e Wn ⟨⟨a4,m4,c4,rfl,ht4,hv4n,hb⟩⟩
       refine⟨_,rfl,?_⟩
       refine hK.out _ _ (hS.trans (hb.mono hS.size)) (fun hS=> ?_)
       simp only[uu1,uu2,uu3,Act.put,uu4,uu5,uu6]
       have hv3:=hv3.below hb
       have hv4:=hv4n
       clear hv4n
       clear hb
       obtain⟨W,rfl⟩:∃W,W=Wn:=⟨_,rfl⟩
      rotate_left
      focus
       have hS0:=hS
       go_simp
       refine hK.out _ _ (hS.alloc hS.size _) (fun hS=> ?_)
       have hbA:Below W.heap.size W (W.alloc (.cells #[.bool false,.slice none 0 0] 65)):=(Below.refl _ _).alloc (nR _) _
       have hv3:=hv3.below hbA
       have t9:=Tok.new1 W
       have g9:W1.heap.size≤W.heap.size:=hS0.size
       obtain⟨b9,hb9⟩:∃b,b=W.heap.size:=⟨_,rfl⟩
       rw[←hb9]at t9 g9⊢
       obtain⟨Wn,hWn⟩:∃Wn,Wn=W.alloc (.cells #[.bool false,.slice none 0 0] 65):=⟨_,rfl⟩
       rw[←hWn]at hS t9 hv3⊢
       clear hWn hbA hb9 hS0
       obtain⟨W,rfl⟩:∃W,W=Wn:=⟨_,rfl⟩
      rotate_left
      focus
       have hS0:=hS
       go_simp
       refine hK.out _ _ (hS.alloc hS.size _) (fun hS=> ?_)
       have hbA:Below W.heap.size W (W.alloc (.cells #[.bool false,.slice none 0 0] 65)):=(Below.refl _ _).alloc (nR _) _
       have hv3:=hv3.below hbA
       have t10:=Tok.new1 W
       have g10:W1.heap.size≤W.heap.size:=hS0.size
       obtain⟨b10,hb10⟩:∃b,b=W.heap.size:=⟨_,rfl⟩
       rw[←hb10]at t10 g10⊢
       obtain⟨Wn,hWn⟩:∃Wn,Wn=W.alloc (.cells #[.bool false,.slice none 0 0] 65):=⟨_,rfl⟩
       rw[←hWn]at hS t10 hv3⊢
       clear hWn hbA hb10 hS0
       obtain⟨W,rfl⟩:∃W,W=Wn:=⟨_,rfl⟩
      rotate_left)
  all_goals first
   | (refine wpAnyH_ready (rs:= [4]) (by kernel_rfl) (by simp) ?_
      refine AllReadyH.cons rfl (fun K hK=> ?_) AllReadyH.nil
      focus
       refine step_call (by rfl) 98 [.tmp 39,.tmp 42] #[65,3] (by rfl) #[.agg #[.bool false,.slice aa la ac],.int .i64 q1] (by kernel_rfl) Tryz.enter98 ((CSA.out _ _ hS (by omega)).mono ?_)
       rintro e Wn ⟨⟨a3,m3,c3,rfl,ht3,hv3n,hb⟩⟩
       refine⟨_,rfl,?_⟩
       refine hK.out _ _ (hS.trans (hb.mono hS.size)) (fun hS=> ?_)
       simp only[uu1,uu2,uu3,Act.put,uu4,uu5,uu6]
       have t9:=t9.below hb
       have t10:=t10.below hb
       have hv3:=hv3n
       clear hv3n
       clear hb
       obtain⟨W,rfl⟩:∃W,W=Wn:=⟨_,rfl⟩)
   | (refine wpAnyH_ready (rs:= [8,13]) (by kernel_rfl) (by simp) ?_
      refine AllReadyH.cons rfl (fun K hK=> ?_) (AllReadyH.cons rfl (fun K hK=> ?_) AllReadyH.nil)
      focus
       refine step_call (by rfl) 98 [.tmp 44,.tmp 46] #[65,3] (by rfl) #[.agg #[.bool false,.slice ba lb bc],.int .i64 q2] (by kernel_rfl) Tryz.enter98 ((CSB.out _ _ hS (by omega)).mono ?_)
       rintro e Wn ⟨⟨a4,m4,c4,rfl,ht4,hv4n,hb⟩⟩
       refine⟨_,rfl,?_⟩
       refine hK.out _ _ (hS.trans (hb.mono hS.size)) (fun hS=> ?_)
       simp only[uu1,uu2,uu3,Act.put,uu4,uu5,uu6]
       have t10:=t10.below hb
       have hv3:=hv3.below hb
       have hv4:=hv4n
       clear hv4n
       clear hb
       obtain⟨W,rfl⟩:∃W,W=Wn:=⟨_,rfl⟩
      rotate_left
      focus
       have hS0:=hS
       have t10o:=t10
       go_simp
       refine hK.out _ _ (hS.alloc hS.size _) (fun hS=> ?_)
       have hbA:Below W.heap.size W (W.alloc (.cells #[.bool false,.slice none 0 0] 65)):=(Below.refl _ _).alloc (nR _) _
       have t10:=t10.below hbA
       have hv3:=hv3.below hbA
       have t9:=Tok.new1 W
       have g9:W1.heap.size≤W.heap.size:=hS0.size
       have hne:W.heap.size≠b10:=by have:=t10o.lt;omega
       obtain⟨b9,hb9⟩:∃b,b=W.heap.size:=⟨_,rfl⟩
       rw[←hb9]at t9 g9 hne⊢
       obtain⟨Wn,hWn⟩:∃Wn,Wn=W.alloc (.cells #[.bool false,.slice none 0 0] 65):=⟨_,rfl⟩
       rw[←hWn]at hS t9 t10 hv3⊢
       clear hWn hbA hb9 hS0 t10o
       obtain⟨W,rfl⟩:∃W,W=Wn:=⟨_,rfl⟩
      rotate_left)
   | (refine wpAnyH_ready (rs:= [8,14]) (by kernel_rfl) (by simp) ?_
      refine AllReadyH.cons rfl (fun K hK=> ?_) (AllReadyH.cons rfl (fun K hK=> ?_) AllReadyH.nil)
      focus
       refine step_call (by rfl) 98 [.tmp 44,.tmp 46] #[65,3] (by rfl) #[.agg #[.bool false,.slice ba lb bc],.int .i64 q2] (by kernel_rfl) Tryz.enter98 ((CSB.out _ _ hS (by omega)).mono ?_)
       rintro e Wn ⟨⟨a4,m4,c4,rfl,ht4,hv4n,hb⟩⟩
       refine⟨_,rfl,?_⟩
       refine hK.out _ _ (hS.trans (hb.mono hS.size)) (fun hS=> ?_)
       simp only[uu1,uu2,uu3,Act.put,uu4,uu5,uu6]
       have t9:=t9.below hb
       have hv3:=hv3.below hb
       have hv4:=hv4n
       clear hv4n
       clear hb
       obtain⟨W,rfl⟩:∃W,W=Wn:=⟨_,rfl⟩
      rotate_left
      focus
       have hS0:=hS
       have t9o:=t9
       go_simp
       refine hK.out _ _ (hS.alloc hS.size _) (fun hS=> ?_)
       have hbA:Below W.heap.size W (W.alloc (.cells #[.bool false,.slice none 0 0] 65)):=(Below.refl _ _).alloc (nR _) _
       have t9:=t9.below hbA
       have hv3:=hv3.below hbA
       have t10:=Tok.new1 W
       have g10:W1.heap.size≤W.heap.size:=hS0.size
       have hne:b9≠W.heap.size:=by have:=t9o.lt;omega
       obtain⟨b10,hb10⟩:∃b,b=W.heap.size:=⟨_,rfl⟩
       rw[←hb10]at t10 g10 hne⊢
       obtain⟨Wn,hWn⟩:∃Wn,Wn=W.alloc (.cells #[.bool false,.slice none 0 0] 65):=⟨_,rfl⟩
       rw[←hWn]at hS t9 t10 hv3⊢
       clear hWn hbA hb10 hS0 t9o
       obtain⟨W,rfl⟩:∃W,W=Wn:=⟨_,rfl⟩
      rotate_left)
   | (refine wpAnyH_ready (rs:= [9,13,14]) (by kernel_rfl) (by simp) ?_
      refine AllReadyH.cons rfl (fun K hK=> ?_) (AllReadyH.cons rfl (fun K hK=> ?_) (AllReadyH.cons rfl (fun K hK=> ?_) AllReadyH.nil))
      focus
       refine step_call (by rfl) 104 [.tmp 43,.tmp 47] #[65,65] (by rfl) #[.agg #[.bool false,.slice a3 m3 c3],.agg #[.bool false,.slice a4 m4 c4]] (by kernel_rfl) Tryz.enter104 ((CQU.out _ _ _ m3 m4 hv3 ht3 hv4 ht4).mono ?_)
       rintro e Wn ⟨qa,qm,qc,ra,rm,rc,rfl,htq,hqn,htr,hrn,hb⟩
       refine⟨_,rfl,?_⟩
       refine hK.out _ _ (hS.trans (hb.mono hS.size)) (fun hS=> ?_)
       simp only[uu1,uu2,uu3,Act.put,uu4,uu5,uu6]
       have hq:=hqn
       have hr:=hrn
       clear hqn hrn hv3 hv4
       clear hb
       obtain⟨W,rfl⟩:∃W,W=Wn:=⟨_,rfl⟩
       refine wpAnyH_take (i:=10) (oi:=_) (v:= .tuple #[.agg #[.bool false,.slice qa qm qc],.agg #[.bool false,.slice ra rm rc]]) rfl (by kernel_rfl) (by kernel_rfl) (by kernel_rfl) (fun _ _ _ h=>h) (Or.inl ⟨by rfl,?_⟩) hS ?_
       ·intro W hSW
        go_simp
       simp only[uu1,uu2,uu3,Act.put,uu4,uu5,uu6]
       refine wpAnyH_take (i:=11) (oi:=_) (v:= .agg #[.bool false,.slice qa qm qc]) rfl (by kernel_rfl) (by kernel_rfl) (by kernel_rfl) (fun _ _ _ h=>h) (Or.inl ⟨by rfl,?_⟩) hS ?_
       ·intro W hSW
        go_simp
       simp only[uu1,uu2,uu3,Act.put,uu4,uu5,uu6]
       refine wpAnyH_take (i:=12) (oi:=_) (v:= .agg #[.bool false,.slice ra rm rc]) rfl (by kernel_rfl) (by kernel_rfl) (by kernel_rfl) (fun _ _ _ h=>h) (Or.inl ⟨by rfl,?_⟩) hS ?_
       ·intro W hSW
        go_simp
       simp only[uu1,uu2,uu3,Act.put,uu4,uu5,uu6]
      rotate_left
      focus
       have hS0:=hS
       go_simp
       refine hK.out _ _ (hS.alloc hS.size _) (fun hS=> ?_)
       have hbA:Below W.heap.size W (W.alloc (.cells #[.bool false,.slice none 0 0] 65)):=(Below.refl _ _).alloc (nR _) _
       have hv3:=hv3.below hbA
       have hv4:=hv4.below hbA
       have t9:=Tok.new1 W
       have g9:W1.heap.size≤W.heap.size:=hS0.size
       obtain⟨b9,hb9⟩:∃b,b=W.heap.size:=⟨_,rfl⟩
       rw[←hb9]at t9 g9⊢
       obtain⟨Wn,hWn⟩:∃Wn,Wn=W.alloc (.cells #[.bool false,.slice none 0 0] 65):=⟨_,rfl⟩
       rw[←hWn]at hS t9 hv3 hv4⊢
       clear hWn hbA hb9 hS0
       obtain⟨W,rfl⟩:∃W,W=Wn:=⟨_,rfl⟩
      rotate_left
      focus
       have hS0:=hS
       go_simp
       refine hK.out _ _ (hS.alloc hS.size _) (fun hS=> ?_)
       have hbA:Below W.heap.size W (W.alloc (.cells #[.bool false,.slice none 0 0] 65)):=(Below.refl _ _).alloc (nR _) _
       have hv3:=hv3.below hbA
       have hv4:=hv4.below hbA
       have t10:=Tok.new1 W
       have g10:W1.heap.size≤W.heap.size:=hS0.size
       obtain⟨b10,hb10⟩:∃b,b=W.heap.size:=⟨_,rfl⟩
       rw[←hb10]at t10 g10⊢
       obtain⟨Wn,hWn⟩:∃Wn,Wn=W.alloc (.cells #[.bool false,.slice none 0 0] 65):=⟨_,rfl⟩
       rw[←hWn]at hS t10 hv3 hv4⊢
       clear hWn hbA hb10 hS0
       obtain⟨W,rfl⟩:∃W,W=Wn:=⟨_,rfl⟩
      rotate_left)
  all_goals first
   | (refine wpAnyH_ready (rs:= [8]) (by kernel_rfl) (by simp) ?_
      refine AllReadyH.cons rfl (fun K hK=> ?_) AllReadyH.nil
      focus
       refine step_call (by rfl) 98 [.tmp 44,.tmp 46] #[65,3] (by rfl) #[.agg #[.bool false,.slice ba lb bc],.int .i64 q2] (by kernel_rfl) Tryz.enter98 ((CSB.out _ _ hS (by omega)).mono ?_)
       rintro e Wn ⟨⟨a4,m4,c4,rfl,ht4,hv4n,hb⟩⟩
       refine⟨_,rfl,?_⟩
       refine hK.out _ _ (hS.trans (hb.mono hS.size)) (fun hS=> ?_)
       simp only[uu1,uu2,uu3,Act.put,uu4,uu5,uu6]
       have t9:=t9.below hb
       have t10:=t10.below hb
       have hv3:=hv3.below hb
       have hv4:=hv4n
       clear hv4n
       clear hb
       obtain⟨W,rfl⟩:∃W,W=Wn:=⟨_,rfl⟩)
   | (refine wpAnyH_ready (rs:= [9,13]) (by kernel_rfl) (by simp) ?_
      refine AllReadyH.cons rfl (fun K hK=> ?_) (AllReadyH.cons rfl (fun K hK=> ?_) AllReadyH.nil)
      focus
       refine step_call (by rfl) 104 [.tmp 43,.tmp 47] #[65,65] (by rfl) #[.agg #[.bool false,.slice a3 m3 c3],.agg #[.bool false,.slice a4 m4 c4]] (by kernel_rfl) Tryz.enter104 ((CQU.out _ _ _ m3 m4 hv3 ht3 hv4 ht4).mono ?_)
       rintro e Wn ⟨qa,qm,qc,ra,rm,rc,rfl,htq,hqn,htr,hrn,hb⟩
       refine⟨_,rfl,?_⟩
       refine hK.out _ _ (hS.trans (hb.mono hS.size)) (fun hS=> ?_)
       simp only[uu1,uu2,uu3,Act.put,uu4,uu5,uu6]
       have t10:=t10.below hb
       have hq:=hqn
       have hr:=hrn
       clear hqn hrn hv3 hv4
       clear hb
       obtain⟨W,rfl⟩:∃W,W=Wn:=⟨_,rfl⟩
       refine wpAnyH_take (i:=10) (oi:=_) (v:= .tuple #[.agg #[.bool false,.slice qa qm qc],.agg #[.bool false,.slice ra rm rc]]) rfl (by kernel_rfl) (by kernel_rfl) (by kernel_rfl) (fun _ _ _ h=>h) (Or.inl ⟨by rfl,?_⟩) hS ?_
       ·intro W hSW
        go_simp
       simp only[uu1,uu2,uu3,Act.put,uu4,uu5,uu6]
       refine wpAnyH_take (i:=11) (oi:=_) (v:= .agg #[.bool false,.slice qa qm qc]) rfl (by kernel_rfl) (by kernel_rfl) (by kernel_rfl) (fun _ _ _ h=>h) (Or.inl ⟨by rfl,?_⟩) hS ?_
       ·intro W hSW
        go_simp
       simp only[uu1,uu2,uu3,Act.put,uu4,uu5,uu6]
       refine wpAnyH_take (i:=12) (oi:=_) (v:= .agg #[.bool false,.slice ra rm rc]) rfl (by kernel_rfl) (by kernel_rfl) (by kernel_rfl) (fun _ _ _ h=>h) (Or.inl ⟨by rfl,?_⟩) hS ?_
       ·intro W hSW
        go_simp
       simp only[uu1,uu2,uu3,Act.put,uu4,uu5,uu6]
      rotate_left
      focus
       have hS0:=hS
       have t10o:=t10
       go_simp
       refine hK.out _ _ (hS.alloc hS.size _) (fun hS=> ?_)
       have hbA:Below W.heap.size W (W.alloc (.cells #[.bool false,.slice none 0 0] 65)):=(Below.refl _ _).alloc (nR _) _
       have t10:=t10.below hbA
       have hv3:=hv3.below hbA
       have hv4:=hv4.below hbA
       have t9:=Tok.new1 W
       have g9:W1.heap.size≤W.heap.size:=hS0.size
       have hne:W.heap.size≠b10:=by have:=t10o.lt;omega
       obtain⟨b9,hb9⟩:∃b,b=W.heap.size:=⟨_,rfl⟩
       rw[←hb9]at t9 g9 hne⊢
       obtain⟨Wn,hWn⟩:∃Wn,Wn=W.alloc (.cells #[.bool false,.slice none 0 0] 65):=⟨_,rfl⟩
       rw[←hWn]at hS t9 t10 hv3 hv4⊢
       clear hWn hbA hb9 hS0 t10o
       obtain⟨W,rfl⟩:∃W,W=Wn:=⟨_,rfl⟩
      rotate_left)
   | (refine wpAnyH_ready (rs:= [9,14]) (by kernel_rfl) (by simp) ?_
      refine AllReadyH.cons rfl (fun K hK=> ?_) (AllReadyH.cons rfl (fun K hK=> ?_) AllReadyH.nil)
      focus
       refine step_call (by rfl) 104 [.tmp 43,.tmp 47] #[65,65] (by rfl) #[.agg #[.bool false,.slice a3 m3 c3],.agg #[.bool false,.slice a4 m4 c4]] (by kernel_rfl) Tryz.enter104 ((CQU.out _ _ _ m3 m4 hv3 ht3 hv4 ht4).mono ?_)
       rintro e Wn ⟨qa,qm,qc,ra,rm,rc,rfl,htq,hqn,htr,hrn,hb⟩
       refine⟨_,rfl,?_⟩
       refine hK.out _ _ (hS.trans (hb.mono hS.size)) (fun hS=> ?_)
       simp only[uu1,uu2,uu3,Act.put,uu4,uu5,uu6]
       have t9:=t9.below hb
       have hq:=hqn
       have hr:=hrn
       clear hqn hrn hv3 hv4
       clear hb
       obtain⟨W,rfl⟩:∃W,W=Wn:=⟨_,rfl⟩
       refine wpAnyH_take (i:=10) (oi:=_) (v:= .tuple #[.agg #[.bool false,.slice qa qm qc],.agg #[.bool false,.slice ra rm rc]]) rfl (by kernel_rfl) (by kernel_rfl) (by kernel_rfl) (fun _ _ _ h=>h) (Or.inl ⟨by rfl,?_⟩) hS ?_
       ·intro W hSW
        go_simp
       simp only[uu1,uu2,uu3,Act.put,uu4,uu5,uu6]
       refine wpAnyH_take (i:=11) (oi:=_) (v:= .agg #[.bool false,.slice qa qm qc]) rfl (by kernel_rfl) (by kernel_rfl) (by kernel_rfl) (fun _ _ _ h=>h) (Or.inl ⟨by rfl,?_⟩) hS ?_
       ·intro W hSW
        go_simp
       simp only[uu1,uu2,uu3,Act.put,uu4,uu5,uu6]
       refine wpAnyH_take (i:=12) (oi:=_) (v:= .agg #[.bool false,.slice ra rm rc]) rfl (by kernel_rfl) (by kernel_rfl) (by kernel_rfl) (fun _ _ _ h=>h) (Or.inl ⟨by rfl,?_⟩) hS ?_
       ·intro W hSW
        go_simp
       simp only[uu1,uu2,uu3,Act.put,uu4,uu5,uu6]
      rotate_left
      focus
       have hS0:=hS
       have t9o:=t9
       go_simp
       refine hK.out _ _ (hS.alloc hS.size _) (fun hS=> ?_)
       have hbA:Below W.heap.size W (W.alloc (.cells #[.bool false,.slice none 0 0] 65)):=(Below.refl _ _).alloc (nR _) _
       have t9:=t9.below hbA
       have hv3:=hv3.below hbA
       have hv4:=hv4.below hbA
       have t10:=Tok.new1 W
       have g10:W1.heap.size≤W.heap.size:=hS0.size
       have hne:b9≠W.heap.size:=by have:=t9o.lt;omega
       obtain⟨b10,hb10⟩:∃b,b=W.heap.size:=⟨_,rfl⟩
       rw[←hb10]at t10 g10 hne⊢
       obtain⟨Wn,hWn⟩:∃Wn,Wn=W.alloc (.cells #[.bool false,.slice none 0 0] 65):=⟨_,rfl⟩
       rw[←hWn]at hS t9 t10 hv3 hv4⊢
       clear hWn hbA hb10 hS0 t9o
       obtain⟨W,rfl⟩:∃W,W=Wn:=⟨_,rfl⟩
      rotate_left)
   | (refine wpAnyH_ready (rs:= [13,14]) (by kernel_rfl) (by simp) ?_
      refine AllReadyH.cons rfl (fun K hK=> ?_) (AllReadyH.cons rfl (fun K hK=> ?_) AllReadyH.nil)
      focus
       have hS0:=hS
       go_simp
       refine hK.out _ _ (hS.alloc hS.size _) (fun hS=> ?_)
       have hbA:Below W.heap.size W (W.alloc (.cells #[.bool false,.slice none 0 0] 65)):=(Below.refl _ _).alloc (nR _) _
       have hq:=hq.below hbA
       have hr:=hr.below hbA
       have t9:=Tok.new1 W
       have g9:W1.heap.size≤W.heap.size:=hS0.size
       obtain⟨b9,hb9⟩:∃b,b=W.heap.size:=⟨_,rfl⟩
       rw[←hb9]at t9 g9⊢
       obtain⟨Wn,hWn⟩:∃Wn,Wn=W.alloc (.cells #[.bool false,.slice none 0 0] 65):=⟨_,rfl⟩
       rw[←hWn]at hS t9 hq hr⊢
       clear hWn hbA hb9 hS0
       obtain⟨W,rfl⟩:∃W,W=Wn:=⟨_,rfl⟩
      rotate_left
      focus
       have hS0:=hS
       go_simp
       refine hK.out _ _ (hS.alloc hS.size _) (fun hS=> ?_)
       have hbA:Below W.heap.size W (W.alloc (.cells #[.bool false,.slice none 0 0] 65)):=(Below.refl _ _).alloc (nR _) _
       have hq:=hq.below hbA
       have hr:=hr.below hbA
       have t10:=Tok.new1 W
       have g10:W1.heap.size≤W.heap.size:=hS0.size
       obtain⟨b10,hb10⟩:∃b,b=W.heap.size:=⟨_,rfl⟩
       rw[←hb10]at t10 g10⊢
       obtain⟨Wn,hWn⟩:∃Wn,Wn=W.alloc (.cells #[.bool false,.slice none 0 0] 65):=⟨_,rfl⟩
       rw[←hWn]at hS t10 hq hr⊢
       clear hWn hbA hb10 hS0
       obtain⟨W,rfl⟩:∃W,W=Wn:=⟨_,rfl⟩
      rotate_left)
  all_goals first
   | (refine wpAnyH_ready (rs:= [9]) (by kernel_rfl) (by simp) ?_
      refine AllReadyH.cons rfl (fun K hK=> ?_) AllReadyH.nil
      focus
       refine step_call (by rfl) 104 [.tmp 43,.tmp 47] #[65,65] (by rfl) #[.agg #[.bool false,.slice a3 m3 c3],.agg #[.bool false,.slice a4 m4 c4]] (by kernel_rfl) Tryz.enter104 ((CQU.out _ _ _ m3 m4 hv3 ht3 hv4 ht4).mono ?_)
       rintro e Wn ⟨qa,qm,qc,ra,rm,rc,rfl,htq,hqn,htr,hrn,hb⟩
       refine⟨_,rfl,?_⟩
       refine hK.out _ _ (hS.trans (hb.mono hS.size)) (fun hS=> ?_)
       simp only[uu1,uu2,uu3,Act.put,uu4,uu5,uu6]
       have t9:=t9.below hb
       have t10:=t10.below hb
       have hq:=hqn
       have hr:=hrn
       clear hqn hrn hv3 hv4
       clear hb
       obtain⟨W,rfl⟩:∃W,W=Wn:=⟨_,rfl⟩
       refine wpAnyH_take (i:=10) (oi:=_) (v:= .tuple #[.agg #[.bool false,.slice qa qm qc],.agg #[.bool false,.slice ra rm rc]]) rfl (by kernel_rfl) (by kernel_rfl) (by kernel_rfl) (fun _ _ _ h=>h) (Or.inl ⟨by rfl,?_⟩) hS ?_
       ·intro W hSW
        go_simp
       simp only[uu1,uu2,uu3,Act.put,uu4,uu5,uu6]
       refine wpAnyH_take (i:=11) (oi:=_) (v:= .agg #[.bool false,.slice qa qm qc]) rfl (by kernel_rfl) (by kernel_rfl) (by kernel_rfl) (fun _ _ _ h=>h) (Or.inl ⟨by rfl,?_⟩) hS ?_
       ·intro W hSW
        go_simp
       simp only[uu1,uu2,uu3,Act.put,uu4,uu5,uu6]
       refine wpAnyH_take (i:=12) (oi:=_) (v:= .agg #[.bool false,.slice ra rm rc]) rfl (by kernel_rfl) (by kernel_rfl) (by kernel_rfl) (fun _ _ _ h=>h) (Or.inl ⟨by rfl,?_⟩) hS ?_
       ·intro W hSW
        go_simp
       simp only[uu1,uu2,uu3,Act.put,uu4,uu5,uu6])
   | (refine wpAnyH_ready (rs:= [13]) (by kernel_rfl) (by simp) ?_
      refine AllReadyH.cons rfl (fun K hK=> ?_) AllReadyH.nil
      focus
       have hS0:=hS
       have t10o:=t10
       go_simp
       refine hK.out _ _ (hS.alloc hS.size _) (fun hS=> ?_)
       have hbA:Below W.heap.size W (W.alloc (.cells #[.bool false,.slice none 0 0] 65)):=(Below.refl _ _).alloc (nR _) _
       have t10:=t10.below hbA
       have hq:=hq.below hbA
       have hr:=hr.below hbA
       have t9:=Tok.new1 W
       have g9:W1.heap.size≤W.heap.size:=hS0.size
       have hne:W.heap.size≠b10:=by have:=t10o.lt;omega
       obtain⟨b9,hb9⟩:∃b,b=W.heap.size:=⟨_,rfl⟩
       rw[←hb9]at t9 g9 hne⊢
       obtain⟨Wn,hWn⟩:∃Wn,Wn=W.alloc (.cells #[.bool false,.slice none 0 0] 65):=⟨_,rfl⟩
       rw[←hWn]at hS t9 t10 hq hr⊢
       clear hWn hbA hb9 hS0 t10o
       obtain⟨W,rfl⟩:∃W,W=Wn:=⟨_,rfl⟩)
   | (refine wpAnyH_ready (rs:= [14]) (by kernel_rfl) (by simp) ?_
      refine AllReadyH.cons rfl (fun K hK=> ?_) AllReadyH.nil
      focus
       have hS0:=hS
       have t9o:=t9
       go_simp
       refine hK.out _ _ (hS.alloc hS.size _) (fun hS=> ?_)
       have hbA:Below W.heap.size W (W.alloc (.cells #[.bool false,.slice none 0 0] 65)):=(Below.refl _ _).alloc (nR _) _
       have t9:=t9.below hbA
       have hq:=hq.below hbA
       have hr:=hr.below hbA
       have t10:=Tok.new1 W
       have g10:W1.heap.size≤W.heap.size:=hS0.size
       have hne:b9≠W.heap.size:=by have:=t9o.lt;omega
       obtain⟨b10,hb10⟩:∃b,b=W.heap.size:=⟨_,rfl⟩
       rw[←hb10]at t10 g10 hne⊢
       obtain⟨Wn,hWn⟩:∃Wn,Wn=W.alloc (.cells #[.bool false,.slice none 0 0] 65):=⟨_,rfl⟩
       rw[←hWn]at hS t9 t10 hq hr⊢
       clear hWn hbA hb10 hS0 t9o
       obtain⟨W,rfl⟩:∃W,W=Wn:=⟨_,rfl⟩)
  all_goals
   refine wpAnyH_ready (rs:= [15]) (by kernel_rfl) (by simp) ?_
   refine AllReadyH.cons rfl (fun K hK=> ?_) AllReadyH.nil
   have e0:=t9.c0
   have e1:=t9.c1
   have e2:=t9.f 0
   have e3:=t9.f 1
   go_simp
   refine hK.out _ _ ((hS.setCell (p:=⟨b9,0,none⟩) g9 _).setCell (p:=⟨b9,1,none⟩) g9 _) (fun hS=> ?_)
   clear hK
   have ce9:=t9.ce.set (.bool false) (.slice qa qm qc)
   have t10:=(t10.other (a:=⟨b9,0,none⟩) hne.symm (.bool false)).other (a:=⟨b9,1,none⟩) hne.symm (.slice qa qm qc)
   have hq:=hq.tok t9 (.bool false) (.slice qa qm qc)
   have hr:=hr.tok t9 (.bool false) (.slice qa qm qc)
   clear e0 e1 e2 e3 t9
   obtain⟨Wn,hWn⟩:∃Wn,Wn=(W.setCell ⟨b9,0,none⟩ (.bool false)).setCell ⟨b9,1,none⟩ (.slice qa qm qc):=⟨_,rfl⟩
   rw[←hWn]at hS ce9 t10 hq hr⊢
   clear hWn
   obtain⟨W,rfl⟩:∃W,W=Wn:=⟨_,rfl⟩
   refine wpAnyH_ready (rs:= [16]) (by kernel_rfl) (by simp) ?_
   refine AllReadyH.cons rfl (fun K hK=> ?_) AllReadyH.nil
   have f0:=t10.c0
   have f1:=t10.c1
   have f2:=t10.f 0
   have f3:=t10.f 1
   go_simp
   refine hK.out _ _ ((hS.setCell (p:=⟨b10,0,none⟩) g10 _).setCell (p:=⟨b10,1,none⟩) g10 _) (fun hS=> ?_)
   refine wpAnyH_done (by kernel_rfl) ?_ _
   have ce10:=t10.ce.set (.bool false) (.slice ra rm rc)
   have ce9:=(ce9.other (a:=⟨b10,0,none⟩) hne (.bool false)).other (a:=⟨b10,1,none⟩) hne (.slice ra rm rc)
   have hq:=hq.tok t10 (.bool false) (.slice ra rm rc)
   have hr:=hr.tok t10 (.bool false) (.slice ra rm rc)
   go_wp2
   go_meet
   exact⟨b9,b10,qa,qm,qc,ra,rm,rc,rfl,rfl,ce9,ce10,htq,hq,htr,hr,hS⟩
 case rest=>
 obtain⟨b9,b10,qa,qm,qc,ra,rm,rc,rfl,rfl,ce9,ce10,htq,hq,htr,hr,hS1⟩:=hcut
 obtain⟨w6,hw6⟩:∃v,v=wc:=⟨_,rfl⟩
 rw[←hw6]at ce9 ce10 hq hr hS1⊢
 clear hw6
 have s0:=ce10.c0
 have s1:=ce10.c1
 have lt10:b10<w6.heap.size:=ce10.lt
 have lt2:w.heap.size+1<w6.heap.size:=Nat.lt_of_lt_of_le lt1 hS1.size
 have r0:=(hS1.cell (p:=⟨w.heap.size+1,0,none⟩) lt1).trans y0
 have r1:=(hS1.cell (p:=⟨w.heap.size+1,1,none⟩) lt1).trans y1
 have HS1:=Hi hS1
 have rmle:rm≤1000000:=by
  have h1:=MB.out
  obtain⟨N0,hN0⟩:∃N0,N0=20000:=⟨_,rfl⟩
  have h2:rr<2^N0:=by
   rw[hrr]
   refine Nat.lt_trans (Nat.mod_lt _ y0p) ?_
   rw[hy]
   have h3:B*2^q2<2^(lb+q2):=by rw[Nat.pow_add];exact(Nat.mul_lt_mul_right (Nat.two_pow_pos _)).2 TB.out.1
   exact Nat.lt_of_lt_of_le h3 (Nat.pow_le_pow_right (by decide) (by omega))
  have:=T2.le htr h2 (nR _)
  omega
 have CSR:Hid (∀(W:World),Below w6.heap.size w6 W→Calls Tryz.prog 98 #[.agg #[.bool false,.slice ra rm rc],.int .i64 1] W (Big1 (rr*2^1) W)):=Hi (fun W h=>(Tryz.rshift _ rr rm 1 W (Hi (hr.below h)) (by omega) (by omega)).mono fun _ _ h=>h.one)
 obtain⟨cv2,hcv2⟩:∃cv:Int,cv=if rr*2^1<B*2^q2 then-1 else if rr*2^1=B*2^q2 then 0 else 1:=⟨_,rfl⟩
 have CMQ:Hid (∀(W:World) (v1 v2:Value) (m1 m2:Nat),BtV W v1 (rr*2^1) m1→T2 (rr*2^1) m1→BtV W v2 (B*2^q2) m2→T2 (B*2^q2) m2→Calls Tryz.prog 55 #[.agg #[.bool false,v1],.agg #[.bool false,v2]] W fun e W'=>e= .returned (.int .i64 cv2)∧Below W.heap.size W W'):=Hi (fun W v1 v2 m1 m2 h1 h2 h3 h4=>by
  rw[hcv2]
  have l1:m1≤rm+1:=by
   have h5:rr*2^1<2^(rm+1):=by rw[Nat.pow_add];exact(Nat.mul_lt_mul_right (Nat.two_pow_pos _)).2 htr.1
   exact T2.le h2 h5 (nR _)
  have l2:=MB.out m2 q2 (by omega) (.inr h4)
  exact Tryz.rcmp v1 v2 _ _ m1 m2 W (Hi h1) (Hi h3) h2 h4 (by omega) (by omega))
 have HQQ:Hid (BtV w6 (.slice qa qm qc) qq qm):=Hi hq
 have HTQ:=Hi htq
 have c9:=ce9.c1
 have lt9:=ce9.lt
 have BLW:Hid (Below w.heap.size w w6):=Hi (BL.out.trans (hS1.mono (by omega)))
 have qmle:qm≤1000000:=by
  have h2:qq<2^20000:=by
   rw[hqq]
   refine Nat.lt_of_le_of_lt (Nat.div_le_self _ _) ?_
   rw[hx]
   have h3:A*2^q1<2^(la+q1):=by rw[Nat.pow_add];exact(Nat.mul_lt_mul_right (Nat.two_pow_pos _)).2 TA.out.1
   exact Nat.lt_of_lt_of_le h3 (p2_le (N:=20000) (by omega))
  have:=T2.le htq h2 (nR _)
  omega
 have q53:qq<9007199254740992:=by
  rw[hqq,hx,hy]
  exact rat_quo TA.out TB.out a0 b0 (by rw[HL.out,HP1.out,HP2.out]) HUU.out HQ1.out HQ2.out
 obtain⟨mm,hmm⟩:∃mm,mm=rne (A*2^q1) (B*2^q2):=⟨_,rfl⟩
 have HMM:=Hi hmm
 rw[←hmm]at HOK
 obtain⟨T,hT⟩:∃T:Bool,T=decide (B*2^q2<2*rr∨(2*rr=B*2^q2∧qq %2=1)):=⟨_,rfl⟩
 have hTT:(T=true∧mm=qq+1)∨(T=false∧mm=qq):=by
  rw[hT,hmm,hqq,hrr,hx,hy]
  unfold rne
  by_cases h:B*2^q2<2*(A*2^q1 %(B*2^q2))∨(2*(A*2^q1 %(B*2^q2))=B*2^q2∧A*2^q1/(B*2^q2) %2=1)
  ·left;rw[if_pos h,decide_eq_true h];exact⟨rfl,rfl⟩
  ·right;rw[if_neg h,decide_eq_false h];exact⟨rfl,rfl⟩
 have hW3:(cv2=1∧T=true)∨(cv2=0∧T=decide (qq %2=1))∨(cv2= -1∧T=false):=by
  rw[hcv2,hT,Nat.pow_one,Nat.mul_comm rr 2]
  generalize B*2^q2=Y
  by_cases h1:2*rr<Y
  ·right;right
   rw[if_pos h1]
   exact⟨rfl,decide_eq_false (by omega)⟩
  ·rw[if_neg h1]
   by_cases h2:2*rr=Y
   ·right;left
    rw[if_pos h2]
    exact⟨rfl,decide_eq_decide.2 (by omega)⟩
   ·left
    rw[if_neg h2]
    exact⟨rfl,decide_eq_true (by omega)⟩
 have HTT:=Hi hTT
 have HW3:=Hi hW3
 clear hcv2 hT hTT hW3 hmm htr hr hq htq ce9 ce10 hS1 hqq hrr hx hy x0p y0p
 go_upto_region 7 with fail
 go_cut [11]from 51 to 57 (fun v wx=>v= .int .i64 cv2∧Below w6.heap.size w6 wx)
 case first=>
  refine wp_region_held_drew (S:=fun W=>Below w6.heap.size w6 W) (by kernel_rfl) below_drew' (fun hS=> ?_)
  refine wpAnyH_take (i:=0) (oi:=_) (v:= .agg #[.bool false,.slice ra rm rc]) rfl (by kernel_rfl) (by kernel_rfl) (by kernel_rfl) (fun _ _ _ h=>h) (Or.inl ⟨by rfl,?_⟩) hS ?_
  ·intro W hSW
   have z0:=(hSW.cell (p:=⟨b10,0,none⟩) lt10).trans s0
   have z1:=(hSW.cell (p:=⟨b10,1,none⟩) lt10).trans s1
   go_simp
  simp only[uu1,uu2,uu3,Act.put,uu4,uu5,uu6]
  refine wpAnyH_take (i:=2) (oi:=_) (v:= .agg #[.bool false,.slice ba lb bc]) rfl (by kernel_rfl) (by kernel_rfl) (by kernel_rfl) (fun _ _ _ h=>h) (Or.inl ⟨by rfl,?_⟩) hS ?_
  ·intro W hSW
   have z0:=(hSW.cell (p:=⟨w.heap.size+1,0,none⟩) lt2).trans r0
   have z1:=(hSW.cell (p:=⟨w.heap.size+1,1,none⟩) lt2).trans r1
   go_simp
  simp only[uu1,uu2,uu3,Act.put,uu4,uu5,uu6]
  refine wpAnyH_take (i:=3) (oi:=_) (v:= .int .i64 U) rfl (by kernel_rfl) (by kernel_rfl) (by kernel_rfl) (fun _ _ _ h=>h) (Or.inl ⟨by rfl,?_⟩) hS ?_
  ·intro W hSW
   go_simp
  simp only[uu1,uu2,uu3,Act.put,uu4,uu5,uu6]
  refine wpAnyH_take (i:=4) (oi:=_) (v:= .int .i64 q2) rfl (by kernel_rfl) (by kernel_rfl) (by kernel_rfl) (fun _ _ _ h=>h) (Or.inl ⟨by rfl,?_⟩) hS ?_
  ·intro W hSW
   go_simp
  simp only[uu1,uu2,uu3,Act.put,uu4,uu5,uu6]
  refine wpAnyH_ready (rs:= [1]) (by kernel_rfl) (by simp) ?_
  refine AllReadyH.cons rfl (fun K hK=> ?_) AllReadyH.nil
  refine step_call (by rfl) 98 [.tmp 51,.const (.int .i64 1)] #[65,3] (by rfl) #[.agg #[.bool false,.slice ra rm rc],.int .i64 1] (by kernel_rfl) Tryz.enter98 ((CSR.out _ hS).mono ?_)
  rintro e W3 ⟨⟨a3,m3,c3,rfl,ht3,hv3,hb3⟩⟩
  refine⟨_,rfl,?_⟩
  refine hK.out _ _ (hS.trans (hb3.mono hS.size)) (fun hS=> ?_)
  simp only[uu1,uu2,uu3,Act.put,uu4,uu5,uu6]
  refine wpAnyH_ready (rs:= [5]) (by kernel_rfl) (by simp) ?_
  refine AllReadyH.cons rfl (fun K hK=> ?_) AllReadyH.nil
  refine step_call (by rfl) 98 [.tmp 53,.tmp 55] #[65,3] (by rfl) #[.agg #[.bool false,.slice ba lb bc],.int .i64 q2] (by kernel_rfl) Tryz.enter98 ((CSB.out _ _ (HS1.out.trans (hS.mono HS1.out.size)) (by omega)).mono ?_)
  rintro e W4 ⟨⟨a4,m4,c4,rfl,ht4,hv4,hb4⟩⟩
  refine⟨_,rfl,?_⟩
  refine hK.out _ _ (hS.trans (hb4.mono hS.size)) (fun hS=> ?_)
  simp only[uu1,uu2,uu3,Act.put,uu4,uu5,uu6]
  refine wpAnyH_ready (rs:= [6]) (by kernel_rfl) (by simp) ?_
  refine AllReadyH.cons rfl (fun K hK=> ?_) AllReadyH.nil
  refine step_call (by rfl) 55 [.tmp 52,.tmp 56] #[65,65] (by rfl) #[.agg #[.bool false,.slice a3 m3 c3],.agg #[.bool false,.slice a4 m4 c4]] (by kernel_rfl) Tryz.enter55 ((CMQ.out _ _ _ m3 m4 (hv3.below hb4) ht3 hv4 ht4).mono ?_)
  rintro e W5 ⟨rfl,hb5⟩
  refine⟨_,rfl,?_⟩
  refine hK.out _ _ (hS.trans (hb5.mono hS.size)) (fun hS=> ?_)
  simp only[uu1,uu2,uu3,Act.put,uu4,uu5,uu6]
  refine wpAnyH_take (i:=7) (oi:=_) (v:= .int .i64 cv2) rfl (by kernel_rfl) (by kernel_rfl) (by kernel_rfl) (fun _ _ _ h=>h) (Or.inl ⟨by rfl,?_⟩) hS ?_
  ·intro W hSW
   go_simp
  simp only[uu1,uu2,uu3,Act.put,uu4,uu5,uu6]
  refine wpAnyH_done (by kernel_rfl) ?_ _
  go_wp2
  go_meet
  exact⟨rfl,hS⟩
 case rest=>
 obtain⟨rfl,hb7⟩:=hcut
 have c9':=(hb7.cell (p:=⟨b9,1,none⟩) lt9).trans c9
 have HQ7:=Hi (HQQ.out.below hb7)
 have HB7:=Hi (BLW.out.trans (hb7.mono BLW.out.size))
 obtain⟨wd,hwd⟩:∃v,v=wc:=⟨_,rfl⟩
 rw[←hwd]at c9' HQ7 HB7⊢
 clear hwd hb7 HQQ BLW c9 lt9 CMQ CSR s0 s1 r0 r1 lt10 lt2
 go_wp2
 go_loop [12,13] (fun v i=>∃k:Nat,k≤qm∧i= .int .i64 ((k:Int)-1)∧v= .int .u64 (qq/2^k:Nat)) (fun _ i=>(intOf i+1).toNat)
 case atStart=>exact⟨qm,nR _,rfl,by rw[Nat.div_eq_of_lt HTQ.out.1];rfl⟩
 case round=>
  obtain⟨k,hk,rfl,rfl⟩:=hrel
  cases k with
  |zero=>
   rw[Nat.pow_zero,Nat.div_one]
   have z0:((0:Nat):Int)-1= -1:=rfl
   go_upto_region 13 with fail
   go_cut [85]from 75 to 85 (fun v wy=>wd=wy∧v= .bool T)
   case first=>
    rcases HW3.out with⟨h1,h2⟩|⟨h1,h2⟩|⟨h1,h2⟩
    ·subst h1 h2
     go_wp2
     go_meet
     exact⟨rfl,rfl⟩
    ·subst h1
     have h3:((qq:Int) %2==1)=T:=by
      rw[h2]
      by_cases h:qq %2=1
      ·rw[decide_eq_true h];exact beq_of_eq' (by omega)
      ·rw[decide_eq_false h];exact beq_of_ne' (by omega)
     clear h2
     go_wp2
     go_meet
     exact⟨rfl,rfl⟩
    ·subst h1 h2
     go_wp2
     go_meet
     exact⟨rfl,rfl⟩
   case rest=>
   obtain⟨rfl,rfl⟩:=hcut
   rcases HTT.out with⟨h1,h2⟩|⟨h1,h2⟩
   ·subst h1
    have em:(qq:Int)+1=mm:=by omega
    have mb:mm≤9007199254740992:=by omega
    clear h2
    by_cases c1:mm=9007199254740992
    ·have t1:((mm:Int)==9007199254740992)=true:=by rw[c1];rfl
     have t2:(mm:Int)/2=4503599627370496:=by omega
     obtain⟨U3,hU3⟩:∃U3:Int,U3=U+1:=⟨_,rfl⟩
     have eU3:U+1=U3:=hU3.symm
     obtain⟨V,hV⟩:∃V,V=u+2:=⟨_,rfl⟩
     have t5:U3+1075=V:=by have:=HU2.out;omega
     have v0: -1074≤U3:=by omega
     have v1:U3≤10001:=by omega
     by_cases c2:u+2≥2047
     ·have hR:ratEnd u mm=(0,false):=by unfold ratEnd;rw[if_pos c1,if_pos c2]
      rw[hR]at HOK
      have t3:decide ((2047:Int)≤V)=true:=dTo
      have t4:2047≤V:=by omega
      clear c1 c2 hR hU3 hV
      go_wp2
      go_ret2
      exact⟨_,rfl,HOK.out,HB7.out⟩
     ·have hR:ratEnd u mm=((u+2)*4503599627370496,true):=by unfold ratEnd;rw[if_pos c1,if_neg c2]
      rw[hR]at HOK
      obtain⟨E,hE⟩:∃E,E=(u+2)*4503599627370496:=⟨_,rfl⟩
      rw[←hE]at HOK
      have t3:decide ((2047:Int)≤V)=false:=dFo
      have t4:V≤2046:=by omega
      have t6:(V:Int)*4503599627370496=E:=by rw[hE,hV];omega
      obtain⟨E2,hE2⟩:∃E2,E2=E+4503599627370496:=⟨_,rfl⟩
      have t8:(E:Int)+4503599627370496=E2:=by omega
      have t9:(E2:Int)-4503599627370496=E:=by omega
      have t7:E2≤9223372036854775808:=by omega
      have t10:E≤9218868437227405312:=by omega
      clear c1 c2 hR hE hU3 hV hE2
      go_wp2
      go_ret2
      exact⟨_,rfl,HOK.out,HB7.out⟩
    ·have t1:((mm:Int)==9007199254740992)=false:=eqf (n:=9007199254740992) c1
     obtain⟨V,hV⟩:∃V,V=u+1:=⟨_,rfl⟩
     have t5:U+1075=V:=by have:=HU2.out;omega
     by_cases c2:mm<4503599627370496
     ·have hR:ratEnd u mm=(mm,true):=by unfold ratEnd;rw[if_neg c1,if_pos c2]
      rw[hR]at HOK
      have t3:decide ((mm:Int)<4503599627370496)=true:=dTo
      clear c1 c2 hR hV
      go_wp2
      go_ret2
      exact⟨_,rfl,HOK.out,HB7.out⟩
     ·have t2:decide ((mm:Int)<4503599627370496)=false:=dFo
      have t2b:4503599627370496≤mm:=by omega
      by_cases c3:u+1≥2047
      ·have hR:ratEnd u mm=(0,false):=by unfold ratEnd;rw[if_neg c1,if_neg c2,if_pos c3]
       rw[hR]at HOK
       have t3:decide ((2047:Int)≤V)=true:=dTo
       have t4:2047≤V:=by omega
       have t4b:V≤20000:=by have:=HU2.out;omega
       clear c1 c2 c3 hR hV
       go_wp2
       go_ret2
       exact⟨_,rfl,HOK.out,HB7.out⟩
      ·have hR:ratEnd u mm=((u+1)*4503599627370496+mm-4503599627370496,true):=by unfold ratEnd;rw[if_neg c1,if_neg c2,if_neg c3]
       rw[hR]at HOK
       obtain⟨E,hE⟩:∃E,E=(u+1)*4503599627370496+mm-4503599627370496:=⟨_,rfl⟩
       rw[←hE]at HOK
       obtain⟨F,hF⟩:∃F,F=(u+1)*4503599627370496:=⟨_,rfl⟩
       have t3:decide ((2047:Int)≤V)=false:=dFo
       have t4:V≤2046:=by omega
       have t6:(V:Int)*4503599627370496=F:=by rw[hF,hV];omega
       obtain⟨G3,hG3⟩:∃G3,G3=F+mm:=⟨_,rfl⟩
       have t8:(F:Int)+mm=G3:=by omega
       have t9:(G3:Int)-4503599627370496=E:=by omega
       have t7:G3≤9232379236109516800:=by omega
       have t10:E≤9223372036854775808:=by omega
       have t11:F≤9218868437227405312:=by omega
       clear c1 c2 c3 hR hE hF hV hG3
       go_wp2
       go_ret2
       exact⟨_,rfl,HOK.out,HB7.out⟩
   ·subst h1
    have mb:qq≤9007199254740992:=by omega
    subst h2
    by_cases c1:mm=9007199254740992
    ·have t1:((mm:Int)==9007199254740992)=true:=by rw[c1];rfl
     have t2:(mm:Int)/2=4503599627370496:=by omega
     obtain⟨U3,hU3⟩:∃U3:Int,U3=U+1:=⟨_,rfl⟩
     have eU3:U+1=U3:=hU3.symm
     obtain⟨V,hV⟩:∃V,V=u+2:=⟨_,rfl⟩
     have t5:U3+1075=V:=by have:=HU2.out;omega
     have v0: -1074≤U3:=by omega
     have v1:U3≤10001:=by omega
     by_cases c2:u+2≥2047
     ·have hR:ratEnd u mm=(0,false):=by unfold ratEnd;rw[if_pos c1,if_pos c2]
      rw[hR]at HOK
      have t3:decide ((2047:Int)≤V)=true:=dTo
      have t4:2047≤V:=by omega
      clear c1 c2 hR hU3 hV
      go_wp2
      go_ret2
      exact⟨_,rfl,HOK.out,HB7.out⟩
     ·have hR:ratEnd u mm=((u+2)*4503599627370496,true):=by unfold ratEnd;rw[if_pos c1,if_neg c2]
      rw[hR]at HOK
      obtain⟨E,hE⟩:∃E,E=(u+2)*4503599627370496:=⟨_,rfl⟩
      rw[←hE]at HOK
      have t3:decide ((2047:Int)≤V)=false:=dFo
      have t4:V≤2046:=by omega
      have t6:(V:Int)*4503599627370496=E:=by rw[hE,hV];omega
      obtain⟨E2,hE2⟩:∃E2,E2=E+4503599627370496:=⟨_,rfl⟩
      have t8:(E:Int)+4503599627370496=E2:=by omega
      have t9:(E2:Int)-4503599627370496=E:=by omega
      have t7:E2≤9223372036854775808:=by omega
      have t10:E≤9218868437227405312:=by omega
      clear c1 c2 hR hE hU3 hV hE2
      go_wp2
      go_ret2
      exact⟨_,rfl,HOK.out,HB7.out⟩
    ·have t1:((mm:Int)==9007199254740992)=false:=eqf (n:=9007199254740992) c1
     obtain⟨V,hV⟩:∃V,V=u+1:=⟨_,rfl⟩
     have t5:U+1075=V:=by have:=HU2.out;omega
     by_cases c2:mm<4503599627370496
     ·have hR:ratEnd u mm=(mm,true):=by unfold ratEnd;rw[if_neg c1,if_pos c2]
      rw[hR]at HOK
      have t3:decide ((mm:Int)<4503599627370496)=true:=dTo
      clear c1 c2 hR hV
      go_wp2
      go_ret2
      exact⟨_,rfl,HOK.out,HB7.out⟩
     ·have t2:decide ((mm:Int)<4503599627370496)=false:=dFo
      have t2b:4503599627370496≤mm:=by omega
      by_cases c3:u+1≥2047
      ·have hR:ratEnd u mm=(0,false):=by unfold ratEnd;rw[if_neg c1,if_neg c2,if_pos c3]
       rw[hR]at HOK
       have t3:decide ((2047:Int)≤V)=true:=dTo
       have t4:2047≤V:=by omega
       have t4b:V≤20000:=by have:=HU2.out;omega
       clear c1 c2 c3 hR hV
       go_wp2
       go_ret2
       exact⟨_,rfl,HOK.out,HB7.out⟩
      ·have hR:ratEnd u mm=((u+1)*4503599627370496+mm-4503599627370496,true):=by unfold ratEnd;rw[if_neg c1,if_neg c2,if_neg c3]
       rw[hR]at HOK
       obtain⟨E,hE⟩:∃E,E=(u+1)*4503599627370496+mm-4503599627370496:=⟨_,rfl⟩
       rw[←hE]at HOK
       obtain⟨F,hF⟩:∃F,F=(u+1)*4503599627370496:=⟨_,rfl⟩
       have t3:decide ((2047:Int)≤V)=false:=dFo
       have t4:V≤2046:=by omega
       have t6:(V:Int)*4503599627370496=F:=by rw[hF,hV];omega
       obtain⟨G3,hG3⟩:∃G3,G3=F+mm:=⟨_,rfl⟩
       have t8:(F:Int)+mm=G3:=by omega
       have t9:(G3:Int)-4503599627370496=E:=by omega
       have t7:G3≤9232379236109516800:=by omega
       have t10:E≤9223372036854775808:=by omega
       have t11:F≤9218868437227405312:=by omega
       clear c1 c2 c3 hR hE hF hV hG3
       go_wp2
       go_ret2
       exact⟨_,rfl,HOK.out,HB7.out⟩
  |succ k=>
   obtain⟨g,o,ga,hc⟩:=HQ7.out.cellAt (show k<qm by omega)
   subst ga
   obtain⟨b,hb⟩:∃b,b=bit2 qq k:=⟨_,rfl⟩
   obtain⟨m1,hm1⟩:∃m,m=qq/2^(k+1):=⟨_,rfl⟩
   obtain⟨m0,hm0⟩:∃m,m=qq/2^k:=⟨_,rfl⟩
   have hbl:=bit2_lt qq k
   rw[←hb]at hc hbl
   have em:2*(m1:Int)+b=m0:=by
    have h5:m1=m0/2:=by rw[hm1,hm0,Nat.pow_succ,Nat.div_div_eq_div_mul]
    have h6:b=m0 %2:=by rw[hb,hm0];rfl
    omega
   have mb:m0≤9007199254740992:=by rw[hm0];exact Nat.le_trans (Nat.div_le_self _ _) (by omega)
   have k1:((k+1:Nat):Int)-1=k:=by omega
   have ki:(k:Int)<qm:=by omega
   have k0:decide ((0:Int)≤(k:Int))=true:=dTo
   have mb1:m1≤9007199254740992:=by omega
   have HM0:=Hi hm0
   rw[k1,←hm1]
   clear hb hm1 hm0
   go_wp2
   go_round
   case rel=>exact⟨k,by omega,by go_num,by rw[←HM0.out]⟩
   case measure=>simp[intOf]
end Go.Proofs
