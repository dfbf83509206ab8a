import Derived.Test.YtpjcdbjablijkaaGreatDoorTam
import Derived.Test.YtpjcdbjablijkaaGreatDoorTao
import Derived.Test.YtpjcdbjablijkaaGreatDoorTas
import Derived.Test.YtpjcdbjablijkaaGreatDoorTah
import Derived.Test.YtpjcdbjablijkaaGreatDoorTaq
import Derived.Test.YtpjcdbjablijkaaGreatDoorTaa
set_option linter.unusedSimpArgs false
set_option maxRecDepth 1000000
set_option maxHeartbeats 40000000
section
namespace Go.Lx
open Go.Hb Go.Rb Go.Bg Go.Pf
inductive TR where
 |ok (k:Nat) (tx nu:ByteArray) (bits a en:Nat)
 |err (p n:Nat)
def numB (x:Nat):ByteArray:=⟨(numL 10 x).toArray⟩
theorem numB_of {nu:ByteArray} {x:Nat}(h:nu.data.toList=numL 10 x):nu=numB x:=by
 apply ByteArray.ext
 apply Array.toList_inj.1
 rw[h];rfl
theorem _root_.Go.Hb.ChV.pos {s:ByteArray} {p:Nat} {v n:Int}(h:ChV s p v n):0≤v∧okRune v:=by
 have hb:=byt_lo s p
 unfold ChV at h
 rcases h with h|h|h|h
 ·refine⟨by omega,?_⟩
  unfold okRune
  omega
 ·exact⟨by omega,h.2.2.2.2.2⟩
 ·exact⟨by omega,h.2.2.2.2.2.2⟩
 ·exact⟨by omega,h.2.2.2.2.2.2.2⟩
open Classical in
noncomputable def fltB (X:Nat) (x:Int):Nat:=if h:∃b,Fl (X*10^x.toNat) (10^(-x).toNat) b then h.choose else 0
theorem fltB_eq {X:Nat} {x:Int} {b:Nat}(h:Fl (X*10^x.toNat) (10^(-x).toNat) b):fltB X x=b:=by
 have hx:∃b,Fl (X*10^x.toNat) (10^(-x).toNat) b:=⟨b,h⟩
 unfold fltB
 rw[dif_pos hx]
 exact hx.choose_spec.unique h
def fltD (s:ByteArray) (a p:Nat):ByteArray:=s.extract a p++s.extract (p+1) (rowE digB s (p+1))
noncomputable def fltF (s:ByteArray) (a p:Nat) (x:Int) (t:Nat):TR:=
 if 400<rowE digB s (p+1)-a-1 then .err a 34
 else if fltB (vN 10 (fltD s a p) (fltD s a p).size) (x-((rowE digB s (p+1):Int)-p-1))<infB then
  .ok 5 ⟨#[]⟩ ⟨#[]⟩ (fltB (vN 10 (fltD s a p) (fltD s a p).size) (x-((rowE digB s (p+1):Int)-p-1))) a t
 else .err a 34
def expF (s:ByteArray) (e:Nat):Nat:=if byt s (e+1)=45∨byt s (e+1)=43 then e+2 else e+1
def expI (s:ByteArray) (e:Nat):Prop:=(byt s e=101∨byt s e=69)∧expF s e<rowE digB s (expF s e)
instance (s:ByteArray) (e:Nat):Decidable (expI s e):=by unfold expI;exact inferInstance
def expV (s:ByteArray) (e:Nat):Int:=(if byt s (e+1)=45 then-1 else 1)*(valN 10 s (expF s e) (rowE digB s (expF s e)-expF s e):Nat)
noncomputable def fltR (s:ByteArray) (a p:Nat):TR:=
 if expI s (rowE digB s (p+1))then
  (if 4<rowE digB s (expF s (rowE digB s (p+1)))-expF s (rowE digB s (p+1))then .err a 34
   else fltF s a p (expV s (rowE digB s (p+1))) (rowE digB s (expF s (rowE digB s (p+1)))))
 else fltF s a p 0 (rowE digB s (p+1))
end Go.Lx
namespace Go.Proofs
open Go.RowKit Go.Pf Go.Lx Go.Hb Go.Rb
def TR.tok:TR→Value
 | .ok k tx nu bits a en=>tokV k tx nu bits a en false
 | .err p _=>badV p
def TR.er:TR→Nat
 | .ok .. =>0
 | .err _ n=>n
def TokEnd (R:TR) (w:World) (e:Ending) (w':World):Prop:=e= .returned (.tuple #[TR.tok R,.int .i64 (TR.er R)])∧Below w.heap.size w w'
end Go.Proofs
end
section
namespace Go.Lx
open Go.Pf
theorem fl_pow0 (X:Nat):X*10^0=X:=by rw[Nat.pow_zero,Nat.mul_one]
theorem flt_zero (x:Int):fltB 0 x=0:=fltB_eq (Fl.nought (by rw[Nat.zero_mul,Nat.zero_mul,Nat.mul_zero];exact Nat.pow_pos (by decide)))
theorem flt_low {X:Nat} {x:Int} {L:Nat}(hX:X<10^L) (hL:L≤400) (hx:x< -800):fltB X x=0:=by
 refine fltB_eq (Fl.nought ?_)
 have e1:x.toNat=0:=by omega
 have e2:L+TD≤(-x).toNat:=by unfold TD;omega
 have hs:=small10'
 rw[e1,fl_pow0]
 have hK:KZ=2^KE:=rfl
 rw[hK]
 clear e1 hK hx
 generalize(-x).toNat=d at*
 generalize KE=k at*
 generalize TD=t at*
 calc 2*(X*2^k)=X*2^(1+k):=by rw[Nat.pow_add,Nat.pow_one];ac_rfl
  _≤X*10^t:=Nat.mul_le_mul_left _ hs
  _<10^L*10^t:=(Nat.mul_lt_mul_right (Nat.pow_pos (by decide))).2 hX
  _=10^(L+t):=by rw[Nat.pow_add]
  _≤10^d:=Nat.pow_le_pow_right (by decide) e2
theorem flt_high {X:Nat} {x:Int}(hX:0<X) (hx:400<x):fltB X x=infB:=by
 have e1:(-x).toNat=0:=by omega
 have e2:TB≤x.toNat:=by unfold TB;omega
 have hb:=big10
 refine fltB_eq ?_
 rw[e1]
 refine Fl.inf (Nat.pow_pos (by decide)) ?_
 rw[Nat.pow_zero,Nat.mul_one]
 refine Nat.le_trans hb (Nat.le_trans (Nat.pow_le_pow_right (by decide) e2) (Nat.le_mul_of_pos_left _ hX))
end Go.Lx
namespace Go.Proofs
open Go.RowKit Go.Pf Go.Rb Go.Lx
def decV (b:Nat):Value:= .tuple #[.int .u64 (if b<infB then b else 0:Nat),.bool (decide (b<infB))]
def DecSays (b:Nat) (w:World) (e:Ending) (w':World):Prop:=e= .returned (decV b)∧Below w.heap.size w w'
theorem rat_dec {A B X:Nat} {x:Int} {r:Nat×Bool}(hA:A=X*10^x.toNat) (hB:B=10^(-x).toNat) (h:RatOk A B r):Value.tuple #[.int .u64 r.1,.bool r.2]=decV (fltB X x):=by
 obtain⟨b,h1,h2⟩:=h
 have hf:fltB X x=min b infB:=fltB_eq (by rw[←hA,←hB];exact⟨b,h1,rfl⟩)
 rw[h2,hf]
 unfold decV
 by_cases hb:b<infB
 ·rw[if_pos hb,Nat.min_eq_left (Nat.le_of_lt hb),if_pos hb,decide_eq_true hb]
 ·rw[if_neg hb,Nat.min_eq_right (Nat.le_of_not_lt hb),if_neg (Nat.lt_irrefl _),decide_eq_false (Nat.lt_irrefl _)]
theorem dec_ret {A B X b:Nat} {x:Int} {r:Nat×Bool} {w w':World}(hb:b=fltB X x) (hA:A=X*10^x.toNat) (hB:B=10^(-x).toNat) (h:RatOk A B r) (hbel:Below w.heap.size w w'):DecSays b w (.returned (.tuple #[.int .u64 r.1,.bool r.2])) w':=⟨by rw[hb,rat_dec hA hB h],hbel⟩
theorem Tryz.enter154 (vs:Array Value) (w:World):(callFunc 154 vs).run Tryz.prog w= .ok (.enter 154 vs) w:=by kernel_rfl
theorem Tryz.enter155 (vs:Array Value) (w:World):(callFunc 155 vs).run Tryz.prog w= .ok (.enter 155 vs) w:=by kernel_rfl
theorem ten_up:10^400<2^2000:=Nat.le_of_ble_eq_true (by kernel_rfl)
theorem Tryz.rdecimal (v:Value) (X m:Nat) (x:Int) (w:World) (hv:BtV w v X m) (hT:T2 X m) (hX:Hid (X<10^400)) (hx1: -100000≤x) (hx2:x≤100000):
 Calls Tryz.prog 105 #[.agg #[.bool false,v],.int .i64 x] w (DecSays (fltB X x) w):=by
 obtain⟨va,vc,rfl⟩:=hv.slice
 obtain⟨b,hb⟩:∃b,b=fltB X x:=⟨_,rfl⟩
 rw[←hb]
 have HBq:=Hi hb
 have HV:=Hi hv
 have HT:=Hi hT
 have m2000:m≤2000:=T2.le hT (Nat.lt_trans hX.out ten_up) (nR _)
 have hz:=hT.zero_iff
 clear hb hv hT
 by_cases h0:m=0
 ·have hX0:=hz.1 h0
  have HF:Hid (b=0):=Hi (by rw[HBq.out,hX0];exact flt_zero x)
  have t1:((m:Int)==0)=true:=by rw[h0];rfl
  clear hz hX0 h0
  go_enter Tryz.func105,Tryz.ntmps105
  go_wp2
  go_ret2
  exact⟨by rw[HF.out];rfl,(Below.refl _ _).alloc (nR _) _⟩
 have hX0:0<X:=by
  rcases Nat.eq_zero_or_pos X with h|h
  ·exact absurd (hz.2 h) h0
  ·exact h
 have t1:((m:Int)==0)=false:=eqf (n:=0) h0
 clear hz h0
 by_cases h1:x< -800
 ·have HF:Hid (b=0):=Hi (by rw[HBq.out];exact flt_low hX.out (nR _) h1)
  have t2:decide (x< -800)=true:=decide_eq_true h1
  go_enter Tryz.func105,Tryz.ntmps105
  go_wp2
  go_ret2
  exact⟨by rw[HF.out];rfl,(Below.refl _ _).alloc (nR _) _⟩
 have t2:decide (x< -800)=false:=decide_eq_false h1
 by_cases h2:400<x
 ·have HF:Hid (b=infB):=Hi (by rw[HBq.out];exact flt_high hX0 h2)
  have t3:decide (400<x)=true:=decide_eq_true h2
  go_enter Tryz.func105,Tryz.ntmps105
  go_wp2
  go_ret2
  exact⟨by rw[HF.out];unfold decV;rw[if_neg (Nat.lt_irrefl _),decide_eq_false (Nat.lt_irrefl _)];rfl,(Below.refl _ _).alloc (nR _) _⟩
 have t3:decide (400<x)=false:=decide_eq_false h2
 by_cases h3:0≤x
 ·obtain⟨n,rfl⟩:∃n:Nat,x=n:=⟨x.toNat,by omega⟩
  have t4:decide ((0:Int)≤(n:Int))=true:=decide_eq_true h3
  have n400:n≤400:=by omega
  go_enter Tryz.func105,Tryz.ntmps105
  go_upto_region 6 with fail
  generalize hW:w.alloc _=W1
  have bl:Below w.heap.size w W1:=by subst hW;exact(Below.refl _ _).alloc (nR _) _
  have ca:Ce W1 w.heap.size (.bool false) (.slice va m vc):=by subst hW;exact Ce.new w _ _
  clear hW
  have x0:=ca.c0
  have x1:=ca.c1
  have lt0:w.heap.size<W1.heap.size:=ca.lt
  have hA1:=HV.out.below bl
  have BL:=Hi bl
  clear bl ca
  refine wp_region_held_drew (S:=fun W=>Below W1.heap.size W1 W) (by kernel_rfl) below_drew' (fun hS=> ?_)
  refine wpAnyH_take (i:=0) (oi:=_) (v:= .agg #[.bool false,.slice va m vc]) rfl (by kernel_rfl) (by kernel_rfl) (by kernel_rfl) (fun _ _ _ h=>h) (Or.inl ⟨by rfl,?_⟩) hS ?_
  ·intro W hSW
   have z0:=(hSW.cell (p:=⟨w.heap.size,0,none⟩) lt0).trans x0
   have z1:=(hSW.cell (p:=⟨w.heap.size,1,none⟩) lt0).trans x1
   go_simp
  simp only[uu1,uu2,uu3,Act.put,uu4,uu5,uu6]
  refine wpAnyH_take (i:=1) (oi:=_) (v:= .int .i64 n) rfl (by kernel_rfl) (by kernel_rfl) (by kernel_rfl) (fun _ _ _ h=>h) (Or.inl ⟨by rfl,?_⟩) hS ?_
  ·intro W hSW
   go_simp
  simp only[uu1,uu2,uu3,Act.put,uu4,uu5,uu6]
  refine wpAnyH_ready (rs:= [2]) (by kernel_rfl) (by simp) ?_
  refine AllReadyH.cons rfl (fun K hK=> ?_) AllReadyH.nil
  refine step_call (by rfl) 155 [.tmp 19] #[3] (by rfl) #[.int .i64 n] (by kernel_rfl) Tryz.enter155 ((Tryz.rten n _ (by omega)).mono ?_)
  rintro e W' ⟨⟨a3,m3,c3,rfl,ht3,hv3,hb⟩⟩
  refine⟨_,rfl,?_⟩
  refine hK.out _ _ (hS.trans (hb.mono hS.size)) (fun hS=> ?_)
  simp only[uu1,uu2,uu3,Act.put,uu4,uu5,uu6]
  refine wpAnyH_ready (rs:= [3]) (by kernel_rfl) (by simp) ?_
  refine AllReadyH.cons rfl (fun K hK=> ?_) AllReadyH.nil
  have hSo:=hS
  refine step_call (by rfl) 99 [.tmp 18,.tmp 20] #[65,65] (by rfl) #[.agg #[.bool false,.slice va m vc],.agg #[.bool false,.slice a3 m3 c3]] (by kernel_rfl) Tryz.enter99 ((Tryz.rtimes1 _ _ X (10^n) m m3 _ (hA1.below hSo) hv3 (by omega) (by have:=ten_bits ht3;omega)).mono ?_)
  rintro e W'' ⟨⟨a4,m4,c4,rfl,ht4,hv4,hb⟩⟩
  refine⟨_,rfl,?_⟩
  refine hK.out _ _ (hS.trans (hb.mono hS.size)) (fun hS=> ?_)
  simp only[uu1,uu2,uu3,Act.put,uu4,uu5,uu6]
  refine wpAnyH_ready (rs:= [4]) (by kernel_rfl) (by simp) ?_
  refine AllReadyH.cons rfl (fun K hK=> ?_) AllReadyH.nil
  refine step_call (by rfl) 25 [.const (.int .i64 1)] #[3] (by rfl) #[.int .i64 1] (by kernel_rfl) Tryz.enter25 ((Tryz.rsmall1 _).mono ?_)
  rintro e W' ⟨⟨a5,m5,c5,rfl,ht5,hv5,hb5⟩⟩
  refine⟨_,rfl,?_⟩
  refine hK.out _ _ (hS.trans (hb5.mono hS.size)) (fun hS=> ?_)
  simp only[uu1,uu2,uu3,Act.put,uu4,uu5,uu6]
  refine wpAnyH_ready (rs:= [5]) (by kernel_rfl) (by simp) ?_
  refine AllReadyH.cons rfl (fun K hK=> ?_) AllReadyH.nil
  have MM:Hid (m4≤10000):=Hi (by
   have h5:X*10^n<2^(m+(4*n+1)):=by rw[Nat.pow_add];exact Nat.mul_lt_mul'' HT.out.1 (ten_lt n)
   have:=T2.le ht4 h5 (nR _)
   omega)
  refine step_call (by rfl) 154 [.tmp 21,.tmp 22] #[65,65] (by rfl) #[.agg #[.bool false,.slice a4 m4 c4],.agg #[.bool false,.slice a5 m5 c5]] (by kernel_rfl) Tryz.enter154 ((Tryz.rratio _ _ (X*10^n) 1 m4 m5 _ (hv4.below hb5) hv5 ht4 ht5 (Nat.mul_pos hX0 (Nat.pow_pos (by decide))) (by decide) MM.out (by have:=T2.le ht5 (show 1<2^4 by decide) (nR _);omega)).mono ?_)
  rintro e W' ⟨r,rfl,hok,hb⟩
  refine⟨_,rfl,?_⟩
  refine hK.out _ _ (hS.trans (hb.mono hS.size)) (fun hS=> ?_)
  simp only[uu1,uu2,uu3,Act.put,uu4,uu5,uu6]
  refine wpAnyH_take (i:=6) (oi:=_) (v:= .int .u64 r.1) rfl (by kernel_rfl) (by kernel_rfl) (by kernel_rfl) (fun _ _ _ h=>h) (Or.inl ⟨by rfl,?_⟩) hS ?_
  ·intro W hSW
   go_simp
  simp only[uu1,uu2,uu3,Act.put,uu4,uu5,uu6]
  refine wpAnyH_take (i:=7) (oi:=_) (v:= .bool r.2) rfl (by kernel_rfl) (by kernel_rfl) (by kernel_rfl) (fun _ _ _ h=>h) (Or.inl ⟨by rfl,?_⟩) hS ?_
  ·intro W hSW
   go_simp
  simp only[uu1,uu2,uu3,Act.put,uu4,uu5,uu6]
  refine wpAnyH_take (i:=8) (oi:=_) (v:= .int .u64 r.1) rfl (by kernel_rfl) (by kernel_rfl) (by kernel_rfl) (fun _ _ _ h=>h) (Or.inl ⟨by rfl,?_⟩) hS ?_
  ·intro W hSW
   go_simp
  simp only[uu1,uu2,uu3,Act.put,uu4,uu5,uu6]
  refine wpAnyH_take (i:=9) (oi:=_) (v:= .bool r.2) rfl (by kernel_rfl) (by kernel_rfl) (by kernel_rfl) (fun _ _ _ h=>h) (Or.inl ⟨by rfl,?_⟩) hS ?_
  ·intro W hSW
   go_simp
  simp only[uu1,uu2,uu3,Act.put,uu4,uu5,uu6]
  refine wpAnyH_done (by kernel_rfl) ?_ _
  go_wp2
  go_ret2
  exact dec_ret HBq.out (by rw[Int.toNat_natCast]) (by rw[show(-(n:Int)).toNat=0 by omega,Nat.pow_zero]) hok (BL.out.trans (hS.mono BL.out.size))
 ·obtain⟨n,hn⟩:∃n:Nat,-x=n:=⟨(-x).toNat,by omega⟩
  have t4:decide ((0:Int)≤x)=false:=decide_eq_false h3
  have n800:n≤800:=by omega
  have wr1:IntKind.i64.wrap (-x)=(n:Int):=by rw[IntWalk.i64_in _ (by omega),hn]
  have HN:=Hi hn
  clear hn
  go_enter Tryz.func105,Tryz.ntmps105
  go_upto_region 7 with fail
  generalize hW:w.alloc _=W1
  have bl:Below w.heap.size w W1:=by subst hW;exact(Below.refl _ _).alloc (nR _) _
  have ca:Ce W1 w.heap.size (.bool false) (.slice va m vc):=by subst hW;exact Ce.new w _ _
  clear hW
  have x0:=ca.c0
  have x1:=ca.c1
  have lt0:w.heap.size<W1.heap.size:=ca.lt
  have hA1:=HV.out.below bl
  have BL:=Hi bl
  clear bl ca
  refine wp_region_held_drew (S:=fun W=>Below W1.heap.size W1 W) (by kernel_rfl) below_drew' (fun hS=> ?_)
  refine wpAnyH_take (i:=0) (oi:=_) (v:= .agg #[.bool false,.slice va m vc]) rfl (by kernel_rfl) (by kernel_rfl) (by kernel_rfl) (fun _ _ _ h=>h) (Or.inl ⟨by rfl,?_⟩) hS ?_
  ·intro W hSW
   have z0:=(hSW.cell (p:=⟨w.heap.size,0,none⟩) lt0).trans x0
   have z1:=(hSW.cell (p:=⟨w.heap.size,1,none⟩) lt0).trans x1
   go_simp
  simp only[uu1,uu2,uu3,Act.put,uu4,uu5,uu6]
  refine wpAnyH_take (i:=1) (oi:=_) (v:= .int .i64 x) rfl (by kernel_rfl) (by kernel_rfl) (by kernel_rfl) (fun _ _ _ h=>h) (Or.inl ⟨by rfl,?_⟩) hS ?_
  ·intro W hSW
   go_simp
  simp only[uu1,uu2,uu3,Act.put,uu4,uu5,uu6]
  refine wpAnyH_take (i:=2) (oi:=_) (v:= .int .i64 n) rfl (by kernel_rfl) (by kernel_rfl) (by kernel_rfl) (fun _ _ _ h=>h) (Or.inl ⟨by rfl,?_⟩) hS ?_
  ·intro W hSW
   go_simp
  simp only[uu1,uu2,uu3,Act.put,uu4,uu5,uu6]
  refine wpAnyH_ready (rs:= [3]) (by kernel_rfl) (by simp) ?_
  refine AllReadyH.cons rfl (fun K hK=> ?_) AllReadyH.nil
  refine step_call (by rfl) 155 [.tmp 28] #[3] (by rfl) #[.int .i64 n] (by kernel_rfl) Tryz.enter155 ((Tryz.rten n _ (by omega)).mono ?_)
  rintro e W' ⟨⟨a3,m3,c3,rfl,ht3,hv3,hb3⟩⟩
  refine⟨_,rfl,?_⟩
  refine hK.out _ _ (hS.trans (hb3.mono hS.size)) (fun hS=> ?_)
  simp only[uu1,uu2,uu3,Act.put,uu4,uu5,uu6]
  refine wpAnyH_ready (rs:= [4]) (by kernel_rfl) (by simp) ?_
  refine AllReadyH.cons rfl (fun K hK=> ?_) AllReadyH.nil
  have hSo:=hS
  refine step_call (by rfl) 154 [.tmp 26,.tmp 29] #[65,65] (by rfl) #[.agg #[.bool false,.slice va m vc],.agg #[.bool false,.slice a3 m3 c3]] (by kernel_rfl) Tryz.enter154 ((Tryz.rratio _ _ X (10^n) m m3 _ (hA1.below hSo) hv3 HT.out ht3 hX0 (Nat.pow_pos (by decide)) (by omega) (by have:=ten_bits ht3;omega)).mono ?_)
  rintro e W' ⟨r,rfl,hok,hb⟩
  refine⟨_,rfl,?_⟩
  refine hK.out _ _ (hS.trans (hb.mono hS.size)) (fun hS=> ?_)
  simp only[uu1,uu2,uu3,Act.put,uu4,uu5,uu6]
  refine wpAnyH_take (i:=5) (oi:=_) (v:= .int .u64 r.1) rfl (by kernel_rfl) (by kernel_rfl) (by kernel_rfl) (fun _ _ _ h=>h) (Or.inl ⟨by rfl,?_⟩) hS ?_
  ·intro W hSW
   go_simp
  simp only[uu1,uu2,uu3,Act.put,uu4,uu5,uu6]
  refine wpAnyH_take (i:=6) (oi:=_) (v:= .bool r.2) rfl (by kernel_rfl) (by kernel_rfl) (by kernel_rfl) (fun _ _ _ h=>h) (Or.inl ⟨by rfl,?_⟩) hS ?_
  ·intro W hSW
   go_simp
  simp only[uu1,uu2,uu3,Act.put,uu4,uu5,uu6]
  refine wpAnyH_take (i:=7) (oi:=_) (v:= .int .u64 r.1) rfl (by kernel_rfl) (by kernel_rfl) (by kernel_rfl) (fun _ _ _ h=>h) (Or.inl ⟨by rfl,?_⟩) hS ?_
  ·intro W hSW
   go_simp
  simp only[uu1,uu2,uu3,Act.put,uu4,uu5,uu6]
  refine wpAnyH_take (i:=8) (oi:=_) (v:= .bool r.2) rfl (by kernel_rfl) (by kernel_rfl) (by kernel_rfl) (fun _ _ _ h=>h) (Or.inl ⟨by rfl,?_⟩) hS ?_
  ·intro W hSW
   go_simp
  simp only[uu1,uu2,uu3,Act.put,uu4,uu5,uu6]
  refine wpAnyH_done (by kernel_rfl) ?_ _
  go_wp2
  go_ret2
  exact dec_ret HBq.out (by rw[show x.toNat=0 by omega,Nat.pow_zero,Nat.mul_one]) (by rw[show(-x).toNat=n by have:=HN.out;omega]) hok (BL.out.trans (hS.mono BL.out.size))
end Go.Proofs
end
