import Derived.Test.YtpjcdbjablijkaaGreatDoorTat
import Derived.Test.YtpjcdbjablijkaaGreatDoorTav
import Derived.Test.YtpjcdbjablijkaaGreatDoorZwN
import Derived.Deep.RegionWith
import Derived.Deep.CutBlock
import Derived.Deep.CutRange
set_option linter.unusedVariables false
set_option linter.unusedSimpArgs false
set_option maxRecDepth 1000000
set_option maxHeartbeats 40000000
/- The document's ten, scaled, zeros. -/
namespace Go.Proofs
open Go.RowKit Go.Pf Go.Rb Go.Zw
theorem Tryz.rten6 (n:Nat):∀w:World,n≤10000→Calls Tryz.prog 100 #[.int .i64 n] w (Big1 (10^n) w):=by
 induction n using Nat.strongRecOn with
 |ind n ih=>
  intro w hn
  obtain⟨y,hy⟩:∃y,y=10^n:=⟨_,rfl⟩
  rw[←hy]
  rcases Nat.eq_zero_or_pos n with h0|h0
  ·subst h0
   rw[Nat.pow_zero]at hy
   subst hy
   have z0:((0:Nat):Int)=0:=rfl
   rw[z0]
   go_enter Tryz.func100,Tryz.ntmps100
   go_wp2_with fail
   generalize hW:w.alloc _=W1
   have tok:Tok W1 w.heap.size:=by subst hW;exact Tok.new1 w
   have bl:Below w.heap.size w W1:=by subst hW;exact(Below.refl _ _).alloc (nR _) _
   clear hW
   refine(Tryz.rsmall1 W1).mono ?_
   rintro e W2 ⟨⟨a,m,c,rfl,ht,hv,b2⟩⟩
   have t2:=tok.below b2
   have k0:=t2.c0
   have k1:=t2.c1
   have f0:=t2.f 0
   have f1:=t2.f 1
   have HV:=Hi (hv.tok t2 (.bool false) (.slice a m c))
   have HB:=Hi (bl.trans (b2.mono bl.size))
   clear hv b2 bl tok t2
   go_wp2
   refine bodyPost_ret (v:= .agg #[.bool false,.slice a m c]) ?_ rfl ⟨_,m,_,rfl,ht,HV.out,?_⟩
   ·simp only[results,Tryz.results100]
    go_simp
   ·iterate 2 refine Below.setCell ?_ (by simp only;omega) _
    exact HB.out
  ·obtain⟨h,hh⟩:∃h,h=n/2:=⟨_,rfl⟩
   obtain⟨r,hr⟩:∃r,r=n %2:=⟨_,rfl⟩
   have e2:(n:Int)/2=(h:Int):=by omega
   have e3:(n:Int) %2=(r:Int):=by omega
   have z1:((n:Int)==0)=false:=eqf (n:=0) (by omega)
   have hhn:h<n:=by omega
   have hr2:r=0∨r=1:=by omega
   have HY:Hid (y=10^h*10^h*10^r):=Hi (by
    rw[hy,←Nat.pow_add,←Nat.pow_add]
    congr 1
    omega)
   have IH:=Hi ih
   clear ih hy hh hr
   go_enter Tryz.func100,Tryz.ntmps100
   go_wp2_with fail
   generalize hW:w.alloc _=W1
   have tok:Tok W1 w.heap.size:=by subst hW;exact Tok.new1 w
   have bl:Below w.heap.size w W1:=by subst hW;exact(Below.refl _ _).alloc (nR _) _
   clear hW
   refine(IH.out h hhn W1 (by omega)).mono ?_
   rintro e W2 ⟨⟨a2,m2,c2,rfl,ht2,hv2,b2⟩⟩
   have tok2:=tok.below b2
   have bl2:=bl.trans (b2.mono bl.size)
   clear b2 tok bl
   go_wp2_with fail
   generalize hW:W2.alloc _=W3
   have tok3:Tok W3 w.heap.size:=by subst hW;exact tok2.below ((Below.refl _ _).alloc (nR _) _)
   have bl3:Below w.heap.size w W3:=by subst hW;exact Below.al bl2 _
   have hv3:BtV W3 (.slice a2 m2 c2) (10^h) m2:=by subst hW;exact hv2.below ((Below.refl _ _).alloc (nR _) _)
   have hm2:m2≤1000000:=by have:=ten_bits ht2;omega
   clear hW tok2 bl2 hv2
   refine(Tryz.rtimes1 _ _ _ _ _ _ W3 hv3 hv3 hm2 hm2).mono ?_
   rintro e W4 ⟨⟨a4,m4,c4,rfl,ht4,hv4,b4⟩⟩
   have tok4:=tok3.below b4
   have bl4:=bl3.trans (b4.mono bl3.size)
   clear b4 tok3 bl3 hv3
   obtain⟨z,hz⟩:∃z,z=10^h*10^h:=⟨_,rfl⟩
   rw[←hz]at ht4 hv4 HY
   have hm4:m4≤1000000:=by
    rw[hz,←Nat.pow_add]at ht4
    have:=ten_bits ht4
    omega
   have tok5:Tok (W4.alloc (.cells #[.bool false,.slice a4 m4 c4] 65)) w.heap.size:=tok4.below ((Below.refl _ _).alloc (nR _) _)
   have hv5:BtV (W4.alloc (.cells #[.bool false,.slice a4 m4 c4] 65)) (.slice a4 m4 c4) z m4:=hv4.below ((Below.refl _ _).alloc (nR _) _)
   have bl5:Below w.heap.size w (W4.alloc (.cells #[.bool false,.slice a4 m4 c4] 65)):=Below.al bl4 _
   have ce5:Ce (W4.alloc (.cells #[.bool false,.slice a4 m4 c4] 65)) W4.heap.size (.bool false) (.slice a4 m4 c4):=Ce.new W4 _ _
   have hlt4:w.heap.size<W4.heap.size:=tok4.lt
   have hne:W4.heap.size≠w.heap.size:=by omega
   clear tok4 hv4 bl4 hz
   rcases hr2 with rfl|rfl
   ·have q1:(((0:Nat):Int)==1)=false:=rfl
    rw[Nat.pow_zero,Nat.mul_one]at HY
    have k0:=tok5.c0
    have k1:=tok5.c1
    have f0:=tok5.f 0
    have f1:=tok5.f 1
    have HV:=Hi (hv5.tok tok5 (.bool false) (.slice a4 m4 c4))
    have HB:=Hi bl5
    clear tok5 hv5 bl5 ce5 hne hlt4
    go_wp2
    rw[←HY.out]at HV ht4
    refine bodyPost_ret (v:= .agg #[.bool false,.slice a4 m4 c4]) ?_ rfl ⟨_,m4,_,rfl,ht4,HV.out,?_⟩
    ·simp only[results,Tryz.results100]
     go_simp
    ·iterate 2 refine Below.setCell ?_ (by simp only;omega) _
     exact HB.out
   ·have q1:(((1:Nat):Int)==1)=true:=rfl
    rw[Nat.pow_one]at HY
    obtain⟨b4,hb4⟩:∃b4,b4=W4.heap.size:=⟨_,rfl⟩
    rw[←hb4]at ce5 hne hlt4
    go_wp2_with fail
    generalize hW:W4.alloc _=W5 at*
    rw[←hb4]
    clear hW hb4
    have l0:=ce5.c0
    have l1:=ce5.c1
    have SV:=Hi hv5
    have CA:Hid (∀W,Hp W5 W→Calls Tryz.prog 25 #[.int .i64 10] W fun e W6=>∃a m c,e= .returned (.agg #[.bool false,.slice a m c])∧T2 10 m∧BtV W6 (.slice a m c) 10 m∧Below W5.heap.size W5 W6∧W6.cell? ⟨b4,0,none⟩=some (.bool false)∧W6.cell? ⟨b4,1,none⟩=some (.slice a4 m4 c4)):=Hi (fun W hp=>by
     refine(Tryz.rsmall10 W).mono ?_
     rintro e W6 ⟨⟨a,m,c,rfl,h1,h2,h3⟩⟩
     have h4:=hp.below.trans (h3.mono hp.below.size)
     have h5:=ce5.below h4
     exact⟨a,m,c,rfl,h1,h2,h4,h5.c0,h5.c1⟩)
    have CB:Hid (∀W a m c,Below W5.heap.size W5 W→T2 10 m→BtV W (.slice a m c) 10 m→Calls Tryz.prog 99 #[.agg #[.bool false,.slice a4 m4 c4],.agg #[.bool false,.slice a m c]] W fun e W6=>∃a m c,e= .returned (.agg #[.bool false,.slice a m c])∧T2 y m∧BtV W6 (.slice a m c) y m∧Below w.heap.size w W6∧Ce W6 b4 (.bool false) (.slice a4 m4 c4)∧Tok W6 w.heap.size):=Hi (fun W a m c h1 h2 h3=>by
     have hm:m≤1000000:=by
      have:=T2.le h2 (show 10<2^4 by decide) (nR _)
      omega
     refine(Tryz.rtimes1 _ _ _ _ _ _ W (SV.out.below h1) h3 hm4 hm).mono ?_
     rintro e W6 ⟨⟨a,m,c,rfl,k1,k2,k3⟩⟩
     rw[←HY.out]at k1 k2
     have k4:=h1.trans (k3.mono h1.size)
     exact⟨a,m,c,rfl,k1,k2,bl5.trans (k4.mono bl5.size),ce5.below k4,tok5.below k4⟩)
    clear tok5 hv5 bl5 ce5 ht4
    go_region_law (first
     | (refine step_call (by rfl) 25 _ _ (by rfl) _ (by rfl) Tryz.enter25 ((CA.out _ (by first|exact hp_drewN _ _|exact hp_drew _|exact⟨rfl,rfl,rfl,rfl⟩)).mono ?_);rintro e W6 ⟨a6,m6,c6,rfl,ht6,hv6,b6,j0,j1⟩;refine⟨_,rfl,?_⟩)
     | (refine step_call (by rfl) 99 _ _ (by rfl) _ (by rfl) Tryz.enter99 ((CB.out _ _ _ _ b6 ht6 hv6).mono ?_);rintro e W7 ⟨a7,m7,c7,rfl,ht7,hv7,b7,ce7,tok7⟩;refine⟨_,rfl,?_⟩;have y0:=ce7.c0;have y1:=ce7.c1;have g0:=ce7.f 0;have g1:=ce7.f 1))
    all_goals
     have tok8:=(tok7.other (a:=⟨b4,0,none⟩) (by simp only;omega) (.bool false)).other (a:=⟨b4,1,none⟩) (by simp only;omega) (.slice a7 m7 c7)
     have HV:=Hi ((hv7.ce ce7 (.bool false) (.slice a7 m7 c7)).tok tok8 (.bool false) (.slice a7 m7 c7))
     have k0:=tok7.c0
     have k1:=tok7.c1
     have f0:=tok7.f 0
     have f1:=tok7.f 1
     have HB:=Hi b7
     clear tok8 tok7 hv7 ce7 hv6 b6 b7 CA CB
     go_wp2
     refine bodyPost_ret (v:= .agg #[.bool false,.slice a7 m7 c7]) ?_ rfl ⟨_,m7,_,rfl,ht7,HV.out,?_⟩
     ·simp only[results,Tryz.results100]
      go_simp
     ·iterate 4 refine Below.setCell ?_ (by simp only;omega) _
      exact HB.out

theorem bytes_app (a b : List UInt8) : (⟨(a ++ b).toArray⟩ : ByteArray) = ⟨a.toArray⟩ ++ ⟨b.toArray⟩ := by
  apply ByteArray.ext
  apply Array.toList_inj.1
  simp
/-- Two numbers of the document's, one of them so many tens greater. -/
structure Big2 (x y : Nat) (w : World) (e : Ending) (w' : World) : Prop where
  ex : ∃ a m c b n d, e = .returned (.tuple #[.agg #[.bool false, .slice a m c], .agg #[.bool false, .slice b n d]]) ∧ T2 x m ∧ BtV w' (.slice a m c) x m ∧ T2 y n ∧ BtV w' (.slice b n d) y n ∧ Below w.heap.size w w'
set_option maxRecDepth 1000000 in
theorem Tryz.zeros6 (n : Int) (w : World) (hn : n ≤ 1000) : Calls Tryz.prog 26 #[.int .i64 n] w fun e w' => e = .returned (.string ⟨(zs n.toNat).toArray⟩) ∧ w = w' := by
  go_enter Tryz.func26, Tryz.ntmps26
  go_wp2
  go_loop [3, 4] (fun s i => ∃ k : Nat, k ≤ n.toNat ∧ s = .string ⟨(zs k).toArray⟩ ∧ i = .int .i64 k) (fun _ i => (n - RowKit.intOf i).toNat)
  case atStart => exact ⟨0, by omega, rfl, rfl⟩
  case round =>
    obtain ⟨k, hk, rfl, rfl⟩ := hrel
    by_cases hlt : (k : Int) < n
    · have hd : decide ((k : Int) < n) = true := decide_eq_true hlt
      have hz : ¬ 9223372036854775807 < (zs k).length + 1 := by rw [zs_len]; omega
      go_wp2
      go_round
      case rel =>
        refine ⟨k + 1, by omega, ?_, by go_num⟩
        rw [zs_succ, bytes_app]
      case measure => simp [RowKit.intOf]; omega
    · have hd : decide ((k : Int) < n) = false := decide_eq_false hlt
      have hkn : k = n.toNat := by omega
      go_wp2
      go_ret
      exact ⟨rfl, rfl⟩
end Go.Proofs
set_option linter.unusedVariables false
set_option linter.unusedSimpArgs false
set_option maxRecDepth 1000000
set_option maxHeartbeats 40000000
/- The document's scaled. -/
namespace Go.Proofs
open Go.RowKit Go.Pf Go.Rb Go.Zw
theorem Tryz.enter100 (vs : Array Value) (w : World) : (callFunc 100 vs).run Tryz.prog w = .ok (.enter 100 vs) w := by kernel_rfl
/-- Memory of scaled: two numbers as they were handed in, two cells for answers. -/
structure Sc (w W : World) (aa : Option Addr) (la ac : Nat) (ba : Option Addr) (lb bc : Nat) : Prop where
  bl : Below w.heap.size w W
  a : Ce W w.heap.size (.bool false) (.slice aa la ac)
  b : Ce W (w.heap.size+1) (.bool false) (.slice ba lb bc)
  t : Tok W (w.heap.size+1+1)
  u : Tok W (w.heap.size+1+1+1)
  sz : w.heap.size + 4 ≤ W.heap.size
theorem Sc.next {w W W' : World} {aa : Option Addr} {la ac : Nat} {ba : Option Addr} {lb bc : Nat} (h : Sc w W aa la ac ba lb bc) (hb : Below W.heap.size W W') : Sc w W' aa la ac ba lb bc :=
  ⟨h.bl.trans (hb.mono h.bl.size), h.a.below hb, h.b.below hb, h.t.below hb, h.u.below hb, Nat.le_trans h.sz hb.size⟩
theorem Sc.hp {w W W' : World} {aa : Option Addr} {la ac : Nat} {ba : Option Addr} {lb bc : Nat} (h : Sc w W aa la ac ba lb bc) (hb : Hp W W') : Sc w W' aa la ac ba lb bc := h.next hb.below
theorem Sc.new (w : World) (aa : Option Addr) (la ac : Nat) (ba : Option Addr) (lb bc : Nat) :
    Sc w ((((w.alloc (.cells #[.bool false, .slice aa la ac] 65)).alloc (.cells #[.bool false, .slice ba lb bc] 65)).alloc (.cells #[.bool false, .slice none 0 0] 65)).alloc (.cells #[.bool false, .slice none 0 0] 65)) aa la ac ba lb bc := by
  refine ⟨((((Below.refl _ _).alloc (nR _) _).alloc (by simp) _).alloc (by simp; omega) _).alloc (by simp; omega) _, ?_, ?_, ?_, ?_, by simp⟩
  · exact ((((Ce.new w _ _).below ((Below.refl _ _).alloc (nR _) _))).below ((Below.refl _ _).alloc (nR _) _)).below ((Below.refl _ _).alloc (nR _) _)
  · have h := Ce.new (w.alloc (.cells #[.bool false, .slice aa la ac] 65)) (.bool false) (.slice ba lb bc)
    rw [show (w.alloc (.cells #[.bool false, .slice aa la ac] 65)).heap.size = w.heap.size + 1 by simp] at h
    exact (h.below ((Below.refl _ _).alloc (nR _) _)).below ((Below.refl _ _).alloc (nR _) _)
  · exact (Tok.new3 w _ _).below ((Below.refl _ _).alloc (nR _) _)
  · exact Tok.new4 w _ _ _
theorem Tryz.scaled (va vb : Value) (x y la lb : Nat) (n : Int) (w : World) (ha : Hid (BtV w va x la)) (hb : Hid (BtV w vb y lb)) (ta : T2 x la) (tb : T2 y lb) (hla : la ≤ 100000) (hlb : lb ≤ 100000) (hn : -10000 ≤ n) (hn2 : n ≤ 10000) :
    Calls Tryz.prog 54 #[.agg #[.bool false, va], .agg #[.bool false, vb], .int .i64 n] w (Big2 (x * 10 ^ n.toNat) (y * 10 ^ (-n).toNat) w) := by
  obtain ⟨aa, ac, rfl⟩ := ha.out.slice
  obtain ⟨ba, bc, rfl⟩ := hb.out.slice
  have TA := Lib.hid ta
  have TB := Lib.hid tb
  clear ta tb
  by_cases h0 : 0 ≤ n
  · obtain ⟨k, rfl⟩ : ∃ k : Nat, n = k := ⟨n.toNat, by omega⟩
    have d0 : decide ((0 : Int) ≤ k) = true := decide_eq_true h0
    have e1 : (-(k : Int)).toNat = 0 := by omega
    have e2 : ((k : Int)).toNat = k := by omega
    rw [e1, e2, Nat.pow_zero, Nat.mul_one]
    obtain ⟨z, hz⟩ : ∃ z, z = x * 10 ^ k := ⟨_, rfl⟩
    rw [← hz]
    have HZ := Lib.hid hz
    have BK : Hid (k ≤ 10000) := Lib.hid (by omega)
    clear e1 e2 h0 hz
    go_enter Tryz.func54, Tryz.ntmps54
    go_upto_region 2 with fail
    generalize hW : (((w.alloc _).alloc _).alloc _).alloc _ = W1
    have S1 : Hid (Sc w W1 aa la ac ba lb bc) := Lib.hid (by rw [← hW]; exact Sc.new w aa la ac ba lb bc)
    clear hW
    have c0 := S1.out.a.c0
    have c1 := S1.out.a.c1
    have d1 := S1.out.b.c0
    have d2 := S1.out.b.c1
    have CT : Hid (∀ W, Hp W1 W → Calls Tryz.prog 100 #[.int .i64 k] W fun e W' => ∃ a m c, e = .returned (.agg #[.bool false, .slice a m c]) ∧ T2 (10 ^ k) m ∧ BtV W' (.slice a m c) (10 ^ k) m ∧ Sc w W' aa la ac ba lb bc) := Lib.hid (fun W h => by
      refine (Tryz.rten6 k W BK.out).mono ?_
      rintro e W' ⟨⟨a, m, c, rfl, h1, h2, h3⟩⟩
      exact ⟨a, m, c, rfl, h1, h2, (S1.out.hp h).next h3⟩)
    have CX : Hid (∀ W a m c, T2 (10 ^ k) m → BtV W (.slice a m c) (10 ^ k) m → Sc w W aa la ac ba lb bc → Calls Tryz.prog 99 #[.agg #[.bool false, .slice aa la ac], .agg #[.bool false, .slice a m c]] W fun e W' => ∃ a m c, e = .returned (.agg #[.bool false, .slice a m c]) ∧ T2 z m ∧ BtV W' (.slice a m c) z m ∧ Sc w W' aa la ac ba lb bc) := Lib.hid (fun W a m c h1 h2 h3 => by
      have hm : m ≤ 1000000 := by have := ten_bits h1; have := BK.out; omega
      rw [HZ.out]
      refine (Tryz.rtimes1 _ _ x (10 ^ k) la m W (ha.out.below h3.bl) h2 (by omega) hm).mono ?_
      rintro e W' ⟨⟨a, m, c, rfl, h4, h5, h6⟩⟩
      exact ⟨a, m, c, rfl, h4, h5, h3.next h6⟩)
    go_region_law (first
      | (refine step_call (by rfl) 100 _ _ (by rfl) _ (by rfl) Tryz.enter100 ((CT.out _ (by first | exact hp_drewN _ _ | exact hp_drew _ | exact ⟨rfl, rfl, rfl, rfl⟩)).mono ?_); rintro e W3 ⟨a3, m3, c3, rfl, ht3, hv3, s3⟩; refine ⟨_, rfl, ?_⟩; have z0 := s3.a.c0; have z1 := s3.a.c1; have y0 := s3.b.c0; have y1 := s3.b.c1)
      | (refine step_call (by rfl) 99 _ _ (by rfl) _ (by rfl) Tryz.enter99 ((CX.out _ _ _ _ ht3 hv3 s3).mono ?_); rintro e W4 ⟨a4, m4, c4, rfl, ht4, hv4, s4⟩; refine ⟨_, rfl, ?_⟩; have x0 := s4.a.c0; have x1 := s4.a.c1; have w0 := s4.b.c0; have w1 := s4.b.c1; have p0 := s4.t.c0; have p1 := s4.t.c1; have q0 := s4.u.c0; have q1 := s4.u.c1; have g0 := s4.t.f 0; have g1 := s4.t.f 1; have g2 := s4.u.f 0; have g3 := s4.u.f 1))
    all_goals
      have H4 := Lib.hid hv4
      have HB := Lib.hid (hb.out.below s4.bl)
      have V4 := Lib.hid s4.t
      have V5 := Lib.hid s4.u
      have B4 := Lib.hid s4.bl
      clear hv4 s4 hv3 s3 CT CX
      go_wp2
      refine bodyPost_ret (v := .tuple #[.agg #[.bool false, .slice a4 m4 c4], .agg #[.bool false, .slice ba lb bc]]) ?_ rfl ⟨_, _, _, _, _, _, rfl, ht4, ?_, TB.out, ?_, ?_⟩
      · simp only [results, Tryz.results54]
        go_simp
      · exact (H4.out.tok V4.out _ _).tok ((V5.out.other (by simp only; omega) _).other (by simp only; omega) _) _ _
      · exact (HB.out.tok V4.out _ _).tok ((V5.out.other (by simp only; omega) _).other (by simp only; omega) _) _ _
      · iterate 4 refine Below.setCell ?_ (by simp only; omega) _
        exact B4.out
  · obtain ⟨k, hk⟩ : ∃ k : Nat, -n = k := ⟨(-n).toNat, by omega⟩
    have d0 : decide (0 ≤ n) = false := decide_eq_false h0
    have e1 : n.toNat = 0 := by omega
    have wr : IntKind.i64.wrap (-n) = (k : Int) := by rw [IntWalk.i64_in _ (by omega), hk]
    rw [e1, hk, Int.toNat_natCast, Nat.pow_zero, Nat.mul_one]
    obtain ⟨z, hz⟩ : ∃ z, z = y * 10 ^ k := ⟨_, rfl⟩
    rw [← hz]
    have HZ := Lib.hid hz
    have BK : Hid (k ≤ 10000) := Lib.hid (by omega)
    clear e1 h0 hz hk
    go_enter Tryz.func54, Tryz.ntmps54
    go_upto_region 3 with fail
    generalize hW : (((w.alloc _).alloc _).alloc _).alloc _ = W1
    have S1 : Hid (Sc w W1 aa la ac ba lb bc) := Lib.hid (by rw [← hW]; exact Sc.new w aa la ac ba lb bc)
    clear hW
    have c0 := S1.out.a.c0
    have c1 := S1.out.a.c1
    have d1 := S1.out.b.c0
    have d2 := S1.out.b.c1
    have CT : Hid (∀ W, Hp W1 W → Calls Tryz.prog 100 #[.int .i64 k] W fun e W' => ∃ a m c, e = .returned (.agg #[.bool false, .slice a m c]) ∧ T2 (10 ^ k) m ∧ BtV W' (.slice a m c) (10 ^ k) m ∧ Sc w W' aa la ac ba lb bc) := Lib.hid (fun W h => by
      refine (Tryz.rten6 k W BK.out).mono ?_
      rintro e W' ⟨⟨a, m, c, rfl, h1, h2, h3⟩⟩
      exact ⟨a, m, c, rfl, h1, h2, (S1.out.hp h).next h3⟩)
    have CX : Hid (∀ W a m c, T2 (10 ^ k) m → BtV W (.slice a m c) (10 ^ k) m → Sc w W aa la ac ba lb bc → Calls Tryz.prog 99 #[.agg #[.bool false, .slice ba lb bc], .agg #[.bool false, .slice a m c]] W fun e W' => ∃ a m c, e = .returned (.agg #[.bool false, .slice a m c]) ∧ T2 z m ∧ BtV W' (.slice a m c) z m ∧ Sc w W' aa la ac ba lb bc) := Lib.hid (fun W a m c h1 h2 h3 => by
      have hm : m ≤ 1000000 := by have := ten_bits h1; have := BK.out; omega
      rw [HZ.out]
      refine (Tryz.rtimes1 _ _ y (10 ^ k) lb m W (hb.out.below h3.bl) h2 (by omega) hm).mono ?_
      rintro e W' ⟨⟨a, m, c, rfl, h4, h5, h6⟩⟩
      exact ⟨a, m, c, rfl, h4, h5, h3.next h6⟩)
    go_region_law (first
      | (refine step_call (by rfl) 100 _ _ (by rfl) _ (by rfl) Tryz.enter100 ((CT.out _ (by first | exact hp_drewN _ _ | exact hp_drew _ | exact ⟨rfl, rfl, rfl, rfl⟩)).mono ?_); rintro e W3 ⟨a3, m3, c3, rfl, ht3, hv3, s3⟩; refine ⟨_, rfl, ?_⟩; have z0 := s3.a.c0; have z1 := s3.a.c1; have y0 := s3.b.c0; have y1 := s3.b.c1)
      | (refine step_call (by rfl) 99 _ _ (by rfl) _ (by rfl) Tryz.enter99 ((CX.out _ _ _ _ ht3 hv3 s3).mono ?_); rintro e W4 ⟨a4, m4, c4, rfl, ht4, hv4, s4⟩; refine ⟨_, rfl, ?_⟩; have x0 := s4.a.c0; have x1 := s4.a.c1; have w0 := s4.b.c0; have w1 := s4.b.c1; have p0 := s4.t.c0; have p1 := s4.t.c1; have q0 := s4.u.c0; have q1 := s4.u.c1; have g0 := s4.t.f 0; have g1 := s4.t.f 1; have g2 := s4.u.f 0; have g3 := s4.u.f 1))
    all_goals
      have H4 := Lib.hid hv4
      have HA := Lib.hid (ha.out.below s4.bl)
      have V4 := Lib.hid s4.t
      have V5 := Lib.hid s4.u
      have B4 := Lib.hid s4.bl
      clear hv4 s4 hv3 s3 CT CX
      go_wp2
      refine bodyPost_ret (v := .tuple #[.agg #[.bool false, .slice aa la ac], .agg #[.bool false, .slice a4 m4 c4]]) ?_ rfl ⟨_, _, _, _, _, _, rfl, TA.out, ?_, ht4, ?_, ?_⟩
      · simp only [results, Tryz.results54]
        go_simp
      · exact (HA.out.tok V4.out _ _).tok ((V5.out.other (by simp only; omega) _).other (by simp only; omega) _) _ _
      · exact (H4.out.tok V4.out _ _).tok ((V5.out.other (by simp only; omega) _).other (by simp only; omega) _) _ _
      · iterate 4 refine Below.setCell ?_ (by simp only; omega) _
        exact B4.out
end Go.Proofs
set_option linter.unusedVariables false
set_option linter.unusedSimpArgs false
set_option maxRecDepth 1000000
set_option maxHeartbeats 40000000
/- The document's ratio: a float above nought as a quotient. -/
namespace Go.Proofs
open Go.RowKit Go.Pf Go.Rb Go.Zw
theorem Tryz.ratio (b r u : Nat) (w : World) (h : FltOk b r u) : Calls Tryz.prog 53 #[.int .u64 b] w (Big2 (rA r u) (rB u) w) := by
  obtain ⟨i0, hi, hz0, hz1, hz2⟩ := info_parts Tryz.infoInt
  have r0 := h.r0
  have r53 := h.r53
  have u2 := h.u2
  have hb := h.eq
  have hn := h.nrm
  obtain ⟨d, hd⟩ : ∃ d : Nat, d = b / 4503599627370496 := ⟨_, rfl⟩
  obtain ⟨e, he⟩ : ∃ e : Nat, e = d % 2048 := ⟨_, rfl⟩
  obtain ⟨m, hm⟩ : ∃ m : Nat, m = b % 4503599627370496 := ⟨_, rfl⟩
  have hcase : (e = 0 ∧ m = r ∧ u = 0) ∨ (0 < e ∧ m + 4503599627370496 = r ∧ e = u + 1) := by
    rcases hn with h1 | h1
    · subst h1
      rcases Nat.lt_or_ge r 4503599627370496 with h2 | h2
      · left; omega
      · right; omega
    · right; omega
  have q0 : (b : Int) / 4503599627370496 = (d : Int) := by omega
  have q1 : (d : Int) % 2048 = (e : Int) := by omega
  have b64 : b < 18446744073709551616 := by omega
  have d12 : d < 4096 := by omega
  have q2 : (b : Int) % 4503599627370496 = (m : Int) := by omega
  have HR53 := Lib.hid r53
  have HR0 := Lib.hid r0
  have HU2 := Lib.hid u2
  have e0 : e < 2048 := by omega
  have m0 : m < 4503599627370496 := by omega
  have HC := Lib.hid hcase
  clear r53 r0 hb hn hd he hm hcase h u2
  go_enter Tryz.func53, Tryz.ntmps53
  go_upto_region 2 with fail
  generalize hW : (w.alloc _).alloc _ = W1
  have t2 : Tok W1 w.heap.size := by subst hW; exact (Tok.new1 w).below ((Below.refl _ _).alloc (nR _) _)
  have t3 : Tok W1 (w.heap.size + 1) := by subst hW; exact Tok.new2 w _
  have bl : Below w.heap.size w W1 := by subst hW; exact ((Below.refl _ _).alloc (nR _) _).alloc (by simp) _
  have sz : w.heap.size + 2 ≤ W1.heap.size := by subst hW; simp
  have T2h := Lib.hid t2
  have T3h := Lib.hid t3
  have BL := Lib.hid bl
  clear hW t2 t3 bl
  go_cut [5] from 8 (fun v5 wx => W1 = wx ∧ v5 = .int .u64 m)
  case first =>
    go_wp2
    go_meet
    exact ⟨rfl, by rw [q2]⟩
  case rest =>
  obtain ⟨rfl, rfl⟩ := hcut
  go_upto_if 15 with fail
  go_cut [4, 5] from 8 (fun v4 v5 wx => W1 = wx ∧ v4 = .int .i64 u ∧ v5 = .int .u64 r)
  case first =>
    rcases HC.out with ⟨h1, h2, h3⟩ | ⟨h1, h2, h3⟩
    · subst h1 h3
      have H2 := Lib.hid h2
      clear h2 HC
      go_wp2
      go_meet
      exact ⟨rfl, rfl, by rw [H2.out]⟩
    · have g1 : decide (0 < (e : Int)) = true := decide_eq_true (by omega)
      have g2 : (0 : Int) < e := by omega
      have g3 : (m : Int) + 4503599627370496 = r := by omega
      have g4 : (e : Int) - 1 = u := by omega
      clear h2 h3 HC
      go_wp2
      go_meet
      exact ⟨rfl, rfl, rfl⟩
  case rest =>
  obtain ⟨rfl, rfl, rfl⟩ := hcut
  clear q0 q1 q2 b64 d12 e0 m0 HC
  have BLW := Lib.hid (BL.out.size)
  have R62 : Hid (r < 2 ^ 62) := Lib.hid (by have := HR53.out; have : (2 : Nat) ^ 62 = 4611686018427387904 := by decide
                                             omega)
  obtain ⟨W2, hW2⟩ : ∃ W2, W2 = W1 := ⟨_, rfl⟩
  rw [← hW2]
  rw [← hW2] at sz T2h T3h BL BLW
  clear hW2
  go_wp2
  go_loopw [5, 6] (fun nv bv wr => ∃ (k x : Nat), k ≤ 62 ∧ x = r / 2 ^ k ∧ nv = .int .u64 x ∧ OB W2.heap.size W2 r k bv wr) (fun nv _ _ => (RowKit.intOf nv).toNat)
  case atStart => exact ⟨0, r, by omega, by simp, rfl, ⟨World.ownsRow_nil _ _ _ _, Below.refl _ _, nR _⟩⟩
  case round =>
    obtain ⟨k, x, hk, hx, rfl, hob⟩ := hrel
    obtain ⟨oa, oc, ho⟩ := own_slice3 hob.own
    subst ho
    have xv : x ≤ r := by rw [hx]; exact Nat.div_le_self _ _
    have x53 : x < 9007199254740992 := Nat.lt_of_le_of_lt xv HR53.out
    have hown := hob.own
    have hsz := hob.le
    by_cases h0 : x = 0
    · have x0 : decide (0 < (x : Int)) = false := decide_eq_false (by omega)
      have x0n : decide (0 < x) = false := decide_eq_false (by omega)
      have hfin : r < 2 ^ k := by
        rw [h0] at hx
        exact (Nat.div_eq_zero_iff_lt (Nat.two_pow_pos k)).1 hx.symm
      have HB := Lib.hid (BtV.of_own hown hfin)
      have B1 := Lib.hid hob.bel
      have T2k := Lib.hid (T2h.out.below hob.bel)
      have T3k := Lib.hid (T3h.out.below hob.bel)
      have K62 := Lib.hid hk
      have BW := Lib.hid (BL.out.trans (hob.bel.mono BL.out.size))
      have SW : Hid (w.heap.size + 2 ≤ wr.heap.size) := Lib.hid (by omega)
      clear hown hob hx hfin h0 xv x53
      obtain ⟨x1, hx1⟩ : ∃ x1 : Nat, max 0 ((u : Int) - 1074) = x1 := ⟨(max 0 ((u : Int) - 1074)).toNat, by omega⟩
      obtain ⟨x2, hx2⟩ : ∃ x2 : Nat, max 0 (1074 - (u : Int)) = x2 := ⟨(max 0 (1074 - (u : Int))).toNat, by omega⟩
      have e1 : Hid (x1 = u - 1074) := Lib.hid (by omega)
      have e2 : Hid (x2 = 1074 - u) := Lib.hid (by omega)
      have u2 := HU2.out
      go_wp2_with fail
      generalize hWa : wr.alloc _ = Wa
      have ba : Below wr.heap.size wr Wa := by subst hWa; exact (Below.refl _ _).alloc (nR _) _
      have HVa := Lib.hid (HB.out.below ba)
      have T2a := T2k.out.below ba
      have T3a := T3k.out.below ba
      have bwa : Below w.heap.size w Wa := BW.out.trans (ba.mono BW.out.size)
      clear hWa ba
      have k62 := K62.out
      refine ((Tryz.rshift (.slice oa k oc) r k x1 Wa HVa (by omega) (by have := e1.out; omega)).mono fun _ _ h => h.one).mono ?_
      rintro e W4 ⟨⟨a4, m4, c4, rfl, ht4, hv4, b4⟩⟩
      have T2b := T2a.below b4
      have T3b := T3a.below b4
      have bwb := bwa.trans (b4.mono bwa.size)
      clear T2a T3a b4 bwa HVa
      go_wp2_with fail
      refine (Tryz.rsmall1 W4).mono ?_
      rintro e W5 ⟨⟨a5, m5, c5, rfl, ht5, hv5, b5⟩⟩
      have T2c := T2b.below b5
      have T3c := T3b.below b5
      have hv4' := hv4.below b5
      have bwc := bwb.trans (b5.mono bwb.size)
      clear T2b T3b b5 bwb hv4
      have hm5 : m5 ≤ 4 := T2.le ht5 (show 1 < 2 ^ 4 by decide) (nR _)
      go_wp2_with fail
      refine ((Tryz.rshift (.slice a5 m5 c5) 1 m5 x2 W5 (Lib.hid hv5) (by omega) (by have := e2.out; omega)).mono fun _ _ h => h.one).mono ?_
      rintro e W6 ⟨⟨a6, m6, c6, rfl, ht6, hv6, b6⟩⟩
      have V4 := Lib.hid (T2c.below b6)
      have V5 := Lib.hid (T3c.below b6)
      have H4 := Lib.hid (hv4'.below b6)
      have H6 := Lib.hid hv6
      have B6 := Lib.hid (bwc.trans (b6.mono bwc.size))
      have p0 := V4.out.c0
      have p1 := V4.out.c1
      have q0 := V5.out.c0
      have q1 := V5.out.c1
      have g0 := V4.out.f 0
      have g1 := V4.out.f 1
      have g2 := V5.out.f 0
      have g3 := V5.out.f 1
      have HT4 : Hid (T2 (rA r u) m4) := Lib.hid (by unfold rA; rw [← e1.out]; exact ht4)
      have HT6 : Hid (T2 (rB u) m6) := Lib.hid (by unfold rB; rw [← e2.out]; rw [Nat.one_mul] at ht6; exact ht6)
      have E4 : Hid (rA r u = r * 2 ^ x1) := Lib.hid (by unfold rA; rw [← e1.out])
      have E6 : Hid (rB u = 1 * 2 ^ x2) := Lib.hid (by unfold rB; rw [← e2.out, Nat.one_mul])
      clear T2c T3c b6 bwc hv4' hv5 hv6 ht4 ht6 ht5
      go_wp2
      refine bodyPost_ret (v := .tuple #[.agg #[.bool false, .slice a4 m4 c4], .agg #[.bool false, .slice a6 m6 c6]]) ?_ rfl ⟨_, _, _, _, _, _, rfl, HT4.out, ?_, HT6.out, ?_, ?_⟩
      · simp only [results, Tryz.results53]
        go_simp
      · rw [E4.out]
        exact (H4.out.tok V4.out _ _).tok ((V5.out.other (by simp only; omega) _).other (by simp only; omega) _) _ _
      · rw [E6.out]
        exact (H6.out.tok V4.out _ _).tok ((V5.out.other (by simp only; omega) _).other (by simp only; omega) _) _ _
      · iterate 4 refine Below.setCell ?_ (by simp only; omega) _
        exact B6.out
    · have x1 : decide (0 < (x : Int)) = true := decide_eq_true (by omega)
      have x1n : decide (0 < x) = true := decide_eq_true (by omega)
      obtain ⟨t1, ht1⟩ : ∃ t1, t1 = x % 2 := ⟨_, rfl⟩
      obtain ⟨x2, hx2⟩ : ∃ x2, x2 = x / 2 := ⟨_, rfl⟩
      have e1 : (x : Int) % 2 = (t1 : Int) := by omega
      have e2 : (x : Int) / 2 = (x2 : Int) := by omega
      have t2 : t1 < 2 := by omega
      have hk2 : k < 62 := by
        apply Classical.byContradiction
        intro h
        have : k = 62 := by omega
        subst this
        rw [Nat.div_eq_of_lt R62.out] at hx
        exact h0 hx
      have HB1 : Hid (bit2 r k = t1) := Lib.hid (by unfold bit2; rw [← hx, ht1])
      have HX2 : Hid (x2 = r / 2 ^ (k + 1)) := Lib.hid (by rw [hx2, hx, Nat.pow_succ, Nat.div_div_eq_div_mul])
      have HOB := Lib.hid hob
      have HLT := Lib.hid (show x2 < x by omega)
      clear hob hx h0 ht1 hx2
      go_wp2_with (at_builtin; refine wpList_append_own _ rfl _ _ 63 rfl W2.heap.size 3 i0 (.int .i64 0) 1 8 Tryz.underlying63 hi hz0 hz1 hz2 rfl (by decide) _ _ _ rfl (hown.alloc _) ⟨wr.heap.size, 0, none⟩ 1 1 [.int .i64 (t1 : Nat)] rfl rfl ?c1 ?c2 ?c3 ?c4 ?c5 ?_)
      case c1 =>
        intro j u hj
        match j, hj with
        | 0, hj => simp at hj; subst hj; simp [Addr.add]
      case c2 => intro u hu; simp at hu; subst hu; rfl
      case c3 => unfold maxLen; omega
      case c4 => omega
      case c5 => simp; omega
      intro v' w2 hown' hgrow _
      have HN := Lib.hid (HOB.out.next HB1.out hown' hgrow)
      clear hown' hgrow
      go_wp2
      go_roundw
      case rel => exact ⟨k + 1, x2, by omega, HX2.out, by go_num, HN.out⟩
      case measure => have := HLT.out; simp [RowKit.intOf]; omega
end Go.Proofs
set_option linter.unusedVariables false
set_option linter.unusedSimpArgs false
set_option maxRecDepth 1000000
set_option maxHeartbeats 40000000
/- The document's Sum of two numbers not below nought; what digits finds, plainly. -/
namespace Go.Proofs
open Go.RowKit Go.Pf Go.Rb Go.Zw
theorem Tryz.rsumBoth (va vb:Value) (x y la lb:Nat) (w:World) (ha:Hid (BtV w va x la)) (hb:Hid (BtV w vb y lb)) (hla:la≤1000000000) (hlb:lb≤1000000000):
 Calls Tryz.prog 101 #[.agg #[.bool false,va],.agg #[.bool false,vb]] w (Big1 (x+y) w):=by
 go_enter Tryz.func101,Tryz.ntmps101
 go_wp2_with fail
 generalize hW:((w.alloc _).alloc _).alloc _=W1
 have bl:Below w.heap.size w W1:=by subst hW;exact(((Below.refl _ _).alloc (nR _) _).alloc (by simp) _).alloc (by simp;omega) _
 have c0:W1.cell? ⟨w.heap.size,0,none⟩=some (.bool false):=by subst hW;go_simp
 have c1:W1.cell? ⟨w.heap.size,1,none⟩=some va:=by subst hW;go_simp
 have d0:W1.cell? ⟨w.heap.size+1,0,none⟩=some (.bool false):=by subst hW;go_simp
 have d1:W1.cell? ⟨w.heap.size+1,1,none⟩=some vb:=by subst hW;go_simp
 have tk:Tok W1 (w.heap.size+2):=by subst hW;exact Tok.new3 w _ _
 have ha1:=ha.out.below bl
 have hb1:=hb.out.below bl
 have sz:W1.heap.size=w.heap.size+3:=by subst hW;simp
 have SZ:=Hi sz
 clear hW sz
 have HB:=Hi bl
 have TK:=Hi tk
 have HA1:=Hi ha1
 have HB1:=Hi hb1
 have keep0:Hid (∀W2,Below W1.heap.size W1 W2→W2.cell? ⟨w.heap.size,0,none⟩=some (.bool false)):=Hi (fun W2 h=>(h.cell (p:=⟨w.heap.size,0,none⟩) (by have:=SZ.out;show w.heap.size<W1.heap.size;omega)).trans c0)
 have keep1:Hid (∀W2,Below W1.heap.size W1 W2→W2.cell? ⟨w.heap.size+1,0,none⟩=some (.bool false)):=Hi (fun W2 h=>(h.cell (p:=⟨w.heap.size+1,0,none⟩) (by have:=SZ.out;show w.heap.size+1<W1.heap.size;omega)).trans d0)
 clear bl tk ha1 hb1
 have CL:Hid (∀(neg ng:Bool) a m c z W,BtV W (.slice a m c) z m→Below W1.heap.size W1 W→ng=(neg&&decide (0<z))→Calls Tryz.prog 58 #[.bool neg,.slice a m c] W (LaidSays ng z (w.heap.size+2) W1)):=Hi (fun neg ng a m c z W h1 h2 h3=>Tryz.rlaidAt neg ng _ z m _ W1 W (Hi h1) (TK.out.below h2) h2 h3)
 have FIN:Hid (∀a m c w',T2 (x+y) m→BtV w' (.slice a m c) (x+y) m→Below w.heap.size w w'→Big1 (x+y) w (.returned (.agg #[.bool false,.slice a m c])) w'):=Hi (fun a m c w' h1 h2 h3=>⟨⟨a,m,c,rfl,h1,h2,h3⟩⟩)
 have PX:Hid (false=(false&&decide (0<x+y))):=Hi rfl
 have CS:Hid (∀W,Hp W1 W→Calls Tryz.prog 150 #[va,vb] W (RowAt (x+y) W1)):=Hi (fun W h=>(Tryz.radd va vb x y la lb W (Hi (HA1.out.heap h.heap)) (Hi (HB1.out.heap h.heap)) hla hlb).mono (fun e w' hr=>hr.at h.below))
 clear hb ha
 ·skip
  ·go_region_with (first|(go_at_call 150;(first|(with_reducible refine(CS.out _ (hp_drewN _ _)).mono ?_)|(with_reducible refine(CS.out _ (hp_drew _)).mono ?_));rintro e W2 ⟨⟨sa,sm,sc,rfl,ht,hv2,b2⟩⟩;have e0:=keep0.out W2 b2)|(go_at_call 58;(with_reducible refine(CL.out false false _ _ _ _ _ hv2 b2 PX.out).mono ?_);rintro e W3 ⟨⟨ra,rm,rc,rfl,ht3,x0,x1,y0,y1,hv3,b3⟩⟩))
   all_goals
    have HV3:=Hi hv3
    have B3:=Hi b3
    clear hv2 b2 e0 hv3 b3
    go_wp2
    refine bodyPost_ret (v:= .agg #[.bool false,.slice ra rm rc]) ?_ rfl (FIN.out _ _ _ _ ht3 HV3.out ?_)
    ·simp only[results,Tryz.results101]
     go_simp
    ·iterate 2 refine Below.setCell ?_ (by simp only;omega) _
     exact HB.out.trans (B3.out.mono HB.out.size)
end Go.Proofs
namespace Go.Zw
open Go.Pf Go.Lib Go.Lx Go.Bg
theorem dec_num (u : Nat) : decDigits u = numL 10 u := by
  induction u using Nat.strongRecOn with
  | _ u ih =>
    rw [decDigits]
    by_cases h : u < 10
    · rw [dif_pos h]
      have key : ∀ k : Fin 10, [UInt8.ofNat (48 + k.val)] = numL 10 k.val := by decide
      exact key ⟨u, h⟩
    · rw [dif_neg h, ih (u / 10) (by omega)]
      unfold numL
      rw [if_neg (by omega), if_neg (by omega), digs_pos (by omega) (show u ≠ 0 by omega), List.map_cons, List.reverse_cons]
      have key : ∀ k : Fin 10, UInt8.ofNat (48 + k.val) = sgn k.val := by decide
      rw [key ⟨u % 10, by omega⟩]
/-- What Decimal answers, and whether that is the float. -/
noncomputable def loB (X : Nat) (x : Int) : Nat := if fltB X x < infB then fltB X x else 0
theorem fltB_rd {b d : Nat} {x : Int} (hb : b < infB) : fltB d x = b ↔ rdOk b d x := by
  constructor
  · intro h
    obtain ⟨c, hc⟩ := Rnd.ex (d * 10 ^ x.toNat) (10 ^ (-x).toNat) (Nat.pow_pos (by decide))
    have h1 : Fl (d * 10 ^ x.toNat) (10 ^ (-x).toNat) (min c infB) := ⟨c, hc, rfl⟩
    rw [fltB_eq h1] at h
    unfold rdOk
    rw [← h]
    exact h1
  · intro h
    exact fltB_eq h
theorem lo_rd {b d : Nat} {x : Int} (h0 : 0 < b) (hb : b < infB) : loB d x = b ↔ rdOk b d x := by
  rw [← fltB_rd hb]
  unfold loB
  split <;> omega
theorem hi_rd {b d : Nat} {x : Int} (h0 : 0 < b) (hb : b < infB) : (fltB d x < infB ∧ loB d x = b) ↔ rdOk b d x := by
  rw [lo_rd h0 hb, ← fltB_rd hb]
  constructor
  · exact fun h => h.2
  · exact fun h => ⟨by omega, h⟩
theorem rne_near (X Y : Nat) (hY : 0 < Y) : rne X Y = X / Y ↔ (2 * (X % Y) < Y ∨ (2 * (X % Y) = Y ∧ X / Y % 2 = 0)) := by
  unfold rne
  split <;> omega
theorem q_bounds {r u : Nat} {e : Int} (he : ExpOk r u e) {n : Nat} (hn : 1 ≤ n) : 10 ^ (n - 1) ≤ sX r u (e - n + 1) / sY u (e - n + 1) ∧ sX r u (e - n + 1) / sY u (e - n + 1) < 10 ^ n := by
  have key : ∀ (k : Nat) (x : Int), sX r u x * sY u (x + k) = sX r u (x + k) * 10 ^ k * sY u x := by
    intro k
    induction k with
    | zero => intro x; rw [show x + ((0 : Nat) : Int) = x by omega, Nat.pow_zero, Nat.mul_one]
    | succ k ih =>
      intro x
      have h1 := ih x
      have h2 := sXY_succ r u (x + k)
      rw [show x + ((k + 1 : Nat) : Int) = x + k + 1 by omega]
      have hp := sY_pos u (x + k)
      refine Nat.eq_of_mul_eq_mul_right hp ?_
      have e1 : (10 : Nat) ^ (k + 1) = 10 ^ k * 10 := Nat.pow_succ _ _
      rw [e1]
      generalize sX r u x = A at *
      generalize sY u (x + k + 1) = B at *
      generalize sY u (x + k) = C at *
      generalize sX r u (x + k + 1) = D at *
      generalize sX r u (x + k) = E at *
      generalize sY u x = F at *
      generalize 10 ^ k = t at *
      calc A * B * C = A * C * B := by ac_rfl
        _ = E * t * F * B := by rw [h1]
        _ = E * B * (t * F) := by ac_rfl
        _ = D * 10 * C * (t * F) := by rw [← h2]
        _ = D * (t * 10) * F * C := by ac_rfl
  have p0 := sY_pos u (e - n + 1)
  have p1 := sY_pos u e
  have p2 := sY_pos u (e + 1)
  constructor
  · rw [Nat.le_div_iff_mul_le p0]
    have h := key (n - 1) (e - n + 1)
    rw [show e - n + 1 + ((n - 1 : Nat) : Int) = e by omega] at h
    have h3 := he.lo
    refine Nat.le_of_mul_le_mul_right (c := sY u e) ?_ p1
    rw [h]
    generalize sY u (e - n + 1) = A at *
    generalize 10 ^ (n - 1) = t at *
    have h4 : t * A * sY u e ≤ t * A * sX r u e := Nat.mul_le_mul_left _ h3
    rw [show sX r u e * t * A = t * A * sX r u e by ac_rfl]
    exact h4
  · rw [Nat.div_lt_iff_lt_mul p0]
    have h := key n (e - n + 1)
    rw [show e - n + 1 + (n : Int) = e + 1 by omega] at h
    have h3 := he.hi
    refine Nat.lt_of_mul_lt_mul_right (a := sY u (e + 1)) ?_
    rw [h]
    have h4 : 10 ^ n * sY u (e - n + 1) * sX r u (e + 1) < 10 ^ n * sY u (e - n + 1) * sY u (e + 1) := Nat.mul_lt_mul_of_pos_left h3 (Nat.mul_pos (Nat.pow_pos (by decide)) p0)
    generalize sY u (e - n + 1) = A at *
    generalize 10 ^ n = t at *
    rw [show sX r u (e + 1) * t * A = t * A * sX r u (e + 1) by ac_rfl]
    exact h4
theorem nDigits_of {q n : Nat} (hn : 1 ≤ n) (h1 : 10 ^ (n - 1) ≤ q) (h2 : q < 10 ^ n) : nDigits q = n := by
  have := nDigits_unique (n - 1) q h1 (by rw [show n - 1 + 1 = n by omega]; exact h2)
  omega
end Go.Zw
set_option linter.unusedVariables false
set_option linter.unusedSimpArgs false
set_option maxRecDepth 1000000
set_option maxHeartbeats 40000000
/- The document's digits. -/
namespace Go.Proofs
open Go.RowKit Go.Pf Go.Rb Go.Zw Go.Lx
theorem Tryz.enter101 (vs : Array Value) (w : World) : (callFunc 101 vs).run Tryz.prog w = .ok (.enter 101 vs) w := by kernel_rfl
/-- What digits answers: the digits D, e, whether they are read as the float. -/
structure DgEnd (D : Nat) (f : Int) (P : Prop) (w : World) (R : Ending) (w' : World) : Prop where
  ex : ∃ ok : Bool, R = .returned (.tuple #[.string ⟨(Lib.decDigits D).toArray⟩, .int .i64 f, .bool ok]) ∧ (ok = true ↔ P) ∧ Below w.heap.size w w'
theorem bits_of {x m k : Nat} (h : T2 x m) (hx : x < 2 ^ k) : m ≤ k := T2.le h hx (nR _)
theorem sX_lt {r u : Nat} {x : Int} (hr : r < 9007199254740992) : sX r u x < 2 ^ (53 + (u - 1074) + (4 * (-x).toNat + 1)) := by
  have e53 : 9007199254740992 = 2 ^ 53 := by decide
  have p1 : rA r u < 2 ^ (53 + (u - 1074)) := by
    unfold rA
    rw [Nat.pow_add]
    exact Nat.mul_lt_mul_of_pos_right (by omega) (Nat.two_pow_pos _)
  unfold sX
  rw [Nat.pow_add]
  exact Nat.mul_lt_mul'' p1 (ten_lt _)
theorem sY_lt (u : Nat) (x : Int) : sY u x < 2 ^ (1074 - u + 1 + (4 * x.toNat + 1)) := by
  have p1 : rB u < 2 ^ (1074 - u + 1) := by
    unfold rB
    exact Nat.pow_lt_pow_right (by decide) (by omega)
  unfold sY
  rw [Nat.pow_add]
  exact Nat.mul_lt_mul'' p1 (ten_lt _)
/-- Memory behind the quotient: y, q, r. -/
structure Dg (w W : World) (py pq pr : Nat) (ya qa ra : Option Addr) (ym yc qm qc rm rc : Nat) (Y q rr : Nat) : Prop where
  bl : Below w.heap.size w W
  cy : Ce W py (.bool false) (.slice ya ym yc)
  cq : Ce W pq (.bool false) (.slice qa qm qc)
  cr : Ce W pr (.bool false) (.slice ra rm rc)
  by_ : BtV W (.slice ya ym yc) Y ym
  bq : BtV W (.slice qa qm qc) q qm
  br : BtV W (.slice ra rm rc) rr rm
theorem Dg.next {w W W' : World} {py pq pr : Nat} {ya qa ra : Option Addr} {ym yc qm qc rm rc Y q rr : Nat} (h : Dg w W py pq pr ya qa ra ym yc qm qc rm rc Y q rr) (hb : Below W.heap.size W W') : Dg w W' py pq pr ya qa ra ym yc qm qc rm rc Y q rr :=
  ⟨h.bl.trans (hb.mono h.bl.size), h.cy.below hb, h.cq.below hb, h.cr.below hb, h.by_.below hb, h.bq.below hb, h.br.below hb⟩
theorem Dg.hp {w W W' : World} {py pq pr : Nat} {ya qa ra : Option Addr} {ym yc qm qc rm rc Y q rr : Nat} (h : Dg w W py pq pr ya qa ra ym yc qm qc rm rc Y q rr) (hb : Hp W W') : Dg w W' py pq pr ya qa ra ym yc qm qc rm rc Y q rr := h.next hb.below
theorem Dg.al {w W : World} {py pq pr : Nat} {ya qa ra : Option Addr} {ym yc qm qc rm rc Y q rr : Nat} (h : Dg w W py pq pr ya qa ra ym yc qm qc rm rc Y q rr) (o : Obj) : Dg w (W.alloc o) py pq pr ya qa ra ym yc qm qc rm rc Y q rr := h.next ((Below.refl _ _).alloc (nR _) _)
theorem Dg.tok {w W : World} {B py pq pr : Nat} {ya qa ra : Option Addr} {ym yc qm qc rm rc Y q rr : Nat} (h : Dg w W py pq pr ya qa ra ym yc qm qc rm rc Y q rr) (t : Tok W B) (k : w.heap.size ≤ B ∧ py < B ∧ pq < B ∧ pr < B) (u v : Value) : Dg w ((W.setCell ⟨B, 0, none⟩ u).setCell ⟨B, 1, none⟩ v) py pq pr ya qa ra ym yc qm qc rm rc Y q rr :=
  ⟨(h.bl.setCell k.1 _).setCell k.1 _, (h.cy.other (Nat.ne_of_lt k.2.1) _).other (Nat.ne_of_lt k.2.1) _, (h.cq.other (Nat.ne_of_lt k.2.2.1) _).other (Nat.ne_of_lt k.2.2.1) _, (h.cr.other (Nat.ne_of_lt k.2.2.2) _).other (Nat.ne_of_lt k.2.2.2) _, h.by_.tok t _ _, h.bq.tok t _ _, h.br.tok t _ _⟩
theorem Dg.room {w W : World} {py pq pr : Nat} {ya qa ra : Option Addr} {ym yc qm qc rm rc Y q rr : Nat} (h : Dg w W py pq pr ya qa ra ym yc qm qc rm rc Y q rr) : w.heap.size ≤ W.heap.size ∧ py < W.heap.size ∧ pq < W.heap.size ∧ pr < W.heap.size := ⟨h.bl.size, h.cy.lt, h.cq.lt, h.cr.lt⟩
theorem BtV.al {W : World} {v : Value} {x m : Nat} (h : BtV W v x m) (o : Obj) : BtV (W.alloc o) v x m := h.below ((Below.refl _ _).alloc (nR _) _)
/-- .. and the number above it. -/
structure Dh (w W : World) (py pq pr : Nat) (ya qa ra : Option Addr) (ym yc qm qc rm rc Y q rr : Nat) (pu : Nat) (ua : Option Addr) (um uc : Nat) : Prop where
  g : Dg w W py pq pr ya qa ra ym yc qm qc rm rc Y q rr
  cu : Ce W pu (.bool false) (.slice ua um uc)
  bu : BtV W (.slice ua um uc) (q+1) um
theorem Dh.next {w W W' : World} {py pq pr : Nat} {ya qa ra : Option Addr} {ym yc qm qc rm rc Y q rr pu : Nat} {ua : Option Addr} {um uc : Nat} (h : Dh w W py pq pr ya qa ra ym yc qm qc rm rc Y q rr pu ua um uc) (hb : Below W.heap.size W W') : Dh w W' py pq pr ya qa ra ym yc qm qc rm rc Y q rr pu ua um uc := ⟨h.g.next hb, h.cu.below hb, h.bu.below hb⟩
theorem Tryz.digits (va vb : Value) (b r u la lb n : Nat) (e : Int) (w : World) (h : FltOk b r u) (he : ExpOk r u e) (hn : 1 ≤ n) (hn2 : n ≤ 17) (he1 : -400 ≤ e) (he2 : e ≤ 400)
    (ha : Hid (BtV w va (rA r u) la)) (hb : Hid (BtV w vb (rB u) lb)) (ta : T2 (rA r u) la) (tb : T2 (rB u) lb) :
    Calls Tryz.prog 56 #[.agg #[.bool false, va], .agg #[.bool false, vb], .int .i64 e, .int .i64 n, .int .u64 b] w (DgEnd (dDig b r u (e - n + 1)) (e + Lib.nDigits (dDig b r u (e - n + 1)) - n) (rdEx b (e - n + 1)) w) := by
  obtain ⟨aa, ac, rfl⟩ := ha.out.slice
  obtain ⟨ba, bc, rfl⟩ := hb.out.slice
  have u2 := h.u2
  have b64 : b < 18446744073709551616 := by have := h.inf; unfold infB at this; omega
  have hla : la ≤ 100000 := by
    have h1 : rA r u < 2 ^ (53 + (u - 1074)) := by
      have e53 : 9007199254740992 = 2 ^ 53 := by decide
      have := h.r53
      unfold rA
      rw [Nat.pow_add]
      exact Nat.mul_lt_mul_of_pos_right (by omega) (Nat.two_pow_pos _)
    have := bits_of ta h1
    omega
  have hlb : lb ≤ 100000 := by
    have h1 : rB u < 2 ^ (1074 - u + 1) := by
      unfold rB
      exact Nat.pow_lt_pow_right (by decide) (by omega)
    have := bits_of tb h1
    omega
  obtain ⟨x, hx⟩ : ∃ x : Int, x = e - n + 1 := ⟨_, rfl⟩
  have ex1 : (n : Int) - 1 - e = -x := by omega
  have ex2 : e - (n : Int) + 1 = x := by omega
  obtain ⟨X, hX⟩ : ∃ X, X = sX r u x := ⟨_, rfl⟩
  obtain ⟨Y, hY⟩ : ∃ Y, Y = sY u x := ⟨_, rfl⟩
  have hX2 : X < 2 ^ (53 + (u - 1074) + (4 * (-x).toNat + 1)) := by rw [hX]; exact sX_lt h.r53
  have hY2 : Y < 2 ^ (1074 - u + 1 + (4 * x.toNat + 1)) := by rw [hY]; exact sY_lt u x
  obtain ⟨q, hq⟩ : ∃ q, q = X / Y := ⟨_, rfl⟩
  obtain ⟨rr, hrr⟩ : ∃ rr, rr = X % Y := ⟨_, rfl⟩
  have hqb := q_bounds he hn
  rw [ex2, ← hX, ← hY, ← hq] at hqb
  rw [ex2]
  have hY0 : 0 < Y := by rw [hY]; exact sY_pos u x
  have xb : -800 ≤ x ∧ x ≤ 800 := by omega
  have CS : Hid (∀ W, Below w.heap.size w W → Calls Tryz.prog 54 #[.agg #[.bool false, .slice aa la ac], .agg #[.bool false, .slice ba lb bc], .int .i64 (-x)] W (Big2 X Y W)) := Lib.hid (fun W hW => by
    have := Tryz.scaled (.slice aa la ac) (.slice ba lb bc) (rA r u) (rB u) la lb (-x) W (Lib.hid (ha.out.below hW)) (Lib.hid (hb.out.below hW)) ta tb hla hlb (by omega) (by omega)
    rw [show (-(-x)).toNat = x.toNat by omega] at this
    rw [hX, hY]
    exact this)
  have CQ : Hid (∀ W xa xm xc ya ym yc, T2 X xm → BtV W (.slice xa xm xc) X xm → T2 Y ym → BtV W (.slice ya ym yc) Y ym → Calls Tryz.prog 104 #[.agg #[.bool false, .slice xa xm xc], .agg #[.bool false, .slice ya ym yc]] W (QuoSays X Y W)) := Lib.hid (fun W xa xm xc ya ym yc h1 h2 h3 h4 => by
    have b1 := bits_of h1 hX2
    have b2 := bits_of h3 hY2
    have x0 : xm ≠ 0 := by
      intro h0
      have := h1.zero_iff.1 h0
      rw [this, Nat.zero_div] at hq
      have := Nat.pow_pos (n := n - 1) (show 0 < 10 by decide)
      omega
    exact Tryz.rquo _ _ X Y xm ym W (Lib.hid h2) (Lib.hid h4) h3 (by omega) hY0 (by omega) (by omega))
  have HQ := Lib.hid (And.intro hq hrr)
  have HXY := Lib.hid (And.intro hX hY)
  have HH := Lib.hid h
  have HE := Lib.hid he
  have HQB := Lib.hid hqb
  have HXB := Lib.hid hX2
  have HYB := Lib.hid hY2
  have HY0 := Lib.hid hY0
  clear hx hX hY hX2 hY2 hq hrr h he hqb hY0 ta tb
  go_enter Tryz.func56, Tryz.ntmps56
  go_upto_region 1 with fail
  generalize hW : (w.alloc _).alloc _ = W1
  have bl : Below w.heap.size w W1 := by subst hW; exact ((Below.refl _ _).alloc (nR _) _).alloc (by simp) _
  have ce0 : Ce W1 w.heap.size (.bool false) (.slice aa la ac) := by subst hW; exact (Ce.new w _ _).below ((Below.refl _ _).alloc (nR _) _)
  have ce1 : Ce W1 (w.heap.size+1) (.bool false) (.slice ba lb bc) := by
    subst hW
    have h := Ce.new (w.alloc (.cells #[.bool false, .slice aa la ac] 65)) (.bool false) (.slice ba lb bc)
    rw [show (w.alloc (.cells #[.bool false, .slice aa la ac] 65)).heap.size = w.heap.size + 1 by simp] at h
    exact h
  clear hW
  have c0 := ce0.c0
  have c1 := ce0.c1
  have d0 := ce1.c0
  have d1 := ce1.c1
  have BL := Lib.hid bl
  clear ce0 ce1 bl
  go_upto_region 2 with (go_at_call 54; (with_reducible refine (CS.out _ BL.out).mono ?_); rintro e' W2 ⟨⟨xa, xm, xc, ya, ym, yc, rfl, hx1, hx2, hy1, hy2, b2⟩⟩)
  have bw2 := BL.out.trans (b2.mono BL.out.size)
  clear b2 BL c0 c1 d0 d1 W1
  generalize hWa : (W2.alloc _).alloc _ = W3
  have b3 : Below W2.heap.size W2 W3 := by subst hWa; exact ((Below.refl _ _).alloc (nR _) _).alloc (by simp) _
  have ce3 : Ce W3 W2.heap.size (.bool false) (.slice xa xm xc) := by subst hWa; exact (Ce.new W2 _ _).below ((Below.refl _ _).alloc (nR _) _)
  have ce4 : Ce W3 (W2.heap.size+1) (.bool false) (.slice ya ym yc) := by
    subst hWa
    have h := Ce.new (W2.alloc (.cells #[.bool false, .slice xa xm xc] 65)) (.bool false) (.slice ya ym yc)
    rw [show (W2.alloc (.cells #[.bool false, .slice xa xm xc] 65)).heap.size = W2.heap.size + 1 by simp] at h
    exact h
  have hy3 := hy2.below b3
  have CQ2 := Lib.hid (CQ.out W3 xa xm xc ya ym yc hx1 (hx2.below b3) hy1 hy3)
  have bw3 := bw2.trans (b3.mono bw2.size)
  clear hWa CQ CS b3 hx1 hx2 hy2
  have c0 := ce3.c0
  have c1 := ce3.c1
  have d0 := ce4.c0
  have d1 := ce4.c1
  have BW := Lib.hid bw3
  have HY3 := Lib.hid hy3
  have HY1 := Lib.hid hy1
  have CE4 := Lib.hid ce4
  clear bw2 bw3 hy3 hy1 ce3 ce4 ha hb
  go_upto_region 3 with (go_at_call 104; (with_reducible refine CQ2.out.mono ?_); rintro e' W4 ⟨qa, qm, qc, ra, rm, rc, rfl, hq1, hq2, hr1, hr2, b4⟩)
  have hq1' : T2 q qm := by rw [HQ.out.1]; exact hq1
  have hq2' : BtV W4 (.slice qa qm qc) q qm := by rw [HQ.out.1]; exact hq2
  have hr1' : T2 rr rm := by rw [HQ.out.2]; exact hr1
  have hr2' : BtV W4 (.slice ra rm rc) rr rm := by rw [HQ.out.2]; exact hr2
  generalize hWa : (W4.alloc _).alloc _ = W5
  have b5 : Below W4.heap.size W4 W5 := by subst hWa; exact ((Below.refl _ _).alloc (nR _) _).alloc (by simp) _
  have ce5 : Ce W5 W4.heap.size (.bool false) (.slice qa qm qc) := by subst hWa; exact (Ce.new W4 _ _).below ((Below.refl _ _).alloc (nR _) _)
  have ce6 : Ce W5 (W4.heap.size+1) (.bool false) (.slice ra rm rc) := by
    subst hWa
    have h := Ce.new (W4.alloc (.cells #[.bool false, .slice qa qm qc] 65)) (.bool false) (.slice ra rm rc)
    rw [show (W4.alloc (.cells #[.bool false, .slice qa qm qc] 65)).heap.size = W4.heap.size + 1 by simp] at h
    exact h
  have bw4 := BW.out.trans (b4.mono BW.out.size)
  have G5 : Hid (Dg w W5 (W2.heap.size+1) W4.heap.size (W4.heap.size+1) ya qa ra ym yc qm qc rm rc Y q rr) := Lib.hid ⟨bw4.trans (b5.mono bw4.size), (CE4.out.below b4).below b5, ce5, ce6, (HY3.out.below b4).below b5, hq2'.below b5, hr2'.below b5⟩
  have HT := Lib.hid (And.intro hq1' hr1')
  clear hWa hq1 hq2 hr1 hr2 hq1' hq2' hr1' hr2' b4 b5 ce5 ce6 bw4 CQ2 CE4 HY3 BW c0 c1 d0 d1
  obtain ⟨px, hpx⟩ : ∃ p, p = W2.heap.size := ⟨_, rfl⟩
  obtain ⟨py, hpy⟩ : ∃ p, p = px + 1 := ⟨_, rfl⟩
  obtain ⟨pq, hpq⟩ : ∃ p, p = W4.heap.size := ⟨_, rfl⟩
  obtain ⟨pr, hpr⟩ : ∃ p, p = pq + 1 := ⟨_, rfl⟩
  rw [← hpx, ← hpy, ← hpq, ← hpr] at G5 ⊢
  clear hpx hpy hpr hpq W2 W3 W4
  have e0 := G5.out.cq.c0
  have e1 := G5.out.cq.c1
  have e2 := G5.out.cq.lt
  have e3 : pq ≠ W5.heap.size := Nat.ne_of_lt e2
  have CU : Hid (∀ W, Dg w W py pq pr ya qa ra ym yc qm qc rm rc Y q rr → Calls Tryz.prog 25 #[.int .i64 1] W fun e W' => ∃ a m c, e = .returned (.agg #[.bool false, .slice a m c]) ∧ T2 1 m ∧ BtV W' (.slice a m c) 1 m ∧ Dg w W' py pq pr ya qa ra ym yc qm qc rm rc Y q rr ∧ Below W.heap.size W W') := Lib.hid (fun W h => by
    refine (Tryz.rsmall1 W).mono ?_
    rintro e W' ⟨⟨a, m, c, rfl, h1, h2, h3⟩⟩
    exact ⟨a, m, c, rfl, h1, h2, h.next h3, h3⟩)
  have QM : Hid (qm ≤ 6000) := Lib.hid (by
    have := bits_of HT.out.1 (Nat.lt_of_le_of_lt (by rw [HQ.out.1]; exact Nat.div_le_self _ _) HXB.out)
    omega)
  have CA : Hid (∀ W a m c, T2 1 m → BtV W (.slice a m c) 1 m → Dg w W py pq pr ya qa ra ym yc qm qc rm rc Y q rr → Calls Tryz.prog 101 #[.agg #[.bool false, .slice qa qm qc], .agg #[.bool false, .slice a m c]] W fun e W' => ∃ a m c, e = .returned (.agg #[.bool false, .slice a m c]) ∧ T2 (q+1) m ∧ BtV W' (.slice a m c) (q+1) m ∧ Dg w W' py pq pr ya qa ra ym yc qm qc rm rc Y q rr ∧ Below W.heap.size W W') := Lib.hid (fun W a m c h1 h2 h3 => by
    have hm : m ≤ 4 := bits_of h1 (by decide)
    have := QM.out
    refine (Tryz.rsumBoth _ _ q 1 qm m W (Lib.hid h3.bq) (Lib.hid h2) (by omega) (by omega)).mono ?_
    rintro e W' ⟨⟨a, m, c, rfl, h4, h5, h6⟩⟩
    exact ⟨a, m, c, rfl, h4, h5, h3.next h6, h6⟩)
  go_cut [17] from 18 (fun v17 wx => ∃ pu ua um uc, v17 = .pointer (some ⟨pu, 0, none⟩) ∧ Ce wx pu (.bool false) (.slice ua um uc) ∧ BtV wx (.slice ua um uc) (q+1) um ∧ T2 (q+1) um ∧ Dg w wx py pq pr ya qa ra ym yc qm qc rm rc Y q rr)
  case first =>
    go_region_law (first
      | (refine step_call (by rfl) 25 _ _ (by rfl) _ (by rfl) Tryz.enter25 ((CU.out _ (by first | exact G5.out.hp (hp_drewN _ _) | exact G5.out.hp (hp_drew _) | exact (G5.out.hp (hp_drew _)).al _ | exact (G5.out.hp (hp_drewN _ _)).al _)).mono ?_); rintro e' W6 ⟨oa, om, oc, rfl, ho1, ho2, g6, b6⟩; refine ⟨_, rfl, ?_⟩; have z0 := g6.cq.c0; have z1 := g6.cq.c1; have z2 := g6.cq.lt; have z3 : pq ≠ W6.heap.size := Nat.ne_of_lt z2; (try (have tk6 : Tok W6 W5.heap.size := Tok.below (w := (W5.alloc (.cells #[.bool false, .slice none 0 0] 65)).drew) ⟨(Tok.new1 W5).h⟩ b6; have k0 := tk6.c0; have k1 := tk6.c1; have k2 := tk6.f 0; have k3 := tk6.f 1)))
      | (refine step_call (by rfl) 101 _ _ (by rfl) _ (by rfl) Tryz.enter101 ((CA.out _ _ _ _ ho1 (by first | exact ho2 | exact ho2.al _) (by first | exact g6 | exact g6.al _)).mono ?_); rintro e' W7 ⟨ua, um, uc, rfl, hu1, hu2, g7, b7⟩; refine ⟨_, rfl, ?_⟩; (try (have tk7 := tk6.below b7; have l0 := tk7.c0; have l1 := tk7.c1; have l2 := tk7.f 0; have l3 := tk7.f 1)); (try (have tk7 := (Tok.new1 _).below b7; have l0 := tk7.c0; have l1 := tk7.c1; have l2 := tk7.f 0; have l3 := tk7.f 1))))
    all_goals (go_wp2; go_meet)
    all_goals first
      | exact ⟨_, ua, um, uc, rfl, Ce.new W7 _ _, hu2.al _, hu1, g7.al _⟩
      | exact ⟨_, ua, um, uc, rfl, tk7.ce.set _ _, hu2.tok tk7 _ _, hu1, g7.tok tk7 g6.room _ _⟩
      | exact ⟨_, ua, um, uc, rfl, tk7.ce.set _ _, hu2.tok tk7 _ _, hu1, g7.tok tk7 G5.out.room _ _⟩
  case rest =>
  obtain ⟨pu, ua, um, uc, rfl, k1, k2, hu1, k3⟩ := hcut
  have D6 : Hid (Dh w wc py pq pr ya qa ra ym yc qm qc rm rc Y q rr pu ua um uc) := Lib.hid ⟨k3, k1, k2⟩
  have HU1 := Lib.hid hu1
  clear k1 k2 k3 hu1 CU CA G5 e0 e1 e2 e3 W5
  obtain ⟨lo, hlo⟩ : ∃ lo, lo = loB q x := ⟨_, rfl⟩
  obtain ⟨hi, hhi⟩ : ∃ hi, hi = loB (q+1) x := ⟨_, rfl⟩
  obtain ⟨okl, hokl⟩ : ∃ o, o = decide (fltB q x < infB) := ⟨_, rfl⟩
  obtain ⟨okh, hokh⟩ : ∃ o, o = decide (fltB (q+1) x < infB) := ⟨_, rfl⟩
  have hq400 : Hid (q + 1 < 10 ^ 400) := Lib.hid (by
    obtain ⟨k, hk⟩ : ∃ k : Nat, k = 400 := ⟨_, rfl⟩
    rw [← hk]
    have h1 := HQB.out.2
    have h2 : 10 ^ n * 10 ≤ 10 ^ k := by
      rw [← Nat.pow_succ]
      exact Nat.pow_le_pow_right (by decide) (by omega)
    omega)
  have lo64 : lo < 18446744073709551616 := by rw [hlo]; unfold loB infB; split <;> omega
  have hi64 : hi < 18446744073709551616 := by rw [hhi]; unfold loB infB; split <;> omega
  have CD1 : Hid (∀ W, Dh w W py pq pr ya qa ra ym yc qm qc rm rc Y q rr pu ua um uc → Calls Tryz.prog 105 #[.agg #[.bool false, .slice qa qm qc], .int .i64 x] W fun e W' => e = .returned (.tuple #[.int .u64 lo, .bool okl]) ∧ Dh w W' py pq pr ya qa ra ym yc qm qc rm rc Y q rr pu ua um uc) := Lib.hid (fun W h => by
    refine (Tryz.rdecimal (.slice qa qm qc) q qm x W h.g.bq HT.out.1 (Lib.hid (Nat.lt_trans (Nat.lt_succ_self q) hq400.out)) (by omega) (by omega)).mono ?_
    rintro e W' ⟨rfl, hb⟩
    refine ⟨?_, h.next hb⟩
    rw [hlo, hokl]
    rfl)
  have CD2 : Hid (∀ W, Dh w W py pq pr ya qa ra ym yc qm qc rm rc Y q rr pu ua um uc → Calls Tryz.prog 105 #[.agg #[.bool false, .slice ua um uc], .int .i64 x] W fun e W' => e = .returned (.tuple #[.int .u64 hi, .bool okh]) ∧ Dh w W' py pq pr ya qa ra ym yc qm qc rm rc Y q rr pu ua um uc) := Lib.hid (fun W h => by
    refine (Tryz.rdecimal (.slice ua um uc) (q+1) um x W h.bu HU1.out hq400 (by omega) (by omega)).mono ?_
    rintro e W' ⟨rfl, hb⟩
    refine ⟨?_, h.next hb⟩
    rw [hhi, hokh]
    rfl)
  have HLO := Lib.hid (And.intro hlo hhi)
  have HOK := Lib.hid hokh
  clear hlo hhi hokl hokh hq400
  have e0 := D6.out.g.cq.c0
  have e1 := D6.out.g.cq.c1
  go_upto_region 5 with (go_at_call 105; (with_reducible refine (CD1.out _ D6.out).mono ?_); rintro e' W7 ⟨rfl, d7⟩)
  have D7 := Lib.hid d7
  clear d7 D6 e0 e1 wc
  have e0 := D7.out.cu.c0
  have e1 := D7.out.cu.c1
  go_upto_region 6 with (go_at_call 105; (with_reducible refine (CD2.out _ D7.out).mono ?_); rintro e' W8 ⟨rfl, d8⟩)
  have D8 := Lib.hid d8
  clear d8 D7 e0 e1 W7 CD1 CD2
  obtain ⟨c, hc⟩ : ∃ c : Int, c = (if rr * 2 ^ 1 < Y then -1 else if rr * 2 ^ 1 = Y then 0 else 1) := ⟨_, rfl⟩
  have HC := Lib.hid hc
  have YM : Hid (ym ≤ 6000) := Lib.hid (by have := bits_of HY1.out HYB.out; omega)
  have RM : Hid (rm ≤ 6000) := Lib.hid (by
    have h1 : rr < 2 ^ (1074 - u + 1 + (4 * x.toNat + 1)) := Nat.lt_trans (by rw [HQ.out.2]; exact Nat.mod_lt _ HY0.out) HYB.out
    have := bits_of HT.out.2 h1
    omega)
  have e0 := D8.out.g.cr.c0
  have e1 := D8.out.g.cr.c1
  have f0 := D8.out.g.cy.c0
  have f1 := D8.out.g.cy.c1
  have CSH : Hid (∀ W, Hp W8 W → Calls Tryz.prog 98 #[.agg #[.bool false, .slice ra rm rc], .int .i64 1] W fun e W' => ∃ a m c, e = .returned (.agg #[.bool false, .slice a m c]) ∧ T2 (rr * 2 ^ 1) m ∧ BtV W' (.slice a m c) (rr * 2 ^ 1) m ∧ Dh w W' py pq pr ya qa ra ym yc qm qc rm rc Y q rr pu ua um uc) := Lib.hid (fun W h => by
    have d := D8.out.next h.below
    have := RM.out
    refine ((Tryz.rshift (.slice ra rm rc) rr rm 1 W (Lib.hid d.g.br) (by omega) (by omega)).mono fun _ _ h => h.one).mono ?_
    rintro e W' ⟨⟨a, m, c, rfl, h1, h2, h3⟩⟩
    exact ⟨a, m, c, rfl, h1, h2, d.next h3⟩)
  have CCM : Hid (∀ W a m k, T2 (rr * 2 ^ 1) m → BtV W (.slice a m k) (rr * 2 ^ 1) m → Dh w W py pq pr ya qa ra ym yc qm qc rm rc Y q rr pu ua um uc → Calls Tryz.prog 55 #[.agg #[.bool false, .slice a m k], .agg #[.bool false, .slice ya ym yc]] W fun e W' => e = .returned (.int .i64 c) ∧ Dh w W' py pq pr ya qa ra ym yc qm qc rm rc Y q rr pu ua um uc) := Lib.hid (fun W a m k h1 h2 h3 => by
    have hm : m ≤ 7000 := by
      have h4 : rr * 2 ^ 1 < 2 ^ (1074 - u + 1 + (4 * x.toNat + 1) + 1) := by
        have ep : 2 ^ (1074 - u + 1 + (4 * x.toNat + 1) + 1) = 2 ^ (1074 - u + 1 + (4 * x.toNat + 1)) * 2 := Nat.pow_succ _ _
        rw [show (2 : Nat) ^ 1 = 2 by decide, ep]
        exact Nat.mul_lt_mul_of_pos_right (Nat.lt_trans (by rw [HQ.out.2]; exact Nat.mod_lt _ HY0.out) HYB.out) (by decide)
      have := bits_of h1 h4
      omega
    have := YM.out
    refine (Tryz.rcmp _ _ _ Y m ym W (Lib.hid h2) (Lib.hid h3.g.by_) h1 HY1.out (by omega) (by omega)).mono ?_
    rintro e W' ⟨rfl, hb⟩
    exact ⟨by rw [HC.out], h3.next hb⟩)
  clear hc
  go_cut [22] from 23 (fun v22 wx => v22 = .int .i64 c ∧ Dh w wx py pq pr ya qa ra ym yc qm qc rm rc Y q rr pu ua um uc)
  case first =>
    go_region_law (first
      | (refine step_call (by rfl) 98 _ _ (by rfl) _ (by rfl) Tryz.enter98 ((CSH.out _ (by first | exact hp_drewN _ _ | exact hp_drew _ | exact ⟨rfl, rfl, rfl, rfl⟩)).mono ?_); rintro e' W9 ⟨oa, om, oc, rfl, ho1, ho2, g9⟩; refine ⟨_, rfl, ?_⟩; have z0 := g9.g.cy.c0; have z1 := g9.g.cy.c1)
      | (refine step_call (by rfl) 55 _ _ (by rfl) _ (by rfl) Tryz.enter55 ((CCM.out _ _ _ _ ho1 ho2 g9).mono ?_); rintro e' W10 ⟨rfl, g10⟩; refine ⟨_, rfl, ?_⟩))
    all_goals (go_wp2; go_meet)
    all_goals exact ⟨rfl, g10⟩
  case rest =>
  obtain ⟨rfl, d10⟩ := hcut
  have D := Lib.hid d10
  clear d10 D8 e0 e1 f0 f1 W8 CSH CCM
  have q1 : 1 ≤ q := by have := HQB.out.1; have := Nat.pow_pos (n := n - 1) (show 0 < 10 by decide); omega
  have hqm : qm ≠ 0 := by
    intro h0
    have := HT.out.1.zero_iff.1 h0
    omega
  obtain ⟨g2, o2, hga, hcell⟩ := D.out.g.bq.cellAt (j := 0) (by omega)
  rw [Nat.add_zero] at hcell
  obtain ⟨bt, hbt⟩ : ∃ bt, bt = bit2 q 0 := ⟨_, rfl⟩
  rw [← hbt] at hcell
  have bt2 : bt < 2 := by rw [hbt]; exact bit2_lt _ _
  have HBT : Hid (bt = q % 2) := Lib.hid (by rw [hbt]; unfold bit2; rw [Nat.pow_zero, Nat.div_one])
  subst hga
  clear hbt
  have QM0 : Hid (0 < qm) := Lib.hid (by omega)
  have qmi : decide ((0 : Int) < (qm : Int)) = true := decide_eq_true (by omega)
  have qmn : decide (0 < qm) = true := decide_eq_true (by omega)
  have qmp : 0 < qm := by omega
  clear q1 hqm
  obtain ⟨B7, hB7⟩ : ∃ B : Bool, B = decide (c = 0 ∧ bt = 1) := ⟨_, rfl⟩
  have HB7 := Lib.hid hB7
  have e0 := D.out.g.cq.c0
  have e1 := D.out.g.cq.c1
  clear hB7
  obtain ⟨W0, hW0⟩ : ∃ W0 : World, W0 = wc := ⟨_, rfl⟩
  rw [← hW0] at D hcell e0 e1 ⊢
  clear hW0
  go_upto_region 7 with fail
  go_cut [81] from 26 to 82 (fun v wx => v = .bool B7 ∧ W0 = wx)
  case first =>
    by_cases h0 : c = 0
    · subst h0
      by_cases h1 : bt = 1
      · subst h1
        have : B7 = true := by rw [HB7.out]; rfl
        subst this
        go_wp2
        go_meet
        exact ⟨rfl, rfl⟩
      · have t1 : ((bt : Int) == 1) = false := eqf (n := 1) h1
        have : B7 = false := by rw [HB7.out]; exact decide_eq_false (fun h => h1 h.2)
        subst this
        clear h1
        go_wp2
        go_meet
        exact ⟨rfl, rfl⟩
    · have t1 : (c == 0) = false := beq_false_of_ne h0
      have : B7 = false := by rw [HB7.out]; exact decide_eq_false (fun h => h0 h.1)
      subst this
      clear h0
      go_wp2
      go_meet
      exact ⟨rfl, rfl⟩
  case rest =>
  obtain ⟨rfl, rfl⟩ := hcut
  clear e0 e1 hcell qmi qmn qmp
  obtain ⟨c2, hc2⟩ : ∃ c2 : Int, c2 = (if B7 = true then 1 else c) := ⟨_, rfl⟩
  have HC2 := Lib.hid hc2
  clear hc2
  go_upto_if 81 with fail
  go_cut [22] from 26 (fun v wx => v = .int .i64 c2 ∧ W0 = wx)
  case first =>
    cases B7 with
    | true =>
      have : c2 = 1 := by rw [HC2.out]; rfl
      subst this
      go_wp2
      go_meet
      exact ⟨rfl, rfl⟩
    | false =>
      have : c2 = c := by rw [HC2.out]; rfl
      subst this
      go_wp2
      go_meet
      exact ⟨rfl, rfl⟩
  case rest =>
  obtain ⟨rfl, rfl⟩ := hcut
  obtain ⟨one, h1⟩ : ∃ o : Bool, o = decide (lo = b) := ⟨_, rfl⟩
  obtain ⟨two, h2⟩ : ∃ o : Bool, o = (okh && decide (hi = b)) := ⟨_, rfl⟩
  have H1 := Lib.hid h1
  have H2 := Lib.hid h2
  clear h1 h2
  go_upto_region 9 with fail
  go_cut [23] from 26 (fun v wx => v = .bool one ∧ W0 = wx)
  case first =>
    by_cases h0 : lo = b
    · have t1 : ((lo : Int) == (b : Int)) = true := beq_of_eq (by omega)
      have : one = true := by rw [H1.out]; exact decide_eq_true h0
      subst this
      clear h0
      go_wp2
      go_meet
      exact ⟨rfl, rfl⟩
    · have t1 : ((lo : Int) == (b : Int)) = false := beq_of_ne (by omega)
      have : one = false := by rw [H1.out]; exact decide_eq_false h0
      subst this
      clear h0
      go_wp2
      go_meet
      exact ⟨rfl, rfl⟩
  case rest =>
  obtain ⟨rfl, rfl⟩ := hcut
  go_upto_region 10 with fail
  go_cut [24] from 26 (fun v wx => v = .bool two ∧ W0 = wx)
  case first =>
    by_cases h0 : hi = b
    · have t1 : ((hi : Int) == (b : Int)) = true := beq_of_eq (by omega)
      have : two = okh := by rw [H2.out, decide_eq_true h0, Bool.and_true]
      subst this
      clear h0
      cases two
      all_goals
        go_wp2
        go_meet
        exact ⟨rfl, rfl⟩
    · have t1 : ((hi : Int) == (b : Int)) = false := beq_of_ne (by omega)
      have : two = false := by rw [H2.out, decide_eq_false h0, Bool.and_false]
      subst this
      clear h0
      cases okh
      all_goals
        go_wp2
        go_meet
        exact ⟨rfl, rfl⟩
  case rest =>
  obtain ⟨rfl, rfl⟩ := hcut
  obtain ⟨CC, hCC⟩ : ∃ o : Bool, o = (one && (decide (c2 ≤ 0) || !two)) := ⟨_, rfl⟩
  have HCC := Lib.hid hCC
  clear hCC
  have R1 : one = true ↔ rdOk b q x := by
    rw [H1.out, decide_eq_true_eq, HLO.out.1, lo_rd (by have := HH.out.eq; have := HH.out.r0; omega) HH.out.inf]
  have R2 : two = true ↔ rdOk b (q + 1) x := by
    rw [H2.out, HOK.out, Bool.and_eq_true, decide_eq_true_eq, decide_eq_true_eq, HLO.out.2, hi_rd (by have := HH.out.eq; have := HH.out.r0; omega) HH.out.inf]
  have R3 : c2 ≤ 0 ↔ rne X Y = q := by
    rw [HQ.out.1, rne_near X Y HY0.out, ← HQ.out.1, ← HQ.out.2, HC2.out, HB7.out, HC.out, HBT.out]
    rw [show (2 : Nat) ^ 1 = 2 by decide]
    simp only [decide_eq_true_eq]
    have := HY0.out
    split <;> split at * <;> (try split at *) <;> omega
  have HQX : sX r u x / sY u x = q := by rw [← HXY.out.1, ← HXY.out.2, HQ.out.1]
  have HNE : rne (sX r u x) (sY u x) = q ↔ c2 ≤ 0 := by rw [← HXY.out.1, ← HXY.out.2]; exact R3.symm
  have RK : (rdOk b (sX r u x / sY u x) x ∧ (rne (sX r u x) (sY u x) = sX r u x / sY u x ∨ ¬ rdOk b (sX r u x / sY u x + 1) x)) ↔ CC = true := by
    rw [HQX, HCC.out, ← R1, ← R2, HNE, Bool.and_eq_true, Bool.or_eq_true, decide_eq_true_eq, Bool.not_eq_true', Bool.not_eq_true]
  have RD : dDig b r u x = if CC = true then q else q + 1 := by
    unfold dDig
    by_cases h : CC = true
    · rw [if_pos (RK.2 h), if_pos h, HQX]
    · rw [if_neg (fun k => h (RK.1 k)), if_neg h, HQX]
  have RE : rdEx b x ↔ one = true ∨ two = true := by rw [HH.out.near, HQX, R1, R2]
  have RQ : Lib.nDigits q = n := nDigits_of hn HQB.out.1 HQB.out.2
  have HRD := Lib.hid RD
  have HRE := Lib.hid RE
  have HRQ := Lib.hid RQ
  clear R1 R2 R3 HQX HNE RK RD RE RQ
  go_upto_region 11 with fail
  go_cut [99] from 26 to 100 (fun v wx => v = .bool CC ∧ W0 = wx)
  case first =>
    by_cases h0 : c2 ≤ 0
    · have t1 : decide (c2 ≤ 0) = true := decide_eq_true h0
      have hcc : CC = one := by rw [HCC.out, t1, Bool.true_or, Bool.and_true]
      subst hcc
      cases CC <;> cases two
      all_goals
        go_wp2
        go_meet
        exact ⟨rfl, rfl⟩
    · have t1 : decide (c2 ≤ 0) = false := decide_eq_false h0
      have hcc : CC = (one && !two) := by rw [HCC.out, t1, Bool.false_or]
      subst hcc
      cases one <;> cases two
      all_goals
        go_wp2
        go_meet
        exact ⟨rfl, rfl⟩
  case rest =>
  obtain ⟨rfl, rfl⟩ := hcut
  have TXT : ∀ z : Nat, ∀ e' W', RTextSays 10 z W0 e' W' → e' = .returned (.string ⟨(Lib.decDigits z).toArray⟩) ∧ Below W0.heap.size W0 W' := by
    rintro z e' W' ⟨t, rfl, h1, h2⟩
    refine ⟨?_, h2⟩
    congr 2
    apply ByteArray.ext
    apply Array.toList_inj.1
    rw [h1, dec_num]
  have hL : ∀ z, (Lib.decDigits z).length = Lib.nDigits z := Lib.decDigits_length
  cases CC with
  | true =>
    have e0 := D.out.g.cq.c0
    have e1 := D.out.g.cq.c1
    have CT : Hid (Calls Tryz.prog 24 #[.agg #[.bool false, .slice (some ⟨g2, o2, none⟩) qm qc], .int .i64 10] W0 fun e' W' => e' = .returned (.string ⟨(Lib.decDigits q).toArray⟩) ∧ Below W0.heap.size W0 W') := Lib.hid ((Tryz.rtext (.slice (some ⟨g2, o2, none⟩) qm qc) q qm 10 W0 (by have := QM.out; omega) (by omega) (by omega) (Lib.hid D.out.g.bq) HT.out.1).mono (fun e' W' h => TXT q e' W' h))
    have HF : Hid (∀ W', Below W0.heap.size W0 W' → DgEnd (dDig b r u x) (e + Lib.nDigits (dDig b r u x) - n) (rdEx b x) w (.returned (.tuple #[.string ⟨(Lib.decDigits q).toArray⟩, .int .i64 e, .bool true])) W') := Lib.hid (fun W' h => by
      have h1 := HRD.out
      rw [if_pos rfl] at h1
      rw [h1, HRQ.out]
      refine ⟨⟨true, ?_, ?_, D.out.g.bl.trans (h.mono D.out.g.bl.size)⟩⟩
      · rw [show e + (n : Int) - n = e by omega]
      · have h2 := HCC.out
        simp only [Bool.true_eq, Bool.and_eq_true] at h2
        exact ⟨fun _ => HRE.out.2 (.inl h2.1), fun _ => rfl⟩)
    clear hL TXT
    go_wp2_with (go_at_call 24; (with_reducible refine CT.out.mono ?_); rintro e' W1 ⟨rfl, hb⟩)
    go_ret3
    exact HF.out _ hb
  | false =>
    have e0 := D.out.cu.c0
    have e1 := D.out.cu.c1
    have hum : um ≤ 1000000 := by
      have h1 : q + 1 < 2 ^ (4 * n + 1 + 1) := by
        have h2 := ten_lt n
        have h3 := HQB.out.2
        have e3 : 2 ^ (4 * n + 1 + 1) = 2 ^ (4 * n + 1) * 2 := Nat.pow_succ _ _
        omega
      have := bits_of HU1.out h1
      omega
    have CT : Hid (Calls Tryz.prog 24 #[.agg #[.bool false, .slice ua um uc], .int .i64 10] W0 fun e' W' => e' = .returned (.string ⟨(Lib.decDigits (q+1)).toArray⟩) ∧ Below W0.heap.size W0 W') := Lib.hid ((Tryz.rtext (.slice ua um uc) (q+1) um 10 W0 hum (by omega) (by omega) (Lib.hid D.out.bu) HU1.out).mono (fun e' W' h => TXT (q+1) e' W' h))
    obtain ⟨L, hLq⟩ : ∃ L, L = Lib.nDigits (q+1) := ⟨_, rfl⟩
    have hLn : ((Lib.decDigits (q+1)).length : Int) = (L : Int) := by rw [hL, hLq]
    have hL20 : L ≤ 18 := by
      have h3 := HQB.out.2
      have h4 : 10 ^ n ≤ 10 ^ 17 := Nat.pow_le_pow_right (by decide) hn2
      have e17 : (10 : Nat) ^ 17 = 100000000000000000 := by decide
      rw [hLq]
      apply Nat.le_of_not_lt
      intro hge
      have hp : 10 ^ 18 ≤ q + 1 := by
        have key : ∀ k V : Nat, k + 1 ≤ Lib.nDigits V → 1 ≤ V → 10 ^ k ≤ V := by
          intro k
          induction k with
          | zero => intro V _ h; exact h
          | succ k ih =>
            intro V h h0
            by_cases h9 : V < 10
            · rw [Lib.nDigits_small h9] at h; omega
            · rw [Lib.nDigits_big h9] at h
              have := ih (V / 10) (by omega) (by omega)
              have ep : 10 ^ (k + 1) = 10 ^ k * 10 := Nat.pow_succ _ _
              omega
        exact key 18 (q+1) hge (by omega)
      have e18 : (10 : Nat) ^ 18 = 1000000000000000000 := by decide
      omega
    have HF : Hid (∀ W', Below W0.heap.size W0 W' → DgEnd (dDig b r u x) (e + Lib.nDigits (dDig b r u x) - n) (rdEx b x) w (.returned (.tuple #[.string ⟨(Lib.decDigits (q+1)).toArray⟩, .int .i64 (e + L - n), .bool two])) W') := Lib.hid (fun W' h => by
      have h1 := HRD.out
      rw [if_neg (by decide)] at h1
      rw [h1, ← hLq]
      refine ⟨⟨two, rfl, ?_, D.out.g.bl.trans (h.mono D.out.g.bl.size)⟩⟩
      have h2 := HCC.out
      constructor
      · exact fun h => HRE.out.2 (.inr h)
      · intro h
        rcases HRE.out.1 h with h3 | h3
        · rw [h3, Bool.true_and] at h2
          have := h2.symm
          rw [Bool.or_eq_false_iff] at this
          simpa using this.2
        · exact h3)
    clear hL TXT hLq
    go_wp2_with (go_at_call 24; (with_reducible refine CT.out.mono ?_); rintro e' W1 ⟨rfl, hb⟩)
    go_ret3
    exact HF.out _ hb
end Go.Proofs
