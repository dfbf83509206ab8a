import Derived.Test.YtpjcdbjablijkaaGreatDoorTan
import Derived.Test.YtpjcdbjablijkaaGreatDoorTah
import Derived.Test.YtpjcdbjablijkaaGreatDoorTaa
set_option linter.unusedSimpArgs false
set_option maxRecDepth 1000000
set_option maxHeartbeats 40000000
section
namespace Go.Proofs
theorem uu1 {α:Type _} {xs:List α} {i:Nat}(h:i<xs.toArray.size):xs.toArray[i]=xs[i]'(by simpa using h):=List.getElem_toArray h
theorem uu2 {α:Type _}(a:α) (l:List α) (i:Nat) (h:i+1<(a::l).length):(a::l)[i+1]=l[i]'(Nat.lt_of_succ_lt_succ h):=List.getElem_cons_succ ..
theorem uu3 {α:Type _}(a:α) (l:List α) (h:0<(a::l).length):(a::l)[0]=a:=List.getElem_cons_zero ..
theorem uu4 {α:Type _}(l:List α) (i:Nat) (a:α):l.toArray.setIfInBounds i a=(l.set i a).toArray:=List.setIfInBounds_toArray ..
theorem uu5 {α:Type _} {x a:α} {l:List α} :(x::l).set 0 a=a::l:=List.set_cons_zero ..
theorem uu6 {α:Type _} {x a:α} {l:List α} {i:Nat} :(x::l).set (i+1) a=x::l.set i a:=List.set_cons_succ ..
end Go.Proofs
namespace Go.Proofs
open Go.RowKit Go.Pf Go.Rb
structure Ce (w:World) (b:Nat) (u v:Value):Prop where
 h:w.heap[b]? =some (.cells #[u,v] 65 (0,0))
theorem Ce.below {w w':World} {b:Nat} {u v:Value}(h:Ce w b u v) (hb:Below w.heap.size w w'):Ce w' b u v:=⟨(hb.block b (Array.getElem?_eq_some_iff.1 h.h).1).trans h.h⟩
theorem Ce.c0 {w:World} {b:Nat} {u v:Value}(h:Ce w b u v):w.cell? ⟨b,0,none⟩=some u:=by rw[Lib.cell_of_heap h.h];rfl
theorem Ce.c1 {w:World} {b:Nat} {u v:Value}(h:Ce w b u v):w.cell? ⟨b,1,none⟩=some v:=by rw[Lib.cell_of_heap h.h];rfl
theorem Ce.f {w:World} {b:Nat} {u v:Value}(h:Ce w b u v) (i:Nat):w.frozen? ⟨b,i,none⟩=false:=Lib.frozen_of_heap h.h i
theorem Ce.lt {w:World} {b:Nat} {u v:Value}(h:Ce w b u v):b<w.heap.size:=(Array.getElem?_eq_some_iff.1 h.h).1
theorem Ce.new (w:World) (u v:Value):Ce (w.alloc (.cells #[u,v] 65)) w.heap.size u v:=⟨heap_alloc_new w _⟩
theorem Ce.other {w:World} {b:Nat} {u v:Value}(h:Ce w b u v){a:Addr}(hne:b≠a.block) (x:Value):Ce (w.setCell a x) b u v:=⟨(heap_setCell_other w a b x hne).trans h.h⟩
theorem Ce.set {w:World} {b:Nat} {u v:Value}(h:Ce w b u v) (u' v':Value):Ce ((w.setCell ⟨b,0,none⟩ u').setCell ⟨b,1,none⟩ v') b u' v':=by
 have h1:=heap_setCell_same w b 0 _ 65 u' h.h
 have h2:=heap_setCell_same _ b 1 _ 65 v' h1
 exact⟨h2⟩
theorem Tok.ce {w:World} {b:Nat}(h:Tok w b):Ce w b (.bool false) (.slice none 0 0):=⟨h.h⟩
theorem BtV.ce {w:World} {v:Value} {x m b:Nat} {p:Bool} {a:Option Addr} {n c:Nat}(h:BtV w v x m) (t:Ce w b (.bool p) (.slice a n c)) (u0 u1:Value):BtV ((w.setCell ⟨b,0,none⟩ u0).setCell ⟨b,1,none⟩ u1) v x m:=by
 refine(h.setCell t.c0 (by intro k n h;cases h) u0).setCell (a:=⟨b,1,none⟩) (u0:= .slice a n c) ?_ (by intro k n h;cases h) u1
 rw[World.cell?_setCell_other (h:=fun e=>by simp at e)]
 exact t.c1
structure Big1 (z:Nat) (w:World) (e:Ending) (w':World):Prop where
 ex:∃a m c,e= .returned (.agg #[.bool false,.slice a m c])∧T2 z m∧BtV w' (.slice a m c) z m∧Below w.heap.size w w'
theorem BigSays.one {z:Nat} {w:World} {e:Ending} {w':World}(h:BigSays false z w e w'):Big1 z w e w':=by
 obtain⟨sl,m,rfl,h1,h2,h3⟩:=h
 obtain⟨a,c,rfl⟩:=h2.slice
 exact⟨a,m,c,rfl,h1,h2,h3⟩
theorem ten_lt (n:Nat):10^n<2^(4*n+1):=by
 have h1:(10:Nat)^n≤16^n:=Nat.pow_le_pow_left (by decide) n
 have h2:(2:Nat)^(4*n+1)=16^n*2:=by rw[Nat.pow_succ,Nat.pow_mul]
 have h3:0<(16:Nat)^n:=Nat.pow_pos (by decide)
 omega
theorem ten_bits {n m:Nat}(h:T2 (10^n) m):m≤4*n+1:=T2.le h (ten_lt n) (nR _)
theorem Tryz.enter25 (vs:Array Value) (w:World):(callFunc 25 vs).run Tryz.prog w= .ok (.enter 25 vs) w:=by kernel_rfl
theorem Tryz.enter99 (vs:Array Value) (w:World):(callFunc 99 vs).run Tryz.prog w= .ok (.enter 99 vs) w:=by kernel_rfl
theorem Tryz.rsmall1 (w:World):Calls Tryz.prog 25 #[.int .i64 1] w (Big1 1 w):=(Tryz.rsmall 1 w (by decide)).mono fun _ _ h=>h.one
theorem Tryz.rsmall10 (w:World):Calls Tryz.prog 25 #[.int .i64 10] w (Big1 10 w):=(Tryz.rsmall 10 w (by decide)).mono fun _ _ h=>h.one
theorem Tryz.rtimes1 (va vb:Value) (x y la lb:Nat) (w:World) (ha:BtV w va x la) (hb:BtV w vb y lb) (hla:la≤1000000) (hlb:lb≤1000000):
 Calls Tryz.prog 99 #[.agg #[.bool false,va],.agg #[.bool false,vb]] w (Big1 (x*y) w):=(Tryz.rtimes va vb x y la lb w (Hi ha) (Hi hb) hla hlb).mono fun _ _ h=>h.one
theorem Tryz.rten (n:Nat):∀w:World,n≤10000→Calls Tryz.prog 155 #[.int .i64 n] w (Big1 (10^n) w):=by
 induction n using Nat.strongRecOn with
 |ind n ih=>
  intro w hn
  obtain⟨y,hy⟩:∃y,y=10^n:=⟨_,rfl⟩
  rw[←hy]
  rcases Nat.eq_zero_or_pos n with h0|h0
  ·subst h0
   rw[Nat.pow_zero]at hy
   subst hy
   have z0:((0:Nat):Int)=0:=rfl
   rw[z0]
   go_enter Tryz.func155,Tryz.ntmps155
   go_wp2_with fail
   generalize hW:w.alloc _=W1
   have tok:Tok W1 w.heap.size:=by subst hW;exact Tok.new1 w
   have bl:Below w.heap.size w W1:=by subst hW;exact(Below.refl _ _).alloc (nR _) _
   clear hW
   refine(Tryz.rsmall1 W1).mono ?_
   rintro e W2 ⟨⟨a,m,c,rfl,ht,hv,b2⟩⟩
   have t2:=tok.below b2
   have k0:=t2.c0
   have k1:=t2.c1
   have f0:=t2.f 0
   have f1:=t2.f 1
   have HV:=Hi (hv.tok t2 (.bool false) (.slice a m c))
   have HB:=Hi (bl.trans (b2.mono bl.size))
   clear hv b2 bl tok t2
   go_wp2
   refine bodyPost_ret (v:= .agg #[.bool false,.slice a m c]) ?_ rfl ⟨_,m,_,rfl,ht,HV.out,?_⟩
   ·simp only[results,Tryz.results155]
    go_simp
   ·iterate 2 refine Below.setCell ?_ (by simp only;omega) _
    exact HB.out
  ·obtain⟨h,hh⟩:∃h,h=n/2:=⟨_,rfl⟩
   obtain⟨r,hr⟩:∃r,r=n %2:=⟨_,rfl⟩
   have e2:(n:Int)/2=(h:Int):=by omega
   have e3:(n:Int) %2=(r:Int):=by omega
   have z1:((n:Int)==0)=false:=eqf (n:=0) (by omega)
   have hhn:h<n:=by omega
   have hr2:r=0∨r=1:=by omega
   have HY:Hid (y=10^h*10^h*10^r):=Hi (by
    rw[hy,←Nat.pow_add,←Nat.pow_add]
    congr 1
    omega)
   have IH:=Hi ih
   clear ih hy hh hr
   go_enter Tryz.func155,Tryz.ntmps155
   go_wp2_with fail
   generalize hW:w.alloc _=W1
   have tok:Tok W1 w.heap.size:=by subst hW;exact Tok.new1 w
   have bl:Below w.heap.size w W1:=by subst hW;exact(Below.refl _ _).alloc (nR _) _
   clear hW
   refine(IH.out h hhn W1 (by omega)).mono ?_
   rintro e W2 ⟨⟨a2,m2,c2,rfl,ht2,hv2,b2⟩⟩
   have tok2:=tok.below b2
   have bl2:=bl.trans (b2.mono bl.size)
   clear b2 tok bl
   go_wp2_with fail
   generalize hW:W2.alloc _=W3
   have tok3:Tok W3 w.heap.size:=by subst hW;exact tok2.below ((Below.refl _ _).alloc (nR _) _)
   have bl3:Below w.heap.size w W3:=by subst hW;exact Below.al bl2 _
   have hv3:BtV W3 (.slice a2 m2 c2) (10^h) m2:=by subst hW;exact hv2.below ((Below.refl _ _).alloc (nR _) _)
   have hm2:m2≤1000000:=by have:=ten_bits ht2;omega
   clear hW tok2 bl2 hv2
   refine(Tryz.rtimes1 _ _ _ _ _ _ W3 hv3 hv3 hm2 hm2).mono ?_
   rintro e W4 ⟨⟨a4,m4,c4,rfl,ht4,hv4,b4⟩⟩
   have tok4:=tok3.below b4
   have bl4:=bl3.trans (b4.mono bl3.size)
   clear b4 tok3 bl3 hv3
   obtain⟨z,hz⟩:∃z,z=10^h*10^h:=⟨_,rfl⟩
   rw[←hz]at ht4 hv4 HY
   have hm4:m4≤1000000:=by
    rw[hz,←Nat.pow_add]at ht4
    have:=ten_bits ht4
    omega
   have tok5:Tok (W4.alloc (.cells #[.bool false,.slice a4 m4 c4] 65)) w.heap.size:=tok4.below ((Below.refl _ _).alloc (nR _) _)
   have hv5:BtV (W4.alloc (.cells #[.bool false,.slice a4 m4 c4] 65)) (.slice a4 m4 c4) z m4:=hv4.below ((Below.refl _ _).alloc (nR _) _)
   have bl5:Below w.heap.size w (W4.alloc (.cells #[.bool false,.slice a4 m4 c4] 65)):=Below.al bl4 _
   have ce5:Ce (W4.alloc (.cells #[.bool false,.slice a4 m4 c4] 65)) W4.heap.size (.bool false) (.slice a4 m4 c4):=Ce.new W4 _ _
   have hlt4:w.heap.size<W4.heap.size:=tok4.lt
   have hne:W4.heap.size≠w.heap.size:=by omega
   clear tok4 hv4 bl4 hz
   rcases hr2 with rfl|rfl
   ·have q1:(((0:Nat):Int)==1)=false:=rfl
    rw[Nat.pow_zero,Nat.mul_one]at HY
    have k0:=tok5.c0
    have k1:=tok5.c1
    have f0:=tok5.f 0
    have f1:=tok5.f 1
    have HV:=Hi (hv5.tok tok5 (.bool false) (.slice a4 m4 c4))
    have HB:=Hi bl5
    clear tok5 hv5 bl5 ce5 hne hlt4
    go_wp2
    rw[←HY.out]at HV ht4
    refine bodyPost_ret (v:= .agg #[.bool false,.slice a4 m4 c4]) ?_ rfl ⟨_,m4,_,rfl,ht4,HV.out,?_⟩
    ·simp only[results,Tryz.results155]
     go_simp
    ·iterate 2 refine Below.setCell ?_ (by simp only;omega) _
     exact HB.out
   ·have q1:(((1:Nat):Int)==1)=true:=rfl
    rw[Nat.pow_one]at HY
    obtain⟨b4,hb4⟩:∃b4,b4=W4.heap.size:=⟨_,rfl⟩
    rw[←hb4]at ce5 hne hlt4
    go_wp2_with fail
    generalize hW:W4.alloc _=W5 at*
    rw[←hb4]
    clear hW hb4
    have l0:=ce5.c0
    have l1:=ce5.c1
    have SV:=Hi hv5
    have CA:Hid (∀W,Hp W5 W→Calls Tryz.prog 25 #[.int .i64 10] W fun e W6=>∃a m c,e= .returned (.agg #[.bool false,.slice a m c])∧T2 10 m∧BtV W6 (.slice a m c) 10 m∧Below W5.heap.size W5 W6∧W6.cell? ⟨b4,0,none⟩=some (.bool false)∧W6.cell? ⟨b4,1,none⟩=some (.slice a4 m4 c4)):=Hi (fun W hp=>by
     refine(Tryz.rsmall10 W).mono ?_
     rintro e W6 ⟨⟨a,m,c,rfl,h1,h2,h3⟩⟩
     have h4:=hp.below.trans (h3.mono hp.below.size)
     have h5:=ce5.below h4
     exact⟨a,m,c,rfl,h1,h2,h4,h5.c0,h5.c1⟩)
    have CB:Hid (∀W a m c,Below W5.heap.size W5 W→T2 10 m→BtV W (.slice a m c) 10 m→Calls Tryz.prog 99 #[.agg #[.bool false,.slice a4 m4 c4],.agg #[.bool false,.slice a m c]] W fun e W6=>∃a m c,e= .returned (.agg #[.bool false,.slice a m c])∧T2 y m∧BtV W6 (.slice a m c) y m∧Below w.heap.size w W6∧Ce W6 b4 (.bool false) (.slice a4 m4 c4)∧Tok W6 w.heap.size):=Hi (fun W a m c h1 h2 h3=>by
     have hm:m≤1000000:=by
      have:=T2.le h2 (show 10<2^4 by decide) (nR _)
      omega
     refine(Tryz.rtimes1 _ _ _ _ _ _ W (SV.out.below h1) h3 hm4 hm).mono ?_
     rintro e W6 ⟨⟨a,m,c,rfl,k1,k2,k3⟩⟩
     rw[←HY.out]at k1 k2
     have k4:=h1.trans (k3.mono h1.size)
     exact⟨a,m,c,rfl,k1,k2,bl5.trans (k4.mono bl5.size),ce5.below k4,tok5.below k4⟩)
    clear tok5 hv5 bl5 ce5 ht4
    go_region_law (first
     | (refine step_call (by rfl) 25 _ _ (by rfl) _ (by rfl) Tryz.enter25 ((CA.out _ (by first|exact hp_drewN _ _|exact hp_drew _|exact⟨rfl,rfl,rfl,rfl⟩)).mono ?_);rintro e W6 ⟨a6,m6,c6,rfl,ht6,hv6,b6,j0,j1⟩;refine⟨_,rfl,?_⟩)
     | (refine step_call (by rfl) 99 _ _ (by rfl) _ (by rfl) Tryz.enter99 ((CB.out _ _ _ _ b6 ht6 hv6).mono ?_);rintro e W7 ⟨a7,m7,c7,rfl,ht7,hv7,b7,ce7,tok7⟩;refine⟨_,rfl,?_⟩;have y0:=ce7.c0;have y1:=ce7.c1;have g0:=ce7.f 0;have g1:=ce7.f 1))
    all_goals
     have tok8:=(tok7.other (a:=⟨b4,0,none⟩) (by simp only;omega) (.bool false)).other (a:=⟨b4,1,none⟩) (by simp only;omega) (.slice a7 m7 c7)
     have HV:=Hi ((hv7.ce ce7 (.bool false) (.slice a7 m7 c7)).tok tok8 (.bool false) (.slice a7 m7 c7))
     have k0:=tok7.c0
     have k1:=tok7.c1
     have f0:=tok7.f 0
     have f1:=tok7.f 1
     have HB:=Hi b7
     clear tok8 tok7 hv7 ce7 hv6 b6 b7 CA CB
     go_wp2
     refine bodyPost_ret (v:= .agg #[.bool false,.slice a7 m7 c7]) ?_ rfl ⟨_,m7,_,rfl,ht7,HV.out,?_⟩
     ·simp only[results,Tryz.results155]
      go_simp
     ·iterate 4 refine Below.setCell ?_ (by simp only;omega) _
      exact HB.out
end Go.Proofs
end
section
namespace Go.Proofs
open Go.RowKit Go.Pf Go.Rb
theorem pow_le_shift {A B p q a b:Nat}(h:B*2^p≤A*2^q) (h1:a+q≤b+p):B*2^a≤A*2^b:=by
 refine Nat.le_of_mul_le_mul_right ?_ (Nat.two_pow_pos p)
 calc B*2^a*2^p=B*2^p*2^a:=by ac_rfl
  _≤A*2^q*2^a:=Nat.mul_le_mul_right _ h
  _=A*2^(a+q):=by rw[Nat.pow_add];ac_rfl
  _≤A*2^(b+p):=Nat.mul_le_mul_left _ (Nat.pow_le_pow_right (by decide) h1)
  _=A*2^b*2^p:=by rw[Nat.pow_add];ac_rfl
theorem pow_lt_shift {A B p q a b:Nat}(h:A*2^q<B*2^p) (h1:b+p≤a+q):A*2^b<B*2^a:=by
 refine Nat.lt_of_mul_lt_mul_right (a:=2^p) ?_
 calc A*2^b*2^p=A*2^(b+p):=by rw[Nat.pow_add];ac_rfl
  _≤A*2^(a+q):=Nat.mul_le_mul_left _ (Nat.pow_le_pow_right (by decide) h1)
  _=A*2^q*2^a:=by rw[Nat.pow_add];ac_rfl
  _<B*2^p*2^a:=(Nat.mul_lt_mul_right (Nat.two_pow_pos a)).2 h
  _=B*2^a*2^p:=by ac_rfl
theorem T2.pos_le {x m:Nat}(h:T2 x m) (h0:0<x):2^(m-1)≤x∧0<m:=by
 rcases h.2 with h1|h1
 ·have:=h.1
  rw[h1]at this
  omega
 ·refine⟨h1,?_⟩
  rcases Nat.eq_zero_or_pos m with h2|h2
  ·have:=h.1
   rw[h2]at this
   omega
  ·exact h2
theorem T2.twice {A B la lb:Nat}(hA:T2 A la) (hB:T2 B lb) (a0:0<A) (b0:0<B):A*2^(lb-la)<B*2^(la-lb+1)∧B*2^(la-lb)<A*2^(lb-la+1):=by
 obtain⟨h1,h2⟩:=T2.pos_le hA a0
 obtain⟨h3,h4⟩:=T2.pos_le hB b0
 have key:∀{X Y m k:Nat},X<2^m→2^(k-1)≤Y→0<k→0<m→X*2^(k-m)<Y*2^(m-k+1):=fun {X Y m k} hx hy hk hm=>by
  calc X*2^(k-m)<2^m*2^(k-m):=(Nat.mul_lt_mul_right (Nat.two_pow_pos _)).2 hx
   _=2^(k-1)*2^(m-k+1):=by rw[←Nat.pow_add,←Nat.pow_add];congr 1;omega
   _≤Y*2^(m-k+1):=Nat.mul_le_mul_right _ hy
 exact⟨key hA.1 h3 h4 h2,key hB.1 h1 h2 h4⟩
theorem rat_unit {A B la lb less u:Nat}(hA:T2 A la) (hB:T2 B lb) (a0:0<A) (b0:0<B) (hl:less=if A*2^(lb-la)<B*2^(la-lb)then 1 else 0) (hu:(u:Int)=max ((la:Int)-lb-less-52) (-1074)+1074) (K:Nat) (hK:K=1074):
 (u=0∨B*2^(u+52)≤A*2^K)∧A*2^K<B*2^(u+53):=by
 obtain⟨t1,t2⟩:=T2.twice hA hB a0 b0
 have hL:B*2^(la-lb)≤A*2^(lb-la+less):=by
  rw[hl]
  split
  ·exact Nat.le_of_lt t2
  ·rw[Nat.add_zero];omega
 have hU:A*2^(lb-la+less)<B*2^(la-lb+1):=by
  rw[hl]
  split
  ·rename_i h
   rw[Nat.pow_succ,Nat.pow_succ,←Nat.mul_assoc,←Nat.mul_assoc]
   omega
  ·exact t1
 have hl2:less≤1:=by rw[hl];split<;>omega
 refine⟨?_,pow_lt_shift hU (by omega)⟩
 rcases Nat.eq_zero_or_pos u with h|h
 ·exact .inl h
 ·exact .inr (pow_le_shift hL (by omega))
def ratEnd (u m:Nat):Nat×Bool:=
 if m=9007199254740992 then(if u+2≥2047 then(0,false)else((u+2)*4503599627370496,true))
 else if m<4503599627370496 then(m,true)
 else if u+1≥2047 then(0,false)else((u+1)*4503599627370496+m-4503599627370496,true)
def RatOk (A B:Nat) (r:Nat×Bool):Prop:=∃b,Rnd A B b∧r=if b<infB then(b,true)else(0,false)
theorem rat_ok {A B la lb less u p q:Nat}(hA:T2 A la) (hB:T2 B lb) (a0:0<A) (b0:0<B) (hl:less=if A*2^(lb-la)<B*2^(la-lb)then 1 else 0) (hu:(u:Int)=max ((la:Int)-lb-less-52) (-1074)+1074)
 (hp:p=1074-u) (hq:q=u-1074):RatOk A B (ratEnd u (rne (A*2^p) (B*2^q))):=by
 obtain⟨h1,h2⟩:=rat_unit hA hB a0 b0 hl hu KE KE_eq
 have hK:KZ=2^KE:=rfl
 have hKE:=KE_eq
 have er:rne (A*2^p) (B*2^q)=rne (A*KZ) (B*2^u):=by
  refine rne_ratio (Nat.mul_pos b0 (Nat.two_pow_pos _)) (Nat.mul_pos b0 (Nat.two_pow_pos _)) ?_
  have e5:p+u=KE+q:=by omega
  rw[hK]
  clear h1 h2 hK hKE
  generalize KE=k at*
  calc A*2^p*(B*2^u)=A*B*(2^p*2^u):=by ac_rfl
   _=A*B*(2^k*2^q):=by rw[←Nat.pow_add,←Nat.pow_add,e5]
   _=A*2^k*(B*2^q):=by ac_rfl
 rw[er]
 have g1:u=0∨4503599627370496*(B*2^u)≤A*KZ:=by
  rcases h1 with h|h
  ·exact .inl h
  ·right
   rw[hK]
   refine Nat.le_trans (Nat.le_of_eq ?_) h
   rw[Nat.pow_add]
   rw[show(4503599627370496:Nat)=2^52 from rfl]
   ac_rfl
 have g2:A*KZ<9007199254740992*(B*2^u):=by
  rw[hK]
  refine Nat.lt_of_lt_of_le h2 (Nat.le_of_eq ?_)
  rw[Nat.pow_add]
  rw[show(9007199254740992:Nat)=2^53 from rfl]
  ac_rfl
 have hB2:0<B*2^u:=Nat.mul_pos b0 (Nat.two_pow_pos u)
 obtain⟨m,hm⟩:∃m,m=rne (A*KZ) (B*2^u):=⟨_,rfl⟩
 have m1:u=0∨4503599627370496≤m:=by
  rcases g1 with h|h
  ·exact .inl h
  ·exact .inr (by rw[hm];exact rne_le _ _ _ hB2 h)
 have m2:m≤9007199254740992:=by rw[hm];exact rne_lt hB2 g2
 refine⟨u*4503599627370496+m,⟨u,g1,g2,by rw[hm]⟩,?_⟩
 rw[←hm]
 clear hm g1 g2 h1 h2 er hl hu
 unfold ratEnd infB
 by_cases c1:m=9007199254740992
 ·rw[if_pos c1,c1]
  by_cases c2:u+2≥2047
  ·rw[if_pos c2,if_neg (by omega)]
  ·have e6:(u+2)*4503599627370496=u*4503599627370496+9007199254740992:=by omega
   rw[if_neg c2,if_pos (by omega),e6]
 ·rw[if_neg c1]
  by_cases c2:m<4503599627370496
  ·have e6:m=u*4503599627370496+m:=by omega
   rw[if_pos c2,if_pos (by omega),←e6]
  ·rw[if_neg c2]
   by_cases c3:u+1≥2047
   ·rw[if_pos c3,if_neg (by omega)]
   ·have e6:(u+1)*4503599627370496+m-4503599627370496=u*4503599627370496+m:=by omega
    rw[if_neg c3,if_pos (by omega),e6]
end Go.Proofs
end
