import Derived.Test.YtnipmfaikiaipaaGreatDoorTak
import Derived.Lib.ConvBytes
set_option maxRecDepth 1000000
set_option maxHeartbeats 40000000
section
namespace Go.Rb
def AQ (x j:Nat):Nat:=x/2^j %2
def T2 (x m:Nat):Prop:=x<2^m/\(m=0\/2^(m-1)<=x)
theorem Bi (x j:Nat):AQ x j<2:=gR _ (by decide)
theorem Cv {x m j:Nat}(h:x<2^m) (hj:m<=j):AQ x j=0:=by
 unfold AQ;rw[bh (IN h (AT (by decide) hj))]
theorem T2.inj {x m k:Nat}(h:T2 x m) (h':T2 x k):m=k:=by
 have key:∀{a b:Nat},T2 x a->T2 x b->a<=b:=by
  intro a b ha hb;rcases ha.2 with h0|h0
  ·omega
  ·rcases BY b a with hlt|hge
   ·have:=AT (n:=2) (by decide) (show b<=a-1 by omega);have:=hb.1;omega
   ·exact hge
 exact Nat.le_antisymm (key h h') (key h' h)
theorem T2.BB {x m:Nat}(h:T2 x m):m=0↔x=0:=by
 constructor
 ·intro e;subst e;have:=h.1;omega
 ·intro e;rcases h.2 with h0|h0
  ·exact h0
  ·have:=An (m-1);omega
theorem T2.le {x y m k:Nat}(h:T2 y k) (hx:x<2^m) (hy:y<=x):k<=m:=by
 rcases h.2 with h1|h1
 ·omega
 ·rcases BY m k with h4|h4
  ·have h5:=AT (n:=2) (by decide) (show m<=k-1 by omega);omega
  ·exact h4
theorem KQ {x k:Nat}(h:x<2^(k+1)) (h0:AQ x k=0):x<2^k:=by
 unfold AQ at h0;have h1:x/2^k<2:=by rw[ad (An k),So,<-gj];exact h
 have h2:x/2^k=0:=by generalize x/2^k=q at*;omega
 rcases BY x (2^k)with h3|h3
 ·exact h3
 ·have:=(gP (An k)).2 (show 1*2^k<=x by omega);omega
theorem KY {x k:Nat}(h0:AQ x k≠0):2^k<=x:=by
 rcases BY x (2^k)with h3|h3
 ·exact absurd (by unfold AQ;rw[bh h3]) h0
 ·exact h3
theorem MO (x j:Nat):AQ x (j+1)=AQ (x/2) j:=by
 unfold AQ;rw[gj,So,SO]
theorem US (x:Nat):AQ x 0=x %2:=by unfold AQ;rw[gf,Nat.div_one]
theorem P4 (x k:Nat):x %2^(k+1)=x %2^k+2^k*AQ x k:=by rw[gj,Nat.mod_mul];rfl
end Go.Rb
namespace Go.Proofs
open Go.RowKit Go.Pf Go.Rb
def Bt (w:World) (b o x m:Nat):Prop:=x<2^m/\∀j,j<m->w.cell? ⟨b,o+j,none⟩=some (.int .i64 (AQ x j))
def Ap (w:World) (v:Value) (x m:Nat):Prop:=(v= .slice none 0 0/\x=0/\m=0)\/∃b o c,v= .slice (some ⟨b,o,none⟩) m c/\m<=c/\c<=9223372036854775807/\b<w.heap.size/\Bt w b o x m
theorem Ap.below {w w':World} {v:Value} {x m:Nat}(h:Ap w v x m) (hb:Below w.heap.size w w'):Ap w' v x m:=by
 rcases h with h|⟨b,o,c,h1,h2,h3,h4,h5,h6⟩
 ·exact .inl h
 ·exact .inr ⟨b,o,c,h1,h2,h3,IN h4 hb.size,h5,fun j hj=>(hb.cell (p:=⟨b,o+j,none⟩) h4).trans (h6 j hj)⟩
theorem Ap.slice {w:World} {v:Value} {x m:Nat}(h:Ap w v x m):∃a c,v= .slice a m c:=by
 rcases h with⟨rfl,_,rfl⟩|⟨b,o,c,rfl,_⟩
 ·exact⟨_,_,rfl⟩
 ·exact⟨_,_,rfl⟩
theorem Ap.lt {w:World} {v:Value} {x m:Nat}(h:Ap w v x m):x<2^m:=by
 rcases h with⟨_,h7,_⟩|⟨_,_,_,_,_,_,_,h7⟩
 ·rw[h7];exact An m
 ·exact h7.1
theorem Ap.max {w:World} {v:Value} {x m:Nat}(h:Ap w v x m):m<=9223372036854775807:=by
 rcases h with⟨_,_,h⟩|⟨_,_,_,_,_,_,_⟩
 ·omega
 ·omega
theorem Ap.cut {w:World} {a:Option Addr} {c x m m1:Nat}(h:Ap w (.slice a m c) x m) (hle:m1<=m) (hx:x<2^m1):Ap w (.slice a m1 c) x m1:=by
 rcases h with⟨h1,h2,h3⟩|⟨b,o,c',h1,h2,h3,h4,h5⟩
 ·subst h2 h3;obtain rfl:m1=0:=by omega
  exact .inl ⟨h1,rfl,rfl⟩
 ·simp only[Value.slice.injEq]at h1;obtain⟨rfl,_,rfl⟩:=h1;exact .inr ⟨b,o,c,rfl,by omega,h3,h4,hx,fun j hj=>h5.2 j (by omega)⟩
theorem Xb (v:Value) (x m i:Nat) (w:World) (hv:Hid (Ap w v x m)):Calls Tryz.prog 250 #[v,.int .i64 i] w fun e w'=>e= .returned (.int .i64 (AQ x i))/\w=w':=by
 obtain⟨a,c,rfl⟩:=hv.out.slice;have i0:decide ((0:Int)<=(i:Int))=true:=A5;have mm:=hv.out.max;by_cases h:i<m
 ·rcases hv.out with⟨_,_,h3⟩|⟨b,o,c',h1,h2,h3,h4,h5⟩
  ·omega
  ·simp only[Value.slice.injEq]at h1;obtain⟨rfl,_,rfl⟩:=h1;have hc:=h5.2 i h;have hi:(i:Int)<m:=by omega
   have hi2:decide ((i:Int)<m)=true:=AN hi;clear h5;go_enter Tryz.func250,Tryz.ntmps250;go_wp2;go_ret;exact⟨rfl,rfl⟩
 ·have e:=Cv hv.out.lt (show m<=i by omega);rw[e];have hi2:decide ((i:Int)<m)=false:=BC;clear e;go_enter Tryz.func250,Tryz.ntmps250;go_wp2;go_ret;exact⟨rfl,rfl⟩
def Mp (v:Value) (w:World) (x:Nat) (e:Ending) (w':World):Prop:=
 ∃m',T2 x m'/\e= .returned (match v with| .slice a _ c=> .slice a m' c|v=>v)/\w=w'
theorem Xy (w:World):Calls Tryz.prog 108 #[.slice none 0 0] w (Mp (.slice none 0 0) w 0):=by
 go_enter Tryz.func108,Tryz.ntmps108;go_wp2;refine wp_loop_rounds 1 ?_;rw[rounds_succ];go_wp2;go_ret;exact⟨0,⟨by decide,.inl rfl⟩,rfl,rfl⟩
theorem Ys (b o c x m:Nat) (w:World) (hc:m<=c) (hmax:c<=9223372036854775807) (hl:Hid (Bt w b o x m)):Calls Tryz.prog 108 #[.slice (some ⟨b,o,none⟩) m c] w (Mp (.slice (some ⟨b,o,none⟩) m c) w x):=by
 go_enter Tryz.func108,Tryz.ntmps108;go_wp2
 go_loop [3] (fun v=>∃k:Nat,k<=m/\x<2^k/\v= .int .i64 k) (fun v=>(intOf v).toNat)
 case atStart=>exact⟨m,nR _,hl.out.1,rfl⟩
 case round=>
  obtain⟨k,hk,hx,rfl⟩:=hrel;have HX:=Hi hx;clear hx;cases k with
  |zero=>
   have z0:((0:Nat):Int)=0:=rfl;go_wp2;go_ret;exact⟨0,⟨HX.out,.inl rfl⟩,rfl,rfl⟩
  |succ k=>
   have hcell:w.cell? ⟨b,o+k,none⟩=some (.int .i64 (AQ x k)):=hl.out.2 k (by omega);have kk:(k:Int)<m:=by omega
   have k1:((k+1:Nat):Int)-1=k:=by omega
   by_cases h0:AQ x k=0
   ·have t0:((AQ x k:Int)==0)=true:=by rw[h0];rfl
    have H0:=Hi h0;clear h0;go_wp2;go_round
    case rel=>exact⟨k,by omega,KQ HX.out H0.out,by go_num⟩
    case measure=>simp[intOf]
   ·have t0:((AQ x k:Int)==0)=false:=by rw[Lq];intro h;have:=eq_of_beq h;omega
    have H0:=Hi h0;clear h0;go_wp2;go_ret;exact⟨k+1,⟨HX.out,.inr (KY H0.out)⟩,rfl,rfl⟩
theorem PF (v:Value) (x m:Nat) (w:World) (hv:Ap w v x m):Calls Tryz.prog 108 #[v] w (Mp v w x):=by
 rcases hv with⟨rfl,rfl,rfl⟩|⟨b,o,c,rfl,h1,h2,_,h3⟩
 ·exact Xy w
 ·exact Ys b o c x m w h1 h2 (Hi h3)
def Fx (neg:Bool) (x:Nat) (w:World) (e:Ending) (w':World):Prop:=∃(sl:Value) (m:Nat),e= .returned (.agg #[.bool (neg&&decide (0<x)),sl])/\T2 x m/\Ap w' sl x m/\Below w.heap.size w w'
theorem SH (neg:Bool) (v:Value) (x m:Nat) (w:World) (hv:Hid (Ap w v x m)):Calls Tryz.prog 109 #[.bool neg,v] w (Fx neg x w):=by
 obtain⟨a,c,rfl⟩:=hv.out.slice;have hb:=(AH w.heap.size w).alloc (nR _);have hv1:Hid (∀o,Ap (w.alloc o) (.slice a m c) x m):=Hi fun o=>hv.out.below (hb o);clear hb;cases neg with
 |false=>
  go_enter Tryz.func109,Tryz.ntmps109
  go_wp2_with (go_at_call 108;(with_reducible refine(PF (.slice a m c) x m _ (hv1.out _)).mono ?_))
  rintro e w' ⟨m',ht,rfl,rfl⟩;have HL:=Hi (hv.out.cut (T2.le ht hv.out.lt (nR _)) ht.1);go_wp2;refine AI (v:= .agg #[.bool false,.slice a m' c]) ?_ rfl ⟨_,m',rfl,ht,?_,?_⟩
  ·simp only[results,Tryz.results109];go_simp
  ·exact HL.out.below ((AH _ _).alloc (nR _) _)
  ·exact(AH _ _).alloc (nR _) _
 |true=>
  go_enter Tryz.func109,Tryz.ntmps109
  go_wp2_with (go_at_call 108;(with_reducible refine(PF (.slice a m c) x m _ (hv1.out _)).mono ?_))
  rintro e w' ⟨m',ht,rfl,rfl⟩;have HL:=Hi (hv.out.cut (T2.le ht hv.out.lt (nR _)) ht.1);have hd:decide ((0:Int)<(m':Int))=decide (0<x):=by
   have:=ht.BB;by_cases h:0<x
   ·rw[AN h,AN (by omega)]
   ·rw[AS h,AS (by omega)]
  go_wp2;refine AI (v:= .agg #[.bool (decide (0<x)),.slice a m' c]) ?_ rfl ⟨_,m',rfl,ht,?_,?_⟩
  ·simp only[results,Tryz.results109];go_simp;have:=ht.BB;omega
  ·exact HL.out.below ((AH _ _).alloc (nR _) _)
  ·exact(AH _ _).alloc (nR _) _
end Go.Proofs
end
section
namespace Go.Proofs
open Go.RowKit Go.Bg
def Yb (x:Nat) (w:World) (e:Ending) (w':World):Prop:=∃(sl:Value) (m:Nat),e= .returned (.agg #[.bool false,sl])/\Bj x m/\Co w' sl x m/\Below w.heap.size w w'
theorem Co.setCell {w:World} {v:Value} {x m:Nat}(h:Co w v x m){a:Addr} {u0:Value}(h0:w.cell? a=some u0) (hne:∀k n,u0≠ .int k n) (u:Value):Co (w.setCell a u) v x m:=by
 rcases h with h|⟨b,o,c,rfl,h2,h3,h4⟩
 ·exact .inl h
 ·refine .inr ⟨b,o,c,rfl,h2,h3,h4.1,fun j hj=> ?_⟩;have h5:=h4.2 j hj;rw[World.cell?_setCell_other,h5];rintro rfl;rw[h0]at h5;exact hne _ _ (Option.some.inj h5)
theorem Co.lt {w:World} {v:Value} {x m:Nat}(h:Co w v x m):x<B^m:=by
 rcases h with⟨_,h7,_⟩|⟨_,_,_,_,_,_,h7⟩
 ·rw[h7];exact Bk m
 ·exact h7.1
theorem Tryz.laid (v:Value) (x m:Nat) (w:World) (hv:Hid (Co w v x m)):Calls Tryz.prog 218 #[.bool false,v] w (Yb x w):=by
 obtain⟨a,c,rfl⟩:=hv.out.slice;have hb:=(AH w.heap.size w).alloc (nR _);have hv1:Hid (∀o,Co (w.alloc o) (.slice a m c) x m):=Hi fun o=>hv.out.below (hb o);clear hb;go_enter Tryz.func218,Tryz.ntmps218
 go_wp2_with (go_at_call 221;(with_reducible refine(Tryz.trim (.slice a m c) x m _ (hv1.out _)).mono ?_))
 rintro e w' ⟨m',ht,rfl,rfl⟩;have HL:=Hi (hv.out.cut (Bj.le ht hv.out.lt (nR _)) ht.1);go_wp2;refine AI (v:= .agg #[.bool false,.slice a m' c]) ?_ rfl ⟨_,m',rfl,ht,?_,?_⟩
 ·simp only[results,Tryz.results218];go_simp
 ·exact HL.out.below ((AH _ _).alloc (nR _) _)
 ·exact(AH _ _).alloc (nR _) _
end Go.Proofs
end
section
namespace Go.Proofs
open Go.RowKit Go.Hb
def Nr (v:Nat) (w:World) (e:Ending) (w':World):Prop:=
 e= .returned (.slice (some ⟨w.heap.size,0,none⟩) (Lib.encodeRune v).length (Lib.encodeRune v).length)/\BS w' w.heap.size (Lib.encodeRune v).length 5 (fun j=> .int .u8 (((Lib.encodeRune v).getD j 0).toNat:Nat))/\Below w.heap.size w w'
theorem FN (w:World) (v:Nat) (zs:List Int) (hz:Lib.encodeRuneZ v=zs):
 zs.length=(Lib.encodeRune v).length/\BS (w.alloc (.cells (zs.map fun z=>Value.int .u8 z).toArray 5)) w.heap.size (Lib.encodeRune v).length 5 (fun j=> .int .u8 (((Lib.encodeRune v).getD j 0).toNat:Nat)):=by
 have hl:zs.length=(Lib.encodeRune v).length:=by rw[Ar,hz,List.length_map]
 refine⟨hl,_,dk w _,by simp[hl],fun j hj=> ?_⟩;have hj2:j<zs.length:=by omega
 have hb:=Lib.encodeRuneZ_byte v (zs[j]) (by rw[hz];exact List.getElem_mem hj2);have e1:(Lib.encodeRune v).getD j 0=(zs[j]).toNat.toUInt8:=by
  rw[SM,Ar,hz,List.getElem?_map,List.getElem?_eq_getElem hj2];rfl
 show _=some (Value.int .u8 ((((Lib.encodeRune v).getD j 0).toNat:Nat):Int));rw[e1,aQ _ (by omega)];have e2:(((zs[j]).toNat:Nat):Int)=zs[j]:=by omega
 rw[e2];simp[List.getElem?_eq_getElem hj2]
theorem gC (v:Nat) (w:World) (hv:AR v):Calls Tryz.prog 213 #[.int .i64 v] w (Nr v w):=by
 have h0:=hv.2.1;have a0:0<=(v:Int)/64:=by omega
 have a1:0<=(v:Int) %64:=by omega
 have a2:(v:Int) %64<=63:=by omega
 have a3:0<=(v:Int)/64 %64:=by omega
 have a4:(v:Int)/64 %64<=63:=by omega
 have a10:0<=(v:Int):=by omega
 have a5:0<=(v:Int)/4096:=by omega
 have a6:0<=(v:Int)/4096 %64:=by omega
 have a7:(v:Int)/4096 %64<=63:=by omega
 have a8:0<=(v:Int)/262144:=by omega
 have a9:(v:Int)/262144<=4:=by omega
 rcases hv.cases with c1|c1|c1|c1
 ·obtain⟨hl,hr⟩:=FN w v _ (Lib.encodeRuneZ_one c1.1 c1.2);have HL:=Hi hl;have HR:=Hi hr;have b1:(v:Int)<128:=by omega
  clear hl hr c1;go_enter Tryz.func213,Tryz.ntmps213;go_wp2;go_ret;exact⟨by rw[<-HL.out];rfl,HR.out,(AH _ _).alloc (nR _) _⟩
 ·obtain⟨hl,hr⟩:=FN w v _ (Lib.encodeRuneZ_two c1.1 c1.2);have HL:=Hi hl;have HR:=Hi hr;have b1:128<=(v:Int):=by omega
  have b2:(v:Int)<2048:=by omega
  have b3:(v:Int)/64<=31:=by omega
  clear hl hr c1;go_enter Tryz.func213,Tryz.ntmps213;go_wp2;go_ret;exact⟨by rw[<-HL.out];rfl,HR.out,(AH _ _).alloc (nR _) _⟩
 ·obtain⟨q,hq⟩:∃q:Nat,(v:Int)/64=q:=⟨v/64,rfl⟩;obtain⟨u,hu⟩:∃u:Nat,(v:Int)/4096=u:=⟨v/4096,rfl⟩;have hz:=Lib.encodeRuneZ_three c1;rw[hq,hu]at hz;rw[hq]at a3 a4 a0;rw[hu]at a5 a6 a7;obtain⟨hl,hr⟩:=FN w v _ hz;have HL:=Hi hl;have HR:=Hi hr;have b1:decide ((v:Int)<2048)=false:=BC;have b2:decide ((v:Int)<65536)=true:=A5;have b4:decide ((v:Int)<128)=false:=BC;have b3:(u:Int)<=15:=by omega
  have b5:(q:Int)<=1023:=by omega
  clear hl hr c1 hz a6 a7 a8 a9 h0 hv;go_enter Tryz.func213,Tryz.ntmps213;go_wp2;go_ret;exact⟨by rw[<-HL.out];rfl,HR.out,(AH _ _).alloc (nR _) _⟩
 ·obtain⟨q,hq⟩:∃q:Nat,(v:Int)/64=q:=⟨v/64,rfl⟩;obtain⟨u,hu⟩:∃u:Nat,(v:Int)/4096=u:=⟨v/4096,rfl⟩;have hz:=Lib.encodeRuneZ_four c1.1 c1.2;rw[hq,hu]at hz;rw[hq]at a3 a4 a0;rw[hu]at a5 a6 a7;have b5:(q:Int)<=17407:=by omega
  have b6:(u:Int)<=272:=by omega
  obtain⟨hl,hr⟩:=FN w v _ hz;have HL:=Hi hl;have HR:=Hi hr;have b1:decide ((v:Int)<2048)=false:=BC;have b2:decide ((v:Int)<65536)=false:=BC;have b4:decide ((v:Int)<128)=false:=BC;clear hl hr c1 hz h0 hv;go_enter Tryz.func213,Tryz.ntmps213;go_wp2;go_ret;exact⟨by rw[<-HL.out];rfl,HR.out,(AH _ _).alloc (nR _) _⟩
end Go.Proofs
end
section
namespace Go.Proofs
open Go.RowKit Go.Bg
theorem Tryz.lower (c:Nat) (h1:97<=c) (h2:c<=102) (w:World):Calls Tryz.prog 229 #[.int .u8 c] w fun e w'=>e= .returned (.int .u8 c)/\w=w':=by
 have:c=97\/c=98\/c=99\/c=100\/c=101\/c=102:=by omega
 clear h1 h2;rcases this with rfl|rfl|rfl|rfl|rfl|rfl
 all_goals
  go_enter Tryz.func229,Tryz.ntmps229;go_wp2;go_ret;exact⟨rfl,rfl⟩
theorem Cr (w:World) (s:ByteArray):Below w.heap.size w (Lib.bytesWorld w 5 s):=
 ⟨rfl,rfl,rfl,by rw[Lib.bytesWorld_size];omega,fun k hk=>Lib.bytesWorld_at_old w 5 s k hk⟩
end Go.Proofs
end
section
namespace Go.Proofs
open Go.RowKit Go.Bg Go.Hb
theorem Xh {c:Nat} {n:Nat}(h:c≠n):((c:Int)==(n:Int))=false:=by rw[Lq];intro e;have:=eq_of_beq e;omega
theorem Od {v:Nat}(h:AR v):Lib.validRune v=true:=by
 unfold Lib.validRune AR at*;exact AN (by omega)
end Go.Proofs
end
section
namespace Go.Bg
open Go Go.Proofs
theorem Jg:∀(f x:Nat),x<2^f->x<2^Lib.bitLenAux f x/\(x≠0->1<=Lib.bitLenAux f x/\2^(Lib.bitLenAux f x-1)<=x)
 |0,x,h=>by
  have:x=0:=by simpa using h
  subst this;exact⟨by simp[Lib.bitLenAux],fun h=>absurd rfl h⟩
 |f+1,x,h=>by
  unfold Lib.bitLenAux;by_cases h0:x=0
  ·subst h0;exact⟨by simp,fun h=>absurd rfl h⟩
  ·rw[if_neg h0];have h1:x/2<2^f:=by rw[gj]at h;omega
   obtain⟨a,b⟩:=Jg f (x/2) h1;refine⟨?_,fun _=>⟨by omega,?_⟩⟩
   ·rw[Nat.add_comm,gj];omega
   ·rw[Nat.add_comm,Nat.add_sub_cancel];by_cases h2:x/2=0
    ·rw[h2];have e:Lib.bitLenAux f 0=0:=by cases f<;>simp[Lib.bitLenAux]
     rw[e];simp;omega
    ·obtain⟨c,d⟩:=b h2;obtain⟨k,hk⟩:∃k,Lib.bitLenAux f (x/2)=k+1:=⟨Lib.bitLenAux f (x/2)-1,by omega⟩;rw[hk]at d⊢;rw[Nat.add_sub_cancel]at d;rw[gj];omega
theorem bitLen_spec {x:Nat}(h:x<4294967296) (h0:x≠0):1<=Lib.bitLen x/\2^(Lib.bitLen x-1)<=x/\x<2^Lib.bitLen x:=by
 obtain⟨a,b⟩:=Jg 64 x (by omega);exact⟨(b h0).1,(b h0).2,a⟩
theorem Ro {x m:Nat}(h:Bj x m) (h0:x≠0):1<=sz x m/\2^(sz x m-1)<=x/\x<2^sz x m:=by
 have hm:m≠0:=fun e=>h0 (h.BB.1 e);obtain⟨k,rfl⟩:∃k,m=k+1:=⟨m-1,by omega⟩;have ht:A0 x k=x/B^k:=by
  unfold A0;refine e8 (Nat.div_lt_of_lt_mul ?_);have:=h.1
  rwa [gj]at this
 have hge:B^k<=x:=by
  rcases h.2 with h1|h1
  ·omega
  ·simpa using h1
 have htn:A0 x k≠0:=by
  rw[ht];have:=(gP (Bk k)).2 (by rw[Nat.one_mul];exact hge);omega
 obtain⟨b1,b2,b3⟩:=bitLen_spec (IU x k) htn;have hB:B^k=2^(32*k):=by rw[show B=2^32 from rfl,<-Nat.pow_mul]
 unfold sz;rw[if_neg hm,Nat.add_sub_cancel];generalize hb:Lib.bitLen (A0 x k)=b at*;rw[ht]at b2 b3;refine⟨by omega,?_,?_⟩
 ·rw[show 32*k+b-1=32*k+(b-1) by omega,E3,<-hB];exact To (dg _ b2) (Nat.mul_div_le x (B^k))
 ·rw[E3,<-hB];have:=(ad (Bk k)).1 b3
  rwa [So]at this
def carry (x r d k:Nat):Nat:=(x %B^k*r+d)/B^k
theorem carry_zero (x r d:Nat):carry x r d 0=d:=by unfold carry;simp[Nat.mod_one]
theorem OZ {x r d k:Nat}(hd:d<r):carry x r d k<r:=by
 unfold carry;refine Nat.div_lt_of_lt_mul ?_;have h1:x %B^k<B^k:=gR _ (Bk k);have h2:(x %B^k+1)*r<=B^k*r:=FF r h1;rw[UP,Nat.one_mul]at h2;omega
theorem Yq (x k:Nat):x %B^(k+1)=A0 x k*B^k+x %B^k:=by
 unfold A0;rw[gj,Nat.mod_mul,So (x/B^k %B)];omega
theorem PY (x r d k:Nat):(x %B^(k+1)*r+d)/B^k=A0 x k*r+carry x r d k:=by
 unfold carry;rw[Yq,UP,Nat.add_assoc,Nat.mul_right_comm,So (A0 x k*r),Nat.mul_add_div (Bk k)]
theorem RQ (x r d k:Nat):carry x r d (k+1)=(A0 x k*r+carry x r d k)/B:=by
 rw[<-PY];unfold carry;rw[gj,SO]
theorem Tq (x r d k:Nat):A0 (x*r+d) k=(A0 x k*r+carry x r d k) %B:=by
 rw[<-PY];unfold A0;have e:x*r+d=B^k*(x/B^(k+1)*r*B)+(x %B^(k+1)*r+d):=by
  have h:=Nat.div_add_mod x (B^(k+1))
  conv=>lhs;rw[<-h]
  rw[UP,Nat.add_assoc,gj];congr 1;rw[G0 (B^k),G0 (B^k)];congr 1;rw[So B,Nat.mul_right_comm]
 rw[e,Nat.mul_add_div (Bk k),Nat.add_comm,Nat.add_mul_mod_self_right]
theorem Tg {x r d m:Nat}(h:x<B^m):carry x r d m=(x*r+d)/B^m:=by unfold carry;rw[e8 h]
end Go.Bg
namespace Go.Proofs
open Go.RowKit Go.Bg
def CH (x r d j m:Nat):List Value:=(List.range m).map fun i=>Value.int .u32 ((if i<j then A0 (x*r+d) i else A0 x i:Nat):Int)
theorem L3 (x r d m:Nat):CH x r d 0 m=Av x m:=by simp[CH,Av]
theorem M0 (x r d m:Nat):CH x r d m m=Av (x*r+d) m:=by
 unfold CH Av;apply List.map_congr_left;intro i hi;rw[if_pos (List.mem_range.1 hi)]
theorem Mj (x r d j m:Nat) (h:j<m):(CH x r d j m)[j]? =some (.int .u32 (A0 x j:Nat)):=by simp[CH,h]
theorem N3 (x r d j m:Nat) (_h:j<m):(CH x r d j m).set j (.int .u32 (A0 (x*r+d) j:Nat))=CH x r d (j+1) m:=by
 apply List.ext_getElem?;intro i;rw[List.getElem?_set];by_cases e:j=i
 ·subst e;rw[if_pos rfl];simp[CH,_h]
 ·rw[if_neg e];unfold CH;by_cases hi:i<m
  ·simp only[List.getElem?_map,List.getElem?_range hi,Option.map_some];by_cases h1:i<j
   ·rw[if_pos h1,if_pos (by omega)]
   ·rw[if_neg h1,if_neg (by omega)]
  ·rw[gQ (by simpa using hi),gQ (by simpa using hi)]
theorem LQ (x m:Nat) (c:Nat) (h:A0 x m=c):Av x (m+1)=Av x m++ [.int .u32 (c:Nat)]:=by
 unfold Av;rw[List.range_succ,List.map_append,<-h];rfl
theorem Co.D4 {w:World} {b:Nat} {v:Value} {x m:Nat}(h:w.ownsRow b 176 1 v m (Av x m)) (hx:x<B^m):Co w v x m:=by
 rcases h.2 with⟨rfl,rfl⟩|⟨g,cap,cur,rfl,_,hg,hnc,hcm,hcs,htake⟩
 ·refine .inl ⟨rfl,by simpa using hx,rfl⟩
 ·refine .inr ⟨g,0,cap,rfl,hnc,hcm,hx,fun j hj=> ?_⟩;have h1:=World.ownsRow.cellAt h j (by omega);rw[gX,h1,Eo x m j hj]
theorem Jb {w:World} {b:Nat} {v:Value} {n:Nat} {xs:List Value}(h:w.ownsRow b 176 1 v n xs):∃a c,v= .slice a n c:=by
 rcases h.2 with⟨rfl,rfl⟩|⟨g,cap,cur,rfl,_⟩
 ·exact⟨_,_,rfl⟩
 ·exact⟨_,_,rfl⟩
def Gc (X:Nat) (w:World) (e:Ending) (w':World):Prop:=∃(sl:Value) (m:Nat),e= .returned (.tuple #[.agg #[.bool false,sl],.int .i64 0])/\Bj X m/\Co w' sl X m/\Below w.heap.size w w'
structure PQ (r:Nat) (B1:Nat) (W1:World) (X m:Nat) (l:Value) (wr:World):Prop where
 tight:Bj X m
 own:wr.ownsRow B1 176 1 l m (Av X m)
 Ad:Below B1 W1 wr
structure PI (r d:Nat) (B1:Nat) (W1:World) (X m:Nat) (l:Value) (j c:Nat) (wr:World):Prop where
 le:j<=m
 XG:c=carry X r d j
 own:wr.ownsRow B1 176 1 l m (CH X r d j m)
 Ad:Below B1 W1 wr
theorem PI.next {r d B1:Nat} {W1:World} {x m g lc j q lq cq:Nat} {wr:World}(h:PI r d B1 W1 x m (.slice (some ⟨g,0,none⟩) m lc) j q wr) (hlq:lq=A0 (x*r+d) j) (hcq:cq=carry x r d (j+1)) (hj:j<m):
 PI r d B1 W1 x m (.slice (some ⟨g,0,none⟩) m lc) (j+1) cq (wr.setCell ⟨g,j,none⟩ (.int .u32 (lq:Nat))):=by
 obtain⟨h1,h2⟩:=World.ownsRow.stored h.own j (.int .u32 (lq:Nat));have hb:=(h.own.lt g rfl).1;refine⟨by omega,hcq,?_,h.Ad.setCell (p:=⟨g,j,none⟩) hb _⟩;rw[<-N3 x r d j m hj,<-hlq];exact h1
end Go.Proofs
end
section
namespace Go.Rb
def JD (a b k:Nat):Nat:=(a %2^k+b %2^k)/2^k
theorem Tv (a b:Nat):JD a b 0=0:=by simp[JD,Nat.mod_one]
theorem add_div (a b k:Nat):(a+b)/2^k=a/2^k+b/2^k+JD a b k:=by
 have h1:2^k*(a/2^k)+a %2^k=a:=Nat.div_add_mod a _;have h2:2^k*(b/2^k)+b %2^k=b:=Nat.div_add_mod b _;have e:a+b=(a %2^k+b %2^k)+2^k*(a/2^k+b/2^k):=by rw[Nat.mul_add];omega
 conv=>lhs;rw[e]
 rw[Nat.add_mul_div_left _ _ (An k)];unfold JD;omega
theorem ZC (a b k:Nat):JD a b k<2:=by
 unfold JD;rw[ad (An k)];have h1:a %2^k<2^k:=gR _ (An k);have h2:b %2^k<2^k:=gR _ (An k);omega
theorem Xp (a b k:Nat):(AQ a k+AQ b k+JD a b k) %2=AQ (a+b) k/\(AQ a k+AQ b k+JD a b k)/2=JD a b (k+1):=by
 constructor
 ·unfold AQ;rw[add_div];omega
 ·have h1:=add_div a b (k+1);have h2:=add_div a b k;have e:∀x:Nat,x/2^(k+1)=x/2^k/2:=fun x=>by rw[gj,SO]
  rw[e,e,e]at h1;unfold AQ;generalize(a+b)/2^k=s at*;generalize a/2^k=p at*;generalize b/2^k=q at*;omega
def KX (a b k:Nat):Nat:=if a %2^k<b %2^k then 1 else 0
theorem SK {a b:Nat}(h:b<=a) (k:Nat):(a-b)/2^k+b/2^k+KX a b k=a/2^k:=by
 have h1:2^k*(a/2^k)+a %2^k=a:=Nat.div_add_mod a _;have h2:2^k*(b/2^k)+b %2^k=b:=Nat.div_add_mod b _;have p:=An k;have m1:a %2^k<2^k:=gR _ p;have m2:b %2^k<2^k:=gR _ p;have d:b/2^k<=a/2^k:=Nat.div_le_div_right h;obtain⟨q,hq⟩:∃q,a/2^k=b/2^k+q:=⟨a/2^k-b/2^k,by omega⟩;have e:2^k*(a/2^k)=2^k*(b/2^k)+2^k*q:=by rw[hq,Nat.mul_add]
 unfold KX;split
 ·rename_i hl;obtain⟨r,rfl⟩:∃r,q=r+1:=by
   cases q with
   |zero=>rw[Nat.mul_zero]at e;omega
   |succ r=>exact⟨r,rfl⟩
  rw[Nat.mul_add,gY]at e;have:(a-b)/2^k=r:=by
   refine Nat.div_eq_of_lt_le ?_ ?_
   ·rw[So];omega
   ·rw[UP,So r,Nat.one_mul];omega
  omega
 ·rename_i hl;have:(a-b)/2^k=q:=by
   refine Nat.div_eq_of_lt_le ?_ ?_
   ·rw[So];omega
   ·rw[UP,So q,Nat.one_mul];omega
  omega
theorem Kp (a b k:Nat):KX a b k<=1:=by unfold KX;split<;>omega
theorem NT {a b:Nat}(h:b<=a) (k:Nat):(AQ b k+KX a b k<=AQ a k/\AQ (a-b) k=AQ a k-AQ b k-KX a b k/\KX a b (k+1)=0)\/(AQ a k<AQ b k+KX a b k/\AQ (a-b) k+AQ b k+KX a b k=AQ a k+2/\KX a b (k+1)=1):=by
 have h1:=SK h (k+1);have h2:=SK h k;have e:∀x:Nat,x/2^(k+1)=x/2^k/2:=fun x=>by rw[gj,SO]
 have s1:=Kp a b k;have s2:=Kp a b (k+1);rw[e,e,e]at h1;unfold AQ;generalize(a-b)/2^k=s at*;generalize a/2^k=p at*;generalize b/2^k=q at*;omega
theorem Kw (a b:Nat):KX a b 0=0:=by simp[KX,Nat.mod_one]
end Go.Rb
namespace Go.Proofs
open Go.RowKit Go.Pf Go.Rb
theorem EZ:(Tryz.prog.info? 3).map (fun i=>(i.zero,i.size,i.bytes))=some (some (.int .i64 0),1,8):=by kernel_rfl
def Ao (x m:Nat):List Value:=(List.range m).map fun j=>Value.int .i64 (AQ x j:Nat)
theorem Ay (x m:Nat):(Ao x m).length=m:=by simp[Ao]
theorem Bu (x m j:Nat) (h:j<m):(Ao x m)[j]? =some (.int .i64 (AQ x j:Nat)):=by simp[Ao,h]
theorem Lp (x m c:Nat) (h:AQ x m=c):Ao x (m+1)=Ao x m++ [.int .i64 (c:Nat)]:=by
 unfold Ao;rw[List.range_succ,List.map_append,<-h];rfl
theorem Ap.D4 {w:World} {b:Nat} {v:Value} {x m:Nat}(h:w.ownsRow b 3 1 v m (Ao x m)) (hx:x<2^m):Ap w v x m:=by
 rcases h.2 with⟨rfl,rfl⟩|⟨g,cap,cur,rfl,_,hg,hnc,hcm,hcs,htake⟩
 ·refine .inl ⟨rfl,by simpa using hx,rfl⟩
 ·refine .inr ⟨g,0,cap,rfl,hnc,hcm,(OF.1 hg).1,hx,fun j hj=> ?_⟩;have h1:=World.ownsRow.cellAt h j (by omega);rw[gX,h1,Bu x m j hj]
theorem DW {w:World} {b:Nat} {v:Value} {n:Nat} {xs:List Value}(h:w.ownsRow b 3 1 v n xs):∃a c,v= .slice a n c:=by
 rcases h.2 with⟨rfl,rfl⟩|⟨g,cap,cur,rfl,_⟩
 ·exact⟨_,_,rfl⟩
 ·exact⟨_,_,rfl⟩
structure OB (B1:Nat) (W1:World) (x k:Nat) (v:Value) (wr:World):Prop where
 own:wr.ownsRow B1 3 1 v k (Ao x k)
 Ad:Below B1 W1 wr
 le:B1<=wr.heap.size
theorem OB.next {B1:Nat} {W1:World} {x k c:Nat} {v v':Value} {wr w2:World} {ob:Obj}(h:OB B1 W1 x k v wr) (hc:AQ x k=c) (hown:w2.ownsRow B1 3 1 v' (k+1) (Ao x k++ [.int .i64 (c:Nat)])) (hg:(wr.alloc ob).grownBy w2 v.ownBlock):OB B1 W1 x (k+1) v' w2:=by
 have hb:=(h.Ad.alloc h.le ob).grown hg (by have:=h.le;simp;omega) (fun b hb=>by have:=(h.own.lt b hb).1;omega);refine⟨by rw[Lp x k c hc];exact hown,hb,?_⟩;have:=hg.size;have:=h.le;simp at*;omega
def KA (x:Nat) (w:World) (e:Ending) (w':World):Prop:=∃(sl:Value) (m:Nat),e= .returned sl/\T2 x m/\Ap w' sl x m/\Below w.heap.size w w'
theorem fN (va vb:Value) (a b la lb:Nat) (w:World) (ha:Hid (Ap w va a la)) (hb:Hid (Ap w vb b lb)) (hla:la<=1000000000) (hlb:lb<=1000000000):
 Calls Tryz.prog 285 #[va,vb] w (KA (a+b) w):=by
 obtain⟨aa,ac,rfl⟩:=ha.out.slice;obtain⟨ba,bc,rfl⟩:=hb.out.slice;obtain⟨i0,hi,hz0,hz1,hz2⟩:=info_parts EZ;obtain⟨M,hM⟩:∃M,M=max la lb:=⟨_,rfl⟩;go_enter Tryz.func285,Tryz.ntmps285;go_wp2
 go_loopw [5,6,7] (fun out cr iv wr=>∃k:Nat,k<=M+1/\iv= .int .i64 k/\cr= .int .i64 (JD a b k)/\OB w.heap.size w (a+b) k out wr/\(k=M+1->JD a b k=0)) (fun _ _ iv _=>M+1-(intOf iv).toNat)
 case atStart=>exact⟨0,by omega,rfl,by rw[Tv];rfl,⟨World.ownsRow_nil _ _ _ _,AH _ _,nR _⟩,fun h=>by omega⟩
 case round=>
  obtain⟨k,hk,rfl,rfl,hob,hend⟩:=hrel;obtain⟨oa,oc,ho⟩:=DW hob.own;subst ho;have hlt:=ZC a b k;obtain⟨c,hc⟩:∃c,c=JD a b k:=⟨_,rfl⟩;obtain⟨p,hp⟩:∃c,c=AQ a k:=⟨_,rfl⟩;obtain⟨q,hq⟩:∃c,c=AQ b k:=⟨_,rfl⟩;have hp2:=Bi a k;have hq2:=Bi b k;obtain⟨t,ht⟩:∃t,t=p+q+c:=⟨_,rfl⟩;obtain⟨n1,n2⟩:=Xp a b k;rw[<-hc,<-hp,<-hq,<-ht]at n1 n2;rw[<-hc]at hlt hend⊢;rw[<-hp]at hp2;rw[<-hq]at hq2;obtain⟨t1,ht1⟩:∃t1,t1=t %2:=⟨_,rfl⟩;obtain⟨t2,ht2⟩:∃t2,t2=t/2:=⟨_,rfl⟩;have a1:=Hi (ha.out.below (w':=wr) hob.Ad);have b1:=Hi (hb.out.below (w':=wr) hob.Ad);have CA:Hid (Calls Tryz.prog 250 #[.slice aa la ac,.int .i64 k] wr fun e w'=>e= .returned (.int .i64 p)/\wr=w'):=Hi (by rw[hp];exact Xb _ a la k wr a1);have CB:Hid (Calls Tryz.prog 250 #[.slice ba lb bc,.int .i64 k] wr fun e w'=>e= .returned (.int .i64 q)/\wr=w'):=Hi (by rw[hq];exact Xb _ b lb k wr b1);have e1:(p:Int)+(q:Int)+(c:Int)=(t:Int):=by omega
  have e2:(t:Int) %2=(t1:Int):=by omega
  have e3:(t:Int)/2=(t2:Int):=by omega
  have HB1:Hid (AQ (a+b) k=t1):=Hi (by rw[<-n1,ht1]);have HB2:Hid (JD a b (k+1)=t2):=Hi (by rw[<-n2,ht2]);have pb:(p:Int)<=1:=by omega
  have qb:(q:Int)<=1:=by omega
  have cb:(c:Int)<=1:=by omega
  have tb:(t:Int)<=3:=by omega
  have HOB:=Hi hob;have HC:=Hi hc;have HEND:=Hi hend;have hown:=hob.own;have hsz:=hob.le;by_cases hgo:k<la\/k<lb\/0<c
  ·have kM:k<=M:=by
    rcases hgo with h|h|h
    ·omega
    ·omega
    ·rcases BY M k with h4|h4
     ·have:=HEND.out (by omega);omega
     ·exact h4
   have hE:Hid (k+1=M+1->t2=0):=Hi (fun h=>by
    have pz:p=0:=by rw[hp];exact Cv ha.out.lt (by omega)
    have qz:q=0:=by rw[hq];exact Cv hb.out.lt (by omega)
    omega)
   have guard:(decide (k<la)=true)\/(decide (k<la)=false/\decide (k<lb)=true)\/(decide (k<la)=false/\decide (k<lb)=false/\decide (0<c)=true):=by
    by_cases h1:k<la
    ·exact .inl (AN (by omega))
    ·by_cases h2:k<lb
     ·exact .inr (.inl ⟨AS (by omega),AN (by omega)⟩)
     ·exact .inr (.inr ⟨AS (by omega),AS (by omega),AN (by omega)⟩)
   clear hgo hc hp hq ht n1 n2 ht1 ht2 hend hob hlt hp2 hq2;rcases guard with g1|⟨g1,g2⟩|⟨g1,g2,g3⟩
   all_goals
    go_wp2_with (first|(go_at_call 250;(first|(with_reducible refine CA.out.mono ?_)|(with_reducible refine CB.out.mono ?_));rintro e w' ⟨rfl,rfl⟩)|(at_builtin;refine wpList_append_own _ rfl _ _ 89 rfl w.heap.size 3 i0 (.int .i64 0) 1 8 Tryz.underlying89 hi hz0 hz1 hz2 rfl (by decide) _ _ _ rfl (hown.alloc _) ⟨wr.heap.size,0,none⟩ 1 1 [.int .i64 (t1:Nat)] rfl rfl ?c1 ?c2 ?c3 ?c4 ?c5 ?_))
    case c1=>
     intro j u hj
     match j,hj with
     |0,hj=>simp at hj;subst hj;simp[Addr.add]
    case c2=>intro u hu;simp at hu;subst hu;rfl
    case c3=>unfold maxLen;omega
    case c4=>omega
    case c5=>simp;omega
    intro v' w2 hown' hgrow _;have HN:=Hi (HOB.out.next HB1.out hown' hgrow);clear hown' hgrow;go_wp2;go_roundw
    case rel=>exact⟨k+1,by omega,by go_num,by rw[HB2.out],HN.out,fun h=>by rw[HB2.out];exact hE.out h⟩
    case measure=>simp[intOf];omega
  ·have g1:decide (k<la)=false:=BC;have g2:decide (k<lb)=false:=BC;have g3:decide (0<c)=false:=BC;have hfin:a+b<2^k:=by
    have h1:=add_div a b k;rw[bh (IN ha.out.lt (AT (by decide) (by omega))),bh (IN hb.out.lt (AT (by decide) (by omega))),<-HC.out]at h1;have h2:(a+b)/2^k=0:=by omega
    exact(Nat.div_eq_zero_iff_lt (An k)).1 h2
   have HV:=Hi (Ap.D4 hown hfin);have HBL:=Hi hob.Ad;have HFIN:=Hi hfin;clear hgo hc hp hq ht n1 n2 ht1 ht2 hend hob hlt hp2 hq2 hown hfin HOB
   go_wp2_with (go_at_call 108;(with_reducible refine(PF _ (a+b) k _ HV.out).mono ?_);rintro e w' ⟨m',ht,rfl,rfl⟩)
   go_ret;exact⟨_,m',rfl,ht,HV.out.cut (T2.le ht HFIN.out (nR _)) ht.1,HBL.out⟩
end Go.Proofs
end
section
namespace Go.Proofs
open Go.RowKit Go.Pf Go.Rb
theorem OB.drewN {B1:Nat} {W1:World} {x k:Nat} {v:Value} {wr:World}(h:OB B1 W1 x k v wr) (n:Nat):OB B1 W1 x k v (wr.drewN n):=⟨h.own,h.Ad.trans ⟨rfl,rfl,rfl,nR _,fun _ _=>rfl⟩,h.le⟩
theorem Zz (v:Value) (x m i:Nat) (w:World) (hv:Hid (Ap w v x m)):Calls Tryz.prog 250 #[v,.int .i64 i] w fun e w'=>e= .returned (.int .i64 (AQ x i))/\w'=w:=
 (Xb v x m i w hv).mono fun _ _ ⟨h1,h2⟩=>⟨h1,h2.symm⟩
theorem Ap.cellAt {w:World} {a:Option Addr} {c x m:Nat}(h:Ap w (.slice a m c) x m){j:Nat}(hj:j<m):∃b o,a=some ⟨b,o,none⟩/\w.cell? ⟨b,o+j,none⟩=some (.int .i64 (AQ x j)):=by
 rcases h with⟨_,_,h3⟩|⟨b,o,c',h1,h2,h3,h4,h5⟩
 ·omega
 ·simp only[Value.slice.injEq]at h1;exact⟨b,o,h1.1,h5.2 j hj⟩
theorem dc (va vb:Value) (a b la lb:Nat) (w:World) (ha:Hid (Ap w va a la)) (hb:Hid (Ap w vb b lb)) (hle:b<=a) (hla:la<=1000000000):
 Calls Tryz.prog 287 #[va,vb] w (KA (a-b) w):=by
 obtain⟨aa,ac,rfl⟩:=ha.out.slice;obtain⟨ba,bc,rfl⟩:=hb.out.slice;obtain⟨i0,hi,hz0,hz1,hz2⟩:=info_parts EZ;have HLE:=Hi hle;clear hle;go_enter Tryz.func287,Tryz.ntmps287;go_wp2
 go_loopw [5,6,7] (fun out cr iv wr=>∃k:Nat,k<=la/\iv= .int .i64 k/\cr= .int .i64 (KX a b k)/\OB w.heap.size w (a-b) k out wr) (fun _ _ iv _=>la-(intOf iv).toNat)
 case atStart=>exact⟨0,by omega,rfl,by rw[Kw];rfl,⟨World.ownsRow_nil _ _ _ _,AH _ _,nR _⟩⟩
 case round=>
  obtain⟨k,hk,rfl,rfl,hob⟩:=hrel;obtain⟨oa,oc,ho⟩:=DW hob.own;subst ho;by_cases hlt:k<la
  ·have a1:=ha.out.below (w':=wr) hob.Ad;obtain⟨g,o,rfl,hcell⟩:=a1.cellAt hlt;obtain⟨c,hc⟩:∃c,c=KX a b k:=⟨_,rfl⟩;obtain⟨c2,hc2⟩:∃c,c=KX a b (k+1):=⟨_,rfl⟩;obtain⟨p,hp⟩:∃c,c=AQ a k:=⟨_,rfl⟩;obtain⟨q,hq⟩:∃c,c=AQ b k:=⟨_,rfl⟩;obtain⟨t1,ht1⟩:∃c,c=AQ (a-b) k:=⟨_,rfl⟩;have hp2:=Bi a k;have hq2:=Bi b k;have hs1:=Kp a b k;have sb:=NT HLE.out k;rw[<-hp]at hcell hp2 sb;rw[<-hq]at hq2 sb;rw[<-hc]at hs1 sb⊢;rw[<-hc2,<-ht1]at sb;have b1:=Hi (hb.out.below (w':=wr) hob.Ad);have CB:Hid (∀n,Calls Tryz.prog 250 #[.slice ba lb bc,.int .i64 k] (wr.drewN n) fun e w'=>e= .returned (.int .i64 q)/\w'=wr.drewN n):=Hi (fun n=>by rw[hq];exact Zz _ b lb k (wr.drewN n) b1);have HB1:Hid (AQ (a-b) k=t1):=Hi ht1.symm;have HB2:Hid (KX a b (k+1)=c2):=Hi hc2.symm;have pb:(p:Int)<=1:=by omega
   have qb:(q:Int)<=1:=by omega
   have cb:(c:Int)<=1:=by omega
   have HOB:=Hi hob;have hown:=hob.own;have hsz:=hob.le;have ki:(k:Int)<la:=by omega
   rcases sb with⟨s1,s2,s3⟩|⟨s1,s2,s3⟩
   ·have d0:decide ((p:Int)-q-c<0)=false:=BC;have d1:(p:Int)-q-c=t1:=by omega
    have d2:decide ((t1:Int)<0)=false:=BC;have E2:Hid (c2=0):=Hi s3;clear hc hc2 hp hq ht1 hp2 hq2 hs1 s1 s2 s3 hob a1;go_wp2
    go_quiet ((go_at_call 250;exact cX (CB.out _)))
    go_wp2_with (at_builtin;refine wpList_append_own _ rfl _ _ 89 rfl w.heap.size 3 i0 (.int .i64 0) 1 8 Tryz.underlying89 hi hz0 hz1 hz2 rfl (by decide) _ _ _ rfl (((HOB.out.drewN nq).own).alloc _) ⟨(wr.drewN nq).heap.size,0,none⟩ 1 1 [.int .i64 (t1:Nat)] rfl rfl ?c1 ?c2 ?c3 ?c4 ?c5 ?_)
    case c1=>
     intro j u hj
     match j,hj with
     |0,hj=>simp at hj;subst hj;exact World.cell?_alloc_new (wr.drewN nq) _ _ 0
    case c2=>intro u hu;simp at hu;subst hu;rfl
    case c3=>unfold maxLen;omega
    case c4=>omega
    case c5=>simp;omega
    intro v' w2 hown' hgrow _;have HN:=Hi ((HOB.out.drewN nq).next HB1.out hown' hgrow);clear hown' hgrow;go_wp2;go_roundw
    case rel=>exact⟨k+1,by omega,by go_num,by rw[HB2.out,E2.out];rfl,HN.out⟩
    case measure=>simp[intOf];omega
   ·have d1:(p:Int)-q-c=(t1:Int)-2:=by omega
    have d2:decide ((t1:Int)-2<0)=true:=A5;have d3:(t1:Int)-2+2=t1:=by omega
    have E2:Hid (c2=1):=Hi s3;have t1b:(t1:Int)<=1:=by omega
    clear hc hc2 hp hq ht1 hp2 hq2 hs1 s1 s2 s3 hob a1;go_wp2
    go_quiet ((go_at_call 250;exact cX (CB.out _)))
    go_wp2_with (at_builtin;refine wpList_append_own _ rfl _ _ 89 rfl w.heap.size 3 i0 (.int .i64 0) 1 8 Tryz.underlying89 hi hz0 hz1 hz2 rfl (by decide) _ _ _ rfl (((HOB.out.drewN nq).own).alloc _) ⟨(wr.drewN nq).heap.size,0,none⟩ 1 1 [.int .i64 (t1:Nat)] rfl rfl ?c1 ?c2 ?c3 ?c4 ?c5 ?_)
    case c1=>
     intro j u hj
     match j,hj with
     |0,hj=>simp at hj;subst hj;exact World.cell?_alloc_new (wr.drewN nq) _ _ 0
    case c2=>intro u hu;simp at hu;subst hu;rfl
    case c3=>unfold maxLen;omega
    case c4=>omega
    case c5=>simp;omega
    intro v' w2 hown' hgrow _;have HN:=Hi ((HOB.out.drewN nq).next HB1.out hown' hgrow);clear hown' hgrow;go_wp2;go_roundw
    case rel=>exact⟨k+1,by omega,by go_num,by rw[HB2.out,E2.out];rfl,HN.out⟩
    case measure=>simp[intOf];omega
  ·obtain rfl:k=la:=by omega
   have hfin:a-b<2^k:=IS (Nat.sub_le _ _) ha.out.lt;have HV:=Hi (Ap.D4 hob.own hfin);have HBL:=Hi hob.Ad;have HFIN:=Hi hfin;clear hob hfin
   go_wp2_with (go_at_call 108;(with_reducible refine(PF _ (a-b) k _ HV.out).mono ?_);rintro e w' ⟨m',ht,rfl,rfl⟩)
   go_ret;exact⟨_,m',rfl,ht,HV.out.cut (T2.le ht HFIN.out (nR _)) ht.1,HBL.out⟩
end Go.Proofs
end
section
namespace Go.Rb
theorem T2.Ip {a b m k:Nat}(ha:T2 a m) (hb:T2 b k) (h:m<k):a<b:=by
 have h1:=ha.1;rcases hb.2 with h2|h2
 ·omega
 ·have:=AT (n:=2) (by decide) (show m<=k-1 by omega);omega
theorem VH {a b k:Nat}(h:a/2^(k+1)=b/2^(k+1)):(AQ a k=AQ b k->a/2^k=b/2^k)/\(AQ a k<AQ b k->a<b)/\(AQ b k<AQ a k->b<a):=by
 have e:∀x:Nat,x/2^(k+1)=x/2^k/2:=fun x=>by rw[gj,SO]
 rw[e,e]at h;have key:∀x y:Nat,x/2^k<y/2^k->x<y:=fun x y hh=>by
  rcases BY x y with h1|h1
  ·exact h1
  ·have:=Nat.div_le_div_right (c:=2^k) h1;omega
 unfold AQ;refine⟨fun h1=> ?_,fun h1=>key _ _ ?_,fun h1=>key _ _ ?_⟩
 all_goals
  generalize a/2^k=p at*;generalize b/2^k=q at*;omega
end Go.Rb
namespace Go.Proofs
open Go.RowKit Go.Pf Go.Rb
theorem PK (w:World) (n k j:Nat):∃m,((w.drewN n).drewN k).drewN j=w.drewN m:=⟨n+k+j,by simp[Nat.add_assoc]⟩
theorem Ul (va vb:Value) (a b la lb:Nat) (w:World) (ha:Hid (Ap w va a la)) (hb:Hid (Ap w vb b lb)) (ta:T2 a la) (tb:T2 b lb) (hla:la<=1000000000):
 Calls Tryz.prog 286 #[va,vb] w fun e w'=>e= .returned (.bool (decide (a<b)))/\∃n,w'=w.drewN n:=by
 obtain⟨aa,ac,rfl⟩:=ha.out.slice;obtain⟨ba,bc,rfl⟩:=hb.out.slice;obtain⟨R,hR⟩:∃R,R=decide (a<b):=⟨_,rfl⟩;rw[<-hR];have HR:=Hi hR;clear hR;by_cases hl:la=lb
 ·subst hl;have hfin:Hid (a/2^la=b/2^la):=Hi (by rw[bh ta.1,bh tb.1]);have lz:((la:Int)==(la:Int))=true:=beq_self_eq_true _;clear ta tb;go_enter Tryz.func286,Tryz.ntmps286;go_wp2
  go_loopw [5] (fun iv wr=>∃(k n:Nat),k<=la/\iv= .int .i64 ((k:Int)-1)/\a/2^k=b/2^k/\wr=w.drewN n) (fun iv _=>(intOf iv+1).toNat)
  case atStart=>exact⟨la,0,nR _,rfl,hfin.out,rfl⟩
  case round=>
   obtain⟨k,n,hk,rfl,heq,rfl⟩:=hrel;cases k with
   |zero=>
    have hab:decide (a<b)=false:=by
     rw[gf,Nat.div_one,Nat.div_one]at heq;exact AS (by omega)
    have HAB:=Hi hab;clear heq hab;go_wp2;go_ret;exact⟨by rw[HR.out,HAB.out];rfl,n,rfl⟩
   |succ k=>
    have hlt:k<la:=by omega
    obtain⟨g,o,ga,hc1⟩:=ha.out.cellAt hlt;obtain⟨g2,o2,gb,hc2⟩:=hb.out.cellAt hlt;have ts:=VH heq;obtain⟨p,hp⟩:∃c,c=AQ a k:=⟨_,rfl⟩;obtain⟨q,hq⟩:∃c,c=AQ b k:=⟨_,rfl⟩;rw[<-hp]at hc1 ts;rw[<-hq]at hc2 ts;have hd1:(w.drewN n).cell? ⟨g,o+k,none⟩=some (.int .i64 p):=hc1;have hd2:(w.drewN n).cell? ⟨g2,o2+k,none⟩=some (.int .i64 q):=hc2;have ki:(k:Int)<la:=by omega
    have k1:((k+1:Nat):Int)-1=k:=by omega
    rw[k1];have k0:decide ((0:Int)<=(k:Int))=true:=A5;have TS:=Hi ts;clear hp hq ts heq;subst ga gb;by_cases hpq:p=q
    ·have ne:((p:Int)==q)=true:=by rw[hpq];exact beq_self_eq_true _
     have nb:((p:Int) !=q)=false:=by rw[bne,ne];rfl
     have HE:=Hi (TS.out.1 hpq);clear hpq;go_wp2
     go_quiet (fail)
     go_wp2;go_roundw
     case rel=>exact⟨k,n+nq,by omega,rfl,HE.out,by first|rfl|rw[World.drewN_drewN]⟩
     case measure=>simp[intOf]
    ·have ne:((p:Int)==q)=false:=by rw[Lq];intro h;have:=eq_of_beq h;omega
     have nb:((p:Int) !=q)=true:=by rw[bne,ne];rfl
     have hab:decide ((p:Int)<q)=decide (a<b):=by
      rcases Nat.lt_or_gt_of_ne hpq with h|h
      ·rw[AN (TS.out.2.1 h),AN (by omega)]
      ·have:=TS.out.2.2 h;rw[AS (by omega),AS (by omega)]
     have HAB:=Hi hab;clear hpq hab;go_wp2
     go_quiet (fail)
     go_wp2
     go_quiet (fail)
     go_wp2;go_ret;refine⟨by rw[HR.out,<-HAB.out];first|rfl|simp,PK _ _ _ _⟩
 ·have lz:((la:Int)==(lb:Int))=false:=by rw[Lq];intro h;have:=eq_of_beq h;omega
  have hab:decide (la<lb)=decide (a<b):=by
   rcases Nat.lt_or_gt_of_ne hl with h|h
   ·rw[AN h,AN (ta.Ip tb h)]
   ·have:=tb.Ip ta h;rw[AS (by omega),AS (by omega)]
  have HAB:=Hi hab;clear hl hab;go_enter Tryz.func286,Tryz.ntmps286;go_wp2;go_ret;exact⟨by rw[HR.out,<-HAB.out];first|done|rfl,0,rfl⟩
theorem Ap.setCell {w:World} {v:Value} {x m:Nat}(h:Ap w v x m){a:Addr} {u0:Value}(h0:w.cell? a=some u0) (hne:∀k n,u0≠ .int k n) (u:Value):Ap (w.setCell a u) v x m:=by
 rcases h with h|⟨b,o,c,rfl,h2,h3,h4,h5,h6⟩
 ·exact .inl h
 ·refine .inr ⟨b,o,c,rfl,h2,h3,by simpa[World.setCell]using h4,h5,fun j hj=> ?_⟩;have h7:=h6 j hj;rw[World.cell?_setCell_other,h7];rintro rfl;rw[h0]at h7;exact hne _ _ (Option.some.inj h7)
structure Bm (w:World) (b:Nat):Prop where
 h:w.heap[b]? =some (.cells #[.bool false,.slice none 0 0] 135 (0,0))
theorem Bm.below {w w':World} {b:Nat}(h:Bm w b) (hb:Below w.heap.size w w'):Bm w' b:=⟨(hb.block b (OF.1 h.h).1).trans h.h⟩
theorem Bm.c0 {w:World} {b:Nat}(h:Bm w b):w.cell? ⟨b,0,none⟩=some (.bool false):=by rw[Lib.cell_of_heap h.h];rfl
theorem Bm.c1 {w:World} {b:Nat}(h:Bm w b):w.cell? ⟨b,1,none⟩=some (.slice none 0 0):=by rw[Lib.cell_of_heap h.h];rfl
theorem Bm.f {w:World} {b:Nat}(h:Bm w b) (i:Nat):w.frozen? ⟨b,i,none⟩=false:=Lib.frozen_of_heap h.h i
theorem Bm.lt {w:World} {b:Nat}(h:Bm w b):b<w.heap.size:=(OF.1 h.h).1
theorem Bm.DM (w:World):Bm (w.alloc (.cells #[.bool false,.slice none 0 0] 135)) w.heap.size:=⟨dk w _⟩
theorem Bm.bJ (w:World) (o:Obj):Bm ((w.alloc o).alloc (.cells #[.bool false,.slice none 0 0] 135)) (w.heap.size+1):=by
 have h:=Bm.DM (w.alloc o)
 rwa [show(w.alloc o).heap.size=w.heap.size+1 by simp]at h
theorem Bm.Xk (w:World) (o o2:Obj):Bm (((w.alloc o).alloc o2).alloc (.cells #[.bool false,.slice none 0 0] 135)) (w.heap.size+2):=by
 have h:=Bm.bJ (w.alloc o) o2
 rwa [show(w.alloc o).heap.size+1=w.heap.size+2 by simp]at h
theorem Ap.tok {w:World} {v:Value} {x m b:Nat}(h:Ap w v x m) (t:Bm w b) (u0 u1:Value):Ap ((w.setCell ⟨b,0,none⟩ u0).setCell ⟨b,1,none⟩ u1) v x m:=by
 refine(h.setCell t.c0 (by intro k n h;cases h) u0).setCell (a:=⟨b,1,none⟩) (u0:= .slice none 0 0) ?_ (by intro k n h;cases h) u1;rw[World.cell?_setCell_other (h:=fun e=>by simp at e)];exact t.c1
theorem aU (neg:Bool) (v:Value) (x m:Nat) (w:World) (hv:Hid (Ap w v x m)):Calls Tryz.prog 270 #[.agg #[.bool neg,v]] w (Fx (!neg) x w):=by
 go_enter Tryz.func270,Tryz.ntmps270
 go_wp2_with fail
 generalize hW:(w.alloc _).alloc _=W1;have bl:Below w.heap.size w W1:=by subst hW;exact((AH _ _).alloc (nR _) _).alloc (by simp) _
 have c0:W1.cell? ⟨w.heap.size,0,none⟩=some (.bool neg):=by subst hW;go_simp
 have c1:W1.cell? ⟨w.heap.size,1,none⟩=some v:=by subst hW;go_simp
 have tk:Bm W1 (w.heap.size+1):=by subst hW;exact Bm.bJ w _
 have hv1:=Hi (hv.out.below bl);clear hW
 go_wp2_with (go_at_call 109;(with_reducible refine(SH (!neg) v x m _ hv1).mono ?_))
 rintro e W2 ⟨sl,m',rfl,ht,hv2,b2⟩;obtain⟨a,c,rfl⟩:=hv2.slice;have t2:=tk.below b2;have x0:=t2.c0;have x1:=t2.c1;have y0:=t2.f 0;have y1:=t2.f 1;have HV:=Hi (hv2.tok t2 (.bool (!neg&&decide (0<x))) (.slice a m' c));have BL:=Hi (bl.trans (b2.mono bl.size));clear hv2 b2 tk t2 c0 c1 bl;obtain⟨B,hB⟩:∃B,B=(!neg&&decide (0<x)):=⟨_,rfl⟩;rw[<-hB]at HV⊢;have HB:=Hi hB;clear hB;go_wp2;refine AI (v:= .agg #[.bool B,.slice a m' c]) ?_ rfl ⟨_,m',by rw[HB.out],ht,HV.out,?_⟩
 ·simp only[results,Tryz.results270];go_simp
 ·iterate 2 refine By ?_ (by simp) _
  exact BL.out
end Go.Proofs
end
