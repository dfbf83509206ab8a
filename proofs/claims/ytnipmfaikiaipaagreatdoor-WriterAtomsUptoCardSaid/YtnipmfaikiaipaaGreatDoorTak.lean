import Derived.Shelf.Strconv.Itoa0
import Derived.Shelf.Strconv.Itoa1
import Derived.Shelf.LaysM
import Derived.Shelf.Strconv.Itoa2
import Derived.Shelf.Strconv.Itoa3
import Derived.Shelf.Unicode.DecodeSlow
import Derived.Shelf.Unicode.DecodeAny
import Derived.Laws.CopyOwn
import Derived.Lib.RuneBytes
import Derived.Lib.TrimUEq
import Derived.Lib.Small
import Derived.Laws.AppendOwn
import Derived.Laws.OwnMore
import Derived.Lib.UnsafeStr
import Derived.Laws.BytesArg
import Derived.Lib.Builder
import Derived.Lib.FrozenHead
import Derived.Test.YtnipmfaikiaipaaGreatDoorTaa
set_option maxRecDepth 1000000
set_option maxHeartbeats 40000000
section
namespace Go.Bg
def B:Nat:=4294967296
def A0 (x j:Nat):Nat:=x/B^j %B
theorem K9:0<B:=by decide
theorem Bk (j:Nat):0<B^j:=Nat.pow_pos K9
theorem IU (x j:Nat):A0 x j<B:=gR _ K9
theorem TV {x j:Nat}(h:x<B^j):A0 x j=0:=by unfold A0;rw[bh h];rfl
theorem KQ {x m:Nat}(h:x<B^(m+1)) (h0:A0 x m=0):x<B^m:=by
 unfold A0 at h0;rw[gj]at h;have h1:x/B^m<B:=Nat.div_lt_of_lt_mul h;rw[e8 h1]at h0;exact(Nat.div_eq_zero_iff_lt (Bk m)).1 h0
theorem KY {x m:Nat}(h0:A0 x m≠0):B^m<=x:=by
 rcases BY x (B^m)with h1|h1
 ·exact absurd (TV h1) h0
 ·exact h1
def Bj (x m:Nat):Prop:=x<B^m/\(m=0\/B^(m-1)<=x)
theorem Bj.BB {x m:Nat}(h:Bj x m):m=0↔x=0:=by
 obtain⟨h1,h2⟩:=h;constructor
 ·rintro rfl;simpa using h1
 ·rintro rfl;rcases h2 with h2|h2
  ·exact h2
  ·have:=Bk (m-1);omega
theorem Bj.inj {x m n:Nat}(h:Bj x m) (h':Bj x n):m=n:=by
 have key:∀{a b:Nat},Bj x a->Bj x b->¬a<b:=by
  intro a b ha hb hab;rcases hb.2 with h2|h2
  ·omega
  ·have h3:B^a<=B^(b-1):=AT K9 (by omega);have:=ha.1;omega
 have h1:=key h h';have h2:=key h' h;omega
theorem Wo (x k:Nat):x/B^k=x/B^(k+1)*B+A0 x k:=by
 unfold A0;rw[gj,<-SO];have:=Nat.div_add_mod (x/B^k) B;rw[So]at this;exact this.symm
theorem U6 (x r k:Nat) (hr:0<r):((x/B^(k+1)) %r*B+A0 x k)/r=A0 (x/r) k/\((x/B^(k+1)) %r*B+A0 x k) %r=(x/B^k) %r:=by
 obtain⟨y,hy⟩:∃y,y=x/B^(k+1):=⟨_,rfl⟩;have e:=Wo x k;have hlim:=IU x k;have e2:A0 (x/r) k=x/B^k/r %B:=by
  unfold A0;rw[SO,SO,So]
 rw[e2,e,<-hy];clear e e2 hy;obtain⟨l,hl⟩:∃l,l=A0 x k:=⟨_,rfl⟩;rw[<-hl]at hlim⊢;clear hl;have hm:r*(y/r)+y %r=y:=Nat.div_add_mod y r;have hrem:y %r<r:=gR _ hr;obtain⟨q,hq⟩:∃q,q=y/r:=⟨_,rfl⟩;obtain⟨m,hm2⟩:∃m,m=y %r:=⟨_,rfl⟩;rw[<-hq,<-hm2]at hm;rw[<-hm2]at hrem⊢;have h1:y*B+l=r*(q*B)+(m*B+l):=by
  rw[<-hm,UP,G0,Nat.add_assoc]
 rw[h1,Nat.mul_add_div hr,Nat.mul_add_mod];have h2:m*B+l<r*B:=by
  have:(m+1)*B<=r*B:=FF B hrem;rw[UP]at this;omega
 have h3:(m*B+l)/r<B:=Nat.div_lt_of_lt_mul h2;refine⟨?_,rfl⟩;rw[So q B,Nat.mul_add_mod,e8 h3]
def cT (r:Nat):Nat->Nat->List Nat
 |0,_=> []
 |f+1,n=>if n=0 then []else n %r::cT r f (n/r)
def Hk (r n:Nat):List Nat:=cT r n n
theorem VS {r:Nat}(hr:2<=r):∀(f n:Nat),n<=f->cT r f n=cT r n n:=by
 intro f
 induction f using Nat.strongRecOn with
 |_ f ih=>
  intro n hn
  match f,n,hn with
  |0,0,_=>rfl
  |f+1,0,_=>rfl
  |f+1,n+1,hn=>
   have hd:(n+1)/r<=n:=by
    have:(n+1)/r<n+1:=Nat.div_lt_self (by omega) (by omega);omega
   unfold cT;rw[if_neg (by omega),if_neg (by omega),ih f (by omega) _ (by omega)];rcases BY n (f+1)with h|h
   ·rw[ih n (by omega) _ hd]
   ·omega
theorem Gn (r:Nat):Hk r 0= []:=rfl
theorem D9 {r n:Nat}(hr:2<=r) (hn:n≠0):Hk r n=n %r::Hk r (n/r):=by
 obtain⟨m,rfl⟩:∃m,n=m+1:=⟨n-1,by omega⟩;have hd:(m+1)/r<=m:=by
  have:(m+1)/r<m+1:=Nat.div_lt_self (by omega) (by omega);omega
 unfold Hk
 conv=>lhs;unfold cT
 rw[if_neg (by omega),VS hr m _ hd]
def J5 (d:Nat):UInt8:=if d<10 then(48+d).toUInt8 else(87+d).toUInt8
def Ca (r n:Nat):List UInt8:=if n=0 then [48]else((Hk r n).map J5).reverse
end Go.Bg
namespace Go.Proofs
open Go.RowKit Go.Bg
def eI (w:World) (b o x m:Nat):Prop:=x<B^m/\∀j,j<m->w.cell? ⟨b,o+j,none⟩=some (.int .u32 (A0 x j))
def Co (w:World) (v:Value) (x m:Nat):Prop:=(v= .slice none 0 0/\x=0/\m=0)\/∃b o c,v= .slice (some ⟨b,o,none⟩) m c/\m<=c/\c<=maxLen/\eI w b o x m
def Kr (v:Value) (w:World) (x:Nat) (e:Ending) (w':World):Prop:=
 ∃m',Bj x m'/\e= .returned (match v with| .slice a _ c=> .slice a m' c|v=>v)/\w=w'
theorem Oh (w:World):Calls Tryz.prog 221 #[.slice none 0 0] w (Kr (.slice none 0 0) w 0):=by
 go_enter Tryz.func221,Tryz.ntmps221;go_wp2;refine wp_loop_rounds 1 ?_;rw[rounds_succ];go_wp2;go_ret;exact⟨0,⟨by decide,.inl rfl⟩,rfl,rfl⟩
theorem Wl (b o c x m:Nat) (w:World) (hc:m<=c) (hmax:c<=9223372036854775807) (hl:Hid (eI w b o x m)):Calls Tryz.prog 221 #[.slice (some ⟨b,o,none⟩) m c] w (Kr (.slice (some ⟨b,o,none⟩) m c) w x):=by
 go_enter Tryz.func221,Tryz.ntmps221;go_wp2
 go_loop [0] (fun v=>∃k:Nat,k<=m/\x<B^k/\v= .slice (some ⟨b,o,none⟩) k c) (fun v=>match v with| .slice _ k _=>k|_=>0)
 case atStart=>exact⟨m,nR _,hl.out.1,rfl⟩
 case round=>
  obtain⟨k,hk,hx,rfl⟩:=hrel;have HX:=Hi hx;clear hx;cases k with
  |zero=>
   go_wp2;go_ret;exact⟨0,⟨HX.out,.inl rfl⟩,rfl,rfl⟩
  |succ k=>
   have hcell:w.cell? ⟨b,o+k,none⟩=some (.int .u32 (A0 x k)):=hl.out.2 k (by omega);by_cases h0:A0 x k=0
   ·have t0:((A0 x k:Int)==0)=true:=by rw[h0];rfl
    have H0:=Hi h0;clear h0;go_wp2;go_round
    case rel=>exact⟨k,by omega,KQ HX.out H0.out,rfl⟩
    case measure=>simp
   ·have t0:((A0 x k:Int)==0)=false:=by rw[Lq];intro h;have:=eq_of_beq h;omega
    have H0:=Hi h0;clear h0;go_wp2;go_ret;exact⟨k+1,⟨HX.out,.inr (KY H0.out)⟩,rfl,rfl⟩
theorem Tryz.trim (v:Value) (x m:Nat) (w:World) (hv:Co w v x m):Calls Tryz.prog 221 #[v] w (Kr v w x):=by
 rcases hv with⟨rfl,rfl,rfl⟩|⟨b,o,c,rfl,h1,h2,h3⟩
 ·exact Oh w
 ·unfold maxLen at h2;exact Wl b o c x m w h1 h2 (Hi h3)
end Go.Proofs
end
section
set_option linter.unusedVariables false
namespace Go.Proofs
open Go.Shelf
def Ov:Go.Shelf.Ren:=⟨fun|119=>174|n=>n,fun|21=>21|4=>4|n=>n,fun|n=>n⟩
theorem XQ:Go.Proofs.Lays.n119 Tryz.prog Ov:= {
 mixed:=by kernel_rfl
 f119:=Tryz.func174.trans (congrArg some (by kernel_rfl))
 t4:=Tryz.underlying4
 a4:=Tryz.isAgg4
 z4:=Tryz.sizeOf4
 v4:=Tryz.zeroValue4
 t21:=Tryz.underlying21
 a21:=Tryz.isAgg21
 z21:=Tryz.sizeOf21
 v21:=Tryz.zeroValue21}
theorem Tryz.utf8_ValidRune (r:Int) (w:World):
 Calls Tryz.prog 174 #[.int .i32 r] w fun e w'=>e= .returned (.bool (Lib.validRune r))/\w'=w:=Any.utf8_ValidRune XQ r w
def Ok:Go.Shelf.Ren:=⟨fun|128=>254|n=>n,fun|51=>176|3=>3|4=>4|46=>121|5=>5|9=>9|n=>n,fun|n=>n⟩
theorem Yx:Go.Proofs.Lays.n128 Tryz.prog Ok:= {
 mixed:=by kernel_rfl
 f128:=Tryz.func254.trans (congrArg some (by kernel_rfl))
 t3:=Tryz.underlying3
 a3:=Tryz.isAgg3
 z3:=Tryz.sizeOf3
 v3:=Tryz.zeroValue3
 t4:=Tryz.underlying4
 a4:=Tryz.isAgg4
 z4:=Tryz.sizeOf4
 v4:=Tryz.zeroValue4
 t5:=Tryz.underlying5
 a5:=Tryz.isAgg5
 z5:=Tryz.sizeOf5
 v5:=Tryz.zeroValue5
 t9:=Tryz.underlying9
 a9:=Tryz.isAgg9
 z9:=Tryz.sizeOf9
 v9:=Tryz.zeroValue9
 t46:=Tryz.underlying121
 a46:=Tryz.isAgg121
 z46:=Tryz.sizeOf121
 v46:=Tryz.zeroValue121
 t51:=Tryz.underlying176
 a51:=Tryz.isAgg176
 z51:=Tryz.sizeOf176
 v51:=Tryz.zeroValue176}
theorem Tryz.bits_Len32 (x:Int) (w:World) (h0:0<=x) (h1:x<=4294967295):
 Calls Tryz.prog 254 #[.int .u32 x] w fun e w'=>e= .returned (.int .i64 (Lib.bitLen x.toNat))/\w'=w:=Any.bits_Len32 Yx x w h0 h1
def NS:Go.Shelf.Ren:=⟨fun|171=>55|243=>100|246=>103|283=>152|284=>153|285=>154|286=>155|129=>191|317=>194|318=>204|319=>205|320=>206|337=>247|338=>248|n=>n,fun|3=>3|9=>9|2=>2|4=>4|171=>207|0=>0|53=>28|37=>104|5=>5|173=>210|212=>265|51=>176|20=>20|213=>266|46=>121|232=>251|233=>326|n=>n,fun|17=>9|18=>13|19=>14|n=>n⟩
theorem Ur:Go.Proofs.LaysM.n171 Tryz.prog NS:= {
 mixed:=by kernel_rfl
 f129:=Tryz.func191.trans (congrArg some (by kernel_rfl))
 f171:=Tryz.func55.trans (congrArg some (by kernel_rfl))
 f243:=Tryz.func100.trans (congrArg some (by kernel_rfl))
 f246:=Tryz.func103.trans (congrArg some (by kernel_rfl))
 f283:=Tryz.func152.trans (congrArg some (by kernel_rfl))
 f284:=Tryz.func153.trans (congrArg some (by kernel_rfl))
 f285:=Tryz.func154.trans (congrArg some (by kernel_rfl))
 f286:=Tryz.func155.trans (congrArg some (by kernel_rfl))
 f317:=Tryz.func194.trans (congrArg some (by kernel_rfl))
 f318:=Tryz.func204.trans (congrArg some (by kernel_rfl))
 f319:=Tryz.func205.trans (congrArg some (by kernel_rfl))
 f320:=Tryz.func206.trans (congrArg some (by kernel_rfl))
 f337:=Tryz.func247.trans (congrArg some (by kernel_rfl))
 f338:=Tryz.func248.trans (congrArg some (by kernel_rfl))
 t0:=Tryz.underlying0
 a0:=Tryz.isAgg0
 z0:=Tryz.sizeOf0
 v0:=Tryz.zeroValue0
 t2:=Tryz.underlying2
 a2:=Tryz.isAgg2
 z2:=Tryz.sizeOf2
 v2:=Tryz.zeroValue2
 t3:=Tryz.underlying3
 a3:=Tryz.isAgg3
 z3:=Tryz.sizeOf3
 v3:=Tryz.zeroValue3
 t4:=Tryz.underlying4
 a4:=Tryz.isAgg4
 z4:=Tryz.sizeOf4
 v4:=Tryz.zeroValue4
 t5:=Tryz.underlying5
 a5:=Tryz.isAgg5
 z5:=Tryz.sizeOf5
 v5:=Tryz.zeroValue5
 t9:=Tryz.underlying9
 a9:=Tryz.isAgg9
 z9:=Tryz.sizeOf9
 v9:=Tryz.zeroValue9
 t20:=Tryz.underlying20
 a20:=Tryz.isAgg20
 z20:=Tryz.sizeOf20
 v20:=Tryz.zeroValue20
 t37:=Tryz.underlying104
 a37:=Tryz.isAgg104
 z37:=Tryz.sizeOf104
 v37:=Tryz.zeroValue104
 t46:=Tryz.underlying121
 a46:=Tryz.isAgg121
 z46:=Tryz.sizeOf121
 v46:=Tryz.zeroValue121
 t51:=Tryz.underlying176
 a51:=Tryz.isAgg176
 z51:=Tryz.sizeOf176
 v51:=Tryz.zeroValue176
 t53:=Tryz.underlying28
 a53:=Tryz.isAgg28
 z53:=Tryz.sizeOf28
 v53:=Tryz.zeroValue28
 t171:=Tryz.underlying207
 a171:=Tryz.isAgg207
 z171:=Tryz.sizeOf207
 v171:=Tryz.zeroValue207
 t173:=Tryz.underlying210
 a173:=Tryz.isAgg210
 z173:=Tryz.sizeOf210
 v173:=Tryz.zeroValue210
 t212:=Tryz.underlying265
 a212:=Tryz.isAgg265
 z212:=Tryz.sizeOf265
 v212:=Tryz.zeroValue265
 t213:=Tryz.underlying266
 a213:=Tryz.isAgg266
 z213:=Tryz.sizeOf266
 t232:=Tryz.underlying251
 a232:=Tryz.isAgg251
 z232:=Tryz.sizeOf251
 v232:=Tryz.zeroValue251
 t233:=Tryz.underlying326
 a233:=Tryz.isAgg326
 z233:=Tryz.sizeOf326
 v233:=Tryz.zeroValue326
 g17:=by kernel_rfl
 g18:=by kernel_rfl
 g19:=by kernel_rfl
 i0:=by kernel_rfl
 i2:=by kernel_rfl
 i3:=by kernel_rfl
 i4:=by kernel_rfl
 i5:=by kernel_rfl
 i9:=by kernel_rfl
 i20:=by kernel_rfl
 i37:=by kernel_rfl
 i46:=by kernel_rfl
 i51:=by kernel_rfl
 i53:=by kernel_rfl
 i171:=by kernel_rfl
 i173:=by kernel_rfl
 i212:=by kernel_rfl
 i232:=by kernel_rfl
 i233:=by kernel_rfl
 m17:=by kernel_rfl
 m18:=by kernel_rfl
 m19:=by kernel_rfl}
open Go.RowKit Go.Sort Go.Lib in
theorem Tryz.strconv_Itoa (n:Int) (h0: -9223372036854775808<=n) (h1:n<=9223372036854775807) (w:World) (htab:Lib.TabIs Tryz.prog w "internal/strconv.uint64pow10" .u64 Lib.pow10Tab):
 Calls Tryz.prog 55 #[.int .i64 n] w fun e w'=>e= .returned (.string ⟨(Lib.itoa n).toArray⟩)/\∃k os,w'=grow (w.drewN k) os:=Any.strconv_Itoa Ur n h0 h1 w htab
def Pp:Go.Shelf.Ren:=⟨fun|197=>60|260=>104|n=>n,fun|9=>9|21=>21|3=>3|4=>4|5=>5|105=>131|119=>145|0=>0|46=>121|139=>214|138=>213|n=>n,fun|3=>3|4=>4|n=>n⟩
theorem Xa:Go.Proofs.Lays.n197 Tryz.prog Pp:= {
 mixed:=by kernel_rfl
 f197:=Tryz.func60.trans (congrArg some (by kernel_rfl))
 f260:=Tryz.func104.trans (congrArg some (by kernel_rfl))
 t0:=Tryz.underlying0
 a0:=Tryz.isAgg0
 z0:=Tryz.sizeOf0
 v0:=Tryz.zeroValue0
 t3:=Tryz.underlying3
 a3:=Tryz.isAgg3
 z3:=Tryz.sizeOf3
 v3:=Tryz.zeroValue3
 t4:=Tryz.underlying4
 a4:=Tryz.isAgg4
 z4:=Tryz.sizeOf4
 v4:=Tryz.zeroValue4
 t5:=Tryz.underlying5
 a5:=Tryz.isAgg5
 z5:=Tryz.sizeOf5
 v5:=Tryz.zeroValue5
 t9:=Tryz.underlying9
 a9:=Tryz.isAgg9
 z9:=Tryz.sizeOf9
 v9:=Tryz.zeroValue9
 t21:=Tryz.underlying21
 a21:=Tryz.isAgg21
 z21:=Tryz.sizeOf21
 v21:=Tryz.zeroValue21
 t46:=Tryz.underlying121
 a46:=Tryz.isAgg121
 z46:=Tryz.sizeOf121
 v46:=Tryz.zeroValue121
 t105:=Tryz.underlying131
 a105:=Tryz.isAgg131
 z105:=Tryz.sizeOf131
 v105:=Tryz.zeroValue131
 t119:=Tryz.underlying145
 a119:=Tryz.isAgg145
 z119:=Tryz.sizeOf145
 t138:=Tryz.underlying213
 a138:=Tryz.isAgg213
 z138:=Tryz.sizeOf213
 v138:=Tryz.zeroValue213
 t139:=Tryz.underlying214
 a139:=Tryz.isAgg214
 z139:=Tryz.sizeOf214
 v139:=Tryz.zeroValue214
 g3:=by kernel_rfl
 g4:=by kernel_rfl}
open Go.RowKit Go.Lib in
theorem Tryz.utf8_DecodeRuneInString (s:ByteArray) (w:World) (hT:Lib.Utf8Tabs 3 4 w):
 Calls Tryz.prog 60 #[.string s] w fun e w'=>e= .returned (.tuple #[.int .i32 (Lib.decodeGo s).1,.int .i64 (Lib.decodeGo s).2])/\Below w.heap.size w w':=Any.utf8_DecodeRuneInString Xa s w hT
end Go.Proofs
end
section
namespace Go.Proofs
open Go.RowKit Go.Bg
def sz (x m:Nat):Nat:=if m=0 then 0 else 32*(m-1)+Lib.bitLen (A0 x (m-1))
theorem U7 (x m:Nat):32*(m-1)<=sz x m:=by
 unfold sz;split<;>omega
def XJ (w:World) (x:Nat) (e:Ending) (w':World):Prop:=∃m',Bj x m'/\e= .returned (.int .i64 (sz x m'))/\w=w'
theorem dI (x:Nat) (w:World) (h:x<4294967296):Calls Tryz.prog 254 #[.int .u32 x] w fun e w'=>e= .returned (.int .i64 (Lib.bitLen x))/\w=w':=
 (Tryz.bits_Len32 x w (by omega) (by omega)).mono fun _ _ ⟨h1,h2⟩=>⟨h1,h2.symm⟩
theorem bitLen_le64 (x:Nat):Lib.bitLen x<=64:=by
 have:∀f x,Lib.bitLenAux f x<=f:=by
  intro f
  induction f with
  |zero=>intro x;simp[Lib.bitLenAux]
  |succ f ih=>intro x;unfold Lib.bitLenAux;split
              ·omega
              ·have:=ih (x/2);omega
 exact this 64 x
theorem Tryz.size (v:Value) (x m:Nat) (w:World) (hm:m<=70368744177664) (hv:Hid (Co w v x m)):Calls Tryz.prog 217 #[v] w (XJ w x):=by
 rcases hv.out with⟨rfl,rfl,rfl⟩|⟨b,o,c,rfl,h1,h2,h3⟩
 ·clear hv;go_enter Tryz.func217,Tryz.ntmps217
  go_wp2_with (go_at_call 221;(with_reducible refine(Oh _).mono ?_))
  rintro e w' ⟨m',ht,rfl,rfl⟩;have hm0:m'=0:=ht.BB.2 rfl;subst hm0;go_wp2;go_ret;exact⟨0,ht,rfl,rfl⟩
 ·have H3:=Hi h3;have hc9:c<=9223372036854775807:=by unfold maxLen at h2;exact h2
  clear h3 h2;go_enter Tryz.func217,Tryz.ntmps217
  go_wp2_with (go_at_call 221;(with_reducible refine(Tryz.trim _ x m _ hv.out).mono ?_))
  rintro e w' ⟨m',ht,rfl,rfl⟩;have hle:m'<=m:=by
   rcases ht.2 with h|h
   ·omega
   ·rcases BY m (m')with h4|h4
    ·have:B^m<=B^(m'-1):=AT K9 (by omega);have:=H3.out.1;omega
    ·exact h4
  cases m' with
  |zero=>
   go_wp2;go_ret;exact⟨0,ht,rfl,rfl⟩
  |succ k=>
   have hcell:w.cell? ⟨b,o+k,none⟩=some (.int .u32 (A0 x k)):=H3.out.2 k (by omega);have hb:=bitLen_le64 (A0 x k);have hlt:A0 x k<4294967296:=IU x k
   go_wp2_with (go_at_call 254;(with_reducible refine(dI (A0 x k) _ hlt).mono ?_);rintro e w' ⟨rfl,rfl⟩)
   go_ret;refine⟨k+1,ht,?_,rfl⟩;have e:((sz x (k+1):Nat):Int)=32*(k:Int)+(Lib.bitLen (A0 x k):Int):=by
    unfold sz;rw[if_neg (by omega)];simp
   rw[e];rfl
theorem eI.below {w w':World} {b o x m:Nat}(h:eI w b o x m) (hb:Below w.heap.size w w'):eI w' b o x m:=by
 refine⟨h.1,fun j hj=> ?_⟩;have h1:=h.2 j hj;have hlt:b<w.heap.size:=by
  rcases BY b w.heap.size with h2|h2
  ·exact h2
  ·simp[World.cell?,Array.getElem?_eq_none h2]at h1
 rw[hb.cell (p:=⟨b,o+j,none⟩) hlt,h1]
theorem Co.below {w w':World} {v:Value} {x m:Nat}(h:Co w v x m) (hb:Below w.heap.size w w'):Co w' v x m:=by
 rcases h with h|⟨b,o,c,h1,h2,h3,h4⟩
 ·exact .inl h
 ·exact .inr ⟨b,o,c,h1,h2,h3,h4.below hb⟩
theorem Co.slice {w:World} {v:Value} {x m:Nat}(h:Co w v x m):∃a c,v= .slice a m c:=by
 rcases h with⟨rfl,_,rfl⟩|⟨b,o,c,rfl,_⟩
 ·exact⟨_,_,rfl⟩
 ·exact⟨_,_,rfl⟩
def WO (w:World) (x:Nat) (e:Ending) (w':World):Prop:=∃m',Bj x m'/\e= .returned (.bool (decide ((4096:Int)<(sz x m':Nat))))/\Below w.heap.size w w'
theorem Tryz.long (g:Nat) (neg:Bool) (v:Value) (x m:Nat) (w:World) (hm:m<=70368744177664) (hv:Hid (Co w v x m)) (c0:w.cell? ⟨g,0,none⟩=some (.bool neg)) (c1:w.cell? ⟨g,1,none⟩=some v):
 Calls Tryz.prog 219 #[.slice (some ⟨g,0,none⟩) 1 1] w (WO w x):=by
 obtain⟨a,c,rfl⟩:=hv.out.slice;go_enter Tryz.func219,Tryz.ntmps219;go_wp2;refine wp_loop_rounds 2 ?_;rw[rounds_succ]
 go_wp2_with fail
 have HV:Hid (∀o,Co (w.alloc o) (.slice a m c) x m):=Hi fun o=>hv.out.below ((AH _ _).alloc (nR _) o)
 go_wp2_with (go_at_call 217;(with_reducible refine(Tryz.size _ x m _ hm (Hi (HV.out _))).mono ?_))
 rintro e w' ⟨m',ht,rfl,rfl⟩;go_wp2
 all_goals try rw[rounds_succ]
 all_goals try go_wp2
 all_goals
  go_ret;refine⟨m',ht,?_,(AH _ _).alloc (nR _) _⟩
  first
   |exact congrArg (fun b=>Ending.returned (.bool b)) (AN (by assumption)).symm
   |exact congrArg (fun b=>Ending.returned (.bool b)) (AS (by omega)).symm
end Go.Proofs
end
section
namespace Go.Proofs
open Go.RowKit Go.Bg
theorem SJ:(Tryz.prog.info? 176).map (fun i=>(i.zero,i.size,i.bytes))=some (some (.int .u32 0),1,4):=by kernel_rfl
theorem Yl:(Tryz.prog.info? 176).map (·.size)=some 1:=by kernel_rfl
def Av (x m:Nat):List Value:=(List.range m).map fun j=>Value.int .u32 (A0 x j:Nat)
theorem Da (x m:Nat):(Av x m).length=m:=by simp[Av]
theorem Eo (x m j:Nat) (h:j<m):(Av x m)[j]? =some (.int .u32 (A0 x j:Nat)):=by simp[Av,h]
def YK (w:World) (x m:Nat) (e:Ending) (w':World):Prop:=
 e= .returned (.slice (some ⟨w.heap.size,0,none⟩) m m)/\w'.heap[w.heap.size]? =some (.cells (Av x m).toArray 176 (0,0))/\Below w.heap.size w w'
theorem Tryz.own (v:Value) (x m:Nat) (w:World) (hm:m<=1000000) (hv:Hid (Co w v x m)):Calls Tryz.prog 220 #[v] w (YK w x m):=by
 obtain⟨i0,hi,hz0,hz1,hz2⟩:=info_parts SJ;obtain⟨a,c,rfl⟩:=hv.out.slice;have bm:i0.bytes*m<=281474976710656:=by rw[hz2];omega
 go_enter Tryz.func220,Tryz.ntmps220
 go_wp2_with (refine wpList_make_full w rfl _ _ 217 rfl w.heap.size 176 i0 (.int .u32 0) 1 Tryz.underlying217 hi hz0 hz1 .i64 .i64 m m m rfl rfl rfl rfl bm (by unfold maxLen;omega) (nR _) ?_)
 intro w1 hown hgrow;obtain⟨cur,hcl,hcur⟩:∃cur:List Value,cur.length=m/\w1.heap[w.heap.size]? =some (.cells cur.toArray 176 (0,0)):=by
  rcases hown.2 with⟨h,_⟩|⟨g,cap,cur,h,_,hg,_,_,hcs,_⟩
  ·simp at h
  ·simp only[Value.slice.injEq,Option.some.injEq,Addr.mk.injEq,and_true,true_and]at h;obtain⟨rfl,rfl⟩:=h;exact⟨cur.toList,by simpa using hcs,by simpa using hg⟩
 have hb1:Below w.heap.size w w1:=(AH _ _).grown hgrow (nR _) (fun k hk=>by cases hk);have hv1:=Hi (hv.out.below hb1);have HG:=Hi hcur;have HL:=Hi hcl;obtain⟨cs,hcs⟩:∃cs,cs=Av x m:=⟨_,rfl⟩;have hcsl:cs.length=m:=by rw[hcs,Da]
 have HCS:=Hi hcs;have HCL:=Hi hcsl;clear hcs hcsl hcur hcl hown hgrow
 go_wp2_with (refine wpList_copy_splice rfl _ _ 217 217 rfl 176 Tryz.underlying217 Yl (some ⟨w.heap.size,0,none⟩) a m m m c rfl rfl w.heap.size 0 cur 176 HG.out cs (by rw[HCL.out];exact(Nat.min_self m).symm) ?c1 (by rw[HCL.out,HL.out];omega) ?c2 w.heap.size w hb1 (nR _) ?_)
 case c1=>
  intro hpos;rcases hv1.out with⟨_,_,h⟩|⟨b,o,c',h1,_,_,h2⟩
  ·rw[HCL.out]at hpos;omega
  ·simp only[Value.slice.injEq]at h1;obtain⟨rfl,_,rfl⟩:=h1;refine⟨⟨b,o,none⟩,rfl,fun j u hj=> ?_⟩;have hlt:j<m:=by
    rcases BY j m with h3|h3
    ·exact h3
    ·rw[gQ (by rw[HCL.out];exact h3)]at hj;cases hj
   rw[HCS.out,Eo x m j hlt]at hj;cases hj;have h4:=h2.2 j hlt;have h5:(⟨b,o,none⟩:Addr).add j=⟨b,o+j,none⟩:=by unfold Addr.add;split<;>simp_all
   rw[h5];exact h4
 case c2=>
  intro u hu;rw[HCS.out]at hu;unfold Av at hu;obtain⟨j,_,rfl⟩:=List.mem_map.1 hu;rfl
 intro w2 hg2 hb2;go_wp2;go_ret;refine⟨rfl,?_,hb2⟩;have:=hg2.out;rw[this,HCS.out];congr 2;unfold splice;rw[Da,List.drop_of_length_le (by rw[HL.out];omega)];simp
end Go.Proofs
end
section
namespace Go.Proofs
open Go.RowKit Go.Bg
theorem Uo (h l:Nat) (hh:h<36) (hl:l<4294967296):bits .or .u64 ((h:Int)*4294967296) (l:Int)=((h*B+l:Nat):Int):=by
 have e:((h:Int)*4294967296)=((h*4294967296:Nat):Int):=by omega
 rw[e,u64_or_nat (h*4294967296) l (by omega) (by omega)];unfold B;rw[show(4294967296:Nat)=2^32 from rfl,<-Nat.shiftLeft_eq,Nat.shiftLeft_add_eq_or_of_lt (by simpa using hl)]
def ZO (h l r:Nat) (w:World) (e:Ending) (w':World):Prop:=
 e= .returned (.tuple #[.int .u32 ((h*B+l)/r:Nat),.int .u32 ((h*B+l) %r:Nat)])/\∃n,w'=w.drewN n
theorem dH (h l r:Nat) (w:World) (hh:h<r) (hl:l<4294967296) (hr:r<=36):Calls Tryz.prog 222 #[.int .u32 h,.int .u32 l,.int .u32 r] w (ZO h l r w):=by
 have r0:((r:Int)==0)=false:=by rw[Lq];intro h;have:=eq_of_beq h;omega
 have r1:¬r<=h:=by omega
 have h1:(h:Int)<=36:=by omega
 have hl1:(l:Int)<=4294967295:=by omega
 have hr1:(r:Int)<=36:=by omega
 have hr2:(1:Int)<=r:=by omega
 obtain⟨z,hz⟩:∃z:Nat,z=h*B+l:=⟨_,rfl⟩;have ho:bits .or .u64 ((h:Int)*4294967296) (l:Int)=(z:Int):=by rw[hz];exact Uo h l (by omega) hl
 have hzb:(z:Int)<=184683593727:=by rw[hz];unfold B;omega
 have HZ:=Hi hz;have q2:(z:Int)/(r:Int)<=4294967295:=by
  show((z/r:Nat):Int)<=4294967295;have h3:z<B*r:=by
   rw[hz];have:(h+1)*B<=r*B:=FF B hh;rw[UP]at this;rw[So B r];unfold B at*;omega
  have:=Nat.div_lt_of_lt_mul (by rw[So];exact h3:z<r*B);unfold B at this;omega
 have q3:(z:Int) %(r:Int)<=36:=by
  show((z %r:Nat):Int)<=36;have:=gR z (show 0<r by omega);omega
 have q4:0<=(z:Int)/(r:Int):=Int.natCast_nonneg (z/r);have q5:0<=(z:Int) %(r:Int):=Int.natCast_nonneg (z %r);clear hz;go_enter Tryz.func222,Tryz.ntmps222;go_wp2
 go_region
 go_wp2;go_ret2;refine⟨?_,1,rfl⟩;rw[<-HZ.out];rfl
end Go.Proofs
end
section
namespace Go.Hb
def AR (v:Int):Prop:=0<=v/\v<=1114111/\(v<55296\/57343<v)
theorem Ar (v:Int):Lib.encodeRune v=(Lib.encodeRuneZ v).map fun x=>x.toNat.toUInt8:=rfl
theorem AR.cases {v:Int}(h:AR v):(0<=v/\v<=127)\/(128<=v/\v<=2047)\/((2048<=v/\v<55296)\/(57343<v/\v<=65535))\/(65536<=v/\v<=1114111):=by
 unfold AR at h;omega
theorem aQ (n:Nat) (h:n<256):n.toUInt8.toNat=n:=by
 simp only[Nat.toUInt8,UInt8.toNat_ofNat'];omega
theorem EX (s:ByteArray) (p:Nat) (l:List UInt8) (h:s.data.toList.drop p=l):Utf8.decode s p=Lib.decodeN l.length (l.getD 0 0).toNat (l.getD 1 0).toNat (l.getD 2 0).toNat (l.getD 3 0).toNat:=by
 subst h;rw[Lib.decode_N,List.length_drop,Lib.getD_dropU,Lib.getD_dropU,Lib.getD_dropU,Lib.getD_dropU];rfl
def AE (s:ByteArray) (k:Nat):Int:=((s.data.toList.getD k 0).toNat:Int)
theorem DF (s:ByteArray) (k:Nat):0<=AE s k:=by unfold AE;omega
theorem C6 (s:ByteArray) (k:Nat):AE s k<256:=by unfold AE;have:=(s.data.toList.getD k 0).toNat_lt;omega
theorem AO (s:ByteArray) (k:Nat) (h:k<s.size):AE s k=(s[k].toNat:Int):=by
 unfold AE;rw[SM,List.getElem?_eq_getElem (by simpa using h)];rfl
theorem Am (s:ByteArray) (k:Nat) (h:s.size<=k):AE s k=0:=by
 unfold AE;rw[SM,gQ (by simpa using h)];rfl
instance (v:Int):Decidable (AR v):=by unfold AR;infer_instance
def Ff (v:Int):Bool:=decide (AR v)
def Acc (b1 b2 b3 v0:Int) (k:Nat) (v:Int):Prop:=
 (k=1/\v=v0)\/(k=2/\(128<=b1/\b1<192)/\v=v0*64+b1-128)\/(k=3/\(128<=b1/\b1<192)/\(128<=b2/\b2<192)/\v=(v0*64+b1-128)*64+b2-128)\/
  (k=4/\(128<=b1/\b1<192)/\(128<=b2/\b2<192)/\(128<=b3/\b3<192)/\v=((v0*64+b1-128)*64+b2-128)*64+b3-128)
theorem Fs (s:ByteArray) (k:Nat) (h:128<=AE s k):k<s.size:=by
 rcases BY k s.size with h1|h1
 ·exact h1
 ·rw[Am s k h1]at h;omega
theorem Acc.bound {b1 b2 b3 v0:Int} {k:Nat} {v:Int}(h:Acc b1 b2 b3 v0 k v) (h0:0<=v0/\v0<32):0<=v/\v<8388608/\1<=k/\k<=4:=by
 unfold Acc at h;omega
theorem Acc.step {b1 b2 b3 v0:Int} {k:Nat} {v b:Int}(h:Acc b1 b2 b3 v0 k v) (hk:k<4) (hb:128<=b/\b<192) (e:(k=1->b=b1)/\(k=2->b=b2)/\(k=3->b=b3)):Acc b1 b2 b3 v0 (k+1) (v*64+b-128):=by
 rcases h with⟨h,h1⟩|⟨h,h1,h2⟩|⟨h,h1,h2,h3⟩|⟨h,_⟩
 ·have:=e.1 h;subst this h1 h;exact .inr (.inl ⟨rfl,hb,rfl⟩)
 ·have:=e.2.1 h;subst this h2 h;exact .inr (.inr (.inl ⟨rfl,h1,hb,rfl⟩))
 ·have:=e.2.2 h;subst this h3 h;exact .inr (.inr (.inr ⟨rfl,h1,h2,hb,rfl⟩))
 ·omega
theorem LI {v:Int}(h:AR v):Lib.runeLen v=(Lib.encodeRune v).length:=by
 have h0:=h;unfold AR at h0;rcases h.cases with c|c|c|c
 ·rw[Ar,Lib.encodeRuneZ_one c.1 c.2];simp[Lib.runeLen];omega
 ·rw[Ar,Lib.encodeRuneZ_two c.1 c.2];unfold Lib.runeLen;rw[if_neg (by omega),if_neg (by omega),if_pos (by omega)];rfl
 ·rw[Ar,Lib.encodeRuneZ_three c];unfold Lib.runeLen;rw[if_neg (by omega),if_neg (by omega),if_neg (by omega),if_neg (by omega),if_pos (by omega)];rfl
 ·rw[Ar,Lib.encodeRuneZ_four c.1 c.2];unfold Lib.runeLen;rw[if_neg (by omega),if_neg (by omega),if_neg (by omega),if_neg (by omega),if_neg (by omega),if_pos (by omega)];rfl
theorem KT (v:Int):1<=(Lib.encodeRune v).length/\(Lib.encodeRune v).length<=4:=by
 have:=Lib.encodeRuneZ_length v;rw[Ar,List.length_map];exact this
end Go.Hb
end
section
namespace Go.Proofs
open Go.RowKit Go.Hb
theorem VV {a b:Int}(h:a=b):Ending.returned (.int .u8 a)= .returned (.int .u8 b):=by rw[h]
theorem UU (s:ByteArray) (k:Nat) (w:World) (h:k<s.size):
 Calls Tryz.prog 64 #[.string s,.int .i64 k] w fun e w'=>e= .returned (.int .u8 (AE s k))/\w'=w:=by
 go_enter Tryz.func64,Tryz.ntmps64;go_wp2;go_ret;exact⟨VV (AO s k h).symm,rfl⟩
theorem Re (s:ByteArray) (k:Nat) (w:World) (h:s.size<=k):
 Calls Tryz.prog 64 #[.string s,.int .i64 k] w fun e w'=>e= .returned (.int .u8 (AE s k))/\w'=w:=by
 have h':¬k<s.size:=by omega
 go_enter Tryz.func64,Tryz.ntmps64;go_wp2;go_ret;exact⟨VV (Am s k h).symm,rfl⟩
theorem Tryz.DH (s:ByteArray) (k:Nat) (w:World):
 Calls Tryz.prog 64 #[.string s,.int .i64 k] w fun e w'=>e= .returned (.int .u8 (AE s k))/\w'=w:=by
 rcases BY k s.size with h|h
 ·exact UU s k w h
 ·exact Re s k w h
theorem Z7 {v:Int}(h:AR v):Ff v=true:=AN h
theorem aq {v:Int}(h:¬AR v):Ff v=false:=AS h
theorem U9 {a b:Bool}(h:a=b):Ending.returned (.bool a)= .returned (.bool b):=by rw[h]
theorem Tryz.may (v:Int) (w:World):Calls Tryz.prog 65 #[.int .i64 v] w fun e w'=>e= .returned (.bool (Ff v))/\w'=w:=by
 go_enter Tryz.func65,Tryz.ntmps65;go_wp2
 all_goals
  go_ret;refine⟨U9 ?_,rfl⟩
  first
   |exact(Z7 (by unfold AR;omega)).symm
   |exact(aq (by unfold AR;omega)).symm
   | (rw[Bool.eq_iff_iff];unfold Ff;simp only[Bool.or_eq_true,decide_eq_true_eq];unfold AR;omega)
theorem D5 (s:ByteArray) (p k:Nat) (w:World):Calls Tryz.prog 64 #[.string s,.int .i64 ((p:Int)+(k:Int))] w fun e w'=>e= .returned (.int .u8 (AE s (p+k)))/\w'=w:=by
 have:=Tryz.DH s (p+k) w
 rwa [Int.natCast_add]at this
end Go.Proofs
end
section
namespace Go.Proofs
open Go.RowKit Go.Hb
theorem RA:(Tryz.prog.info? 5).map (fun i=>(i.zero,i.size,i.bytes))=some (some (.int .u8 0),1,1):=by kernel_rfl
end Go.Proofs
end
section
namespace Go.Proofs
open Go.RowKit Go.Bg
theorem I2 {w:World} {g q:Nat} {arr:Array Value} {t:TypeId} {fz:Nat×Nat}(h:w.heap[g]? =some (.cells arr t fz)) (v:Value):(w.setCell ⟨g,q,none⟩ v).heap[g]? =some (.cells (arr.setIfInBounds q v) t fz):=by
 unfold World.setCell;simp[Array.getElem?_modify,h]
def BS (w:World) (g n:Nat) (t:TypeId) (f:Nat->Value):Prop:=∃cur:Array Value,w.heap[g]? =some (.cells cur t (0,0))/\n<=cur.size/\∀j,j<n->cur[j]? =some (f j)
theorem BS.cell {w:World} {g n:Nat} {t:TypeId} {f:Nat->Value}(h:BS w g n t f){j:Nat}(hj:j<n):w.cell? ⟨g,j,none⟩=some (f j):=by
 obtain⟨cur,h1,_,h3⟩:=h;rw[Lib.cell_of_heap h1];simpa using h3 j hj
theorem BS.frozen {w:World} {g n:Nat} {t:TypeId} {f:Nat->Value}(h:BS w g n t f) (j:Nat):w.frozen? ⟨g,j,none⟩=false:=by
 obtain⟨cur,h1,_,_⟩:=h;exact Lib.frozen_of_heap h1 j
theorem BS.set {w:World} {g n q:Nat} {t:TypeId} {f f':Nat->Value}(h:BS w g n t f) (v:Value) (hq:q<n) (hf:∀j,j<n->f' j=if j=q then v else f j):BS (w.setCell ⟨g,q,none⟩ v) g n t f':=by
 obtain⟨cur,h1,h2,h3⟩:=h;refine⟨_,I2 h1 v,by simpa using h2,fun j hj=> ?_⟩;rw[hf j hj,Array.getElem?_setIfInBounds];by_cases e:q=j
 ·subst e;simp;omega
 ·rw[if_neg e,if_neg (Ne.symm e),h3 j hj]
theorem BS.drewN {w:World} {g n:Nat} {t:TypeId} {f:Nat->Value}(h:BS w g n t f) (k:Nat):BS (w.drewN k) g n t f:=h
theorem BS.block {w w':World} {g n:Nat} {t:TypeId} {f:Nat->Value}(h:BS w g n t f) (hb:w'.heap[g]? =w.heap[g]?):BS w' g n t f:=by
 obtain⟨cur,h1,h2,h3⟩:=h;exact⟨cur,hb.trans h1,h2,h3⟩
theorem BS.lt {w:World} {g n:Nat} {t:TypeId} {f:Nat->Value}(h:BS w g n t f):g<w.heap.size:=by
 obtain⟨cur,h1,_⟩:=h;exact(OF.1 h1).1
theorem Co.cut {w:World} {a:Option Addr} {c x m m1:Nat}(h:Co w (.slice a m c) x m) (hle:m1<=m) (hx:x<B^m1):Co w (.slice a m1 c) x m1:=by
 rcases h with⟨h1,h2,h3⟩|⟨b,o,c',h1,h2,h3,h4⟩
 ·subst h2 h3;obtain rfl:m1=0:=by omega
  exact .inl ⟨h1,rfl,rfl⟩
 ·simp only[Value.slice.injEq]at h1;obtain⟨rfl,_,rfl⟩:=h1;exact .inr ⟨b,o,c,rfl,by omega,h3,hx,fun j hj=>h4.2 j (by omega)⟩
def mix (x r q:Nat) (j:Nat):Value:= .int .u32 ((if j<q then A0 x j else A0 (x/r) j:Nat):Int)
structure TQ (r x g:Nat) (W3:World) (X k:Nat) (ds:List Nat) (o:Value) (wr:World):Prop where
 tight:Bj X k
 Bq:Hk r x=ds++Hk r X
 row:BS wr g k 176 (fun j=> .int .u32 (A0 X j:Nat))
 own:wr.ownsRow (g+1) 5 1 o ds.length (Lib.byteCells (ds.map J5))
 Ad:Below g W3 wr
structure IQ (r X g:Nat) (W3:World) (k:Nat) (ds:List Nat) (o:Value) (q n:Nat) (wr:World):Prop where
 le:q<=k
 rest:n=X/B^q %r
 row:BS wr g k 176 (mix X r q)
 own:wr.ownsRow (g+1) 5 1 o ds.length (Lib.byteCells (ds.map J5))
 Ad:Below g W3 wr
theorem TQ.start {r x g:Nat} {W3:World} {X k:Nat} {ds:List Nat} {o:Value} {wr:World}(h:TQ r x g W3 X k ds o wr):IQ r X g W3 k ds o k 0 wr:=by
 refine⟨nR _,?_,?_,h.own,h.Ad⟩
 ·rw[bh h.tight.1];simp
 ·obtain⟨cur,h1,h2,h3⟩:=h.row;exact⟨cur,h1,h2,fun j hj=>by rw[h3 j hj];simp[mix,hj]⟩
theorem TQ.next {r x g:Nat} {W3:World} {X k k2 n:Nat} {ds:List Nat} {o v':Value} {wo wr w2:World} {ob:Obj}(h:TQ r x g W3 X k ds o wo) (hr:2<=r) (hx:X≠0) (hi:IQ r X g W3 k ds o 0 n wr) (hn:n=X %r) (ht:Bj (X/r) k2)
 (hown:w2.ownsRow (g+1) 5 1 v' (ds.length+1) (Lib.byteCells (ds.map J5)++ [.int .u8 ((J5 n).toNat:Nat)])) (hg:(wr.alloc ob).grownBy w2 o.ownBlock):TQ r x g W3 (X/r) k2 (ds++ [n]) v' w2:=by
 have Gx:=hi.row.lt;have hle:k2<=k:=by
  rcases ht.2 with h1|h1
  ·omega
  ·rcases BY k k2 with h4|h4
   ·have h5:B^k<=B^(k2-1):=AT K9 (by omega);have h6:X/r<=X:=Nat.div_le_self _ _;have:=h.tight.1;omega
   ·exact h4
 have hno:some g≠o.ownBlock:=fun e=>by have:=(hi.own.lt g e.symm).1;omega
 have hb:w2.heap[g]? =wr.heap[g]? :=by
  rw[hg.block g (by simp;omega) hno];exact Lib.alloc_old wr _ g Gx
 refine⟨ht,?_,?_,?_,?_⟩
 ·rw[h.Bq,D9 hr hx,<-hn,List.append_assoc];rfl
 ·obtain⟨cur,h1,h2,h3⟩:=hi.row.block hb;exact⟨cur,h1,by omega,fun j hj=>by rw[h3 j (by omega)];simp[mix]⟩
 ·have e:Lib.byteCells ((ds++ [n]).map J5)=Lib.byteCells (ds.map J5)++ [.int .u8 ((J5 n).toNat:Nat)]:=by simp[Lib.byteCells]
  rw[e,eR,List.length_singleton];exact hown
 ·exact(hi.Ad.alloc (by omega) _).grown hg (by simp;omega) (fun b hb=>by have:=(hi.own.lt b hb).1;omega)
theorem Ux (X r p:Nat) (hr:2<=r) (hr2:r<=36){n lp dq dr:Nat}(hn:n=X/B^(p+1) %r) (hl:lp=A0 X p) (hdq:dq=A0 (X/r) p) (hdr:dr=X/B^p %r) (w:World):
 Calls Tryz.prog 222 #[.int .u32 n,.int .u32 lp,.int .u32 r] w fun e w'=>e= .returned (.tuple #[.int .u32 dq,.int .u32 dr])/\∃q,w'=w.drewN q:=by
 obtain⟨h1,h2⟩:=U6 X r p (by omega);rw[<-hn,<-hl,<-hdq]at h1;rw[<-hn,<-hl,<-hdr]at h2;have h3:n<r:=by rw[hn];exact gR _ (by omega)
 have h4:lp<4294967296:=by rw[hl];exact IU X p
 refine(dH n lp r w h3 h4 hr2).mono fun e w' ⟨h5,h6⟩=>⟨?_,h6⟩;rw[h5,h1,h2]
theorem IQ.next {r X g:Nat} {W3:World} {k p n dq dr:Nat} {ds:List Nat} {o:Value} {wr:World}(h:IQ r X g W3 k ds o (p+1) n wr) (hdq:dq=A0 (X/r) p) (hdr:dr=X/B^p %r) (q:Nat):
 IQ r X g W3 k ds o p dr ((wr.drewN q).setCell ⟨g,p,none⟩ (.int .u32 (dq:Nat))):=by
 have hno:o.ownBlock=none\/o.ownBlock≠some g:=by
  refine .inr fun e=> ?_;have:=(h.own.lt g e).1;omega
 refine⟨by have:=h.le;omega,hdr,?_,?_,?_⟩
 ·refine(h.row.drewN q).set _ (by have:=h.le;omega) fun j hj=> ?_;unfold mix;by_cases e:j=p
  ·subst e;rw[if_pos rfl,if_neg (by omega),hdq]
  ·rw[if_neg e];by_cases e2:j<p
   ·rw[if_pos e2,if_pos (by omega)]
   ·rw[if_neg e2,if_neg (by omega)]
 ·exact World.ownsRow.kept (row:=some g) h.own ⟨rfl,rfl,rfl,by simp[World.setCell,World.drewN],fun b hb hne=>Below.heap_setCell _ _ _ _ (fun e=>hne (by rw[e]))⟩ hno
 ·exact(h.Ad.trans (⟨rfl,rfl,rfl,nR _,fun _ _=>rfl⟩:Below g wr (wr.drewN q))).setCell (p:=⟨g,p,none⟩) (nR _) _
theorem Dz {w:World} {b:Nat} {v:Value} {n:Nat} {xs:List Value}(h:w.ownsRow b 5 1 v n xs):∃a c,v= .slice a n c:=by
 rcases h.2 with⟨rfl,rfl⟩|⟨g,cap,cur,rfl,_⟩
 ·exact⟨_,_,rfl⟩
 ·exact⟨_,_,rfl⟩
theorem VD {r:Nat}(hr:2<=r):∀(n x:Nat),x<2^n->(Hk r x).length<=n:=by
 intro n
 induction n with
 |zero=>intro x hx;have:x=0:=by simpa using hx
        subst this;simp[Gn]
 |succ n ih=>
  intro x hx;by_cases h:x=0
  ·subst h;simp[Gn]
  ·rw[D9 hr h,List.length_cons];have h1:x/r<=x/2:=Nat.div_le_div_left hr (by omega);have h2:x/2<2^n:=by rw[gj]at hx;omega
   have:=ih (x/r) (by omega);omega
theorem TQ.lens {r x g:Nat} {W3:World} {X k:Nat} {ds:List Nat} {o:Value} {wr:World}(h:TQ r x g W3 X k ds o wr) (hr:2<=r) (hX:X≠0):ds.length<(Hk r x).length:=by
 rw[h.Bq,eR,D9 hr hX,List.length_cons];omega
theorem Bj.le {x y m k:Nat}(h:Bj y k) (hx:x<B^m) (hy:y<=x):k<=m:=by
 rcases h.2 with h1|h1
 ·omega
 ·rcases BY m k with h4|h4
  ·have h5:B^m<=B^(k-1):=AT K9 (by omega);omega
  ·exact h4
theorem Rh {w:World} {b:Nat} {oa:Option Addr} {oc:Nat} {ds:List Nat} {L:List UInt8}(h:w.ownsRow b 5 1 (.slice oa ds.length oc) ds.length (Lib.byteCells (ds.map J5))) (hL:L=ds.map J5) (hp:0<L.length):
 ∃g,oa=some ⟨g,0,none⟩/\b<=g/\BS w g L.length 5 (fun j=> .int .u8 ((L.getD j 0).toNat:Nat)):=by
 have hl:L.length=ds.length:=by rw[hL,List.length_map]
 rcases h.2 with⟨h1,h2⟩|⟨g,cap,cur,h1,h2,h3,h4,h5,h6,h7⟩
 ·omega
 ·simp only[Value.slice.injEq]at h1;obtain⟨rfl,_,rfl⟩:=h1;refine⟨g,rfl,h2,cur,h3,by omega,fun j hj=> ?_⟩;have h8:cur.toList[j]? =(Lib.byteCells (ds.map J5))[j]? :=by rw[<-h7,List.getElem?_take,if_pos (by omega)]
  rw[<-Array.getElem?_toList,h8,<-hL];simp[Lib.byteCells,List.getD,List.getElem?_eq_getElem hj]
def Ma (L:List UInt8) (q j:Nat):Value:= .int .u8 (((if j<q\/L.length-1-j<q then L.getD (L.length-1-j) 0 else L.getD j 0).toNat:Nat):Int)
theorem ZA (L:List UInt8) (q e j:Nat) (h:q+e+1=L.length) (hqe:e<=q) (hj:j<L.length):Ma L q j= .int .u8 ((L.getD (L.length-1-j) 0).toNat:Nat):=by
 unfold Ma;by_cases h1:j<q\/L.length-1-j<q
 ·rw[if_pos h1]
 ·rw[if_neg h1];have:L.length-1-j=j:=by omega
  rw[this]
theorem BS.swap {w:World} {h q e:Nat} {L:List UInt8}(hr:BS w h L.length 5 (Ma L q)) (hqe:q<e) (hn:q+e+1=L.length) (k:Nat):
 BS (((w.drewN k).setCell ⟨h,q,none⟩ (Ma L q e)).setCell ⟨h,e,none⟩ (Ma L q q)) h L.length 5 (Ma L (q+1)):=by
 refine((hr.drewN k).set (f':=fun j=>if j=q then Ma L q e else Ma L q j) _ (by omega) (fun j _=>rfl)).set _ (by omega) fun j hj=> ?_;by_cases h1:j=e
 ·subst h1;rw[if_pos rfl];unfold Ma;rw[if_pos (by omega),if_neg (by omega)];have:L.length-1-j=q:=by omega
  rw[this]
 ·rw[if_neg h1];by_cases h2:j=q
  ·subst h2;show _=if j=j then Ma L j e else Ma L j j;rw[if_pos rfl];unfold Ma;rw[if_pos (by omega),if_neg (by omega)];have:L.length-1-j=e:=by omega
   rw[this]
  ·show _=if j=q then Ma L q e else Ma L q j;rw[if_neg h2];unfold Ma;by_cases h3:j<q\/L.length-1-j<q
   ·rw[if_pos h3,if_pos (by omega)]
   ·rw[if_neg h3,if_neg (by omega)]
theorem WM {w:World} {h q e:Nat} {L:List UInt8}(hr:BS w h L.length 5 (Ma L q)) (hn:q+e+1=L.length) (hle:e<=q) (cap:Nat):
 ∃t:ByteArray,t.data.toList=L.reverse/\(convert 104 9 (.slice (some ⟨h,0,none⟩) L.length cap)).run Tryz.prog w= .ok (.string t) w:=by
 refine⟨⟨L.reverse.toArray⟩,rfl,?_⟩;have hc:∀i,i<L.length->w.cell? ⟨h,0+i,none⟩=some (.int .u8 ((L.reverse.map fun x=>(x.toNat:Int)).getD i 0)):=by
  intro i hi;rw[gX,hr.cell hi,ZA L q e i hn hle hi];have h1:L.length-1-i<L.length:=by omega
  rw[SM,SM,List.getElem?_map,List.getElem?_reverse hi,List.getElem?_eq_getElem h1];rfl
 rw[run_convert_bytes_arg w 104 5 Tryz.underlying104 Tryz.underlying5 h 0 L.length cap (L.reverse.map fun x=>(x.toNat:Int)) (by simp) hc 9 Tryz.underlying9];congr 2;apply ByteArray.ext;apply Array.toList_inj.1;rw[strOfNums_data,List.map_map];show _=L.reverse
 conv=>rhs;rw[<-List.map_id L.reverse]
 apply List.map_congr_left;intro x _;simp
theorem Ps (n:Nat) (h:n<36):((⟨#[48,49,50,51,52,53,54,55,56,57,97,98,99,100,101,102,103,104,105,106,107,108,109,110,111,112,113,114,115,116,117,118,119,120,121,122]⟩:ByteArray)[n]'h).toNat=(J5 n).toNat:=by
 have key:∀k:Fin 36,((⟨#[48,49,50,51,52,53,54,55,56,57,97,98,99,100,101,102,103,104,105,106,107,108,109,110,111,112,113,114,115,116,117,118,119,120,121,122]⟩:ByteArray)[k.val]'k.isLt).toNat=(J5 k.val).toNat:=by decide
 exact key ⟨n,h⟩
def Uk (r x:Nat) (w:World) (e:Ending) (w':World):Prop:=∃t:ByteArray,e= .returned (.tuple #[.string t,.int .i64 0])/\t.data.toList=Ca r x/\Below w.heap.size w w'
theorem Tryz.text (v:Value) (x m r:Nat) (w:World) (hm:m<=70368744177664) (hr:2<=r) (hr2:r<=36) (hv:Hid (Co w v x m)) (hsz:Hid (∀m',Bj x m'->sz x m'<=4096)):
 Calls Tryz.prog 170 #[.agg #[.bool false,v],.int .i64 r] w (Uk r x w):=by
 obtain⟨a,c,rfl⟩:=hv.out.slice;have R1:decide ((r:Int)<2)=false:=BC;have R2:decide ((36:Int)<r)=false:=BC;obtain⟨i0,hi,hz0,hz1,hz2⟩:=info_parts RA;go_enter Tryz.func170,Tryz.ntmps170
 go_wp2_with fail
 generalize hW1:(w.alloc _).alloc _=W1;have C0:W1.cell? ⟨w.heap.size,0,none⟩=some (.bool false):=by subst hW1;go_simp
 have C1:W1.cell? ⟨w.heap.size,1,none⟩=some (.slice a m c):=by subst hW1;go_simp
 have C2:W1.cell? ⟨w.heap.size+1,0,none⟩=some (.bool false):=by subst hW1;go_simp
 have C3:W1.cell? ⟨w.heap.size+1,1,none⟩=some (.slice a m c):=by subst hW1;go_simp
 have bl:Below w.heap.size w W1:=by subst hW1;exact((AH _ _).alloc (nR _) _).alloc (by simp) _
 have sz1:W1.heap.size=w.heap.size+2:=by subst hW1;simp
 have hv1:=Hi (hv.out.below bl);clear hW1
 go_wp2_with (go_at_call 219;(with_reducible refine(Tryz.long (w.heap.size+1) false (.slice a m c) x m _ hm hv1 C2 C3).mono ?_))
 rintro e W2 ⟨m1,ht1,rfl,bl2⟩;have hd:decide ((4096:Int)<(sz x m1:Nat))=false:=AS (by have:=hsz.out m1 ht1;omega);have sz2:w.heap.size+2<=W2.heap.size:=by have:=bl2.size;omega
 have D0:W2.cell? ⟨w.heap.size,0,none⟩=some (.bool false):=(bl2.cell (p:=⟨w.heap.size,0,none⟩) (by show w.heap.size<W1.heap.size;omega)).trans C0;have D1:W2.cell? ⟨w.heap.size,1,none⟩=some (.slice a m c):=(bl2.cell (p:=⟨w.heap.size,1,none⟩) (by show w.heap.size<W1.heap.size;omega)).trans C1;have hv2:=Hi (hv1.out.below bl2);have BL2:=Hi (bl.trans (bl2.mono (by omega)));clear C0 C1 C2 C3 bl bl2 hv1 sz1;rw[hd];clear hd
 go_wp2_with (go_at_call 221;(with_reducible refine(Tryz.trim _ x m _ hv2.out).mono ?_))
 rintro e w' ⟨m2,ht2,rfl,rfl⟩;obtain rfl:m1=m2:=ht1.inj ht2;have hle:m1<=m:=by
  rcases ht1.2 with h|h
  ·omega
  ·rcases BY m m1 with h4|h4
   ·have h5:B^m<=B^(m1-1):=AT K9 (by omega);have h6:x<B^m:=by
     rcases hv.out with⟨_,h7,_⟩|⟨_,_,_,_,_,_,h7⟩
     ·rw[h7];exact Bk m
     ·exact h7.1
    omega
   ·exact h4
 have hm129:m1<=129:=by
  have h1:=hsz.out m1 ht1;have h2:=U7 x m1;omega
 have hv3:Hid (Co W2 (.slice a m1 c) x m1):=Hi (hv2.out.cut hle ht1.1);clear hv2
 go_wp2_with (go_at_call 220;(with_reducible refine(Tryz.own _ x m1 _ (by omega) hv3).mono ?_))
 rintro e W3 ⟨rfl,hg3,bl3⟩;have BL3:=Hi (BL2.out.trans (bl3.mono (by omega)));have sz3:W2.heap.size<W3.heap.size:=(OF.1 hg3).1;have E0:W3.cell? ⟨w.heap.size,0,none⟩=some (.bool false):=(bl3.cell (p:=⟨w.heap.size,0,none⟩) (by show w.heap.size<W2.heap.size;omega)).trans D0;have G3:=Hi hg3;clear hg3 bl3 D0 D1 BL2;by_cases h0:m1=0
 ·subst h0;have hx0:x=0:=ht1.BB.1 rfl;go_wp2;go_ret2;subst hx0;exact⟨⟨#[48]⟩,rfl,rfl,BL3.out⟩
 ·have h0':((m1:Int)==0)=false:=by rw[Lq];intro h;have:=eq_of_beq h;omega
  have HDL:Hid ((Hk r x).length<=32000):=Hi (by
   have h1:x<2^(32*m1):=by
    have:=ht1.1;rw[show B=2^32 from rfl,<-Nat.pow_mul]at this;exact this
   have:=VD hr (32*m1) x h1;omega)
  have hx0:x≠0:=fun h=>h0 (ht1.BB.2 h);obtain⟨g,hg⟩:∃g,g=W2.heap.size:=⟨_,rfl⟩;rw[<-hg];have hgw:w.heap.size<g:=by omega
  have T0:TQ r x g W3 x m1 [] (.slice none 0 0) W3:=⟨ht1,by simp,⟨_,by rw[hg];exact G3.out,by simp[Da],fun j hj=>by simpa using Eo x m1 j hj⟩,World.ownsRow_nil _ _ _ _,AH _ _⟩;clear hg;go_wp2
  go_loopw [6,7] (fun l out wr=>∃(X k:Nat) (ds:List Nat),l= .slice (some ⟨g,0,none⟩) k m1/\k<=m1/\TQ r x g W3 X k ds out wr) (fun _ out _=>match out with| .slice _ n _=>(Hk r x).length-n|_=>0)
  case atStart=>exact⟨x,m1,[],rfl,nR _,T0⟩
  case round=>
   obtain⟨X,k,ds,rfl,hk,hq⟩:=hrel;obtain⟨oa,oc,ho⟩:=Dz hq.own;subst ho;cases k with
   |zero=>
    have E1:wr.cell? ⟨w.heap.size,0,none⟩=some (.bool false):=(hq.Ad.cell (p:=⟨w.heap.size,0,none⟩) hgw).trans E0;have hX:X=0:=hq.tight.BB.1 rfl;subst hX;have hds:Hk r x=ds:=by have:=hq.Bq;rwa [Gn,List.append_nil]at this
    obtain⟨L,hL⟩:∃L,L=ds.map J5:=⟨_,rfl⟩;have hLl:L.length=ds.length:=by rw[hL,List.length_map]
    have hpos:0<L.length:=by rw[hLl,<-hds,D9 hr hx0,List.length_cons];omega
    have hL32:L.length<=32000:=by rw[hLl,<-hds];exact HDL.out
    obtain⟨h,rfl,hgh,hrow⟩:=Rh hq.own hL hpos;rw[<-hLl];have NL:Hid (Ca r x=L.reverse):=Hi (by unfold Ca;rw[if_neg hx0,hds,hL]);have BLW:=Hi (BL3.out.trans (hq.Ad.mono (by omega)));have R0:BS wr h L.length 5 (Ma L 0):=hrow;obtain⟨n,hn⟩:∃n,L.length=n+1:=⟨L.length-1,by omega⟩;have HLN:=Hi hn;clear hds hL hLl hpos hq hrow T0 ht1 ht2 h0 hx0 HDL hv hsz G3;go_wp2;clear hn;obtain⟨wo,rfl⟩:∃wo:World,wo=wr:=⟨_,rfl⟩
    go_loopw [10,11] (fun i k wr=>∃q e:Nat,i= .int .i64 q/\k= .int .i64 e/\q+e+1=L.length/\BS wr h L.length 5 (Ma L q)/\Below g wo wr) (fun _ k _=>(intOf k).toNat)
    case atStart=>exact⟨0,n,rfl,rfl,by have:=HLN.out;omega,R0,AH _ _⟩
    case round=>
     obtain⟨q,e,rfl,rfl,hqe,hrow,hbw⟩:=hrel;have hqi:(q:Int)<(L.length:Int):=by omega
     have hei:(e:Int)<(L.length:Int):=by omega
     have hLi:(L.length:Int)<=32000:=by omega
     by_cases hlt:q<e
     ·obtain⟨e,rfl⟩:∃e',e=e'+1:=⟨e-1,by omega⟩;have hc1:=hrow.cell (j:=q) (by omega);have hc2:=hrow.cell (j:=e+1) (by omega);have hf1:=hrow.frozen q;have hf2:=hrow.frozen (e+1);have hne:¬q=e+1:=by omega
      have hne2:¬e+1=q:=by omega
      obtain⟨va,hva⟩:∃va:Nat,Ma L q q= .int .u8 va:=⟨_,rfl⟩;obtain⟨vb,hvb⟩:∃vb:Nat,Ma L q (e+1)= .int .u8 vb:=⟨_,rfl⟩;have hsw:=hrow.swap hlt hqe 1;rw[hva]at hc1 hsw;rw[hvb]at hc2 hsw;have HR:=Hi hsw;have hei2:(e:Int)+1<(L.length:Int):=by omega
      have hei3:0<=(e:Int)+1:=by omega
      have HQ:=Hi hqe;have hlti:(q:Int)<(e:Int)+1:=by omega
      clear hrow hqe hsw hva hvb hei;go_wp2
      go_region
      go_wp2;go_roundw
      case rel=>exact⟨q+1,e,by go_num,rfl,by have:=HQ.out;omega,HR.out,((hbw.setCell (p:=⟨h,q,none⟩) (by show g<=h;omega) _).setCell (p:=⟨h,e+1,none⟩) (by show g<=h;omega) _).drew⟩
      case measure=>simp[intOf]
     ·obtain⟨t,ht,hconv⟩:=WM hrow hqe (by omega) oc;go_wp2;go_ret2;exact⟨t,rfl,by rw[ht,NL.out],BLW.out.trans (hbw.mono (by omega))⟩
   |succ k=>
    obtain⟨wo,rfl⟩:∃wo:World,wo=wr:=⟨_,rfl⟩;have hk1:k<=1000:=by omega
    have I0:=hq.start;have hx0:X≠0:=fun h=>by have:=hq.tight.BB.2 h;omega
    go_wp2
    go_loopw [8,9] (fun rm i wr=>∃(q n:Nat),rm= .int .u32 n/\((q=0/\i= .int .i64 (-1))\/∃p:Nat,q=p+1/\i= .int .i64 p)/\IQ r X g W3 (k+1) ds (.slice oa ds.length oc) q n wr) (fun _ i _=>match i with| .int _ z=>(z+1).toNat|_=>0)
    case atStart=>exact⟨k+1,0,rfl,.inr ⟨k,rfl,rfl⟩,I0⟩
    case round=>
     obtain⟨q,n,rfl,hi,hiq⟩:=hrel;rcases hi with⟨rfl,rfl⟩|⟨p,rfl,rfl⟩
     ·have hxr:X/r<B^(k+1):=IS (Nat.div_le_self _ _) hq.tight.1;have hlv:Hid (Co wr (.slice (some ⟨g,0,none⟩) (k+1) m1) (X/r) (k+1)):=Hi (.inr ⟨g,0,m1,rfl,hk,by unfold maxLen;omega,hxr,fun j hj=>by rw[gX];simpa[mix]using hiq.row.cell hj⟩)
      go_wp2_with (go_at_call 221;(with_reducible refine(Tryz.trim _ (X/r) (k+1) _ hlv.out).mono ?_))
      rintro e w' ⟨k2,ht,rfl,rfl⟩;have hn:n=X %r:=by rw[hiq.rest];simp
      have hn36:n<36:=by rw[hn];have:=gR X (show 0<r by omega);omega
      have HN:=Hi hn;clear hn hxr;have hal:=Ps n hn36;have hdl:ds.length<=32000:=by have:=hq.lens hr hx0;have:=HDL.out;omega
      have hln:=Hi (hq.lens hr hx0);have hk2:k2<=m1:=by have:=Bj.le ht hq.tight.1 (Nat.div_le_self _ _);omega
      go_wp2_with (at_builtin;refine wpList_append_own _ rfl _ _ 104 rfl (g+1) 5 i0 (.int .u8 0) 1 1 Tryz.underlying104 hi hz0 hz1 hz2 rfl (by decide) _ _ _ rfl (hiq.own.alloc _) ⟨wr.heap.size,0,none⟩ 1 1 [.int .u8 ((J5 n).toNat:Nat)] rfl rfl ?c1 ?c2 ?c3 ?c4 ?c5 ?_)
      case c1=>
       intro j u hj
       match j,hj with
       |0,hj=>simp at hj;subst hj;simp[Addr.add]
      case c2=>intro u hu;simp at hu;subst hu;rfl
      case c3=>unfold maxLen;omega
      case c4=>omega
      case c5=>have:=hiq.row.lt;simp;omega
      intro v' w2 hown' hgrow _;obtain⟨va,vc,hv'⟩:=Dz hown';subst hv';have hq2:TQ r x g W3 (X/r) k2 (ds++ [n]) (.slice va (ds.length+1) vc) w2:=hq.next hr hx0 hiq HN.out ht hown' hgrow;go_wp2;go_roundw
      case rel=>exact⟨X/r,k2,ds++ [n],rfl,hk2,hq2⟩
      case measure=>have:=hln.out;simp;omega
     ·have hpk:p<k+1:=by have:=hiq.le;omega
      obtain⟨lp,hlp⟩:∃lp,lp=A0 X p:=⟨_,rfl⟩;obtain⟨dq,hdq⟩:∃dq,dq=A0 (X/r) p:=⟨_,rfl⟩;obtain⟨dr,hdr⟩:∃dr,dr=X/B^p %r:=⟨_,rfl⟩;have hcell:wr.cell? ⟨g,p,none⟩=some (.int .u32 (lp:Nat)):=by rw[hiq.row.cell hpk,hlp];simp[mix]
      have hfz:=hiq.row.frozen p;have hpi:(p:Int)<(k:Int)+1:=by omega
      have HD:=Hi (Ux X r p hr hr2 (n:=n) hiq.rest hlp hdq hdr);have HN:Hid (∀q,IQ r X g W3 (k+1) ds (.slice oa ds.length oc) p dr ((wr.drewN q).setCell ⟨g,p,none⟩ (.int .u32 (dq:Nat)))):=Hi fun q=>hiq.next hdq hdr q;clear hlp hdq hdr
      go_wp2_with (go_at_call 222;(with_reducible refine(HD.out _).mono ?_))
      rintro e w' ⟨rfl,q,rfl⟩;have hcell2:(wr.drewN q).cell? ⟨g,p,none⟩=some (.int .u32 (lp:Nat)):=hcell;have hfz2:(wr.drewN q).frozen? ⟨g,p,none⟩=false:=hfz;go_wp2;cases p with
      |zero=>
       go_roundw
       case rel=>exact⟨0,dr,rfl,.inl ⟨rfl,rfl⟩,HN.out q⟩
       case measure=>simp
      |succ p=>
       go_roundw
       case rel=>exact⟨p+1,dr,rfl,.inr ⟨p,rfl,by go_num⟩,HN.out q⟩
       case measure=>simp;omega
end Go.Proofs
end
