import Derived.Shelf.Strconv.Itoa0
import Derived.Shelf.Strconv.Itoa1
import Derived.Shelf.LaysM
import Derived.Shelf.Strconv.Itoa2
import Derived.Shelf.Strconv.Itoa3
import Derived.Shelf.Unicode.DecodeSlow
import Derived.Shelf.Unicode.DecodeAny
import Derived.Laws.CopyOwn
import Derived.Lib.RuneBytes
import Derived.Lib.TrimUEq
import Derived.Lib.Small
import Derived.Laws.AppendOwn
import Derived.Laws.OwnMore
import Derived.Lib.UnsafeStr
import Derived.Laws.BytesArg
import Derived.Lib.Builder
import Derived.Lib.FrozenHead
import Derived.Test.YtpocgkiamgipdaaGreatDoorTab
import Derived.Lib.ConvBytes
import Derived.Deep.RegionHeldLaw
set_option maxRecDepth 1000000
set_option maxHeartbeats 0
open Go.Proofs.Tryz
section
namespace Go.Bg
def B:Nat:=4294967296
def Az (x j:Nat):Nat:=x/B^j %B
theorem Je:0<B:=by decide
theorem Bi (j:Nat):0<B^j:=oe Je
theorem Gh (x j:Nat):Az x j<B:=mw _ Je
theorem UN {x j:Nat}(h:x<B^j):Az x j=0:=by unfold Az;rw[nJ h];rfl
theorem OF {x m:Nat}(h:x<B^(m+1)) (h0:Az x m=0):x<B^m:=by
 unfold Az at h0;rw[l9]at h;have h1:x/B^m<B:=Nat.div_lt_of_lt_mul h;rw[mv h1]at h0;exact(ox (Bi m)).1 h0
theorem Mx {x m:Nat}(h0:Az x m≠0):B^m<=x:=by
 rcases ls x (B^m)with h1|h1
 ·exact absurd (UN h1) h0
 ·exact h1
def Bh (x m:Nat):Prop:=x<B^m/\(m=0\/B^(m-1)<=x)
theorem Bh.Ao {x m:Nat}(h:Bh x m):m=0↔x=0:=by
 obtain⟨h1,h2⟩:=h;constructor
 ·rintro rfl;simpa using h1
 ·rintro rfl;rcases h2 with h2|h2
  ·exact h2
  ·have:=Bi (m-1);omega
theorem Bh.inj {x m n:Nat}(h:Bh x m) (h':Bh x n):m=n:=by
 have key:∀{a b:Nat},Bh x a->Bh x b->¬a<b:=by
  intro a b ha hb hab;rcases hb.2 with h2|h2
  ·omega
  ·have h3:B^a<=B^(b-1):=lX Je (by omega);have:=ha.1;omega
 have h1:=key h h';have h2:=key h' h;omega
theorem Xl (x k:Nat):x/B^k=x/B^(k+1)*B+Az x k:=by
 unfold Az;rw[l9,<-mf];have:=oD (x/B^k) B;rw[mR]at this;exact this.symm
theorem XT (x r k:Nat) (hr:0<r):((x/B^(k+1)) %r*B+Az x k)/r=Az (x/r) k/\((x/B^(k+1)) %r*B+Az x k) %r=(x/B^k) %r:=by
 obtain⟨y,hy⟩:∃y,y=x/B^(k+1):=⟨_,rfl⟩;have e:=Xl x k;have u7:=Gh x k;have e2:Az (x/r) k=x/B^k/r %B:=by
  unfold Az;rw[mf,mf,mR]
 rw[e2,e,<-hy];clear e e2 hy;obtain⟨l,hl⟩:∃l,l=Az x k:=⟨_,rfl⟩;rw[<-hl]at u7⊢;clear hl;have hm:r*(y/r)+y %r=y:=oD y r;have tT:y %r<r:=mw _ hr;obtain⟨q,hq⟩:∃q,q=y/r:=⟨_,rfl⟩;obtain⟨m,si⟩:∃m,m=y %r:=⟨_,rfl⟩;rw[<-hq,<-si]at hm;rw[<-si]at tT⊢;have h1:y*B+l=r*(q*B)+(m*B+l):=by
  rw[<-hm,mI,l5,oX]
 rw[h1,Nat.mul_add_div hr,Nat.mul_add_mod];have h2:m*B+l<r*B:=by
  have:(m+1)*B<=r*B:=lV B tT;rw[mI]at this;omega
 have h3:(m*B+l)/r<B:=Nat.div_lt_of_lt_mul h2;refine⟨?_,rfl⟩;rw[mR q B,Nat.mul_add_mod,mv h3]
def gW (r:Nat):Nat->Nat->List Nat
 |0,_=> []
 |f+1,n=>if n=0 then []else n %r::gW r f (n/r)
def FF (r n:Nat):List Nat:=gW r n n
theorem Xe {r:Nat}(hr:2<=r):∀(f n:Nat),n<=f->gW r f n=gW r n n:=by
 intro f
 induction f using Nat.strongRecOn with
 |_ f ih=>
  intro n hn
  match f,n,hn with
  |0,0,_=>rfl
  |f+1,0,_=>rfl
  |f+1,n+1,hn=>
   have hd:(n+1)/r<=n:=by
    have:(n+1)/r<n+1:=Nat.div_lt_self (by omega) (by omega);omega
   unfold gW;rw[lL (by omega),lL (by omega),ih f (by omega) _ (by omega)];rcases ls n (f+1)with h|h
   ·rw[ih n (by omega) _ hd]
   ·omega
theorem Dm (r:Nat):FF r 0= []:=rfl
theorem DB {r n:Nat}(hr:2<=r) (hn:n≠0):FF r n=n %r::FF r (n/r):=by
 obtain⟨m,rfl⟩:∃m,n=m+1:=⟨n-1,by omega⟩;have hd:(m+1)/r<=m:=by
  have:(m+1)/r<m+1:=Nat.div_lt_self (by omega) (by omega);omega
 unfold FF
 conv=>lhs;unfold gW
 rw[lL (by omega),Xe hr m _ hd]
def Fc (d:Nat):UInt8:=if d<10 then(48+d).toUInt8 else(87+d).toUInt8
def Ar (r n:Nat):List UInt8:=if n=0 then [48]else((FF r n).map Fc).reverse
end Go.Bg
namespace Go.Proofs
open Go.RowKit Go.Bg
def iW (w:World) (b o x m:Nat):Prop:=x<B^m/\∀j,j<m->w.cell? ⟨b,o+j,none⟩=some (.int .u32 (Az x j))
def CH (w:World) (v:Value) (x m:Nat):Prop:=(v= .slice none 0 0/\x=0/\m=0)\/∃b o c,v= .slice (some ⟨b,o,none⟩) m c/\m<=c/\c<=maxLen/\iW w b o x m
def Ll (v:Value) (w:World) (x:Nat) (e:Ending) (w':World):Prop:=
 ∃m',Bh x m'/\e= .returned (match v with| .slice a _ c=> .slice a m' c|v=>v)/\w=w'
theorem PG (w:World):Calls prog 135 #[.slice none 0 0] w (Ll (.slice none 0 0) w 0):=by
 go_enter func135,ntmps135;go_wp2;refine wp_loop_rounds 1 ?_;rw[rounds_succ];go_wp2;go_ret;exact⟨0,⟨by decide,.inl rfl⟩,rfl,rfl⟩
theorem Vo (b o c x m:Nat) (w:World) (hc:m<=c) (hmax:c<=9223372036854775807) (hl:Hid (iW w b o x m)):Calls prog 135 #[.slice (some ⟨b,o,none⟩) m c] w (Ll (.slice (some ⟨b,o,none⟩) m c) w x):=by
 go_enter func135,ntmps135;go_wp2
 go_loop [0] (fun v=>∃k:Nat,k<=m/\x<B^k/\v= .slice (some ⟨b,o,none⟩) k c) (fun v=>match v with| .slice _ k _=>k|_=>0)
 case atStart=>exact⟨m,nR _,hl.o.1,rfl⟩
 case round=>
  obtain⟨k,hk,hx,rfl⟩:=hrel;have HX:=Hi hx;clear hx;cases k with
  |zero=>
   go_wp2;go_ret;exact⟨0,⟨HX.o,.inl rfl⟩,rfl,rfl⟩
  |succ k=>
   have qW:w.cell? ⟨b,o+k,none⟩=some (.int .u32 (Az x k)):=hl.o.2 k (by omega);by_cases h0:Az x k=0
   ·have t0:((Az x k:Int)==0)=true:=by rw[h0];rfl
    have H0:=Hi h0;clear h0;go_wp2;go_round
    case rel=>exact⟨k,by omega,OF HX.o H0.o,rfl⟩
    case measure=>simp
   ·have t0:((Az x k:Int)==0)=false:=by rw[nD];intro h;have:=eq_of_beq h;omega
    have H0:=Hi h0;clear h0;go_wp2;go_ret;exact⟨k+1,⟨HX.o,.inr (Mx H0.o)⟩,rfl,rfl⟩
theorem Tryz.trim (v:Value) (x m:Nat) (w:World) (hv:CH w v x m):Calls prog 135 #[v] w (Ll v w x):=by
 rcases hv with⟨rfl,rfl,rfl⟩|⟨b,o,c,rfl,h1,h2,h3⟩
 ·exact PG w
 ·unfold maxLen at h2;exact Vo b o c x m w h1 h2 (Hi h3)
end Go.Proofs
end
section
namespace Go.Proofs
open Go.Shelf
def Ob:Go.Shelf.Ren:=⟨fun|119=>119|n=>n,fun|21=>21|4=>4|n=>n,fun|n=>n⟩
theorem aB:Go.Proofs.Lays.n119 prog Ob:= {
 mixed:=by kernel_rfl
 f119:=Tryz.func119.trans (mQ some (by kernel_rfl))
 t4:=oF
 a4:=isAgg4
 z4:=pT
 v4:=od
 t21:=underlying21
 a21:=isAgg21
 z21:=sizeOf21
 v21:=zeroValue21}
theorem Tryz.utf8_ValidRune (r:Int) (w:World):
 Calls prog 119 #[.int .i32 r] w fun e w'=>e= .returned (.bool (Lib.validRune r))/\w'=w:=Any.utf8_ValidRune aB r w
def Oe:Go.Shelf.Ren:=⟨fun|128=>143|n=>n,fun|51=>133|3=>3|4=>4|46=>164|5=>5|9=>9|n=>n,fun|n=>n⟩
theorem aT:Go.Proofs.Lays.n128 prog Oe:= {
 mixed:=by kernel_rfl
 f128:=Tryz.func143.trans (mQ some (by kernel_rfl))
 t3:=nU
 a3:=isAgg3
 z3:=sizeOf3
 v3:=pC
 t4:=oF
 a4:=isAgg4
 z4:=pT
 v4:=od
 t5:=nV
 a5:=isAgg5
 z5:=sizeOf5
 v5:=pD
 t9:=mS
 a9:=isAgg9
 z9:=sizeOf9
 v9:=pO
 t46:=oO
 a46:=isAgg164
 z46:=sizeOf164
 v46:=pL
 t51:=underlying133
 a51:=isAgg133
 z51:=sizeOf133
 v51:=zeroValue133}
theorem Tryz.bits_Len32 (x:Int) (w:World) (h0:0<=x) (h1:x<=4294967295):
 Calls prog 143 #[.int .u32 x] w fun e w'=>e= .returned (.int .i64 (Lib.bitLen x.toNat))/\w'=w:=Any.bits_Len32 aT x w h0 h1
def NH:Go.Shelf.Ren:=⟨fun|171=>94|243=>121|246=>142|283=>151|284=>152|285=>153|286=>154|129=>160|317=>159|318=>161|319=>162|320=>163|337=>177|338=>178|n=>n,fun|3=>3|9=>9|2=>2|4=>4|171=>223|0=>0|53=>28|37=>143|5=>5|173=>226|212=>236|51=>133|20=>20|213=>237|46=>164|232=>282|233=>283|n=>n,fun|17=>9|18=>16|19=>17|n=>n⟩
theorem Xi:Go.Proofs.LaysM.n171 prog NH:= {
 mixed:=by kernel_rfl
 f129:=Tryz.func160.trans (mQ some (by kernel_rfl))
 f171:=Tryz.func94.trans (mQ some (by kernel_rfl))
 f243:=Tryz.func121.trans (mQ some (by kernel_rfl))
 f246:=Tryz.func142.trans (mQ some (by kernel_rfl))
 f283:=Tryz.func151.trans (mQ some (by kernel_rfl))
 f284:=Tryz.func152.trans (mQ some (by kernel_rfl))
 f285:=Tryz.func153.trans (mQ some (by kernel_rfl))
 f286:=Tryz.func154.trans (mQ some (by kernel_rfl))
 f317:=Tryz.func159.trans (mQ some (by kernel_rfl))
 f318:=Tryz.func161.trans (mQ some (by kernel_rfl))
 f319:=Tryz.func162.trans (mQ some (by kernel_rfl))
 f320:=Tryz.func163.trans (mQ some (by kernel_rfl))
 f337:=Tryz.func177.trans (mQ some (by kernel_rfl))
 f338:=Tryz.func178.trans (mQ some (by kernel_rfl))
 t0:=underlying0
 a0:=isAgg0
 z0:=sizeOf0
 v0:=zeroValue0
 t2:=underlying2
 a2:=isAgg2
 z2:=sizeOf2
 v2:=zeroValue2
 t3:=nU
 a3:=isAgg3
 z3:=sizeOf3
 v3:=pC
 t4:=oF
 a4:=isAgg4
 z4:=pT
 v4:=od
 t5:=nV
 a5:=isAgg5
 z5:=sizeOf5
 v5:=pD
 t9:=mS
 a9:=isAgg9
 z9:=sizeOf9
 v9:=pO
 t20:=underlying20
 a20:=isAgg20
 z20:=sizeOf20
 v20:=zeroValue20
 t37:=my
 a37:=isAgg143
 z37:=sizeOf143
 v37:=zeroValue143
 t46:=oO
 a46:=isAgg164
 z46:=sizeOf164
 v46:=pL
 t51:=underlying133
 a51:=isAgg133
 z51:=sizeOf133
 v51:=zeroValue133
 t53:=underlying28
 a53:=isAgg28
 z53:=sizeOf28
 v53:=zeroValue28
 t171:=underlying223
 a171:=isAgg223
 z171:=sizeOf223
 v171:=zeroValue223
 t173:=underlying226
 a173:=isAgg226
 z173:=sizeOf226
 v173:=zeroValue226
 t212:=underlying236
 a212:=isAgg236
 z212:=sizeOf236
 v212:=zeroValue236
 t213:=underlying237
 a213:=isAgg237
 z213:=sizeOf237
 t232:=underlying282
 a232:=isAgg282
 z232:=sizeOf282
 v232:=zeroValue282
 t233:=underlying283
 a233:=isAgg283
 z233:=sizeOf283
 v233:=zeroValue283
 g17:=by kernel_rfl
 g18:=by kernel_rfl
 g19:=by kernel_rfl
 i0:=by kernel_rfl
 i2:=by kernel_rfl
 i3:=by kernel_rfl
 i4:=by kernel_rfl
 i5:=by kernel_rfl
 i9:=by kernel_rfl
 i20:=by kernel_rfl
 i37:=by kernel_rfl
 i46:=by kernel_rfl
 i51:=by kernel_rfl
 i53:=by kernel_rfl
 i171:=by kernel_rfl
 i173:=by kernel_rfl
 i212:=by kernel_rfl
 i232:=by kernel_rfl
 i233:=by kernel_rfl
 m17:=by kernel_rfl
 m18:=by kernel_rfl
 m19:=by kernel_rfl}
open Go.RowKit Go.Sort Go.Lib in
theorem Tryz.strconv_Itoa (n:Int) (h0: -9223372036854775808<=n) (h1:n<=9223372036854775807) (w:World) (htab:Lib.TabIs prog w "internal/strconv.uint64pow10" .u64 Lib.pow10Tab):
 Calls prog 94 #[.int .i64 n] w fun e w'=>e= .returned (.string ⟨(Lib.itoa n).toArray⟩)/\∃k os,w'=grow (w.drewN k) os:=Any.strconv_Itoa Xi n h0 h1 w htab
def OZ:Go.Shelf.Ren:=⟨fun|197=>82|260=>111|n=>n,fun|9=>9|21=>21|3=>3|4=>4|5=>5|105=>136|119=>110|0=>0|46=>164|139=>195|138=>194|n=>n,fun|3=>3|4=>4|n=>n⟩
theorem ZY:Go.Proofs.Lays.n197 prog OZ:= {
 mixed:=by kernel_rfl
 f197:=Tryz.func82.trans (mQ some (by kernel_rfl))
 f260:=Tryz.func111.trans (mQ some (by kernel_rfl))
 t0:=underlying0
 a0:=isAgg0
 z0:=sizeOf0
 v0:=zeroValue0
 t3:=nU
 a3:=isAgg3
 z3:=sizeOf3
 v3:=pC
 t4:=oF
 a4:=isAgg4
 z4:=pT
 v4:=od
 t5:=nV
 a5:=isAgg5
 z5:=sizeOf5
 v5:=pD
 t9:=mS
 a9:=isAgg9
 z9:=sizeOf9
 v9:=pO
 t21:=underlying21
 a21:=isAgg21
 z21:=sizeOf21
 v21:=zeroValue21
 t46:=oO
 a46:=isAgg164
 z46:=sizeOf164
 v46:=pL
 t105:=underlying136
 a105:=isAgg136
 z105:=sizeOf136
 v105:=zeroValue136
 t119:=underlying110
 a119:=isAgg110
 z119:=sizeOf110
 t138:=underlying194
 a138:=isAgg194
 z138:=sizeOf194
 v138:=zeroValue194
 t139:=underlying195
 a139:=isAgg195
 z139:=sizeOf195
 v139:=zeroValue195
 g3:=by kernel_rfl
 g4:=by kernel_rfl}
open Go.RowKit Go.Lib in
theorem Tryz.utf8_DecodeRuneInString (s:ByteArray) (w:World) (hT:Lib.Utf8Tabs 3 4 w):
 Calls prog 82 #[.string s] w fun e w'=>e= .returned (.tuple #[.int .i32 (Lib.decodeGo s).1,.int .i64 (Lib.decodeGo s).2])/\Below w.heap.size w w':=Any.utf8_DecodeRuneInString ZY s w hT
end Go.Proofs
end
section
namespace Go.Proofs
open Go.RowKit Go.Bg
def sz (x m:Nat):Nat:=if m=0 then 0 else 32*(m-1)+Lib.bitLen (Az x (m-1))
theorem MN (x m:Nat):32*(m-1)<=sz x m:=by
 unfold sz;split<;>omega
def Wt (w:World) (x:Nat) (e:Ending) (w':World):Prop:=∃m',Bh x m'/\e= .returned (.int .i64 (sz x m'))/\w=w'
theorem iK (x:Nat) (w:World) (h:x<4294967296):Calls prog 143 #[.int .u32 x] w fun e w'=>e= .returned (.int .i64 (Lib.bitLen x))/\w=w':=
 (Tryz.bits_Len32 x w (by omega) (by omega)).mono fun _ _ ⟨h1,h2⟩=>⟨h1,h2.symm⟩
theorem bitLen_le64 (x:Nat):Lib.bitLen x<=64:=by
 have:∀f x,Lib.bitLenAux f x<=f:=by
  intro f
  induction f with
  |zero=>intro x;simp[Lib.bitLenAux]
  |succ f ih=>intro x;unfold Lib.bitLenAux;split
              ·omega
              ·have:=ih (x/2);omega
 exact this 64 x
theorem Tryz.size (v:Value) (x m:Nat) (w:World) (hm:m<=70368744177664) (hv:Hid (CH w v x m)):Calls prog 131 #[v] w (Wt w x):=by
 rcases hv.o with⟨rfl,rfl,rfl⟩|⟨b,o,c,rfl,h1,h2,h3⟩
 ·clear hv;go_enter func131,ntmps131
  go_wp2_with (go_at_call 135;(with_reducible refine(PG _).mono ?_))
  rintro e w' ⟨m',ht,rfl,rfl⟩;have rK:m'=0:=ht.Ao.2 rfl;subst rK;go_wp2;go_ret;exact⟨0,ht,rfl,rfl⟩
 ·have H3:=Hi h3;have hc9:c<=9223372036854775807:=by unfold maxLen at h2;exact h2
  clear h3 h2;go_enter func131,ntmps131
  go_wp2_with (go_at_call 135;(with_reducible refine(Tryz.trim _ x m _ hv.o).mono ?_))
  rintro e w' ⟨m',ht,rfl,rfl⟩;have hle:m'<=m:=by
   rcases ht.2 with h|h
   ·omega
   ·rcases ls m (m')with h4|h4
    ·have:B^m<=B^(m'-1):=lX Je (by omega);have:=H3.o.1;omega
    ·exact h4
  cases m' with
  |zero=>
   go_wp2;go_ret;exact⟨0,ht,rfl,rfl⟩
  |succ k=>
   have qW:w.cell? ⟨b,o+k,none⟩=some (.int .u32 (Az x k)):=H3.o.2 k (by omega);have hb:=bitLen_le64 (Az x k);have qE:Az x k<4294967296:=Gh x k
   go_wp2_with (go_at_call 143;(with_reducible refine(iK (Az x k) _ qE).mono ?_);rintro e w' ⟨rfl,rfl⟩)
   go_ret;refine⟨k+1,ht,?_,rfl⟩;have e:((sz x (k+1):Nat):Int)=32*(k:Int)+(Lib.bitLen (Az x k):Int):=by
    unfold sz;rw[lL (by omega)];simp
   rw[e];rfl
theorem iW.below {w w':World} {b o x m:Nat}(h:iW w b o x m) (hb:Below w.heap.size w w'):iW w' b o x m:=by
 refine⟨h.1,fun j hj=> ?_⟩;have h1:=h.2 j hj;have qE:b<w.heap.size:=by
  rcases ls b w.heap.size with h2|h2
  ·exact h2
  ·simp[World.cell?,oS h2]at h1
 rw[hb.cell (p:=⟨b,o+j,none⟩) qE,h1]
theorem CH.below {w w':World} {v:Value} {x m:Nat}(h:CH w v x m) (hb:Below w.heap.size w w'):CH w' v x m:=by
 rcases h with h|⟨b,o,c,h1,h2,h3,h4⟩
 ·exact .inl h
 ·exact .inr ⟨b,o,c,h1,h2,h3,h4.below hb⟩
theorem CH.slice {w:World} {v:Value} {x m:Nat}(h:CH w v x m):∃a c,v= .slice a m c:=by
 rcases h with⟨rfl,_,rfl⟩|⟨b,o,c,rfl,_⟩
 ·exact⟨_,_,rfl⟩
 ·exact⟨_,_,rfl⟩
def Xv (w:World) (x:Nat) (e:Ending) (w':World):Prop:=∃m',Bh x m'/\e= .returned (.bool (decide ((4096:Int)<(sz x m':Nat))))/\Below w.heap.size w w'
theorem Tryz.long (g:Nat) (neg:Bool) (v:Value) (x m:Nat) (w:World) (hm:m<=70368744177664) (hv:Hid (CH w v x m)) (c0:w.cell? ⟨g,0,none⟩=some (.bool neg)) (c1:w.cell? ⟨g,1,none⟩=some v):
 Calls prog 133 #[.slice (some ⟨g,0,none⟩) 1 1] w (Xv w x):=by
 obtain⟨a,c,rfl⟩:=hv.o.slice;go_enter func133,ntmps133;go_wp2;refine wp_loop_rounds 2 ?_;rw[rounds_succ]
 go_wp2_with fail
 have HV:Hid (∀o,CH (w.alloc o) (.slice a m c) x m):=Hi fun o=>hv.o.below (Bzz o)
 go_wp2_with (go_at_call 131;(with_reducible refine(Tryz.size _ x m _ hm (Hi (HV.o _))).mono ?_))
 rintro e w' ⟨m',ht,rfl,rfl⟩;go_wp2
 all_goals try rw[rounds_succ]
 all_goals try go_wp2
 all_goals
  go_ret;refine⟨m',ht,?_,Bzz _⟩
  first
   |exact mQ (fun b=>Ending.returned (.bool b)) (lU (by assumption)).symm
   |exact mQ (fun b=>Ending.returned (.bool b)) (lO (by omega)).symm
end Go.Proofs
end
section
namespace Go.Proofs
open Go.RowKit Go.Bg
theorem N8:(Tryz.prog.info? 133).map (fun i=>(i.zero,i.size,i.bytes))=some (some (.int .u32 0),1,4):=by kernel_rfl
theorem Zw:(Tryz.prog.info? 133).map (·.size)=some 1:=by kernel_rfl
def BF (x m:Nat):List Value:=(List.range m).map fun j=>Value.int .u32 (Az x j:Nat)
theorem Cs (x m:Nat):(BF x m).length=m:=by simp[BF]
theorem Ds (x m j:Nat) (h:j<m):(BF x m)[j]? =some (.int .u32 (Az x j:Nat)):=by simp[BF,h]
def Y0 (w:World) (x m:Nat) (e:Ending) (w':World):Prop:=
 e= .returned (.slice (some ⟨w.heap.size,0,none⟩) m m)/\w'.heap[w.heap.size]? =some (.cells (BF x m).toArray 133 (0,0))/\Below w.heap.size w w'
theorem Tryz.own (v:Value) (x m:Nat) (w:World) (hm:m<=1000000) (hv:Hid (CH w v x m)):Calls prog 134 #[v] w (Y0 w x m):=by
 obtain⟨i0,hi,qX,qg,qe⟩:=nw N8;obtain⟨a,c,rfl⟩:=hv.o.slice;have bm:i0.bytes*m<=281474976710656:=by rw[qe];omega
 go_enter func134,ntmps134
 go_wp2_with (refine wpList_make_full w rfl _ _ 176 rfl w.heap.size 133 i0 (.int .u32 0) 1 underlying176 hi qX qg .i64 .i64 m m m rfl rfl rfl rfl bm (by unfold maxLen;omega) (nR _) ?_)
 intro w1 qD qC;obtain⟨cur,hcl,hcur⟩:∃cur:List Value,cur.length=m/\w1.heap[w.heap.size]? =some (.cells cur.toArray 133 (0,0)):=by
  rcases qD.2 with⟨h,_⟩|⟨g,cap,cur,h,_,hg,_,_,qy,_⟩
  ·simp at h
  ·simp only[mX,mD,Addr.mk.injEq,pZ,true_and]at h;obtain⟨rfl,rfl⟩:=h;exact⟨cur.toList,by simpa using qy,by simpa using hg⟩
 have ql:Below w.heap.size w w1:=(Below.refl _ _).grown qC (nR _) (fun k hk=>by cases hk);have sj:=Hi (hv.o.below ql);have HG:=Hi hcur;have HL:=Hi hcl;obtain⟨cs,qy⟩:∃cs,cs=BF x m:=⟨_,rfl⟩;have hcsl:cs.length=m:=by rw[qy,Cs]
 have HCS:=Hi qy;have yO:=Hi hcsl;clear qy hcsl hcur hcl qD qC
 go_wp2_with (refine wpList_copy_splice rfl _ _ 176 176 rfl 133 underlying176 Zw (some ⟨w.heap.size,0,none⟩) a m m m c rfl rfl w.heap.size 0 cur 133 HG.o cs (by rw[yO.o];exact(Nat.min_self m).symm) ?c1 (by rw[yO.o,HL.o];omega) ?c2 w.heap.size w ql (nR _) ?_)
 case c1=>
  intro qT;rcases sj.o with⟨_,_,h⟩|⟨b,o,c',h1,_,_,h2⟩
  ·rw[yO.o]at qT;omega
  ·simp only[mX]at h1;obtain⟨rfl,_,rfl⟩:=h1;refine⟨⟨b,o,none⟩,rfl,fun j u hj=> ?_⟩;have qE:j<m:=by
    rcases ls j m with h3|h3
    ·exact h3
    ·rw[mr (by rw[yO.o];exact h3)]at hj;cases hj
   rw[HCS.o,Ds x m j qE]at hj;cases hj;have h4:=h2.2 j qE;have h5:(⟨b,o,none⟩:Addr).add j=⟨b,o+j,none⟩:=by unfold Addr.add;split<;>simp_all
   rw[h5];exact h4
 case c2=>
  intro u hu;rw[HCS.o]at hu;unfold BF at hu;obtain⟨j,_,rfl⟩:=List.mem_map.1 hu;rfl
 intro w2 uF qM;go_wp2;go_ret;refine⟨rfl,?_,qM⟩;have:=uF.o;rw[this,HCS.o];congr 2;unfold splice;rw[Cs,List.drop_of_length_le (by rw[HL.o];omega)];simp
end Go.Proofs
end
section
namespace Go.Proofs
open Go.RowKit Go.Bg
theorem YC (h l:Nat) (hh:h<36) (hl:l<4294967296):bits .or .u64 ((h:Int)*4294967296) (l:Int)=((h*B+l:Nat):Int):=by
 have e:((h:Int)*4294967296)=((h*4294967296:Nat):Int):=by omega
 rw[e,u64_or_nat (h*4294967296) l (by omega) (by omega)];unfold B;rw[show(4294967296:Nat)=2^32 from rfl,<-Nat.shiftLeft_eq,Nat.shiftLeft_add_eq_or_of_lt (by simpa using hl)]
def ak (h l r:Nat) (w:World) (e:Ending) (w':World):Prop:=
 e= .returned (.tuple #[.int .u32 ((h*B+l)/r:Nat),.int .u32 ((h*B+l) %r:Nat)])/\∃n,w'=w.drewN n
theorem jV (h l r:Nat) (w:World) (hh:h<r) (hl:l<4294967296) (hr:r<=36):Calls prog 136 #[.int .u32 h,.int .u32 l,.int .u32 r] w (ak h l r w):=by
 have r0:((r:Int)==0)=false:=by rw[nD];intro h;have:=eq_of_beq h;omega
 have r1:¬r<=h:=by omega
 have h1:(h:Int)<=36:=by omega
 have tX:(l:Int)<=4294967295:=by omega
 have vT:(r:Int)<=36:=by omega
 have rL:(1:Int)<=r:=by omega
 obtain⟨z,hz⟩:∃z:Nat,z=h*B+l:=⟨_,rfl⟩;have ho:bits .or .u64 ((h:Int)*4294967296) (l:Int)=(z:Int):=by rw[hz];exact YC h l (by omega) hl
 have hzb:(z:Int)<=184683593727:=by rw[hz];unfold B;omega
 have HZ:=Hi hz;have q2:(z:Int)/(r:Int)<=4294967295:=by
  show((z/r:Nat):Int)<=4294967295;have h3:z<B*r:=by
   rw[hz];have:(h+1)*B<=r*B:=lV B hh;rw[mI]at this;rw[mR B r];unfold B at*;omega
  have:=Nat.div_lt_of_lt_mul (by rw[mR];exact h3:z<r*B);unfold B at this;omega
 have q3:(z:Int) %(r:Int)<=36:=by
  show((z %r:Nat):Int)<=36;have:=mw z (show 0<r by omega);omega
 have q4:0<=(z:Int)/(r:Int):=Int.natCast_nonneg (z/r);have q5:0<=(z:Int) %(r:Int):=Int.natCast_nonneg (z %r);clear hz;go_enter func136,ntmps136;go_wp2
 go_region
 go_wp2;go_ret2;refine⟨?_,1,rfl⟩;rw[<-HZ.o];rfl
end Go.Proofs
end
section
namespace Go.Hb
def Ah (v:Int):Prop:=0<=v/\v<=1114111/\(v<55296\/57343<v)
theorem Cl (v:Int):Lib.encodeRune v=(Lib.encodeRuneZ v).map fun x=>x.toNat.toUInt8:=rfl
theorem Ah.cases {v:Int}(h:Ah v):(0<=v/\v<=127)\/(128<=v/\v<=2047)\/((2048<=v/\v<55296)\/(57343<v/\v<=65535))\/(65536<=v/\v<=1114111):=by
 unfold Ah at h;omega
theorem lE (n:Nat) (h:n<256):n.toUInt8.toNat=n:=by
 simp only[Nat.toUInt8,UInt8.toNat_ofNat'];omega
theorem Ew (s:ByteArray) (p:Nat) (l:List UInt8) (h:s.data.toList.drop p=l):Utf8.decode s p=Lib.decodeN l.length (l.getD 0 0).toNat (l.getD 1 0).toNat (l.getD 2 0).toNat (l.getD 3 0).toNat:=by
 subst h;rw[Lib.decode_N,List.length_drop,Lib.getD_dropU,Lib.getD_dropU,Lib.getD_dropU,Lib.getD_dropU];rfl
def AI (s:ByteArray) (k:Nat):Int:=((s.data.toList.getD k 0).toNat:Int)
theorem Mz (s:ByteArray) (k:Nat):0<=AI s k:=by unfold AI;omega
theorem Ka (s:ByteArray) (k:Nat):AI s k<256:=by unfold AI;have:=(s.data.toList.getD k 0).toNat_lt;omega
theorem AP (s:ByteArray) (k:Nat) (h:k<s.size):AI s k=(s[k].toNat:Int):=by
 unfold AI;rw[lZ,lu (by simpa using h)];rfl
theorem Ax (s:ByteArray) (k:Nat) (h:s.size<=k):AI s k=0:=by
 unfold AI;rw[lZ,mr (by simpa using h)];rfl
instance (v:Int):Decidable (Ah v):=by unfold Ah;infer_instance
theorem Fs (s:ByteArray) (k:Nat) (h:128<=AI s k):k<s.size:=by
 rcases ls k s.size with h1|h1
 ·exact h1
 ·rw[Ax s k h1]at h;omega
theorem KY {v:Int}(h:Ah v):Lib.runeLen v=(Lib.encodeRune v).length:=by
 have h0:=h;unfold Ah at h0;rcases h.cases with c|c|c|c
 ·rw[Cl,Lib.encodeRuneZ_one c.1 c.2];simp[Lib.runeLen];omega
 ·rw[Cl,Lib.encodeRuneZ_two c.1 c.2];unfold Lib.runeLen;rw[lL (by omega),lL (by omega),lQ (by omega)];rfl
 ·rw[Cl,Lib.encodeRuneZ_three c];unfold Lib.runeLen;rw[lL (by omega),lL (by omega),lL (by omega),lL (by omega),lQ (by omega)];rfl
 ·rw[Cl,Lib.encodeRuneZ_four c.1 c.2];unfold Lib.runeLen;rw[lL (by omega),lL (by omega),lL (by omega),lL (by omega),lL (by omega),lQ (by omega)];rfl
theorem OC (v:Int):1<=(Lib.encodeRune v).length/\(Lib.encodeRune v).length<=4:=by
 have:=Lib.encodeRuneZ_length v;rw[Cl,nN];exact this
end Go.Hb
end
section
namespace Go.Proofs
open Go.RowKit Go.Hb
theorem Nd:(Tryz.prog.info? 5).map (fun i=>(i.zero,i.size,i.bytes))=some (some (.int .u8 0),1,1):=by kernel_rfl
end Go.Proofs
end
section
namespace Go.Proofs
open Go.RowKit Go.Bg
theorem Ix {w:World} {g q:Nat} {arr:Array Value} {t:TypeId} {fz:Nat×Nat}(h:w.heap[g]? =some (.cells arr t fz)) (v:Value):(w.setCell ⟨g,q,none⟩ v).heap[g]? =some (.cells (arr.setIfInBounds q v) t fz):=by
 unfold World.setCell;simp[Array.getElem?_modify,h]
def CJ (w:World) (g n:Nat) (t:TypeId) (f:Nat->Value):Prop:=∃cur:Array Value,w.heap[g]? =some (.cells cur t (0,0))/\n<=cur.size/\∀j,j<n->cur[j]? =some (f j)
theorem CJ.cell {w:World} {g n:Nat} {t:TypeId} {f:Nat->Value}(h:CJ w g n t f){j:Nat}(hj:j<n):w.cell? ⟨g,j,none⟩=some (f j):=by
 obtain⟨cur,h1,_,h3⟩:=h;rw[Lib.cell_of_heap h1];simpa using h3 j hj
theorem CJ.frozen {w:World} {g n:Nat} {t:TypeId} {f:Nat->Value}(h:CJ w g n t f) (j:Nat):w.frozen? ⟨g,j,none⟩=false:=by
 obtain⟨cur,h1,_,_⟩:=h;exact Lib.frozen_of_heap h1 j
theorem CJ.set {w:World} {g n q:Nat} {t:TypeId} {f f':Nat->Value}(h:CJ w g n t f) (v:Value) (hq:q<n) (hf:∀j,j<n->f' j=if j=q then v else f j):CJ (w.setCell ⟨g,q,none⟩ v) g n t f':=by
 obtain⟨cur,h1,h2,h3⟩:=h;refine⟨_,Ix h1 v,by simpa using h2,fun j hj=> ?_⟩;rw[hf j hj,Array.getElem?_setIfInBounds];by_cases e:q=j
 ·subst e;simp;omega
 ·rw[lL e,lL (Ne.symm e),h3 j hj]
theorem CJ.drewN {w:World} {g n:Nat} {t:TypeId} {f:Nat->Value}(h:CJ w g n t f) (k:Nat):CJ (w.drewN k) g n t f:=h
theorem CJ.block {w w':World} {g n:Nat} {t:TypeId} {f:Nat->Value}(h:CJ w g n t f) (hb:w'.heap[g]? =w.heap[g]?):CJ w' g n t f:=by
 obtain⟨cur,h1,h2,h3⟩:=h;exact⟨cur,hb.trans h1,h2,h3⟩
theorem CJ.lt {w:World} {g n:Nat} {t:TypeId} {f:Nat->Value}(h:CJ w g n t f):g<w.heap.size:=by
 obtain⟨cur,h1,_⟩:=h;exact(lN.1 h1).1
theorem CH.cut {w:World} {a:Option Addr} {c x m m1:Nat}(h:CH w (.slice a m c) x m) (hle:m1<=m) (hx:x<B^m1):CH w (.slice a m1 c) x m1:=by
 rcases h with⟨h1,h2,h3⟩|⟨b,o,c',h1,h2,h3,h4⟩
 ·subst h2 h3;obtain rfl:m1=0:=by omega
  exact .inl ⟨h1,rfl,rfl⟩
 ·simp only[mX]at h1;obtain⟨rfl,_,rfl⟩:=h1;exact .inr ⟨b,o,c,rfl,by omega,h3,hx,fun j hj=>h4.2 j (by omega)⟩
def cP (x r q:Nat) (j:Nat):Value:= .int .u32 ((if j<q then Az x j else Az (x/r) j:Nat):Int)
structure TQ (r x g:Nat) (W3:World) (X k:Nat) (ds:List Nat) (o:Value) (wr:World):Prop where
 tight:Bh X k
 Ca:FF r x=ds++FF r X
 row:CJ wr g k 133 (fun j=> .int .u32 (Az X j:Nat))
 own:wr.ownsRow (g+1) 5 1 o ds.length (Lib.byteCells (ds.map Fc))
 Ac:Below g W3 wr
structure IQ (r X g:Nat) (W3:World) (k:Nat) (ds:List Nat) (o:Value) (q n:Nat) (wr:World):Prop where
 le:q<=k
 rest:n=X/B^q %r
 row:CJ wr g k 133 (cP X r q)
 own:wr.ownsRow (g+1) 5 1 o ds.length (Lib.byteCells (ds.map Fc))
 Ac:Below g W3 wr
theorem TQ.start {r x g:Nat} {W3:World} {X k:Nat} {ds:List Nat} {o:Value} {wr:World}(h:TQ r x g W3 X k ds o wr):IQ r X g W3 k ds o k 0 wr:=by
 refine⟨nR _,?_,?_,h.own,h.Ac⟩
 ·rw[nJ h.tight.1];simp
 ·obtain⟨cur,h1,h2,h3⟩:=h.row;exact⟨cur,h1,h2,fun j hj=>by rw[h3 j hj];simp[cP,hj]⟩
theorem TQ.next {r x g:Nat} {W3:World} {X k k2 n:Nat} {ds:List Nat} {o v':Value} {wo wr w2:World} {ob:Obj}(h:TQ r x g W3 X k ds o wo) (hr:2<=r) (hx:X≠0) (hi:IQ r X g W3 k ds o 0 n wr) (hn:n=X %r) (ht:Bh (X/r) k2)
 (qD:w2.ownsRow (g+1) 5 1 v' (ds.length+1) (Lib.byteCells (ds.map Fc)++ [.int .u8 ((Fc n).toNat:Nat)])) (hg:(wr.alloc ob).grownBy w2 o.ownBlock):TQ r x g W3 (X/r) k2 (ds++ [n]) v' w2:=by
 have J5:=hi.row.lt;have hle:k2<=k:=by
  rcases ht.2 with h1|h1
  ·omega
  ·rcases ls k k2 with h4|h4
   ·have h5:B^k<=B^(k2-1):=lX Je (by omega);have h6:X/r<=X:=pN _ _;have:=h.tight.1;omega
   ·exact h4
 have uE:some g≠o.ownBlock:=fun e=>by have:=(hi.own.lt g e.symm).1;omega
 have hb:w2.heap[g]? =wr.heap[g]? :=by
  rw[hg.block g (by simp;omega) uE];exact Lib.alloc_old wr _ g J5
 refine⟨ht,?_,?_,?_,?_⟩
 ·rw[h.Ca,DB hr hx,<-hn,pJ];rfl
 ·obtain⟨cur,h1,h2,h3⟩:=hi.row.block hb;exact⟨cur,h1,by omega,fun j hj=>by rw[h3 j (by omega)];simp[cP]⟩
 ·have e:Lib.byteCells ((ds++ [n]).map Fc)=Lib.byteCells (ds.map Fc)++ [.int .u8 ((Fc n).toNat:Nat)]:=by simp[Lib.byteCells]
  rw[e,l6,List.length_singleton];exact qD
 ·exact(hi.Ac.alloc (by omega) _).grown hg (by simp;omega) (fun b hb=>by have:=(hi.own.lt b hb).1;omega)
theorem PD (X r p:Nat) (hr:2<=r) (rL:r<=36){n lp dq dr:Nat}(hn:n=X/B^(p+1) %r) (hl:lp=Az X p) (xf:dq=Az (X/r) p) (tP:dr=X/B^p %r) (w:World):
 Calls prog 136 #[.int .u32 n,.int .u32 lp,.int .u32 r] w fun e w'=>e= .returned (.tuple #[.int .u32 dq,.int .u32 dr])/\∃q,w'=w.drewN q:=by
 obtain⟨h1,h2⟩:=XT X r p (by omega);rw[<-hn,<-hl,<-xf]at h1;rw[<-hn,<-hl,<-tP]at h2;have h3:n<r:=by rw[hn];exact mw _ (by omega)
 have h4:lp<4294967296:=by rw[hl];exact Gh X p
 refine(jV n lp r w h3 h4 rL).mono fun e w' ⟨h5,h6⟩=>⟨?_,h6⟩;rw[h5,h1,h2]
theorem IQ.next {r X g:Nat} {W3:World} {k p n dq dr:Nat} {ds:List Nat} {o:Value} {wr:World}(h:IQ r X g W3 k ds o (p+1) n wr) (xf:dq=Az (X/r) p) (tP:dr=X/B^p %r) (q:Nat):
 IQ r X g W3 k ds o p dr ((wr.drewN q).setCell ⟨g,p,none⟩ (.int .u32 (dq:Nat))):=by
 have uE:o.ownBlock=none\/o.ownBlock≠some g:=by
  refine .inr fun e=> ?_;have:=(h.own.lt g e).1;omega
 refine⟨by have:=h.le;omega,tP,?_,?_,?_⟩
 ·refine(h.row.drewN q).set _ (by have:=h.le;omega) fun j hj=> ?_;unfold cP;by_cases e:j=p
  ·subst e;rw[lQ rfl,lL (by omega),xf]
  ·rw[lL e];by_cases e2:j<p
   ·rw[lQ e2,lQ (by omega)]
   ·rw[lL e2,lL (by omega)]
 ·exact World.ownsRow.kept (row:=some g) h.own ⟨rfl,rfl,rfl,by simp[World.setCell,World.drewN],fun b hb qP=>Below.heap_setCell _ _ _ _ (fun e=>qP (by rw[e]))⟩ uE
 ·exact(h.Ac.trans (⟨rfl,rfl,rfl,nR _,fun _ _=>rfl⟩:Below g wr (wr.drewN q))).setCell (p:=⟨g,p,none⟩) (nR _) _
theorem Bz {w:World} {b:Nat} {v:Value} {n:Nat} {xs:List Value}(h:w.ownsRow b 5 1 v n xs):∃a c,v= .slice a n c:=by
 rcases h.2 with⟨rfl,rfl⟩|⟨g,cap,cur,rfl,_⟩
 ·exact⟨_,_,rfl⟩
 ·exact⟨_,_,rfl⟩
theorem IB {r:Nat}(hr:2<=r):∀(n x:Nat),x<2^n->(FF r x).length<=n:=by
 intro n
 induction n with
 |zero=>intro x hx;have:x=0:=by simpa using hx
        subst this;simp[Dm]
 |succ n ih=>
  intro x hx;by_cases h:x=0
  ·subst h;simp[Dm]
  ·rw[DB hr h,nF];have h1:x/r<=x/2:=Nat.div_le_div_left hr (by omega);have h2:x/2<2^n:=by rw[l9]at hx;omega
   have:=ih (x/r) (by omega);omega
theorem TQ.lens {r x g:Nat} {W3:World} {X k:Nat} {ds:List Nat} {o:Value} {wr:World}(h:TQ r x g W3 X k ds o wr) (hr:2<=r) (hX:X≠0):ds.length<(FF r x).length:=by
 rw[h.Ca,l6,DB hr hX,nF];omega
theorem Bh.le {x y m k:Nat}(h:Bh y k) (hx:x<B^m) (hy:y<=x):k<=m:=by
 rcases h.2 with h1|h1
 ·omega
 ·rcases ls m k with h4|h4
  ·have h5:B^m<=B^(k-1):=lX Je (by omega);omega
  ·exact h4
theorem KG {w:World} {b:Nat} {oa:Option Addr} {oc:Nat} {ds:List Nat} {L:List UInt8}(h:w.ownsRow b 5 1 (.slice oa ds.length oc) ds.length (Lib.byteCells (ds.map Fc))) (hL:L=ds.map Fc) (hp:0<L.length):
 ∃g,oa=some ⟨g,0,none⟩/\b<=g/\CJ w g L.length 5 (fun j=> .int .u8 ((L.getD j 0).toNat:Nat)):=by
 have hl:L.length=ds.length:=by rw[hL,nN]
 rcases h.2 with⟨h1,h2⟩|⟨g,cap,cur,h1,h2,h3,h4,h5,h6,h7⟩
 ·omega
 ·simp only[mX]at h1;obtain⟨rfl,_,rfl⟩:=h1;refine⟨g,rfl,h2,cur,h3,by omega,fun j hj=> ?_⟩;have h8:cur.toList[j]? =(Lib.byteCells (ds.map Fc))[j]? :=by rw[<-h7,pF,lQ (by omega)]
  rw[<-mV,h8,<-hL];simp[Lib.byteCells,List.getD,lu hj]
def swp (L:List UInt8) (q j:Nat):Value:= .int .u8 (((if j<q\/L.length-1-j<q then L.getD (L.length-1-j) 0 else L.getD j 0).toNat:Nat):Int)
theorem aM (L:List UInt8) (q e j:Nat) (h:q+e+1=L.length) (xV:e<=q) (hj:j<L.length):swp L q j= .int .u8 ((L.getD (L.length-1-j) 0).toNat:Nat):=by
 unfold swp;by_cases h1:j<q\/L.length-1-j<q
 ·rw[lQ h1]
 ·rw[lL h1];have:L.length-1-j=j:=by omega
  rw[this]
theorem CJ.swap {w:World} {h q e:Nat} {L:List UInt8}(hr:CJ w h L.length 5 (swp L q)) (xV:q<e) (hn:q+e+1=L.length) (k:Nat):
 CJ (((w.drewN k).setCell ⟨h,q,none⟩ (swp L q e)).setCell ⟨h,e,none⟩ (swp L q q)) h L.length 5 (swp L (q+1)):=by
 refine((hr.drewN k).set (f':=fun j=>if j=q then swp L q e else swp L q j) _ (by omega) (fun j _=>rfl)).set _ (by omega) fun j hj=> ?_;by_cases h1:j=e
 ·subst h1;rw[lQ rfl];unfold swp;rw[lQ (by omega),lL (by omega)];have:L.length-1-j=q:=by omega
  rw[this]
 ·rw[lL h1];by_cases h2:j=q
  ·subst h2;show _=if j=j then swp L j e else swp L j j;rw[lQ rfl];unfold swp;rw[lQ (by omega),lL (by omega)];have:L.length-1-j=e:=by omega
   rw[this]
  ·show _=if j=q then swp L q e else swp L q j;rw[lL h2];unfold swp;by_cases h3:j<q\/L.length-1-j<q
   ·rw[lQ h3,lQ (by omega)]
   ·rw[lL h3,lL (by omega)]
theorem PU {w:World} {h q e:Nat} {L:List UInt8}(hr:CJ w h L.length 5 (swp L q)) (hn:q+e+1=L.length) (hle:e<=q) (cap:Nat):
 ∃t:ByteArray,t.data.toList=L.reverse/\(convert 143 9 (.slice (some ⟨h,0,none⟩) L.length cap)).run prog w= .ok (.string t) w:=by
 refine⟨⟨L.reverse.toArray⟩,rfl,?_⟩;have hc:∀i,i<L.length->w.cell? ⟨h,0+i,none⟩=some (.int .u8 ((L.reverse.map fun x=>(x.toNat:Int)).getD i 0)):=by
  intro i hi;rw[me,hr.cell hi,aM L q e i hn hle hi];have h1:L.length-1-i<L.length:=by omega
  rw[lZ,lZ,mj,List.getElem?_reverse hi,lu h1];rfl
 rw[run_convert_bytes_arg w 143 5 my nV h 0 L.length cap (L.reverse.map fun x=>(x.toNat:Int)) (by simp) hc 9 mS];congr 2;apply pH;apply po.1;rw[strOfNums_data,List.map_map];show _=L.reverse
 conv=>rhs;rw[<-List.map_id L.reverse]
 apply List.map_congr_left;intro x _;simp
theorem Ic (n:Nat) (h:n<36):((⟨#[48,49,50,51,52,53,54,55,56,57,97,98,99,100,101,102,103,104,105,106,107,108,109,110,111,112,113,114,115,116,117,118,119,120,121,122]⟩:ByteArray)[n]'h).toNat=(Fc n).toNat:=by
 have key:∀k:Fin 36,((⟨#[48,49,50,51,52,53,54,55,56,57,97,98,99,100,101,102,103,104,105,106,107,108,109,110,111,112,113,114,115,116,117,118,119,120,121,122]⟩:ByteArray)[k.val]'k.isLt).toNat=(Fc k.val).toNat:=by decide
 exact key ⟨n,h⟩
def VK (r x:Nat) (w:World) (e:Ending) (w':World):Prop:=∃t:ByteArray,e= .returned (.tuple #[.string t,.int .i64 0])/\t.data.toList=Ar r x/\Below w.heap.size w w'
theorem Tryz.text (v:Value) (x m r:Nat) (w:World) (hm:m<=70368744177664) (hr:2<=r) (rL:r<=36) (hv:Hid (CH w v x m)) (rH:Hid (∀m',Bh x m'->sz x m'<=4096)):
 Calls prog 113 #[.agg #[.bool false,v],.int .i64 r] w (VK r x w):=by
 obtain⟨a,c,rfl⟩:=hv.o.slice;have R1:decide ((r:Int)<2)=false:=Ej;have R2:decide ((36:Int)<r)=false:=Ej;obtain⟨i0,hi,qX,qg,qe⟩:=nw Nd;go_enter func113,ntmps113
 go_wp2_with fail
 generalize hW1:(w.alloc _).alloc _=W1;have C0:W1.cell? ⟨w.heap.size,0,none⟩=some (.bool false):=by subst hW1;go_simp
 have C1:W1.cell? ⟨w.heap.size,1,none⟩=some (.slice a m c):=by subst hW1;go_simp
 have C2:W1.cell? ⟨w.heap.size+1,0,none⟩=some (.bool false):=by subst hW1;go_simp
 have C3:W1.cell? ⟨w.heap.size+1,1,none⟩=some (.slice a m c):=by subst hW1;go_simp
 have bl:Below w.heap.size w W1:=by subst hW1;exact(Bzz _).alloc (by simp) _
 have sz1:W1.heap.size=w.heap.size+2:=by subst hW1;simp
 have sj:=Hi (hv.o.below bl);clear hW1
 go_wp2_with (go_at_call 133;(with_reducible refine(Tryz.long (w.heap.size+1) false (.slice a m c) x m _ hm sj C2 C3).mono ?_))
 rintro e W2 ⟨m1,sE,rfl,sY⟩;have hd:decide ((4096:Int)<(sz x m1:Nat))=false:=lO (by have:=rH.o m1 sE;omega);have sz2:w.heap.size+2<=W2.heap.size:=by have:=sY.size;omega
 have D0:W2.cell? ⟨w.heap.size,0,none⟩=some (.bool false):=(sY.cell (p:=⟨w.heap.size,0,none⟩) (by show w.heap.size<W1.heap.size;omega)).trans C0;have D1:W2.cell? ⟨w.heap.size,1,none⟩=some (.slice a m c):=(sY.cell (p:=⟨w.heap.size,1,none⟩) (by show w.heap.size<W1.heap.size;omega)).trans C1;have se:=Hi (sj.o.below sY);have uM:=Hi (bl.trans (sY.mono (by omega)));clear C0 C1 C2 C3 bl sY sj sz1;rw[hd];clear hd
 go_wp2_with (go_at_call 135;(with_reducible refine(Tryz.trim _ x m _ se.o).mono ?_))
 rintro e w' ⟨m2,we,rfl,rfl⟩;obtain rfl:m1=m2:=sE.inj we;have hle:m1<=m:=by
  rcases sE.2 with h|h
  ·omega
  ·rcases ls m m1 with h4|h4
   ·have h5:B^m<=B^(m1-1):=lX Je (by omega);have h6:x<B^m:=by
     rcases hv.o with⟨_,h7,_⟩|⟨_,_,_,_,_,_,h7⟩
     ·rw[h7];exact Bi m
     ·exact h7.1
    omega
   ·exact h4
 have AAF:m1<=129:=by
  have h1:=rH.o m1 sE;have h2:=MN x m1;omega
 have wT:Hid (CH W2 (.slice a m1 c) x m1):=Hi (se.o.cut hle sE.1);clear se
 go_wp2_with (go_at_call 134;(with_reducible refine(Tryz.own _ x m1 _ (by omega) wT).mono ?_))
 rintro e W3 ⟨rfl,uK,xN⟩;have zR:=Hi (uM.o.trans (xN.mono (by omega)));have sz3:W2.heap.size<W3.heap.size:=(lN.1 uK).1;have E0:W3.cell? ⟨w.heap.size,0,none⟩=some (.bool false):=(xN.cell (p:=⟨w.heap.size,0,none⟩) (by show w.heap.size<W2.heap.size;omega)).trans D0;have G3:=Hi uK;clear uK xN D0 D1 uM;by_cases h0:m1=0
 ·subst h0;have tE:x=0:=sE.Ao.1 rfl;go_wp2;go_ret2;subst tE;exact⟨⟨#[48]⟩,rfl,rfl,zR.o⟩
 ·have h0':((m1:Int)==0)=false:=by rw[nD];intro h;have:=eq_of_beq h;omega
  have HDL:Hid ((FF r x).length<=32000):=Hi (by
   have h1:x<2^(32*m1):=by
    have:=sE.1;rw[show B=2^32 from rfl,<-Nat.pow_mul]at this;exact this
   have:=IB hr (32*m1) x h1;omega)
  have tE:x≠0:=fun h=>h0 (sE.Ao.2 h);obtain⟨g,hg⟩:∃g,g=W2.heap.size:=⟨_,rfl⟩;rw[<-hg];have hgw:w.heap.size<g:=by omega
  have T0:TQ r x g W3 x m1 [] (.slice none 0 0) W3:=⟨sE,by simp,⟨_,by rw[hg];exact G3.o,by simp[Cs],fun j hj=>by simpa using Ds x m1 j hj⟩,mq _ _ _ _,Below.refl _ _⟩;clear hg;go_wp2
  go_loopw [6,7] (fun l out wr=>∃(X k:Nat) (ds:List Nat),l= .slice (some ⟨g,0,none⟩) k m1/\k<=m1/\TQ r x g W3 X k ds out wr) (fun _ out _=>match out with| .slice _ n _=>(FF r x).length-n|_=>0)
  case atStart=>exact⟨x,m1,[],rfl,nR _,T0⟩
  case round=>
   obtain⟨X,k,ds,rfl,hk,hq⟩:=hrel;obtain⟨oa,oc,ho⟩:=Bz hq.own;subst ho;cases k with
   |zero=>
    have E1:wr.cell? ⟨w.heap.size,0,none⟩=some (.bool false):=(hq.Ac.cell (p:=⟨w.heap.size,0,none⟩) hgw).trans E0;have hX:X=0:=hq.tight.Ao.1 rfl;subst hX;have vw:FF r x=ds:=by have:=hq.Ca;rwa [Dm,nj]at this
    obtain⟨L,hL⟩:∃L,L=ds.map Fc:=⟨_,rfl⟩;have wR:L.length=ds.length:=by rw[hL,nN]
    have qT:0<L.length:=by rw[wR,<-vw,DB hr tE,nF];omega
    have hL32:L.length<=32000:=by rw[wR,<-vw];exact HDL.o
    obtain⟨h,rfl,hgh,qK⟩:=KG hq.own hL qT;rw[<-wR];have NL:Hid (Ar r x=L.reverse):=Hi (by unfold Ar;rw[lL tE,vw,hL]);have ys:=Hi (zR.o.trans (hq.Ac.mono (by omega)));have R0:CJ wr h L.length 5 (swp L 0):=qK;obtain⟨n,hn⟩:∃n,L.length=n+1:=⟨L.length-1,by omega⟩;have yd:=Hi hn;clear vw hL wR qT hq qK T0 sE we h0 tE HDL hv rH G3;go_wp2;clear hn;obtain⟨wo,rfl⟩:∃wo:World,wo=wr:=⟨_,rfl⟩
    go_loopw [10,11] (fun i k wr=>∃q e:Nat,i= .int .i64 q/\k= .int .i64 e/\q+e+1=L.length/\CJ wr h L.length 5 (swp L q)/\Below g wo wr) (fun _ k _=>(intOf k).toNat)
    case atStart=>exact⟨0,n,rfl,rfl,by have:=yd.o;omega,R0,Below.refl _ _⟩
    case round=>
     obtain⟨q,e,rfl,rfl,xV,qK,qq⟩:=hrel;have hqi:(q:Int)<(L.length:Int):=by omega
     have hei:(e:Int)<(L.length:Int):=by omega
     have hLi:(L.length:Int)<=32000:=by omega
     by_cases qE:q<e
     ·obtain⟨e,rfl⟩:∃e',e=e'+1:=⟨e-1,by omega⟩;have uQ:=qK.cell (j:=q) (by omega);have uB:=qK.cell (j:=e+1) (by omega);have hf1:=qK.frozen q;have hf2:=qK.frozen (e+1);have qP:¬q=e+1:=by omega
      have hne2:¬e+1=q:=by omega
      obtain⟨va,hva⟩:∃va:Nat,swp L q q= .int .u8 va:=⟨_,rfl⟩;obtain⟨vb,hvb⟩:∃vb:Nat,swp L q (e+1)= .int .u8 vb:=⟨_,rfl⟩;have wX:=qK.swap qE xV 1;rw[hva]at uQ wX;rw[hvb]at uB wX;have HR:=Hi wX;have hei2:(e:Int)+1<(L.length:Int):=by omega
      have hei3:0<=(e:Int)+1:=by omega
      have HQ:=Hi xV;have hlti:(q:Int)<(e:Int)+1:=by omega
      clear qK xV wX hva hvb hei;go_wp2
      go_region
      go_wp2;go_roundw
      case rel=>exact⟨q+1,e,by go_num,rfl,by have:=HQ.o;omega,HR.o,((qq.setCell (p:=⟨h,q,none⟩) (by show g<=h;omega) _).setCell (p:=⟨h,e+1,none⟩) (by show g<=h;omega) _).drew⟩
      case measure=>simp[intOf]
     ·obtain⟨t,ht,AAI⟩:=PU qK xV (by omega) oc;go_wp2;go_ret2;exact⟨t,rfl,by rw[ht,NL.o],ys.o.trans (qq.mono (by omega))⟩
   |succ k=>
    obtain⟨wo,rfl⟩:∃wo:World,wo=wr:=⟨_,rfl⟩;have wK:k<=1000:=by omega
    have I0:=hq.start;have tE:X≠0:=fun h=>by have:=hq.tight.Ao.2 h;omega
    go_wp2
    go_loopw [8,9] (fun rm i wr=>∃(q n:Nat),rm= .int .u32 n/\((q=0/\i= .int .i64 (-1))\/∃p:Nat,q=p+1/\i= .int .i64 p)/\IQ r X g W3 (k+1) ds (.slice oa ds.length oc) q n wr) (fun _ i _=>match i with| .int _ z=>(z+1).toNat|_=>0)
    case atStart=>exact⟨k+1,0,rfl,.inr ⟨k,rfl,rfl⟩,I0⟩
    case round=>
     obtain⟨q,n,rfl,hi,uG⟩:=hrel;rcases hi with⟨rfl,rfl⟩|⟨p,rfl,rfl⟩
     ·have hxr:X/r<B^(k+1):=mG (pN _ _) hq.tight.1;have yt:Hid (CH wr (.slice (some ⟨g,0,none⟩) (k+1) m1) (X/r) (k+1)):=Hi (.inr ⟨g,0,m1,rfl,hk,by unfold maxLen;omega,hxr,fun j hj=>by rw[me];simpa[cP]using uG.row.cell hj⟩)
      go_wp2_with (go_at_call 135;(with_reducible refine(Tryz.trim _ (X/r) (k+1) _ yt.o).mono ?_))
      rintro e w' ⟨k2,ht,rfl,rfl⟩;have hn:n=X %r:=by rw[uG.rest];simp
      have vx:n<36:=by rw[hn];have:=mw X (show 0<r by omega);omega
      have HN:=Hi hn;clear hn hxr;have hal:=Ic n vx;have hdl:ds.length<=32000:=by have:=hq.lens hr tE;have:=HDL.o;omega
      have hln:=Hi (hq.lens hr tE);have sW:k2<=m1:=by have:=Bh.le ht hq.tight.1 (pN _ _);omega
      go_wp2_with (at_builtin;refine oA _ rfl _ _ 143 rfl (g+1) 5 i0 (.int .u8 0) 1 1 my hi qX qg qe rfl (by decide) _ _ _ rfl (uG.own.alloc _) ⟨wr.heap.size,0,none⟩ 1 1 [.int .u8 ((Fc n).toNat:Nat)] rfl rfl ?c1 ?c2 ?c3 ?c4 ?c5 ?_)
      case c1=>
       intro j u hj
       match j,hj with
       |0,hj=>simp at hj;subst hj;simp[Addr.add]
      case c2=>intro u hu;simp at hu;subst hu;rfl
      case c3=>unfold maxLen;omega
      case c4=>omega
      case c5=>have:=uG.row.lt;simp;omega
      intro v' w2 hown' qC _;obtain⟨va,vc,vg⟩:=Bz hown';subst vg;have qu:TQ r x g W3 (X/r) k2 (ds++ [n]) (.slice va (ds.length+1) vc) w2:=hq.next hr tE uG HN.o ht hown' qC;go_wp2;go_roundw
      case rel=>exact⟨X/r,k2,ds++ [n],rfl,sW,qu⟩
      case measure=>have:=hln.o;simp;omega
     ·have hpk:p<k+1:=by have:=uG.le;omega
      obtain⟨lp,vl⟩:∃lp,lp=Az X p:=⟨_,rfl⟩;obtain⟨dq,xf⟩:∃dq,dq=Az (X/r) p:=⟨_,rfl⟩;obtain⟨dr,tP⟩:∃dr,dr=X/B^p %r:=⟨_,rfl⟩;have qW:wr.cell? ⟨g,p,none⟩=some (.int .u32 (lp:Nat)):=by rw[uG.row.cell hpk,vl];simp[cP]
      have hfz:=uG.row.frozen p;have hpi:(p:Int)<(k:Int)+1:=by omega
      have HD:=Hi (PD X r p hr rL (n:=n) uG.rest vl xf tP);have HN:Hid (∀q,IQ r X g W3 (k+1) ds (.slice oa ds.length oc) p dr ((wr.drewN q).setCell ⟨g,p,none⟩ (.int .u32 (dq:Nat)))):=Hi fun q=>uG.next xf tP q;clear vl xf tP
      go_wp2_with (go_at_call 136;(with_reducible refine(HD.o _).mono ?_))
      rintro e w' ⟨rfl,q,rfl⟩;have AAC:(wr.drewN q).cell? ⟨g,p,none⟩=some (.int .u32 (lp:Nat)):=qW;have hfz2:(wr.drewN q).frozen? ⟨g,p,none⟩=false:=hfz;go_wp2;cases p with
      |zero=>
       go_roundw
       case rel=>exact⟨0,dr,rfl,.inl ⟨rfl,rfl⟩,HN.o q⟩
       case measure=>simp
      |succ p=>
       go_roundw
       case rel=>exact⟨p+1,dr,rfl,.inr ⟨p,rfl,by go_num⟩,HN.o q⟩
       case measure=>simp;omega
end Go.Proofs
end
section
namespace Go.Rb
def Bn (x j:Nat):Nat:=x/2^j %2
def T2 (x m:Nat):Prop:=x<2^m/\(m=0\/2^(m-1)<=x)
theorem GJ {x m j:Nat}(h:x<2^m) (hj:m<=j):Bn x j=0:=by
 unfold Bn;rw[nJ (lR h (lX (by decide) hj))]
theorem T2.inj {x m k:Nat}(h:T2 x m) (h':T2 x k):m=k:=by
 have key:∀{a b:Nat},T2 x a->T2 x b->a<=b:=by
  intro a b ha hb;rcases ha.2 with h0|h0
  ·omega
  ·rcases ls b a with qE|uj
   ·have:=lX (n:=2) (by decide) (show b<=a-1 by omega);have:=hb.1;omega
   ·exact uj
 exact Nat.le_antisymm (key h h') (key h' h)
theorem T2.Ao {x m:Nat}(h:T2 x m):m=0↔x=0:=by
 constructor
 ·intro e;subst e;have:=h.1;omega
 ·intro e;rcases h.2 with h0|h0
  ·exact h0
  ·have:=lj (m-1);omega
theorem T2.le {x y m k:Nat}(h:T2 y k) (hx:x<2^m) (hy:y<=x):k<=m:=by
 rcases h.2 with h1|h1
 ·omega
 ·rcases ls m k with h4|h4
  ·have h5:=lX (n:=2) (by decide) (show m<=k-1 by omega);omega
  ·exact h4
theorem OF {x k:Nat}(h:x<2^(k+1)) (h0:Bn x k=0):x<2^k:=by
 unfold Bn at h0;have h1:x/2^k<2:=by rw[mY (lj k),mR,<-l9];exact h
 have h2:x/2^k=0:=by generalize x/2^k=q at*;omega
 rcases ls x (2^k)with h3|h3
 ·exact h3
 ·have:=(nY (lj k)).2 (show 1*2^k<=x by omega);omega
theorem Mx {x k:Nat}(h0:Bn x k≠0):2^k<=x:=by
 rcases ls x (2^k)with h3|h3
 ·exact absurd (by unfold Bn;rw[nJ h3]) h0
 ·exact h3
end Go.Rb
namespace Go.Proofs
open Go.RowKit Go.Pf Go.Rb
def Bt (w:World) (b o x m:Nat):Prop:=x<2^m/\∀j,j<m->w.cell? ⟨b,o+j,none⟩=some (.int .i64 (Bn x j))
def Dr (w:World) (v:Value) (x m:Nat):Prop:=(v= .slice none 0 0/\x=0/\m=0)\/∃b o c,v= .slice (some ⟨b,o,none⟩) m c/\m<=c/\c<=9223372036854775807/\b<w.heap.size/\Bt w b o x m
theorem Dr.below {w w':World} {v:Value} {x m:Nat}(h:Dr w v x m) (hb:Below w.heap.size w w'):Dr w' v x m:=by
 rcases h with h|⟨b,o,c,h1,h2,h3,h4,h5,h6⟩
 ·exact .inl h
 ·exact .inr ⟨b,o,c,h1,h2,h3,lR h4 hb.size,h5,fun j hj=>(hb.cell (p:=⟨b,o+j,none⟩) h4).trans (h6 j hj)⟩
theorem Dr.slice {w:World} {v:Value} {x m:Nat}(h:Dr w v x m):∃a c,v= .slice a m c:=by
 rcases h with⟨rfl,_,rfl⟩|⟨b,o,c,rfl,_⟩
 ·exact⟨_,_,rfl⟩
 ·exact⟨_,_,rfl⟩
theorem Dr.lt {w:World} {v:Value} {x m:Nat}(h:Dr w v x m):x<2^m:=by
 rcases h with⟨_,h7,_⟩|⟨_,_,_,_,_,_,_,h7⟩
 ·rw[h7];exact lj m
 ·exact h7.1
theorem Dr.cut {w:World} {a:Option Addr} {c x m m1:Nat}(h:Dr w (.slice a m c) x m) (hle:m1<=m) (hx:x<2^m1):Dr w (.slice a m1 c) x m1:=by
 rcases h with⟨h1,h2,h3⟩|⟨b,o,c',h1,h2,h3,h4,h5⟩
 ·subst h2 h3;obtain rfl:m1=0:=by omega
  exact .inl ⟨h1,rfl,rfl⟩
 ·simp only[mX]at h1;obtain⟨rfl,_,rfl⟩:=h1;exact .inr ⟨b,o,c,rfl,by omega,h3,h4,hx,fun j hj=>h5.2 j (by omega)⟩
def Zp (neg:Bool) (x:Nat) (w:World) (e:Ending) (w':World):Prop:=∃(sl:Value) (m:Nat),e= .returned (.agg #[.bool (neg&&decide (0<x)),sl])/\T2 x m/\Dr w' sl x m/\Below w.heap.size w w'
end Go.Proofs
end
section
namespace Go.Proofs
open Go.RowKit Go.Bg
def Zb (x:Nat) (w:World) (e:Ending) (w':World):Prop:=∃(sl:Value) (m:Nat),e= .returned (.agg #[.bool false,sl])/\Bh x m/\CH w' sl x m/\Below w.heap.size w w'
theorem CH.setCell {w:World} {v:Value} {x m:Nat}(h:CH w v x m){a:Addr} {u0:Value}(h0:w.cell? a=some u0) (qP:∀k n,u0≠ .int k n) (u:Value):CH (w.setCell a u) v x m:=by
 rcases h with h|⟨b,o,c,rfl,h2,h3,h4⟩
 ·exact .inl h
 ·refine .inr ⟨b,o,c,rfl,h2,h3,h4.1,fun j hj=> ?_⟩;have h5:=h4.2 j hj;rw[oV,h5];rintro rfl;rw[h0]at h5;exact qP _ _ (Option.some.inj h5)
theorem CH.lt {w:World} {v:Value} {x m:Nat}(h:CH w v x m):x<B^m:=by
 rcases h with⟨_,h7,_⟩|⟨_,_,_,_,_,_,h7⟩
 ·rw[h7];exact Bi m
 ·exact h7.1
theorem Tryz.laid (v:Value) (x m:Nat) (w:World) (hv:Hid (CH w v x m)):Calls prog 132 #[.bool false,v] w (Zb x w):=by
 obtain⟨a,c,rfl⟩:=hv.o.slice;have hb:=(Below.refl w.heap.size w).alloc (nR _);have sj:Hid (∀o,CH (w.alloc o) (.slice a m c) x m):=Hi fun o=>hv.o.below (hb o);clear hb;go_enter func132,ntmps132
 go_wp2_with (go_at_call 135;(with_reducible refine(Tryz.trim (.slice a m c) x m _ (sj.o _)).mono ?_))
 rintro e w' ⟨m',ht,rfl,rfl⟩;have HL:=Hi (hv.o.cut (Bh.le ht hv.o.lt (nR _)) ht.1);go_wp2;refine lS (v:= .agg #[.bool false,.slice a m' c]) ?_ rfl ⟨_,m',rfl,ht,?_,?_⟩
 ·simp only[results,results132];go_simp
 ·exact HL.o.below (Bzz _)
 ·exact Bzz _
end Go.Proofs
end
section
namespace Go.Proofs
open Go.RowKit Go.Bg
theorem Tryz.lower (c:Nat) (h1:97<=c) (h2:c<=102) (w:World):Calls prog 149 #[.int .u8 c] w fun e w'=>e= .returned (.int .u8 c)/\w=w':=by
 have:c=97\/c=98\/c=99\/c=100\/c=101\/c=102:=by omega
 clear h1 h2;rcases this with rfl|rfl|rfl|rfl|rfl|rfl
 all_goals
  go_enter func149,ntmps149;go_wp2;go_ret;exact⟨rfl,rfl⟩
theorem DP (w:World) (s:ByteArray):Below w.heap.size w (Lib.bytesWorld w 5 s):=
 ⟨rfl,rfl,rfl,by rw[Lib.bytesWorld_size];omega,fun k hk=>Lib.bytesWorld_at_old w 5 s k hk⟩
end Go.Proofs
end
section
namespace Go.Proofs
open Go.RowKit Go.Bg Go.Hb
theorem a8 {c:Nat} {n:Nat}(h:c≠n):((c:Int)==(n:Int))=false:=by rw[nD];intro e;have:=eq_of_beq e;omega
theorem OU {v:Nat}(h:Ah v):Lib.validRune v=true:=by
 unfold Lib.validRune Ah at*;exact lU (by omega)
end Go.Proofs
end
section
namespace Go.Bg
open Go Go.Proofs
theorem JZ:∀(f x:Nat),x<2^f->x<2^Lib.bitLenAux f x/\(x≠0->1<=Lib.bitLenAux f x/\2^(Lib.bitLenAux f x-1)<=x)
 |0,x,h=>by
  have:x=0:=by simpa using h
  subst this;exact⟨by simp[Lib.bitLenAux],fun h=>absurd rfl h⟩
 |f+1,x,h=>by
  unfold Lib.bitLenAux;by_cases h0:x=0
  ·subst h0;exact⟨by simp,fun h=>absurd rfl h⟩
  ·rw[lL h0];have h1:x/2<2^f:=by rw[l9]at h;omega
   obtain⟨a,b⟩:=JZ f (x/2) h1;refine⟨?_,fun _=>⟨by omega,?_⟩⟩
   ·rw[pU,l9];omega
   ·rw[pU,nx];by_cases h2:x/2=0
    ·rw[h2];have e:Lib.bitLenAux f 0=0:=by cases f<;>simp[Lib.bitLenAux]
     rw[e];simp;omega
    ·obtain⟨c,d⟩:=b h2;obtain⟨k,hk⟩:∃k,Lib.bitLenAux f (x/2)=k+1:=⟨Lib.bitLenAux f (x/2)-1,by omega⟩;rw[hk]at d⊢;rw[nx]at d;rw[l9];omega
theorem bitLen_spec {x:Nat}(h:x<4294967296) (h0:x≠0):1<=Lib.bitLen x/\2^(Lib.bitLen x-1)<=x/\x<2^Lib.bitLen x:=by
 obtain⟨a,b⟩:=JZ 64 x (by omega);exact⟨(b h0).1,(b h0).2,a⟩
theorem S8 {x m:Nat}(h:Bh x m) (h0:x≠0):1<=sz x m/\2^(sz x m-1)<=x/\x<2^sz x m:=by
 have hm:m≠0:=fun e=>h0 (h.Ao.1 e);obtain⟨k,rfl⟩:∃k,m=k+1:=⟨m-1,by omega⟩;have ht:Az x k=x/B^k:=by
  unfold Az;refine mv (Nat.div_lt_of_lt_mul ?_);have:=h.1
  rwa [l9]at this
 have uj:B^k<=x:=by
  rcases h.2 with h1|h1
  ·omega
  ·simpa using h1
 have htn:Az x k≠0:=by
  rw[ht];have:=(nY (Bi k)).2 (by rw[nE];exact uj);omega
 obtain⟨b1,b2,b3⟩:=bitLen_spec (Gh x k) htn;have hB:B^k=2^(32*k):=by rw[show B=2^32 from rfl,<-Nat.pow_mul]
 unfold sz;rw[lL hm,nx];generalize hb:Lib.bitLen (Az x k)=b at*;rw[ht]at b2 b3;refine⟨by omega,?_,?_⟩
 ·rw[show 32*k+b-1=32*k+(b-1) by omega,lW,<-hB];exact lg (mU _ b2) (Nat.mul_div_le x (B^k))
 ·rw[lW,<-hB];have:=(mY (Bi k)).1 b3
  rwa [mR]at this
def carry (x r d k:Nat):Nat:=(x %B^k*r+d)/B^k
theorem carry_zero (x r d:Nat):carry x r d 0=d:=by unfold carry;simp[Nat.mod_one]
theorem H6 {x r d k:Nat}(hd:d<r):carry x r d k<r:=by
 unfold carry;refine Nat.div_lt_of_lt_mul ?_;have h1:x %B^k<B^k:=mw _ (Bi k);have h2:(x %B^k+1)*r<=B^k*r:=lV r h1;rw[mI,nE]at h2;omega
theorem Yl (x k:Nat):x %B^(k+1)=Az x k*B^k+x %B^k:=by
 unfold Az;rw[l9,Nat.mod_mul,mR (x/B^k %B)];omega
theorem Oc (x r d k:Nat):(x %B^(k+1)*r+d)/B^k=Az x k*r+carry x r d k:=by
 unfold carry;rw[Yl,mI,oX,oR,mR (Az x k*r),Nat.mul_add_div (Bi k)]
theorem Kx (x r d k:Nat):carry x r d (k+1)=(Az x k*r+carry x r d k)/B:=by
 rw[<-Oc];unfold carry;rw[l9,mf]
theorem MM (x r d k:Nat):Az (x*r+d) k=(Az x k*r+carry x r d k) %B:=by
 rw[<-Oc];unfold Az;have e:x*r+d=B^k*(x/B^(k+1)*r*B)+(x %B^(k+1)*r+d):=by
  have h:=oD x (B^(k+1))
  conv=>lhs;rw[<-h]
  rw[mI,oX,l9];congr 1;rw[l5 (B^k),l5 (B^k)];congr 1;rw[mR B,oR]
 rw[e,Nat.mul_add_div (Bi k),pU,Nat.add_mul_mod_self_right]
theorem Ma {x r d m:Nat}(h:x<B^m):carry x r d m=(x*r+d)/B^m:=by unfold carry;rw[mv h]
end Go.Bg
namespace Go.Proofs
open Go.RowKit Go.Bg
def Cq (x r d j m:Nat):List Value:=(List.range m).map fun i=>Value.int .u32 ((if i<j then Az (x*r+d) i else Az x i:Nat):Int)
theorem Gx (x r d m:Nat):Cq x r d 0 m=BF x m:=by simp[Cq,BF]
theorem Io (x r d m:Nat):Cq x r d m m=BF (x*r+d) m:=by
 unfold Cq BF;apply List.map_congr_left;intro i hi;rw[lQ (pX.1 hi)]
theorem Im (x r d j m:Nat) (h:j<m):(Cq x r d j m)[j]? =some (.int .u32 (Az x j:Nat)):=by simp[Cq,h]
theorem M4 (x r d j m:Nat) (_h:j<m):(Cq x r d j m).set j (.int .u32 (Az (x*r+d) j:Nat))=Cq x r d (j+1) m:=by
 apply List.ext_getElem?;intro i;rw[List.getElem?_set];by_cases e:j=i
 ·subst e;rw[lQ rfl];simp[Cq,_h]
 ·rw[lL e];unfold Cq;by_cases hi:i<m
  ·simp only[mj,List.getElem?_range hi,Option.map_some];by_cases h1:i<j
   ·rw[lQ h1,lQ (by omega)]
   ·rw[lL h1,lL (by omega)]
  ·rw[mr (by simpa using hi),mr (by simpa using hi)]
theorem Ga (x m:Nat) (c:Nat) (h:Az x m=c):BF x (m+1)=BF x m++ [.int .u32 (c:Nat)]:=by
 unfold BF;rw[List.range_succ,oC,<-h];rfl
theorem CH.EW {w:World} {b:Nat} {v:Value} {x m:Nat}(h:w.ownsRow b 133 1 v m (BF x m)) (hx:x<B^m):CH w v x m:=by
 rcases h.2 with⟨rfl,rfl⟩|⟨g,cap,cur,rfl,_,hg,hnc,hcm,qy,htake⟩
 ·refine .inl ⟨rfl,by simpa using hx,rfl⟩
 ·refine .inr ⟨g,0,cap,rfl,hnc,hcm,hx,fun j hj=> ?_⟩;have h1:=World.ownsRow.cellAt h j (by omega);rw[me,h1,Ds x m j hj]
theorem Eu {w:World} {b:Nat} {v:Value} {n:Nat} {xs:List Value}(h:w.ownsRow b 133 1 v n xs):∃a c,v= .slice a n c:=by
 rcases h.2 with⟨rfl,rfl⟩|⟨g,cap,cur,rfl,_⟩
 ·exact⟨_,_,rfl⟩
 ·exact⟨_,_,rfl⟩
def Gk (X:Nat) (w:World) (e:Ending) (w':World):Prop:=∃(sl:Value) (m:Nat),e= .returned (.tuple #[.agg #[.bool false,sl],.int .i64 0])/\Bh X m/\CH w' sl X m/\Below w.heap.size w w'
structure PQ (r:Nat) (B1:Nat) (W1:World) (X m:Nat) (l:Value) (wr:World):Prop where
 tight:Bh X m
 own:wr.ownsRow B1 133 1 l m (BF X m)
 Ac:Below B1 W1 wr
structure PI (r d:Nat) (B1:Nat) (W1:World) (X m:Nat) (l:Value) (j c:Nat) (wr:World):Prop where
 le:j<=m
 Pw:c=carry X r d j
 own:wr.ownsRow B1 133 1 l m (Cq X r d j m)
 Ac:Below B1 W1 wr
theorem PI.next {r d B1:Nat} {W1:World} {x m g lc j q lq cq:Nat} {wr:World}(h:PI r d B1 W1 x m (.slice (some ⟨g,0,none⟩) m lc) j q wr) (yR:lq=Az (x*r+d) j) (zl:cq=carry x r d (j+1)) (hj:j<m):
 PI r d B1 W1 x m (.slice (some ⟨g,0,none⟩) m lc) (j+1) cq (wr.setCell ⟨g,j,none⟩ (.int .u32 (lq:Nat))):=by
 obtain⟨h1,h2⟩:=World.ownsRow.stored h.own j (.int .u32 (lq:Nat));have hb:=(h.own.lt g rfl).1;refine⟨by omega,zl,?_,h.Ac.setCell (p:=⟨g,j,none⟩) hb _⟩;rw[<-M4 x r d j m hj,<-yR];exact h1
end Go.Proofs
end
section
namespace Go.Proofs
open Go.RowKit Go.Pf Go.Rb
def Cp (x m:Nat):List Value:=(List.range m).map fun j=>Value.int .i64 (Bn x j:Nat)
theorem Js (x m:Nat):(Cp x m).length=m:=by simp[Cp]
theorem IV (x m j:Nat) (h:j<m):(Cp x m)[j]? =some (.int .i64 (Bn x j:Nat)):=by simp[Cp,h]
theorem Lr (x m c:Nat) (h:Bn x m=c):Cp x (m+1)=Cp x m++ [.int .i64 (c:Nat)]:=by
 unfold Cp;rw[List.range_succ,oC,<-h];rfl
structure OB (B1:Nat) (W1:World) (x k:Nat) (v:Value) (wr:World):Prop where
 own:wr.ownsRow B1 3 1 v k (Cp x k)
 Ac:Below B1 W1 wr
 le:B1<=wr.heap.size
theorem OB.next {B1:Nat} {W1:World} {x k c:Nat} {v v':Value} {wr w2:World} {ob:Obj}(h:OB B1 W1 x k v wr) (hc:Bn x k=c) (qD:w2.ownsRow B1 3 1 v' (k+1) (Cp x k++ [.int .i64 (c:Nat)])) (hg:(wr.alloc ob).grownBy w2 v.ownBlock):OB B1 W1 x (k+1) v' w2:=by
 have hb:=(h.Ac.alloc h.le ob).grown hg (by have:=h.le;simp;omega) (fun b hb=>by have:=(h.own.lt b hb).1;omega);refine⟨by rw[Lr x k c hc];exact qD,hb,?_⟩;have:=hg.size;have:=h.le;simp at*;omega
end Go.Proofs
end
section
namespace Go.Proofs
open Go.RowKit Go.Pf Go.Rb
theorem OB.drewN {B1:Nat} {W1:World} {x k:Nat} {v:Value} {wr:World}(h:OB B1 W1 x k v wr) (n:Nat):OB B1 W1 x k v (wr.drewN n):=⟨h.own,h.Ac.trans ⟨rfl,rfl,rfl,nR _,fun _ _=>rfl⟩,h.le⟩
theorem Dr.cellAt {w:World} {a:Option Addr} {c x m:Nat}(h:Dr w (.slice a m c) x m){j:Nat}(hj:j<m):∃b o,a=some ⟨b,o,none⟩/\w.cell? ⟨b,o+j,none⟩=some (.int .i64 (Bn x j)):=by
 rcases h with⟨_,_,h3⟩|⟨b,o,c',h1,h2,h3,h4,h5⟩
 ·omega
 ·simp only[mX]at h1;exact⟨b,o,h1.1,h5.2 j hj⟩
end Go.Proofs
end
section
namespace Go.Proofs
open Go.RowKit Go.Pf Go.Rb
theorem Dr.setCell {w:World} {v:Value} {x m:Nat}(h:Dr w v x m){a:Addr} {u0:Value}(h0:w.cell? a=some u0) (qP:∀k n,u0≠ .int k n) (u:Value):Dr (w.setCell a u) v x m:=by
 rcases h with h|⟨b,o,c,rfl,h2,h3,h4,h5,h6⟩
 ·exact .inl h
 ·refine .inr ⟨b,o,c,rfl,h2,h3,by simpa[World.setCell]using h4,h5,fun j hj=> ?_⟩;have h7:=h6 j hj;rw[oV,h7];rintro rfl;rw[h0]at h7;exact qP _ _ (Option.some.inj h7)
structure Tok (w:World) (b:Nat):Prop where
 h:w.heap[b]? =some (.cells #[.bool false,.slice none 0 0] 160 (0,0))
theorem Tok.below {w w':World} {b:Nat}(h:Tok w b) (hb:Below w.heap.size w w'):Tok w' b:=⟨(hb.block b (lN.1 h.h).1).trans h.h⟩
theorem Tok.c0 {w:World} {b:Nat}(h:Tok w b):w.cell? ⟨b,0,none⟩=some (.bool false):=by rw[Lib.cell_of_heap h.h];rfl
theorem Tok.c1 {w:World} {b:Nat}(h:Tok w b):w.cell? ⟨b,1,none⟩=some (.slice none 0 0):=by rw[Lib.cell_of_heap h.h];rfl
theorem Tok.f {w:World} {b:Nat}(h:Tok w b) (i:Nat):w.frozen? ⟨b,i,none⟩=false:=Lib.frozen_of_heap h.h i
end Go.Proofs
end
section
namespace Go.Proofs
open Go.RowKit Go.Pf Go.Rb
structure Hp (w w':World):Prop where
 heap:w'.heap=w.heap
 os:w'.os=w.os
 tape:w'.tape=w.tape
 output:w'.output=w.output
theorem Dr.heap {w w':World} {v:Value} {x m:Nat}(h:Dr w v x m) (e:w'.heap=w.heap):Dr w' v x m:=by
 rcases h with h|⟨b,o,c,rfl,h2,h3,h4,h5,h6⟩
 ·exact .inl h
 ·exact .inr ⟨b,o,c,rfl,h2,h3,by rw[e];exact h4,h5,fun j hj=>(oQ (by rw[e])).trans (h6 j hj)⟩
theorem Tok.heap {w w':World} {b:Nat}(h:Tok w b) (e:w'.heap=w.heap):Tok w' b:=⟨by rw[e];exact h.h⟩
end Go.Proofs
end
section
namespace Go.Proofs
open Go.RowKit Go.Pf Go.Rb
theorem Below.hp {B:Nat} {w W W':World}(h:Below B w W) (p:Hp W W'):Below B w W':=⟨p.os.trans h.os,p.tape.trans h.tape,p.output.trans h.output,by rw[p.heap];exact h.size,fun b hb=>by rw[p.heap];exact h.block b hb⟩
end Go.Proofs
end
section
namespace Go.Proofs
open Go.RowKit Go.Pf Go.Rb
end Go.Proofs
end
section
namespace Go.Proofs
open Go.RowKit Go.Pf Go.Rb
def Hk (S:List Nat):List Value:=S.map fun n=>Value.int .i64 (n:Nat)
theorem Kt (S:List Nat) (j:Nat) (h:j<S.length):(Hk S)[j]? =some (.int .i64 (S.getD j 0:Nat)):=by simp[Hk,h]
structure TS (W1:World) (b L:Nat) (S:List Nat) (wr:World):Prop where
 own:wr.ownsRow b 3 1 (.slice (some ⟨b,0,none⟩) L L) L (Hk S)
 Ac:Below b W1 wr
 len:S.length=L
theorem TS.cell {W1:World} {b L:Nat} {S:List Nat} {wr:World}(h:TS W1 b L S wr) (j:Nat) (hj:j<L):wr.cell? ⟨b,j,none⟩=some (.int .i64 (S.getD j 0:Nat)):=by
 rw[World.ownsRow.cellAt h.own j (by omega),Kt S j (by rw[h.len];exact hj)]
theorem TS.frozen {W1:World} {b L:Nat} {S:List Nat} {wr:World}(h:TS W1 b L S wr) (j:Nat):wr.frozen? ⟨b,j,none⟩=false:=World.ownsRow.frozenAt h.own j
theorem TS.heap {W1:World} {b L:Nat} {S:List Nat} {wr w':World}(h:TS W1 b L S wr) (p:Hp wr w'):TS W1 b L S w':=by
 refine⟨⟨h.own.1,?_⟩,Below.hp h.Ac p,h.len⟩;rw[p.heap];exact h.own.2
def cR (S:List Nat) (N:Nat):Prop:=∀j,S.getD j 0<=N
theorem cR.zero (n:Nat):cR (List.replicate n 0) 0:=by
 intro j;rw[lZ,List.getElem?_replicate];split<;>simp
end Go.Proofs
end
section
namespace Go.Proofs
open Go.RowKit Go.Pf Go.Rb
end Go.Proofs
end
