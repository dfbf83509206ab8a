import Derived.Test.YtnipmfaikiaipaaGreatDoorTar
set_option maxRecDepth 1000000
set_option maxHeartbeats 40000000
section
namespace Go.Hb
def cont (b:Int):Prop:=128<=b/\b<192
def B8 (s:ByteArray) (p:Nat) (v:Int) (n:Int):Prop:=
 (n=1/\p<s.size/\AE s p<128/\v=AE s p)\/
 (n=2/\(192<=AE s p/\AE s p<224)/\cont (AE s (p+1))/\v=(AE s p-192)*64+AE s (p+1)-128/\128<=v/\AR v)\/
 (n=3/\(224<=AE s p/\AE s p<240)/\cont (AE s (p+1))/\cont (AE s (p+2))/\v=((AE s p-224)*64+AE s (p+1)-128)*64+AE s (p+2)-128/\2048<=v/\AR v)\/
 (n=4/\(240<=AE s p/\AE s p<248)/\cont (AE s (p+1))/\cont (AE s (p+2))/\cont (AE s (p+3))/\v=(((AE s p-240)*64+AE s (p+1)-128)*64+AE s (p+2)-128)*64+AE s (p+3)-128/\65536<=v/\AR v)
def EG (s:ByteArray) (p:Nat):Prop:=∀v n,¬B8 s p v n
def eV (s:ByteArray) (p:Nat) (v n:Int):Prop:=B8 s p v n\/(n=0/\v=0/\EG s p)
theorem WC {s:ByteArray} {p:Nat}(h:s.size<=p):EG s p:=by
 intro v n hc;have:=Am s p h;unfold B8 at hc;omega
theorem Vw {s:ByteArray} {p:Nat}(h:(128<=AE s p/\AE s p<192)\/248<=AE s p):EG s p:=by
 intro v n hc;unfold B8 at hc;omega
theorem FV {s:ByteArray} {p:Nat}(h:p<s.size) (h1:AE s p<128):B8 s p (AE s p) 1:= .inl ⟨rfl,h,h1,rfl⟩
theorem Um {s:ByteArray} {p k:Nat} {v:Int}(h0:192<=AE s p/\AE s p<224) (h:Acc (AE s (p+1)) (AE s (p+2)) (AE s (p+3)) (AE s p-192) k v) (hk:k<2) (hb:AE s (p+k)<128\/192<=AE s (p+k)):EG s p:=by
 intro u m hc;unfold B8 cont at hc;rcases h with⟨rfl,h⟩|⟨rfl,h⟩|⟨rfl,h⟩|⟨rfl,h⟩<;>omega
theorem Io {s:ByteArray} {p k:Nat} {v:Int}(h0:192<=AE s p/\AE s p<224) (h:Acc (AE s (p+1)) (AE s (p+2)) (AE s (p+3)) (AE s p-192) k v) (hk:k=2) (hb:v<128\/Ff v=false):EG s p:=by
 have hb2:v<128\/¬AR v:=by
  rcases hb with h|h
  ·exact .inl h
  ·exact .inr (of_decide_eq_false h)
 intro u m hc;unfold B8 cont at hc;have e:u=v:=by unfold Acc at h;omega
 subst e;rcases hb2 with h1|h1
 ·omega
 ·rcases hc with hc|hc|hc|hc
  ·omega
  ·exact h1 hc.2.2.2.2.2
  ·exact h1 hc.2.2.2.2.2.2
  ·exact h1 hc.2.2.2.2.2.2.2
theorem YI {s:ByteArray} {p k:Nat} {v:Int}(h0:192<=AE s p/\AE s p<224) (h:Acc (AE s (p+1)) (AE s (p+2)) (AE s (p+3)) (AE s p-192) k v) (hk:k=2) (hl:¬v<128) (hm:Ff v=true):B8 s p v 2:=by
 have hm:=of_decide_eq_true hm;subst hk;unfold Acc at h;unfold B8 cont;exact .inr (.inl ⟨rfl,h0,by omega,by omega,by omega,hm⟩)
theorem QP {s:ByteArray} {p k:Nat} {v:Int}(h0:224<=AE s p/\AE s p<240) (h:Acc (AE s (p+1)) (AE s (p+2)) (AE s (p+3)) (AE s p-224) k v) (hk:k<3) (hb:AE s (p+k)<128\/192<=AE s (p+k)):EG s p:=by
 intro u m hc;unfold B8 cont at hc;rcases h with⟨rfl,h⟩|⟨rfl,h⟩|⟨rfl,h⟩|⟨rfl,h⟩<;>omega
theorem GQ {s:ByteArray} {p k:Nat} {v:Int}(h0:224<=AE s p/\AE s p<240) (h:Acc (AE s (p+1)) (AE s (p+2)) (AE s (p+3)) (AE s p-224) k v) (hk:k=3) (hb:v<2048\/Ff v=false):EG s p:=by
 have hb2:v<2048\/¬AR v:=by
  rcases hb with h|h
  ·exact .inl h
  ·exact .inr (of_decide_eq_false h)
 intro u m hc;unfold B8 cont at hc;have e:u=v:=by unfold Acc at h;omega
 subst e;rcases hb2 with h1|h1
 ·omega
 ·rcases hc with hc|hc|hc|hc
  ·omega
  ·exact h1 hc.2.2.2.2.2
  ·exact h1 hc.2.2.2.2.2.2
  ·exact h1 hc.2.2.2.2.2.2.2
theorem TJ {s:ByteArray} {p k:Nat} {v:Int}(h0:224<=AE s p/\AE s p<240) (h:Acc (AE s (p+1)) (AE s (p+2)) (AE s (p+3)) (AE s p-224) k v) (hk:k=3) (hl:¬v<2048) (hm:Ff v=true):B8 s p v 3:=by
 have hm:=of_decide_eq_true hm;subst hk;unfold Acc at h;unfold B8 cont;exact .inr (.inr (.inl ⟨rfl,h0,by omega,by omega,by omega,by omega,hm⟩))
theorem Tt {s:ByteArray} {p k:Nat} {v:Int}(h0:240<=AE s p/\AE s p<248) (h:Acc (AE s (p+1)) (AE s (p+2)) (AE s (p+3)) (AE s p-240) k v) (hk:k<4) (hb:AE s (p+k)<128\/192<=AE s (p+k)):EG s p:=by
 intro u m hc;unfold B8 cont at hc;rcases h with⟨rfl,h⟩|⟨rfl,h⟩|⟨rfl,h⟩|⟨rfl,h⟩<;>omega
theorem G5 {s:ByteArray} {p k:Nat} {v:Int}(h0:240<=AE s p/\AE s p<248) (h:Acc (AE s (p+1)) (AE s (p+2)) (AE s (p+3)) (AE s p-240) k v) (hk:k=4) (hb:v<65536\/Ff v=false):EG s p:=by
 have hb2:v<65536\/¬AR v:=by
  rcases hb with h|h
  ·exact .inl h
  ·exact .inr (of_decide_eq_false h)
 intro u m hc;unfold B8 cont at hc;have e:u=v:=by unfold Acc at h;omega
 subst e;rcases hb2 with h1|h1
 ·omega
 ·rcases hc with hc|hc|hc|hc
  ·omega
  ·exact h1 hc.2.2.2.2.2
  ·exact h1 hc.2.2.2.2.2.2
  ·exact h1 hc.2.2.2.2.2.2.2
theorem VO {s:ByteArray} {p k:Nat} {v:Int}(h0:240<=AE s p/\AE s p<248) (h:Acc (AE s (p+1)) (AE s (p+2)) (AE s (p+3)) (AE s p-240) k v) (hk:k=4) (hl:¬v<65536) (hm:Ff v=true):B8 s p v 4:=by
 have hm:=of_decide_eq_true hm;subst hk;unfold Acc at h;unfold B8 cont;exact .inr (.inr (.inr ⟨rfl,h0,by omega,by omega,by omega,by omega,by omega,hm⟩))
end Go.Hb
namespace Go.Proofs
open Go.RowKit Go.Hb
def Bf (s:ByteArray) (p:Nat) (w:World) (e:Ending) (w':World):Prop:=∃v n:Int,e= .returned (.tuple #[.int .i64 v,.int .i64 n])/\eV s p v n/\w'=w
theorem Bf.none {s:ByteArray} {p:Nat} {w:World}(h:EG s p):Bf s p w (.returned (.tuple #[.int .i64 0,.int .i64 0])) w:=⟨0,0,rfl,.inr ⟨rfl,rfl,h⟩,rfl⟩
theorem UB (s:ByteArray) (p:Nat) (w:World) (h:s.size<=p):
 Calls Tryz.prog 29 #[.string s,.int .i64 p] w (Bf s p w):=by
 have h':¬p<s.size:=by omega
 have h0:=DF s p;have h1:=C6 s p;go_enter Tryz.func29,Tryz.ntmps29
 go_wp2_with (go_at_call 64;refine(Tryz.DH s p _).mono ?_;rintro e w' ⟨rfl,rfl⟩)
 go_ret2;exact Bf.none (WC h)
theorem TZ (s:ByteArray) (p:Nat) (w:World) (h:p<s.size) (hb:AE s p<128):
 Calls Tryz.prog 29 #[.string s,.int .i64 p] w (Bf s p w):=by
 have h0:=DF s p;go_enter Tryz.func29,Tryz.ntmps29
 go_wp2_with (go_at_call 64;refine(Tryz.DH s p _).mono ?_;rintro e w' ⟨rfl,rfl⟩)
 go_ret2;exact⟨_,_,rfl,.inl (FV h hb),rfl⟩
theorem MT (s:ByteArray) (p:Nat) (w:World) (h:p<s.size) (hb:(128<=AE s p/\AE s p<192)\/248<=AE s p):
 Calls Tryz.prog 29 #[.string s,.int .i64 p] w (Bf s p w):=by
 have h0:=C6 s p;have hn:=Vw hb;have HN:=Hi hn;clear hn;rcases hb with⟨h1,h2⟩|h1
 all_goals
  go_enter Tryz.func29,Tryz.ntmps29
  go_wp2_with (go_at_call 64;refine(Tryz.DH s p _).mono ?_;rintro e w' ⟨rfl,rfl⟩)
  go_ret2;exact Bf.none HN.out
theorem UN (s:ByteArray) (p:Nat) (w:World) (h:p<s.size) (hs:s.size<=4611686018427387904) (h1:192<=AE s p) (h2:AE s p<224):
 Calls Tryz.prog 29 #[.string s,.int .i64 p] w (Bf s p w):=by
 have d1:decide (s.size<=p)=false:=BC;have d2:decide (AE s p<128)=false:=BC;go_enter Tryz.func29,Tryz.ntmps29
 go_wp2_with (go_at_call 64;refine(Tryz.DH s p _).mono ?_;rintro e w' ⟨rfl,rfl⟩)
 go_loop [8,10] (fun v i=>∃(k:Nat) (x:Int),k<=2/\i= .int .i64 k/\v= .int .i64 x/\Acc (AE s (p+1)) (AE s (p+2)) (AE s (p+3)) (AE s p-192) k x) (fun _ i=>2-(intOf i).toNat)
 case atStart=>exact⟨1,_,by omega,rfl,rfl,.inl ⟨rfl,rfl⟩⟩
 case round=>
  obtain⟨k,x,hk,rfl,rfl,ha⟩:=hrel;obtain⟨b1,b2,b3,b4⟩:=ha.bound ⟨by omega,by omega⟩;have y1:=DF s (p+k);have y2:=C6 s (p+k);by_cases hlt:k<2
  ·go_wp2_with (go_at_call 64;refine(D5 s p k _).mono ?_;rintro e w' ⟨rfl,rfl⟩)
   all_goals first
    | (go_ret2;exact Bf.none (Um ⟨h1,h2⟩ ha hlt (by omega)))
    | (go_round
       case rel=>exact⟨k+1,_,by omega,by go_num,rfl,ha.step (by omega) ⟨by omega,by omega⟩ ⟨by rintro rfl;rfl,by rintro rfl;rfl,by rintro rfl;rfl⟩⟩
       case measure=>simp[intOf];omega)
  ·have hk2:k=2:=by omega
   go_wp2_with (go_at_call 65;refine(Tryz.may x _).mono ?_;rintro e w' ⟨rfl,rfl⟩)
   all_goals first
    | (go_ret2;exact Bf.none (Io ⟨h1,h2⟩ ha hk2 (by simp_all)))
    | (go_ret2;exact Bf.none (Io ⟨h1,h2⟩ ha hk2 (.inl (by omega))))
    | (go_ret2;exact⟨_,_,rfl,.inl (YI ⟨h1,h2⟩ ha hk2 (by omega) (by simp_all)),rfl⟩)
theorem Pa (s:ByteArray) (p:Nat) (w:World) (h:p<s.size) (hs:s.size<=4611686018427387904) (h1:224<=AE s p) (h2:AE s p<240):
 Calls Tryz.prog 29 #[.string s,.int .i64 p] w (Bf s p w):=by
 have d1:decide (s.size<=p)=false:=BC;have d2:decide (AE s p<128)=false:=BC;go_enter Tryz.func29,Tryz.ntmps29
 go_wp2_with (go_at_call 64;refine(Tryz.DH s p _).mono ?_;rintro e w' ⟨rfl,rfl⟩)
 go_loop [8,10] (fun v i=>∃(k:Nat) (x:Int),k<=3/\i= .int .i64 k/\v= .int .i64 x/\Acc (AE s (p+1)) (AE s (p+2)) (AE s (p+3)) (AE s p-224) k x) (fun _ i=>3-(intOf i).toNat)
 case atStart=>exact⟨1,_,by omega,rfl,rfl,.inl ⟨rfl,rfl⟩⟩
 case round=>
  obtain⟨k,x,hk,rfl,rfl,ha⟩:=hrel;obtain⟨b1,b2,b3,b4⟩:=ha.bound ⟨by omega,by omega⟩;have y1:=DF s (p+k);have y2:=C6 s (p+k);by_cases hlt:k<3
  ·go_wp2_with (go_at_call 64;refine(D5 s p k _).mono ?_;rintro e w' ⟨rfl,rfl⟩)
   all_goals first
    | (go_ret2;exact Bf.none (QP ⟨h1,h2⟩ ha hlt (by omega)))
    | (go_round
       case rel=>exact⟨k+1,_,by omega,by go_num,rfl,ha.step (by omega) ⟨by omega,by omega⟩ ⟨by rintro rfl;rfl,by rintro rfl;rfl,by rintro rfl;rfl⟩⟩
       case measure=>simp[intOf];omega)
  ·have hk2:k=3:=by omega
   go_wp2_with (go_at_call 65;refine(Tryz.may x _).mono ?_;rintro e w' ⟨rfl,rfl⟩)
   all_goals first
    | (go_ret2;exact Bf.none (GQ ⟨h1,h2⟩ ha hk2 (by simp_all)))
    | (go_ret2;exact Bf.none (GQ ⟨h1,h2⟩ ha hk2 (.inl (by omega))))
    | (go_ret2;exact⟨_,_,rfl,.inl (TJ ⟨h1,h2⟩ ha hk2 (by omega) (by simp_all)),rfl⟩)
theorem Qs (s:ByteArray) (p:Nat) (w:World) (h:p<s.size) (hs:s.size<=4611686018427387904) (h1:240<=AE s p) (h2:AE s p<248):
 Calls Tryz.prog 29 #[.string s,.int .i64 p] w (Bf s p w):=by
 have d1:decide (s.size<=p)=false:=BC;have d2:decide (AE s p<128)=false:=BC;go_enter Tryz.func29,Tryz.ntmps29
 go_wp2_with (go_at_call 64;refine(Tryz.DH s p _).mono ?_;rintro e w' ⟨rfl,rfl⟩)
 go_loop [8,10] (fun v i=>∃(k:Nat) (x:Int),k<=4/\i= .int .i64 k/\v= .int .i64 x/\Acc (AE s (p+1)) (AE s (p+2)) (AE s (p+3)) (AE s p-240) k x) (fun _ i=>4-(intOf i).toNat)
 case atStart=>exact⟨1,_,by omega,rfl,rfl,.inl ⟨rfl,rfl⟩⟩
 case round=>
  obtain⟨k,x,hk,rfl,rfl,ha⟩:=hrel;obtain⟨b1,b2,b3,b4⟩:=ha.bound ⟨by omega,by omega⟩;have y1:=DF s (p+k);have y2:=C6 s (p+k);by_cases hlt:k<4
  ·go_wp2_with (go_at_call 64;refine(D5 s p k _).mono ?_;rintro e w' ⟨rfl,rfl⟩)
   all_goals first
    | (go_ret2;exact Bf.none (Tt ⟨h1,h2⟩ ha hlt (by omega)))
    | (go_round
       case rel=>exact⟨k+1,_,by omega,by go_num,rfl,ha.step (by omega) ⟨by omega,by omega⟩ ⟨by rintro rfl;rfl,by rintro rfl;rfl,by rintro rfl;rfl⟩⟩
       case measure=>simp[intOf];omega)
  ·have hk2:k=4:=by omega
   go_wp2_with (go_at_call 65;refine(Tryz.may x _).mono ?_;rintro e w' ⟨rfl,rfl⟩)
   all_goals first
    | (go_ret2;exact Bf.none (G5 ⟨h1,h2⟩ ha hk2 (by simp_all)))
    | (go_ret2;exact Bf.none (G5 ⟨h1,h2⟩ ha hk2 (.inl (by omega))))
    | (go_ret2;exact⟨_,_,rfl,.inl (VO ⟨h1,h2⟩ ha hk2 (by omega) (by simp_all)),rfl⟩)
theorem Zj (s:ByteArray) (p:Nat) (w:World) (hs:s.size<=4611686018427387904):Calls Tryz.prog 29 #[.string s,.int .i64 p] w (Bf s p w):=by
 rcases BY p s.size with h|h
 ·by_cases h1:AE s p<128
  ·exact TZ s p w h h1
  by_cases h2:AE s p<192
  ·exact MT s p w h (.inl ⟨by omega,h2⟩)
  by_cases h3:AE s p<224
  ·exact UN s p w h hs (by omega) h3
  by_cases h4:AE s p<240
  ·exact Pa s p w h hs (by omega) h4
  by_cases h5:AE s p<248
  ·exact Qs s p w h hs (by omega) h5
  ·exact MT s p w h (.inr (by omega))
 ·exact UB s p w h
end Go.Proofs
end
section
namespace Go.Hb
theorem B8.size {s:ByteArray} {p:Nat} {v n:Int}(h:B8 s p v n):p<s.size/\1<=n/\n<=4:=by
 unfold B8 cont at h;refine⟨?_,by omega,by omega⟩;rcases h with h|h|h|h
 ·exact h.2.1
 all_goals exact Fs s p (by omega)
theorem B8.last {s:ByteArray} {p:Nat} {v:Int} {m:Nat}(h:B8 s p v m):p+m<=s.size:=by
 have h1:=h.size;unfold B8 cont at h;rcases h with h|h|h|h
 ·omega
 ·have:=Fs s (p+1) (by omega);omega
 ·have:=Fs s (p+2) (by omega);omega
 ·have:=Fs s (p+3) (by omega);omega
theorem B8.unique {s:ByteArray} {p:Nat} {v n v' n':Int}(h:B8 s p v n) (h':B8 s p v' n'):v=v'/\n=n':=by
 unfold B8 cont at h h';omega
inductive Az (s:ByteArray):Nat->Int->Prop
 |done {p:Nat} :s.size<=p->Az s p (-1)
 |bad {p:Nat} :p<s.size->EG s p->Az s p p
 |step {p m:Nat} {v r:Int} :B8 s p v m->Az s (p+m) r->Az s p r
theorem Az.ex (s:ByteArray):∀n p:Nat,s.size-p<=n->∃r,Az s p r:=by
 intro n
 induction n with
 |zero=>exact fun p h=>⟨_,.done (by omega)⟩
 |succ n ih=>
  intro p h;rcases BY p s.size with h1|h1
  ·rcases Classical.em (EG s p)with h2|h2
   ·exact⟨_,.bad h1 h2⟩
   ·have h3:∃v n,B8 s p v n:=by
     apply No;intro h4;exact h2 (fun v n hc=>h4 ⟨v,n,hc⟩)
    obtain⟨v,k,hc⟩:=h3;have h5:=hc.size;obtain⟨m,hm⟩:∃m:Nat,k=m:=⟨k.toNat,by omega⟩;subst hm;obtain⟨r,hr⟩:=ih (p+m) (by omega);exact⟨r,.step hc hr⟩
  ·exact⟨_,.done h1⟩
theorem Az.Gr {s:ByteArray} {p:Nat} {r:Int}(h:Az s p r) (hp:s.size<=p):r= -1:=by
 cases h with
 |done _=>rfl
 |bad h1 _=>omega
 |step hc _=>have:=hc.size;omega
theorem Az.JN {s:ByteArray} {p:Nat} {r:Int}(h:Az s p r) (hp:p<s.size) (hn:EG s p):r=p:=by
 cases h with
 |done h1=>omega
 |bad _ _=>rfl
 |step hc _=>exact absurd hc (hn _ _)
theorem Az.Fp {s:ByteArray} {p m:Nat} {v r:Int}(h:Az s p r) (hc:B8 s p v m):Az s (p+m) r:=by
 have h1:=hc.size;cases h with
 |done h2=>omega
 |bad _ hn=>exact absurd hc (hn _ _)
 |step hc2 hr=>
  have h3:=(hc.unique hc2).2;rename_i m2 v2;have h4:m=m2:=by omega
  rw[h4];exact hr
theorem Az.unique {s:ByteArray} {p:Nat} {r r':Int}(h:Az s p r) (h':Az s p r'):r=r':=by
 induction h with
 |done h1=>exact(h'.Gr h1).symm
 |bad h1 h2=>exact(h'.JN h1 h2).symm
 |step hc _ ih=>exact ih (h'.Fp hc)
end Go.Hb
namespace Go.Proofs
open Go.RowKit Go.Hb
def RO (R:Int) (w:World) (e:Ending) (w':World):Prop:=e= .returned (.int .i64 R)/\w=w'
theorem Rv {p q:Int} {w:World}(h:p=q):RO q w (.returned (.int .i64 p)) w:=by subst h;exact⟨rfl,rfl⟩
theorem dR (s:ByteArray) (a t:Nat) (R:Int) (w:World) (hs:s.size<=140737488355328) (ht:t<=s.size) (ha:a<=t) (hR:Hid (Az (s.extract 0 t) a R)):
 Calls Tryz.prog 12 #[.string s,.int .i64 a,.int .i64 t] w (RO R w):=by
 have hz:(s.extract 0 t).size=t:=by rw[Of];omega
 have HZ:=Hi hz;clear hz;have CC:Hid (∀(p:Nat) (w:World),Calls Tryz.prog 29 #[.string (s.extract 0 t),.int .i64 p] w (Bf (s.extract 0 t) p w)):=Hi (fun p w=>Zj _ p w (by rw[HZ.out];omega));obtain⟨T,hT⟩:∃T,T=s.extract 0 t:=⟨_,rfl⟩;rw[<-hT]at HZ hR CC;have eT:s.extract 0 t=T:=hT.symm;clear hT;go_enter Tryz.func12,Tryz.ntmps12;go_wp2
 go_loop [1] (fun i=>∃p:Nat,i= .int .i64 p/\p<=t/\Az T p R) (fun i=>t-(intOf i).toNat)
 case atStart=>exact⟨a,rfl,ha,hR.out⟩
 case round=>
  obtain⟨p,rfl,hp,hd⟩:=hrel;have HD:=Hi hd;clear hd;by_cases hlt:p<t
  ·go_wp2_with (go_at_call 29;(refine(CC.out p _).mono ?_))
   rintro e w' ⟨v,n,rfl,hc,rfl⟩;rcases hc with hc|⟨rfl,rfl,hn⟩
   ·obtain⟨m,rfl⟩:∃m:Nat,n=m:=⟨n.toNat,by have:=hc.size;omega⟩;have h1:=hc.size;have h2:=hc.last;rw[HZ.out]at h2;have hm:((m:Int)==0)=false:=by rw[Lq];intro h;have:=eq_of_beq h;omega
    have m1:1<=m:=by omega
    have HN:=Hi (HD.out.Fp hc);clear hc h1;go_wp2;go_round
    case rel=>exact⟨p+m,by go_num,h2,HN.out⟩
    case measure=>simp[intOf];omega
   ·have HF:Hid (R=(p:Int)):=Hi (HD.out.JN (by rw[HZ.out];exact hlt) hn);clear hn;go_wp2;go_ret;exact Rv HF.out.symm
  ·have HF:Hid (R= -1):=Hi (HD.out.Gr (by rw[HZ.out];omega));go_wp2;go_ret;exact Rv HF.out.symm
end Go.Proofs
end
section
namespace Go.Lx
open Go.Hb
def S9 (s:ByteArray):Nat->Nat->Nat
 |0,a=>a
 |n+1,a=>if a+1<s.size then(if AE s a=42/\AE s (a+1)=47 then a else S9 s n (a+1))else a
def C7 (s:ByteArray) (a:Nat):Nat:=S9 s (s.size-a) a
theorem MN {s:ByteArray} {a:Nat}(h:a+1<s.size) (hm:¬(AE s a=42/\AE s (a+1)=47)):C7 s a=C7 s (a+1):=by
 unfold C7;obtain⟨n,hn⟩:∃n,s.size-a=n+1:=⟨s.size-a-1,by omega⟩;rw[hn,show s.size-(a+1)=n by omega,S9,if_pos h,if_neg hm]
theorem MJ {s:ByteArray} {a:Nat}(h:a+1<s.size) (hm:AE s a=42/\AE s (a+1)=47):C7 s a=a:=by
 unfold C7;obtain⟨n,hn⟩:∃n,s.size-a=n+1:=⟨s.size-a-1,by omega⟩;rw[hn,S9,if_pos h,if_pos hm]
theorem GZ {s:ByteArray} {a:Nat}(h:s.size<=a+1):C7 s a=a:=by
 unfold C7;rcases dT (s.size-a)with h1|h1
 ·rw[h1];rfl
 ·obtain⟨n,hn⟩:∃n,s.size-a=n+1:=⟨s.size-a-1,by omega⟩;rw[hn,S9,if_neg (by omega)]
theorem M5 (s:ByteArray) (a:Nat):a<=C7 s a:=by
 unfold C7;generalize s.size-a=n
 induction n generalizing a with
 |zero=>exact nR _
 |succ n ih=>
  unfold S9;split
  ·split
   ·omega
   ·have:=ih (a+1);omega
  ·omega
inductive fU where
 |stop
 |QB
 |F8 (t:Nat)
def BP (s:ByteArray) (p:Nat):fU:=
 if F5 (AE s p).toNat then .F8 (p+1)
 else if AE s p=37 then .F8 (min (AF (Ni 10) s p+1) s.size)
 else if AE s p=47/\AE s (p+1)=42 then(if C7 s (p+2)+1<s.size then .F8 (C7 s (p+2)+2)else .QB)
 else .stop
theorem Ea {s:ByteArray} {p t:Nat}(hp:p<s.size) (h:BP s p= .F8 t):p<t/\t<=s.size:=by
 unfold BP at h;split at h
 ·cases h;omega
 ·split at h
  ·cases h;have:=Ae (Ni 10) s p;omega
  ·split at h
   ·split at h
    ·cases h;have:=M5 s (p+2);omega
    ·cases h
   ·cases h
inductive Lay (s:ByteArray):Nat->Nat->Nat->Prop
 |done {p:Nat} :s.size<=p->Lay s p p 0
 |stop {p:Nat} :p<s.size->BP s p= .stop->Lay s p p 0
 |QB {p:Nat} :p<s.size->BP s p= .QB->Lay s p p 33
 |bad {p t r:Nat} :p<s.size->BP s p= .F8 t->Az (s.extract 0 t) p (r:Int)->Lay s p r 30
 |step {p t k e:Nat} :p<s.size->BP s p= .F8 t->Az (s.extract 0 t) p (-1)->Lay s t k e->Lay s p k e
theorem Az.Ky {s:ByteArray} {p:Nat} {r:Int}(h:Az s p r):r= -1\/∃m:Nat,r=m:=by
 induction h with
 |done _=>exact .inl rfl
 |bad _ _=>exact .inr ⟨_,rfl⟩
 |step _ _ ih=>exact ih
theorem Lay.ex (s:ByteArray):∀n p:Nat,s.size-p<=n->∃k e,Lay s p k e:=by
 intro n
 induction n with
 |zero=>exact fun p h=>⟨_,_,.done (by omega)⟩
 |succ n ih=>
  intro p h;rcases BY p s.size with h1|h1
  ·cases h2:BP s p with
   |stop=>exact⟨_,_,.stop h1 h2⟩
   |QB=>exact⟨_,_,.QB h1 h2⟩
   |F8 t=>
    have h3:=Ea h1 h2;obtain⟨r,hr⟩:=Az.ex (s.extract 0 t) _ p (nR _);rcases Az.Ky hr with rfl|⟨m,rfl⟩
    ·obtain⟨k,e,hk⟩:=ih t (by omega);exact⟨k,e,.step h1 h2 hr hk⟩
    ·exact⟨_,_,.bad h1 h2 hr⟩
  ·exact⟨_,_,.done h1⟩
theorem Lay.Gr {s:ByteArray} {p k e:Nat}(h:Lay s p k e) (hp:s.size<=p):k=p/\e=0:=by
 cases h with
 |done _=>exact⟨rfl,rfl⟩
 |stop h1 _=>omega
 |QB h1 _=>omega
 |bad h1 _ _=>omega
 |step h1 _ _ _=>omega
theorem Lay.Sk {s:ByteArray} {p k e:Nat}(h:Lay s p k e) (hp:p<s.size) (hl:BP s p= .stop):k=p/\e=0:=by
 cases h with
 |done h1=>omega
 |stop _ _=>exact⟨rfl,rfl⟩
 |QB _ h2=>rw[hl]at h2;cases h2
 |bad _ h2 _=>rw[hl]at h2;cases h2
 |step _ h2 _ _=>rw[hl]at h2;cases h2
theorem Lay.V9 {s:ByteArray} {p k e:Nat}(h:Lay s p k e) (hp:p<s.size) (hl:BP s p= .QB):k=p/\e=33:=by
 cases h with
 |done h1=>omega
 |stop _ h2=>rw[hl]at h2;cases h2
 |QB _ _=>exact⟨rfl,rfl⟩
 |bad _ h2 _=>rw[hl]at h2;cases h2
 |step _ h2 _ _=>rw[hl]at h2;cases h2
theorem Lay.JN {s:ByteArray} {p k e t r:Nat}(h:Lay s p k e) (hp:p<s.size) (hl:BP s p= .F8 t) (hr:Az (s.extract 0 t) p (r:Int)):k=r/\e=30:=by
 cases h with
 |done h1=>omega
 |stop _ h2=>rw[hl]at h2;cases h2
 |QB _ h2=>rw[hl]at h2;cases h2
 |bad _ h2 h3=>
  rw[hl]at h2;cases h2;have:=hr.unique h3;omega
 |step _ h2 h3 _=>
  rw[hl]at h2;cases h2;have:=hr.unique h3;omega
theorem Lay.Fp {s:ByteArray} {p k e t:Nat}(h:Lay s p k e) (hp:p<s.size) (hl:BP s p= .F8 t) (hr:Az (s.extract 0 t) p (-1)):Lay s t k e:=by
 cases h with
 |done h1=>omega
 |stop _ h2=>rw[hl]at h2;cases h2
 |QB _ h2=>rw[hl]at h2;cases h2
 |bad _ h2 h3=>
  rw[hl]at h2;cases h2;have:=hr.unique h3;omega
 |step _ h2 _ h4=>rw[hl]at h2;cases h2;exact h4
end Go.Lx
end
section
namespace Go.Lx
open Go.Hb Go.Rb
def At (r:Nat) (s:ByteArray) (f:Nat):Nat->Nat
 |0=>0
 |k+1=>At r s f k*r+CK (AE s (f+k)).toNat
def I5 (r C:Nat) (s:ByteArray) (f:Nat):Nat->Nat
 |0=>0
 |k+1=>min (I5 r C s f k*r+CK (AE s (f+k)).toNat) C
theorem YB {r C:Nat}(hr:1<=r) (s:ByteArray) (f k:Nat):I5 r C s f k=min (At r s f k) C:=by
 induction k with
 |zero=>simp[I5,At]
 |succ k ih=>
  rw[I5,At,ih];rcases BY C (At r s f k)with h|h
  ·rw[Nat.min_eq_right (Nat.le_of_lt h)];have h1:C<=C*r:=Nat.le_mul_of_pos_right _ hr;have h2:At r s f k<=At r s f k*r:=Nat.le_mul_of_pos_right _ hr;omega
  ·rw[Nat.min_eq_left h]
def He (c:Nat):Option Nat:=
 if c=97 then some 7 else if c=98 then some 8 else if c=102 then some 12 else if c=110 then some 10 else if c=114 then some 13 else if c=116 then some 9
 else if c=118 then some 11 else if c=92 then some 92 else if c=39 then some 39 else if c=34 then some 34 else if c=96 then some 96 else none
def GR (r:Nat) (p:Nat->Bool) (s:ByteArray) (f:Nat):Option (Nat×Nat):=
 if AF p s f=f\/AE s (AF p s f)≠92 then none
 else if AR (At r s f (AF p s f-f):Nat)then some (At r s f (AF p s f-f),AF p s f+1)else none
def Dp (s:ByteArray) (p:Nat):Option (Nat×Nat):=
 match(if p+1<s.size then He (AE s (p+1)).toNat else none)with
 |some v=>some (v,p+2)
 |none=>if AE s (p+1)=120 then GR 16 Ah s (p+2)else GR 8 A6 s (p+1)
theorem ZT {r:Nat}(hr:1<=r) (s:ByteArray) (f k:Nat):Ff (I5 r 1073741824 s f k:Nat)=Ff (At r s f k:Nat)/\(Ff (At r s f k:Nat)=true->I5 r 1073741824 s f k=At r s f k):=by
 have h:=YB (C:=1073741824) hr s f k;constructor
 ·unfold Ff AR;exact NO.2 (by omega)
 ·intro hm;have:=of_decide_eq_true hm;unfold AR at this;omega
end Go.Lx
end
section
namespace Go.Proofs
open Go.RowKit Go.Pf Go.Lx
def AK (k:Int) (tx nu:ByteArray) (bits:Int) (at_ en:Int) (ly:Bool):Value:= .agg #[.int .i64 k,.string tx,.string nu,.int .u64 bits,.int .i64 at_,.int .i64 en,.bool ly]
def As (at_:Int):Value:=AK 0 ⟨#[]⟩ ⟨#[]⟩ 0 at_ at_ false
def Wz (p n:Int) (w:World) (e:Ending) (w':World):Prop:=e= .returned (.tuple #[As p,.int .i64 n])/\Below w.heap.size w w'
theorem Ew (p n:Int) (w:World):Calls Tryz.prog 105 #[.int .i64 p,.int .i64 n] w (Wz p n w):=by
 go_enter Tryz.func105,Tryz.ntmps105;go_wp2;refine AI (v:= .tuple #[As p,.int .i64 n]) ?_ rfl ⟨rfl,?_⟩
 ·simp only[results,Tryz.results105];go_simp;rfl
 ·repeat (first|exact(AH _ _).alloc (nR _) _|refine By ?_ (by simp only;omega) _)
theorem Un (p n:Int) (w:World):Calls Tryz.prog 30 #[.int .i64 p,.int .i64 n] w (Wz p n w):=by
 go_enter Tryz.func30,Tryz.ntmps30;go_wp2;refine AI (v:= .tuple #[As p,.int .i64 n]) ?_ rfl ⟨rfl,?_⟩
 ·simp only[results,Tryz.results30];go_simp;rfl
 ·repeat (first|exact(AH _ _).alloc (nR _) _|refine By ?_ (by simp only;omega) _)
end Go.Proofs
end
section
namespace Go.Lx
open Go.Hb Go.Rb
theorem Bv {p:Nat->Bool} {s:ByteArray} {a:Nat} :∀j (h:j<s.size),a<=j->j<AF p s a->p s[j].toNat=true:=by
 unfold AF;generalize s.size-a=n
 induction n generalizing a with
 |zero=>intro j h h1 h2;simp only[P6]at h2;omega
 |succ n ih=>
  intro j h h1 h2;unfold P6 at h2;split at h2
  ·rename_i ha;split at h2
   ·rename_i hp;rcases Nat.eq_or_lt_of_le h1 with h3|h3
    ·subst h3;exact hp
    ·exact ih j h h3 h2
   ·omega
  ·omega
theorem Qt {p:Nat->Bool} {s:ByteArray} {a:Nat} :∀(h:AF p s a<s.size),p s[AF p s a].toNat=false:=by
 have key:∀n a,s.size-a<=n->∀(h:AF p s a<s.size),p s[AF p s a].toNat=false:=by
  intro n
  induction n with
  |zero=>
   intro a hn h;have:=Ae p s a;omega
  |succ n ih=>
   intro a hn h;by_cases ha:a<s.size
   ·by_cases hp:p s[a].toNat=true
    ·have e:=Af ha hp;have h2:AF p s (a+1)<s.size:=by rw[<-e];exact h
     have h3:=ih (a+1) (by omega) h2;simpa[e]using h3
    ·rw[gh]at hp;have e:=Aw ha hp;simpa[e]using hp
   ·have:=Ae p s a;omega
 exact key _ a (nR _)
def N8:ByteArray:=⟨#[97,98,102,110,114,116,118,92,39,34,96]⟩
def Xx (k:Nat):Nat:= [7,8,12,10,13,9,11,92,39,34,96].getD k 0
theorem MZ:N8.size=11:=rfl
theorem YP:∀(k:Nat) (h:k<N8.size),He N8[k].toNat=some (Xx k):=by
 have key:(List.finRange 11).all (fun k=>He (N8[k.val]'(by rw[MZ];exact k.isLt)).toNat==some (Xx k.val))=true:=by decide
 intro k h;have:=List.all_eq_true.1 key ⟨k,by rw[MZ]at h;exact h⟩ (List.mem_finRange _);exact eq_of_beq this
theorem Yg {c:Nat}(h:∀(k:Nat) (h:k<N8.size),N8[k].toNat≠c):He c=none:=by
 have e:∀(k:Nat) (h:k<N8.size),c≠N8[k].toNat:=fun k hk hh=>h k hk hh.symm;have h0:c≠97:=e 0 (by decide);have h1:c≠98:=e 1 (by decide);have h2:c≠102:=e 2 (by decide);have h3:c≠110:=e 3 (by decide);have h4:c≠114:=e 4 (by decide);have h5:c≠116:=e 5 (by decide);have h6:c≠118:=e 6 (by decide);have h7:c≠92:=e 7 (by decide);have h8:c≠39:=e 8 (by decide);have h9:c≠34:=e 9 (by decide);have h10:c≠96:=e 10 (by decide);unfold He;rw[if_neg h0,if_neg h1,if_neg h2,if_neg h3,if_neg h4,if_neg h5,if_neg h6,if_neg h7,if_neg h8,if_neg h9,if_neg h10]
end Go.Lx
namespace Go.Proofs
open Go.RowKit Go.Pf Go.Lx Go.Hb Go.Rb
def Cp (o:Option (Nat×Nat)) (w:World) (e:Ending) (w':World):Prop:=
 (match o with
  |none=>∃a b:Int,e= .returned (.tuple #[.int .i64 a,.int .i64 b,.bool false])
  |some (v,t)=>e= .returned (.tuple #[.int .i64 v,.int .i64 t,.bool true]))/\Below w.heap.size w w'
theorem Cp.no {o:Option (Nat×Nat)} {w w':World} {a b:Int}(h:o=none) (hb:Below w.heap.size w w'):Cp o w (.returned (.tuple #[.int .i64 a,.int .i64 b,.bool false])) w':=by
 subst h;exact⟨⟨a,b,rfl⟩,hb⟩
theorem Cp.yes {o:Option (Nat×Nat)} {w w':World} {v t:Nat} {a b:Int}(h:o=some (v,t)) (ha:a=v) (hbb:b=t) (hb:Below w.heap.size w w'):Cp o w (.returned (.tuple #[.int .i64 a,.int .i64 b,.bool true])) w':=by
 subst h ha hbb;exact⟨rfl,hb⟩
theorem O9 {c:Nat}(h:A6 c=true):Ah c=true:=by
 simp[A6,Ah,AM]at h⊢;omega
theorem KJ {c:Nat}(h:Ah c=true):CK c<=15:=by
 simp[Ah,AM]at h;unfold CK;split
 ·omega
 ·split
  ·omega
  ·split
   ·omega
   ·omega
structure X6 (r:Nat) (s:ByteArray) (f T:Nat) (V:Nat->Nat) (R:Option (Nat×Nat)):Prop where
 no:T=f\/AE s T≠92->R=none
 Zk:¬(T=f\/AE s T≠92)->Ff (V T)=false->R=none
 may:¬(T=f\/AE s T≠92)->Ff (V T)=true->R=some (V T,T+1)
 zero:V f=0
 Bq:∀i (h:i<s.size),f<=i->i<T->Ah s[i].toNat=true
 step:∀i (h:i<s.size),f<=i->i<T->min ((V i:Int)*(r:Int)+(CK s[i].toNat:Nat)) 1073741824=(V (i+1):Nat)
 le:∀i,f<=i->V i<=1073741824
theorem X6.of {r:Nat} {p:Nat->Bool} {s:ByteArray} {f:Nat} {R:Option (Nat×Nat)}(hr:1<=r) (hp:∀c,p c=true->Ah c=true) (h:R=GR r p s f):
 X6 r s f (AF p s f) (fun i=>I5 r 1073741824 s f (i-f)) R:=by
 obtain⟨T,hT⟩:∃T,T=AF p s f:=⟨_,rfl⟩;have hge:=Ae p s f;have hall:= @Bv p s f;unfold GR at h;rw[<-hT]at h hge hall⊢;have hm:=ZT hr s f (T-f);refine⟨fun h1=>by rw[h,if_pos h1],fun h1 h2=> ?_,fun h1 h2=> ?_,?_,fun i hi h1 h2=>hp _ (hall i hi h1 h2),fun i hi h1 h2=> ?_,fun i h1=> ?_⟩
 ·rw[h,if_neg h1]
  try simp only at h2
  rw[hm.1]at h2;rw[if_neg (of_decide_eq_false h2)]
 ·rw[h,if_neg h1]
  try simp only at h2
  have h3:=h2;rw[hm.1]at h3;rw[if_pos (of_decide_eq_true h3)]
  try simp only
  rw[hm.2 h3]
 ·simp[I5]
 ·try simp only
  rw[show i+1-f=(i-f)+1 by omega,I5];have e:f+(i-f)=i:=by omega
  rw[e,AO s i hi,IT];rw[<-Int.natCast_mul,<-Int.natCast_add];omega
 ·try simp only
  cases i-f with
  |zero=>simp[I5]
  |succ n=>rw[I5];exact Nat.min_le_right _ _
theorem E8 (s:ByteArray) (k:Nat) (w:World):Calls Tryz.prog 64 #[.string s,.int .i64 k] w fun e w'=>e= .returned (.int .u8 (AE s k))/\w=w':=(Tryz.DH s k w).mono fun _ _ ⟨h1,h2⟩=>⟨h1,h2.symm⟩
theorem Xi (v:Int) (w:World):Calls Tryz.prog 65 #[.int .i64 v] w fun e w'=>e= .returned (.bool (Ff v))/\w=w':=(Tryz.may v w).mono fun _ _ ⟨h1,h2⟩=>⟨h1,h2.symm⟩
theorem Sl (s:ByteArray) (p:Nat) (w:World) (hs:s.size<=140737488355328) (hp:p<=140737488355320):
 Calls Tryz.prog 212 #[.string s,.int .i64 p] w (Cp (Dp s p) w):=by
 obtain⟨R,hR⟩:∃R,R=Dp s p:=⟨_,rfl⟩;rw[<-hR];obtain⟨u,hu⟩:∃u,u=AE s (p+1):=⟨_,rfl⟩;have CY:Hid (∀w,Calls Tryz.prog 64 #[.string s,.int .i64 ((p:Int)+1)] w fun e w'=>e= .returned (.int .u8 u)/\w=w'):=Hi (fun w=>by rw[hu];exact E8 s (p+1) w);obtain⟨S,hS⟩:∃S,S=N8:=⟨_,rfl⟩;have zS:S.size=11:=by rw[hS];rfl
 have u0:=DF s (p+1);rw[<-hu]at u0;have HS:=Hi hS;have HU:=Hi hu;have HR:=Hi hR;have U0:=Hi u0;clear hR hu u0;go_enter Tryz.func212,Tryz.ntmps212
 go_wp2_with (go_at_call 64;(with_reducible refine(CY.out _).mono ?_);rintro e w' ⟨rfl,rfl⟩)
 generalize hW:w.alloc _=W1;have bl:Below w.heap.size w W1:=by subst hW;exact(AH _ _).alloc (nR _) _
 have hc:∀k,k<11->W1.cell? ⟨w.heap.size,k,none⟩=some (.int .i64 (Xx k:Nat)):=by
  intro k hk;subst hW;rw[Lib.cell_of_heap (dk w _)]
  match k,hk with
  |0,_=>rfl
  |1,_=>rfl
  |2,_=>rfl
  |3,_=>rfl
  |4,_=>rfl
  |5,_=>rfl
  |6,_=>rfl
  |7,_=>rfl
  |8,_=>rfl
  |9,_=>rfl
  |10,_=>rfl
 have HC:=Hi hc;have BL:=Hi bl;clear hW hc bl;rw[show({data:= #[97,98,102,110,114,116,118,92,39,34,96]} :ByteArray)=S from hS.symm];clear hS
 go_loop [10] (fun i=>∃k:Nat,k<=11/\i= .int .i64 k/\∀j (h:j<S.size),j<k->¬(u=S[j].toNat/\p+1<s.size)) (fun i=>11-(intOf i).toNat)
 case atStart=>exact⟨0,by omega,rfl,fun j _ h=>by omega⟩
 case round=>
  obtain⟨k,hk,rfl,hinv⟩:=hrel;have HI:=Hi hinv;clear hinv;by_cases hlt:k<11
  ·have hkz:k<S.size:=by omega
   by_cases hm:u=S[k].toNat/\p+1<s.size
   ·have hcell:=HC.out k hlt;have m1:(u==(S[k].toNat:Int))=true:=by rw[hm.1];exact beq_self_eq_true _
    have m2:(p:Int)+1<s.size:=by omega
    have HF:Hid (R=some (Xx k,p+2)):=Hi (by
     have h1:=hm.1;have hS:=HS.out;subst hS;have h2:=YP k hkz;rw[HR.out];unfold Dp;rw[if_pos hm.2,<-HU.out,h1,IT,h2])
    clear hm;go_wp2;go_ret3;exact Cp.yes HF.out rfl (by first|rfl|omega) BL.out
   ·have HN:Hid (∀j (h:j<S.size),j<k+1->¬(u=S[j].toNat/\p+1<s.size)):=Hi (by
     intro j h hj;rcases BY j k with h1|h1
     ·exact HI.out j h h1
     ·obtain rfl:j=k:=by omega
      exact hm)
    have hq:(u==(S[k].toNat:Int))=false\/((u==(S[k].toNat:Int))=true/\¬((p:Int)+1<s.size)):=by
     by_cases h:u=S[k].toNat
     ·exact .inr ⟨by rw[h];exact beq_self_eq_true _,fun h2=>hm ⟨h,by omega⟩⟩
     ·left;rw[Lq];intro h2;exact h (eq_of_beq h2)
    clear hm;rcases hq with m1|⟨m1,m2⟩
    ·go_wp2;go_round
     case rel=>exact⟨k+1,by omega,by go_num,HN.out⟩
     case measure=>simp[intOf];omega
    ·go_wp2;go_round
     case rel=>exact⟨k+1,by omega,by go_num,HN.out⟩
     case measure=>simp[intOf];omega
  ·have hno:(if p+1<s.size then He (AE s (p+1)).toNat else none)=none:=by
    by_cases h1:p+1<s.size
    ·rw[if_pos h1];refine Yg fun j hj h2=> ?_;have hS:=HS.out;subst hS;refine HI.out j hj (by omega) ⟨?_,h1⟩;rw[h2,HU.out];have:=DF s (p+1);omega
    ·rw[if_neg h1]
   have HR2:R=if u=120 then GR 16 Ah s (p+2)else GR 8 A6 s (p+1):=by
    rw[HR.out,HU.out];unfold Dp;rw[hno]
   have ki:¬((k:Int)<11):=by omega
   clear hno HI HC hlt HS HU HR;by_cases h120:u=120
   ·have m1:(u==120)=true:=by rw[h120];rfl
    rw[if_pos h120]at HR2;have HF:=X6.of (p:=Ah) (by decide) (fun _ h=>h) HR2;obtain⟨f,hf⟩:∃f,f=p+2:=⟨_,rfl⟩;rw[<-hf]at HF;have ef:(p:Int)+2=f:=by omega
    have f0:f<=140737488355328:=by omega
    have tge:=Ae Ah s f;have tle:AF Ah s f=f\/AF Ah s f<=s.size:=by
     rcases BY s.size f with h|h
     ·exact .inl (Ac (by omega))
     ·exact .inr (Ai Ah s f h)
    have CR:Hid (∀w,Calls Tryz.prog 161 #[.string s,.int .i64 f,.int .i64 4] w (Ag (AF Ah s f) w)):=Hi (fun w=>Rn s f w hs f0);obtain⟨T,hT⟩:∃T,T=AF Ah s f:=⟨_,rfl⟩;obtain⟨V,hV⟩:∃V,V=fun i=>I5 16 1073741824 s f (i-f):=⟨_,rfl⟩;rw[<-hT]at CR tge tle;rw[<-hT,<-hV]at HF;clear hT hV HR2 hf h120;have HFF:=Hi HF;clear HF;have CT:Hid (∀w,Calls Tryz.prog 64 #[.string s,.int .i64 T] w fun e w'=>e= .returned (.int .u8 (AE s T))/\w=w'):=Hi (fun w=>E8 s T w);obtain⟨bT,hbT⟩:∃b,b=AE s T:=⟨_,rfl⟩;rw[<-hbT]at CT;have HBT:=Hi hbT;clear hbT;by_cases q1:T=f
    ·have m2:((T:Int)==f)=true:=by rw[q1];exact beq_self_eq_true _
     have HN:=Hi (HFF.out.no (.inl q1));clear q1 tge tle HFF
     go_wp2_with (first|(go_at_call 64;(with_reducible refine(CT.out _).mono ?_);rintro e w' ⟨rfl,rfl⟩)|(go_at_call 161;(with_reducible refine(CR.out _).mono ?_);rintro e w' ⟨rfl,rfl⟩))
     go_ret3;exact Cp.no HN.out BL.out
    ·have m2:((T:Int)==f)=false:=Bn q1;by_cases q2:bT=92
     ·have q3:(bT !=92)=false:=by rw[q2];rfl
      have hd:¬(T=f\/AE s T≠92):=by rw[<-HBT.out];omega
      have lt2:T<=s.size:=by omega
      have HD:=Hi hd;clear hd q1 q2 tle;have v0:=HFF.out.zero
      go_wp2_with (first|(go_at_call 64;(with_reducible refine(CT.out _).mono ?_);rintro e w' ⟨rfl,rfl⟩)|(go_at_call 161;(with_reducible refine(CR.out _).mono ?_);rintro e w' ⟨rfl,rfl⟩))
      go_loop [15,16] (fun v i=>∃j:Nat,f<=j/\j<=T/\i= .int .i64 j/\v= .int .i64 (V j:Nat)) (fun _ i=>T-(intOf i).toNat)
      case atStart=>exact⟨f,nR _,tge,rfl,by rw[v0];rfl⟩
      case round=>
       obtain⟨j,hj1,hj2,rfl,rfl⟩:=hrel;clear v0;by_cases hjl:j<T
       ·have hjs:j<s.size:=by omega
        have hx:=HFF.out.Bq j hjs hj1 hjl;have st:=HFF.out.step j hjs hj1 hjl;have le:=HFF.out.le j hj1;have d15:=KJ hx;have CV:Hid (∀w,Calls Tryz.prog 209 #[.int .u8 s[j].toNat] w fun e w'=>e= .returned (.int .i64 (CK s[j].toNat:Nat))/\w=w'):=Hi (fun w=>Tryz.rvalue _ hx w);obtain⟨d,hdd⟩:∃d,d=CK s[j].toNat:=⟨_,rfl⟩;obtain⟨x,hxx⟩:∃x,x=V j:=⟨_,rfl⟩;obtain⟨y,hyy⟩:∃y,y=V (j+1):=⟨_,rfl⟩;rw[<-hdd]at d15 CV st;rw[<-hxx]at st le⊢;rw[<-hyy]at st;have HY:=Hi hyy;clear hx hdd hxx hyy;have st2:min ((x:Int)*16+d) 1073741824=y:=st;clear st
        go_wp2_with (go_at_call 209;(with_reducible refine(CV.out _).mono ?_);rintro e w' ⟨rfl,rfl⟩)
        go_round
        case rel=>exact⟨j+1,by omega,by omega,by go_num,by rw[<-HY.out]⟩
        case measure=>simp[intOf];omega
       ·obtain rfl:j=T:=by omega
        cases hmm:Ff (V j:Nat)with
        |false=>
         have HN:=Hi (HFF.out.Zk HD.out hmm);have CM:Hid (∀w,Calls Tryz.prog 65 #[.int .i64 (V j:Nat)] w fun e w'=>e= .returned (.bool false)/\w=w'):=Hi (fun w=>by have:=Xi (V j:Nat) w;rwa [hmm]at this);clear hmm
         go_wp2_with (go_at_call 65;(with_reducible refine(CM.out _).mono ?_);rintro e w' ⟨rfl,rfl⟩)
         go_ret3;exact Cp.no HN.out BL.out
        |true=>
         have HN:=Hi (HFF.out.may HD.out hmm);have CM:Hid (∀w,Calls Tryz.prog 65 #[.int .i64 (V j:Nat)] w fun e w'=>e= .returned (.bool true)/\w=w'):=Hi (fun w=>by have:=Xi (V j:Nat) w;rwa [hmm]at this);clear hmm
         go_wp2_with (go_at_call 65;(with_reducible refine(CM.out _).mono ?_);rintro e w' ⟨rfl,rfl⟩)
         go_ret3;exact Cp.yes HN.out rfl (by first|rfl|omega) BL.out
     ·have q3:(bT !=92)=true:=by rw[bne,Bool.not_eq_true'];rw[Lq];intro h;exact q2 (eq_of_beq h)
      have HN:=Hi (HFF.out.no (.inr (by rw[<-HBT.out];exact q2)));clear q1 q2 tge tle HFF
      go_wp2_with (first|(go_at_call 64;(with_reducible refine(CT.out _).mono ?_);rintro e w' ⟨rfl,rfl⟩)|(go_at_call 161;(with_reducible refine(CR.out _).mono ?_);rintro e w' ⟨rfl,rfl⟩))
      go_ret3;exact Cp.no HN.out BL.out
   ·have m1:(u==120)=false:=by rw[Lq];intro h;exact h120 (eq_of_beq h)
    rw[if_neg h120]at HR2;have HF:=X6.of (p:=A6) (by decide) (fun _ h=>O9 h) HR2;obtain⟨f,hf⟩:∃f,f=p+1:=⟨_,rfl⟩;rw[<-hf]at HF;have ef:(p:Int)+1=f:=by omega
    have f0:f<=140737488355328:=by omega
    have tge:=Ae A6 s f;have tle:AF A6 s f=f\/AF A6 s f<=s.size:=by
     rcases BY s.size f with h|h
     ·exact .inl (Ac (by omega))
     ·exact .inr (Ai A6 s f h)
    have CR:Hid (∀w,Calls Tryz.prog 161 #[.string s,.int .i64 f,.int .i64 5] w (Ag (AF A6 s f) w)):=Hi (fun w=>Sf s f w hs f0);obtain⟨T,hT⟩:∃T,T=AF A6 s f:=⟨_,rfl⟩;obtain⟨V,hV⟩:∃V,V=fun i=>I5 8 1073741824 s f (i-f):=⟨_,rfl⟩;rw[<-hT]at CR tge tle;rw[<-hT,<-hV]at HF;clear hT hV HR2 hf h120;have HFF:=Hi HF;clear HF;have CT:Hid (∀w,Calls Tryz.prog 64 #[.string s,.int .i64 T] w fun e w'=>e= .returned (.int .u8 (AE s T))/\w=w'):=Hi (fun w=>E8 s T w);obtain⟨bT,hbT⟩:∃b,b=AE s T:=⟨_,rfl⟩;rw[<-hbT]at CT;have HBT:=Hi hbT;clear hbT;by_cases q1:T=f
    ·have m2:((T:Int)==f)=true:=by rw[q1];exact beq_self_eq_true _
     have HN:=Hi (HFF.out.no (.inl q1));clear q1 tge tle HFF
     go_wp2_with (first|(go_at_call 64;(with_reducible refine(CT.out _).mono ?_);rintro e w' ⟨rfl,rfl⟩)|(go_at_call 161;(with_reducible refine(CR.out _).mono ?_);rintro e w' ⟨rfl,rfl⟩))
     go_ret3;exact Cp.no HN.out BL.out
    ·have m2:((T:Int)==f)=false:=Bn q1;by_cases q2:bT=92
     ·have q3:(bT !=92)=false:=by rw[q2];rfl
      have hd:¬(T=f\/AE s T≠92):=by rw[<-HBT.out];omega
      have lt2:T<=s.size:=by omega
      have HD:=Hi hd;clear hd q1 q2 tle;have v0:=HFF.out.zero
      go_wp2_with (first|(go_at_call 64;(with_reducible refine(CT.out _).mono ?_);rintro e w' ⟨rfl,rfl⟩)|(go_at_call 161;(with_reducible refine(CR.out _).mono ?_);rintro e w' ⟨rfl,rfl⟩))
      go_loop [15,16] (fun v i=>∃j:Nat,f<=j/\j<=T/\i= .int .i64 j/\v= .int .i64 (V j:Nat)) (fun _ i=>T-(intOf i).toNat)
      case atStart=>exact⟨f,nR _,tge,rfl,by rw[v0];rfl⟩
      case round=>
       obtain⟨j,hj1,hj2,rfl,rfl⟩:=hrel;clear v0;by_cases hjl:j<T
       ·have hjs:j<s.size:=by omega
        have hx:=HFF.out.Bq j hjs hj1 hjl;have st:=HFF.out.step j hjs hj1 hjl;have le:=HFF.out.le j hj1;have d15:=KJ hx;have CV:Hid (∀w,Calls Tryz.prog 209 #[.int .u8 s[j].toNat] w fun e w'=>e= .returned (.int .i64 (CK s[j].toNat:Nat))/\w=w'):=Hi (fun w=>Tryz.rvalue _ hx w);obtain⟨d,hdd⟩:∃d,d=CK s[j].toNat:=⟨_,rfl⟩;obtain⟨x,hxx⟩:∃x,x=V j:=⟨_,rfl⟩;obtain⟨y,hyy⟩:∃y,y=V (j+1):=⟨_,rfl⟩;rw[<-hdd]at d15 CV st;rw[<-hxx]at st le⊢;rw[<-hyy]at st;have HY:=Hi hyy;clear hx hdd hxx hyy;have st2:min ((x:Int)*8+d) 1073741824=y:=st;clear st
        go_wp2_with (go_at_call 209;(with_reducible refine(CV.out _).mono ?_);rintro e w' ⟨rfl,rfl⟩)
        go_round
        case rel=>exact⟨j+1,by omega,by omega,by go_num,by rw[<-HY.out]⟩
        case measure=>simp[intOf];omega
       ·obtain rfl:j=T:=by omega
        cases hmm:Ff (V j:Nat)with
        |false=>
         have HN:=Hi (HFF.out.Zk HD.out hmm);have CM:Hid (∀w,Calls Tryz.prog 65 #[.int .i64 (V j:Nat)] w fun e w'=>e= .returned (.bool false)/\w=w'):=Hi (fun w=>by have:=Xi (V j:Nat) w;rwa [hmm]at this);clear hmm
         go_wp2_with (go_at_call 65;(with_reducible refine(CM.out _).mono ?_);rintro e w' ⟨rfl,rfl⟩)
         go_ret3;exact Cp.no HN.out BL.out
        |true=>
         have HN:=Hi (HFF.out.may HD.out hmm);have CM:Hid (∀w,Calls Tryz.prog 65 #[.int .i64 (V j:Nat)] w fun e w'=>e= .returned (.bool true)/\w=w'):=Hi (fun w=>by have:=Xi (V j:Nat) w;rwa [hmm]at this);clear hmm
         go_wp2_with (go_at_call 65;(with_reducible refine(CM.out _).mono ?_);rintro e w' ⟨rfl,rfl⟩)
         go_ret3;exact Cp.yes HN.out rfl (by first|rfl|omega) BL.out
     ·have q3:(bT !=92)=true:=by rw[bne,Bool.not_eq_true'];rw[Lq];intro h;exact q2 (eq_of_beq h)
      have HN:=Hi (HFF.out.no (.inr (by rw[<-HBT.out];exact q2)));clear q1 q2 tge tle HFF
      go_wp2_with (first|(go_at_call 64;(with_reducible refine(CT.out _).mono ?_);rintro e w' ⟨rfl,rfl⟩)|(go_at_call 161;(with_reducible refine(CR.out _).mono ?_);rintro e w' ⟨rfl,rfl⟩))
      go_ret3;exact Cp.no HN.out BL.out
end Go.Proofs
end
