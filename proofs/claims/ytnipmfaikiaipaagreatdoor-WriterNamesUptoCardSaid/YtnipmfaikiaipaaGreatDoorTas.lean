import Derived.Test.YtnipmfaikiaipaaGreatDoorTak
import Derived.Test.YtnipmfaikiaipaaGreatDoorTar
import Derived.Test.YtnipmfaikiaipaaGreatDoorTaa
set_option maxRecDepth 1000000
set_option maxHeartbeats 40000000
section
namespace Go.Hb
def cont (b:Int):Prop:=128≤b∧b<192
def ChV (s:ByteArray) (p:Nat) (v:Int) (n:Int):Prop:=
 (n=1∧p<s.size∧byt s p<128∧v=byt s p)∨
 (n=2∧(192≤byt s p∧byt s p<224)∧cont (byt s (p+1))∧v=(byt s p-192)*64+byt s (p+1)-128∧128≤v∧okRune v)∨
 (n=3∧(224≤byt s p∧byt s p<240)∧cont (byt s (p+1))∧cont (byt s (p+2))∧v=((byt s p-224)*64+byt s (p+1)-128)*64+byt s (p+2)-128∧2048≤v∧okRune v)∨
 (n=4∧(240≤byt s p∧byt s p<248)∧cont (byt s (p+1))∧cont (byt s (p+2))∧cont (byt s (p+3))∧v=(((byt s p-240)*64+byt s (p+1)-128)*64+byt s (p+2)-128)*64+byt s (p+3)-128∧65536≤v∧okRune v)
def NoCh (s:ByteArray) (p:Nat):Prop:=∀v n,¬ChV s p v n
def CharX (s:ByteArray) (p:Nat) (v n:Int):Prop:=ChV s p v n∨(n=0∧v=0∧NoCh s p)
theorem noch_out {s:ByteArray} {p:Nat}(h:s.size≤p):NoCh s p:=by
 intro v n hc
 have:=byt_out s p h
 unfold ChV at hc
 omega
theorem noch_odd {s:ByteArray} {p:Nat}(h:(128≤byt s p∧byt s p<192)∨248≤byt s p):NoCh s p:=by
 intro v n hc
 unfold ChV at hc
 omega
theorem chv_one {s:ByteArray} {p:Nat}(h:p<s.size) (h1:byt s p<128):ChV s p (byt s p) 1:= .inl ⟨rfl,h,h1,rfl⟩
theorem noch_two {s:ByteArray} {p k:Nat} {v:Int}(h0:192≤byt s p∧byt s p<224) (h:Acc (byt s (p+1)) (byt s (p+2)) (byt s (p+3)) (byt s p-192) k v) (hk:k<2) (hb:byt s (p+k)<128∨192≤byt s (p+k)):NoCh s p:=by
 intro u m hc
 unfold ChV cont at hc
 rcases h with⟨rfl,h⟩|⟨rfl,h⟩|⟨rfl,h⟩|⟨rfl,h⟩<;>omega
theorem noch_two_end {s:ByteArray} {p k:Nat} {v:Int}(h0:192≤byt s p∧byt s p<224) (h:Acc (byt s (p+1)) (byt s (p+2)) (byt s (p+3)) (byt s p-192) k v) (hk:k=2) (hb:v<128∨mayB v=false):NoCh s p:=by
 have hb2:v<128∨¬okRune v:=by
  rcases hb with h|h
  ·exact .inl h
  ·exact .inr (of_decide_eq_false h)
 intro u m hc
 unfold ChV cont at hc
 have e:u=v:=by unfold Acc at h;omega
 subst e
 rcases hb2 with h1|h1
 ·omega
 ·rcases hc with hc|hc|hc|hc
  ·omega
  ·exact h1 hc.2.2.2.2.2
  ·exact h1 hc.2.2.2.2.2.2
  ·exact h1 hc.2.2.2.2.2.2.2
theorem chv_two {s:ByteArray} {p k:Nat} {v:Int}(h0:192≤byt s p∧byt s p<224) (h:Acc (byt s (p+1)) (byt s (p+2)) (byt s (p+3)) (byt s p-192) k v) (hk:k=2) (hl:¬v<128) (hm:mayB v=true):ChV s p v 2:=by
 have hm:=of_decide_eq_true hm
 subst hk
 unfold Acc at h
 unfold ChV cont
 exact .inr (.inl ⟨rfl,h0,by omega,by omega,by omega,hm⟩)
theorem noch_three {s:ByteArray} {p k:Nat} {v:Int}(h0:224≤byt s p∧byt s p<240) (h:Acc (byt s (p+1)) (byt s (p+2)) (byt s (p+3)) (byt s p-224) k v) (hk:k<3) (hb:byt s (p+k)<128∨192≤byt s (p+k)):NoCh s p:=by
 intro u m hc
 unfold ChV cont at hc
 rcases h with⟨rfl,h⟩|⟨rfl,h⟩|⟨rfl,h⟩|⟨rfl,h⟩<;>omega
theorem noch_three_end {s:ByteArray} {p k:Nat} {v:Int}(h0:224≤byt s p∧byt s p<240) (h:Acc (byt s (p+1)) (byt s (p+2)) (byt s (p+3)) (byt s p-224) k v) (hk:k=3) (hb:v<2048∨mayB v=false):NoCh s p:=by
 have hb2:v<2048∨¬okRune v:=by
  rcases hb with h|h
  ·exact .inl h
  ·exact .inr (of_decide_eq_false h)
 intro u m hc
 unfold ChV cont at hc
 have e:u=v:=by unfold Acc at h;omega
 subst e
 rcases hb2 with h1|h1
 ·omega
 ·rcases hc with hc|hc|hc|hc
  ·omega
  ·exact h1 hc.2.2.2.2.2
  ·exact h1 hc.2.2.2.2.2.2
  ·exact h1 hc.2.2.2.2.2.2.2
theorem chv_three {s:ByteArray} {p k:Nat} {v:Int}(h0:224≤byt s p∧byt s p<240) (h:Acc (byt s (p+1)) (byt s (p+2)) (byt s (p+3)) (byt s p-224) k v) (hk:k=3) (hl:¬v<2048) (hm:mayB v=true):ChV s p v 3:=by
 have hm:=of_decide_eq_true hm
 subst hk
 unfold Acc at h
 unfold ChV cont
 exact .inr (.inr (.inl ⟨rfl,h0,by omega,by omega,by omega,by omega,hm⟩))
theorem noch_four {s:ByteArray} {p k:Nat} {v:Int}(h0:240≤byt s p∧byt s p<248) (h:Acc (byt s (p+1)) (byt s (p+2)) (byt s (p+3)) (byt s p-240) k v) (hk:k<4) (hb:byt s (p+k)<128∨192≤byt s (p+k)):NoCh s p:=by
 intro u m hc
 unfold ChV cont at hc
 rcases h with⟨rfl,h⟩|⟨rfl,h⟩|⟨rfl,h⟩|⟨rfl,h⟩<;>omega
theorem noch_four_end {s:ByteArray} {p k:Nat} {v:Int}(h0:240≤byt s p∧byt s p<248) (h:Acc (byt s (p+1)) (byt s (p+2)) (byt s (p+3)) (byt s p-240) k v) (hk:k=4) (hb:v<65536∨mayB v=false):NoCh s p:=by
 have hb2:v<65536∨¬okRune v:=by
  rcases hb with h|h
  ·exact .inl h
  ·exact .inr (of_decide_eq_false h)
 intro u m hc
 unfold ChV cont at hc
 have e:u=v:=by unfold Acc at h;omega
 subst e
 rcases hb2 with h1|h1
 ·omega
 ·rcases hc with hc|hc|hc|hc
  ·omega
  ·exact h1 hc.2.2.2.2.2
  ·exact h1 hc.2.2.2.2.2.2
  ·exact h1 hc.2.2.2.2.2.2.2
theorem chv_four {s:ByteArray} {p k:Nat} {v:Int}(h0:240≤byt s p∧byt s p<248) (h:Acc (byt s (p+1)) (byt s (p+2)) (byt s (p+3)) (byt s p-240) k v) (hk:k=4) (hl:¬v<65536) (hm:mayB v=true):ChV s p v 4:=by
 have hm:=of_decide_eq_true hm
 subst hk
 unfold Acc at h
 unfold ChV cont
 exact .inr (.inr (.inr ⟨rfl,h0,by omega,by omega,by omega,by omega,by omega,hm⟩))
end Go.Hb
namespace Go.Proofs
open Go.RowKit Go.Hb
def CharXs (s:ByteArray) (p:Nat) (w:World) (e:Ending) (w':World):Prop:=∃v n:Int,e= .returned (.tuple #[.int .i64 v,.int .i64 n])∧CharX s p v n∧w'=w
theorem CharXs.none {s:ByteArray} {p:Nat} {w:World}(h:NoCh s p):CharXs s p w (.returned (.tuple #[.int .i64 0,.int .i64 0])) w:=⟨0,0,rfl,.inr ⟨rfl,rfl,h⟩,rfl⟩
theorem Tryz.charx_out (s:ByteArray) (p:Nat) (w:World) (h:s.size≤p):
 Calls Tryz.prog 29 #[.string s,.int .i64 p] w (CharXs s p w):=by
 have h':¬p<s.size:=by omega
 have h0:=byt_lo s p
 have h1:=byt_hi s p
 go_enter Tryz.func29,Tryz.ntmps29
 go_wp2_with (go_at_call 64;refine(Tryz.byteAt s p _).mono ?_;rintro e w' ⟨rfl,rfl⟩)
 go_ret2
 exact CharXs.none (noch_out h)
theorem Tryz.charx_low (s:ByteArray) (p:Nat) (w:World) (h:p<s.size) (hb:byt s p<128):
 Calls Tryz.prog 29 #[.string s,.int .i64 p] w (CharXs s p w):=by
 have h0:=byt_lo s p
 go_enter Tryz.func29,Tryz.ntmps29
 go_wp2_with (go_at_call 64;refine(Tryz.byteAt s p _).mono ?_;rintro e w' ⟨rfl,rfl⟩)
 go_ret2
 exact⟨_,_,rfl,.inl (chv_one h hb),rfl⟩
theorem Tryz.charx_odd (s:ByteArray) (p:Nat) (w:World) (h:p<s.size) (hb:(128≤byt s p∧byt s p<192)∨248≤byt s p):
 Calls Tryz.prog 29 #[.string s,.int .i64 p] w (CharXs s p w):=by
 have h0:=byt_hi s p
 have hn:=noch_odd hb
 have HN:=Hi hn
 clear hn
 rcases hb with⟨h1,h2⟩|h1
 all_goals
  go_enter Tryz.func29,Tryz.ntmps29
  go_wp2_with (go_at_call 64;refine(Tryz.byteAt s p _).mono ?_;rintro e w' ⟨rfl,rfl⟩)
  go_ret2
  exact CharXs.none HN.out
theorem Tryz.charx_two (s:ByteArray) (p:Nat) (w:World) (h:p<s.size) (hs:s.size≤4611686018427387904) (h1:192≤byt s p) (h2:byt s p<224):
 Calls Tryz.prog 29 #[.string s,.int .i64 p] w (CharXs s p w):=by
 have d1:decide (s.size≤p)=false:=dFo
 have d2:decide (byt s p<128)=false:=dFo
 go_enter Tryz.func29,Tryz.ntmps29
 go_wp2_with (go_at_call 64;refine(Tryz.byteAt s p _).mono ?_;rintro e w' ⟨rfl,rfl⟩)
 go_loop [8,10] (fun v i=>∃(k:Nat) (x:Int),k≤2∧i= .int .i64 k∧v= .int .i64 x∧Acc (byt s (p+1)) (byt s (p+2)) (byt s (p+3)) (byt s p-192) k x) (fun _ i=>2-(intOf i).toNat)
 case atStart=>exact⟨1,_,by omega,rfl,rfl,.inl ⟨rfl,rfl⟩⟩
 case round=>
  obtain⟨k,x,hk,rfl,rfl,ha⟩:=hrel
  obtain⟨b1,b2,b3,b4⟩:=ha.bound ⟨by omega,by omega⟩
  have y1:=byt_lo s (p+k)
  have y2:=byt_hi s (p+k)
  by_cases hlt:k<2
  ·go_wp2_with (go_at_call 64;refine(Tryz.byteAt_add s p k _).mono ?_;rintro e w' ⟨rfl,rfl⟩)
   all_goals first
    | (go_ret2;exact CharXs.none (noch_two ⟨h1,h2⟩ ha hlt (by omega)))
    | (go_round
       case rel=>exact⟨k+1,_,by omega,by go_num,rfl,ha.step (by omega) ⟨by omega,by omega⟩ ⟨by rintro rfl;rfl,by rintro rfl;rfl,by rintro rfl;rfl⟩⟩
       case measure=>simp[intOf];omega)
  ·have hk2:k=2:=by omega
   go_wp2_with (go_at_call 65;refine(Tryz.may x _).mono ?_;rintro e w' ⟨rfl,rfl⟩)
   all_goals first
    | (go_ret2;exact CharXs.none (noch_two_end ⟨h1,h2⟩ ha hk2 (by simp_all)))
    | (go_ret2;exact CharXs.none (noch_two_end ⟨h1,h2⟩ ha hk2 (.inl (by omega))))
    | (go_ret2;exact⟨_,_,rfl,.inl (chv_two ⟨h1,h2⟩ ha hk2 (by omega) (by simp_all)),rfl⟩)
theorem Tryz.charx_three (s:ByteArray) (p:Nat) (w:World) (h:p<s.size) (hs:s.size≤4611686018427387904) (h1:224≤byt s p) (h2:byt s p<240):
 Calls Tryz.prog 29 #[.string s,.int .i64 p] w (CharXs s p w):=by
 have d1:decide (s.size≤p)=false:=dFo
 have d2:decide (byt s p<128)=false:=dFo
 go_enter Tryz.func29,Tryz.ntmps29
 go_wp2_with (go_at_call 64;refine(Tryz.byteAt s p _).mono ?_;rintro e w' ⟨rfl,rfl⟩)
 go_loop [8,10] (fun v i=>∃(k:Nat) (x:Int),k≤3∧i= .int .i64 k∧v= .int .i64 x∧Acc (byt s (p+1)) (byt s (p+2)) (byt s (p+3)) (byt s p-224) k x) (fun _ i=>3-(intOf i).toNat)
 case atStart=>exact⟨1,_,by omega,rfl,rfl,.inl ⟨rfl,rfl⟩⟩
 case round=>
  obtain⟨k,x,hk,rfl,rfl,ha⟩:=hrel
  obtain⟨b1,b2,b3,b4⟩:=ha.bound ⟨by omega,by omega⟩
  have y1:=byt_lo s (p+k)
  have y2:=byt_hi s (p+k)
  by_cases hlt:k<3
  ·go_wp2_with (go_at_call 64;refine(Tryz.byteAt_add s p k _).mono ?_;rintro e w' ⟨rfl,rfl⟩)
   all_goals first
    | (go_ret2;exact CharXs.none (noch_three ⟨h1,h2⟩ ha hlt (by omega)))
    | (go_round
       case rel=>exact⟨k+1,_,by omega,by go_num,rfl,ha.step (by omega) ⟨by omega,by omega⟩ ⟨by rintro rfl;rfl,by rintro rfl;rfl,by rintro rfl;rfl⟩⟩
       case measure=>simp[intOf];omega)
  ·have hk2:k=3:=by omega
   go_wp2_with (go_at_call 65;refine(Tryz.may x _).mono ?_;rintro e w' ⟨rfl,rfl⟩)
   all_goals first
    | (go_ret2;exact CharXs.none (noch_three_end ⟨h1,h2⟩ ha hk2 (by simp_all)))
    | (go_ret2;exact CharXs.none (noch_three_end ⟨h1,h2⟩ ha hk2 (.inl (by omega))))
    | (go_ret2;exact⟨_,_,rfl,.inl (chv_three ⟨h1,h2⟩ ha hk2 (by omega) (by simp_all)),rfl⟩)
theorem Tryz.charx_four (s:ByteArray) (p:Nat) (w:World) (h:p<s.size) (hs:s.size≤4611686018427387904) (h1:240≤byt s p) (h2:byt s p<248):
 Calls Tryz.prog 29 #[.string s,.int .i64 p] w (CharXs s p w):=by
 have d1:decide (s.size≤p)=false:=dFo
 have d2:decide (byt s p<128)=false:=dFo
 go_enter Tryz.func29,Tryz.ntmps29
 go_wp2_with (go_at_call 64;refine(Tryz.byteAt s p _).mono ?_;rintro e w' ⟨rfl,rfl⟩)
 go_loop [8,10] (fun v i=>∃(k:Nat) (x:Int),k≤4∧i= .int .i64 k∧v= .int .i64 x∧Acc (byt s (p+1)) (byt s (p+2)) (byt s (p+3)) (byt s p-240) k x) (fun _ i=>4-(intOf i).toNat)
 case atStart=>exact⟨1,_,by omega,rfl,rfl,.inl ⟨rfl,rfl⟩⟩
 case round=>
  obtain⟨k,x,hk,rfl,rfl,ha⟩:=hrel
  obtain⟨b1,b2,b3,b4⟩:=ha.bound ⟨by omega,by omega⟩
  have y1:=byt_lo s (p+k)
  have y2:=byt_hi s (p+k)
  by_cases hlt:k<4
  ·go_wp2_with (go_at_call 64;refine(Tryz.byteAt_add s p k _).mono ?_;rintro e w' ⟨rfl,rfl⟩)
   all_goals first
    | (go_ret2;exact CharXs.none (noch_four ⟨h1,h2⟩ ha hlt (by omega)))
    | (go_round
       case rel=>exact⟨k+1,_,by omega,by go_num,rfl,ha.step (by omega) ⟨by omega,by omega⟩ ⟨by rintro rfl;rfl,by rintro rfl;rfl,by rintro rfl;rfl⟩⟩
       case measure=>simp[intOf];omega)
  ·have hk2:k=4:=by omega
   go_wp2_with (go_at_call 65;refine(Tryz.may x _).mono ?_;rintro e w' ⟨rfl,rfl⟩)
   all_goals first
    | (go_ret2;exact CharXs.none (noch_four_end ⟨h1,h2⟩ ha hk2 (by simp_all)))
    | (go_ret2;exact CharXs.none (noch_four_end ⟨h1,h2⟩ ha hk2 (.inl (by omega))))
    | (go_ret2;exact⟨_,_,rfl,.inl (chv_four ⟨h1,h2⟩ ha hk2 (by omega) (by simp_all)),rfl⟩)
theorem Tryz.charx (s:ByteArray) (p:Nat) (w:World) (hs:s.size≤4611686018427387904):Calls Tryz.prog 29 #[.string s,.int .i64 p] w (CharXs s p w):=by
 rcases Nat.lt_or_ge p s.size with h|h
 ·by_cases h1:byt s p<128
  ·exact Tryz.charx_low s p w h h1
  by_cases h2:byt s p<192
  ·exact Tryz.charx_odd s p w h (.inl ⟨by omega,h2⟩)
  by_cases h3:byt s p<224
  ·exact Tryz.charx_two s p w h hs (by omega) h3
  by_cases h4:byt s p<240
  ·exact Tryz.charx_three s p w h hs (by omega) h4
  by_cases h5:byt s p<248
  ·exact Tryz.charx_four s p w h hs (by omega) h5
  ·exact Tryz.charx_odd s p w h (.inr (by omega))
 ·exact Tryz.charx_out s p w h
end Go.Proofs
end
section
namespace Go.Hb
theorem ChV.size {s:ByteArray} {p:Nat} {v n:Int}(h:ChV s p v n):p<s.size∧1≤n∧n≤4:=by
 unfold ChV cont at h
 refine⟨?_,by omega,by omega⟩
 rcases h with h|h|h|h
 ·exact h.2.1
 all_goals exact lt_of_high s p (by omega)
theorem ChV.last {s:ByteArray} {p:Nat} {v:Int} {m:Nat}(h:ChV s p v m):p+m≤s.size:=by
 have h1:=h.size
 unfold ChV cont at h
 rcases h with h|h|h|h
 ·omega
 ·have:=lt_of_high s (p+1) (by omega)
  omega
 ·have:=lt_of_high s (p+2) (by omega)
  omega
 ·have:=lt_of_high s (p+3) (by omega)
  omega
theorem ChV.unique {s:ByteArray} {p:Nat} {v n v' n':Int}(h:ChV s p v n) (h':ChV s p v' n'):v=v'∧n=n':=by
 unfold ChV cont at h h'
 omega
inductive OddAt (s:ByteArray):Nat→Int→Prop
 |done {p:Nat} :s.size≤p→OddAt s p (-1)
 |bad {p:Nat} :p<s.size→NoCh s p→OddAt s p p
 |step {p m:Nat} {v r:Int} :ChV s p v m→OddAt s (p+m) r→OddAt s p r
theorem OddAt.ex (s:ByteArray):∀n p:Nat,s.size-p≤n→∃r,OddAt s p r:=by
 intro n
 induction n with
 |zero=>exact fun p h=>⟨_,.done (by omega)⟩
 |succ n ih=>
  intro p h
  rcases Nat.lt_or_ge p s.size with h1|h1
  ·rcases Classical.em (NoCh s p)with h2|h2
   ·exact⟨_,.bad h1 h2⟩
   ·have h3:∃v n,ChV s p v n:=by
     apply Classical.byContradiction
     intro h4
     exact h2 (fun v n hc=>h4 ⟨v,n,hc⟩)
    obtain⟨v,k,hc⟩:=h3
    have h5:=hc.size
    obtain⟨m,hm⟩:∃m:Nat,k=m:=⟨k.toNat,by omega⟩
    subst hm
    obtain⟨r,hr⟩:=ih (p+m) (by omega)
    exact⟨r,.step hc hr⟩
  ·exact⟨_,.done h1⟩
theorem OddAt.at_done {s:ByteArray} {p:Nat} {r:Int}(h:OddAt s p r) (hp:s.size≤p):r= -1:=by
 cases h with
 |done _=>rfl
 |bad h1 _=>omega
 |step hc _=>have:=hc.size;omega
theorem OddAt.at_bad {s:ByteArray} {p:Nat} {r:Int}(h:OddAt s p r) (hp:p<s.size) (hn:NoCh s p):r=p:=by
 cases h with
 |done h1=>omega
 |bad _ _=>rfl
 |step hc _=>exact absurd hc (hn _ _)
theorem OddAt.at_step {s:ByteArray} {p m:Nat} {v r:Int}(h:OddAt s p r) (hc:ChV s p v m):OddAt s (p+m) r:=by
 have h1:=hc.size
 cases h with
 |done h2=>omega
 |bad _ hn=>exact absurd hc (hn _ _)
 |step hc2 hr=>
  have h3:=(hc.unique hc2).2
  rename_i m2 v2
  have h4:m=m2:=by omega
  rw[h4]
  exact hr
theorem OddAt.unique {s:ByteArray} {p:Nat} {r r':Int}(h:OddAt s p r) (h':OddAt s p r'):r=r':=by
 induction h with
 |done h1=>exact(h'.at_done h1).symm
 |bad h1 h2=>exact(h'.at_bad h1 h2).symm
 |step hc _ ih=>exact ih (h'.at_step hc)
end Go.Hb
namespace Go.Proofs
open Go.RowKit Go.Hb
def OddEnd (R:Int) (w:World) (e:Ending) (w':World):Prop:=e= .returned (.int .i64 R)∧w=w'
theorem odd_ret {p q:Int} {w:World}(h:p=q):OddEnd q w (.returned (.int .i64 p)) w:=by subst h;exact⟨rfl,rfl⟩
theorem Tryz.roddx (s:ByteArray) (a t:Nat) (R:Int) (w:World) (hs:s.size≤140737488355328) (ht:t≤s.size) (ha:a≤t) (hR:Hid (OddAt (s.extract 0 t) a R)):
 Calls Tryz.prog 12 #[.string s,.int .i64 a,.int .i64 t] w (OddEnd R w):=by
 have hz:(s.extract 0 t).size=t:=by rw[ByteArray.size_extract];omega
 have HZ:=Hi hz
 clear hz
 have CC:Hid (∀(p:Nat) (w:World),Calls Tryz.prog 29 #[.string (s.extract 0 t),.int .i64 p] w (CharXs (s.extract 0 t) p w)):=Hi (fun p w=>Tryz.charx _ p w (by rw[HZ.out];omega))
 obtain⟨T,hT⟩:∃T,T=s.extract 0 t:=⟨_,rfl⟩
 rw[←hT]at HZ hR CC
 have eT:s.extract 0 t=T:=hT.symm
 clear hT
 go_enter Tryz.func12,Tryz.ntmps12
 go_wp2
 go_loop [1] (fun i=>∃p:Nat,i= .int .i64 p∧p≤t∧OddAt T p R) (fun i=>t-(intOf i).toNat)
 case atStart=>exact⟨a,rfl,ha,hR.out⟩
 case round=>
  obtain⟨p,rfl,hp,hd⟩:=hrel
  have HD:=Hi hd
  clear hd
  by_cases hlt:p<t
  ·go_wp2_with (go_at_call 29;(refine(CC.out p _).mono ?_))
   rintro e w' ⟨v,n,rfl,hc,rfl⟩
   rcases hc with hc|⟨rfl,rfl,hn⟩
   ·obtain⟨m,rfl⟩:∃m:Nat,n=m:=⟨n.toNat,by have:=hc.size;omega⟩
    have h1:=hc.size
    have h2:=hc.last
    rw[HZ.out]at h2
    have hm:((m:Int)==0)=false:=by rw[Bool.eq_false_iff];intro h;have:=eq_of_beq h;omega
    have m1:1≤m:=by omega
    have HN:=Hi (HD.out.at_step hc)
    clear hc h1
    go_wp2
    go_round
    case rel=>exact⟨p+m,by go_num,h2,HN.out⟩
    case measure=>simp[intOf];omega
   ·have HF:Hid (R=(p:Int)):=Hi (HD.out.at_bad (by rw[HZ.out];exact hlt) hn)
    clear hn
    go_wp2
    go_ret
    exact odd_ret HF.out.symm
  ·have HF:Hid (R= -1):=Hi (HD.out.at_done (by rw[HZ.out];omega))
   go_wp2
   go_ret
   exact odd_ret HF.out.symm
end Go.Proofs
end
section
namespace Go.Lx
open Go.Hb
def cmtN (s:ByteArray):Nat→Nat→Nat
 |0,a=>a
 |n+1,a=>if a+1<s.size then(if byt s a=42∧byt s (a+1)=47 then a else cmtN s n (a+1))else a
def cmtE (s:ByteArray) (a:Nat):Nat:=cmtN s (s.size-a) a
theorem cmtE_step {s:ByteArray} {a:Nat}(h:a+1<s.size) (hm:¬(byt s a=42∧byt s (a+1)=47)):cmtE s a=cmtE s (a+1):=by
 unfold cmtE
 obtain⟨n,hn⟩:∃n,s.size-a=n+1:=⟨s.size-a-1,by omega⟩
 rw[hn,show s.size-(a+1)=n by omega,cmtN,if_pos h,if_neg hm]
theorem cmtE_stop {s:ByteArray} {a:Nat}(h:a+1<s.size) (hm:byt s a=42∧byt s (a+1)=47):cmtE s a=a:=by
 unfold cmtE
 obtain⟨n,hn⟩:∃n,s.size-a=n+1:=⟨s.size-a-1,by omega⟩
 rw[hn,cmtN,if_pos h,if_pos hm]
theorem cmtE_end {s:ByteArray} {a:Nat}(h:s.size≤a+1):cmtE s a=a:=by
 unfold cmtE
 rcases Nat.eq_zero_or_pos (s.size-a)with h1|h1
 ·rw[h1];rfl
 ·obtain⟨n,hn⟩:∃n,s.size-a=n+1:=⟨s.size-a-1,by omega⟩
  rw[hn,cmtN,if_neg (by omega)]
theorem cmtE_ge (s:ByteArray) (a:Nat):a≤cmtE s a:=by
 unfold cmtE
 generalize s.size-a=n
 induction n generalizing a with
 |zero=>exact nR _
 |succ n ih=>
  unfold cmtN
  split
  ·split
   ·omega
   ·have:=ih (a+1);omega
  ·omega
inductive LayK where
 |stop
 |opn
 |upto (t:Nat)
def layTo (s:ByteArray) (p:Nat):LayK:=
 if blkB (byt s p).toNat then .upto (p+1)
 else if byt s p=37 then .upto (min (rowE (neB 10) s p+1) s.size)
 else if byt s p=47∧byt s (p+1)=42 then(if cmtE s (p+2)+1<s.size then .upto (cmtE s (p+2)+2)else .opn)
 else .stop
theorem layTo_bound {s:ByteArray} {p t:Nat}(hp:p<s.size) (h:layTo s p= .upto t):p<t∧t≤s.size:=by
 unfold layTo at h
 split at h
 ·cases h;omega
 ·split at h
  ·cases h
   have:=rowE_ge (neB 10) s p
   omega
  ·split at h
   ·split at h
    ·cases h
     have:=cmtE_ge s (p+2)
     omega
    ·cases h
   ·cases h
inductive Lay (s:ByteArray):Nat→Nat→Nat→Prop
 |done {p:Nat} :s.size≤p→Lay s p p 0
 |stop {p:Nat} :p<s.size→layTo s p= .stop→Lay s p p 0
 |opn {p:Nat} :p<s.size→layTo s p= .opn→Lay s p p 33
 |bad {p t r:Nat} :p<s.size→layTo s p= .upto t→OddAt (s.extract 0 t) p (r:Int)→Lay s p r 30
 |step {p t k e:Nat} :p<s.size→layTo s p= .upto t→OddAt (s.extract 0 t) p (-1)→Lay s t k e→Lay s p k e
theorem OddAt.cases_on {s:ByteArray} {p:Nat} {r:Int}(h:OddAt s p r):r= -1∨∃m:Nat,r=m:=by
 induction h with
 |done _=>exact .inl rfl
 |bad _ _=>exact .inr ⟨_,rfl⟩
 |step _ _ ih=>exact ih
theorem Lay.ex (s:ByteArray):∀n p:Nat,s.size-p≤n→∃k e,Lay s p k e:=by
 intro n
 induction n with
 |zero=>exact fun p h=>⟨_,_,.done (by omega)⟩
 |succ n ih=>
  intro p h
  rcases Nat.lt_or_ge p s.size with h1|h1
  ·cases h2:layTo s p with
   |stop=>exact⟨_,_,.stop h1 h2⟩
   |opn=>exact⟨_,_,.opn h1 h2⟩
   |upto t=>
    have h3:=layTo_bound h1 h2
    obtain⟨r,hr⟩:=OddAt.ex (s.extract 0 t) _ p (nR _)
    rcases OddAt.cases_on hr with rfl|⟨m,rfl⟩
    ·obtain⟨k,e,hk⟩:=ih t (by omega)
     exact⟨k,e,.step h1 h2 hr hk⟩
    ·exact⟨_,_,.bad h1 h2 hr⟩
  ·exact⟨_,_,.done h1⟩
theorem Lay.at_done {s:ByteArray} {p k e:Nat}(h:Lay s p k e) (hp:s.size≤p):k=p∧e=0:=by
 cases h with
 |done _=>exact⟨rfl,rfl⟩
 |stop h1 _=>omega
 |opn h1 _=>omega
 |bad h1 _ _=>omega
 |step h1 _ _ _=>omega
theorem Lay.at_stop {s:ByteArray} {p k e:Nat}(h:Lay s p k e) (hp:p<s.size) (hl:layTo s p= .stop):k=p∧e=0:=by
 cases h with
 |done h1=>omega
 |stop _ _=>exact⟨rfl,rfl⟩
 |opn _ h2=>rw[hl]at h2;cases h2
 |bad _ h2 _=>rw[hl]at h2;cases h2
 |step _ h2 _ _=>rw[hl]at h2;cases h2
theorem Lay.at_opn {s:ByteArray} {p k e:Nat}(h:Lay s p k e) (hp:p<s.size) (hl:layTo s p= .opn):k=p∧e=33:=by
 cases h with
 |done h1=>omega
 |stop _ h2=>rw[hl]at h2;cases h2
 |opn _ _=>exact⟨rfl,rfl⟩
 |bad _ h2 _=>rw[hl]at h2;cases h2
 |step _ h2 _ _=>rw[hl]at h2;cases h2
theorem Lay.at_bad {s:ByteArray} {p k e t r:Nat}(h:Lay s p k e) (hp:p<s.size) (hl:layTo s p= .upto t) (hr:OddAt (s.extract 0 t) p (r:Int)):k=r∧e=30:=by
 cases h with
 |done h1=>omega
 |stop _ h2=>rw[hl]at h2;cases h2
 |opn _ h2=>rw[hl]at h2;cases h2
 |bad _ h2 h3=>
  rw[hl]at h2;cases h2
  have:=hr.unique h3
  omega
 |step _ h2 h3 _=>
  rw[hl]at h2;cases h2
  have:=hr.unique h3
  omega
theorem Lay.at_step {s:ByteArray} {p k e t:Nat}(h:Lay s p k e) (hp:p<s.size) (hl:layTo s p= .upto t) (hr:OddAt (s.extract 0 t) p (-1)):Lay s t k e:=by
 cases h with
 |done h1=>omega
 |stop _ h2=>rw[hl]at h2;cases h2
 |opn _ h2=>rw[hl]at h2;cases h2
 |bad _ h2 h3=>
  rw[hl]at h2;cases h2
  have:=hr.unique h3
  omega
 |step _ h2 _ h4=>rw[hl]at h2;cases h2;exact h4
end Go.Lx
end
section
namespace Go.Lx
open Go.Hb Go.Rb
def valN (r:Nat) (s:ByteArray) (f:Nat):Nat→Nat
 |0=>0
 |k+1=>valN r s f k*r+dgv (byt s (f+k)).toNat
def satN (r C:Nat) (s:ByteArray) (f:Nat):Nat→Nat
 |0=>0
 |k+1=>min (satN r C s f k*r+dgv (byt s (f+k)).toNat) C
theorem satN_eq {r C:Nat}(hr:1≤r) (s:ByteArray) (f k:Nat):satN r C s f k=min (valN r s f k) C:=by
 induction k with
 |zero=>simp[satN,valN]
 |succ k ih=>
  rw[satN,valN,ih]
  rcases Nat.lt_or_ge C (valN r s f k)with h|h
  ·rw[Nat.min_eq_right (Nat.le_of_lt h)]
   have h1:C≤C*r:=Nat.le_mul_of_pos_right _ hr
   have h2:valN r s f k≤valN r s f k*r:=Nat.le_mul_of_pos_right _ hr
   omega
  ·rw[Nat.min_eq_left h]
def escL (c:Nat):Option Nat:=
 if c=97 then some 7 else if c=98 then some 8 else if c=102 then some 12 else if c=110 then some 10 else if c=114 then some 13 else if c=116 then some 9
 else if c=118 then some 11 else if c=92 then some 92 else if c=39 then some 39 else if c=34 then some 34 else if c=96 then some 96 else none
def escD (r:Nat) (p:Nat→Bool) (s:ByteArray) (f:Nat):Option (Nat×Nat):=
 if rowE p s f=f∨byt s (rowE p s f)≠92 then none
 else if okRune (valN r s f (rowE p s f-f):Nat)then some (valN r s f (rowE p s f-f),rowE p s f+1)else none
def escV (s:ByteArray) (p:Nat):Option (Nat×Nat):=
 match(if p+1<s.size then escL (byt s (p+1)).toNat else none)with
 |some v=>some (v,p+2)
 |none=>if byt s (p+1)=120 then escD 16 hexB s (p+2)else escD 8 octB s (p+1)
theorem sat_may {r:Nat}(hr:1≤r) (s:ByteArray) (f k:Nat):mayB (satN r 1073741824 s f k:Nat)=mayB (valN r s f k:Nat)∧(mayB (valN r s f k:Nat)=true→satN r 1073741824 s f k=valN r s f k):=by
 have h:=satN_eq (C:=1073741824) hr s f k
 constructor
 ·unfold mayB okRune
  exact decide_eq_decide.2 (by omega)
 ·intro hm
  have:=of_decide_eq_true hm
  unfold okRune at this
  omega
end Go.Lx
end
section
namespace Go.Proofs
open Go.RowKit Go.Pf Go.Lx
def tokV (k:Int) (tx nu:ByteArray) (bits:Int) (at_ en:Int) (ly:Bool):Value:= .agg #[.int .i64 k,.string tx,.string nu,.int .u64 bits,.int .i64 at_,.int .i64 en,.bool ly]
def badV (at_:Int):Value:=tokV 0 ⟨#[]⟩ ⟨#[]⟩ 0 at_ at_ false
def BadEnd (p n:Int) (w:World) (e:Ending) (w':World):Prop:=e= .returned (.tuple #[badV p,.int .i64 n])∧Below w.heap.size w w'
theorem Tryz.pwrong (p n:Int) (w:World):Calls Tryz.prog 30 #[.int .i64 p,.int .i64 n] w (BadEnd p n w):=by
 go_enter Tryz.func30,Tryz.ntmps30
 go_wp2
 refine bodyPost_ret (v:= .tuple #[badV p,.int .i64 n]) ?_ rfl ⟨rfl,?_⟩
 ·simp only[results,Tryz.results30]
  go_simp
  rfl
 ·repeat (first|exact(Below.refl _ _).alloc (nR _) _|refine Below.setCell ?_ (by simp only;omega) _)
end Go.Proofs
end
section
namespace Go.Lx
open Go.Hb Go.Rb
theorem rowE_all {p:Nat→Bool} {s:ByteArray} {a:Nat} :∀j (h:j<s.size),a≤j→j<rowE p s a→p s[j].toNat=true:=by
 unfold rowE
 generalize s.size-a=n
 induction n generalizing a with
 |zero=>intro j h h1 h2;simp only[rowN]at h2;omega
 |succ n ih=>
  intro j h h1 h2
  unfold rowN at h2
  split at h2
  ·rename_i ha
   split at h2
   ·rename_i hp
    rcases Nat.eq_or_lt_of_le h1 with h3|h3
    ·subst h3;exact hp
    ·exact ih j h h3 h2
   ·omega
  ·omega
theorem rowE_after {p:Nat→Bool} {s:ByteArray} {a:Nat} :∀(h:rowE p s a<s.size),p s[rowE p s a].toNat=false:=by
 have key:∀n a,s.size-a≤n→∀(h:rowE p s a<s.size),p s[rowE p s a].toNat=false:=by
  intro n
  induction n with
  |zero=>
   intro a hn h
   have:=rowE_ge p s a
   omega
  |succ n ih=>
   intro a hn h
   by_cases ha:a<s.size
   ·by_cases hp:p s[a].toNat=true
    ·have e:=rowE_step ha hp
     have h2:rowE p s (a+1)<s.size:=by rw[←e];exact h
     have h3:=ih (a+1) (by omega) h2
     simpa[e]using h3
    ·rw[Bool.not_eq_true]at hp
     have e:=rowE_stop ha hp
     simpa[e]using hp
   ·have:=rowE_ge p s a
    omega
 exact key _ a (nR _)
end Go.Lx
namespace Go.Proofs
open Go.RowKit Go.Pf Go.Lx Go.Hb Go.Rb
theorem octB_hex {c:Nat}(h:octB c=true):hexB c=true:=by
 simp[octB,hexB,digB]at h⊢;omega
theorem hexB_lt {c:Nat}(h:hexB c=true):dgv c≤15:=by
 simp[hexB,digB]at h
 unfold dgv
 split
 ·omega
 ·split
  ·omega
  ·split
   ·omega
   ·omega
structure EscF (r:Nat) (s:ByteArray) (f T:Nat) (V:Nat→Nat) (R:Option (Nat×Nat)):Prop where
 no:T=f∨byt s T≠92→R=none
 nomay:¬(T=f∨byt s T≠92)→mayB (V T)=false→R=none
 may:¬(T=f∨byt s T≠92)→mayB (V T)=true→R=some (V T,T+1)
 zero:V f=0
 dig:∀i (h:i<s.size),f≤i→i<T→hexB s[i].toNat=true
 step:∀i (h:i<s.size),f≤i→i<T→min ((V i:Int)*(r:Int)+(dgv s[i].toNat:Nat)) 1073741824=(V (i+1):Nat)
 le:∀i,f≤i→V i≤1073741824
theorem EscF.of {r:Nat} {p:Nat→Bool} {s:ByteArray} {f:Nat} {R:Option (Nat×Nat)}(hr:1≤r) (hp:∀c,p c=true→hexB c=true) (h:R=escD r p s f):
 EscF r s f (rowE p s f) (fun i=>satN r 1073741824 s f (i-f)) R:=by
 obtain⟨T,hT⟩:∃T,T=rowE p s f:=⟨_,rfl⟩
 have hge:=rowE_ge p s f
 have hall:= @rowE_all p s f
 unfold escD at h
 rw[←hT]at h hge hall⊢
 have hm:=sat_may hr s f (T-f)
 refine⟨fun h1=>by rw[h,if_pos h1],fun h1 h2=> ?_,fun h1 h2=> ?_,?_,fun i hi h1 h2=>hp _ (hall i hi h1 h2),fun i hi h1 h2=> ?_,fun i h1=> ?_⟩
 ·rw[h,if_neg h1]
  try simp only at h2
  rw[hm.1]at h2
  rw[if_neg (of_decide_eq_false h2)]
 ·rw[h,if_neg h1]
  try simp only at h2
  have h3:=h2
  rw[hm.1]at h3
  rw[if_pos (of_decide_eq_true h3)]
  try simp only
  rw[hm.2 h3]
 ·simp[satN]
 ·try simp only
  rw[show i+1-f=(i-f)+1 by omega,satN]
  have e:f+(i-f)=i:=by omega
  rw[e,byt_in s i hi,Int.toNat_natCast]
  rw[←Int.natCast_mul,←Int.natCast_add]
  omega
 ·try simp only
  cases i-f with
  |zero=>simp[satN]
  |succ n=>rw[satN];exact Nat.min_le_right _ _
end Go.Proofs
end
