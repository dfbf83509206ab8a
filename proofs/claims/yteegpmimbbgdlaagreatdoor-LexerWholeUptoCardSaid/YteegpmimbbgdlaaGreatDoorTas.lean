import Derived.Test.YteegpmimbbgdlaaGreatDoorTak
import Derived.Test.YteegpmimbbgdlaaGreatDoorTar
import Derived.Test.YteegpmimbbgdlaaGreatDoorTaa
set_option maxRecDepth 1000000
set_option maxHeartbeats 40000000
section
namespace Go.Hb
def cont (b:Int):Prop:=128≤b∧b<192
def ChV (s:ByteArray) (p:Nat) (v:Int) (n:Int):Prop:=
 (n=1∧p<s.size∧byt s p<128∧v=byt s p)∨
 (n=2∧(192≤byt s p∧byt s p<224)∧cont (byt s (p+1))∧v=(byt s p-192)*64+byt s (p+1)-128∧128≤v∧okRune v)∨
 (n=3∧(224≤byt s p∧byt s p<240)∧cont (byt s (p+1))∧cont (byt s (p+2))∧v=((byt s p-224)*64+byt s (p+1)-128)*64+byt s (p+2)-128∧2048≤v∧okRune v)∨
 (n=4∧(240≤byt s p∧byt s p<248)∧cont (byt s (p+1))∧cont (byt s (p+2))∧cont (byt s (p+3))∧v=(((byt s p-240)*64+byt s (p+1)-128)*64+byt s (p+2)-128)*64+byt s (p+3)-128∧65536≤v∧okRune v)
def NoCh (s:ByteArray) (p:Nat):Prop:=∀v n,¬ChV s p v n
def CharX (s:ByteArray) (p:Nat) (v n:Int):Prop:=ChV s p v n∨(n=0∧v=0∧NoCh s p)
theorem noch_out {s:ByteArray} {p:Nat}(h:s.size≤p):NoCh s p:=by
 intro v n hc
 have:=byt_out s p h
 unfold ChV at hc
 omega
theorem noch_odd {s:ByteArray} {p:Nat}(h:(128≤byt s p∧byt s p<192)∨248≤byt s p):NoCh s p:=by
 intro v n hc
 unfold ChV at hc
 omega
theorem chv_one {s:ByteArray} {p:Nat}(h:p<s.size) (h1:byt s p<128):ChV s p (byt s p) 1:= .inl ⟨rfl,h,h1,rfl⟩
theorem noch_two {s:ByteArray} {p k:Nat} {v:Int}(h0:192≤byt s p∧byt s p<224) (h:Acc (byt s (p+1)) (byt s (p+2)) (byt s (p+3)) (byt s p-192) k v) (hk:k<2) (hb:byt s (p+k)<128∨192≤byt s (p+k)):NoCh s p:=by
 intro u m hc
 unfold ChV cont at hc
 rcases h with⟨rfl,h⟩|⟨rfl,h⟩|⟨rfl,h⟩|⟨rfl,h⟩<;>omega
theorem noch_two_end {s:ByteArray} {p k:Nat} {v:Int}(h0:192≤byt s p∧byt s p<224) (h:Acc (byt s (p+1)) (byt s (p+2)) (byt s (p+3)) (byt s p-192) k v) (hk:k=2) (hb:v<128∨mayB v=false):NoCh s p:=by
 have hb2:v<128∨¬okRune v:=by
  rcases hb with h|h
  ·exact .inl h
  ·exact .inr (of_decide_eq_false h)
 intro u m hc
 unfold ChV cont at hc
 have e:u=v:=by unfold Acc at h;omega
 subst e
 rcases hb2 with h1|h1
 ·omega
 ·rcases hc with hc|hc|hc|hc
  ·omega
  ·exact h1 hc.2.2.2.2.2
  ·exact h1 hc.2.2.2.2.2.2
  ·exact h1 hc.2.2.2.2.2.2.2
theorem chv_two {s:ByteArray} {p k:Nat} {v:Int}(h0:192≤byt s p∧byt s p<224) (h:Acc (byt s (p+1)) (byt s (p+2)) (byt s (p+3)) (byt s p-192) k v) (hk:k=2) (hl:¬v<128) (hm:mayB v=true):ChV s p v 2:=by
 have hm:=of_decide_eq_true hm
 subst hk
 unfold Acc at h
 unfold ChV cont
 exact .inr (.inl ⟨rfl,h0,by omega,by omega,by omega,hm⟩)
theorem noch_three {s:ByteArray} {p k:Nat} {v:Int}(h0:224≤byt s p∧byt s p<240) (h:Acc (byt s (p+1)) (byt s (p+2)) (byt s (p+3)) (byt s p-224) k v) (hk:k<3) (hb:byt s (p+k)<128∨192≤byt s (p+k)):NoCh s p:=by
 intro u m hc
 unfold ChV cont at hc
 rcases h with⟨rfl,h⟩|⟨rfl,h⟩|⟨rfl,h⟩|⟨rfl,h⟩<;>omega
theorem noch_three_end {s:ByteArray} {p k:Nat} {v:Int}(h0:224≤byt s p∧byt s p<240) (h:Acc (byt s (p+1)) (byt s (p+2)) (byt s (p+3)) (byt s p-224) k v) (hk:k=3) (hb:v<2048∨mayB v=false):NoCh s p:=by
 have hb2:v<2048∨¬okRune v:=by
  rcases hb with h|h
  ·exact .inl h
  ·exact .inr (of_decide_eq_false h)
 intro u m hc
 unfold ChV cont at hc
 have e:u=v:=by unfold Acc at h;omega
 subst e
 rcases hb2 with h1|h1
 ·omega
 ·rcases hc with hc|hc|hc|hc
  ·omega
  ·exact h1 hc.2.2.2.2.2
  ·exact h1 hc.2.2.2.2.2.2
  ·exact h1 hc.2.2.2.2.2.2.2
theorem chv_three {s:ByteArray} {p k:Nat} {v:Int}(h0:224≤byt s p∧byt s p<240) (h:Acc (byt s (p+1)) (byt s (p+2)) (byt s (p+3)) (byt s p-224) k v) (hk:k=3) (hl:¬v<2048) (hm:mayB v=true):ChV s p v 3:=by
 have hm:=of_decide_eq_true hm
 subst hk
 unfold Acc at h
 unfold ChV cont
 exact .inr (.inr (.inl ⟨rfl,h0,by omega,by omega,by omega,by omega,hm⟩))
theorem noch_four {s:ByteArray} {p k:Nat} {v:Int}(h0:240≤byt s p∧byt s p<248) (h:Acc (byt s (p+1)) (byt s (p+2)) (byt s (p+3)) (byt s p-240) k v) (hk:k<4) (hb:byt s (p+k)<128∨192≤byt s (p+k)):NoCh s p:=by
 intro u m hc
 unfold ChV cont at hc
 rcases h with⟨rfl,h⟩|⟨rfl,h⟩|⟨rfl,h⟩|⟨rfl,h⟩<;>omega
theorem noch_four_end {s:ByteArray} {p k:Nat} {v:Int}(h0:240≤byt s p∧byt s p<248) (h:Acc (byt s (p+1)) (byt s (p+2)) (byt s (p+3)) (byt s p-240) k v) (hk:k=4) (hb:v<65536∨mayB v=false):NoCh s p:=by
 have hb2:v<65536∨¬okRune v:=by
  rcases hb with h|h
  ·exact .inl h
  ·exact .inr (of_decide_eq_false h)
 intro u m hc
 unfold ChV cont at hc
 have e:u=v:=by unfold Acc at h;omega
 subst e
 rcases hb2 with h1|h1
 ·omega
 ·rcases hc with hc|hc|hc|hc
  ·omega
  ·exact h1 hc.2.2.2.2.2
  ·exact h1 hc.2.2.2.2.2.2
  ·exact h1 hc.2.2.2.2.2.2.2
theorem chv_four {s:ByteArray} {p k:Nat} {v:Int}(h0:240≤byt s p∧byt s p<248) (h:Acc (byt s (p+1)) (byt s (p+2)) (byt s (p+3)) (byt s p-240) k v) (hk:k=4) (hl:¬v<65536) (hm:mayB v=true):ChV s p v 4:=by
 have hm:=of_decide_eq_true hm
 subst hk
 unfold Acc at h
 unfold ChV cont
 exact .inr (.inr (.inr ⟨rfl,h0,by omega,by omega,by omega,by omega,by omega,hm⟩))
end Go.Hb
namespace Go.Proofs
open Go.RowKit Go.Hb
def CharXs (s:ByteArray) (p:Nat) (w:World) (e:Ending) (w':World):Prop:=∃v n:Int,e= .returned (.tuple #[.int .i64 v,.int .i64 n])∧CharX s p v n∧w'=w
theorem CharXs.none {s:ByteArray} {p:Nat} {w:World}(h:NoCh s p):CharXs s p w (.returned (.tuple #[.int .i64 0,.int .i64 0])) w:=⟨0,0,rfl,.inr ⟨rfl,rfl,h⟩,rfl⟩
theorem Tryz.charx_out (s:ByteArray) (p:Nat) (w:World) (h:s.size≤p):
 Calls Tryz.prog 32 #[.string s,.int .i64 p] w (CharXs s p w):=by
 have h':¬p<s.size:=by omega
 have h0:=byt_lo s p
 have h1:=byt_hi s p
 go_enter Tryz.func32,Tryz.ntmps32
 go_wp2_with (go_at_call 55;refine(Tryz.byteAt s p _).mono ?_;rintro e w' ⟨rfl,rfl⟩)
 go_ret2
 exact CharXs.none (noch_out h)
theorem Tryz.charx_low (s:ByteArray) (p:Nat) (w:World) (h:p<s.size) (hb:byt s p<128):
 Calls Tryz.prog 32 #[.string s,.int .i64 p] w (CharXs s p w):=by
 have h0:=byt_lo s p
 go_enter Tryz.func32,Tryz.ntmps32
 go_wp2_with (go_at_call 55;refine(Tryz.byteAt s p _).mono ?_;rintro e w' ⟨rfl,rfl⟩)
 go_ret2
 exact⟨_,_,rfl,.inl (chv_one h hb),rfl⟩
theorem Tryz.charx_odd (s:ByteArray) (p:Nat) (w:World) (h:p<s.size) (hb:(128≤byt s p∧byt s p<192)∨248≤byt s p):
 Calls Tryz.prog 32 #[.string s,.int .i64 p] w (CharXs s p w):=by
 have h0:=byt_hi s p
 have hn:=noch_odd hb
 have HN:=Hi hn
 clear hn
 rcases hb with⟨h1,h2⟩|h1
 all_goals
  go_enter Tryz.func32,Tryz.ntmps32
  go_wp2_with (go_at_call 55;refine(Tryz.byteAt s p _).mono ?_;rintro e w' ⟨rfl,rfl⟩)
  go_ret2
  exact CharXs.none HN.out
theorem Tryz.charx_two (s:ByteArray) (p:Nat) (w:World) (h:p<s.size) (hs:s.size≤4611686018427387904) (h1:192≤byt s p) (h2:byt s p<224):
 Calls Tryz.prog 32 #[.string s,.int .i64 p] w (CharXs s p w):=by
 have d1:decide (s.size≤p)=false:=dFo
 have d2:decide (byt s p<128)=false:=dFo
 go_enter Tryz.func32,Tryz.ntmps32
 go_wp2_with (go_at_call 55;refine(Tryz.byteAt s p _).mono ?_;rintro e w' ⟨rfl,rfl⟩)
 go_loop [8,10] (fun v i=>∃(k:Nat) (x:Int),k≤2∧i= .int .i64 k∧v= .int .i64 x∧Acc (byt s (p+1)) (byt s (p+2)) (byt s (p+3)) (byt s p-192) k x) (fun _ i=>2-(intOf i).toNat)
 case atStart=>exact⟨1,_,by omega,rfl,rfl,.inl ⟨rfl,rfl⟩⟩
 case round=>
  obtain⟨k,x,hk,rfl,rfl,ha⟩:=hrel
  obtain⟨b1,b2,b3,b4⟩:=ha.bound ⟨by omega,by omega⟩
  have y1:=byt_lo s (p+k)
  have y2:=byt_hi s (p+k)
  by_cases hlt:k<2
  ·go_wp2_with (go_at_call 55;refine(Tryz.byteAt_add s p k _).mono ?_;rintro e w' ⟨rfl,rfl⟩)
   all_goals first
    | (go_ret2;exact CharXs.none (noch_two ⟨h1,h2⟩ ha hlt (by omega)))
    | (go_round
       case rel=>exact⟨k+1,_,by omega,by go_num,rfl,ha.step (by omega) ⟨by omega,by omega⟩ ⟨by rintro rfl;rfl,by rintro rfl;rfl,by rintro rfl;rfl⟩⟩
       case measure=>simp[intOf];omega)
  ·have hk2:k=2:=by omega
   go_wp2_with (go_at_call 22;refine(Tryz.may x _).mono ?_;rintro e w' ⟨rfl,rfl⟩)
   all_goals first
    | (go_ret2;exact CharXs.none (noch_two_end ⟨h1,h2⟩ ha hk2 (by simp_all)))
    | (go_ret2;exact CharXs.none (noch_two_end ⟨h1,h2⟩ ha hk2 (.inl (by omega))))
    | (go_ret2;exact⟨_,_,rfl,.inl (chv_two ⟨h1,h2⟩ ha hk2 (by omega) (by simp_all)),rfl⟩)
theorem Tryz.charx_three (s:ByteArray) (p:Nat) (w:World) (h:p<s.size) (hs:s.size≤4611686018427387904) (h1:224≤byt s p) (h2:byt s p<240):
 Calls Tryz.prog 32 #[.string s,.int .i64 p] w (CharXs s p w):=by
 have d1:decide (s.size≤p)=false:=dFo
 have d2:decide (byt s p<128)=false:=dFo
 go_enter Tryz.func32,Tryz.ntmps32
 go_wp2_with (go_at_call 55;refine(Tryz.byteAt s p _).mono ?_;rintro e w' ⟨rfl,rfl⟩)
 go_loop [8,10] (fun v i=>∃(k:Nat) (x:Int),k≤3∧i= .int .i64 k∧v= .int .i64 x∧Acc (byt s (p+1)) (byt s (p+2)) (byt s (p+3)) (byt s p-224) k x) (fun _ i=>3-(intOf i).toNat)
 case atStart=>exact⟨1,_,by omega,rfl,rfl,.inl ⟨rfl,rfl⟩⟩
 case round=>
  obtain⟨k,x,hk,rfl,rfl,ha⟩:=hrel
  obtain⟨b1,b2,b3,b4⟩:=ha.bound ⟨by omega,by omega⟩
  have y1:=byt_lo s (p+k)
  have y2:=byt_hi s (p+k)
  by_cases hlt:k<3
  ·go_wp2_with (go_at_call 55;refine(Tryz.byteAt_add s p k _).mono ?_;rintro e w' ⟨rfl,rfl⟩)
   all_goals first
    | (go_ret2;exact CharXs.none (noch_three ⟨h1,h2⟩ ha hlt (by omega)))
    | (go_round
       case rel=>exact⟨k+1,_,by omega,by go_num,rfl,ha.step (by omega) ⟨by omega,by omega⟩ ⟨by rintro rfl;rfl,by rintro rfl;rfl,by rintro rfl;rfl⟩⟩
       case measure=>simp[intOf];omega)
  ·have hk2:k=3:=by omega
   go_wp2_with (go_at_call 22;refine(Tryz.may x _).mono ?_;rintro e w' ⟨rfl,rfl⟩)
   all_goals first
    | (go_ret2;exact CharXs.none (noch_three_end ⟨h1,h2⟩ ha hk2 (by simp_all)))
    | (go_ret2;exact CharXs.none (noch_three_end ⟨h1,h2⟩ ha hk2 (.inl (by omega))))
    | (go_ret2;exact⟨_,_,rfl,.inl (chv_three ⟨h1,h2⟩ ha hk2 (by omega) (by simp_all)),rfl⟩)
theorem Tryz.charx_four (s:ByteArray) (p:Nat) (w:World) (h:p<s.size) (hs:s.size≤4611686018427387904) (h1:240≤byt s p) (h2:byt s p<248):
 Calls Tryz.prog 32 #[.string s,.int .i64 p] w (CharXs s p w):=by
 have d1:decide (s.size≤p)=false:=dFo
 have d2:decide (byt s p<128)=false:=dFo
 go_enter Tryz.func32,Tryz.ntmps32
 go_wp2_with (go_at_call 55;refine(Tryz.byteAt s p _).mono ?_;rintro e w' ⟨rfl,rfl⟩)
 go_loop [8,10] (fun v i=>∃(k:Nat) (x:Int),k≤4∧i= .int .i64 k∧v= .int .i64 x∧Acc (byt s (p+1)) (byt s (p+2)) (byt s (p+3)) (byt s p-240) k x) (fun _ i=>4-(intOf i).toNat)
 case atStart=>exact⟨1,_,by omega,rfl,rfl,.inl ⟨rfl,rfl⟩⟩
 case round=>
  obtain⟨k,x,hk,rfl,rfl,ha⟩:=hrel
  obtain⟨b1,b2,b3,b4⟩:=ha.bound ⟨by omega,by omega⟩
  have y1:=byt_lo s (p+k)
  have y2:=byt_hi s (p+k)
  by_cases hlt:k<4
  ·go_wp2_with (go_at_call 55;refine(Tryz.byteAt_add s p k _).mono ?_;rintro e w' ⟨rfl,rfl⟩)
   all_goals first
    | (go_ret2;exact CharXs.none (noch_four ⟨h1,h2⟩ ha hlt (by omega)))
    | (go_round
       case rel=>exact⟨k+1,_,by omega,by go_num,rfl,ha.step (by omega) ⟨by omega,by omega⟩ ⟨by rintro rfl;rfl,by rintro rfl;rfl,by rintro rfl;rfl⟩⟩
       case measure=>simp[intOf];omega)
  ·have hk2:k=4:=by omega
   go_wp2_with (go_at_call 22;refine(Tryz.may x _).mono ?_;rintro e w' ⟨rfl,rfl⟩)
   all_goals first
    | (go_ret2;exact CharXs.none (noch_four_end ⟨h1,h2⟩ ha hk2 (by simp_all)))
    | (go_ret2;exact CharXs.none (noch_four_end ⟨h1,h2⟩ ha hk2 (.inl (by omega))))
    | (go_ret2;exact⟨_,_,rfl,.inl (chv_four ⟨h1,h2⟩ ha hk2 (by omega) (by simp_all)),rfl⟩)
theorem Tryz.charx (s:ByteArray) (p:Nat) (w:World) (hs:s.size≤4611686018427387904):Calls Tryz.prog 32 #[.string s,.int .i64 p] w (CharXs s p w):=by
 rcases Nat.lt_or_ge p s.size with h|h
 ·by_cases h1:byt s p<128
  ·exact Tryz.charx_low s p w h h1
  by_cases h2:byt s p<192
  ·exact Tryz.charx_odd s p w h (.inl ⟨by omega,h2⟩)
  by_cases h3:byt s p<224
  ·exact Tryz.charx_two s p w h hs (by omega) h3
  by_cases h4:byt s p<240
  ·exact Tryz.charx_three s p w h hs (by omega) h4
  by_cases h5:byt s p<248
  ·exact Tryz.charx_four s p w h hs (by omega) h5
  ·exact Tryz.charx_odd s p w h (.inr (by omega))
 ·exact Tryz.charx_out s p w h
end Go.Proofs
end
section
namespace Go.Hb
theorem ChV.size {s:ByteArray} {p:Nat} {v n:Int}(h:ChV s p v n):p<s.size∧1≤n∧n≤4:=by
 unfold ChV cont at h
 refine⟨?_,by omega,by omega⟩
 rcases h with h|h|h|h
 ·exact h.2.1
 all_goals exact lt_of_high s p (by omega)
theorem ChV.last {s:ByteArray} {p:Nat} {v:Int} {m:Nat}(h:ChV s p v m):p+m≤s.size:=by
 have h1:=h.size
 unfold ChV cont at h
 rcases h with h|h|h|h
 ·omega
 ·have:=lt_of_high s (p+1) (by omega)
  omega
 ·have:=lt_of_high s (p+2) (by omega)
  omega
 ·have:=lt_of_high s (p+3) (by omega)
  omega
theorem ChV.unique {s:ByteArray} {p:Nat} {v n v' n':Int}(h:ChV s p v n) (h':ChV s p v' n'):v=v'∧n=n':=by
 unfold ChV cont at h h'
 omega
inductive OddAt (s:ByteArray):Nat→Int→Prop
 |done {p:Nat} :s.size≤p→OddAt s p (-1)
 |bad {p:Nat} :p<s.size→NoCh s p→OddAt s p p
 |step {p m:Nat} {v r:Int} :ChV s p v m→OddAt s (p+m) r→OddAt s p r
theorem OddAt.ex (s:ByteArray):∀n p:Nat,s.size-p≤n→∃r,OddAt s p r:=by
 intro n
 induction n with
 |zero=>exact fun p h=>⟨_,.done (by omega)⟩
 |succ n ih=>
  intro p h
  rcases Nat.lt_or_ge p s.size with h1|h1
  ·rcases Classical.em (NoCh s p)with h2|h2
   ·exact⟨_,.bad h1 h2⟩
   ·have h3:∃v n,ChV s p v n:=by
     apply Classical.byContradiction
     intro h4
     exact h2 (fun v n hc=>h4 ⟨v,n,hc⟩)
    obtain⟨v,k,hc⟩:=h3
    have h5:=hc.size
    obtain⟨m,hm⟩:∃m:Nat,k=m:=⟨k.toNat,by omega⟩
    subst hm
    obtain⟨r,hr⟩:=ih (p+m) (by omega)
    exact⟨r,.step hc hr⟩
  ·exact⟨_,.done h1⟩
theorem OddAt.at_done {s:ByteArray} {p:Nat} {r:Int}(h:OddAt s p r) (hp:s.size≤p):r= -1:=by
 cases h with
 |done _=>rfl
 |bad h1 _=>omega
 |step hc _=>have:=hc.size;omega
theorem OddAt.at_bad {s:ByteArray} {p:Nat} {r:Int}(h:OddAt s p r) (hp:p<s.size) (hn:NoCh s p):r=p:=by
 cases h with
 |done h1=>omega
 |bad _ _=>rfl
 |step hc _=>exact absurd hc (hn _ _)
theorem OddAt.at_step {s:ByteArray} {p m:Nat} {v r:Int}(h:OddAt s p r) (hc:ChV s p v m):OddAt s (p+m) r:=by
 have h1:=hc.size
 cases h with
 |done h2=>omega
 |bad _ hn=>exact absurd hc (hn _ _)
 |step hc2 hr=>
  have h3:=(hc.unique hc2).2
  rename_i m2 v2
  have h4:m=m2:=by omega
  rw[h4]
  exact hr
theorem OddAt.unique {s:ByteArray} {p:Nat} {r r':Int}(h:OddAt s p r) (h':OddAt s p r'):r=r':=by
 induction h with
 |done h1=>exact(h'.at_done h1).symm
 |bad h1 h2=>exact(h'.at_bad h1 h2).symm
 |step hc _ ih=>exact ih (h'.at_step hc)
end Go.Hb
namespace Go.Proofs
open Go.RowKit Go.Hb
def OddEnd (R:Int) (w:World) (e:Ending) (w':World):Prop:=e= .returned (.int .i64 R)∧w=w'
theorem odd_ret {p q:Int} {w:World}(h:p=q):OddEnd q w (.returned (.int .i64 p)) w:=by subst h;exact⟨rfl,rfl⟩
theorem Tryz.roddx (s:ByteArray) (a t:Nat) (R:Int) (w:World) (hs:s.size≤140737488355328) (ht:t≤s.size) (ha:a≤t) (hR:Hid (OddAt (s.extract 0 t) a R)):
 Calls Tryz.prog 18 #[.string s,.int .i64 a,.int .i64 t] w (OddEnd R w):=by
 have hz:(s.extract 0 t).size=t:=by rw[ByteArray.size_extract];omega
 have HZ:=Hi hz
 clear hz
 have CC:Hid (∀(p:Nat) (w:World),Calls Tryz.prog 32 #[.string (s.extract 0 t),.int .i64 p] w (CharXs (s.extract 0 t) p w)):=Hi (fun p w=>Tryz.charx _ p w (by rw[HZ.out];omega))
 obtain⟨T,hT⟩:∃T,T=s.extract 0 t:=⟨_,rfl⟩
 rw[←hT]at HZ hR CC
 have eT:s.extract 0 t=T:=hT.symm
 clear hT
 go_enter Tryz.func18,Tryz.ntmps18
 go_wp2
 go_loop [1] (fun i=>∃p:Nat,i= .int .i64 p∧p≤t∧OddAt T p R) (fun i=>t-(intOf i).toNat)
 case atStart=>exact⟨a,rfl,ha,hR.out⟩
 case round=>
  obtain⟨p,rfl,hp,hd⟩:=hrel
  have HD:=Hi hd
  clear hd
  by_cases hlt:p<t
  ·go_wp2_with (go_at_call 32;(refine(CC.out p _).mono ?_))
   rintro e w' ⟨v,n,rfl,hc,rfl⟩
   rcases hc with hc|⟨rfl,rfl,hn⟩
   ·obtain⟨m,rfl⟩:∃m:Nat,n=m:=⟨n.toNat,by have:=hc.size;omega⟩
    have h1:=hc.size
    have h2:=hc.last
    rw[HZ.out]at h2
    have hm:((m:Int)==0)=false:=by rw[Bool.eq_false_iff];intro h;have:=eq_of_beq h;omega
    have m1:1≤m:=by omega
    have HN:=Hi (HD.out.at_step hc)
    clear hc h1
    go_wp2
    go_round
    case rel=>exact⟨p+m,by go_num,h2,HN.out⟩
    case measure=>simp[intOf];omega
   ·have HF:Hid (R=(p:Int)):=Hi (HD.out.at_bad (by rw[HZ.out];exact hlt) hn)
    clear hn
    go_wp2
    go_ret
    exact odd_ret HF.out.symm
  ·have HF:Hid (R= -1):=Hi (HD.out.at_done (by rw[HZ.out];omega))
   go_wp2
   go_ret
   exact odd_ret HF.out.symm
end Go.Proofs
end
section
namespace Go.Lx
open Go.Hb
def cmtN (s:ByteArray):Nat→Nat→Nat
 |0,a=>a
 |n+1,a=>if a+1<s.size then(if byt s a=42∧byt s (a+1)=47 then a else cmtN s n (a+1))else a
def cmtE (s:ByteArray) (a:Nat):Nat:=cmtN s (s.size-a) a
theorem cmtE_step {s:ByteArray} {a:Nat}(h:a+1<s.size) (hm:¬(byt s a=42∧byt s (a+1)=47)):cmtE s a=cmtE s (a+1):=by
 unfold cmtE
 obtain⟨n,hn⟩:∃n,s.size-a=n+1:=⟨s.size-a-1,by omega⟩
 rw[hn,show s.size-(a+1)=n by omega,cmtN,if_pos h,if_neg hm]
theorem cmtE_stop {s:ByteArray} {a:Nat}(h:a+1<s.size) (hm:byt s a=42∧byt s (a+1)=47):cmtE s a=a:=by
 unfold cmtE
 obtain⟨n,hn⟩:∃n,s.size-a=n+1:=⟨s.size-a-1,by omega⟩
 rw[hn,cmtN,if_pos h,if_pos hm]
theorem cmtE_end {s:ByteArray} {a:Nat}(h:s.size≤a+1):cmtE s a=a:=by
 unfold cmtE
 rcases Nat.eq_zero_or_pos (s.size-a)with h1|h1
 ·rw[h1];rfl
 ·obtain⟨n,hn⟩:∃n,s.size-a=n+1:=⟨s.size-a-1,by omega⟩
  rw[hn,cmtN,if_neg (by omega)]
theorem cmtE_ge (s:ByteArray) (a:Nat):a≤cmtE s a:=by
 unfold cmtE
 generalize s.size-a=n
 induction n generalizing a with
 |zero=>exact nR _
 |succ n ih=>
  unfold cmtN
  split
  ·split
   ·omega
   ·have:=ih (a+1);omega
  ·omega
inductive LayK where
 |stop
 |opn
 |upto (t:Nat)
def layTo (s:ByteArray) (p:Nat):LayK:=
 if blkB (byt s p).toNat then .upto (p+1)
 else if byt s p=37 then .upto (min (rowE (neB 10) s p+1) s.size)
 else if byt s p=47∧byt s (p+1)=42 then(if cmtE s (p+2)+1<s.size then .upto (cmtE s (p+2)+2)else .opn)
 else .stop
theorem layTo_bound {s:ByteArray} {p t:Nat}(hp:p<s.size) (h:layTo s p= .upto t):p<t∧t≤s.size:=by
 unfold layTo at h
 split at h
 ·cases h;omega
 ·split at h
  ·cases h
   have:=rowE_ge (neB 10) s p
   omega
  ·split at h
   ·split at h
    ·cases h
     have:=cmtE_ge s (p+2)
     omega
    ·cases h
   ·cases h
inductive Lay (s:ByteArray):Nat→Nat→Nat→Prop
 |done {p:Nat} :s.size≤p→Lay s p p 0
 |stop {p:Nat} :p<s.size→layTo s p= .stop→Lay s p p 0
 |opn {p:Nat} :p<s.size→layTo s p= .opn→Lay s p p 33
 |bad {p t r:Nat} :p<s.size→layTo s p= .upto t→OddAt (s.extract 0 t) p (r:Int)→Lay s p r 30
 |step {p t k e:Nat} :p<s.size→layTo s p= .upto t→OddAt (s.extract 0 t) p (-1)→Lay s t k e→Lay s p k e
theorem OddAt.cases_on {s:ByteArray} {p:Nat} {r:Int}(h:OddAt s p r):r= -1∨∃m:Nat,r=m:=by
 induction h with
 |done _=>exact .inl rfl
 |bad _ _=>exact .inr ⟨_,rfl⟩
 |step _ _ ih=>exact ih
theorem Lay.ex (s:ByteArray):∀n p:Nat,s.size-p≤n→∃k e,Lay s p k e:=by
 intro n
 induction n with
 |zero=>exact fun p h=>⟨_,_,.done (by omega)⟩
 |succ n ih=>
  intro p h
  rcases Nat.lt_or_ge p s.size with h1|h1
  ·cases h2:layTo s p with
   |stop=>exact⟨_,_,.stop h1 h2⟩
   |opn=>exact⟨_,_,.opn h1 h2⟩
   |upto t=>
    have h3:=layTo_bound h1 h2
    obtain⟨r,hr⟩:=OddAt.ex (s.extract 0 t) _ p (nR _)
    rcases OddAt.cases_on hr with rfl|⟨m,rfl⟩
    ·obtain⟨k,e,hk⟩:=ih t (by omega)
     exact⟨k,e,.step h1 h2 hr hk⟩
    ·exact⟨_,_,.bad h1 h2 hr⟩
  ·exact⟨_,_,.done h1⟩
theorem Lay.at_done {s:ByteArray} {p k e:Nat}(h:Lay s p k e) (hp:s.size≤p):k=p∧e=0:=by
 cases h with
 |done _=>exact⟨rfl,rfl⟩
 |stop h1 _=>omega
 |opn h1 _=>omega
 |bad h1 _ _=>omega
 |step h1 _ _ _=>omega
theorem Lay.at_stop {s:ByteArray} {p k e:Nat}(h:Lay s p k e) (hp:p<s.size) (hl:layTo s p= .stop):k=p∧e=0:=by
 cases h with
 |done h1=>omega
 |stop _ _=>exact⟨rfl,rfl⟩
 |opn _ h2=>rw[hl]at h2;cases h2
 |bad _ h2 _=>rw[hl]at h2;cases h2
 |step _ h2 _ _=>rw[hl]at h2;cases h2
theorem Lay.at_opn {s:ByteArray} {p k e:Nat}(h:Lay s p k e) (hp:p<s.size) (hl:layTo s p= .opn):k=p∧e=33:=by
 cases h with
 |done h1=>omega
 |stop _ h2=>rw[hl]at h2;cases h2
 |opn _ _=>exact⟨rfl,rfl⟩
 |bad _ h2 _=>rw[hl]at h2;cases h2
 |step _ h2 _ _=>rw[hl]at h2;cases h2
theorem Lay.at_bad {s:ByteArray} {p k e t r:Nat}(h:Lay s p k e) (hp:p<s.size) (hl:layTo s p= .upto t) (hr:OddAt (s.extract 0 t) p (r:Int)):k=r∧e=30:=by
 cases h with
 |done h1=>omega
 |stop _ h2=>rw[hl]at h2;cases h2
 |opn _ h2=>rw[hl]at h2;cases h2
 |bad _ h2 h3=>
  rw[hl]at h2;cases h2
  have:=hr.unique h3
  omega
 |step _ h2 h3 _=>
  rw[hl]at h2;cases h2
  have:=hr.unique h3
  omega
theorem Lay.at_step {s:ByteArray} {p k e t:Nat}(h:Lay s p k e) (hp:p<s.size) (hl:layTo s p= .upto t) (hr:OddAt (s.extract 0 t) p (-1)):Lay s t k e:=by
 cases h with
 |done h1=>omega
 |stop _ h2=>rw[hl]at h2;cases h2
 |opn _ h2=>rw[hl]at h2;cases h2
 |bad _ h2 h3=>
  rw[hl]at h2;cases h2
  have:=hr.unique h3
  omega
 |step _ h2 _ h4=>rw[hl]at h2;cases h2;exact h4
end Go.Lx
end
section
namespace Go.Lx
open Go.Hb Go.Rb
def valN (r:Nat) (s:ByteArray) (f:Nat):Nat→Nat
 |0=>0
 |k+1=>valN r s f k*r+dgv (byt s (f+k)).toNat
def satN (r C:Nat) (s:ByteArray) (f:Nat):Nat→Nat
 |0=>0
 |k+1=>min (satN r C s f k*r+dgv (byt s (f+k)).toNat) C
theorem satN_eq {r C:Nat}(hr:1≤r) (s:ByteArray) (f k:Nat):satN r C s f k=min (valN r s f k) C:=by
 induction k with
 |zero=>simp[satN,valN]
 |succ k ih=>
  rw[satN,valN,ih]
  rcases Nat.lt_or_ge C (valN r s f k)with h|h
  ·rw[Nat.min_eq_right (Nat.le_of_lt h)]
   have h1:C≤C*r:=Nat.le_mul_of_pos_right _ hr
   have h2:valN r s f k≤valN r s f k*r:=Nat.le_mul_of_pos_right _ hr
   omega
  ·rw[Nat.min_eq_left h]
def escL (c:Nat):Option Nat:=
 if c=97 then some 7 else if c=98 then some 8 else if c=102 then some 12 else if c=110 then some 10 else if c=114 then some 13 else if c=116 then some 9
 else if c=118 then some 11 else if c=92 then some 92 else if c=39 then some 39 else if c=34 then some 34 else if c=96 then some 96 else none
def escD (r:Nat) (p:Nat→Bool) (s:ByteArray) (f:Nat):Option (Nat×Nat):=
 if rowE p s f=f∨byt s (rowE p s f)≠92 then none
 else if okRune (valN r s f (rowE p s f-f):Nat)then some (valN r s f (rowE p s f-f),rowE p s f+1)else none
def escV (s:ByteArray) (p:Nat):Option (Nat×Nat):=
 match(if p+1<s.size then escL (byt s (p+1)).toNat else none)with
 |some v=>some (v,p+2)
 |none=>if byt s (p+1)=120 then escD 16 hexB s (p+2)else escD 8 octB s (p+1)
theorem sat_may {r:Nat}(hr:1≤r) (s:ByteArray) (f k:Nat):mayB (satN r 1073741824 s f k:Nat)=mayB (valN r s f k:Nat)∧(mayB (valN r s f k:Nat)=true→satN r 1073741824 s f k=valN r s f k):=by
 have h:=satN_eq (C:=1073741824) hr s f k
 constructor
 ·unfold mayB okRune
  exact decide_eq_decide.2 (by omega)
 ·intro hm
  have:=of_decide_eq_true hm
  unfold okRune at this
  omega
end Go.Lx
end
section
namespace Go.Proofs
open Go.RowKit Go.Pf Go.Lx
def tokV (k:Int) (tx nu:ByteArray) (bits:Int) (at_ en:Int) (ly:Bool):Value:= .agg #[.int .i64 k,.string tx,.string nu,.int .u64 bits,.int .i64 at_,.int .i64 en,.bool ly]
def badV (at_:Int):Value:=tokV 0 ⟨#[]⟩ ⟨#[]⟩ 0 at_ at_ false
def BadEnd (p n:Int) (w:World) (e:Ending) (w':World):Prop:=e= .returned (.tuple #[badV p,.int .i64 n])∧Below w.heap.size w w'
theorem Tryz.rbad (p n:Int) (w:World):Calls Tryz.prog 29 #[.int .i64 p,.int .i64 n] w (BadEnd p n w):=by
 go_enter Tryz.func29,Tryz.ntmps29
 go_wp2
 refine bodyPost_ret (v:= .tuple #[badV p,.int .i64 n]) ?_ rfl ⟨rfl,?_⟩
 ·simp only[results,Tryz.results29]
  go_simp
  rfl
 ·repeat (first|exact(Below.refl _ _).alloc (nR _) _|refine Below.setCell ?_ (by simp only;omega) _)
theorem Tryz.pwrong (p n:Int) (w:World):Calls Tryz.prog 26 #[.int .i64 p,.int .i64 n] w (BadEnd p n w):=by
 go_enter Tryz.func26,Tryz.ntmps26
 go_wp2
 refine bodyPost_ret (v:= .tuple #[badV p,.int .i64 n]) ?_ rfl ⟨rfl,?_⟩
 ·simp only[results,Tryz.results26]
  go_simp
  rfl
 ·repeat (first|exact(Below.refl _ _).alloc (nR _) _|refine Below.setCell ?_ (by simp only;omega) _)
end Go.Proofs
end
section
namespace Go.Lx
open Go.Hb Go.Rb
theorem rowE_all {p:Nat→Bool} {s:ByteArray} {a:Nat} :∀j (h:j<s.size),a≤j→j<rowE p s a→p s[j].toNat=true:=by
 unfold rowE
 generalize s.size-a=n
 induction n generalizing a with
 |zero=>intro j h h1 h2;simp only[rowN]at h2;omega
 |succ n ih=>
  intro j h h1 h2
  unfold rowN at h2
  split at h2
  ·rename_i ha
   split at h2
   ·rename_i hp
    rcases Nat.eq_or_lt_of_le h1 with h3|h3
    ·subst h3;exact hp
    ·exact ih j h h3 h2
   ·omega
  ·omega
theorem rowE_after {p:Nat→Bool} {s:ByteArray} {a:Nat} :∀(h:rowE p s a<s.size),p s[rowE p s a].toNat=false:=by
 have key:∀n a,s.size-a≤n→∀(h:rowE p s a<s.size),p s[rowE p s a].toNat=false:=by
  intro n
  induction n with
  |zero=>
   intro a hn h
   have:=rowE_ge p s a
   omega
  |succ n ih=>
   intro a hn h
   by_cases ha:a<s.size
   ·by_cases hp:p s[a].toNat=true
    ·have e:=rowE_step ha hp
     have h2:rowE p s (a+1)<s.size:=by rw[←e];exact h
     have h3:=ih (a+1) (by omega) h2
     simpa[e]using h3
    ·rw[Bool.not_eq_true]at hp
     have e:=rowE_stop ha hp
     simpa[e]using hp
   ·have:=rowE_ge p s a
    omega
 exact key _ a (nR _)
def escS:ByteArray:=⟨#[97,98,102,110,114,116,118,92,39,34,96]⟩
def escM (k:Nat):Nat:= [7,8,12,10,13,9,11,92,39,34,96].getD k 0
theorem escS_size:escS.size=11:=rfl
theorem escL_at:∀(k:Nat) (h:k<escS.size),escL escS[k].toNat=some (escM k):=by
 have key:(List.finRange 11).all (fun k=>escL (escS[k.val]'(by rw[escS_size];exact k.isLt)).toNat==some (escM k.val))=true:=by decide
 intro k h
 have:=List.all_eq_true.1 key ⟨k,by rw[escS_size]at h;exact h⟩ (List.mem_finRange _)
 exact eq_of_beq this
theorem escL_no {c:Nat}(h:∀(k:Nat) (h:k<escS.size),escS[k].toNat≠c):escL c=none:=by
 have e:∀(k:Nat) (h:k<escS.size),c≠escS[k].toNat:=fun k hk hh=>h k hk hh.symm
 have h0:c≠97:=e 0 (by decide)
 have h1:c≠98:=e 1 (by decide)
 have h2:c≠102:=e 2 (by decide)
 have h3:c≠110:=e 3 (by decide)
 have h4:c≠114:=e 4 (by decide)
 have h5:c≠116:=e 5 (by decide)
 have h6:c≠118:=e 6 (by decide)
 have h7:c≠92:=e 7 (by decide)
 have h8:c≠39:=e 8 (by decide)
 have h9:c≠34:=e 9 (by decide)
 have h10:c≠96:=e 10 (by decide)
 unfold escL
 rw[if_neg h0,if_neg h1,if_neg h2,if_neg h3,if_neg h4,if_neg h5,if_neg h6,if_neg h7,if_neg h8,if_neg h9,if_neg h10]
end Go.Lx
namespace Go.Proofs
open Go.RowKit Go.Pf Go.Lx Go.Hb Go.Rb
def EscEnd (o:Option (Nat×Nat)) (w:World) (e:Ending) (w':World):Prop:=
 (match o with
  |none=>∃a b:Int,e= .returned (.tuple #[.int .i64 a,.int .i64 b,.bool false])
  |some (v,t)=>e= .returned (.tuple #[.int .i64 v,.int .i64 t,.bool true]))∧Below w.heap.size w w'
theorem EscEnd.no {o:Option (Nat×Nat)} {w w':World} {a b:Int}(h:o=none) (hb:Below w.heap.size w w'):EscEnd o w (.returned (.tuple #[.int .i64 a,.int .i64 b,.bool false])) w':=by
 subst h;exact⟨⟨a,b,rfl⟩,hb⟩
theorem EscEnd.yes {o:Option (Nat×Nat)} {w w':World} {v t:Nat} {a b:Int}(h:o=some (v,t)) (ha:a=v) (hbb:b=t) (hb:Below w.heap.size w w'):EscEnd o w (.returned (.tuple #[.int .i64 a,.int .i64 b,.bool true])) w':=by
 subst h ha hbb;exact⟨rfl,hb⟩
theorem octB_hex {c:Nat}(h:octB c=true):hexB c=true:=by
 simp[octB,hexB,digB]at h⊢;omega
theorem hexB_lt {c:Nat}(h:hexB c=true):dgv c≤15:=by
 simp[hexB,digB]at h
 unfold dgv
 split
 ·omega
 ·split
  ·omega
  ·split
   ·omega
   ·omega
structure EscF (r:Nat) (s:ByteArray) (f T:Nat) (V:Nat→Nat) (R:Option (Nat×Nat)):Prop where
 no:T=f∨byt s T≠92→R=none
 nomay:¬(T=f∨byt s T≠92)→mayB (V T)=false→R=none
 may:¬(T=f∨byt s T≠92)→mayB (V T)=true→R=some (V T,T+1)
 zero:V f=0
 dig:∀i (h:i<s.size),f≤i→i<T→hexB s[i].toNat=true
 step:∀i (h:i<s.size),f≤i→i<T→min ((V i:Int)*(r:Int)+(dgv s[i].toNat:Nat)) 1073741824=(V (i+1):Nat)
 le:∀i,f≤i→V i≤1073741824
theorem EscF.of {r:Nat} {p:Nat→Bool} {s:ByteArray} {f:Nat} {R:Option (Nat×Nat)}(hr:1≤r) (hp:∀c,p c=true→hexB c=true) (h:R=escD r p s f):
 EscF r s f (rowE p s f) (fun i=>satN r 1073741824 s f (i-f)) R:=by
 obtain⟨T,hT⟩:∃T,T=rowE p s f:=⟨_,rfl⟩
 have hge:=rowE_ge p s f
 have hall:= @rowE_all p s f
 unfold escD at h
 rw[←hT]at h hge hall⊢
 have hm:=sat_may hr s f (T-f)
 refine⟨fun h1=>by rw[h,if_pos h1],fun h1 h2=> ?_,fun h1 h2=> ?_,?_,fun i hi h1 h2=>hp _ (hall i hi h1 h2),fun i hi h1 h2=> ?_,fun i h1=> ?_⟩
 ·rw[h,if_neg h1]
  try simp only at h2
  rw[hm.1]at h2
  rw[if_neg (of_decide_eq_false h2)]
 ·rw[h,if_neg h1]
  try simp only at h2
  have h3:=h2
  rw[hm.1]at h3
  rw[if_pos (of_decide_eq_true h3)]
  try simp only
  rw[hm.2 h3]
 ·simp[satN]
 ·try simp only
  rw[show i+1-f=(i-f)+1 by omega,satN]
  have e:f+(i-f)=i:=by omega
  rw[e,byt_in s i hi,Int.toNat_natCast]
  rw[←Int.natCast_mul,←Int.natCast_add]
  omega
 ·try simp only
  cases i-f with
  |zero=>simp[satN]
  |succ n=>rw[satN];exact Nat.min_le_right _ _
theorem Tryz.byteA (s:ByteArray) (k:Nat) (w:World):Calls Tryz.prog 55 #[.string s,.int .i64 k] w fun e w'=>e= .returned (.int .u8 (byt s k))∧w=w':=(Tryz.byteAt s k w).mono fun _ _ ⟨h1,h2⟩=>⟨h1,h2.symm⟩
theorem Tryz.mayX (v:Int) (w:World):Calls Tryz.prog 22 #[.int .i64 v] w fun e w'=>e= .returned (.bool (mayB v))∧w=w':=(Tryz.may v w).mono fun _ _ ⟨h1,h2⟩=>⟨h1,h2.symm⟩
theorem Tryz.rescape (s:ByteArray) (p:Nat) (w:World) (hs:s.size≤140737488355328) (hp:p≤140737488355320):
 Calls Tryz.prog 85 #[.string s,.int .i64 p] w (EscEnd (escV s p) w):=by
 obtain⟨R,hR⟩:∃R,R=escV s p:=⟨_,rfl⟩
 rw[←hR]
 obtain⟨u,hu⟩:∃u,u=byt s (p+1):=⟨_,rfl⟩
 have CY:Hid (∀w,Calls Tryz.prog 55 #[.string s,.int .i64 ((p:Int)+1)] w fun e w'=>e= .returned (.int .u8 u)∧w=w'):=Hi (fun w=>by rw[hu];exact Tryz.byteA s (p+1) w)
 obtain⟨S,hS⟩:∃S,S=escS:=⟨_,rfl⟩
 have zS:S.size=11:=by rw[hS];rfl
 have u0:=byt_lo s (p+1)
 rw[←hu]at u0
 have HS:=Hi hS
 have HU:=Hi hu
 have HR:=Hi hR
 have U0:=Hi u0
 clear hR hu u0
 go_enter Tryz.func85,Tryz.ntmps85
 go_wp2_with (go_at_call 55;(with_reducible refine(CY.out _).mono ?_);rintro e w' ⟨rfl,rfl⟩)
 generalize hW:w.alloc _=W1
 have bl:Below w.heap.size w W1:=by subst hW;exact(Below.refl _ _).alloc (nR _) _
 have hc:∀k,k<11→W1.cell? ⟨w.heap.size,k,none⟩=some (.int .i64 (escM k:Nat)):=by
  intro k hk
  subst hW
  rw[Lib.cell_of_heap (heap_alloc_new w _)]
  match k,hk with
  |0,_=>rfl
  |1,_=>rfl
  |2,_=>rfl
  |3,_=>rfl
  |4,_=>rfl
  |5,_=>rfl
  |6,_=>rfl
  |7,_=>rfl
  |8,_=>rfl
  |9,_=>rfl
  |10,_=>rfl
 have HC:=Hi hc
 have BL:=Hi bl
 clear hW hc bl
 rw[show({data:= #[97,98,102,110,114,116,118,92,39,34,96]} :ByteArray)=S from hS.symm]
 clear hS
 go_loop [10] (fun i=>∃k:Nat,k≤11∧i= .int .i64 k∧∀j (h:j<S.size),j<k→¬(u=S[j].toNat∧p+1<s.size)) (fun i=>11-(intOf i).toNat)
 case atStart=>exact⟨0,by omega,rfl,fun j _ h=>by omega⟩
 case round=>
  obtain⟨k,hk,rfl,hinv⟩:=hrel
  have HI:=Hi hinv
  clear hinv
  by_cases hlt:k<11
  ·have hkz:k<S.size:=by omega
   by_cases hm:u=S[k].toNat∧p+1<s.size
   ·have hcell:=HC.out k hlt
    have m1:(u==(S[k].toNat:Int))=true:=by rw[hm.1];exact beq_self_eq_true _
    have m2:(p:Int)+1<s.size:=by omega
    have HF:Hid (R=some (escM k,p+2)):=Hi (by
     have h1:=hm.1
     have hS:=HS.out
     subst hS
     have h2:=escL_at k hkz
     rw[HR.out]
     unfold escV
     rw[if_pos hm.2,←HU.out,h1,Int.toNat_natCast,h2])
    clear hm
    go_wp2
    go_ret3
    exact EscEnd.yes HF.out rfl (by first|rfl|omega) BL.out
   ·have HN:Hid (∀j (h:j<S.size),j<k+1→¬(u=S[j].toNat∧p+1<s.size)):=Hi (by
     intro j h hj
     rcases Nat.lt_or_ge j k with h1|h1
     ·exact HI.out j h h1
     ·obtain rfl:j=k:=by omega
      exact hm)
    have hq:(u==(S[k].toNat:Int))=false∨((u==(S[k].toNat:Int))=true∧¬((p:Int)+1<s.size)):=by
     by_cases h:u=S[k].toNat
     ·exact .inr ⟨by rw[h];exact beq_self_eq_true _,fun h2=>hm ⟨h,by omega⟩⟩
     ·left
      rw[Bool.eq_false_iff]
      intro h2
      exact h (eq_of_beq h2)
    clear hm
    rcases hq with m1|⟨m1,m2⟩
    ·go_wp2
     go_round
     case rel=>exact⟨k+1,by omega,by go_num,HN.out⟩
     case measure=>simp[intOf];omega
    ·go_wp2
     go_round
     case rel=>exact⟨k+1,by omega,by go_num,HN.out⟩
     case measure=>simp[intOf];omega
  ·have hno:(if p+1<s.size then escL (byt s (p+1)).toNat else none)=none:=by
    by_cases h1:p+1<s.size
    ·rw[if_pos h1]
     refine escL_no fun j hj h2=> ?_
     have hS:=HS.out
     subst hS
     refine HI.out j hj (by omega) ⟨?_,h1⟩
     rw[h2,HU.out]
     have:=byt_lo s (p+1)
     omega
    ·rw[if_neg h1]
   have HR2:R=if u=120 then escD 16 hexB s (p+2)else escD 8 octB s (p+1):=by
    rw[HR.out,HU.out]
    unfold escV
    rw[hno]
   have ki:¬((k:Int)<11):=by omega
   clear hno HI HC hlt HS HU HR
   by_cases h120:u=120
   ·have m1:(u==120)=true:=by rw[h120];rfl
    rw[if_pos h120]at HR2
    have HF:=EscF.of (p:=hexB) (by decide) (fun _ h=>h) HR2
    obtain⟨f,hf⟩:∃f,f=p+2:=⟨_,rfl⟩
    rw[←hf]at HF
    have ef:(p:Int)+2=f:=by omega
    have f0:f≤140737488355328:=by omega
    have tge:=rowE_ge hexB s f
    have tle:rowE hexB s f=f∨rowE hexB s f≤s.size:=by
     rcases Nat.lt_or_ge s.size f with h|h
     ·exact .inl (rowE_end (by omega))
     ·exact .inr (rowE_le hexB s f h)
    have CR:Hid (∀w,Calls Tryz.prog 60 #[.string s,.int .i64 f,.int .i64 4] w (RowEnd (rowE hexB s f) w)):=Hi (fun w=>Tryz.rrowHex s f w hs f0)
    obtain⟨T,hT⟩:∃T,T=rowE hexB s f:=⟨_,rfl⟩
    obtain⟨V,hV⟩:∃V,V=fun i=>satN 16 1073741824 s f (i-f):=⟨_,rfl⟩
    rw[←hT]at CR tge tle
    rw[←hT,←hV]at HF
    clear hT hV HR2 hf h120
    have HFF:=Hi HF
    clear HF
    have CT:Hid (∀w,Calls Tryz.prog 55 #[.string s,.int .i64 T] w fun e w'=>e= .returned (.int .u8 (byt s T))∧w=w'):=Hi (fun w=>Tryz.byteA s T w)
    obtain⟨bT,hbT⟩:∃b,b=byt s T:=⟨_,rfl⟩
    rw[←hbT]at CT
    have HBT:=Hi hbT
    clear hbT
    by_cases q1:T=f
    ·have m2:((T:Int)==f)=true:=by rw[q1];exact beq_self_eq_true _
     have HN:=Hi (HFF.out.no (.inl q1))
     clear q1 tge tle HFF
     go_wp2_with (first|(go_at_call 55;(with_reducible refine(CT.out _).mono ?_);rintro e w' ⟨rfl,rfl⟩)|(go_at_call 60;(with_reducible refine(CR.out _).mono ?_);rintro e w' ⟨rfl,rfl⟩))
     go_ret3
     exact EscEnd.no HN.out BL.out
    ·have m2:((T:Int)==f)=false:=eqf q1
     by_cases q2:bT=92
     ·have q3:(bT !=92)=false:=by rw[q2];rfl
      have hd:¬(T=f∨byt s T≠92):=by rw[←HBT.out];omega
      have lt2:T≤s.size:=by omega
      have HD:=Hi hd
      clear hd q1 q2 tle
      have v0:=HFF.out.zero
      go_wp2_with (first|(go_at_call 55;(with_reducible refine(CT.out _).mono ?_);rintro e w' ⟨rfl,rfl⟩)|(go_at_call 60;(with_reducible refine(CR.out _).mono ?_);rintro e w' ⟨rfl,rfl⟩))
      go_loop [15,16] (fun v i=>∃j:Nat,f≤j∧j≤T∧i= .int .i64 j∧v= .int .i64 (V j:Nat)) (fun _ i=>T-(intOf i).toNat)
      case atStart=>exact⟨f,nR _,tge,rfl,by rw[v0];rfl⟩
      case round=>
       obtain⟨j,hj1,hj2,rfl,rfl⟩:=hrel
       clear v0
       by_cases hjl:j<T
       ·have hjs:j<s.size:=by omega
        have hx:=HFF.out.dig j hjs hj1 hjl
        have st:=HFF.out.step j hjs hj1 hjl
        have le:=HFF.out.le j hj1
        have d15:=hexB_lt hx
        have CV:Hid (∀w,Calls Tryz.prog 82 #[.int .u8 s[j].toNat] w fun e w'=>e= .returned (.int .i64 (dgv s[j].toNat:Nat))∧w=w'):=Hi (fun w=>Tryz.rvalue _ hx w)
        obtain⟨d,hdd⟩:∃d,d=dgv s[j].toNat:=⟨_,rfl⟩
        obtain⟨x,hxx⟩:∃x,x=V j:=⟨_,rfl⟩
        obtain⟨y,hyy⟩:∃y,y=V (j+1):=⟨_,rfl⟩
        rw[←hdd]at d15 CV st
        rw[←hxx]at st le⊢
        rw[←hyy]at st
        have HY:=Hi hyy
        clear hx hdd hxx hyy
        have st2:min ((x:Int)*16+d) 1073741824=y:=st
        clear st
        go_wp2_with (go_at_call 82;(with_reducible refine(CV.out _).mono ?_);rintro e w' ⟨rfl,rfl⟩)
        go_round
        case rel=>exact⟨j+1,by omega,by omega,by go_num,by rw[←HY.out]⟩
        case measure=>simp[intOf];omega
       ·obtain rfl:j=T:=by omega
        cases hmm:mayB (V j:Nat)with
        |false=>
         have HN:=Hi (HFF.out.nomay HD.out hmm)
         have CM:Hid (∀w,Calls Tryz.prog 22 #[.int .i64 (V j:Nat)] w fun e w'=>e= .returned (.bool false)∧w=w'):=Hi (fun w=>by have:=Tryz.mayX (V j:Nat) w;rwa [hmm]at this)
         clear hmm
         go_wp2_with (go_at_call 22;(with_reducible refine(CM.out _).mono ?_);rintro e w' ⟨rfl,rfl⟩)
         go_ret3
         exact EscEnd.no HN.out BL.out
        |true=>
         have HN:=Hi (HFF.out.may HD.out hmm)
         have CM:Hid (∀w,Calls Tryz.prog 22 #[.int .i64 (V j:Nat)] w fun e w'=>e= .returned (.bool true)∧w=w'):=Hi (fun w=>by have:=Tryz.mayX (V j:Nat) w;rwa [hmm]at this)
         clear hmm
         go_wp2_with (go_at_call 22;(with_reducible refine(CM.out _).mono ?_);rintro e w' ⟨rfl,rfl⟩)
         go_ret3
         exact EscEnd.yes HN.out rfl (by first|rfl|omega) BL.out
     ·have q3:(bT !=92)=true:=by rw[bne,Bool.not_eq_true'];rw[Bool.eq_false_iff];intro h;exact q2 (eq_of_beq h)
      have HN:=Hi (HFF.out.no (.inr (by rw[←HBT.out];exact q2)))
      clear q1 q2 tge tle HFF
      go_wp2_with (first|(go_at_call 55;(with_reducible refine(CT.out _).mono ?_);rintro e w' ⟨rfl,rfl⟩)|(go_at_call 60;(with_reducible refine(CR.out _).mono ?_);rintro e w' ⟨rfl,rfl⟩))
      go_ret3
      exact EscEnd.no HN.out BL.out
   ·have m1:(u==120)=false:=by rw[Bool.eq_false_iff];intro h;exact h120 (eq_of_beq h)
    rw[if_neg h120]at HR2
    have HF:=EscF.of (p:=octB) (by decide) (fun _ h=>octB_hex h) HR2
    obtain⟨f,hf⟩:∃f,f=p+1:=⟨_,rfl⟩
    rw[←hf]at HF
    have ef:(p:Int)+1=f:=by omega
    have f0:f≤140737488355328:=by omega
    have tge:=rowE_ge octB s f
    have tle:rowE octB s f=f∨rowE octB s f≤s.size:=by
     rcases Nat.lt_or_ge s.size f with h|h
     ·exact .inl (rowE_end (by omega))
     ·exact .inr (rowE_le octB s f h)
    have CR:Hid (∀w,Calls Tryz.prog 60 #[.string s,.int .i64 f,.int .i64 5] w (RowEnd (rowE octB s f) w)):=Hi (fun w=>Tryz.rrowOct s f w hs f0)
    obtain⟨T,hT⟩:∃T,T=rowE octB s f:=⟨_,rfl⟩
    obtain⟨V,hV⟩:∃V,V=fun i=>satN 8 1073741824 s f (i-f):=⟨_,rfl⟩
    rw[←hT]at CR tge tle
    rw[←hT,←hV]at HF
    clear hT hV HR2 hf h120
    have HFF:=Hi HF
    clear HF
    have CT:Hid (∀w,Calls Tryz.prog 55 #[.string s,.int .i64 T] w fun e w'=>e= .returned (.int .u8 (byt s T))∧w=w'):=Hi (fun w=>Tryz.byteA s T w)
    obtain⟨bT,hbT⟩:∃b,b=byt s T:=⟨_,rfl⟩
    rw[←hbT]at CT
    have HBT:=Hi hbT
    clear hbT
    by_cases q1:T=f
    ·have m2:((T:Int)==f)=true:=by rw[q1];exact beq_self_eq_true _
     have HN:=Hi (HFF.out.no (.inl q1))
     clear q1 tge tle HFF
     go_wp2_with (first|(go_at_call 55;(with_reducible refine(CT.out _).mono ?_);rintro e w' ⟨rfl,rfl⟩)|(go_at_call 60;(with_reducible refine(CR.out _).mono ?_);rintro e w' ⟨rfl,rfl⟩))
     go_ret3
     exact EscEnd.no HN.out BL.out
    ·have m2:((T:Int)==f)=false:=eqf q1
     by_cases q2:bT=92
     ·have q3:(bT !=92)=false:=by rw[q2];rfl
      have hd:¬(T=f∨byt s T≠92):=by rw[←HBT.out];omega
      have lt2:T≤s.size:=by omega
      have HD:=Hi hd
      clear hd q1 q2 tle
      have v0:=HFF.out.zero
      go_wp2_with (first|(go_at_call 55;(with_reducible refine(CT.out _).mono ?_);rintro e w' ⟨rfl,rfl⟩)|(go_at_call 60;(with_reducible refine(CR.out _).mono ?_);rintro e w' ⟨rfl,rfl⟩))
      go_loop [15,16] (fun v i=>∃j:Nat,f≤j∧j≤T∧i= .int .i64 j∧v= .int .i64 (V j:Nat)) (fun _ i=>T-(intOf i).toNat)
      case atStart=>exact⟨f,nR _,tge,rfl,by rw[v0];rfl⟩
      case round=>
       obtain⟨j,hj1,hj2,rfl,rfl⟩:=hrel
       clear v0
       by_cases hjl:j<T
       ·have hjs:j<s.size:=by omega
        have hx:=HFF.out.dig j hjs hj1 hjl
        have st:=HFF.out.step j hjs hj1 hjl
        have le:=HFF.out.le j hj1
        have d15:=hexB_lt hx
        have CV:Hid (∀w,Calls Tryz.prog 82 #[.int .u8 s[j].toNat] w fun e w'=>e= .returned (.int .i64 (dgv s[j].toNat:Nat))∧w=w'):=Hi (fun w=>Tryz.rvalue _ hx w)
        obtain⟨d,hdd⟩:∃d,d=dgv s[j].toNat:=⟨_,rfl⟩
        obtain⟨x,hxx⟩:∃x,x=V j:=⟨_,rfl⟩
        obtain⟨y,hyy⟩:∃y,y=V (j+1):=⟨_,rfl⟩
        rw[←hdd]at d15 CV st
        rw[←hxx]at st le⊢
        rw[←hyy]at st
        have HY:=Hi hyy
        clear hx hdd hxx hyy
        have st2:min ((x:Int)*8+d) 1073741824=y:=st
        clear st
        go_wp2_with (go_at_call 82;(with_reducible refine(CV.out _).mono ?_);rintro e w' ⟨rfl,rfl⟩)
        go_round
        case rel=>exact⟨j+1,by omega,by omega,by go_num,by rw[←HY.out]⟩
        case measure=>simp[intOf];omega
       ·obtain rfl:j=T:=by omega
        cases hmm:mayB (V j:Nat)with
        |false=>
         have HN:=Hi (HFF.out.nomay HD.out hmm)
         have CM:Hid (∀w,Calls Tryz.prog 22 #[.int .i64 (V j:Nat)] w fun e w'=>e= .returned (.bool false)∧w=w'):=Hi (fun w=>by have:=Tryz.mayX (V j:Nat) w;rwa [hmm]at this)
         clear hmm
         go_wp2_with (go_at_call 22;(with_reducible refine(CM.out _).mono ?_);rintro e w' ⟨rfl,rfl⟩)
         go_ret3
         exact EscEnd.no HN.out BL.out
        |true=>
         have HN:=Hi (HFF.out.may HD.out hmm)
         have CM:Hid (∀w,Calls Tryz.prog 22 #[.int .i64 (V j:Nat)] w fun e w'=>e= .returned (.bool true)∧w=w'):=Hi (fun w=>by have:=Tryz.mayX (V j:Nat) w;rwa [hmm]at this)
         clear hmm
         go_wp2_with (go_at_call 22;(with_reducible refine(CM.out _).mono ?_);rintro e w' ⟨rfl,rfl⟩)
         go_ret3
         exact EscEnd.yes HN.out rfl (by first|rfl|omega) BL.out
     ·have q3:(bT !=92)=true:=by rw[bne,Bool.not_eq_true'];rw[Bool.eq_false_iff];intro h;exact q2 (eq_of_beq h)
      have HN:=Hi (HFF.out.no (.inr (by rw[←HBT.out];exact q2)))
      clear q1 q2 tge tle HFF
      go_wp2_with (first|(go_at_call 55;(with_reducible refine(CT.out _).mono ?_);rintro e w' ⟨rfl,rfl⟩)|(go_at_call 60;(with_reducible refine(CR.out _).mono ?_);rintro e w' ⟨rfl,rfl⟩))
      go_ret3
      exact EscEnd.no HN.out BL.out
end Go.Proofs
end
