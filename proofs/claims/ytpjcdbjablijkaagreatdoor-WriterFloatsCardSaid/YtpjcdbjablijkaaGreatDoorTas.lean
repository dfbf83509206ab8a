import Derived.Test.YtpjcdbjablijkaaGreatDoorTak
import Derived.Test.YtpjcdbjablijkaaGreatDoorTar
import Derived.Test.YtpjcdbjablijkaaGreatDoorTaa
set_option maxRecDepth 1000000
set_option maxHeartbeats 40000000
section
namespace Go.Hb
def cont (b:Int):Prop:=128≤b∧b<192
def ChV (s:ByteArray) (p:Nat) (v:Int) (n:Int):Prop:=
 (n=1∧p<s.size∧byt s p<128∧v=byt s p)∨
 (n=2∧(192≤byt s p∧byt s p<224)∧cont (byt s (p+1))∧v=(byt s p-192)*64+byt s (p+1)-128∧128≤v∧okRune v)∨
 (n=3∧(224≤byt s p∧byt s p<240)∧cont (byt s (p+1))∧cont (byt s (p+2))∧v=((byt s p-224)*64+byt s (p+1)-128)*64+byt s (p+2)-128∧2048≤v∧okRune v)∨
 (n=4∧(240≤byt s p∧byt s p<248)∧cont (byt s (p+1))∧cont (byt s (p+2))∧cont (byt s (p+3))∧v=(((byt s p-240)*64+byt s (p+1)-128)*64+byt s (p+2)-128)*64+byt s (p+3)-128∧65536≤v∧okRune v)
def NoCh (s:ByteArray) (p:Nat):Prop:=∀v n,¬ChV s p v n
end Go.Hb
end
section
namespace Go.Hb
theorem ChV.size {s:ByteArray} {p:Nat} {v n:Int}(h:ChV s p v n):p<s.size∧1≤n∧n≤4:=by
 unfold ChV cont at h
 refine⟨?_,by omega,by omega⟩
 rcases h with h|h|h|h
 ·exact h.2.1
 all_goals exact lt_of_high s p (by omega)
theorem ChV.last {s:ByteArray} {p:Nat} {v:Int} {m:Nat}(h:ChV s p v m):p+m≤s.size:=by
 have h1:=h.size
 unfold ChV cont at h
 rcases h with h|h|h|h
 ·omega
 ·have:=lt_of_high s (p+1) (by omega)
  omega
 ·have:=lt_of_high s (p+2) (by omega)
  omega
 ·have:=lt_of_high s (p+3) (by omega)
  omega
theorem ChV.unique {s:ByteArray} {p:Nat} {v n v' n':Int}(h:ChV s p v n) (h':ChV s p v' n'):v=v'∧n=n':=by
 unfold ChV cont at h h'
 omega
inductive OddAt (s:ByteArray):Nat→Int→Prop
 |done {p:Nat} :s.size≤p→OddAt s p (-1)
 |bad {p:Nat} :p<s.size→NoCh s p→OddAt s p p
 |step {p m:Nat} {v r:Int} :ChV s p v m→OddAt s (p+m) r→OddAt s p r
theorem OddAt.ex (s:ByteArray):∀n p:Nat,s.size-p≤n→∃r,OddAt s p r:=by
 intro n
 induction n with
 |zero=>exact fun p h=>⟨_,.done (by omega)⟩
 |succ n ih=>
  intro p h
  rcases Nat.lt_or_ge p s.size with h1|h1
  ·rcases Classical.em (NoCh s p)with h2|h2
   ·exact⟨_,.bad h1 h2⟩
   ·have h3:∃v n,ChV s p v n:=by
     apply Classical.byContradiction
     intro h4
     exact h2 (fun v n hc=>h4 ⟨v,n,hc⟩)
    obtain⟨v,k,hc⟩:=h3
    have h5:=hc.size
    obtain⟨m,hm⟩:∃m:Nat,k=m:=⟨k.toNat,by omega⟩
    subst hm
    obtain⟨r,hr⟩:=ih (p+m) (by omega)
    exact⟨r,.step hc hr⟩
  ·exact⟨_,.done h1⟩
theorem OddAt.at_done {s:ByteArray} {p:Nat} {r:Int}(h:OddAt s p r) (hp:s.size≤p):r= -1:=by
 cases h with
 |done _=>rfl
 |bad h1 _=>omega
 |step hc _=>have:=hc.size;omega
theorem OddAt.at_bad {s:ByteArray} {p:Nat} {r:Int}(h:OddAt s p r) (hp:p<s.size) (hn:NoCh s p):r=p:=by
 cases h with
 |done h1=>omega
 |bad _ _=>rfl
 |step hc _=>exact absurd hc (hn _ _)
theorem OddAt.at_step {s:ByteArray} {p m:Nat} {v r:Int}(h:OddAt s p r) (hc:ChV s p v m):OddAt s (p+m) r:=by
 have h1:=hc.size
 cases h with
 |done h2=>omega
 |bad _ hn=>exact absurd hc (hn _ _)
 |step hc2 hr=>
  have h3:=(hc.unique hc2).2
  rename_i m2 v2
  have h4:m=m2:=by omega
  rw[h4]
  exact hr
theorem OddAt.unique {s:ByteArray} {p:Nat} {r r':Int}(h:OddAt s p r) (h':OddAt s p r'):r=r':=by
 induction h with
 |done h1=>exact(h'.at_done h1).symm
 |bad h1 h2=>exact(h'.at_bad h1 h2).symm
 |step hc _ ih=>exact ih (h'.at_step hc)
end Go.Hb
end
section
namespace Go.Lx
open Go.Hb
def cmtN (s:ByteArray):Nat→Nat→Nat
 |0,a=>a
 |n+1,a=>if a+1<s.size then(if byt s a=42∧byt s (a+1)=47 then a else cmtN s n (a+1))else a
def cmtE (s:ByteArray) (a:Nat):Nat:=cmtN s (s.size-a) a
theorem cmtE_ge (s:ByteArray) (a:Nat):a≤cmtE s a:=by
 unfold cmtE
 generalize s.size-a=n
 induction n generalizing a with
 |zero=>exact nR _
 |succ n ih=>
  unfold cmtN
  split
  ·split
   ·omega
   ·have:=ih (a+1);omega
  ·omega
inductive LayK where
 |stop
 |opn
 |upto (t:Nat)
def layTo (s:ByteArray) (p:Nat):LayK:=
 if blkB (byt s p).toNat then .upto (p+1)
 else if byt s p=37 then .upto (min (rowE (neB 10) s p+1) s.size)
 else if byt s p=47∧byt s (p+1)=42 then(if cmtE s (p+2)+1<s.size then .upto (cmtE s (p+2)+2)else .opn)
 else .stop
theorem layTo_bound {s:ByteArray} {p t:Nat}(hp:p<s.size) (h:layTo s p= .upto t):p<t∧t≤s.size:=by
 unfold layTo at h
 split at h
 ·cases h;omega
 ·split at h
  ·cases h
   have:=rowE_ge (neB 10) s p
   omega
  ·split at h
   ·split at h
    ·cases h
     have:=cmtE_ge s (p+2)
     omega
    ·cases h
   ·cases h
inductive Lay (s:ByteArray):Nat→Nat→Nat→Prop
 |done {p:Nat} :s.size≤p→Lay s p p 0
 |stop {p:Nat} :p<s.size→layTo s p= .stop→Lay s p p 0
 |opn {p:Nat} :p<s.size→layTo s p= .opn→Lay s p p 33
 |bad {p t r:Nat} :p<s.size→layTo s p= .upto t→OddAt (s.extract 0 t) p (r:Int)→Lay s p r 30
 |step {p t k e:Nat} :p<s.size→layTo s p= .upto t→OddAt (s.extract 0 t) p (-1)→Lay s t k e→Lay s p k e
theorem OddAt.cases_on {s:ByteArray} {p:Nat} {r:Int}(h:OddAt s p r):r= -1∨∃m:Nat,r=m:=by
 induction h with
 |done _=>exact .inl rfl
 |bad _ _=>exact .inr ⟨_,rfl⟩
 |step _ _ ih=>exact ih
theorem Lay.ex (s:ByteArray):∀n p:Nat,s.size-p≤n→∃k e,Lay s p k e:=by
 intro n
 induction n with
 |zero=>exact fun p h=>⟨_,_,.done (by omega)⟩
 |succ n ih=>
  intro p h
  rcases Nat.lt_or_ge p s.size with h1|h1
  ·cases h2:layTo s p with
   |stop=>exact⟨_,_,.stop h1 h2⟩
   |opn=>exact⟨_,_,.opn h1 h2⟩
   |upto t=>
    have h3:=layTo_bound h1 h2
    obtain⟨r,hr⟩:=OddAt.ex (s.extract 0 t) _ p (nR _)
    rcases OddAt.cases_on hr with rfl|⟨m,rfl⟩
    ·obtain⟨k,e,hk⟩:=ih t (by omega)
     exact⟨k,e,.step h1 h2 hr hk⟩
    ·exact⟨_,_,.bad h1 h2 hr⟩
  ·exact⟨_,_,.done h1⟩
theorem Lay.at_done {s:ByteArray} {p k e:Nat}(h:Lay s p k e) (hp:s.size≤p):k=p∧e=0:=by
 cases h with
 |done _=>exact⟨rfl,rfl⟩
 |stop h1 _=>omega
 |opn h1 _=>omega
 |bad h1 _ _=>omega
 |step h1 _ _ _=>omega
theorem Lay.at_bad {s:ByteArray} {p k e t r:Nat}(h:Lay s p k e) (hp:p<s.size) (hl:layTo s p= .upto t) (hr:OddAt (s.extract 0 t) p (r:Int)):k=r∧e=30:=by
 cases h with
 |done h1=>omega
 |stop _ h2=>rw[hl]at h2;cases h2
 |opn _ h2=>rw[hl]at h2;cases h2
 |bad _ h2 h3=>
  rw[hl]at h2;cases h2
  have:=hr.unique h3
  omega
 |step _ h2 h3 _=>
  rw[hl]at h2;cases h2
  have:=hr.unique h3
  omega
theorem Lay.at_step {s:ByteArray} {p k e t:Nat}(h:Lay s p k e) (hp:p<s.size) (hl:layTo s p= .upto t) (hr:OddAt (s.extract 0 t) p (-1)):Lay s t k e:=by
 cases h with
 |done h1=>omega
 |stop _ h2=>rw[hl]at h2;cases h2
 |opn _ h2=>rw[hl]at h2;cases h2
 |bad _ h2 h3=>
  rw[hl]at h2;cases h2
  have:=hr.unique h3
  omega
 |step _ h2 _ h4=>rw[hl]at h2;cases h2;exact h4
end Go.Lx
end
section
namespace Go.Lx
open Go.Hb Go.Rb
def valN (r:Nat) (s:ByteArray) (f:Nat):Nat→Nat
 |0=>0
 |k+1=>valN r s f k*r+dgv (byt s (f+k)).toNat
end Go.Lx
end
section
namespace Go.Proofs
open Go.RowKit Go.Pf Go.Lx
def tokV (k:Int) (tx nu:ByteArray) (bits:Int) (at_ en:Int) (ly:Bool):Value:= .agg #[.int .i64 k,.string tx,.string nu,.int .u64 bits,.int .i64 at_,.int .i64 en,.bool ly]
def badV (at_:Int):Value:=tokV 0 ⟨#[]⟩ ⟨#[]⟩ 0 at_ at_ false
end Go.Proofs
end
section
namespace Go.Lx
open Go.Hb Go.Rb
theorem rowE_all {p:Nat→Bool} {s:ByteArray} {a:Nat} :∀j (h:j<s.size),a≤j→j<rowE p s a→p s[j].toNat=true:=by
 unfold rowE
 generalize s.size-a=n
 induction n generalizing a with
 |zero=>intro j h h1 h2;simp only[rowN]at h2;omega
 |succ n ih=>
  intro j h h1 h2
  unfold rowN at h2
  split at h2
  ·rename_i ha
   split at h2
   ·rename_i hp
    rcases Nat.eq_or_lt_of_le h1 with h3|h3
    ·subst h3;exact hp
    ·exact ih j h h3 h2
   ·omega
  ·omega
end Go.Lx
end
