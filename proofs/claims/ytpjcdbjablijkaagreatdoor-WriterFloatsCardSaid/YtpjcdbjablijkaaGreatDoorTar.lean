import Derived.Test.YtpjcdbjablijkaaGreatDoorTaa
import Derived.Test.YtpjcdbjablijkaaGreatDoorTao
set_option maxRecDepth 1000000
set_option maxHeartbeats 40000000
section
namespace Go.Lx
def digB (c:Nat):Bool:=decide (48≤c)&&decide (c≤57)
def smlB (c:Nat):Bool:=decide (97≤c)&&decide (c≤122)
def blkB (c:Nat):Bool:=decide (9≤c)&&decide (c≤13)||decide (c=32)
end Go.Lx
namespace Go.Proofs
open Go.RowKit Go.Pf Go.Lx
def PredSays (p:Bool) (w:World) (e:Ending) (w':World):Prop:=e= .returned (.bool p)∧w=w'
theorem Tryz.pdigit (c:Nat) (w:World):Calls Tryz.prog 62 #[.int .u8 c] w (PredSays (digB c) w):=by
 obtain⟨p,hp⟩:∃p:Bool,p=decide (48≤c):=⟨_,rfl⟩
 have cp:decide ((48:Int)≤(c:Int))=p:=by rw[hp];exact decide_eq_decide.2 (by omega)
 obtain⟨q,hq⟩:∃p:Bool,p=decide (c≤57):=⟨_,rfl⟩
 have cq:decide ((c:Int)≤57)=q:=by rw[hq];exact decide_eq_decide.2 (by omega)
 unfold digB
 rw[←hp,←hq]
 clear hp hq
 cases p
 all_goals cases q
 all_goals
  go_enter Tryz.func62,Tryz.ntmps62
  go_wp2
  go_ret
  exact⟨rfl,rfl⟩
theorem Tryz.psmall (c:Nat) (w:World):Calls Tryz.prog 65 #[.int .u8 c] w (PredSays (smlB c) w):=by
 obtain⟨p,hp⟩:∃p:Bool,p=decide (97≤c):=⟨_,rfl⟩
 have cp:decide ((97:Int)≤(c:Int))=p:=by rw[hp];exact decide_eq_decide.2 (by omega)
 obtain⟨q,hq⟩:∃p:Bool,p=decide (c≤122):=⟨_,rfl⟩
 have cq:decide ((c:Int)≤122)=q:=by rw[hq];exact decide_eq_decide.2 (by omega)
 unfold smlB
 rw[←hp,←hq]
 clear hp hq
 cases p
 all_goals cases q
 all_goals
  go_enter Tryz.func65,Tryz.ntmps65
  go_wp2
  go_ret
  exact⟨rfl,rfl⟩
end Go.Proofs
end
section
namespace Go.Lx
def rowN (p:Nat→Bool) (s:ByteArray):Nat→Nat→Nat
 |0,a=>a
 |n+1,a=>if h:a<s.size then(if p s[a].toNat then rowN p s n (a+1)else a)else a
def rowE (p:Nat→Bool) (s:ByteArray) (a:Nat):Nat:=rowN p s (s.size-a) a
theorem rowE_step {p:Nat→Bool} {s:ByteArray} {a:Nat}(h:a<s.size) (hp:p s[a].toNat=true):rowE p s a=rowE p s (a+1):=by
 unfold rowE
 obtain⟨n,hn⟩:∃n,s.size-a=n+1:=⟨s.size-a-1,by omega⟩
 have h2:s.size-(a+1)=n:=by omega
 rw[hn,h2]
 simp[rowN,h,hp]
theorem rowE_stop {p:Nat→Bool} {s:ByteArray} {a:Nat}(h:a<s.size) (hp:p s[a].toNat=false):rowE p s a=a:=by
 unfold rowE
 obtain⟨n,hn⟩:∃n,s.size-a=n+1:=⟨s.size-a-1,by omega⟩
 rw[hn]
 simp[rowN,h,hp]
theorem rowE_end {p:Nat→Bool} {s:ByteArray} {a:Nat}(h:s.size≤a):rowE p s a=a:=by
 unfold rowE
 rw[show s.size-a=0 by omega]
 rfl
theorem rowE_ge (p:Nat→Bool) (s:ByteArray) (a:Nat):a≤rowE p s a:=by
 unfold rowE
 generalize s.size-a=n
 induction n generalizing a with
 |zero=>exact nR _
 |succ n ih=>
  unfold rowN
  split
  ·split
   ·have:=ih (a+1);omega
   ·omega
  ·omega
theorem rowE_le (p:Nat→Bool) (s:ByteArray) (a:Nat) (h:a≤s.size):rowE p s a≤s.size:=by
 unfold rowE
 generalize s.size-a=n
 induction n generalizing a with
 |zero=>exact h
 |succ n ih=>
  unfold rowN
  split
  ·split
   ·exact ih (a+1) (by omega)
   ·omega
  ·omega
end Go.Lx
end
section
namespace Go.Proofs
open Go.RowKit Go.Pf Go.Lx
def RowEnd (R:Nat) (w:World) (e:Ending) (w':World):Prop:=e= .returned (.int .i64 R)∧w=w'
theorem row_ret {p q:Nat} {w:World}(h:p=q):RowEnd q w (.returned (.int .i64 p)) w:=by subst h;exact⟨rfl,rfl⟩
theorem Tryz.prowDig (s:ByteArray) (a:Nat) (w:World) (hs:s.size≤140737488355328) (ha:a≤140737488355328):Calls Tryz.prog 66 #[.string s,.int .i64 a,.func (.func 62) #[] #[]] w (RowEnd (rowE digB s a) w):=by
 obtain⟨R,hR⟩:∃R,R=rowE digB s a:=⟨_,rfl⟩
 rw[←hR]
 have HR:=Hi hR
 clear hR
 go_enter Tryz.func66,Tryz.ntmps66
 go_wp2
 go_loop [1] (fun v=>∃k:Nat,k≤140737488355328∧v= .int .i64 k∧R=rowE digB s k) (fun v=>s.size-(intOf v).toNat)
 case atStart=>exact⟨a,ha,rfl,HR.out⟩
 case round=>
  obtain⟨k,hk,rfl,hinv⟩:=hrel
  by_cases hlt:k<s.size
  ·obtain⟨c,hc⟩:∃c,c=s[k].toNat:=⟨_,rfl⟩
   have hcb:c<256:=by rw[hc];exact UInt8.toNat_lt _
   by_cases hp:digB c=true
   ·have HN:Hid (R=rowE digB s (k+1)):=Hi (by rw[hinv,rowE_step hlt (by rw[←hc];exact hp)])
    have CP:Hid (∀w,Calls Tryz.prog 62 #[.int .u8 s[k].toNat] w (PredSays true w)):=Hi (fun w=>by have h:=Tryz.pdigit s[k].toNat w;rwa [←hc,hp,hc]at h)
    clear hinv hp hc hcb
    go_wp2_with (go_at_call 62;(with_reducible refine(CP.out _).mono ?_);rintro e w' ⟨rfl,rfl⟩)
    go_round
    case rel=>exact⟨k+1,by omega,by go_num,HN.out⟩
    case measure=>simp[intOf];omega
   ·rw[Bool.not_eq_true]at hp
    have HF:Hid (k=R):=Hi (by rw[hinv,rowE_stop hlt (by rw[←hc];exact hp)])
    have CP:Hid (∀w,Calls Tryz.prog 62 #[.int .u8 s[k].toNat] w (PredSays false w)):=Hi (fun w=>by have h:=Tryz.pdigit s[k].toNat w;rwa [←hc,hp,hc]at h)
    clear hinv hp hc hcb
    go_wp2_with (go_at_call 62;(with_reducible refine(CP.out _).mono ?_);rintro e w' ⟨rfl,rfl⟩)
    go_ret
    exact row_ret HF.out
  ·have HF:Hid (k=R):=Hi (by rw[hinv,rowE_end (by omega)])
   clear hinv
   go_wp2
   go_ret
   exact row_ret HF.out
end Go.Proofs
end
section
namespace Go.Lx
def neB (c b:Nat):Bool:= !decide (b=c)
end Go.Lx
end
