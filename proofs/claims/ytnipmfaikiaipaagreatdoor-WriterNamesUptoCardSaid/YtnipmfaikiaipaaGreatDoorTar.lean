import Derived.Test.YtnipmfaikiaipaaGreatDoorTaa
import Derived.Test.YtnipmfaikiaipaaGreatDoorTao
set_option maxRecDepth 1000000
set_option maxHeartbeats 40000000
section
namespace Go.Lx
def digB (c:Nat):Bool:=decide (48≤c)&&decide (c≤57)
def smlB (c:Nat):Bool:=decide (97≤c)&&decide (c≤122)
def octB (c:Nat):Bool:=decide (48≤c)&&decide (c≤55)
def grtB (c:Nat):Bool:=decide (65≤c)&&decide (c≤90)||decide (c=95)
def blkB (c:Nat):Bool:=decide (9≤c)&&decide (c≤13)||decide (c=32)
def binB (c:Nat):Bool:=decide (c=48)||decide (c=49)
def letB (c:Nat):Bool:=smlB c||grtB c||digB c
def hexB (c:Nat):Bool:=digB c||(decide (97≤c)&&decide (c≤102))||(decide (65≤c)&&decide (c≤70))
end Go.Lx
namespace Go.Proofs
open Go.RowKit Go.Pf Go.Lx
def PredSays (p:Bool) (w:World) (e:Ending) (w':World):Prop:=e= .returned (.bool p)∧w=w'
theorem Tryz.pdigit (c:Nat) (w:World):Calls Tryz.prog 71 #[.int .u8 c] w (PredSays (digB c) w):=by
 obtain⟨p,hp⟩:∃p:Bool,p=decide (48≤c):=⟨_,rfl⟩
 have cp:decide ((48:Int)≤(c:Int))=p:=by rw[hp];exact decide_eq_decide.2 (by omega)
 obtain⟨q,hq⟩:∃p:Bool,p=decide (c≤57):=⟨_,rfl⟩
 have cq:decide ((c:Int)≤57)=q:=by rw[hq];exact decide_eq_decide.2 (by omega)
 unfold digB
 rw[←hp,←hq]
 clear hp hq
 cases p
 all_goals cases q
 all_goals
  go_enter Tryz.func71,Tryz.ntmps71
  go_wp2
  go_ret
  exact⟨rfl,rfl⟩
theorem Tryz.psmall (c:Nat) (w:World):Calls Tryz.prog 74 #[.int .u8 c] w (PredSays (smlB c) w):=by
 obtain⟨p,hp⟩:∃p:Bool,p=decide (97≤c):=⟨_,rfl⟩
 have cp:decide ((97:Int)≤(c:Int))=p:=by rw[hp];exact decide_eq_decide.2 (by omega)
 obtain⟨q,hq⟩:∃p:Bool,p=decide (c≤122):=⟨_,rfl⟩
 have cq:decide ((c:Int)≤122)=q:=by rw[hq];exact decide_eq_decide.2 (by omega)
 unfold smlB
 rw[←hp,←hq]
 clear hp hq
 cases p
 all_goals cases q
 all_goals
  go_enter Tryz.func74,Tryz.ntmps74
  go_wp2
  go_ret
  exact⟨rfl,rfl⟩
theorem Tryz.poctal (c:Nat) (w:World):Calls Tryz.prog 116 #[.int .u8 c] w (PredSays (octB c) w):=by
 obtain⟨p,hp⟩:∃p:Bool,p=decide (48≤c):=⟨_,rfl⟩
 have cp:decide ((48:Int)≤(c:Int))=p:=by rw[hp];exact decide_eq_decide.2 (by omega)
 obtain⟨q,hq⟩:∃p:Bool,p=decide (c≤55):=⟨_,rfl⟩
 have cq:decide ((c:Int)≤55)=q:=by rw[hq];exact decide_eq_decide.2 (by omega)
 unfold octB
 rw[←hp,←hq]
 clear hp hq
 cases p
 all_goals cases q
 all_goals
  go_enter Tryz.func116,Tryz.ntmps116
  go_wp2
  go_ret
  exact⟨rfl,rfl⟩
theorem Tryz.pgreat (c:Nat) (w:World):Calls Tryz.prog 77 #[.int .u8 c] w (PredSays (grtB c) w):=by
 obtain⟨p,hp⟩:∃p:Bool,p=decide (65≤c):=⟨_,rfl⟩
 have cp:decide ((65:Int)≤(c:Int))=p:=by rw[hp];exact decide_eq_decide.2 (by omega)
 obtain⟨q,hq⟩:∃p:Bool,p=decide (c≤90):=⟨_,rfl⟩
 have cq:decide ((c:Int)≤90)=q:=by rw[hq];exact decide_eq_decide.2 (by omega)
 obtain⟨r,hr⟩:∃p:Bool,p=decide (c=95):=⟨_,rfl⟩
 have cr:((c:Int)==95)=r:=by rw[hr];exact Bool.eq_iff_iff.2 (by simp;omega)
 unfold grtB
 rw[←hp,←hq,←hr]
 clear hp hq hr
 cases p
 all_goals cases q
 all_goals cases r
 all_goals
  go_enter Tryz.func77,Tryz.ntmps77
  go_wp2
  go_ret
  exact⟨rfl,rfl⟩
theorem Tryz.pblank (c:Nat) (w:World):Calls Tryz.prog 66 #[.int .u8 c] w (PredSays (blkB c) w):=by
 obtain⟨p,hp⟩:∃p:Bool,p=decide (9≤c):=⟨_,rfl⟩
 have cp:decide ((9:Int)≤(c:Int))=p:=by rw[hp];exact decide_eq_decide.2 (by omega)
 obtain⟨q,hq⟩:∃p:Bool,p=decide (c≤13):=⟨_,rfl⟩
 have cq:decide ((c:Int)≤13)=q:=by rw[hq];exact decide_eq_decide.2 (by omega)
 obtain⟨r,hr⟩:∃p:Bool,p=decide (c=32):=⟨_,rfl⟩
 have cr:((c:Int)==32)=r:=by rw[hr];exact Bool.eq_iff_iff.2 (by simp;omega)
 unfold blkB
 rw[←hp,←hq,←hr]
 clear hp hq hr
 cases p
 all_goals cases q
 all_goals cases r
 all_goals
  go_enter Tryz.func66,Tryz.ntmps66
  go_wp2
  go_ret
  exact⟨rfl,rfl⟩
theorem Tryz.pbin (c:Nat) (w:World):Calls Tryz.prog 115 #[.int .u8 c] w (PredSays (binB c) w):=by
 obtain⟨p,hp⟩:∃p:Bool,p=decide (c=48):=⟨_,rfl⟩
 have cp:((c:Int)==48)=p:=by rw[hp];exact Bool.eq_iff_iff.2 (by simp;omega)
 obtain⟨q,hq⟩:∃p:Bool,p=decide (c=49):=⟨_,rfl⟩
 have cq:((c:Int)==49)=q:=by rw[hq];exact Bool.eq_iff_iff.2 (by simp;omega)
 unfold binB
 rw[←hp,←hq]
 clear hp hq
 cases p
 all_goals cases q
 all_goals
  go_enter Tryz.func115,Tryz.ntmps115
  go_wp2
  go_ret
  exact⟨rfl,rfl⟩
theorem Tryz.pletter (c:Nat) (w:World):Calls Tryz.prog 76 #[.int .u8 c] w (PredSays (letB c) w):=by
 obtain⟨p,hp⟩:∃p:Bool,p=smlB c:=⟨_,rfl⟩
 obtain⟨q,hq⟩:∃p:Bool,p=grtB c:=⟨_,rfl⟩
 obtain⟨r,hr⟩:∃p:Bool,p=digB c:=⟨_,rfl⟩
 have CS:Hid (∀w,Calls Tryz.prog 74 #[.int .u8 c] w (PredSays p w)):=Hi (fun w=>by rw[hp];exact Tryz.psmall c w)
 have CG:Hid (∀w,Calls Tryz.prog 77 #[.int .u8 c] w (PredSays q w)):=Hi (fun w=>by rw[hq];exact Tryz.pgreat c w)
 have CD:Hid (∀w,Calls Tryz.prog 71 #[.int .u8 c] w (PredSays r w)):=Hi (fun w=>by rw[hr];exact Tryz.pdigit c w)
 unfold letB
 rw[←hp,←hq,←hr]
 clear hp hq hr
 cases p
 all_goals cases q
 all_goals cases r
 all_goals
  go_enter Tryz.func76,Tryz.ntmps76
  go_wp2_with (first|(go_at_call 74;(with_reducible refine(CS.out _).mono ?_);rintro e w' ⟨rfl,rfl⟩)|(go_at_call 77;(with_reducible refine(CG.out _).mono ?_);rintro e w' ⟨rfl,rfl⟩)|(go_at_call 71;(with_reducible refine(CD.out _).mono ?_);rintro e w' ⟨rfl,rfl⟩))
  go_ret
  exact⟨rfl,rfl⟩
theorem Tryz.phex (c:Nat) (w:World):Calls Tryz.prog 114 #[.int .u8 c] w (PredSays (hexB c) w):=by
 obtain⟨d,hd⟩:∃p:Bool,p=digB c:=⟨_,rfl⟩
 have CD:Hid (∀w,Calls Tryz.prog 71 #[.int .u8 c] w (PredSays d w)):=Hi (fun w=>by rw[hd];exact Tryz.pdigit c w)
 obtain⟨p,hp⟩:∃p:Bool,p=decide (97≤c):=⟨_,rfl⟩
 have cp:decide ((97:Int)≤(c:Int))=p:=by rw[hp];exact decide_eq_decide.2 (by omega)
 obtain⟨q,hq⟩:∃p:Bool,p=decide (c≤102):=⟨_,rfl⟩
 have cq:decide ((c:Int)≤102)=q:=by rw[hq];exact decide_eq_decide.2 (by omega)
 obtain⟨r,hr⟩:∃p:Bool,p=decide (65≤c):=⟨_,rfl⟩
 have cr:decide ((65:Int)≤(c:Int))=r:=by rw[hr];exact decide_eq_decide.2 (by omega)
 obtain⟨s,hs⟩:∃p:Bool,p=decide (c≤70):=⟨_,rfl⟩
 have cs:decide ((c:Int)≤70)=s:=by rw[hs];exact decide_eq_decide.2 (by omega)
 unfold hexB
 rw[←hd,←hp,←hq,←hr,←hs]
 clear hd hp hq hr hs
 cases d
 all_goals cases p
 all_goals cases q
 all_goals cases r
 all_goals cases s
 all_goals
  go_enter Tryz.func114,Tryz.ntmps114
  go_wp2_with (go_at_call 71;(with_reducible refine(CD.out _).mono ?_);rintro e w' ⟨rfl,rfl⟩)
  go_ret
  exact⟨rfl,rfl⟩
end Go.Proofs
end
section
namespace Go.Lx
def inN (s:ByteArray) (c:Nat):Nat→Nat→Bool
 |0,_=>false
 |n+1,i=>if h:i<s.size then(if s[i].toNat=c then true else inN s c n (i+1))else false
def inB (s:ByteArray) (c:Nat):Bool:=inN s c s.size 0
def rowN (p:Nat→Bool) (s:ByteArray):Nat→Nat→Nat
 |0,a=>a
 |n+1,a=>if h:a<s.size then(if p s[a].toNat then rowN p s n (a+1)else a)else a
def rowE (p:Nat→Bool) (s:ByteArray) (a:Nat):Nat:=rowN p s (s.size-a) a
theorem rowE_step {p:Nat→Bool} {s:ByteArray} {a:Nat}(h:a<s.size) (hp:p s[a].toNat=true):rowE p s a=rowE p s (a+1):=by
 unfold rowE
 obtain⟨n,hn⟩:∃n,s.size-a=n+1:=⟨s.size-a-1,by omega⟩
 have h2:s.size-(a+1)=n:=by omega
 rw[hn,h2]
 simp[rowN,h,hp]
theorem rowE_stop {p:Nat→Bool} {s:ByteArray} {a:Nat}(h:a<s.size) (hp:p s[a].toNat=false):rowE p s a=a:=by
 unfold rowE
 obtain⟨n,hn⟩:∃n,s.size-a=n+1:=⟨s.size-a-1,by omega⟩
 rw[hn]
 simp[rowN,h,hp]
theorem rowE_end {p:Nat→Bool} {s:ByteArray} {a:Nat}(h:s.size≤a):rowE p s a=a:=by
 unfold rowE
 rw[show s.size-a=0 by omega]
 rfl
theorem rowE_ge (p:Nat→Bool) (s:ByteArray) (a:Nat):a≤rowE p s a:=by
 unfold rowE
 generalize s.size-a=n
 induction n generalizing a with
 |zero=>exact nR _
 |succ n ih=>
  unfold rowN
  split
  ·split
   ·have:=ih (a+1);omega
   ·omega
  ·omega
theorem rowE_le (p:Nat→Bool) (s:ByteArray) (a:Nat) (h:a≤s.size):rowE p s a≤s.size:=by
 unfold rowE
 generalize s.size-a=n
 induction n generalizing a with
 |zero=>exact h
 |succ n ih=>
  unfold rowN
  split
  ·split
   ·exact ih (a+1) (by omega)
   ·omega
  ·omega
end Go.Lx
namespace Go.Proofs
open Go.RowKit Go.Pf Go.Lx
theorem pred_ret {p q:Bool} {w:World}(h:p=q):PredSays q w (.returned (.bool p)) w:=by subst h;exact⟨rfl,rfl⟩
end Go.Proofs
end
section
namespace Go.Lx
def sgnS:ByteArray:=⟨#[35,36,38,42,43,45,46,47,58,60,61,62,63,64,94,126,92]⟩
def punS:ByteArray:=⟨#[40,41,91,93,123,125,44,124]⟩
def sgnB (c:Nat):Bool:=inB sgnS c
def punB (c:Nat):Bool:=inB punS c
theorem ixAll:(List.range 256).all (fun c=>(decide (0≤Lib.indexByte sgnS.data.toList c.toUInt8)==sgnB c)&&(decide (0≤Lib.indexByte punS.data.toList c.toUInt8)==punB c))=true:=by kernel_rfl
theorem ixSgn {c:Nat}(h:c<256):decide (0≤Lib.indexByte sgnS.data.toList c.toUInt8)=sgnB c:=by
 have:=List.all_eq_true.1 ixAll c (List.mem_range.2 h)
 rw[Bool.and_eq_true]at this
 exact eq_of_beq this.1
theorem ixPun {c:Nat}(h:c<256):decide (0≤Lib.indexByte punS.data.toList c.toUInt8)=punB c:=by
 have:=List.all_eq_true.1 ixAll c (List.mem_range.2 h)
 rw[Bool.and_eq_true]at this
 exact eq_of_beq this.2
end Go.Lx
namespace Go.Proofs
open Go.RowKit Go.Pf Go.Lx
theorem Tryz.psign (c:Nat) (hc:c<256) (w:World):Calls Tryz.prog 78 #[.int .u8 c] w (PredSays (sgnB c) w):=by
 obtain⟨z,hz⟩:∃z,z=Lib.indexByte sgnS.data.toList c.toUInt8:=⟨_,rfl⟩
 have CI:Hid (∀w,Calls Tryz.prog 67 #[.string sgnS,.int .u8 c] w fun e w'=>e= .returned (.int .i64 z)∧w'=w):=Hi (fun w=>by rw[hz];exact Tryz.strings_IndexByte sgnS c w)
 have hp:=ixSgn hc
 rw[←hz]at hp
 rw[←hp]
 clear hp hz
 go_enter Tryz.func78,Tryz.ntmps78
 go_wp2_with (go_at_call 67;(refine(CI.out _).mono ?_);rintro e w' ⟨rfl,rfl⟩)
 go_ret
 exact pred_ret (by simp)
end Go.Proofs
end
section
namespace Go.Proofs
open Go.RowKit Go.Pf Go.Lx
def RowEnd (R:Nat) (w:World) (e:Ending) (w':World):Prop:=e= .returned (.int .i64 R)∧w=w'
theorem row_ret {p q:Nat} {w:World}(h:p=q):RowEnd q w (.returned (.int .i64 p)) w:=by subst h;exact⟨rfl,rfl⟩
theorem Tryz.prowDig (s:ByteArray) (a:Nat) (w:World) (hs:s.size≤140737488355328) (ha:a≤140737488355328):Calls Tryz.prog 75 #[.string s,.int .i64 a,.func (.func 71) #[] #[]] w (RowEnd (rowE digB s a) w):=by
 obtain⟨R,hR⟩:∃R,R=rowE digB s a:=⟨_,rfl⟩
 rw[←hR]
 have HR:=Hi hR
 clear hR
 go_enter Tryz.func75,Tryz.ntmps75
 go_wp2
 go_loop [1] (fun v=>∃k:Nat,k≤140737488355328∧v= .int .i64 k∧R=rowE digB s k) (fun v=>s.size-(intOf v).toNat)
 case atStart=>exact⟨a,ha,rfl,HR.out⟩
 case round=>
  obtain⟨k,hk,rfl,hinv⟩:=hrel
  by_cases hlt:k<s.size
  ·obtain⟨c,hc⟩:∃c,c=s[k].toNat:=⟨_,rfl⟩
   have hcb:c<256:=by rw[hc];exact UInt8.toNat_lt _
   by_cases hp:digB c=true
   ·have HN:Hid (R=rowE digB s (k+1)):=Hi (by rw[hinv,rowE_step hlt (by rw[←hc];exact hp)])
    have CP:Hid (∀w,Calls Tryz.prog 71 #[.int .u8 s[k].toNat] w (PredSays true w)):=Hi (fun w=>by have h:=Tryz.pdigit s[k].toNat w;rwa [←hc,hp,hc]at h)
    clear hinv hp hc hcb
    go_wp2_with (go_at_call 71;(with_reducible refine(CP.out _).mono ?_);rintro e w' ⟨rfl,rfl⟩)
    go_round
    case rel=>exact⟨k+1,by omega,by go_num,HN.out⟩
    case measure=>simp[intOf];omega
   ·rw[Bool.not_eq_true]at hp
    have HF:Hid (k=R):=Hi (by rw[hinv,rowE_stop hlt (by rw[←hc];exact hp)])
    have CP:Hid (∀w,Calls Tryz.prog 71 #[.int .u8 s[k].toNat] w (PredSays false w)):=Hi (fun w=>by have h:=Tryz.pdigit s[k].toNat w;rwa [←hc,hp,hc]at h)
    clear hinv hp hc hcb
    go_wp2_with (go_at_call 71;(with_reducible refine(CP.out _).mono ?_);rintro e w' ⟨rfl,rfl⟩)
    go_ret
    exact row_ret HF.out
  ·have HF:Hid (k=R):=Hi (by rw[hinv,rowE_end (by omega)])
   clear hinv
   go_wp2
   go_ret
   exact row_ret HF.out
theorem Tryz.prowLet (s:ByteArray) (a:Nat) (w:World) (hs:s.size≤140737488355328) (ha:a≤140737488355328):Calls Tryz.prog 75 #[.string s,.int .i64 a,.func (.func 76) #[] #[]] w (RowEnd (rowE letB s a) w):=by
 obtain⟨R,hR⟩:∃R,R=rowE letB s a:=⟨_,rfl⟩
 rw[←hR]
 have HR:=Hi hR
 clear hR
 go_enter Tryz.func75,Tryz.ntmps75
 go_wp2
 go_loop [1] (fun v=>∃k:Nat,k≤140737488355328∧v= .int .i64 k∧R=rowE letB s k) (fun v=>s.size-(intOf v).toNat)
 case atStart=>exact⟨a,ha,rfl,HR.out⟩
 case round=>
  obtain⟨k,hk,rfl,hinv⟩:=hrel
  by_cases hlt:k<s.size
  ·obtain⟨c,hc⟩:∃c,c=s[k].toNat:=⟨_,rfl⟩
   have hcb:c<256:=by rw[hc];exact UInt8.toNat_lt _
   by_cases hp:letB c=true
   ·have HN:Hid (R=rowE letB s (k+1)):=Hi (by rw[hinv,rowE_step hlt (by rw[←hc];exact hp)])
    have CP:Hid (∀w,Calls Tryz.prog 76 #[.int .u8 s[k].toNat] w (PredSays true w)):=Hi (fun w=>by have h:=Tryz.pletter s[k].toNat w;rwa [←hc,hp,hc]at h)
    clear hinv hp hc hcb
    go_wp2_with (go_at_call 76;(with_reducible refine(CP.out _).mono ?_);rintro e w' ⟨rfl,rfl⟩)
    go_round
    case rel=>exact⟨k+1,by omega,by go_num,HN.out⟩
    case measure=>simp[intOf];omega
   ·rw[Bool.not_eq_true]at hp
    have HF:Hid (k=R):=Hi (by rw[hinv,rowE_stop hlt (by rw[←hc];exact hp)])
    have CP:Hid (∀w,Calls Tryz.prog 76 #[.int .u8 s[k].toNat] w (PredSays false w)):=Hi (fun w=>by have h:=Tryz.pletter s[k].toNat w;rwa [←hc,hp,hc]at h)
    clear hinv hp hc hcb
    go_wp2_with (go_at_call 76;(with_reducible refine(CP.out _).mono ?_);rintro e w' ⟨rfl,rfl⟩)
    go_ret
    exact row_ret HF.out
  ·have HF:Hid (k=R):=Hi (by rw[hinv,rowE_end (by omega)])
   clear hinv
   go_wp2
   go_ret
   exact row_ret HF.out
theorem Tryz.prowSgn (s:ByteArray) (a:Nat) (w:World) (hs:s.size≤140737488355328) (ha:a≤140737488355328):Calls Tryz.prog 75 #[.string s,.int .i64 a,.func (.func 78) #[] #[]] w (RowEnd (rowE sgnB s a) w):=by
 obtain⟨R,hR⟩:∃R,R=rowE sgnB s a:=⟨_,rfl⟩
 rw[←hR]
 have HR:=Hi hR
 clear hR
 go_enter Tryz.func75,Tryz.ntmps75
 go_wp2
 go_loop [1] (fun v=>∃k:Nat,k≤140737488355328∧v= .int .i64 k∧R=rowE sgnB s k) (fun v=>s.size-(intOf v).toNat)
 case atStart=>exact⟨a,ha,rfl,HR.out⟩
 case round=>
  obtain⟨k,hk,rfl,hinv⟩:=hrel
  by_cases hlt:k<s.size
  ·obtain⟨c,hc⟩:∃c,c=s[k].toNat:=⟨_,rfl⟩
   have hcb:c<256:=by rw[hc];exact UInt8.toNat_lt _
   by_cases hp:sgnB c=true
   ·have HN:Hid (R=rowE sgnB s (k+1)):=Hi (by rw[hinv,rowE_step hlt (by rw[←hc];exact hp)])
    have CP:Hid (∀w,Calls Tryz.prog 78 #[.int .u8 s[k].toNat] w (PredSays true w)):=Hi (fun w=>by have h:=Tryz.psign s[k].toNat (UInt8.toNat_lt _) w;rwa [←hc,hp,hc]at h)
    clear hinv hp hc hcb
    go_wp2_with (go_at_call 78;(with_reducible refine(CP.out _).mono ?_);rintro e w' ⟨rfl,rfl⟩)
    go_round
    case rel=>exact⟨k+1,by omega,by go_num,HN.out⟩
    case measure=>simp[intOf];omega
   ·rw[Bool.not_eq_true]at hp
    have HF:Hid (k=R):=Hi (by rw[hinv,rowE_stop hlt (by rw[←hc];exact hp)])
    have CP:Hid (∀w,Calls Tryz.prog 78 #[.int .u8 s[k].toNat] w (PredSays false w)):=Hi (fun w=>by have h:=Tryz.psign s[k].toNat (UInt8.toNat_lt _) w;rwa [←hc,hp,hc]at h)
    clear hinv hp hc hcb
    go_wp2_with (go_at_call 78;(with_reducible refine(CP.out _).mono ?_);rintro e w' ⟨rfl,rfl⟩)
    go_ret
    exact row_ret HF.out
  ·have HF:Hid (k=R):=Hi (by rw[hinv,rowE_end (by omega)])
   clear hinv
   go_wp2
   go_ret
   exact row_ret HF.out
theorem Tryz.prowHex (s:ByteArray) (a:Nat) (w:World) (hs:s.size≤140737488355328) (ha:a≤140737488355328):Calls Tryz.prog 75 #[.string s,.int .i64 a,.func (.func 114) #[] #[]] w (RowEnd (rowE hexB s a) w):=by
 obtain⟨R,hR⟩:∃R,R=rowE hexB s a:=⟨_,rfl⟩
 rw[←hR]
 have HR:=Hi hR
 clear hR
 go_enter Tryz.func75,Tryz.ntmps75
 go_wp2
 go_loop [1] (fun v=>∃k:Nat,k≤140737488355328∧v= .int .i64 k∧R=rowE hexB s k) (fun v=>s.size-(intOf v).toNat)
 case atStart=>exact⟨a,ha,rfl,HR.out⟩
 case round=>
  obtain⟨k,hk,rfl,hinv⟩:=hrel
  by_cases hlt:k<s.size
  ·obtain⟨c,hc⟩:∃c,c=s[k].toNat:=⟨_,rfl⟩
   have hcb:c<256:=by rw[hc];exact UInt8.toNat_lt _
   by_cases hp:hexB c=true
   ·have HN:Hid (R=rowE hexB s (k+1)):=Hi (by rw[hinv,rowE_step hlt (by rw[←hc];exact hp)])
    have CP:Hid (∀w,Calls Tryz.prog 114 #[.int .u8 s[k].toNat] w (PredSays true w)):=Hi (fun w=>by have h:=Tryz.phex s[k].toNat w;rwa [←hc,hp,hc]at h)
    clear hinv hp hc hcb
    go_wp2_with (go_at_call 114;(with_reducible refine(CP.out _).mono ?_);rintro e w' ⟨rfl,rfl⟩)
    go_round
    case rel=>exact⟨k+1,by omega,by go_num,HN.out⟩
    case measure=>simp[intOf];omega
   ·rw[Bool.not_eq_true]at hp
    have HF:Hid (k=R):=Hi (by rw[hinv,rowE_stop hlt (by rw[←hc];exact hp)])
    have CP:Hid (∀w,Calls Tryz.prog 114 #[.int .u8 s[k].toNat] w (PredSays false w)):=Hi (fun w=>by have h:=Tryz.phex s[k].toNat w;rwa [←hc,hp,hc]at h)
    clear hinv hp hc hcb
    go_wp2_with (go_at_call 114;(with_reducible refine(CP.out _).mono ?_);rintro e w' ⟨rfl,rfl⟩)
    go_ret
    exact row_ret HF.out
  ·have HF:Hid (k=R):=Hi (by rw[hinv,rowE_end (by omega)])
   clear hinv
   go_wp2
   go_ret
   exact row_ret HF.out
theorem Tryz.prowOct (s:ByteArray) (a:Nat) (w:World) (hs:s.size≤140737488355328) (ha:a≤140737488355328):Calls Tryz.prog 75 #[.string s,.int .i64 a,.func (.func 116) #[] #[]] w (RowEnd (rowE octB s a) w):=by
 obtain⟨R,hR⟩:∃R,R=rowE octB s a:=⟨_,rfl⟩
 rw[←hR]
 have HR:=Hi hR
 clear hR
 go_enter Tryz.func75,Tryz.ntmps75
 go_wp2
 go_loop [1] (fun v=>∃k:Nat,k≤140737488355328∧v= .int .i64 k∧R=rowE octB s k) (fun v=>s.size-(intOf v).toNat)
 case atStart=>exact⟨a,ha,rfl,HR.out⟩
 case round=>
  obtain⟨k,hk,rfl,hinv⟩:=hrel
  by_cases hlt:k<s.size
  ·obtain⟨c,hc⟩:∃c,c=s[k].toNat:=⟨_,rfl⟩
   have hcb:c<256:=by rw[hc];exact UInt8.toNat_lt _
   by_cases hp:octB c=true
   ·have HN:Hid (R=rowE octB s (k+1)):=Hi (by rw[hinv,rowE_step hlt (by rw[←hc];exact hp)])
    have CP:Hid (∀w,Calls Tryz.prog 116 #[.int .u8 s[k].toNat] w (PredSays true w)):=Hi (fun w=>by have h:=Tryz.poctal s[k].toNat w;rwa [←hc,hp,hc]at h)
    clear hinv hp hc hcb
    go_wp2_with (go_at_call 116;(with_reducible refine(CP.out _).mono ?_);rintro e w' ⟨rfl,rfl⟩)
    go_round
    case rel=>exact⟨k+1,by omega,by go_num,HN.out⟩
    case measure=>simp[intOf];omega
   ·rw[Bool.not_eq_true]at hp
    have HF:Hid (k=R):=Hi (by rw[hinv,rowE_stop hlt (by rw[←hc];exact hp)])
    have CP:Hid (∀w,Calls Tryz.prog 116 #[.int .u8 s[k].toNat] w (PredSays false w)):=Hi (fun w=>by have h:=Tryz.poctal s[k].toNat w;rwa [←hc,hp,hc]at h)
    clear hinv hp hc hcb
    go_wp2_with (go_at_call 116;(with_reducible refine(CP.out _).mono ?_);rintro e w' ⟨rfl,rfl⟩)
    go_ret
    exact row_ret HF.out
  ·have HF:Hid (k=R):=Hi (by rw[hinv,rowE_end (by omega)])
   clear hinv
   go_wp2
   go_ret
   exact row_ret HF.out
theorem Tryz.prowBin (s:ByteArray) (a:Nat) (w:World) (hs:s.size≤140737488355328) (ha:a≤140737488355328):Calls Tryz.prog 75 #[.string s,.int .i64 a,.func (.func 115) #[] #[]] w (RowEnd (rowE binB s a) w):=by
 obtain⟨R,hR⟩:∃R,R=rowE binB s a:=⟨_,rfl⟩
 rw[←hR]
 have HR:=Hi hR
 clear hR
 go_enter Tryz.func75,Tryz.ntmps75
 go_wp2
 go_loop [1] (fun v=>∃k:Nat,k≤140737488355328∧v= .int .i64 k∧R=rowE binB s k) (fun v=>s.size-(intOf v).toNat)
 case atStart=>exact⟨a,ha,rfl,HR.out⟩
 case round=>
  obtain⟨k,hk,rfl,hinv⟩:=hrel
  by_cases hlt:k<s.size
  ·obtain⟨c,hc⟩:∃c,c=s[k].toNat:=⟨_,rfl⟩
   have hcb:c<256:=by rw[hc];exact UInt8.toNat_lt _
   by_cases hp:binB c=true
   ·have HN:Hid (R=rowE binB s (k+1)):=Hi (by rw[hinv,rowE_step hlt (by rw[←hc];exact hp)])
    have CP:Hid (∀w,Calls Tryz.prog 115 #[.int .u8 s[k].toNat] w (PredSays true w)):=Hi (fun w=>by have h:=Tryz.pbin s[k].toNat w;rwa [←hc,hp,hc]at h)
    clear hinv hp hc hcb
    go_wp2_with (go_at_call 115;(with_reducible refine(CP.out _).mono ?_);rintro e w' ⟨rfl,rfl⟩)
    go_round
    case rel=>exact⟨k+1,by omega,by go_num,HN.out⟩
    case measure=>simp[intOf];omega
   ·rw[Bool.not_eq_true]at hp
    have HF:Hid (k=R):=Hi (by rw[hinv,rowE_stop hlt (by rw[←hc];exact hp)])
    have CP:Hid (∀w,Calls Tryz.prog 115 #[.int .u8 s[k].toNat] w (PredSays false w)):=Hi (fun w=>by have h:=Tryz.pbin s[k].toNat w;rwa [←hc,hp,hc]at h)
    clear hinv hp hc hcb
    go_wp2_with (go_at_call 115;(with_reducible refine(CP.out _).mono ?_);rintro e w' ⟨rfl,rfl⟩)
    go_ret
    exact row_ret HF.out
  ·have HF:Hid (k=R):=Hi (by rw[hinv,rowE_end (by omega)])
   clear hinv
   go_wp2
   go_ret
   exact row_ret HF.out
end Go.Proofs
end
section
namespace Go.Lx
def neB (c b:Nat):Bool:= !decide (b=c)
end Go.Lx
end
