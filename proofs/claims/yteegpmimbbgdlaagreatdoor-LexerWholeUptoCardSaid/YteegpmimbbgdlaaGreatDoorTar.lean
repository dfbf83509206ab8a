import Derived.Test.YteegpmimbbgdlaaGreatDoorTaa
import Derived.Test.YteegpmimbbgdlaaGreatDoorTao
set_option maxRecDepth 1000000
set_option maxHeartbeats 40000000
section
namespace Go.Lx
def digB (c:Nat):Bool:=decide (48≤c)&&decide (c≤57)
def smlB (c:Nat):Bool:=decide (97≤c)&&decide (c≤122)
def octB (c:Nat):Bool:=decide (48≤c)&&decide (c≤55)
def grtB (c:Nat):Bool:=decide (65≤c)&&decide (c≤90)||decide (c=95)
def blkB (c:Nat):Bool:=decide (9≤c)&&decide (c≤13)||decide (c=32)
def binB (c:Nat):Bool:=decide (c=48)||decide (c=49)
def letB (c:Nat):Bool:=smlB c||grtB c||digB c
def hexB (c:Nat):Bool:=digB c||(decide (97≤c)&&decide (c≤102))||(decide (65≤c)&&decide (c≤70))
end Go.Lx
namespace Go.Proofs
open Go.RowKit Go.Pf Go.Lx
def PredSays (p:Bool) (w:World) (e:Ending) (w':World):Prop:=e= .returned (.bool p)∧w=w'
theorem Tryz.pdigit (c:Nat) (w:World):Calls Tryz.prog 45 #[.int .u8 c] w (PredSays (digB c) w):=by
 obtain⟨p,hp⟩:∃p:Bool,p=decide (48≤c):=⟨_,rfl⟩
 have cp:decide ((48:Int)≤(c:Int))=p:=by rw[hp];exact decide_eq_decide.2 (by omega)
 obtain⟨q,hq⟩:∃p:Bool,p=decide (c≤57):=⟨_,rfl⟩
 have cq:decide ((c:Int)≤57)=q:=by rw[hq];exact decide_eq_decide.2 (by omega)
 unfold digB
 rw[←hp,←hq]
 clear hp hq
 cases p
 all_goals cases q
 all_goals
  go_enter Tryz.func45,Tryz.ntmps45
  go_wp2
  go_ret
  exact⟨rfl,rfl⟩
theorem Tryz.rdigit3 (c:Nat) (w:World):Calls Tryz.prog 56 #[.int .u8 c] w (PredSays (digB c) w):=by
 obtain⟨p,hp⟩:∃p:Bool,p=decide (48≤c):=⟨_,rfl⟩
 have cp:decide ((48:Int)≤(c:Int))=p:=by rw[hp];exact decide_eq_decide.2 (by omega)
 obtain⟨q,hq⟩:∃p:Bool,p=decide (c≤57):=⟨_,rfl⟩
 have cq:decide ((c:Int)≤57)=q:=by rw[hq];exact decide_eq_decide.2 (by omega)
 unfold digB
 rw[←hp,←hq]
 clear hp hq
 cases p
 all_goals cases q
 all_goals
  go_enter Tryz.func56,Tryz.ntmps56
  go_wp2
  go_ret
  exact⟨rfl,rfl⟩
theorem Tryz.psmall (c:Nat) (w:World):Calls Tryz.prog 48 #[.int .u8 c] w (PredSays (smlB c) w):=by
 obtain⟨p,hp⟩:∃p:Bool,p=decide (97≤c):=⟨_,rfl⟩
 have cp:decide ((97:Int)≤(c:Int))=p:=by rw[hp];exact decide_eq_decide.2 (by omega)
 obtain⟨q,hq⟩:∃p:Bool,p=decide (c≤122):=⟨_,rfl⟩
 have cq:decide ((c:Int)≤122)=q:=by rw[hq];exact decide_eq_decide.2 (by omega)
 unfold smlB
 rw[←hp,←hq]
 clear hp hq
 cases p
 all_goals cases q
 all_goals
  go_enter Tryz.func48,Tryz.ntmps48
  go_wp2
  go_ret
  exact⟨rfl,rfl⟩
theorem Tryz.rsmall3 (c:Nat) (w:World):Calls Tryz.prog 59 #[.int .u8 c] w (PredSays (smlB c) w):=by
 obtain⟨p,hp⟩:∃p:Bool,p=decide (97≤c):=⟨_,rfl⟩
 have cp:decide ((97:Int)≤(c:Int))=p:=by rw[hp];exact decide_eq_decide.2 (by omega)
 obtain⟨q,hq⟩:∃p:Bool,p=decide (c≤122):=⟨_,rfl⟩
 have cq:decide ((c:Int)≤122)=q:=by rw[hq];exact decide_eq_decide.2 (by omega)
 unfold smlB
 rw[←hp,←hq]
 clear hp hq
 cases p
 all_goals cases q
 all_goals
  go_enter Tryz.func59,Tryz.ntmps59
  go_wp2
  go_ret
  exact⟨rfl,rfl⟩
theorem Tryz.poctal (c:Nat) (w:World):Calls Tryz.prog 72 #[.int .u8 c] w (PredSays (octB c) w):=by
 obtain⟨p,hp⟩:∃p:Bool,p=decide (48≤c):=⟨_,rfl⟩
 have cp:decide ((48:Int)≤(c:Int))=p:=by rw[hp];exact decide_eq_decide.2 (by omega)
 obtain⟨q,hq⟩:∃p:Bool,p=decide (c≤55):=⟨_,rfl⟩
 have cq:decide ((c:Int)≤55)=q:=by rw[hq];exact decide_eq_decide.2 (by omega)
 unfold octB
 rw[←hp,←hq]
 clear hp hq
 cases p
 all_goals cases q
 all_goals
  go_enter Tryz.func72,Tryz.ntmps72
  go_wp2
  go_ret
  exact⟨rfl,rfl⟩
theorem Tryz.pgreat (c:Nat) (w:World):Calls Tryz.prog 51 #[.int .u8 c] w (PredSays (grtB c) w):=by
 obtain⟨p,hp⟩:∃p:Bool,p=decide (65≤c):=⟨_,rfl⟩
 have cp:decide ((65:Int)≤(c:Int))=p:=by rw[hp];exact decide_eq_decide.2 (by omega)
 obtain⟨q,hq⟩:∃p:Bool,p=decide (c≤90):=⟨_,rfl⟩
 have cq:decide ((c:Int)≤90)=q:=by rw[hq];exact decide_eq_decide.2 (by omega)
 obtain⟨r,hr⟩:∃p:Bool,p=decide (c=95):=⟨_,rfl⟩
 have cr:((c:Int)==95)=r:=by rw[hr];exact Bool.eq_iff_iff.2 (by simp;omega)
 unfold grtB
 rw[←hp,←hq,←hr]
 clear hp hq hr
 cases p
 all_goals cases q
 all_goals cases r
 all_goals
  go_enter Tryz.func51,Tryz.ntmps51
  go_wp2
  go_ret
  exact⟨rfl,rfl⟩
theorem Tryz.rgreat3 (c:Nat) (w:World):Calls Tryz.prog 61 #[.int .u8 c] w (PredSays (grtB c) w):=by
 obtain⟨p,hp⟩:∃p:Bool,p=decide (65≤c):=⟨_,rfl⟩
 have cp:decide ((65:Int)≤(c:Int))=p:=by rw[hp];exact decide_eq_decide.2 (by omega)
 obtain⟨q,hq⟩:∃p:Bool,p=decide (c≤90):=⟨_,rfl⟩
 have cq:decide ((c:Int)≤90)=q:=by rw[hq];exact decide_eq_decide.2 (by omega)
 obtain⟨r,hr⟩:∃p:Bool,p=decide (c=95):=⟨_,rfl⟩
 have cr:((c:Int)==95)=r:=by rw[hr];exact Bool.eq_iff_iff.2 (by simp;omega)
 unfold grtB
 rw[←hp,←hq,←hr]
 clear hp hq hr
 cases p
 all_goals cases q
 all_goals cases r
 all_goals
  go_enter Tryz.func61,Tryz.ntmps61
  go_wp2
  go_ret
  exact⟨rfl,rfl⟩
theorem Tryz.pblank (c:Nat) (w:World):Calls Tryz.prog 40 #[.int .u8 c] w (PredSays (blkB c) w):=by
 obtain⟨p,hp⟩:∃p:Bool,p=decide (9≤c):=⟨_,rfl⟩
 have cp:decide ((9:Int)≤(c:Int))=p:=by rw[hp];exact decide_eq_decide.2 (by omega)
 obtain⟨q,hq⟩:∃p:Bool,p=decide (c≤13):=⟨_,rfl⟩
 have cq:decide ((c:Int)≤13)=q:=by rw[hq];exact decide_eq_decide.2 (by omega)
 obtain⟨r,hr⟩:∃p:Bool,p=decide (c=32):=⟨_,rfl⟩
 have cr:((c:Int)==32)=r:=by rw[hr];exact Bool.eq_iff_iff.2 (by simp;omega)
 unfold blkB
 rw[←hp,←hq,←hr]
 clear hp hq hr
 cases p
 all_goals cases q
 all_goals cases r
 all_goals
  go_enter Tryz.func40,Tryz.ntmps40
  go_wp2
  go_ret
  exact⟨rfl,rfl⟩
theorem Tryz.rblank3 (c:Nat) (w:World):Calls Tryz.prog 53 #[.int .u8 c] w (PredSays (blkB c) w):=by
 obtain⟨p,hp⟩:∃p:Bool,p=decide (9≤c):=⟨_,rfl⟩
 have cp:decide ((9:Int)≤(c:Int))=p:=by rw[hp];exact decide_eq_decide.2 (by omega)
 obtain⟨q,hq⟩:∃p:Bool,p=decide (c≤13):=⟨_,rfl⟩
 have cq:decide ((c:Int)≤13)=q:=by rw[hq];exact decide_eq_decide.2 (by omega)
 obtain⟨r,hr⟩:∃p:Bool,p=decide (c=32):=⟨_,rfl⟩
 have cr:((c:Int)==32)=r:=by rw[hr];exact Bool.eq_iff_iff.2 (by simp;omega)
 unfold blkB
 rw[←hp,←hq,←hr]
 clear hp hq hr
 cases p
 all_goals cases q
 all_goals cases r
 all_goals
  go_enter Tryz.func53,Tryz.ntmps53
  go_wp2
  go_ret
  exact⟨rfl,rfl⟩
theorem Tryz.pbin (c:Nat) (w:World):Calls Tryz.prog 71 #[.int .u8 c] w (PredSays (binB c) w):=by
 obtain⟨p,hp⟩:∃p:Bool,p=decide (c=48):=⟨_,rfl⟩
 have cp:((c:Int)==48)=p:=by rw[hp];exact Bool.eq_iff_iff.2 (by simp;omega)
 obtain⟨q,hq⟩:∃p:Bool,p=decide (c=49):=⟨_,rfl⟩
 have cq:((c:Int)==49)=q:=by rw[hq];exact Bool.eq_iff_iff.2 (by simp;omega)
 unfold binB
 rw[←hp,←hq]
 clear hp hq
 cases p
 all_goals cases q
 all_goals
  go_enter Tryz.func71,Tryz.ntmps71
  go_wp2
  go_ret
  exact⟨rfl,rfl⟩
theorem Tryz.pletter (c:Nat) (w:World):Calls Tryz.prog 50 #[.int .u8 c] w (PredSays (letB c) w):=by
 obtain⟨p,hp⟩:∃p:Bool,p=smlB c:=⟨_,rfl⟩
 obtain⟨q,hq⟩:∃p:Bool,p=grtB c:=⟨_,rfl⟩
 obtain⟨r,hr⟩:∃p:Bool,p=digB c:=⟨_,rfl⟩
 have CS:Hid (∀w,Calls Tryz.prog 48 #[.int .u8 c] w (PredSays p w)):=Hi (fun w=>by rw[hp];exact Tryz.psmall c w)
 have CG:Hid (∀w,Calls Tryz.prog 51 #[.int .u8 c] w (PredSays q w)):=Hi (fun w=>by rw[hq];exact Tryz.pgreat c w)
 have CD:Hid (∀w,Calls Tryz.prog 45 #[.int .u8 c] w (PredSays r w)):=Hi (fun w=>by rw[hr];exact Tryz.pdigit c w)
 unfold letB
 rw[←hp,←hq,←hr]
 clear hp hq hr
 cases p
 all_goals cases q
 all_goals cases r
 all_goals
  go_enter Tryz.func50,Tryz.ntmps50
  go_wp2_with (first|(go_at_call 48;(with_reducible refine(CS.out _).mono ?_);rintro e w' ⟨rfl,rfl⟩)|(go_at_call 51;(with_reducible refine(CG.out _).mono ?_);rintro e w' ⟨rfl,rfl⟩)|(go_at_call 45;(with_reducible refine(CD.out _).mono ?_);rintro e w' ⟨rfl,rfl⟩))
  go_ret
  exact⟨rfl,rfl⟩
theorem Tryz.rletter3 (c:Nat) (w:World):Calls Tryz.prog 86 #[.int .u8 c] w (PredSays (letB c) w):=by
 obtain⟨p,hp⟩:∃p:Bool,p=smlB c:=⟨_,rfl⟩
 obtain⟨q,hq⟩:∃p:Bool,p=grtB c:=⟨_,rfl⟩
 obtain⟨r,hr⟩:∃p:Bool,p=digB c:=⟨_,rfl⟩
 have CS:Hid (∀w,Calls Tryz.prog 59 #[.int .u8 c] w (PredSays p w)):=Hi (fun w=>by rw[hp];exact Tryz.rsmall3 c w)
 have CG:Hid (∀w,Calls Tryz.prog 61 #[.int .u8 c] w (PredSays q w)):=Hi (fun w=>by rw[hq];exact Tryz.rgreat3 c w)
 have CD:Hid (∀w,Calls Tryz.prog 56 #[.int .u8 c] w (PredSays r w)):=Hi (fun w=>by rw[hr];exact Tryz.rdigit3 c w)
 unfold letB
 rw[←hp,←hq,←hr]
 clear hp hq hr
 cases p
 all_goals cases q
 all_goals cases r
 all_goals
  go_enter Tryz.func86,Tryz.ntmps86
  go_wp2_with (first|(go_at_call 59;(with_reducible refine(CS.out _).mono ?_);rintro e w' ⟨rfl,rfl⟩)|(go_at_call 61;(with_reducible refine(CG.out _).mono ?_);rintro e w' ⟨rfl,rfl⟩)|(go_at_call 56;(with_reducible refine(CD.out _).mono ?_);rintro e w' ⟨rfl,rfl⟩))
  go_ret
  exact⟨rfl,rfl⟩
theorem Tryz.phex (c:Nat) (w:World):Calls Tryz.prog 70 #[.int .u8 c] w (PredSays (hexB c) w):=by
 obtain⟨d,hd⟩:∃p:Bool,p=digB c:=⟨_,rfl⟩
 have CD:Hid (∀w,Calls Tryz.prog 45 #[.int .u8 c] w (PredSays d w)):=Hi (fun w=>by rw[hd];exact Tryz.pdigit c w)
 obtain⟨p,hp⟩:∃p:Bool,p=decide (97≤c):=⟨_,rfl⟩
 have cp:decide ((97:Int)≤(c:Int))=p:=by rw[hp];exact decide_eq_decide.2 (by omega)
 obtain⟨q,hq⟩:∃p:Bool,p=decide (c≤102):=⟨_,rfl⟩
 have cq:decide ((c:Int)≤102)=q:=by rw[hq];exact decide_eq_decide.2 (by omega)
 obtain⟨r,hr⟩:∃p:Bool,p=decide (65≤c):=⟨_,rfl⟩
 have cr:decide ((65:Int)≤(c:Int))=r:=by rw[hr];exact decide_eq_decide.2 (by omega)
 obtain⟨s,hs⟩:∃p:Bool,p=decide (c≤70):=⟨_,rfl⟩
 have cs:decide ((c:Int)≤70)=s:=by rw[hs];exact decide_eq_decide.2 (by omega)
 unfold hexB
 rw[←hd,←hp,←hq,←hr,←hs]
 clear hd hp hq hr hs
 cases d
 all_goals cases p
 all_goals cases q
 all_goals cases r
 all_goals cases s
 all_goals
  go_enter Tryz.func70,Tryz.ntmps70
  go_wp2_with (go_at_call 45;(with_reducible refine(CD.out _).mono ?_);rintro e w' ⟨rfl,rfl⟩)
  go_ret
  exact⟨rfl,rfl⟩
end Go.Proofs
end
section
namespace Go.Lx
def inN (s:ByteArray) (c:Nat):Nat→Nat→Bool
 |0,_=>false
 |n+1,i=>if h:i<s.size then(if s[i].toNat=c then true else inN s c n (i+1))else false
def inB (s:ByteArray) (c:Nat):Bool:=inN s c s.size 0
def rowN (p:Nat→Bool) (s:ByteArray):Nat→Nat→Nat
 |0,a=>a
 |n+1,a=>if h:a<s.size then(if p s[a].toNat then rowN p s n (a+1)else a)else a
def rowE (p:Nat→Bool) (s:ByteArray) (a:Nat):Nat:=rowN p s (s.size-a) a
theorem rowE_step {p:Nat→Bool} {s:ByteArray} {a:Nat}(h:a<s.size) (hp:p s[a].toNat=true):rowE p s a=rowE p s (a+1):=by
 unfold rowE
 obtain⟨n,hn⟩:∃n,s.size-a=n+1:=⟨s.size-a-1,by omega⟩
 have h2:s.size-(a+1)=n:=by omega
 rw[hn,h2]
 simp[rowN,h,hp]
theorem rowE_stop {p:Nat→Bool} {s:ByteArray} {a:Nat}(h:a<s.size) (hp:p s[a].toNat=false):rowE p s a=a:=by
 unfold rowE
 obtain⟨n,hn⟩:∃n,s.size-a=n+1:=⟨s.size-a-1,by omega⟩
 rw[hn]
 simp[rowN,h,hp]
theorem rowE_end {p:Nat→Bool} {s:ByteArray} {a:Nat}(h:s.size≤a):rowE p s a=a:=by
 unfold rowE
 rw[show s.size-a=0 by omega]
 rfl
theorem rowE_ge (p:Nat→Bool) (s:ByteArray) (a:Nat):a≤rowE p s a:=by
 unfold rowE
 generalize s.size-a=n
 induction n generalizing a with
 |zero=>exact nR _
 |succ n ih=>
  unfold rowN
  split
  ·split
   ·have:=ih (a+1);omega
   ·omega
  ·omega
theorem rowE_le (p:Nat→Bool) (s:ByteArray) (a:Nat) (h:a≤s.size):rowE p s a≤s.size:=by
 unfold rowE
 generalize s.size-a=n
 induction n generalizing a with
 |zero=>exact h
 |succ n ih=>
  unfold rowN
  split
  ·split
   ·exact ih (a+1) (by omega)
   ·omega
  ·omega
theorem inN_step {s:ByteArray} {c n i:Nat}(h:i<s.size) (hc:s[i].toNat≠c):inN s c (n+1) i=inN s c n (i+1):=by
 simp[inN,h,hc]
end Go.Lx
namespace Go.Proofs
open Go.RowKit Go.Pf Go.Lx
theorem pred_ret {p q:Bool} {w:World}(h:p=q):PredSays q w (.returned (.bool p)) w:=by subst h;exact⟨rfl,rfl⟩
theorem Tryz.rin (s:ByteArray) (c:Nat) (w:World) (hs:s.size≤1000000):Calls Tryz.prog 63 #[.int .u8 c,.string s] w (PredSays (inB s c) w):=by
 obtain⟨R,hR⟩:∃R,R=inB s c:=⟨_,rfl⟩
 rw[←hR]
 have HR:=Hi hR
 clear hR
 go_enter Tryz.func63,Tryz.ntmps63
 go_wp2
 go_loop [5] (fun v=>∃i:Nat,i≤s.size∧v= .int .i64 i∧R=inN s c (s.size-i) i) (fun v=>s.size-(intOf v).toNat)
 case atStart=>exact⟨0,Nat.zero_le _,rfl,HR.out⟩
 case round=>
  obtain⟨i,hi,rfl,hinv⟩:=hrel
  by_cases hlt:i<s.size
  ·obtain⟨n,hn⟩:∃n,s.size-i=n+1:=⟨s.size-i-1,by omega⟩
   by_cases hc:s[i].toNat=c
   ·have e1:((s[i].toNat:Int)==(c:Int))=true:=by rw[hc];exact beq_self_eq_true _
    have HF:Hid (R=true):=Hi (by rw[hinv,hn];simp[inN,hlt,hc])
    clear hinv hn hc
    go_wp2
    go_ret
    exact pred_ret HF.out.symm
   ·have e1:((s[i].toNat:Int)==(c:Int))=false:=eqf hc
    have HN:Hid (R=inN s c (s.size-(i+1)) (i+1)):=Hi (by rw[hinv,hn,inN_step hlt hc];congr 1;omega)
    clear hinv hn hc
    go_wp2
    go_round
    case rel=>exact⟨i+1,by omega,by go_num,HN.out⟩
    case measure=>simp[intOf];omega
  ·have HF:Hid (R=false):=Hi (by rw[hinv,show s.size-i=0 by omega];rfl)
   clear hinv
   go_wp2
   go_ret
   exact pred_ret HF.out.symm
end Go.Proofs
end
section
namespace Go.Lx
def sgnS:ByteArray:=⟨#[35,36,38,42,43,45,46,47,58,60,61,62,63,64,94,126,92]⟩
def punS:ByteArray:=⟨#[40,41,91,93,123,125,44,124]⟩
def sgnB (c:Nat):Bool:=inB sgnS c
def punB (c:Nat):Bool:=inB punS c
theorem ixAll:(List.range 256).all (fun c=>(decide (0≤Lib.indexByte sgnS.data.toList c.toUInt8)==sgnB c)&&(decide (0≤Lib.indexByte punS.data.toList c.toUInt8)==punB c))=true:=by kernel_rfl
theorem ixSgn {c:Nat}(h:c<256):decide (0≤Lib.indexByte sgnS.data.toList c.toUInt8)=sgnB c:=by
 have:=List.all_eq_true.1 ixAll c (List.mem_range.2 h)
 rw[Bool.and_eq_true]at this
 exact eq_of_beq this.1
theorem ixPun {c:Nat}(h:c<256):decide (0≤Lib.indexByte punS.data.toList c.toUInt8)=punB c:=by
 have:=List.all_eq_true.1 ixAll c (List.mem_range.2 h)
 rw[Bool.and_eq_true]at this
 exact eq_of_beq this.2
end Go.Lx
namespace Go.Proofs
open Go.RowKit Go.Pf Go.Lx
theorem Tryz.rsign3 (c:Nat) (w:World):Calls Tryz.prog 62 #[.int .u8 c] w (PredSays (sgnB c) w):=by
 have CI:Hid (∀w,Calls Tryz.prog 63 #[.int .u8 c,.string sgnS] w (PredSays (sgnB c) w)):=Hi (fun w=>Tryz.rin sgnS c w (by decide))
 obtain⟨p,hp⟩:∃p,p=sgnB c:=⟨_,rfl⟩
 rw[←hp]at CI⊢
 clear hp
 go_enter Tryz.func62,Tryz.ntmps62
 go_wp2_with (go_at_call 63;(refine(CI.out _).mono ?_);rintro e w' ⟨rfl,rfl⟩)
 go_ret
 exact⟨rfl,rfl⟩
theorem Tryz.psign (c:Nat) (hc:c<256) (w:World):Calls Tryz.prog 52 #[.int .u8 c] w (PredSays (sgnB c) w):=by
 obtain⟨z,hz⟩:∃z,z=Lib.indexByte sgnS.data.toList c.toUInt8:=⟨_,rfl⟩
 have CI:Hid (∀w,Calls Tryz.prog 41 #[.string sgnS,.int .u8 c] w fun e w'=>e= .returned (.int .i64 z)∧w'=w):=Hi (fun w=>by rw[hz];exact Tryz.strings_IndexByte sgnS c w)
 have hp:=ixSgn hc
 rw[←hz]at hp
 rw[←hp]
 clear hp hz
 go_enter Tryz.func52,Tryz.ntmps52
 go_wp2_with (go_at_call 41;(refine(CI.out _).mono ?_);rintro e w' ⟨rfl,rfl⟩)
 go_ret
 exact pred_ret (by simp)
end Go.Proofs
end
section
namespace Go.Lx
def hexS:ByteArray:=⟨#[48,49,50,51,52,53,54,55,56,57,97,98,99,100,101,102,65,66,67,68,69,70]⟩
theorem hexAll:(List.range 256).all (fun c=>inB hexS c==hexB c)=true:=by kernel_rfl
theorem hexIn {c:Nat}(h:c<256):inB hexS c=hexB c:=eq_of_beq (List.all_eq_true.1 hexAll c (List.mem_range.2 h))
end Go.Lx
namespace Go.Proofs
open Go.RowKit Go.Pf Go.Lx
def RowEnd (R:Nat) (w:World) (e:Ending) (w':World):Prop:=e= .returned (.int .i64 R)∧w=w'
theorem row_ret {p q:Nat} {w:World}(h:p=q):RowEnd q w (.returned (.int .i64 p)) w:=by subst h;exact⟨rfl,rfl⟩
theorem Tryz.prowDig (s:ByteArray) (a:Nat) (w:World) (hs:s.size≤140737488355328) (ha:a≤140737488355328):Calls Tryz.prog 49 #[.string s,.int .i64 a,.func (.func 45) #[] #[]] w (RowEnd (rowE digB s a) w):=by
 obtain⟨R,hR⟩:∃R,R=rowE digB s a:=⟨_,rfl⟩
 rw[←hR]
 have HR:=Hi hR
 clear hR
 go_enter Tryz.func49,Tryz.ntmps49
 go_wp2
 go_loop [1] (fun v=>∃k:Nat,k≤140737488355328∧v= .int .i64 k∧R=rowE digB s k) (fun v=>s.size-(intOf v).toNat)
 case atStart=>exact⟨a,ha,rfl,HR.out⟩
 case round=>
  obtain⟨k,hk,rfl,hinv⟩:=hrel
  by_cases hlt:k<s.size
  ·obtain⟨c,hc⟩:∃c,c=s[k].toNat:=⟨_,rfl⟩
   have hcb:c<256:=by rw[hc];exact UInt8.toNat_lt _
   by_cases hp:digB c=true
   ·have HN:Hid (R=rowE digB s (k+1)):=Hi (by rw[hinv,rowE_step hlt (by rw[←hc];exact hp)])
    have CP:Hid (∀w,Calls Tryz.prog 45 #[.int .u8 s[k].toNat] w (PredSays true w)):=Hi (fun w=>by have h:=Tryz.pdigit s[k].toNat w;rwa [←hc,hp,hc]at h)
    clear hinv hp hc hcb
    go_wp2_with (go_at_call 45;(with_reducible refine(CP.out _).mono ?_);rintro e w' ⟨rfl,rfl⟩)
    go_round
    case rel=>exact⟨k+1,by omega,by go_num,HN.out⟩
    case measure=>simp[intOf];omega
   ·rw[Bool.not_eq_true]at hp
    have HF:Hid (k=R):=Hi (by rw[hinv,rowE_stop hlt (by rw[←hc];exact hp)])
    have CP:Hid (∀w,Calls Tryz.prog 45 #[.int .u8 s[k].toNat] w (PredSays false w)):=Hi (fun w=>by have h:=Tryz.pdigit s[k].toNat w;rwa [←hc,hp,hc]at h)
    clear hinv hp hc hcb
    go_wp2_with (go_at_call 45;(with_reducible refine(CP.out _).mono ?_);rintro e w' ⟨rfl,rfl⟩)
    go_ret
    exact row_ret HF.out
  ·have HF:Hid (k=R):=Hi (by rw[hinv,rowE_end (by omega)])
   clear hinv
   go_wp2
   go_ret
   exact row_ret HF.out
theorem Tryz.prowLet (s:ByteArray) (a:Nat) (w:World) (hs:s.size≤140737488355328) (ha:a≤140737488355328):Calls Tryz.prog 49 #[.string s,.int .i64 a,.func (.func 50) #[] #[]] w (RowEnd (rowE letB s a) w):=by
 obtain⟨R,hR⟩:∃R,R=rowE letB s a:=⟨_,rfl⟩
 rw[←hR]
 have HR:=Hi hR
 clear hR
 go_enter Tryz.func49,Tryz.ntmps49
 go_wp2
 go_loop [1] (fun v=>∃k:Nat,k≤140737488355328∧v= .int .i64 k∧R=rowE letB s k) (fun v=>s.size-(intOf v).toNat)
 case atStart=>exact⟨a,ha,rfl,HR.out⟩
 case round=>
  obtain⟨k,hk,rfl,hinv⟩:=hrel
  by_cases hlt:k<s.size
  ·obtain⟨c,hc⟩:∃c,c=s[k].toNat:=⟨_,rfl⟩
   have hcb:c<256:=by rw[hc];exact UInt8.toNat_lt _
   by_cases hp:letB c=true
   ·have HN:Hid (R=rowE letB s (k+1)):=Hi (by rw[hinv,rowE_step hlt (by rw[←hc];exact hp)])
    have CP:Hid (∀w,Calls Tryz.prog 50 #[.int .u8 s[k].toNat] w (PredSays true w)):=Hi (fun w=>by have h:=Tryz.pletter s[k].toNat w;rwa [←hc,hp,hc]at h)
    clear hinv hp hc hcb
    go_wp2_with (go_at_call 50;(with_reducible refine(CP.out _).mono ?_);rintro e w' ⟨rfl,rfl⟩)
    go_round
    case rel=>exact⟨k+1,by omega,by go_num,HN.out⟩
    case measure=>simp[intOf];omega
   ·rw[Bool.not_eq_true]at hp
    have HF:Hid (k=R):=Hi (by rw[hinv,rowE_stop hlt (by rw[←hc];exact hp)])
    have CP:Hid (∀w,Calls Tryz.prog 50 #[.int .u8 s[k].toNat] w (PredSays false w)):=Hi (fun w=>by have h:=Tryz.pletter s[k].toNat w;rwa [←hc,hp,hc]at h)
    clear hinv hp hc hcb
    go_wp2_with (go_at_call 50;(with_reducible refine(CP.out _).mono ?_);rintro e w' ⟨rfl,rfl⟩)
    go_ret
    exact row_ret HF.out
  ·have HF:Hid (k=R):=Hi (by rw[hinv,rowE_end (by omega)])
   clear hinv
   go_wp2
   go_ret
   exact row_ret HF.out
theorem Tryz.prowSgn (s:ByteArray) (a:Nat) (w:World) (hs:s.size≤140737488355328) (ha:a≤140737488355328):Calls Tryz.prog 49 #[.string s,.int .i64 a,.func (.func 52) #[] #[]] w (RowEnd (rowE sgnB s a) w):=by
 obtain⟨R,hR⟩:∃R,R=rowE sgnB s a:=⟨_,rfl⟩
 rw[←hR]
 have HR:=Hi hR
 clear hR
 go_enter Tryz.func49,Tryz.ntmps49
 go_wp2
 go_loop [1] (fun v=>∃k:Nat,k≤140737488355328∧v= .int .i64 k∧R=rowE sgnB s k) (fun v=>s.size-(intOf v).toNat)
 case atStart=>exact⟨a,ha,rfl,HR.out⟩
 case round=>
  obtain⟨k,hk,rfl,hinv⟩:=hrel
  by_cases hlt:k<s.size
  ·obtain⟨c,hc⟩:∃c,c=s[k].toNat:=⟨_,rfl⟩
   have hcb:c<256:=by rw[hc];exact UInt8.toNat_lt _
   by_cases hp:sgnB c=true
   ·have HN:Hid (R=rowE sgnB s (k+1)):=Hi (by rw[hinv,rowE_step hlt (by rw[←hc];exact hp)])
    have CP:Hid (∀w,Calls Tryz.prog 52 #[.int .u8 s[k].toNat] w (PredSays true w)):=Hi (fun w=>by have h:=Tryz.psign s[k].toNat (UInt8.toNat_lt _) w;rwa [←hc,hp,hc]at h)
    clear hinv hp hc hcb
    go_wp2_with (go_at_call 52;(with_reducible refine(CP.out _).mono ?_);rintro e w' ⟨rfl,rfl⟩)
    go_round
    case rel=>exact⟨k+1,by omega,by go_num,HN.out⟩
    case measure=>simp[intOf];omega
   ·rw[Bool.not_eq_true]at hp
    have HF:Hid (k=R):=Hi (by rw[hinv,rowE_stop hlt (by rw[←hc];exact hp)])
    have CP:Hid (∀w,Calls Tryz.prog 52 #[.int .u8 s[k].toNat] w (PredSays false w)):=Hi (fun w=>by have h:=Tryz.psign s[k].toNat (UInt8.toNat_lt _) w;rwa [←hc,hp,hc]at h)
    clear hinv hp hc hcb
    go_wp2_with (go_at_call 52;(with_reducible refine(CP.out _).mono ?_);rintro e w' ⟨rfl,rfl⟩)
    go_ret
    exact row_ret HF.out
  ·have HF:Hid (k=R):=Hi (by rw[hinv,rowE_end (by omega)])
   clear hinv
   go_wp2
   go_ret
   exact row_ret HF.out
theorem Tryz.prowHex (s:ByteArray) (a:Nat) (w:World) (hs:s.size≤140737488355328) (ha:a≤140737488355328):Calls Tryz.prog 49 #[.string s,.int .i64 a,.func (.func 70) #[] #[]] w (RowEnd (rowE hexB s a) w):=by
 obtain⟨R,hR⟩:∃R,R=rowE hexB s a:=⟨_,rfl⟩
 rw[←hR]
 have HR:=Hi hR
 clear hR
 go_enter Tryz.func49,Tryz.ntmps49
 go_wp2
 go_loop [1] (fun v=>∃k:Nat,k≤140737488355328∧v= .int .i64 k∧R=rowE hexB s k) (fun v=>s.size-(intOf v).toNat)
 case atStart=>exact⟨a,ha,rfl,HR.out⟩
 case round=>
  obtain⟨k,hk,rfl,hinv⟩:=hrel
  by_cases hlt:k<s.size
  ·obtain⟨c,hc⟩:∃c,c=s[k].toNat:=⟨_,rfl⟩
   have hcb:c<256:=by rw[hc];exact UInt8.toNat_lt _
   by_cases hp:hexB c=true
   ·have HN:Hid (R=rowE hexB s (k+1)):=Hi (by rw[hinv,rowE_step hlt (by rw[←hc];exact hp)])
    have CP:Hid (∀w,Calls Tryz.prog 70 #[.int .u8 s[k].toNat] w (PredSays true w)):=Hi (fun w=>by have h:=Tryz.phex s[k].toNat w;rwa [←hc,hp,hc]at h)
    clear hinv hp hc hcb
    go_wp2_with (go_at_call 70;(with_reducible refine(CP.out _).mono ?_);rintro e w' ⟨rfl,rfl⟩)
    go_round
    case rel=>exact⟨k+1,by omega,by go_num,HN.out⟩
    case measure=>simp[intOf];omega
   ·rw[Bool.not_eq_true]at hp
    have HF:Hid (k=R):=Hi (by rw[hinv,rowE_stop hlt (by rw[←hc];exact hp)])
    have CP:Hid (∀w,Calls Tryz.prog 70 #[.int .u8 s[k].toNat] w (PredSays false w)):=Hi (fun w=>by have h:=Tryz.phex s[k].toNat w;rwa [←hc,hp,hc]at h)
    clear hinv hp hc hcb
    go_wp2_with (go_at_call 70;(with_reducible refine(CP.out _).mono ?_);rintro e w' ⟨rfl,rfl⟩)
    go_ret
    exact row_ret HF.out
  ·have HF:Hid (k=R):=Hi (by rw[hinv,rowE_end (by omega)])
   clear hinv
   go_wp2
   go_ret
   exact row_ret HF.out
theorem Tryz.prowOct (s:ByteArray) (a:Nat) (w:World) (hs:s.size≤140737488355328) (ha:a≤140737488355328):Calls Tryz.prog 49 #[.string s,.int .i64 a,.func (.func 72) #[] #[]] w (RowEnd (rowE octB s a) w):=by
 obtain⟨R,hR⟩:∃R,R=rowE octB s a:=⟨_,rfl⟩
 rw[←hR]
 have HR:=Hi hR
 clear hR
 go_enter Tryz.func49,Tryz.ntmps49
 go_wp2
 go_loop [1] (fun v=>∃k:Nat,k≤140737488355328∧v= .int .i64 k∧R=rowE octB s k) (fun v=>s.size-(intOf v).toNat)
 case atStart=>exact⟨a,ha,rfl,HR.out⟩
 case round=>
  obtain⟨k,hk,rfl,hinv⟩:=hrel
  by_cases hlt:k<s.size
  ·obtain⟨c,hc⟩:∃c,c=s[k].toNat:=⟨_,rfl⟩
   have hcb:c<256:=by rw[hc];exact UInt8.toNat_lt _
   by_cases hp:octB c=true
   ·have HN:Hid (R=rowE octB s (k+1)):=Hi (by rw[hinv,rowE_step hlt (by rw[←hc];exact hp)])
    have CP:Hid (∀w,Calls Tryz.prog 72 #[.int .u8 s[k].toNat] w (PredSays true w)):=Hi (fun w=>by have h:=Tryz.poctal s[k].toNat w;rwa [←hc,hp,hc]at h)
    clear hinv hp hc hcb
    go_wp2_with (go_at_call 72;(with_reducible refine(CP.out _).mono ?_);rintro e w' ⟨rfl,rfl⟩)
    go_round
    case rel=>exact⟨k+1,by omega,by go_num,HN.out⟩
    case measure=>simp[intOf];omega
   ·rw[Bool.not_eq_true]at hp
    have HF:Hid (k=R):=Hi (by rw[hinv,rowE_stop hlt (by rw[←hc];exact hp)])
    have CP:Hid (∀w,Calls Tryz.prog 72 #[.int .u8 s[k].toNat] w (PredSays false w)):=Hi (fun w=>by have h:=Tryz.poctal s[k].toNat w;rwa [←hc,hp,hc]at h)
    clear hinv hp hc hcb
    go_wp2_with (go_at_call 72;(with_reducible refine(CP.out _).mono ?_);rintro e w' ⟨rfl,rfl⟩)
    go_ret
    exact row_ret HF.out
  ·have HF:Hid (k=R):=Hi (by rw[hinv,rowE_end (by omega)])
   clear hinv
   go_wp2
   go_ret
   exact row_ret HF.out
theorem Tryz.prowBin (s:ByteArray) (a:Nat) (w:World) (hs:s.size≤140737488355328) (ha:a≤140737488355328):Calls Tryz.prog 49 #[.string s,.int .i64 a,.func (.func 71) #[] #[]] w (RowEnd (rowE binB s a) w):=by
 obtain⟨R,hR⟩:∃R,R=rowE binB s a:=⟨_,rfl⟩
 rw[←hR]
 have HR:=Hi hR
 clear hR
 go_enter Tryz.func49,Tryz.ntmps49
 go_wp2
 go_loop [1] (fun v=>∃k:Nat,k≤140737488355328∧v= .int .i64 k∧R=rowE binB s k) (fun v=>s.size-(intOf v).toNat)
 case atStart=>exact⟨a,ha,rfl,HR.out⟩
 case round=>
  obtain⟨k,hk,rfl,hinv⟩:=hrel
  by_cases hlt:k<s.size
  ·obtain⟨c,hc⟩:∃c,c=s[k].toNat:=⟨_,rfl⟩
   have hcb:c<256:=by rw[hc];exact UInt8.toNat_lt _
   by_cases hp:binB c=true
   ·have HN:Hid (R=rowE binB s (k+1)):=Hi (by rw[hinv,rowE_step hlt (by rw[←hc];exact hp)])
    have CP:Hid (∀w,Calls Tryz.prog 71 #[.int .u8 s[k].toNat] w (PredSays true w)):=Hi (fun w=>by have h:=Tryz.pbin s[k].toNat w;rwa [←hc,hp,hc]at h)
    clear hinv hp hc hcb
    go_wp2_with (go_at_call 71;(with_reducible refine(CP.out _).mono ?_);rintro e w' ⟨rfl,rfl⟩)
    go_round
    case rel=>exact⟨k+1,by omega,by go_num,HN.out⟩
    case measure=>simp[intOf];omega
   ·rw[Bool.not_eq_true]at hp
    have HF:Hid (k=R):=Hi (by rw[hinv,rowE_stop hlt (by rw[←hc];exact hp)])
    have CP:Hid (∀w,Calls Tryz.prog 71 #[.int .u8 s[k].toNat] w (PredSays false w)):=Hi (fun w=>by have h:=Tryz.pbin s[k].toNat w;rwa [←hc,hp,hc]at h)
    clear hinv hp hc hcb
    go_wp2_with (go_at_call 71;(with_reducible refine(CP.out _).mono ?_);rintro e w' ⟨rfl,rfl⟩)
    go_ret
    exact row_ret HF.out
  ·have HF:Hid (k=R):=Hi (by rw[hinv,rowE_end (by omega)])
   clear hinv
   go_wp2
   go_ret
   exact row_ret HF.out
theorem Tryz.rrowLet (s:ByteArray) (a:Nat) (w:World) (hs:s.size≤140737488355328) (ha:a≤140737488355328):Calls Tryz.prog 60 #[.string s,.int .i64 a,.int .i64 1] w (RowEnd (rowE letB s a) w):=by
 obtain⟨R,hR⟩:∃R,R=rowE letB s a:=⟨_,rfl⟩
 rw[←hR]
 have HR:=Hi hR
 clear hR
 go_enter Tryz.func60,Tryz.ntmps60
 go_wp2
 go_loop [1,7,8] (fun v _ _=>∃k:Nat,k≤140737488355328∧v= .int .i64 k∧R=rowE letB s k) (fun v _ _=>s.size-(intOf v).toNat)
 case atStart=>exact⟨a,ha,rfl,HR.out⟩
 case round=>
  obtain⟨k,hk,rfl,hinv⟩:=hrel
  by_cases hlt:k<s.size
  ·obtain⟨c,hc⟩:∃c,c=s[k].toNat:=⟨_,rfl⟩
   have hcb:c<256:=by rw[hc];exact UInt8.toNat_lt _
   by_cases hp:letB c=true
   ·have HN:Hid (R=rowE letB s (k+1)):=Hi (by rw[hinv,rowE_step hlt (by rw[←hc];exact hp)])
    have CP:Hid (∀w,Calls Tryz.prog 86 #[.int .u8 s[k].toNat] w (PredSays true w)):=Hi (fun w=>by have h:=Tryz.rletter3 s[k].toNat w;rwa [←hc,hp,hc]at h)
    clear hinv hp hc hcb
    go_wp2_with (go_at_call 86;(with_reducible refine(CP.out _).mono ?_);rintro e w' ⟨rfl,rfl⟩)
    go_round
    case rel=>exact⟨k+1,by omega,by go_num,HN.out⟩
    case measure=>simp[intOf];omega
   ·rw[Bool.not_eq_true]at hp
    have HF:Hid (k=R):=Hi (by rw[hinv,rowE_stop hlt (by rw[←hc];exact hp)])
    have CP:Hid (∀w,Calls Tryz.prog 86 #[.int .u8 s[k].toNat] w (PredSays false w)):=Hi (fun w=>by have h:=Tryz.rletter3 s[k].toNat w;rwa [←hc,hp,hc]at h)
    clear hinv hp hc hcb
    go_wp2_with (go_at_call 86;(with_reducible refine(CP.out _).mono ?_);rintro e w' ⟨rfl,rfl⟩)
    go_ret
    exact row_ret HF.out
  ·have HF:Hid (k=R):=Hi (by rw[hinv,rowE_end (by omega)])
   clear hinv
   go_wp2
   go_ret
   exact row_ret HF.out
theorem Tryz.rrowSgn (s:ByteArray) (a:Nat) (w:World) (hs:s.size≤140737488355328) (ha:a≤140737488355328):Calls Tryz.prog 60 #[.string s,.int .i64 a,.int .i64 2] w (RowEnd (rowE sgnB s a) w):=by
 obtain⟨R,hR⟩:∃R,R=rowE sgnB s a:=⟨_,rfl⟩
 rw[←hR]
 have HR:=Hi hR
 clear hR
 go_enter Tryz.func60,Tryz.ntmps60
 go_wp2
 go_loop [1,7,8] (fun v _ _=>∃k:Nat,k≤140737488355328∧v= .int .i64 k∧R=rowE sgnB s k) (fun v _ _=>s.size-(intOf v).toNat)
 case atStart=>exact⟨a,ha,rfl,HR.out⟩
 case round=>
  obtain⟨k,hk,rfl,hinv⟩:=hrel
  by_cases hlt:k<s.size
  ·obtain⟨c,hc⟩:∃c,c=s[k].toNat:=⟨_,rfl⟩
   have hcb:c<256:=by rw[hc];exact UInt8.toNat_lt _
   by_cases hp:sgnB c=true
   ·have HN:Hid (R=rowE sgnB s (k+1)):=Hi (by rw[hinv,rowE_step hlt (by rw[←hc];exact hp)])
    have CP:Hid (∀w,Calls Tryz.prog 62 #[.int .u8 s[k].toNat] w (PredSays true w)):=Hi (fun w=>by have h:=Tryz.rsign3 s[k].toNat w;rwa [←hc,hp,hc]at h)
    clear hinv hp hc hcb
    go_wp2_with (go_at_call 62;(with_reducible refine(CP.out _).mono ?_);rintro e w' ⟨rfl,rfl⟩)
    go_round
    case rel=>exact⟨k+1,by omega,by go_num,HN.out⟩
    case measure=>simp[intOf];omega
   ·rw[Bool.not_eq_true]at hp
    have HF:Hid (k=R):=Hi (by rw[hinv,rowE_stop hlt (by rw[←hc];exact hp)])
    have CP:Hid (∀w,Calls Tryz.prog 62 #[.int .u8 s[k].toNat] w (PredSays false w)):=Hi (fun w=>by have h:=Tryz.rsign3 s[k].toNat w;rwa [←hc,hp,hc]at h)
    clear hinv hp hc hcb
    go_wp2_with (go_at_call 62;(with_reducible refine(CP.out _).mono ?_);rintro e w' ⟨rfl,rfl⟩)
    go_ret
    exact row_ret HF.out
  ·have HF:Hid (k=R):=Hi (by rw[hinv,rowE_end (by omega)])
   clear hinv
   go_wp2
   go_ret
   exact row_ret HF.out
theorem Tryz.rrowDig (s:ByteArray) (a:Nat) (w:World) (hs:s.size≤140737488355328) (ha:a≤140737488355328):Calls Tryz.prog 60 #[.string s,.int .i64 a,.int .i64 3] w (RowEnd (rowE digB s a) w):=by
 obtain⟨R,hR⟩:∃R,R=rowE digB s a:=⟨_,rfl⟩
 rw[←hR]
 have HR:=Hi hR
 clear hR
 go_enter Tryz.func60,Tryz.ntmps60
 go_wp2
 go_loop [1,7,8] (fun v _ _=>∃k:Nat,k≤140737488355328∧v= .int .i64 k∧R=rowE digB s k) (fun v _ _=>s.size-(intOf v).toNat)
 case atStart=>exact⟨a,ha,rfl,HR.out⟩
 case round=>
  obtain⟨k,hk,rfl,hinv⟩:=hrel
  by_cases hlt:k<s.size
  ·obtain⟨c,hc⟩:∃c,c=s[k].toNat:=⟨_,rfl⟩
   have hcb:c<256:=by rw[hc];exact UInt8.toNat_lt _
   by_cases hp:digB c=true
   ·have HN:Hid (R=rowE digB s (k+1)):=Hi (by rw[hinv,rowE_step hlt (by rw[←hc];exact hp)])
    have CP:Hid (∀w,Calls Tryz.prog 56 #[.int .u8 s[k].toNat] w (PredSays true w)):=Hi (fun w=>by have h:=Tryz.rdigit3 s[k].toNat w;rwa [←hc,hp,hc]at h)
    clear hinv hp hc hcb
    go_wp2_with (go_at_call 56;(with_reducible refine(CP.out _).mono ?_);rintro e w' ⟨rfl,rfl⟩)
    go_round
    case rel=>exact⟨k+1,by omega,by go_num,HN.out⟩
    case measure=>simp[intOf];omega
   ·rw[Bool.not_eq_true]at hp
    have HF:Hid (k=R):=Hi (by rw[hinv,rowE_stop hlt (by rw[←hc];exact hp)])
    have CP:Hid (∀w,Calls Tryz.prog 56 #[.int .u8 s[k].toNat] w (PredSays false w)):=Hi (fun w=>by have h:=Tryz.rdigit3 s[k].toNat w;rwa [←hc,hp,hc]at h)
    clear hinv hp hc hcb
    go_wp2_with (go_at_call 56;(with_reducible refine(CP.out _).mono ?_);rintro e w' ⟨rfl,rfl⟩)
    go_ret
    exact row_ret HF.out
  ·have HF:Hid (k=R):=Hi (by rw[hinv,rowE_end (by omega)])
   clear hinv
   go_wp2
   go_ret
   exact row_ret HF.out
theorem Tryz.rrowHex (s:ByteArray) (a:Nat) (w:World) (hs:s.size≤140737488355328) (ha:a≤140737488355328):Calls Tryz.prog 60 #[.string s,.int .i64 a,.int .i64 4] w (RowEnd (rowE hexB s a) w):=by
 obtain⟨R,hR⟩:∃R,R=rowE hexB s a:=⟨_,rfl⟩
 rw[←hR]
 have HR:=Hi hR
 clear hR
 go_enter Tryz.func60,Tryz.ntmps60
 go_wp2
 go_loop [1,7,8] (fun v _ _=>∃k:Nat,k≤140737488355328∧v= .int .i64 k∧R=rowE hexB s k) (fun v _ _=>s.size-(intOf v).toNat)
 case atStart=>exact⟨a,ha,rfl,HR.out⟩
 case round=>
  obtain⟨k,hk,rfl,hinv⟩:=hrel
  by_cases hlt:k<s.size
  ·obtain⟨c,hc⟩:∃c,c=s[k].toNat:=⟨_,rfl⟩
   have hcb:c<256:=by rw[hc];exact UInt8.toNat_lt _
   by_cases hp:hexB c=true
   ·have HN:Hid (R=rowE hexB s (k+1)):=Hi (by rw[hinv,rowE_step hlt (by rw[←hc];exact hp)])
    have CP:Hid (∀w,Calls Tryz.prog 63 #[.int .u8 s[k].toNat,.string hexS] w (PredSays true w)):=Hi (fun w=>by have h:=Tryz.rin hexS s[k].toNat w (by decide);rwa [hexIn (UInt8.toNat_lt _),←hc,hp,hc]at h)
    clear hinv hp hc hcb
    go_wp2_with (go_at_call 63;(refine(CP.out _).mono ?_);rintro e w' ⟨rfl,rfl⟩)
    go_round
    case rel=>exact⟨k+1,by omega,by go_num,HN.out⟩
    case measure=>simp[intOf];omega
   ·rw[Bool.not_eq_true]at hp
    have HF:Hid (k=R):=Hi (by rw[hinv,rowE_stop hlt (by rw[←hc];exact hp)])
    have CP:Hid (∀w,Calls Tryz.prog 63 #[.int .u8 s[k].toNat,.string hexS] w (PredSays false w)):=Hi (fun w=>by have h:=Tryz.rin hexS s[k].toNat w (by decide);rwa [hexIn (UInt8.toNat_lt _),←hc,hp,hc]at h)
    clear hinv hp hc hcb
    go_wp2_with (go_at_call 63;(refine(CP.out _).mono ?_);rintro e w' ⟨rfl,rfl⟩)
    go_ret
    exact row_ret HF.out
  ·have HF:Hid (k=R):=Hi (by rw[hinv,rowE_end (by omega)])
   clear hinv
   go_wp2
   go_ret
   exact row_ret HF.out
end Go.Proofs
end
section
namespace Go.Proofs
open Go.RowKit Go.Pf Go.Lx
theorem Tryz.rrowOct (s:ByteArray) (a:Nat) (w:World) (hs:s.size≤140737488355328) (ha:a≤140737488355328):Calls Tryz.prog 60 #[.string s,.int .i64 a,.int .i64 5] w (RowEnd (rowE octB s a) w):=by
 obtain⟨R,hR⟩:∃R,R=rowE octB s a:=⟨_,rfl⟩
 rw[←hR]
 have HR:=Hi hR
 clear hR
 go_enter Tryz.func60,Tryz.ntmps60
 go_wp2
 go_loop [1,7,8] (fun v _ _=>∃k:Nat,k≤140737488355328∧v= .int .i64 k∧R=rowE octB s k) (fun v _ _=>s.size-(intOf v).toNat)
 case atStart=>exact⟨a,ha,rfl,HR.out⟩
 case round=>
  obtain⟨k,hk,rfl,hinv⟩:=hrel
  by_cases hlt:k<s.size
  ·by_cases hp:octB s[k].toNat=true
   ·have HN:Hid (R=rowE octB s (k+1)):=Hi (by rw[hinv,rowE_step hlt hp])
    have hq:48≤s[k].toNat∧s[k].toNat≤55:=by simpa[octB]using hp
    clear hinv hp
    rcases hq with⟨h1,h2⟩
    ·have c1:decide ((48:Int)≤(s[k].toNat:Int))=true:=dTo
     have c2:decide ((s[k].toNat:Int)≤55)=true:=dTo
     clear h1 h2
     go_wp2
     go_round
     case rel=>exact⟨k+1,by omega,by go_num,HN.out⟩
     case measure=>simp[intOf];omega
   ·rw[Bool.not_eq_true]at hp
    have HF:Hid (k=R):=Hi (by rw[hinv,rowE_stop hlt hp])
    have hq:s[k].toNat<48∨(48≤s[k].toNat∧55<s[k].toNat):=by simp[octB]at hp;omega
    clear hinv hp
    rcases hq with h1|⟨h1,h2⟩
    ·have c1:decide ((48:Int)≤(s[k].toNat:Int))=false:=dFo
     clear h1
     go_wp2
     go_ret
     exact row_ret HF.out
    ·have c1:decide ((48:Int)≤(s[k].toNat:Int))=true:=dTo
     have c2:decide ((s[k].toNat:Int)≤55)=false:=dFo
     clear h1 h2
     go_wp2
     go_ret
     exact row_ret HF.out
  ·have HF:Hid (k=R):=Hi (by rw[hinv,rowE_end (by omega)])
   clear hinv
   go_wp2
   go_ret
   exact row_ret HF.out
theorem Tryz.rrowBin (s:ByteArray) (a:Nat) (w:World) (hs:s.size≤140737488355328) (ha:a≤140737488355328):Calls Tryz.prog 60 #[.string s,.int .i64 a,.int .i64 6] w (RowEnd (rowE binB s a) w):=by
 obtain⟨R,hR⟩:∃R,R=rowE binB s a:=⟨_,rfl⟩
 rw[←hR]
 have HR:=Hi hR
 clear hR
 go_enter Tryz.func60,Tryz.ntmps60
 go_wp2
 go_loop [1,7,8] (fun v _ _=>∃k:Nat,k≤140737488355328∧v= .int .i64 k∧R=rowE binB s k) (fun v _ _=>s.size-(intOf v).toNat)
 case atStart=>exact⟨a,ha,rfl,HR.out⟩
 case round=>
  obtain⟨k,hk,rfl,hinv⟩:=hrel
  by_cases hlt:k<s.size
  ·by_cases hp:binB s[k].toNat=true
   ·have HN:Hid (R=rowE binB s (k+1)):=Hi (by rw[hinv,rowE_step hlt hp])
    have hq:s[k].toNat=48∨s[k].toNat=49:=by simpa[binB]using hp
    clear hinv hp
    rcases hq with h1|h1
    ·have c1:((s[k].toNat:Int)==48)=true:=by rw[h1];rfl
     clear h1
     go_wp2
     go_round
     case rel=>exact⟨k+1,by omega,by go_num,HN.out⟩
     case measure=>simp[intOf];omega
    ·have c1:((s[k].toNat:Int)==48)=false:=eqf (n:=48) (by omega)
     have c2:((s[k].toNat:Int)==49)=true:=by rw[h1];rfl
     clear h1
     go_wp2
     go_round
     case rel=>exact⟨k+1,by omega,by go_num,HN.out⟩
     case measure=>simp[intOf];omega
   ·rw[Bool.not_eq_true]at hp
    have HF:Hid (k=R):=Hi (by rw[hinv,rowE_stop hlt hp])
    have hq:s[k].toNat≠48∧s[k].toNat≠49:=by simp[binB]at hp;omega
    clear hinv hp
    rcases hq with⟨h1,h2⟩
    ·have c1:((s[k].toNat:Int)==48)=false:=eqf (n:=48) (by omega)
     have c2:((s[k].toNat:Int)==49)=false:=eqf (n:=49) (by omega)
     clear h1 h2
     go_wp2
     go_ret
     exact row_ret HF.out
  ·have HF:Hid (k=R):=Hi (by rw[hinv,rowE_end (by omega)])
   clear hinv
   go_wp2
   go_ret
   exact row_ret HF.out
end Go.Proofs
end
section
namespace Go.Lx
def neB (c b:Nat):Bool:= !decide (b=c)
end Go.Lx
namespace Go.Proofs
open Go.RowKit Go.Pf Go.Lx
theorem Tryz.rfind (s:ByteArray) (a c:Nat) (w:World) (hs:s.size≤140737488355328) (ha:a≤140737488355328):Calls Tryz.prog 54 #[.string s,.int .i64 a,.int .u8 c] w (RowEnd (rowE (neB c) s a) w):=by
 obtain⟨R,hR⟩:∃R,R=rowE (neB c) s a:=⟨_,rfl⟩
 rw[←hR]
 have HR:=Hi hR
 clear hR
 go_enter Tryz.func54,Tryz.ntmps54
 go_wp2
 go_loop [1] (fun v=>∃k:Nat,k≤140737488355328∧v= .int .i64 k∧R=rowE (neB c) s k) (fun v=>s.size-(intOf v).toNat)
 case atStart=>exact⟨a,ha,rfl,HR.out⟩
 case round=>
  obtain⟨k,hk,rfl,hinv⟩:=hrel
  by_cases hlt:k<s.size
  ·by_cases hp:s[k].toNat=c
   ·have HF:Hid (k=R):=Hi (by rw[hinv,rowE_stop hlt (by simp[neB,hp])])
    have c1:((s[k].toNat:Int)==(c:Int))=true:=by rw[hp];exact beq_self_eq_true _
    have c2:((s[k].toNat:Int) !=(c:Int))=false:=by rw[bne,c1];rfl
    clear hinv hp
    go_wp2
    go_ret
    exact row_ret HF.out
   ·have HN:Hid (R=rowE (neB c) s (k+1)):=Hi (by rw[hinv,rowE_step hlt (by simp[neB,hp])])
    have c1:((s[k].toNat:Int)==(c:Int))=false:=eqf hp
    have c2:((s[k].toNat:Int) !=(c:Int))=true:=by rw[bne,c1];rfl
    clear hinv hp
    go_wp2
    go_round
    case rel=>exact⟨k+1,by omega,by go_num,HN.out⟩
    case measure=>simp[intOf];omega
  ·have HF:Hid (k=R):=Hi (by rw[hinv,rowE_end (by omega)])
   clear hinv
   go_wp2
   go_ret
   exact row_ret HF.out
end Go.Proofs
end
section
namespace Go.Proofs
open Go.RowKit Go.Pf Go.Lx Go.Rb
theorem Tryz.rvalue (c:Nat) (h:hexB c=true) (w:World):Calls Tryz.prog 82 #[.int .u8 c] w fun e w'=>e= .returned (.int .i64 (dgv c))∧w=w':=by
 have hc:(48≤c∧c≤57)∨(97≤c∧c≤102)∨(65≤c∧c≤70):=by
  simp[hexB,digB]at h
  omega
 obtain⟨d,hd⟩:∃d,d=dgv c:=⟨_,rfl⟩
 have hd2:=hd
 unfold dgv at hd2
 rw[←hd]
 clear hd h
 rcases hc with hc|hc|hc
 ·have CD:Hid (∀w,Calls Tryz.prog 56 #[.int .u8 c] w (PredSays true w)):=Hi (fun w=>by
   have h:=Tryz.rdigit3 c w
   rwa [show digB c=true by simp[digB];omega]at h)
  rw[if_pos hc]at hd2
  have e1:(c:Int)-48=d:=by omega
  have db:d≤9:=by omega
  clear hd2 hc
  go_enter Tryz.func82,Tryz.ntmps82
  go_wp2_with (go_at_call 56;(with_reducible refine(CD.out _).mono ?_);rintro e w' ⟨rfl,rfl⟩)
  go_ret
  exact⟨rfl,rfl⟩
 ·have CD:Hid (∀w,Calls Tryz.prog 56 #[.int .u8 c] w (PredSays false w)):=Hi (fun w=>by
   have h:=Tryz.rdigit3 c w
   rwa [show digB c=false by simp[digB];omega]at h)
  rw[if_neg (by omega),if_pos (by omega)]at hd2
  have e1:(c:Int)-97=(d-10:Nat):=by omega
  obtain⟨d1,hd1⟩:∃d1,d1=d-10:=⟨_,rfl⟩
  rw[←hd1]at e1
  have e2:(d1:Int)+10=d:=by omega
  have db:d1≤5:=by omega
  have g1:decide ((97:Int)≤(c:Int))=true:=dTo
  have g2:decide ((c:Int)≤102)=true:=dTo
  clear hd2 hc hd1
  go_enter Tryz.func82,Tryz.ntmps82
  go_wp2_with (go_at_call 56;(with_reducible refine(CD.out _).mono ?_);rintro e w' ⟨rfl,rfl⟩)
  go_ret
  exact⟨rfl,rfl⟩
 ·have CD:Hid (∀w,Calls Tryz.prog 56 #[.int .u8 c] w (PredSays false w)):=Hi (fun w=>by
   have h:=Tryz.rdigit3 c w
   rwa [show digB c=false by simp[digB];omega]at h)
  rw[if_neg (by omega),if_neg (by omega),if_pos (by omega)]at hd2
  have e1:(c:Int)-65=(d-10:Nat):=by omega
  obtain⟨d1,hd1⟩:∃d1,d1=d-10:=⟨_,rfl⟩
  rw[←hd1]at e1
  have e2:(d1:Int)+10=d:=by omega
  have db:d1≤5:=by omega
  have g1:decide ((97:Int)≤(c:Int))=false:=dFo
  clear hd2 hc hd1
  go_enter Tryz.func82,Tryz.ntmps82
  go_wp2_with (go_at_call 56;(with_reducible refine(CD.out _).mono ?_);rintro e w' ⟨rfl,rfl⟩)
  go_ret
  exact⟨rfl,rfl⟩
end Go.Proofs
end
