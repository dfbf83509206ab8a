import Derived.Test.YtnipmfaikiaipaaGreatDoorTao
set_option maxRecDepth 1000000
set_option maxHeartbeats 40000000
section
namespace Go.Lx
def AM (c:Nat):Bool:=decide (48<=c)&&decide (c<=57)
def GS (c:Nat):Bool:=decide (97<=c)&&decide (c<=122)
def A6 (c:Nat):Bool:=decide (48<=c)&&decide (c<=55)
def Gw (c:Nat):Bool:=decide (65<=c)&&decide (c<=90)||decide (c=95)
def F5 (c:Nat):Bool:=decide (9<=c)&&decide (c<=13)||decide (c=32)
def DO (c:Nat):Bool:=decide (c=48)||decide (c=49)
def DP (c:Nat):Bool:=GS c||Gw c||AM c
def Ah (c:Nat):Bool:=AM c||(decide (97<=c)&&decide (c<=102))||(decide (65<=c)&&decide (c<=70))
end Go.Lx
namespace Go.Proofs
open Go.RowKit Go.Pf Go.Lx
def AD (p:Bool) (w:World) (e:Ending) (w':World):Prop:=e= .returned (.bool p)/\w=w'
theorem FQ (c:Nat) (w:World):Calls Tryz.prog 71 #[.int .u8 c] w (AD (AM c) w):=by
 obtain⟨p,hp⟩:∃p:Bool,p=decide (48<=c):=⟨_,rfl⟩;have cp:decide ((48:Int)<=(c:Int))=p:=by rw[hp];exact NO.2 (by omega)
 obtain⟨q,hq⟩:∃p:Bool,p=decide (c<=57):=⟨_,rfl⟩;have cq:decide ((c:Int)<=57)=q:=by rw[hq];exact NO.2 (by omega)
 unfold AM;rw[<-hp,<-hq];clear hp hq;cases p
 all_goals cases q
 all_goals
  go_enter Tryz.func71,Tryz.ntmps71;go_wp2;go_ret;exact⟨rfl,rfl⟩
theorem EN (c:Nat) (w:World):Calls Tryz.prog 157 #[.int .u8 c] w (AD (AM c) w):=by
 obtain⟨p,hp⟩:∃p:Bool,p=decide (48<=c):=⟨_,rfl⟩;have cp:decide ((48:Int)<=(c:Int))=p:=by rw[hp];exact NO.2 (by omega)
 obtain⟨q,hq⟩:∃p:Bool,p=decide (c<=57):=⟨_,rfl⟩;have cq:decide ((c:Int)<=57)=q:=by rw[hq];exact NO.2 (by omega)
 unfold AM;rw[<-hp,<-hq];clear hp hq;cases p
 all_goals cases q
 all_goals
  go_enter Tryz.func157,Tryz.ntmps157;go_wp2;go_ret;exact⟨rfl,rfl⟩
theorem Qf (c:Nat) (w:World):Calls Tryz.prog 74 #[.int .u8 c] w (AD (GS c) w):=by
 obtain⟨p,hp⟩:∃p:Bool,p=decide (97<=c):=⟨_,rfl⟩;have cp:decide ((97:Int)<=(c:Int))=p:=by rw[hp];exact NO.2 (by omega)
 obtain⟨q,hq⟩:∃p:Bool,p=decide (c<=122):=⟨_,rfl⟩;have cq:decide ((c:Int)<=122)=q:=by rw[hq];exact NO.2 (by omega)
 unfold GS;rw[<-hp,<-hq];clear hp hq;cases p
 all_goals cases q
 all_goals
  go_enter Tryz.func74,Tryz.ntmps74;go_wp2;go_ret;exact⟨rfl,rfl⟩
theorem Ml (c:Nat) (w:World):Calls Tryz.prog 160 #[.int .u8 c] w (AD (GS c) w):=by
 obtain⟨p,hp⟩:∃p:Bool,p=decide (97<=c):=⟨_,rfl⟩;have cp:decide ((97:Int)<=(c:Int))=p:=by rw[hp];exact NO.2 (by omega)
 obtain⟨q,hq⟩:∃p:Bool,p=decide (c<=122):=⟨_,rfl⟩;have cq:decide ((c:Int)<=122)=q:=by rw[hq];exact NO.2 (by omega)
 unfold GS;rw[<-hp,<-hq];clear hp hq;cases p
 all_goals cases q
 all_goals
  go_enter Tryz.func160,Tryz.ntmps160;go_wp2;go_ret;exact⟨rfl,rfl⟩
theorem WL (c:Nat) (w:World):Calls Tryz.prog 116 #[.int .u8 c] w (AD (A6 c) w):=by
 obtain⟨p,hp⟩:∃p:Bool,p=decide (48<=c):=⟨_,rfl⟩;have cp:decide ((48:Int)<=(c:Int))=p:=by rw[hp];exact NO.2 (by omega)
 obtain⟨q,hq⟩:∃p:Bool,p=decide (c<=55):=⟨_,rfl⟩;have cq:decide ((c:Int)<=55)=q:=by rw[hq];exact NO.2 (by omega)
 unfold A6;rw[<-hp,<-hq];clear hp hq;cases p
 all_goals cases q
 all_goals
  go_enter Tryz.func116,Tryz.ntmps116;go_wp2;go_ret;exact⟨rfl,rfl⟩
theorem RU (c:Nat) (w:World):Calls Tryz.prog 77 #[.int .u8 c] w (AD (Gw c) w):=by
 obtain⟨p,hp⟩:∃p:Bool,p=decide (65<=c):=⟨_,rfl⟩;have cp:decide ((65:Int)<=(c:Int))=p:=by rw[hp];exact NO.2 (by omega)
 obtain⟨q,hq⟩:∃p:Bool,p=decide (c<=90):=⟨_,rfl⟩;have cq:decide ((c:Int)<=90)=q:=by rw[hq];exact NO.2 (by omega)
 obtain⟨r,hr⟩:∃p:Bool,p=decide (c=95):=⟨_,rfl⟩;have cr:((c:Int)==95)=r:=by rw[hr];exact Bool.eq_iff_iff.2 (by simp;omega)
 unfold Gw;rw[<-hp,<-hq,<-hr];clear hp hq hr;cases p
 all_goals cases q
 all_goals cases r
 all_goals
  go_enter Tryz.func77,Tryz.ntmps77;go_wp2;go_ret;exact⟨rfl,rfl⟩
theorem Mr (c:Nat) (w:World):Calls Tryz.prog 162 #[.int .u8 c] w (AD (Gw c) w):=by
 obtain⟨p,hp⟩:∃p:Bool,p=decide (65<=c):=⟨_,rfl⟩;have cp:decide ((65:Int)<=(c:Int))=p:=by rw[hp];exact NO.2 (by omega)
 obtain⟨q,hq⟩:∃p:Bool,p=decide (c<=90):=⟨_,rfl⟩;have cq:decide ((c:Int)<=90)=q:=by rw[hq];exact NO.2 (by omega)
 obtain⟨r,hr⟩:∃p:Bool,p=decide (c=95):=⟨_,rfl⟩;have cr:((c:Int)==95)=r:=by rw[hr];exact Bool.eq_iff_iff.2 (by simp;omega)
 unfold Gw;rw[<-hp,<-hq,<-hr];clear hp hq hr;cases p
 all_goals cases q
 all_goals cases r
 all_goals
  go_enter Tryz.func162,Tryz.ntmps162;go_wp2;go_ret;exact⟨rfl,rfl⟩
theorem Rd (c:Nat) (w:World):Calls Tryz.prog 66 #[.int .u8 c] w (AD (F5 c) w):=by
 obtain⟨p,hp⟩:∃p:Bool,p=decide (9<=c):=⟨_,rfl⟩;have cp:decide ((9:Int)<=(c:Int))=p:=by rw[hp];exact NO.2 (by omega)
 obtain⟨q,hq⟩:∃p:Bool,p=decide (c<=13):=⟨_,rfl⟩;have cq:decide ((c:Int)<=13)=q:=by rw[hq];exact NO.2 (by omega)
 obtain⟨r,hr⟩:∃p:Bool,p=decide (c=32):=⟨_,rfl⟩;have cr:((c:Int)==32)=r:=by rw[hr];exact Bool.eq_iff_iff.2 (by simp;omega)
 unfold F5;rw[<-hp,<-hq,<-hr];clear hp hq hr;cases p
 all_goals cases q
 all_goals cases r
 all_goals
  go_enter Tryz.func66,Tryz.ntmps66;go_wp2;go_ret;exact⟨rfl,rfl⟩
theorem Nu (c:Nat) (w:World):Calls Tryz.prog 19 #[.int .u8 c] w (AD (F5 c) w):=by
 obtain⟨p,hp⟩:∃p:Bool,p=decide (9<=c):=⟨_,rfl⟩;have cp:decide ((9:Int)<=(c:Int))=p:=by rw[hp];exact NO.2 (by omega)
 obtain⟨q,hq⟩:∃p:Bool,p=decide (c<=13):=⟨_,rfl⟩;have cq:decide ((c:Int)<=13)=q:=by rw[hq];exact NO.2 (by omega)
 obtain⟨r,hr⟩:∃p:Bool,p=decide (c=32):=⟨_,rfl⟩;have cr:((c:Int)==32)=r:=by rw[hr];exact Bool.eq_iff_iff.2 (by simp;omega)
 unfold F5;rw[<-hp,<-hq,<-hr];clear hp hq hr;cases p
 all_goals cases q
 all_goals cases r
 all_goals
  go_enter Tryz.func19,Tryz.ntmps19;go_wp2;go_ret;exact⟨rfl,rfl⟩
theorem dw (c:Nat) (w:World):Calls Tryz.prog 115 #[.int .u8 c] w (AD (DO c) w):=by
 obtain⟨p,hp⟩:∃p:Bool,p=decide (c=48):=⟨_,rfl⟩;have cp:((c:Int)==48)=p:=by rw[hp];exact Bool.eq_iff_iff.2 (by simp;omega)
 obtain⟨q,hq⟩:∃p:Bool,p=decide (c=49):=⟨_,rfl⟩;have cq:((c:Int)==49)=q:=by rw[hq];exact Bool.eq_iff_iff.2 (by simp;omega)
 unfold DO;rw[<-hp,<-hq];clear hp hq;cases p
 all_goals cases q
 all_goals
  go_enter Tryz.func115,Tryz.ntmps115;go_wp2;go_ret;exact⟨rfl,rfl⟩
theorem Sh (c:Nat) (w:World):Calls Tryz.prog 76 #[.int .u8 c] w (AD (DP c) w):=by
 obtain⟨p,hp⟩:∃p:Bool,p=GS c:=⟨_,rfl⟩;obtain⟨q,hq⟩:∃p:Bool,p=Gw c:=⟨_,rfl⟩;obtain⟨r,hr⟩:∃p:Bool,p=AM c:=⟨_,rfl⟩;have CS:Hid (∀w,Calls Tryz.prog 74 #[.int .u8 c] w (AD p w)):=Hi (fun w=>by rw[hp];exact Qf c w);have CG:Hid (∀w,Calls Tryz.prog 77 #[.int .u8 c] w (AD q w)):=Hi (fun w=>by rw[hq];exact RU c w);have CD:Hid (∀w,Calls Tryz.prog 71 #[.int .u8 c] w (AD r w)):=Hi (fun w=>by rw[hr];exact FQ c w);unfold DP;rw[<-hp,<-hq,<-hr];clear hp hq hr;cases p
 all_goals cases q
 all_goals cases r
 all_goals
  go_enter Tryz.func76,Tryz.ntmps76
  go_wp2_with (first|(go_at_call 74;(with_reducible refine(CS.out _).mono ?_);rintro e w' ⟨rfl,rfl⟩)|(go_at_call 77;(with_reducible refine(CG.out _).mono ?_);rintro e w' ⟨rfl,rfl⟩)|(go_at_call 71;(with_reducible refine(CD.out _).mono ?_);rintro e w' ⟨rfl,rfl⟩))
  go_ret;exact⟨rfl,rfl⟩
theorem PW (c:Nat) (w:World):Calls Tryz.prog 214 #[.int .u8 c] w (AD (DP c) w):=by
 obtain⟨p,hp⟩:∃p:Bool,p=GS c:=⟨_,rfl⟩;obtain⟨q,hq⟩:∃p:Bool,p=Gw c:=⟨_,rfl⟩;obtain⟨r,hr⟩:∃p:Bool,p=AM c:=⟨_,rfl⟩;have CS:Hid (∀w,Calls Tryz.prog 160 #[.int .u8 c] w (AD p w)):=Hi (fun w=>by rw[hp];exact Ml c w);have CG:Hid (∀w,Calls Tryz.prog 162 #[.int .u8 c] w (AD q w)):=Hi (fun w=>by rw[hq];exact Mr c w);have CD:Hid (∀w,Calls Tryz.prog 157 #[.int .u8 c] w (AD r w)):=Hi (fun w=>by rw[hr];exact EN c w);unfold DP;rw[<-hp,<-hq,<-hr];clear hp hq hr;cases p
 all_goals cases q
 all_goals cases r
 all_goals
  go_enter Tryz.func214,Tryz.ntmps214
  go_wp2_with (first|(go_at_call 160;(with_reducible refine(CS.out _).mono ?_);rintro e w' ⟨rfl,rfl⟩)|(go_at_call 162;(with_reducible refine(CG.out _).mono ?_);rintro e w' ⟨rfl,rfl⟩)|(go_at_call 157;(with_reducible refine(CD.out _).mono ?_);rintro e w' ⟨rfl,rfl⟩))
  go_ret;exact⟨rfl,rfl⟩
theorem dA (c:Nat) (w:World):Calls Tryz.prog 114 #[.int .u8 c] w (AD (Ah c) w):=by
 obtain⟨d,hd⟩:∃p:Bool,p=AM c:=⟨_,rfl⟩;have CD:Hid (∀w,Calls Tryz.prog 71 #[.int .u8 c] w (AD d w)):=Hi (fun w=>by rw[hd];exact FQ c w);obtain⟨p,hp⟩:∃p:Bool,p=decide (97<=c):=⟨_,rfl⟩;have cp:decide ((97:Int)<=(c:Int))=p:=by rw[hp];exact NO.2 (by omega)
 obtain⟨q,hq⟩:∃p:Bool,p=decide (c<=102):=⟨_,rfl⟩;have cq:decide ((c:Int)<=102)=q:=by rw[hq];exact NO.2 (by omega)
 obtain⟨r,hr⟩:∃p:Bool,p=decide (65<=c):=⟨_,rfl⟩;have cr:decide ((65:Int)<=(c:Int))=r:=by rw[hr];exact NO.2 (by omega)
 obtain⟨s,hs⟩:∃p:Bool,p=decide (c<=70):=⟨_,rfl⟩;have cs:decide ((c:Int)<=70)=s:=by rw[hs];exact NO.2 (by omega)
 unfold Ah;rw[<-hd,<-hp,<-hq,<-hr,<-hs];clear hd hp hq hr hs;cases d
 all_goals cases p
 all_goals cases q
 all_goals cases r
 all_goals cases s
 all_goals
  go_enter Tryz.func114,Tryz.ntmps114
  go_wp2_with (go_at_call 71;(with_reducible refine(CD.out _).mono ?_);rintro e w' ⟨rfl,rfl⟩)
  go_ret;exact⟨rfl,rfl⟩
end Go.Proofs
end
section
namespace Go.Lx
def Zg (s:ByteArray) (c:Nat):Nat->Nat->Bool
 |0,_=>false
 |n+1,i=>if h:i<s.size then(if s[i].toNat=c then true else Zg s c n (i+1))else false
def cU (s:ByteArray) (c:Nat):Bool:=Zg s c s.size 0
def P6 (p:Nat->Bool) (s:ByteArray):Nat->Nat->Nat
 |0,a=>a
 |n+1,a=>if h:a<s.size then(if p s[a].toNat then P6 p s n (a+1)else a)else a
def AF (p:Nat->Bool) (s:ByteArray) (a:Nat):Nat:=P6 p s (s.size-a) a
theorem Af {p:Nat->Bool} {s:ByteArray} {a:Nat}(h:a<s.size) (hp:p s[a].toNat=true):AF p s a=AF p s (a+1):=by
 unfold AF;obtain⟨n,hn⟩:∃n,s.size-a=n+1:=⟨s.size-a-1,by omega⟩;have h2:s.size-(a+1)=n:=by omega
 rw[hn,h2];simp[P6,h,hp]
theorem Aw {p:Nat->Bool} {s:ByteArray} {a:Nat}(h:a<s.size) (hp:p s[a].toNat=false):AF p s a=a:=by
 unfold AF;obtain⟨n,hn⟩:∃n,s.size-a=n+1:=⟨s.size-a-1,by omega⟩;rw[hn];simp[P6,h,hp]
theorem Ac {p:Nat->Bool} {s:ByteArray} {a:Nat}(h:s.size<=a):AF p s a=a:=by
 unfold AF;rw[show s.size-a=0 by omega];rfl
theorem Ae (p:Nat->Bool) (s:ByteArray) (a:Nat):a<=AF p s a:=by
 unfold AF;generalize s.size-a=n
 induction n generalizing a with
 |zero=>exact nR _
 |succ n ih=>
  unfold P6;split
  ·split
   ·have:=ih (a+1);omega
   ·omega
  ·omega
theorem Ai (p:Nat->Bool) (s:ByteArray) (a:Nat) (h:a<=s.size):AF p s a<=s.size:=by
 unfold AF;generalize s.size-a=n
 induction n generalizing a with
 |zero=>exact h
 |succ n ih=>
  unfold P6;split
  ·split
   ·exact ih (a+1) (by omega)
   ·omega
  ·omega
theorem Wv {s:ByteArray} {c n i:Nat}(h:i<s.size) (hc:s[i].toNat≠c):Zg s c (n+1) i=Zg s c n (i+1):=by
 simp[Zg,h,hc]
end Go.Lx
namespace Go.Proofs
open Go.RowKit Go.Pf Go.Lx
theorem K4 {p q:Bool} {w:World}(h:p=q):AD q w (.returned (.bool p)) w:=by subst h;exact⟨rfl,rfl⟩
theorem cu (s:ByteArray) (c:Nat) (w:World) (hs:s.size<=1000000):Calls Tryz.prog 164 #[.int .u8 c,.string s] w (AD (cU s c) w):=by
 obtain⟨R,hR⟩:∃R,R=cU s c:=⟨_,rfl⟩;rw[<-hR];have HR:=Hi hR;clear hR;go_enter Tryz.func164,Tryz.ntmps164;go_wp2
 go_loop [5] (fun v=>∃i:Nat,i<=s.size/\v= .int .i64 i/\R=Zg s c (s.size-i) i) (fun v=>s.size-(intOf v).toNat)
 case atStart=>exact⟨0,Nat.zero_le _,rfl,HR.out⟩
 case round=>
  obtain⟨i,hi,rfl,hinv⟩:=hrel;by_cases hlt:i<s.size
  ·obtain⟨n,hn⟩:∃n,s.size-i=n+1:=⟨s.size-i-1,by omega⟩;by_cases hc:s[i].toNat=c
   ·have e1:((s[i].toNat:Int)==(c:Int))=true:=by rw[hc];exact beq_self_eq_true _
    have HF:Hid (R=true):=Hi (by rw[hinv,hn];simp[Zg,hlt,hc]);clear hinv hn hc;go_wp2;go_ret;exact K4 HF.out.symm
   ·have e1:((s[i].toNat:Int)==(c:Int))=false:=Bn hc;have HN:Hid (R=Zg s c (s.size-(i+1)) (i+1)):=Hi (by rw[hinv,hn,Wv hlt hc];congr 1;omega);clear hinv hn hc;go_wp2;go_round
    case rel=>exact⟨i+1,by omega,by go_num,HN.out⟩
    case measure=>simp[intOf];omega
  ·have HF:Hid (R=false):=Hi (by rw[hinv,show s.size-i=0 by omega];rfl);clear hinv;go_wp2;go_ret;exact K4 HF.out.symm
end Go.Proofs
end
section
namespace Go.Lx
def O0:ByteArray:=⟨#[35,36,38,42,43,45,46,47,58,60,61,62,63,64,94,126,92]⟩
def OE:ByteArray:=⟨#[40,41,91,93,123,125,44,124]⟩
def C5 (c:Nat):Bool:=cU O0 c
def LC (c:Nat):Bool:=cU OE c
theorem Zc:(List.range 256).all (fun c=>(decide (0<=Lib.indexByte O0.data.toList c.toUInt8)==C5 c)&&(decide (0<=Lib.indexByte OE.data.toList c.toUInt8)==LC c))=true:=by kernel_rfl
theorem dO {c:Nat}(h:c<256):decide (0<=Lib.indexByte O0.data.toList c.toUInt8)=C5 c:=by
 have:=List.all_eq_true.1 Zc c (List.mem_range.2 h);rw[Bool.and_eq_true]at this;exact eq_of_beq this.1
theorem ew {c:Nat}(h:c<256):decide (0<=Lib.indexByte OE.data.toList c.toUInt8)=LC c:=by
 have:=List.all_eq_true.1 Zc c (List.mem_range.2 h);rw[Bool.and_eq_true]at this;exact eq_of_beq this.2
end Go.Lx
namespace Go.Proofs
open Go.RowKit Go.Pf Go.Lx
theorem NY (c:Nat) (w:World):Calls Tryz.prog 163 #[.int .u8 c] w (AD (C5 c) w):=by
 have CI:Hid (∀w,Calls Tryz.prog 164 #[.int .u8 c,.string O0] w (AD (C5 c) w)):=Hi (fun w=>cu O0 c w (by decide));obtain⟨p,hp⟩:∃p,p=C5 c:=⟨_,rfl⟩;rw[<-hp]at CI⊢;clear hp;go_enter Tryz.func163,Tryz.ntmps163
 go_wp2_with (go_at_call 164;(refine(CI.out _).mono ?_);rintro e w' ⟨rfl,rfl⟩)
 go_ret;exact⟨rfl,rfl⟩
theorem R6 (c:Nat) (hc:c<256) (w:World):Calls Tryz.prog 78 #[.int .u8 c] w (AD (C5 c) w):=by
 obtain⟨z,hz⟩:∃z,z=Lib.indexByte O0.data.toList c.toUInt8:=⟨_,rfl⟩;have CI:Hid (∀w,Calls Tryz.prog 67 #[.string O0,.int .u8 c] w fun e w'=>e= .returned (.int .i64 z)/\w'=w):=Hi (fun w=>by rw[hz];exact Tryz.strings_IndexByte O0 c w);have hp:=dO hc;rw[<-hz]at hp;rw[<-hp];clear hp hz;go_enter Tryz.func78,Tryz.ntmps78
 go_wp2_with (go_at_call 67;(refine(CI.out _).mono ?_);rintro e w' ⟨rfl,rfl⟩)
 go_ret;exact K4 (by simp)
end Go.Proofs
end
section
namespace Go.Lx
def Ti:ByteArray:=⟨#[48,49,50,51,52,53,54,55,56,57,97,98,99,100,101,102,65,66,67,68,69,70]⟩
theorem ag:(List.range 256).all (fun c=>cU Ti c==Ah c)=true:=by kernel_rfl
theorem Ze {c:Nat}(h:c<256):cU Ti c=Ah c:=eq_of_beq (List.all_eq_true.1 ag c (List.mem_range.2 h))
end Go.Lx
namespace Go.Proofs
open Go.RowKit Go.Pf Go.Lx
def Ag (R:Nat) (w:World) (e:Ending) (w':World):Prop:=e= .returned (.int .i64 R)/\w=w'
theorem Al {p q:Nat} {w:World}(h:p=q):Ag q w (.returned (.int .i64 p)) w:=by subst h;exact⟨rfl,rfl⟩
theorem Mn (s:ByteArray) (a:Nat) (w:World) (hs:s.size<=140737488355328) (ha:a<=140737488355328):Calls Tryz.prog 75 #[.string s,.int .i64 a,.func (.func 71) #[] #[]] w (Ag (AF AM s a) w):=by
 obtain⟨R,hR⟩:∃R,R=AF AM s a:=⟨_,rfl⟩;rw[<-hR];have HR:=Hi hR;clear hR;go_enter Tryz.func75,Tryz.ntmps75;go_wp2
 go_loop [1] (fun v=>∃k:Nat,k<=140737488355328/\v= .int .i64 k/\R=AF AM s k) (fun v=>s.size-(intOf v).toNat)
 case atStart=>exact⟨a,ha,rfl,HR.out⟩
 case round=>
  obtain⟨k,hk,rfl,hinv⟩:=hrel;by_cases hlt:k<s.size
  ·obtain⟨c,hc⟩:∃c,c=s[k].toNat:=⟨_,rfl⟩;have hcb:c<256:=by rw[hc];exact UInt8.toNat_lt _
   by_cases hp:AM c=true
   ·have HN:Hid (R=AF AM s (k+1)):=Hi (by rw[hinv,Af hlt (by rw[<-hc];exact hp)]);have CP:Hid (∀w,Calls Tryz.prog 71 #[.int .u8 s[k].toNat] w (AD true w)):=Hi (fun w=>by have h:=FQ s[k].toNat w;rwa [<-hc,hp,hc]at h);clear hinv hp hc hcb
    go_wp2_with (go_at_call 71;(with_reducible refine(CP.out _).mono ?_);rintro e w' ⟨rfl,rfl⟩)
    go_round
    case rel=>exact⟨k+1,by omega,by go_num,HN.out⟩
    case measure=>simp[intOf];omega
   ·rw[gh]at hp;have HF:Hid (k=R):=Hi (by rw[hinv,Aw hlt (by rw[<-hc];exact hp)]);have CP:Hid (∀w,Calls Tryz.prog 71 #[.int .u8 s[k].toNat] w (AD false w)):=Hi (fun w=>by have h:=FQ s[k].toNat w;rwa [<-hc,hp,hc]at h);clear hinv hp hc hcb
    go_wp2_with (go_at_call 71;(with_reducible refine(CP.out _).mono ?_);rintro e w' ⟨rfl,rfl⟩)
    go_ret;exact Al HF.out
  ·have HF:Hid (k=R):=Hi (by rw[hinv,Ac (by omega)]);clear hinv;go_wp2;go_ret;exact Al HF.out
theorem SE (s:ByteArray) (a:Nat) (w:World) (hs:s.size<=140737488355328) (ha:a<=140737488355328):Calls Tryz.prog 75 #[.string s,.int .i64 a,.func (.func 76) #[] #[]] w (Ag (AF DP s a) w):=by
 obtain⟨R,hR⟩:∃R,R=AF DP s a:=⟨_,rfl⟩;rw[<-hR];have HR:=Hi hR;clear hR;go_enter Tryz.func75,Tryz.ntmps75;go_wp2
 go_loop [1] (fun v=>∃k:Nat,k<=140737488355328/\v= .int .i64 k/\R=AF DP s k) (fun v=>s.size-(intOf v).toNat)
 case atStart=>exact⟨a,ha,rfl,HR.out⟩
 case round=>
  obtain⟨k,hk,rfl,hinv⟩:=hrel;by_cases hlt:k<s.size
  ·obtain⟨c,hc⟩:∃c,c=s[k].toNat:=⟨_,rfl⟩;have hcb:c<256:=by rw[hc];exact UInt8.toNat_lt _
   by_cases hp:DP c=true
   ·have HN:Hid (R=AF DP s (k+1)):=Hi (by rw[hinv,Af hlt (by rw[<-hc];exact hp)]);have CP:Hid (∀w,Calls Tryz.prog 76 #[.int .u8 s[k].toNat] w (AD true w)):=Hi (fun w=>by have h:=Sh s[k].toNat w;rwa [<-hc,hp,hc]at h);clear hinv hp hc hcb
    go_wp2_with (go_at_call 76;(with_reducible refine(CP.out _).mono ?_);rintro e w' ⟨rfl,rfl⟩)
    go_round
    case rel=>exact⟨k+1,by omega,by go_num,HN.out⟩
    case measure=>simp[intOf];omega
   ·rw[gh]at hp;have HF:Hid (k=R):=Hi (by rw[hinv,Aw hlt (by rw[<-hc];exact hp)]);have CP:Hid (∀w,Calls Tryz.prog 76 #[.int .u8 s[k].toNat] w (AD false w)):=Hi (fun w=>by have h:=Sh s[k].toNat w;rwa [<-hc,hp,hc]at h);clear hinv hp hc hcb
    go_wp2_with (go_at_call 76;(with_reducible refine(CP.out _).mono ?_);rintro e w' ⟨rfl,rfl⟩)
    go_ret;exact Al HF.out
  ·have HF:Hid (k=R):=Hi (by rw[hinv,Ac (by omega)]);clear hinv;go_wp2;go_ret;exact Al HF.out
theorem X0 (s:ByteArray) (a:Nat) (w:World) (hs:s.size<=140737488355328) (ha:a<=140737488355328):Calls Tryz.prog 75 #[.string s,.int .i64 a,.func (.func 78) #[] #[]] w (Ag (AF C5 s a) w):=by
 obtain⟨R,hR⟩:∃R,R=AF C5 s a:=⟨_,rfl⟩;rw[<-hR];have HR:=Hi hR;clear hR;go_enter Tryz.func75,Tryz.ntmps75;go_wp2
 go_loop [1] (fun v=>∃k:Nat,k<=140737488355328/\v= .int .i64 k/\R=AF C5 s k) (fun v=>s.size-(intOf v).toNat)
 case atStart=>exact⟨a,ha,rfl,HR.out⟩
 case round=>
  obtain⟨k,hk,rfl,hinv⟩:=hrel;by_cases hlt:k<s.size
  ·obtain⟨c,hc⟩:∃c,c=s[k].toNat:=⟨_,rfl⟩;have hcb:c<256:=by rw[hc];exact UInt8.toNat_lt _
   by_cases hp:C5 c=true
   ·have HN:Hid (R=AF C5 s (k+1)):=Hi (by rw[hinv,Af hlt (by rw[<-hc];exact hp)]);have CP:Hid (∀w,Calls Tryz.prog 78 #[.int .u8 s[k].toNat] w (AD true w)):=Hi (fun w=>by have h:=R6 s[k].toNat (UInt8.toNat_lt _) w;rwa [<-hc,hp,hc]at h);clear hinv hp hc hcb
    go_wp2_with (go_at_call 78;(with_reducible refine(CP.out _).mono ?_);rintro e w' ⟨rfl,rfl⟩)
    go_round
    case rel=>exact⟨k+1,by omega,by go_num,HN.out⟩
    case measure=>simp[intOf];omega
   ·rw[gh]at hp;have HF:Hid (k=R):=Hi (by rw[hinv,Aw hlt (by rw[<-hc];exact hp)]);have CP:Hid (∀w,Calls Tryz.prog 78 #[.int .u8 s[k].toNat] w (AD false w)):=Hi (fun w=>by have h:=R6 s[k].toNat (UInt8.toNat_lt _) w;rwa [<-hc,hp,hc]at h);clear hinv hp hc hcb
    go_wp2_with (go_at_call 78;(with_reducible refine(CP.out _).mono ?_);rintro e w' ⟨rfl,rfl⟩)
    go_ret;exact Al HF.out
  ·have HF:Hid (k=R):=Hi (by rw[hinv,Ac (by omega)]);clear hinv;go_wp2;go_ret;exact Al HF.out
theorem Nh (s:ByteArray) (a:Nat) (w:World) (hs:s.size<=140737488355328) (ha:a<=140737488355328):Calls Tryz.prog 75 #[.string s,.int .i64 a,.func (.func 114) #[] #[]] w (Ag (AF Ah s a) w):=by
 obtain⟨R,hR⟩:∃R,R=AF Ah s a:=⟨_,rfl⟩;rw[<-hR];have HR:=Hi hR;clear hR;go_enter Tryz.func75,Tryz.ntmps75;go_wp2
 go_loop [1] (fun v=>∃k:Nat,k<=140737488355328/\v= .int .i64 k/\R=AF Ah s k) (fun v=>s.size-(intOf v).toNat)
 case atStart=>exact⟨a,ha,rfl,HR.out⟩
 case round=>
  obtain⟨k,hk,rfl,hinv⟩:=hrel;by_cases hlt:k<s.size
  ·obtain⟨c,hc⟩:∃c,c=s[k].toNat:=⟨_,rfl⟩;have hcb:c<256:=by rw[hc];exact UInt8.toNat_lt _
   by_cases hp:Ah c=true
   ·have HN:Hid (R=AF Ah s (k+1)):=Hi (by rw[hinv,Af hlt (by rw[<-hc];exact hp)]);have CP:Hid (∀w,Calls Tryz.prog 114 #[.int .u8 s[k].toNat] w (AD true w)):=Hi (fun w=>by have h:=dA s[k].toNat w;rwa [<-hc,hp,hc]at h);clear hinv hp hc hcb
    go_wp2_with (go_at_call 114;(with_reducible refine(CP.out _).mono ?_);rintro e w' ⟨rfl,rfl⟩)
    go_round
    case rel=>exact⟨k+1,by omega,by go_num,HN.out⟩
    case measure=>simp[intOf];omega
   ·rw[gh]at hp;have HF:Hid (k=R):=Hi (by rw[hinv,Aw hlt (by rw[<-hc];exact hp)]);have CP:Hid (∀w,Calls Tryz.prog 114 #[.int .u8 s[k].toNat] w (AD false w)):=Hi (fun w=>by have h:=dA s[k].toNat w;rwa [<-hc,hp,hc]at h);clear hinv hp hc hcb
    go_wp2_with (go_at_call 114;(with_reducible refine(CP.out _).mono ?_);rintro e w' ⟨rfl,rfl⟩)
    go_ret;exact Al HF.out
  ·have HF:Hid (k=R):=Hi (by rw[hinv,Ac (by omega)]);clear hinv;go_wp2;go_ret;exact Al HF.out
theorem Rm (s:ByteArray) (a:Nat) (w:World) (hs:s.size<=140737488355328) (ha:a<=140737488355328):Calls Tryz.prog 75 #[.string s,.int .i64 a,.func (.func 116) #[] #[]] w (Ag (AF A6 s a) w):=by
 obtain⟨R,hR⟩:∃R,R=AF A6 s a:=⟨_,rfl⟩;rw[<-hR];have HR:=Hi hR;clear hR;go_enter Tryz.func75,Tryz.ntmps75;go_wp2
 go_loop [1] (fun v=>∃k:Nat,k<=140737488355328/\v= .int .i64 k/\R=AF A6 s k) (fun v=>s.size-(intOf v).toNat)
 case atStart=>exact⟨a,ha,rfl,HR.out⟩
 case round=>
  obtain⟨k,hk,rfl,hinv⟩:=hrel;by_cases hlt:k<s.size
  ·obtain⟨c,hc⟩:∃c,c=s[k].toNat:=⟨_,rfl⟩;have hcb:c<256:=by rw[hc];exact UInt8.toNat_lt _
   by_cases hp:A6 c=true
   ·have HN:Hid (R=AF A6 s (k+1)):=Hi (by rw[hinv,Af hlt (by rw[<-hc];exact hp)]);have CP:Hid (∀w,Calls Tryz.prog 116 #[.int .u8 s[k].toNat] w (AD true w)):=Hi (fun w=>by have h:=WL s[k].toNat w;rwa [<-hc,hp,hc]at h);clear hinv hp hc hcb
    go_wp2_with (go_at_call 116;(with_reducible refine(CP.out _).mono ?_);rintro e w' ⟨rfl,rfl⟩)
    go_round
    case rel=>exact⟨k+1,by omega,by go_num,HN.out⟩
    case measure=>simp[intOf];omega
   ·rw[gh]at hp;have HF:Hid (k=R):=Hi (by rw[hinv,Aw hlt (by rw[<-hc];exact hp)]);have CP:Hid (∀w,Calls Tryz.prog 116 #[.int .u8 s[k].toNat] w (AD false w)):=Hi (fun w=>by have h:=WL s[k].toNat w;rwa [<-hc,hp,hc]at h);clear hinv hp hc hcb
    go_wp2_with (go_at_call 116;(with_reducible refine(CP.out _).mono ?_);rintro e w' ⟨rfl,rfl⟩)
    go_ret;exact Al HF.out
  ·have HF:Hid (k=R):=Hi (by rw[hinv,Ac (by omega)]);clear hinv;go_wp2;go_ret;exact Al HF.out
theorem YL (s:ByteArray) (a:Nat) (w:World) (hs:s.size<=140737488355328) (ha:a<=140737488355328):Calls Tryz.prog 75 #[.string s,.int .i64 a,.func (.func 115) #[] #[]] w (Ag (AF DO s a) w):=by
 obtain⟨R,hR⟩:∃R,R=AF DO s a:=⟨_,rfl⟩;rw[<-hR];have HR:=Hi hR;clear hR;go_enter Tryz.func75,Tryz.ntmps75;go_wp2
 go_loop [1] (fun v=>∃k:Nat,k<=140737488355328/\v= .int .i64 k/\R=AF DO s k) (fun v=>s.size-(intOf v).toNat)
 case atStart=>exact⟨a,ha,rfl,HR.out⟩
 case round=>
  obtain⟨k,hk,rfl,hinv⟩:=hrel;by_cases hlt:k<s.size
  ·obtain⟨c,hc⟩:∃c,c=s[k].toNat:=⟨_,rfl⟩;have hcb:c<256:=by rw[hc];exact UInt8.toNat_lt _
   by_cases hp:DO c=true
   ·have HN:Hid (R=AF DO s (k+1)):=Hi (by rw[hinv,Af hlt (by rw[<-hc];exact hp)]);have CP:Hid (∀w,Calls Tryz.prog 115 #[.int .u8 s[k].toNat] w (AD true w)):=Hi (fun w=>by have h:=dw s[k].toNat w;rwa [<-hc,hp,hc]at h);clear hinv hp hc hcb
    go_wp2_with (go_at_call 115;(with_reducible refine(CP.out _).mono ?_);rintro e w' ⟨rfl,rfl⟩)
    go_round
    case rel=>exact⟨k+1,by omega,by go_num,HN.out⟩
    case measure=>simp[intOf];omega
   ·rw[gh]at hp;have HF:Hid (k=R):=Hi (by rw[hinv,Aw hlt (by rw[<-hc];exact hp)]);have CP:Hid (∀w,Calls Tryz.prog 115 #[.int .u8 s[k].toNat] w (AD false w)):=Hi (fun w=>by have h:=dw s[k].toNat w;rwa [<-hc,hp,hc]at h);clear hinv hp hc hcb
    go_wp2_with (go_at_call 115;(with_reducible refine(CP.out _).mono ?_);rintro e w' ⟨rfl,rfl⟩)
    go_ret;exact Al HF.out
  ·have HF:Hid (k=R):=Hi (by rw[hinv,Ac (by omega)]);clear hinv;go_wp2;go_ret;exact Al HF.out
theorem SR (s:ByteArray) (a:Nat) (w:World) (hs:s.size<=140737488355328) (ha:a<=140737488355328):Calls Tryz.prog 161 #[.string s,.int .i64 a,.int .i64 1] w (Ag (AF DP s a) w):=by
 obtain⟨R,hR⟩:∃R,R=AF DP s a:=⟨_,rfl⟩;rw[<-hR];have HR:=Hi hR;clear hR;go_enter Tryz.func161,Tryz.ntmps161;go_wp2
 go_loop [1,7,8] (fun v _ _=>∃k:Nat,k<=140737488355328/\v= .int .i64 k/\R=AF DP s k) (fun v _ _=>s.size-(intOf v).toNat)
 case atStart=>exact⟨a,ha,rfl,HR.out⟩
 case round=>
  obtain⟨k,hk,rfl,hinv⟩:=hrel;by_cases hlt:k<s.size
  ·obtain⟨c,hc⟩:∃c,c=s[k].toNat:=⟨_,rfl⟩;have hcb:c<256:=by rw[hc];exact UInt8.toNat_lt _
   by_cases hp:DP c=true
   ·have HN:Hid (R=AF DP s (k+1)):=Hi (by rw[hinv,Af hlt (by rw[<-hc];exact hp)]);have CP:Hid (∀w,Calls Tryz.prog 214 #[.int .u8 s[k].toNat] w (AD true w)):=Hi (fun w=>by have h:=PW s[k].toNat w;rwa [<-hc,hp,hc]at h);clear hinv hp hc hcb
    go_wp2_with (go_at_call 214;(with_reducible refine(CP.out _).mono ?_);rintro e w' ⟨rfl,rfl⟩)
    go_round
    case rel=>exact⟨k+1,by omega,by go_num,HN.out⟩
    case measure=>simp[intOf];omega
   ·rw[gh]at hp;have HF:Hid (k=R):=Hi (by rw[hinv,Aw hlt (by rw[<-hc];exact hp)]);have CP:Hid (∀w,Calls Tryz.prog 214 #[.int .u8 s[k].toNat] w (AD false w)):=Hi (fun w=>by have h:=PW s[k].toNat w;rwa [<-hc,hp,hc]at h);clear hinv hp hc hcb
    go_wp2_with (go_at_call 214;(with_reducible refine(CP.out _).mono ?_);rintro e w' ⟨rfl,rfl⟩)
    go_ret;exact Al HF.out
  ·have HF:Hid (k=R):=Hi (by rw[hinv,Ac (by omega)]);clear hinv;go_wp2;go_ret;exact Al HF.out
theorem Yi (s:ByteArray) (a:Nat) (w:World) (hs:s.size<=140737488355328) (ha:a<=140737488355328):Calls Tryz.prog 161 #[.string s,.int .i64 a,.int .i64 2] w (Ag (AF C5 s a) w):=by
 obtain⟨R,hR⟩:∃R,R=AF C5 s a:=⟨_,rfl⟩;rw[<-hR];have HR:=Hi hR;clear hR;go_enter Tryz.func161,Tryz.ntmps161;go_wp2
 go_loop [1,7,8] (fun v _ _=>∃k:Nat,k<=140737488355328/\v= .int .i64 k/\R=AF C5 s k) (fun v _ _=>s.size-(intOf v).toNat)
 case atStart=>exact⟨a,ha,rfl,HR.out⟩
 case round=>
  obtain⟨k,hk,rfl,hinv⟩:=hrel;by_cases hlt:k<s.size
  ·obtain⟨c,hc⟩:∃c,c=s[k].toNat:=⟨_,rfl⟩;have hcb:c<256:=by rw[hc];exact UInt8.toNat_lt _
   by_cases hp:C5 c=true
   ·have HN:Hid (R=AF C5 s (k+1)):=Hi (by rw[hinv,Af hlt (by rw[<-hc];exact hp)]);have CP:Hid (∀w,Calls Tryz.prog 163 #[.int .u8 s[k].toNat] w (AD true w)):=Hi (fun w=>by have h:=NY s[k].toNat w;rwa [<-hc,hp,hc]at h);clear hinv hp hc hcb
    go_wp2_with (go_at_call 163;(with_reducible refine(CP.out _).mono ?_);rintro e w' ⟨rfl,rfl⟩)
    go_round
    case rel=>exact⟨k+1,by omega,by go_num,HN.out⟩
    case measure=>simp[intOf];omega
   ·rw[gh]at hp;have HF:Hid (k=R):=Hi (by rw[hinv,Aw hlt (by rw[<-hc];exact hp)]);have CP:Hid (∀w,Calls Tryz.prog 163 #[.int .u8 s[k].toNat] w (AD false w)):=Hi (fun w=>by have h:=NY s[k].toNat w;rwa [<-hc,hp,hc]at h);clear hinv hp hc hcb
    go_wp2_with (go_at_call 163;(with_reducible refine(CP.out _).mono ?_);rintro e w' ⟨rfl,rfl⟩)
    go_ret;exact Al HF.out
  ·have HF:Hid (k=R):=Hi (by rw[hinv,Ac (by omega)]);clear hinv;go_wp2;go_ret;exact Al HF.out
theorem Np (s:ByteArray) (a:Nat) (w:World) (hs:s.size<=140737488355328) (ha:a<=140737488355328):Calls Tryz.prog 161 #[.string s,.int .i64 a,.int .i64 3] w (Ag (AF AM s a) w):=by
 obtain⟨R,hR⟩:∃R,R=AF AM s a:=⟨_,rfl⟩;rw[<-hR];have HR:=Hi hR;clear hR;go_enter Tryz.func161,Tryz.ntmps161;go_wp2
 go_loop [1,7,8] (fun v _ _=>∃k:Nat,k<=140737488355328/\v= .int .i64 k/\R=AF AM s k) (fun v _ _=>s.size-(intOf v).toNat)
 case atStart=>exact⟨a,ha,rfl,HR.out⟩
 case round=>
  obtain⟨k,hk,rfl,hinv⟩:=hrel;by_cases hlt:k<s.size
  ·obtain⟨c,hc⟩:∃c,c=s[k].toNat:=⟨_,rfl⟩;have hcb:c<256:=by rw[hc];exact UInt8.toNat_lt _
   by_cases hp:AM c=true
   ·have HN:Hid (R=AF AM s (k+1)):=Hi (by rw[hinv,Af hlt (by rw[<-hc];exact hp)]);have CP:Hid (∀w,Calls Tryz.prog 157 #[.int .u8 s[k].toNat] w (AD true w)):=Hi (fun w=>by have h:=EN s[k].toNat w;rwa [<-hc,hp,hc]at h);clear hinv hp hc hcb
    go_wp2_with (go_at_call 157;(with_reducible refine(CP.out _).mono ?_);rintro e w' ⟨rfl,rfl⟩)
    go_round
    case rel=>exact⟨k+1,by omega,by go_num,HN.out⟩
    case measure=>simp[intOf];omega
   ·rw[gh]at hp;have HF:Hid (k=R):=Hi (by rw[hinv,Aw hlt (by rw[<-hc];exact hp)]);have CP:Hid (∀w,Calls Tryz.prog 157 #[.int .u8 s[k].toNat] w (AD false w)):=Hi (fun w=>by have h:=EN s[k].toNat w;rwa [<-hc,hp,hc]at h);clear hinv hp hc hcb
    go_wp2_with (go_at_call 157;(with_reducible refine(CP.out _).mono ?_);rintro e w' ⟨rfl,rfl⟩)
    go_ret;exact Al HF.out
  ·have HF:Hid (k=R):=Hi (by rw[hinv,Ac (by omega)]);clear hinv;go_wp2;go_ret;exact Al HF.out
theorem Rn (s:ByteArray) (a:Nat) (w:World) (hs:s.size<=140737488355328) (ha:a<=140737488355328):Calls Tryz.prog 161 #[.string s,.int .i64 a,.int .i64 4] w (Ag (AF Ah s a) w):=by
 obtain⟨R,hR⟩:∃R,R=AF Ah s a:=⟨_,rfl⟩;rw[<-hR];have HR:=Hi hR;clear hR;go_enter Tryz.func161,Tryz.ntmps161;go_wp2
 go_loop [1,7,8] (fun v _ _=>∃k:Nat,k<=140737488355328/\v= .int .i64 k/\R=AF Ah s k) (fun v _ _=>s.size-(intOf v).toNat)
 case atStart=>exact⟨a,ha,rfl,HR.out⟩
 case round=>
  obtain⟨k,hk,rfl,hinv⟩:=hrel;by_cases hlt:k<s.size
  ·obtain⟨c,hc⟩:∃c,c=s[k].toNat:=⟨_,rfl⟩;have hcb:c<256:=by rw[hc];exact UInt8.toNat_lt _
   by_cases hp:Ah c=true
   ·have HN:Hid (R=AF Ah s (k+1)):=Hi (by rw[hinv,Af hlt (by rw[<-hc];exact hp)]);have CP:Hid (∀w,Calls Tryz.prog 164 #[.int .u8 s[k].toNat,.string Ti] w (AD true w)):=Hi (fun w=>by have h:=cu Ti s[k].toNat w (by decide);rwa [Ze (UInt8.toNat_lt _),<-hc,hp,hc]at h);clear hinv hp hc hcb
    go_wp2_with (go_at_call 164;(refine(CP.out _).mono ?_);rintro e w' ⟨rfl,rfl⟩)
    go_round
    case rel=>exact⟨k+1,by omega,by go_num,HN.out⟩
    case measure=>simp[intOf];omega
   ·rw[gh]at hp;have HF:Hid (k=R):=Hi (by rw[hinv,Aw hlt (by rw[<-hc];exact hp)]);have CP:Hid (∀w,Calls Tryz.prog 164 #[.int .u8 s[k].toNat,.string Ti] w (AD false w)):=Hi (fun w=>by have h:=cu Ti s[k].toNat w (by decide);rwa [Ze (UInt8.toNat_lt _),<-hc,hp,hc]at h);clear hinv hp hc hcb
    go_wp2_with (go_at_call 164;(refine(CP.out _).mono ?_);rintro e w' ⟨rfl,rfl⟩)
    go_ret;exact Al HF.out
  ·have HF:Hid (k=R):=Hi (by rw[hinv,Ac (by omega)]);clear hinv;go_wp2;go_ret;exact Al HF.out
end Go.Proofs
end
section
namespace Go.Proofs
open Go.RowKit Go.Pf Go.Lx
theorem Sf (s:ByteArray) (a:Nat) (w:World) (hs:s.size<=140737488355328) (ha:a<=140737488355328):Calls Tryz.prog 161 #[.string s,.int .i64 a,.int .i64 5] w (Ag (AF A6 s a) w):=by
 obtain⟨R,hR⟩:∃R,R=AF A6 s a:=⟨_,rfl⟩;rw[<-hR];have HR:=Hi hR;clear hR;go_enter Tryz.func161,Tryz.ntmps161;go_wp2
 go_loop [1,7,8] (fun v _ _=>∃k:Nat,k<=140737488355328/\v= .int .i64 k/\R=AF A6 s k) (fun v _ _=>s.size-(intOf v).toNat)
 case atStart=>exact⟨a,ha,rfl,HR.out⟩
 case round=>
  obtain⟨k,hk,rfl,hinv⟩:=hrel;by_cases hlt:k<s.size
  ·by_cases hp:A6 s[k].toNat=true
   ·have HN:Hid (R=AF A6 s (k+1)):=Hi (by rw[hinv,Af hlt hp]);have hq:48<=s[k].toNat/\s[k].toNat<=55:=by simpa[A6]using hp
    clear hinv hp;rcases hq with⟨h1,h2⟩
    ·have c1:decide ((48:Int)<=(s[k].toNat:Int))=true:=A5;have c2:decide ((s[k].toNat:Int)<=55)=true:=A5;clear h1 h2;go_wp2;go_round
     case rel=>exact⟨k+1,by omega,by go_num,HN.out⟩
     case measure=>simp[intOf];omega
   ·rw[gh]at hp;have HF:Hid (k=R):=Hi (by rw[hinv,Aw hlt hp]);have hq:s[k].toNat<48\/(48<=s[k].toNat/\55<s[k].toNat):=by simp[A6]at hp;omega
    clear hinv hp;rcases hq with h1|⟨h1,h2⟩
    ·have c1:decide ((48:Int)<=(s[k].toNat:Int))=false:=BC;clear h1;go_wp2;go_ret;exact Al HF.out
    ·have c1:decide ((48:Int)<=(s[k].toNat:Int))=true:=A5;have c2:decide ((s[k].toNat:Int)<=55)=false:=BC;clear h1 h2;go_wp2;go_ret;exact Al HF.out
  ·have HF:Hid (k=R):=Hi (by rw[hinv,Ac (by omega)]);clear hinv;go_wp2;go_ret;exact Al HF.out
theorem YA (s:ByteArray) (a:Nat) (w:World) (hs:s.size<=140737488355328) (ha:a<=140737488355328):Calls Tryz.prog 161 #[.string s,.int .i64 a,.int .i64 6] w (Ag (AF DO s a) w):=by
 obtain⟨R,hR⟩:∃R,R=AF DO s a:=⟨_,rfl⟩;rw[<-hR];have HR:=Hi hR;clear hR;go_enter Tryz.func161,Tryz.ntmps161;go_wp2
 go_loop [1,7,8] (fun v _ _=>∃k:Nat,k<=140737488355328/\v= .int .i64 k/\R=AF DO s k) (fun v _ _=>s.size-(intOf v).toNat)
 case atStart=>exact⟨a,ha,rfl,HR.out⟩
 case round=>
  obtain⟨k,hk,rfl,hinv⟩:=hrel;by_cases hlt:k<s.size
  ·by_cases hp:DO s[k].toNat=true
   ·have HN:Hid (R=AF DO s (k+1)):=Hi (by rw[hinv,Af hlt hp]);have hq:s[k].toNat=48\/s[k].toNat=49:=by simpa[DO]using hp
    clear hinv hp;rcases hq with h1|h1
    ·have c1:((s[k].toNat:Int)==48)=true:=by rw[h1];rfl
     clear h1;go_wp2;go_round
     case rel=>exact⟨k+1,by omega,by go_num,HN.out⟩
     case measure=>simp[intOf];omega
    ·have c1:((s[k].toNat:Int)==48)=false:=Bn (n:=48) (by omega);have c2:((s[k].toNat:Int)==49)=true:=by rw[h1];rfl
     clear h1;go_wp2;go_round
     case rel=>exact⟨k+1,by omega,by go_num,HN.out⟩
     case measure=>simp[intOf];omega
   ·rw[gh]at hp;have HF:Hid (k=R):=Hi (by rw[hinv,Aw hlt hp]);have hq:s[k].toNat≠48/\s[k].toNat≠49:=by simp[DO]at hp;omega
    clear hinv hp;rcases hq with⟨h1,h2⟩
    ·have c1:((s[k].toNat:Int)==48)=false:=Bn (n:=48) (by omega);have c2:((s[k].toNat:Int)==49)=false:=Bn (n:=49) (by omega);clear h1 h2;go_wp2;go_ret;exact Al HF.out
  ·have HF:Hid (k=R):=Hi (by rw[hinv,Ac (by omega)]);clear hinv;go_wp2;go_ret;exact Al HF.out
end Go.Proofs
end
section
namespace Go.Lx
def Ni (c b:Nat):Bool:= !decide (b=c)
end Go.Lx
namespace Go.Proofs
open Go.RowKit Go.Pf Go.Lx
theorem eh (s:ByteArray) (a c:Nat) (w:World) (hs:s.size<=140737488355328) (ha:a<=140737488355328):Calls Tryz.prog 156 #[.string s,.int .i64 a,.int .u8 c] w (Ag (AF (Ni c) s a) w):=by
 obtain⟨R,hR⟩:∃R,R=AF (Ni c) s a:=⟨_,rfl⟩;rw[<-hR];have HR:=Hi hR;clear hR;go_enter Tryz.func156,Tryz.ntmps156;go_wp2
 go_loop [1] (fun v=>∃k:Nat,k<=140737488355328/\v= .int .i64 k/\R=AF (Ni c) s k) (fun v=>s.size-(intOf v).toNat)
 case atStart=>exact⟨a,ha,rfl,HR.out⟩
 case round=>
  obtain⟨k,hk,rfl,hinv⟩:=hrel;by_cases hlt:k<s.size
  ·by_cases hp:s[k].toNat=c
   ·have HF:Hid (k=R):=Hi (by rw[hinv,Aw hlt (by simp[Ni,hp])]);have c1:((s[k].toNat:Int)==(c:Int))=true:=by rw[hp];exact beq_self_eq_true _
    have c2:((s[k].toNat:Int) !=(c:Int))=false:=by rw[bne,c1];rfl
    clear hinv hp;go_wp2;go_ret;exact Al HF.out
   ·have HN:Hid (R=AF (Ni c) s (k+1)):=Hi (by rw[hinv,Af hlt (by simp[Ni,hp])]);have c1:((s[k].toNat:Int)==(c:Int))=false:=Bn hp;have c2:((s[k].toNat:Int) !=(c:Int))=true:=by rw[bne,c1];rfl
    clear hinv hp;go_wp2;go_round
    case rel=>exact⟨k+1,by omega,by go_num,HN.out⟩
    case measure=>simp[intOf];omega
  ·have HF:Hid (k=R):=Hi (by rw[hinv,Ac (by omega)]);clear hinv;go_wp2;go_ret;exact Al HF.out
end Go.Proofs
end
section
namespace Go.Proofs
open Go.RowKit Go.Pf Go.Lx Go.Rb
theorem Tryz.rvalue (c:Nat) (h:Ah c=true) (w:World):Calls Tryz.prog 209 #[.int .u8 c] w fun e w'=>e= .returned (.int .i64 (CK c))/\w=w':=by
 have hc:(48<=c/\c<=57)\/(97<=c/\c<=102)\/(65<=c/\c<=70):=by
  simp[Ah,AM]at h;omega
 obtain⟨d,hd⟩:∃d,d=CK c:=⟨_,rfl⟩;have hd2:=hd;unfold CK at hd2;rw[<-hd];clear hd h;rcases hc with hc|hc|hc
 ·have CD:Hid (∀w,Calls Tryz.prog 157 #[.int .u8 c] w (AD true w)):=Hi (fun w=>by
   have h:=EN c w
   rwa [show AM c=true by simp[AM];omega]at h)
  rw[if_pos hc]at hd2;have e1:(c:Int)-48=d:=by omega
  have db:d<=9:=by omega
  clear hd2 hc;go_enter Tryz.func209,Tryz.ntmps209
  go_wp2_with (go_at_call 157;(with_reducible refine(CD.out _).mono ?_);rintro e w' ⟨rfl,rfl⟩)
  go_ret;exact⟨rfl,rfl⟩
 ·have CD:Hid (∀w,Calls Tryz.prog 157 #[.int .u8 c] w (AD false w)):=Hi (fun w=>by
   have h:=EN c w
   rwa [show AM c=false by simp[AM];omega]at h)
  rw[if_neg (by omega),if_pos (by omega)]at hd2;have e1:(c:Int)-97=(d-10:Nat):=by omega
  obtain⟨d1,hd1⟩:∃d1,d1=d-10:=⟨_,rfl⟩;rw[<-hd1]at e1;have e2:(d1:Int)+10=d:=by omega
  have db:d1<=5:=by omega
  have g1:decide ((97:Int)<=(c:Int))=true:=A5;have g2:decide ((c:Int)<=102)=true:=A5;clear hd2 hc hd1;go_enter Tryz.func209,Tryz.ntmps209
  go_wp2_with (go_at_call 157;(with_reducible refine(CD.out _).mono ?_);rintro e w' ⟨rfl,rfl⟩)
  go_ret;exact⟨rfl,rfl⟩
 ·have CD:Hid (∀w,Calls Tryz.prog 157 #[.int .u8 c] w (AD false w)):=Hi (fun w=>by
   have h:=EN c w
   rwa [show AM c=false by simp[AM];omega]at h)
  rw[if_neg (by omega),if_neg (by omega),if_pos (by omega)]at hd2;have e1:(c:Int)-65=(d-10:Nat):=by omega
  obtain⟨d1,hd1⟩:∃d1,d1=d-10:=⟨_,rfl⟩;rw[<-hd1]at e1;have e2:(d1:Int)+10=d:=by omega
  have db:d1<=5:=by omega
  have g1:decide ((97:Int)<=(c:Int))=false:=BC;clear hd2 hc hd1;go_enter Tryz.func209,Tryz.ntmps209
  go_wp2_with (go_at_call 157;(with_reducible refine(CD.out _).mono ?_);rintro e w' ⟨rfl,rfl⟩)
  go_ret;exact⟨rfl,rfl⟩
end Go.Proofs
end
