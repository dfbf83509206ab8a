import Derived.Test.YtpocgkiamgipdaaGreatDoorTam
import Derived.Deep.AppendLies
import Derived.Test.YtpocgkiamgipdaaGreatDoorTah
import Derived.Deep.CutRange
set_option maxRecDepth 1000000
set_option maxHeartbeats 0
set_option linter.unusedVariables false
set_option linter.unusedSimpArgs false
open Go.Proofs.Tryz
section
namespace Go.Proofs
open Go.RowKit Go.Pf Go.Rb
structure DI (a b k q R:Nat):Prop where
 eq:(2^k*q)*b+R=a
 lt:R<b*2^k
def Ea (S:List Nat) (x:Nat):Prop:=∀t,t<S.length->S.getD t 0=Bn x t
theorem Ea.cells {S:List Nat} {x:Nat}(h:Ea S x):Hk S=Cp x S.length:=by
 apply List.ext_getElem?;intro j;by_cases hj:j<S.length
 ·rw[Kt S j hj,IV _ _ _ hj,h j hj]
 ·rw[mr (by simp[Hk];omega),mr (by rw[Js];omega)]
theorem Ea.zero (n:Nat):Ea (List.replicate n 0) 0:=by
 intro t ht;have e:Bn 0 t=0:=by simp[Bn]
 rw[e,lZ,List.getElem?_replicate];split<;>simp
theorem Ea.double {S:List Nat} {q i:Nat}(h:Ea S (2^(i+1)*q)):Ea S (2^i*(2*q)):=by
 rw[<-l5,<-l9];exact h
end Go.Proofs
end
section
namespace Go.Proofs
open Go.RowKit Go.Pf Go.Rb
structure DS (B:Nat) (W1:World) (bq g L cap:Nat) (Sq Sa:List Nat) (wr:World):Prop where
 gf:wr.ownsRow B 3 1 (.slice (some ⟨bq,0,none⟩) L L) L (Hk Sq)
 ia:wr.ownsRow B 3 1 (.slice (some ⟨g,0,none⟩) L cap) L (Hk Sa)
 Ac:Below B W1 wr
 lq:Sq.length=L
 la:Sa.length=L
 ne:bq≠g
theorem DS.heap {B:Nat} {W1:World} {bq g L cap:Nat} {Sq Sa:List Nat} {wr w':World}(h:DS B W1 bq g L cap Sq Sa wr) (p:Hp wr w'):DS B W1 bq g L cap Sq Sa w':=by
 refine⟨⟨h.gf.1,?_⟩,⟨h.ia.1,?_⟩,Below.hp h.Ac p,h.lq,h.la,h.ne⟩
 ·rw[p.heap];exact h.gf.2
 ·rw[p.heap];exact h.ia.2
structure DL (B:Nat) (W1:World) (bq g L cap a b k top:Nat) (wr:World):Prop where
 ex:∃q R Sq Sa,DI a b k q R/\DS B W1 bq g L cap Sq Sa wr/\Ea Sq (2^k*q)/\Ea Sa R/\R<2^top
theorem DL.heap {B:Nat} {W1:World} {bq g L cap a b k top:Nat} {wr w':World}(h:DL B W1 bq g L cap a b k top wr) (p:Hp wr w'):DL B W1 bq g L cap a b k top w':=by
 obtain⟨q,R,Sq,Sa,h1,h2,h3,h4,h5⟩:=h.ex;exact⟨q,R,Sq,Sa,h1,h2.heap p,h3,h4,h5⟩
theorem Ea.range (x m:Nat):Ea ((List.range m).map (Bn x)) x:=by
 intro t ht;rw[nN,List.length_range]at ht;simp[lZ,ht]
end Go.Proofs
end
namespace Go.Rb
open Go.Pf
def Cv (c:Nat):Nat:=if 48<=c/\c<=57 then c-48 else if 97<=c/\c<=122 then c-97+10 else if 65<=c/\c<=90 then c-65+10 else 99
def vN (r:Nat) (s:ByteArray):Nat->Nat
 |0=>0
 |k+1=>vN r s k*r+Cv (byte s k)
theorem Ep {r:Nat}(hr:1<=r) (s:ByteArray){j k:Nat}(h:j<=k):vN r s j<=vN r s k:=by
 induction h with
 |refl=>exact nR _
 |step _ ih=>exact lg ih (by rw[vN];exact lg (Nat.le_mul_of_pos_right _ hr) (Nat.le_add_right _ _))
end Go.Rb
section
namespace Go.Proofs
open Go.RowKit Go.Pf Go.Rb
end Go.Proofs
end

section
namespace Go.Lx
def AQ (c:Nat):Bool:=decide (48<=c)&&decide (c<=57)
def JF (c:Nat):Bool:=decide (97<=c)&&decide (c<=122)
def Cr (c:Nat):Bool:=decide (48<=c)&&decide (c<=55)
def Jr (c:Nat):Bool:=decide (65<=c)&&decide (c<=90)||decide (c=95)
def JO (c:Nat):Bool:=decide (9<=c)&&decide (c<=13)||decide (c=32)
def Fh (c:Nat):Bool:=decide (c=48)||decide (c=49)
def FE (c:Nat):Bool:=JF c||Jr c||AQ c
def A9 (c:Nat):Bool:=AQ c||(decide (97<=c)&&decide (c<=102))||(decide (65<=c)&&decide (c<=70))
end Go.Lx
namespace Go.Proofs
open Go.RowKit Go.Pf Go.Lx
def AR (p:Bool) (w:World) (e:Ending) (w':World):Prop:=e= .returned (.bool p)/\w=w'
theorem Ff (c:Nat) (w:World):Calls prog 56 #[.int .u8 c] w (AR (AQ c) w):=by
 obtain⟨p,hp⟩:∃p:Bool,p=decide (48<=c):=⟨_,rfl⟩;have cp:decide ((48:Int)<=(c:Int))=p:=by rw[hp];exact mZ.2 (by omega)
 obtain⟨q,hq⟩:∃p:Bool,p=decide (c<=57):=⟨_,rfl⟩;have cq:decide ((c:Int)<=57)=q:=by rw[hq];exact mZ.2 (by omega)
 unfold AQ;rw[<-hp,<-hq];clear hp hq;cases p
 all_goals cases q
 all_goals
  go_enter func56,ntmps56;go_wp2;go_ret;exact⟨rfl,rfl⟩
theorem QV (c:Nat) (w:World):Calls prog 59 #[.int .u8 c] w (AR (JF c) w):=by
 obtain⟨p,hp⟩:∃p:Bool,p=decide (97<=c):=⟨_,rfl⟩;have cp:decide ((97:Int)<=(c:Int))=p:=by rw[hp];exact mZ.2 (by omega)
 obtain⟨q,hq⟩:∃p:Bool,p=decide (c<=122):=⟨_,rfl⟩;have cq:decide ((c:Int)<=122)=q:=by rw[hq];exact mZ.2 (by omega)
 unfold JF;rw[<-hp,<-hq];clear hp hq;cases p
 all_goals cases q
 all_goals
  go_enter func59,ntmps59;go_wp2;go_ret;exact⟨rfl,rfl⟩
theorem Xk (c:Nat) (w:World):Calls prog 86 #[.int .u8 c] w (AR (Cr c) w):=by
 obtain⟨p,hp⟩:∃p:Bool,p=decide (48<=c):=⟨_,rfl⟩;have cp:decide ((48:Int)<=(c:Int))=p:=by rw[hp];exact mZ.2 (by omega)
 obtain⟨q,hq⟩:∃p:Bool,p=decide (c<=55):=⟨_,rfl⟩;have cq:decide ((c:Int)<=55)=q:=by rw[hq];exact mZ.2 (by omega)
 unfold Cr;rw[<-hp,<-hq];clear hp hq;cases p
 all_goals cases q
 all_goals
  go_enter func86,ntmps86;go_wp2;go_ret;exact⟨rfl,rfl⟩
theorem Rd (c:Nat) (w:World):Calls prog 62 #[.int .u8 c] w (AR (Jr c) w):=by
 obtain⟨p,hp⟩:∃p:Bool,p=decide (65<=c):=⟨_,rfl⟩;have cp:decide ((65:Int)<=(c:Int))=p:=by rw[hp];exact mZ.2 (by omega)
 obtain⟨q,hq⟩:∃p:Bool,p=decide (c<=90):=⟨_,rfl⟩;have cq:decide ((c:Int)<=90)=q:=by rw[hq];exact mZ.2 (by omega)
 obtain⟨r,hr⟩:∃p:Bool,p=decide (c=95):=⟨_,rfl⟩;have cr:((c:Int)==95)=r:=by rw[hr];exact oZ.2 (by simp;omega)
 unfold Jr;rw[<-hp,<-hq,<-hr];clear hp hq hr;cases p
 all_goals cases q
 all_goals cases r
 all_goals
  go_enter func62,ntmps62;go_wp2;go_ret;exact⟨rfl,rfl⟩
theorem Q9 (c:Nat) (w:World):Calls prog 51 #[.int .u8 c] w (AR (JO c) w):=by
 obtain⟨p,hp⟩:∃p:Bool,p=decide (9<=c):=⟨_,rfl⟩;have cp:decide ((9:Int)<=(c:Int))=p:=by rw[hp];exact mZ.2 (by omega)
 obtain⟨q,hq⟩:∃p:Bool,p=decide (c<=13):=⟨_,rfl⟩;have cq:decide ((c:Int)<=13)=q:=by rw[hq];exact mZ.2 (by omega)
 obtain⟨r,hr⟩:∃p:Bool,p=decide (c=32):=⟨_,rfl⟩;have cr:((c:Int)==32)=r:=by rw[hr];exact oZ.2 (by simp;omega)
 unfold JO;rw[<-hp,<-hq,<-hr];clear hp hq hr;cases p
 all_goals cases q
 all_goals cases r
 all_goals
  go_enter func51,ntmps51;go_wp2;go_ret;exact⟨rfl,rfl⟩
theorem iw (c:Nat) (w:World):Calls prog 85 #[.int .u8 c] w (AR (Fh c) w):=by
 obtain⟨p,hp⟩:∃p:Bool,p=decide (c=48):=⟨_,rfl⟩;have cp:((c:Int)==48)=p:=by rw[hp];exact oZ.2 (by simp;omega)
 obtain⟨q,hq⟩:∃p:Bool,p=decide (c=49):=⟨_,rfl⟩;have cq:((c:Int)==49)=q:=by rw[hq];exact oZ.2 (by simp;omega)
 unfold Fh;rw[<-hp,<-hq];clear hp hq;cases p
 all_goals cases q
 all_goals
  go_enter func85,ntmps85;go_wp2;go_ret;exact⟨rfl,rfl⟩
theorem Rx (c:Nat) (w:World):Calls prog 61 #[.int .u8 c] w (AR (FE c) w):=by
 obtain⟨p,hp⟩:∃p:Bool,p=JF c:=⟨_,rfl⟩;obtain⟨q,hq⟩:∃p:Bool,p=Jr c:=⟨_,rfl⟩;obtain⟨r,hr⟩:∃p:Bool,p=AQ c:=⟨_,rfl⟩;have CS:Hid (∀w,Calls prog 59 #[.int .u8 c] w (AR p w)):=Hi (fun w=>by rw[hp];exact QV c w);have CG:Hid (∀w,Calls prog 62 #[.int .u8 c] w (AR q w)):=Hi (fun w=>by rw[hq];exact Rd c w);have CD:Hid (∀w,Calls prog 56 #[.int .u8 c] w (AR r w)):=Hi (fun w=>by rw[hr];exact Ff c w);unfold FE;rw[<-hp,<-hq,<-hr];clear hp hq hr;cases p
 all_goals cases q
 all_goals cases r
 all_goals
  go_enter func61,ntmps61
  go_wp2_with (first|(go_at_call 59;(with_reducible refine(CS.o _).mono ?_);rintro e w' ⟨rfl,rfl⟩)|(go_at_call 62;(with_reducible refine(CG.o _).mono ?_);rintro e w' ⟨rfl,rfl⟩)|(go_at_call 56;(with_reducible refine(CD.o _).mono ?_);rintro e w' ⟨rfl,rfl⟩))
  go_ret;exact⟨rfl,rfl⟩
theorem ij (c:Nat) (w:World):Calls prog 84 #[.int .u8 c] w (AR (A9 c) w):=by
 obtain⟨d,hd⟩:∃p:Bool,p=AQ c:=⟨_,rfl⟩;have CD:Hid (∀w,Calls prog 56 #[.int .u8 c] w (AR d w)):=Hi (fun w=>by rw[hd];exact Ff c w);obtain⟨p,hp⟩:∃p:Bool,p=decide (97<=c):=⟨_,rfl⟩;have cp:decide ((97:Int)<=(c:Int))=p:=by rw[hp];exact mZ.2 (by omega)
 obtain⟨q,hq⟩:∃p:Bool,p=decide (c<=102):=⟨_,rfl⟩;have cq:decide ((c:Int)<=102)=q:=by rw[hq];exact mZ.2 (by omega)
 obtain⟨r,hr⟩:∃p:Bool,p=decide (65<=c):=⟨_,rfl⟩;have cr:decide ((65:Int)<=(c:Int))=r:=by rw[hr];exact mZ.2 (by omega)
 obtain⟨s,hs⟩:∃p:Bool,p=decide (c<=70):=⟨_,rfl⟩;have cs:decide ((c:Int)<=70)=s:=by rw[hs];exact mZ.2 (by omega)
 unfold A9;rw[<-hd,<-hp,<-hq,<-hr,<-hs];clear hd hp hq hr hs;cases d
 all_goals cases p
 all_goals cases q
 all_goals cases r
 all_goals cases s
 all_goals
  go_enter func84,ntmps84
  go_wp2_with (go_at_call 56;(with_reducible refine(CD.o _).mono ?_);rintro e w' ⟨rfl,rfl⟩)
  go_ret;exact⟨rfl,rfl⟩
end Go.Proofs
end
section
namespace Go.Lx
def kj (s:ByteArray) (c:Nat):Nat->Nat->Bool
 |0,_=>false
 |n+1,i=>if h:i<s.size then(if s[i].toNat=c then true else kj s c n (i+1))else false
def ko (s:ByteArray) (c:Nat):Bool:=kj s c s.size 0
def ED (p:Nat->Bool) (s:ByteArray):Nat->Nat->Nat
 |0,a=>a
 |n+1,a=>if h:a<s.size then(if p s[a].toNat then ED p s n (a+1)else a)else a
def AF (p:Nat->Bool) (s:ByteArray) (a:Nat):Nat:=ED p s (s.size-a) a
theorem Bb {p:Nat->Bool} {s:ByteArray} {a:Nat}(h:a<s.size) (hp:p s[a].toNat=true):AF p s a=AF p s (a+1):=by
 unfold AF;obtain⟨n,hn⟩:∃n,s.size-a=n+1:=⟨s.size-a-1,by omega⟩;have h2:s.size-(a+1)=n:=by omega
 rw[hn,h2];simp[ED,h,hp]
theorem Cu {p:Nat->Bool} {s:ByteArray} {a:Nat}(h:a<s.size) (hp:p s[a].toNat=false):AF p s a=a:=by
 unfold AF;obtain⟨n,hn⟩:∃n,s.size-a=n+1:=⟨s.size-a-1,by omega⟩;rw[hn];simp[ED,h,hp]
theorem Bl {p:Nat->Bool} {s:ByteArray} {a:Nat}(h:s.size<=a):AF p s a=a:=by
 unfold AF;rw[show s.size-a=0 by omega];rfl
theorem BN (p:Nat->Bool) (s:ByteArray) (a:Nat):a<=AF p s a:=by
 unfold AF;generalize s.size-a=n
 induction n generalizing a with
 |zero=>exact nR _
 |succ n ih=>
  unfold ED;split
  ·split
   ·have:=ih (a+1);omega
   ·omega
  ·omega
theorem Bx (p:Nat->Bool) (s:ByteArray) (a:Nat) (h:a<=s.size):AF p s a<=s.size:=by
 unfold AF;generalize s.size-a=n
 induction n generalizing a with
 |zero=>exact h
 |succ n ih=>
  unfold ED;split
  ·split
   ·exact ih (a+1) (by omega)
   ·omega
  ·omega
end Go.Lx
namespace Go.Proofs
open Go.RowKit Go.Pf Go.Lx
theorem YD {p q:Bool} {w:World}(h:p=q):AR q w (.returned (.bool p)) w:=by subst h;exact⟨rfl,rfl⟩
end Go.Proofs
end
section
namespace Go.Lx
def UZ:ByteArray:=⟨#[35,36,38,42,43,45,46,47,58,60,61,62,63,64,94,126,92]⟩
def RM:ByteArray:=⟨#[40,41,91,93,123,125,44,124]⟩
def Ez (c:Nat):Bool:=ko UZ c
def Kh (c:Nat):Bool:=ko RM c
theorem cW:(List.range 256).all (fun c=>(decide (0<=Lib.indexByte UZ.data.toList c.toUInt8)==Ez c)&&(decide (0<=Lib.indexByte RM.data.toList c.toUInt8)==Kh c))=true:=by kernel_rfl
theorem gj {c:Nat}(h:c<256):decide (0<=Lib.indexByte UZ.data.toList c.toUInt8)=Ez c:=by
 have:=nS.1 cW c (pX.2 h);rw[mJ]at this;exact eq_of_beq this.1
theorem iP {c:Nat}(h:c<256):decide (0<=Lib.indexByte RM.data.toList c.toUInt8)=Kh c:=by
 have:=nS.1 cW c (pX.2 h);rw[mJ]at this;exact eq_of_beq this.2
end Go.Lx
namespace Go.Proofs
open Go.RowKit Go.Pf Go.Lx
theorem Ro (c:Nat) (hc:c<256) (w:World):Calls prog 63 #[.int .u8 c] w (AR (Ez c) w):=by
 obtain⟨z,hz⟩:∃z,z=Lib.indexByte UZ.data.toList c.toUInt8:=⟨_,rfl⟩;have CI:Hid (∀w,Calls prog 52 #[.string UZ,.int .u8 c] w fun e w'=>e= .returned (.int .i64 z)/\w'=w):=Hi (fun w=>by rw[hz];exact Tryz.strings_IndexByte UZ c w);have hp:=gj hc;rw[<-hz]at hp;rw[<-hp];clear hp hz;go_enter func63,ntmps63
 go_wp2_with (go_at_call 52;(refine(CI.o _).mono ?_);rintro e w' ⟨rfl,rfl⟩)
 go_ret;exact YD (by simp)
end Go.Proofs
end
section
namespace Go.Proofs
open Go.RowKit Go.Pf Go.Lx
def Cf (R:Nat) (w:World) (e:Ending) (w':World):Prop:=e= .returned (.int .i64 R)/\w=w'
theorem DG {p q:Nat} {w:World}(h:p=q):Cf q w (.returned (.int .i64 p)) w:=by subst h;exact⟨rfl,rfl⟩
theorem OE (s:ByteArray) (a:Nat) (w:World) (hs:s.size<=140737488355328) (ha:a<=140737488355328):Calls prog 60 #[.string s,.int .i64 a,.func (.func 56) #[] #[]] w (Cf (AF AQ s a) w):=by
 obtain⟨R,hR⟩:∃R,R=AF AQ s a:=⟨_,rfl⟩;rw[<-hR];have HR:=Hi hR;clear hR;go_enter func60,ntmps60;go_wp2
 go_loop [1] (fun v=>∃k:Nat,k<=140737488355328/\v= .int .i64 k/\R=AF AQ s k) (fun v=>s.size-(intOf v).toNat)
 case atStart=>exact⟨a,ha,rfl,HR.o⟩
 case round=>
  obtain⟨k,hk,rfl,hinv⟩:=hrel;by_cases qE:k<s.size
  ·obtain⟨c,hc⟩:∃c,c=s[k].toNat:=⟨_,rfl⟩;have vH:c<256:=by rw[hc];exact p9 _
   by_cases hp:AQ c=true
   ·have HN:Hid (R=AF AQ s (k+1)):=Hi (by rw[hinv,Bb qE (by rw[<-hc];exact hp)]);have CP:Hid (∀w,Calls prog 56 #[.int .u8 s[k].toNat] w (AR true w)):=Hi (fun w=>by have h:=Ff s[k].toNat w;rwa [<-hc,hp,hc]at h);clear hinv hp hc vH
    go_wp2_with (go_at_call 56;(with_reducible refine(CP.o _).mono ?_);rintro e w' ⟨rfl,rfl⟩)
    go_round
    case rel=>exact⟨k+1,by omega,by go_num,HN.o⟩
    case measure=>simp[intOf];omega
   ·rw[oT]at hp;have HF:Hid (k=R):=Hi (by rw[hinv,Cu qE (by rw[<-hc];exact hp)]);have CP:Hid (∀w,Calls prog 56 #[.int .u8 s[k].toNat] w (AR false w)):=Hi (fun w=>by have h:=Ff s[k].toNat w;rwa [<-hc,hp,hc]at h);clear hinv hp hc vH
    go_wp2_with (go_at_call 56;(with_reducible refine(CP.o _).mono ?_);rintro e w' ⟨rfl,rfl⟩)
    go_ret;exact DG HF.o
  ·have HF:Hid (k=R):=Hi (by rw[hinv,Bl (by omega)]);clear hinv;go_wp2;go_ret;exact DG HF.o
theorem SK (s:ByteArray) (a:Nat) (w:World) (hs:s.size<=140737488355328) (ha:a<=140737488355328):Calls prog 60 #[.string s,.int .i64 a,.func (.func 61) #[] #[]] w (Cf (AF FE s a) w):=by
 obtain⟨R,hR⟩:∃R,R=AF FE s a:=⟨_,rfl⟩;rw[<-hR];have HR:=Hi hR;clear hR;go_enter func60,ntmps60;go_wp2
 go_loop [1] (fun v=>∃k:Nat,k<=140737488355328/\v= .int .i64 k/\R=AF FE s k) (fun v=>s.size-(intOf v).toNat)
 case atStart=>exact⟨a,ha,rfl,HR.o⟩
 case round=>
  obtain⟨k,hk,rfl,hinv⟩:=hrel;by_cases qE:k<s.size
  ·obtain⟨c,hc⟩:∃c,c=s[k].toNat:=⟨_,rfl⟩;have vH:c<256:=by rw[hc];exact p9 _
   by_cases hp:FE c=true
   ·have HN:Hid (R=AF FE s (k+1)):=Hi (by rw[hinv,Bb qE (by rw[<-hc];exact hp)]);have CP:Hid (∀w,Calls prog 61 #[.int .u8 s[k].toNat] w (AR true w)):=Hi (fun w=>by have h:=Rx s[k].toNat w;rwa [<-hc,hp,hc]at h);clear hinv hp hc vH
    go_wp2_with (go_at_call 61;(with_reducible refine(CP.o _).mono ?_);rintro e w' ⟨rfl,rfl⟩)
    go_round
    case rel=>exact⟨k+1,by omega,by go_num,HN.o⟩
    case measure=>simp[intOf];omega
   ·rw[oT]at hp;have HF:Hid (k=R):=Hi (by rw[hinv,Cu qE (by rw[<-hc];exact hp)]);have CP:Hid (∀w,Calls prog 61 #[.int .u8 s[k].toNat] w (AR false w)):=Hi (fun w=>by have h:=Rx s[k].toNat w;rwa [<-hc,hp,hc]at h);clear hinv hp hc vH
    go_wp2_with (go_at_call 61;(with_reducible refine(CP.o _).mono ?_);rintro e w' ⟨rfl,rfl⟩)
    go_ret;exact DG HF.o
  ·have HF:Hid (k=R):=Hi (by rw[hinv,Bl (by omega)]);clear hinv;go_wp2;go_ret;exact DG HF.o
theorem Z8 (s:ByteArray) (a:Nat) (w:World) (hs:s.size<=140737488355328) (ha:a<=140737488355328):Calls prog 60 #[.string s,.int .i64 a,.func (.func 63) #[] #[]] w (Cf (AF Ez s a) w):=by
 obtain⟨R,hR⟩:∃R,R=AF Ez s a:=⟨_,rfl⟩;rw[<-hR];have HR:=Hi hR;clear hR;go_enter func60,ntmps60;go_wp2
 go_loop [1] (fun v=>∃k:Nat,k<=140737488355328/\v= .int .i64 k/\R=AF Ez s k) (fun v=>s.size-(intOf v).toNat)
 case atStart=>exact⟨a,ha,rfl,HR.o⟩
 case round=>
  obtain⟨k,hk,rfl,hinv⟩:=hrel;by_cases qE:k<s.size
  ·obtain⟨c,hc⟩:∃c,c=s[k].toNat:=⟨_,rfl⟩;have vH:c<256:=by rw[hc];exact p9 _
   by_cases hp:Ez c=true
   ·have HN:Hid (R=AF Ez s (k+1)):=Hi (by rw[hinv,Bb qE (by rw[<-hc];exact hp)]);have CP:Hid (∀w,Calls prog 63 #[.int .u8 s[k].toNat] w (AR true w)):=Hi (fun w=>by have h:=Ro s[k].toNat (p9 _) w;rwa [<-hc,hp,hc]at h);clear hinv hp hc vH
    go_wp2_with (go_at_call 63;(with_reducible refine(CP.o _).mono ?_);rintro e w' ⟨rfl,rfl⟩)
    go_round
    case rel=>exact⟨k+1,by omega,by go_num,HN.o⟩
    case measure=>simp[intOf];omega
   ·rw[oT]at hp;have HF:Hid (k=R):=Hi (by rw[hinv,Cu qE (by rw[<-hc];exact hp)]);have CP:Hid (∀w,Calls prog 63 #[.int .u8 s[k].toNat] w (AR false w)):=Hi (fun w=>by have h:=Ro s[k].toNat (p9 _) w;rwa [<-hc,hp,hc]at h);clear hinv hp hc vH
    go_wp2_with (go_at_call 63;(with_reducible refine(CP.o _).mono ?_);rintro e w' ⟨rfl,rfl⟩)
    go_ret;exact DG HF.o
  ·have HF:Hid (k=R):=Hi (by rw[hinv,Bl (by omega)]);clear hinv;go_wp2;go_ret;exact DG HF.o
theorem M8 (s:ByteArray) (a:Nat) (w:World) (hs:s.size<=140737488355328) (ha:a<=140737488355328):Calls prog 60 #[.string s,.int .i64 a,.func (.func 84) #[] #[]] w (Cf (AF A9 s a) w):=by
 obtain⟨R,hR⟩:∃R,R=AF A9 s a:=⟨_,rfl⟩;rw[<-hR];have HR:=Hi hR;clear hR;go_enter func60,ntmps60;go_wp2
 go_loop [1] (fun v=>∃k:Nat,k<=140737488355328/\v= .int .i64 k/\R=AF A9 s k) (fun v=>s.size-(intOf v).toNat)
 case atStart=>exact⟨a,ha,rfl,HR.o⟩
 case round=>
  obtain⟨k,hk,rfl,hinv⟩:=hrel;by_cases qE:k<s.size
  ·obtain⟨c,hc⟩:∃c,c=s[k].toNat:=⟨_,rfl⟩;have vH:c<256:=by rw[hc];exact p9 _
   by_cases hp:A9 c=true
   ·have HN:Hid (R=AF A9 s (k+1)):=Hi (by rw[hinv,Bb qE (by rw[<-hc];exact hp)]);have CP:Hid (∀w,Calls prog 84 #[.int .u8 s[k].toNat] w (AR true w)):=Hi (fun w=>by have h:=ij s[k].toNat w;rwa [<-hc,hp,hc]at h);clear hinv hp hc vH
    go_wp2_with (go_at_call 84;(with_reducible refine(CP.o _).mono ?_);rintro e w' ⟨rfl,rfl⟩)
    go_round
    case rel=>exact⟨k+1,by omega,by go_num,HN.o⟩
    case measure=>simp[intOf];omega
   ·rw[oT]at hp;have HF:Hid (k=R):=Hi (by rw[hinv,Cu qE (by rw[<-hc];exact hp)]);have CP:Hid (∀w,Calls prog 84 #[.int .u8 s[k].toNat] w (AR false w)):=Hi (fun w=>by have h:=ij s[k].toNat w;rwa [<-hc,hp,hc]at h);clear hinv hp hc vH
    go_wp2_with (go_at_call 84;(with_reducible refine(CP.o _).mono ?_);rintro e w' ⟨rfl,rfl⟩)
    go_ret;exact DG HF.o
  ·have HF:Hid (k=R):=Hi (by rw[hinv,Bl (by omega)]);clear hinv;go_wp2;go_ret;exact DG HF.o
theorem Sk (s:ByteArray) (a:Nat) (w:World) (hs:s.size<=140737488355328) (ha:a<=140737488355328):Calls prog 60 #[.string s,.int .i64 a,.func (.func 86) #[] #[]] w (Cf (AF Cr s a) w):=by
 obtain⟨R,hR⟩:∃R,R=AF Cr s a:=⟨_,rfl⟩;rw[<-hR];have HR:=Hi hR;clear hR;go_enter func60,ntmps60;go_wp2
 go_loop [1] (fun v=>∃k:Nat,k<=140737488355328/\v= .int .i64 k/\R=AF Cr s k) (fun v=>s.size-(intOf v).toNat)
 case atStart=>exact⟨a,ha,rfl,HR.o⟩
 case round=>
  obtain⟨k,hk,rfl,hinv⟩:=hrel;by_cases qE:k<s.size
  ·obtain⟨c,hc⟩:∃c,c=s[k].toNat:=⟨_,rfl⟩;have vH:c<256:=by rw[hc];exact p9 _
   by_cases hp:Cr c=true
   ·have HN:Hid (R=AF Cr s (k+1)):=Hi (by rw[hinv,Bb qE (by rw[<-hc];exact hp)]);have CP:Hid (∀w,Calls prog 86 #[.int .u8 s[k].toNat] w (AR true w)):=Hi (fun w=>by have h:=Xk s[k].toNat w;rwa [<-hc,hp,hc]at h);clear hinv hp hc vH
    go_wp2_with (go_at_call 86;(with_reducible refine(CP.o _).mono ?_);rintro e w' ⟨rfl,rfl⟩)
    go_round
    case rel=>exact⟨k+1,by omega,by go_num,HN.o⟩
    case measure=>simp[intOf];omega
   ·rw[oT]at hp;have HF:Hid (k=R):=Hi (by rw[hinv,Cu qE (by rw[<-hc];exact hp)]);have CP:Hid (∀w,Calls prog 86 #[.int .u8 s[k].toNat] w (AR false w)):=Hi (fun w=>by have h:=Xk s[k].toNat w;rwa [<-hc,hp,hc]at h);clear hinv hp hc vH
    go_wp2_with (go_at_call 86;(with_reducible refine(CP.o _).mono ?_);rintro e w' ⟨rfl,rfl⟩)
    go_ret;exact DG HF.o
  ·have HF:Hid (k=R):=Hi (by rw[hinv,Bl (by omega)]);clear hinv;go_wp2;go_ret;exact DG HF.o
theorem Yk (s:ByteArray) (a:Nat) (w:World) (hs:s.size<=140737488355328) (ha:a<=140737488355328):Calls prog 60 #[.string s,.int .i64 a,.func (.func 85) #[] #[]] w (Cf (AF Fh s a) w):=by
 obtain⟨R,hR⟩:∃R,R=AF Fh s a:=⟨_,rfl⟩;rw[<-hR];have HR:=Hi hR;clear hR;go_enter func60,ntmps60;go_wp2
 go_loop [1] (fun v=>∃k:Nat,k<=140737488355328/\v= .int .i64 k/\R=AF Fh s k) (fun v=>s.size-(intOf v).toNat)
 case atStart=>exact⟨a,ha,rfl,HR.o⟩
 case round=>
  obtain⟨k,hk,rfl,hinv⟩:=hrel;by_cases qE:k<s.size
  ·obtain⟨c,hc⟩:∃c,c=s[k].toNat:=⟨_,rfl⟩;have vH:c<256:=by rw[hc];exact p9 _
   by_cases hp:Fh c=true
   ·have HN:Hid (R=AF Fh s (k+1)):=Hi (by rw[hinv,Bb qE (by rw[<-hc];exact hp)]);have CP:Hid (∀w,Calls prog 85 #[.int .u8 s[k].toNat] w (AR true w)):=Hi (fun w=>by have h:=iw s[k].toNat w;rwa [<-hc,hp,hc]at h);clear hinv hp hc vH
    go_wp2_with (go_at_call 85;(with_reducible refine(CP.o _).mono ?_);rintro e w' ⟨rfl,rfl⟩)
    go_round
    case rel=>exact⟨k+1,by omega,by go_num,HN.o⟩
    case measure=>simp[intOf];omega
   ·rw[oT]at hp;have HF:Hid (k=R):=Hi (by rw[hinv,Cu qE (by rw[<-hc];exact hp)]);have CP:Hid (∀w,Calls prog 85 #[.int .u8 s[k].toNat] w (AR false w)):=Hi (fun w=>by have h:=iw s[k].toNat w;rwa [<-hc,hp,hc]at h);clear hinv hp hc vH
    go_wp2_with (go_at_call 85;(with_reducible refine(CP.o _).mono ?_);rintro e w' ⟨rfl,rfl⟩)
    go_ret;exact DG HF.o
  ·have HF:Hid (k=R):=Hi (by rw[hinv,Bl (by omega)]);clear hinv;go_wp2;go_ret;exact DG HF.o
end Go.Proofs
end
section
namespace Go.Lx
def U2 (c b:Nat):Bool:= !decide (b=c)
end Go.Lx
end
section
namespace Go.Hb
def cont (b:Int):Prop:=128<=b/\b<192
def D4 (s:ByteArray) (p:Nat) (v:Int) (n:Int):Prop:=
 (n=1/\p<s.size/\AI s p<128/\v=AI s p)\/
 (n=2/\(192<=AI s p/\AI s p<224)/\cont (AI s (p+1))/\v=(AI s p-192)*64+AI s (p+1)-128/\128<=v/\Ah v)\/
 (n=3/\(224<=AI s p/\AI s p<240)/\cont (AI s (p+1))/\cont (AI s (p+2))/\v=((AI s p-224)*64+AI s (p+1)-128)*64+AI s (p+2)-128/\2048<=v/\Ah v)\/
 (n=4/\(240<=AI s p/\AI s p<248)/\cont (AI s (p+1))/\cont (AI s (p+2))/\cont (AI s (p+3))/\v=(((AI s p-240)*64+AI s (p+1)-128)*64+AI s (p+2)-128)*64+AI s (p+3)-128/\65536<=v/\Ah v)
def Le (s:ByteArray) (p:Nat):Prop:=∀v n,¬D4 s p v n
theorem Jx {s:ByteArray} {p:Nat}(h:p<s.size) (h1:AI s p<128):D4 s p (AI s p) 1:= .inl ⟨rfl,h,h1,rfl⟩
end Go.Hb
end
section
namespace Go.Hb
theorem D4.size {s:ByteArray} {p:Nat} {v n:Int}(h:D4 s p v n):p<s.size/\1<=n/\n<=4:=by
 unfold D4 cont at h;refine⟨?_,by omega,by omega⟩;rcases h with h|h|h|h
 ·exact h.2.1
 all_goals exact Fs s p (by omega)
theorem D4.last {s:ByteArray} {p:Nat} {v:Int} {m:Nat}(h:D4 s p v m):p+m<=s.size:=by
 have h1:=h.size;unfold D4 cont at h;rcases h with h|h|h|h
 ·omega
 ·have:=Fs s (p+1) (by omega);omega
 ·have:=Fs s (p+2) (by omega);omega
 ·have:=Fs s (p+3) (by omega);omega
theorem D4.unique {s:ByteArray} {p:Nat} {v n v' n':Int}(h:D4 s p v n) (h':D4 s p v' n'):v=v'/\n=n':=by
 unfold D4 cont at h h';omega
inductive Bc (s:ByteArray):Nat->Int->Prop
 |done {p:Nat} :s.size<=p->Bc s p (-1)
 |bad {p:Nat} :p<s.size->Le s p->Bc s p p
 |step {p m:Nat} {v r:Int} :D4 s p v m->Bc s (p+m) r->Bc s p r
theorem Bc.ex (s:ByteArray):∀n p:Nat,s.size-p<=n->∃r,Bc s p r:=by
 intro n
 induction n with
 |zero=>exact fun p h=>⟨_,.done (by omega)⟩
 |succ n ih=>
  intro p h;rcases ls p s.size with h1|h1
  ·rcases Classical.em (Le s p)with h2|h2
   ·exact⟨_,.bad h1 h2⟩
   ·have h3:∃v n,D4 s p v n:=by
     apply mM;intro h4;exact h2 (fun v n hc=>h4 ⟨v,n,hc⟩)
    obtain⟨v,k,hc⟩:=h3;have h5:=hc.size;obtain⟨m,hm⟩:∃m:Nat,k=m:=⟨k.toNat,by omega⟩;subst hm;obtain⟨r,hr⟩:=ih (p+m) (by omega);exact⟨r,.step hc hr⟩
  ·exact⟨_,.done h1⟩
theorem Bc.J3 {s:ByteArray} {p:Nat} {r:Int}(h:Bc s p r) (hp:s.size<=p):r= -1:=by
 cases h with
 |done _=>rfl
 |bad h1 _=>omega
 |step hc _=>have:=hc.size;omega
theorem Bc.OK {s:ByteArray} {p:Nat} {r:Int}(h:Bc s p r) (hp:p<s.size) (hn:Le s p):r=p:=by
 cases h with
 |done h1=>omega
 |bad _ _=>rfl
 |step hc _=>exact absurd hc (hn _ _)
theorem Bc.IP {s:ByteArray} {p m:Nat} {v r:Int}(h:Bc s p r) (hc:D4 s p v m):Bc s (p+m) r:=by
 have h1:=hc.size;cases h with
 |done h2=>omega
 |bad _ hn=>exact absurd hc (hn _ _)
 |step uB hr=>
  have h3:=(hc.unique uB).2;rename_i m2 v2;have h4:m=m2:=by omega
  rw[h4];exact hr
theorem Bc.unique {s:ByteArray} {p:Nat} {r r':Int}(h:Bc s p r) (h':Bc s p r'):r=r':=by
 induction h with
 |done h1=>exact(h'.J3 h1).symm
 |bad h1 h2=>exact(h'.OK h1 h2).symm
 |step hc _ ih=>exact ih (h'.IP hc)
end Go.Hb
end
section
namespace Go.Lx
open Go.Hb
def UG (s:ByteArray):Nat->Nat->Nat
 |0,a=>a
 |n+1,a=>if a+1<s.size then(if AI s a=42/\AI s (a+1)=47 then a else UG s n (a+1))else a
def Dz (s:ByteArray) (a:Nat):Nat:=UG s (s.size-a) a
theorem Tu {s:ByteArray} {a:Nat}(h:a+1<s.size) (hm:¬(AI s a=42/\AI s (a+1)=47)):Dz s a=Dz s (a+1):=by
 unfold Dz;obtain⟨n,hn⟩:∃n,s.size-a=n+1:=⟨s.size-a-1,by omega⟩;rw[hn,show s.size-(a+1)=n by omega,UG,lQ h,lL hm]
theorem UI {s:ByteArray} {a:Nat}(h:a+1<s.size) (hm:AI s a=42/\AI s (a+1)=47):Dz s a=a:=by
 unfold Dz;obtain⟨n,hn⟩:∃n,s.size-a=n+1:=⟨s.size-a-1,by omega⟩;rw[hn,UG,lQ h,lQ hm]
theorem Ij {s:ByteArray} {a:Nat}(h:s.size<=a+1):Dz s a=a:=by
 unfold Dz;rcases mh (s.size-a)with h1|h1
 ·rw[h1];rfl
 ·obtain⟨n,hn⟩:∃n,s.size-a=n+1:=⟨s.size-a-1,by omega⟩;rw[hn,UG,lL (by omega)]
theorem Na (s:ByteArray) (a:Nat):a<=Dz s a:=by
 unfold Dz;generalize s.size-a=n
 induction n generalizing a with
 |zero=>exact nR _
 |succ n ih=>
  unfold UG;split
  ·split
   ·omega
   ·have:=ih (a+1);omega
  ·omega
inductive j4 where
 |stop
 |Si
 |JI (t:Nat)
def DM (s:ByteArray) (p:Nat):j4:=
 if JO (AI s p).toNat then .JI (p+1)
 else if AI s p=37 then .JI (min (AF (U2 10) s p+1) s.size)
 else if AI s p=47/\AI s (p+1)=42 then(if Dz s (p+2)+1<s.size then .JI (Dz s (p+2)+2)else .Si)
 else .stop
theorem Ex {s:ByteArray} {p t:Nat}(hp:p<s.size) (h:DM s p= .JI t):p<t/\t<=s.size:=by
 unfold DM at h;split at h
 ·cases h;omega
 ·split at h
  ·cases h;have:=BN (U2 10) s p;omega
  ·split at h
   ·split at h
    ·cases h;have:=Na s (p+2);omega
    ·cases h
   ·cases h
inductive Lay (s:ByteArray):Nat->Nat->Nat->Prop
 |done {p:Nat} :s.size<=p->Lay s p p 0
 |stop {p:Nat} :p<s.size->DM s p= .stop->Lay s p p 0
 |Si {p:Nat} :p<s.size->DM s p= .Si->Lay s p p 33
 |bad {p t r:Nat} :p<s.size->DM s p= .JI t->Bc (s.extract 0 t) p (r:Int)->Lay s p r 30
 |step {p t k e:Nat} :p<s.size->DM s p= .JI t->Bc (s.extract 0 t) p (-1)->Lay s t k e->Lay s p k e
theorem Bc.Pa {s:ByteArray} {p:Nat} {r:Int}(h:Bc s p r):r= -1\/∃m:Nat,r=m:=by
 induction h with
 |done _=>exact .inl rfl
 |bad _ _=>exact .inr ⟨_,rfl⟩
 |step _ _ ih=>exact ih
theorem Lay.ex (s:ByteArray):∀n p:Nat,s.size-p<=n->∃k e,Lay s p k e:=by
 intro n
 induction n with
 |zero=>exact fun p h=>⟨_,_,.done (by omega)⟩
 |succ n ih=>
  intro p h;rcases ls p s.size with h1|h1
  ·cases h2:DM s p with
   |stop=>exact⟨_,_,.stop h1 h2⟩
   |Si=>exact⟨_,_,.Si h1 h2⟩
   |JI t=>
    have h3:=Ex h1 h2;obtain⟨r,hr⟩:=Bc.ex (s.extract 0 t) _ p (nR _);rcases Bc.Pa hr with rfl|⟨m,rfl⟩
    ·obtain⟨k,e,hk⟩:=ih t (by omega);exact⟨k,e,.step h1 h2 hr hk⟩
    ·exact⟨_,_,.bad h1 h2 hr⟩
  ·exact⟨_,_,.done h1⟩
theorem Lay.J3 {s:ByteArray} {p k e:Nat}(h:Lay s p k e) (hp:s.size<=p):k=p/\e=0:=by
 cases h with
 |done _=>exact⟨rfl,rfl⟩
 |stop h1 _=>omega
 |Si h1 _=>omega
 |bad h1 _ _=>omega
 |step h1 _ _ _=>omega
theorem Lay.Zg {s:ByteArray} {p k e:Nat}(h:Lay s p k e) (hp:p<s.size) (hl:DM s p= .stop):k=p/\e=0:=by
 cases h with
 |done h1=>omega
 |stop _ _=>exact⟨rfl,rfl⟩
 |Si _ h2=>rw[hl]at h2;cases h2
 |bad _ h2 _=>rw[hl]at h2;cases h2
 |step _ h2 _ _=>rw[hl]at h2;cases h2
theorem Lay.da {s:ByteArray} {p k e:Nat}(h:Lay s p k e) (hp:p<s.size) (hl:DM s p= .Si):k=p/\e=33:=by
 cases h with
 |done h1=>omega
 |stop _ h2=>rw[hl]at h2;cases h2
 |Si _ _=>exact⟨rfl,rfl⟩
 |bad _ h2 _=>rw[hl]at h2;cases h2
 |step _ h2 _ _=>rw[hl]at h2;cases h2
theorem Lay.OK {s:ByteArray} {p k e t r:Nat}(h:Lay s p k e) (hp:p<s.size) (hl:DM s p= .JI t) (hr:Bc (s.extract 0 t) p (r:Int)):k=r/\e=30:=by
 cases h with
 |done h1=>omega
 |stop _ h2=>rw[hl]at h2;cases h2
 |Si _ h2=>rw[hl]at h2;cases h2
 |bad _ h2 h3=>
  rw[hl]at h2;cases h2;have:=hr.unique h3;omega
 |step _ h2 h3 _=>
  rw[hl]at h2;cases h2;have:=hr.unique h3;omega
theorem Lay.IP {s:ByteArray} {p k e t:Nat}(h:Lay s p k e) (hp:p<s.size) (hl:DM s p= .JI t) (hr:Bc (s.extract 0 t) p (-1)):Lay s t k e:=by
 cases h with
 |done h1=>omega
 |stop _ h2=>rw[hl]at h2;cases h2
 |Si _ h2=>rw[hl]at h2;cases h2
 |bad _ h2 h3=>
  rw[hl]at h2;cases h2;have:=hr.unique h3;omega
 |step _ h2 _ h4=>rw[hl]at h2;cases h2;exact h4
end Go.Lx
end
section
namespace Go.Lx
open Go.Hb Go.Rb
def Fx (r:Nat) (s:ByteArray) (f:Nat):Nat->Nat
 |0=>0
 |k+1=>Fx r s f k*r+Cv (AI s (f+k)).toNat
def Ls (c:Nat):Option Nat:=
 if c=97 then some 7 else if c=98 then some 8 else if c=102 then some 12 else if c=110 then some 10 else if c=114 then some 13 else if c=116 then some 9
 else if c=118 then some 11 else if c=92 then some 92 else if c=39 then some 39 else if c=34 then some 34 else if c=96 then some 96 else none
def I7 (r:Nat) (p:Nat->Bool) (s:ByteArray) (f:Nat):Option (Nat×Nat):=
 if AF p s f=f\/AI s (AF p s f)≠92 then none
 else if Ah (Fx r s f (AF p s f-f):Nat)then some (Fx r s f (AF p s f-f),AF p s f+1)else none
def FQ (s:ByteArray) (p:Nat):Option (Nat×Nat):=
 match(if p+1<s.size then Ls (AI s (p+1)).toNat else none)with
 |some v=>some (v,p+2)
 |none=>if AI s (p+1)=120 then I7 16 A9 s (p+2)else I7 8 Cr s (p+1)
end Go.Lx
end
section
namespace Go.Proofs
open Go.RowKit Go.Pf Go.Lx
def Ai (k:Int) (tx nu:ByteArray) (bits:Int) (at_ en:Int) (ly:Bool):Value:= .agg #[.int .i64 k,.string tx,.string nu,.int .u64 bits,.int .i64 at_,.int .i64 en,.bool ly]
def Nw (at_:Int):Value:=Ai 0 ⟨#[]⟩ ⟨#[]⟩ 0 at_ at_ false
def gP (p n:Int) (w:World) (e:Ending) (w':World):Prop:=e= .returned (.tuple #[Nw p,.int .i64 n])/\Below w.heap.size w w'
theorem Xd (p n:Int) (w:World):Calls prog 36 #[.int .i64 p,.int .i64 n] w (gP p n w):=by
 go_enter func36,ntmps36;go_wp2;refine lS (v:= .tuple #[Nw p,.int .i64 n]) ?_ rfl ⟨rfl,?_⟩
 ·simp only[results,results36];go_simp;rfl
 ·repeat (first|exact Bzz _|refine Below.setCell ?_ (by simp only;omega) _)
end Go.Proofs
end
section
namespace Go.Lx
open Go.Hb Go.Rb
theorem FP {p:Nat->Bool} {s:ByteArray} {a:Nat} :∀j (h:j<s.size),a<=j->j<AF p s a->p s[j].toNat=true:=by
 unfold AF;generalize s.size-a=n
 induction n generalizing a with
 |zero=>intro j h h1 h2;simp only[ED]at h2;omega
 |succ n ih=>
  intro j h h1 h2;unfold ED at h2;split at h2
  ·rename_i ha;split at h2
   ·rename_i hp;rcases Nat.eq_or_lt_of_le h1 with h3|h3
    ·subst h3;exact hp
    ·exact ih j h h3 h2
   ·omega
  ·omega
theorem Qa {p:Nat->Bool} {s:ByteArray} {a:Nat} :∀(h:AF p s a<s.size),p s[AF p s a].toNat=false:=by
 have key:∀n a,s.size-a<=n->∀(h:AF p s a<s.size),p s[AF p s a].toNat=false:=by
  intro n
  induction n with
  |zero=>
   intro a hn h;have:=BN p s a;omega
  |succ n ih=>
   intro a hn h;by_cases ha:a<s.size
   ·by_cases hp:p s[a].toNat=true
    ·have e:=Bb ha hp;have h2:AF p s (a+1)<s.size:=by rw[<-e];exact h
     have h3:=ih (a+1) (by omega) h2;simpa[e]using h3
    ·rw[oT]at hp;have e:=Cu ha hp;simpa[e]using hp
   ·have:=BN p s a;omega
 exact key _ a (nR _)
end Go.Lx
namespace Go.Proofs
open Go.RowKit Go.Pf Go.Lx Go.Hb Go.Rb
theorem Wf {c:Nat}(h:Cr c=true):A9 c=true:=by
 simp[Cr,A9,AQ]at h⊢;omega
theorem Tc {c:Nat}(h:A9 c=true):Cv c<=15:=by
 simp[A9,AQ]at h;unfold Cv;split
 ·omega
 ·split
  ·omega
  ·split
   ·omega
   ·omega
end Go.Proofs
end
section
namespace Go.Proofs
open Go.RowKit Go.Pf Go.Rb
def LE:Nat:=4096
end Go.Proofs
end
section
namespace Go.Lx
open Go.Hb Go.Rb Go.Bg Go.Pf
inductive TR where
 |ok (k:Nat) (tx nu:ByteArray) (bits a en:Nat)
 |err (p n:Nat)
def Hh (x:Nat):ByteArray:=⟨(Ar 10 x).toArray⟩
open Classical in
noncomputable def FO (s:ByteArray) (p:Nat):Option (Nat×Nat):=if h:∃vn:Nat×Nat,D4 s p vn.1 vn.2 then some h.choose else none
theorem LC {s:ByteArray} {p v n:Nat}(h:D4 s p v n):FO s p=some (v,n):=by
 have hx:∃vn:Nat×Nat,D4 s p vn.1 vn.2:=⟨(v,n),h⟩;unfold FO;rw[dif_pos hx];have h2:=hx.choose_spec.unique h;congr 1;exact Prod.ext (by have:=h2.1;omega) (by have:=h2.2;omega)
theorem LU {s:ByteArray} {p:Nat}(h:Le s p):FO s p=none:=by
 unfold FO;rw[dif_neg];rintro⟨vn,hc⟩;exact h _ _ hc
theorem _root_.Go.Hb.D4.pos {s:ByteArray} {p:Nat} {v n:Int}(h:D4 s p v n):0<=v/\Ah v:=by
 have hb:=Mz s p;unfold D4 at h;rcases h with h|h|h|h
 ·refine⟨by omega,?_⟩;unfold Ah;omega
 ·exact⟨by omega,h.2.2.2.2.2⟩
 ·exact⟨by omega,h.2.2.2.2.2.2⟩
 ·exact⟨by omega,h.2.2.2.2.2.2.2⟩
theorem Iu (s:ByteArray) (p:Nat):(∃v n:Nat,D4 s p v n/\FO s p=some (v,n))\/(Le s p/\FO s p=none):=by
 rcases Classical.em (Le s p)with h|h
 ·exact .inr ⟨h,LU h⟩
 ·left;have h3:∃v n,D4 s p v n:=by
   apply mM;intro h4;exact h (fun v n hc=>h4 ⟨v,n,hc⟩)
  obtain⟨v,n,hc⟩:=h3;have h5:=hc.size;have h6:=hc.pos;obtain⟨a,rfl⟩:∃a:Nat,v=a:=⟨v.toNat,by omega⟩;obtain⟨b,rfl⟩:∃b:Nat,n=b:=⟨n.toNat,by omega⟩;exact⟨a,b,hc,LC hc⟩
noncomputable def De (s:ByteArray) (a:Nat):Option TR:=
 if AI s a≠48\/AI s (a+1)≠39\/s.size<=a+2\/AI s (a+2)=10 then none
 else if AI s (a+2)=39 then(if AI s (a+3)=39 then some (.ok 4 ⟨#[]⟩ (Hh 39) 0 a (a+4))else none)
 else if AI s (a+2)=92 then(match FQ s (a+2)with
  |none=>some (.err (a+2) 32)
  |some (x,t)=>some (.ok 4 ⟨#[]⟩ (Hh x) 0 a t))
 else match FO s (a+2)with
  |none=>some (.err (a+2) 30)
  |some (v,n)=>some (.ok 4 ⟨#[]⟩ (Hh v) 0 a (a+2+n))
def Cy (s:ByteArray) (a f t r:Nat):TR:=
 if vN r (s.extract f t) (s.extract f t).size<2^Go.Proofs.LE then .ok 4 ⟨#[]⟩ (Hh (vN r (s.extract f t) (s.extract f t).size)) 0 a t else .err a 34
open Classical in
noncomputable def Qs (X:Nat) (x:Int):Nat:=if h:∃b,Fl (X*10^x.toNat) (10^(-x).toNat) b then h.choose else 0
theorem ZA {X:Nat} {x:Int} {b:Nat}(h:Fl (X*10^x.toNat) (10^(-x).toNat) b):Qs X x=b:=by
 have hx:∃b,Fl (X*10^x.toNat) (10^(-x).toNat) b:=⟨b,h⟩;unfold Qs;rw[dif_pos hx];exact hx.choose_spec.unique h
def IS (s:ByteArray) (a p:Nat):ByteArray:=s.extract a p++s.extract (p+1) (AF AQ s (p+1))
noncomputable def Hr (s:ByteArray) (a p:Nat) (x:Int) (t:Nat):TR:=
 if 400<AF AQ s (p+1)-a-1 then .err a 34
 else if Qs (vN 10 (IS s a p) (IS s a p).size) (x-((AF AQ s (p+1):Int)-p-1))<AW then
  .ok 5 ⟨#[]⟩ ⟨#[]⟩ (Qs (vN 10 (IS s a p) (IS s a p).size) (x-((AF AQ s (p+1):Int)-p-1))) a t
 else .err a 34
def Ht (s:ByteArray) (e:Nat):Nat:=if AI s (e+1)=45\/AI s (e+1)=43 then e+2 else e+1
def Gs (s:ByteArray) (e:Nat):Prop:=(AI s e=101\/AI s e=69)/\Ht s e<AF AQ s (Ht s e)
instance (s:ByteArray) (e:Nat):Decidable (Gs s e):=by unfold Gs;exact inferInstance
def iG (s:ByteArray) (e:Nat):Int:=(if AI s (e+1)=45 then-1 else 1)*(Fx 10 s (Ht s e) (AF AQ s (Ht s e)-Ht s e):Nat)
noncomputable def Ek (s:ByteArray) (a p:Nat):TR:=
 if Gs s (AF AQ s (p+1))then
  (if 4<AF AQ s (Ht s (AF AQ s (p+1)))-Ht s (AF AQ s (p+1))then .err a 34
   else Hr s a p (iG s (AF AQ s (p+1))) (AF AQ s (Ht s (AF AQ s (p+1)))))
 else Hr s a p 0 (AF AQ s (p+1))
noncomputable def GL (s:ByteArray) (a:Nat):TR:=
 match De s a with
 |some R=>R
 |none=>
  if AI s a=48/\AI s (a+1)=98/\a+2<AF Fh s (a+2)then Cy s a (a+2) (AF Fh s (a+2)) 2
  else if AI s a=48/\AI s (a+1)=111/\a+2<AF Cr s (a+2)then Cy s a (a+2) (AF Cr s (a+2)) 8
  else if AI s a=48/\AI s (a+1)=120/\a+2<AF A9 s (a+2)then Cy s a (a+2) (AF A9 s (a+2)) 16
  else if AI s (AF AQ s a)=46/\AQ (AI s (AF AQ s a+1)).toNat=true then Ek s a (AF AQ s a)
  else Cy s a a (AF AQ s a) 10
def L1 (q:Nat):Nat:=if q=34 then 6 else if q=96 then 7 else 2
noncomputable def Dd (s:ByteArray) (a q p:Nat) (out:List UInt8):TR⊕(Nat×List UInt8):=
 if s.size<=p then .inl (.err a 31)
 else match FO s p with
  |none=> .inl (.err p 30)
  |some (v,n)=>
   if v=10 then .inl (.err a 31)
   else if v=q then
    (if AI s (p+1)=q/\p+1<s.size then .inr (p+2,out++ [q.toUInt8])
     else if q=39/\1000<out.length then .inl (.err a 35)
     else .inl (.ok (L1 q) ⟨out.toArray⟩ ⟨#[]⟩ 0 a (p+1)))
   else if v=92 then
    (if AI s (p+1)=10 then .inr (p+2,out)
     else match FQ s p with
      |none=> .inl (.err p 32)
      |some (x,t)=> .inr (t,out++Lib.encodeRune x))
   else .inr (p+n,out++Lib.encodeRune v)
noncomputable def Gv (s:ByteArray) (a q:Nat):Nat->Nat->List UInt8->TR
 |0,_,_=> .err a 31
 |f+1,p,out=>match Dd s a q p out with
  | .inl R=>R
  | .inr (p',out')=>Gv s a q f p' out'
noncomputable def Cz (s:ByteArray) (a q p:Nat) (out:List UInt8):TR:=Gv s a q (s.size+1-p) p out
theorem Hy {s:ByteArray} {p v t:Nat}(h:FQ s p=some (v,t)):p+1<t/\t<=s.size/\Ah v:=by
 have qE:∀k,AI s k=92->k<s.size:=fun k hk=>by
  rcases ls k s.size with h1|h1
  ·exact h1
  ·rw[Ax s k h1]at hk;omega
 have hD:∀{r:Nat} {pr:Nat->Bool} {f:Nat},I7 r pr s f=some (v,t)->f+1<t/\t<=s.size/\Ah v:=by
  intro r pr f hd;unfold I7 at hd;split at hd
  ·cases hd
  ·rename_i hn;split at hd
   ·rename_i vJ;have uj:=BN pr s f;have h3:=qE (AF pr s f) (by apply mM;intro h;exact hn (.inr h));have h4:AF pr s f≠f:=fun h=>hn (.inl h);simp only[mD,nQ]at hd;obtain⟨h1,h2⟩:=hd;rw[h1]at vJ;exact⟨by omega,by omega,vJ⟩
   ·cases hd
 unfold FQ at h;split at h
 ·rename_i x hx;split at hx
  ·rename_i h1;simp only[mD,nQ]at h;refine⟨by omega,by omega,?_⟩;rw[<-h.1];unfold Ls at hx;unfold Ah
   repeat' split at hx
   all_goals first|(simp only[mD]at hx;omega)|cases hx
  ·cases hx
 ·split at h
  ·have:=hD h;exact⟨by omega,this.2⟩
  ·have:=hD h;exact⟨by omega,this.2⟩
theorem Ib {s:ByteArray} {a q p p':Nat} {out out':List UInt8}(h:Dd s a q p out= .inr (p',out')):p<p'/\p'<=s.size+1:=by
 unfold Dd at h;split at h
 ·cases h
 ·rename_i hp;split at h
  ·cases h
  ·rename_i v n hc;have hn:1<=n/\p+n<=s.size:=by
    rcases Iu s p with⟨v',n',h1,h2⟩|⟨_,h2⟩
    ·rw[h2]at hc;simp only[mD,nQ]at hc;have h3:=h1.size;have h4:=h1.last;omega
    ·rw[h2]at hc;cases hc
   split at h
   ·cases h
   ·split at h
    ·split at h
     ·rename_i h5;simp only[Sum.inr.injEq,nQ]at h;omega
     ·split at h<;>cases h
    ·split at h
     ·split at h
      ·simp only[Sum.inr.injEq,nQ]at h;omega
      ·split at h
       ·cases h
       ·rename_i x t he;have:=Hy he;simp only[Sum.inr.injEq,nQ]at h;omega
     ·simp only[Sum.inr.injEq,nQ]at h;omega
theorem Mc {s:ByteArray} {a q:Nat} :∀(f g p:Nat) (out:List UInt8),s.size+1-p<=f->s.size+1-p<=g->Gv s a q f p out=Gv s a q g p out
 |0,0,_,_,_,_=>rfl
 |0,g+1,p,out,h,_=>by
  have hp:s.size<=p:=by omega
  show TR.err a 31=_;unfold Gv Dd;rw[lQ hp]
 |f+1,0,p,out,_,h=>by
  have hp:s.size<=p:=by omega
  show _=TR.err a 31;unfold Gv Dd;rw[lQ hp]
 |f+1,g+1,p,out,h,h2=>by
  unfold Gv;cases hq:Dd s a q p out with
  |inl R=>rfl
  |inr x=>
   obtain⟨p',out'⟩:=x;have:=Ib hq;exact Mc f g p' out' (by omega) (by omega)
theorem FK {s:ByteArray} {a q p:Nat} {out:List UInt8} {R:TR}(h:Dd s a q p out= .inl R) (hR:s.size<=p->R= .err a 31):Cz s a q p out=R:=by
 unfold Cz;cases hf:s.size+1-p with
 |zero=>rw[Gv,hR (by omega)]
 |succ f=>unfold Gv;rw[h]
theorem Gr {s:ByteArray} {a q p p':Nat} {out out':List UInt8}(h:Dd s a q p out= .inr (p',out')):Cz s a q p out=Cz s a q p' out':=by
 have h1:=Ib h;unfold Cz;have hp:p<=s.size:=by
  rcases ls s.size p with h2|h2
  ·unfold Dd at h;rw[lQ (by omega)]at h;cases h
  ·exact h2
 obtain⟨f,hf⟩:∃f,s.size+1-p=f+1:=⟨s.size-p,by omega⟩;rw[hf,Gv,h];exact Mc _ _ _ _ (by omega) (by omega)
def Cw (s:ByteArray) (k a t:Nat):TR:=if 1000<t-a then .err a 35 else .ok k (s.extract a t) ⟨#[]⟩ 0 a t
noncomputable def Dy (s:ByteArray) (a:Nat):TR:=
 if a=s.size then .ok 10 ⟨#[]⟩ ⟨#[]⟩ 0 a a
 else if AQ (AI s a).toNat then GL s a
 else if AI s a=39\/AI s a=34\/AI s a=96 then Cz s a (AI s a).toNat (a+1) []
 else if JF (AI s a).toNat then Cw s 1 a (AF FE s a)
 else if Jr (AI s a).toNat then Cw s 3 a (AF FE s a)
 else if Ez (AI s a).toNat then
  (if AF Ez s a=a+1/\AI s a=46/\(a+1=s.size\/JO (AI s (a+1)).toNat\/AI s (a+1)=37)then .ok 9 ⟨#[]⟩ ⟨#[]⟩ 0 a (a+1)
   else Cw s 1 a (AF Ez s a))
 else if AI s a=33\/AI s a=59 then Cw s 1 a (a+1)
 else if Kh (AI s a).toNat then Cw s 8 a (a+1)
 else .err a 30
end Go.Lx
namespace Go.Proofs
open Go.RowKit Go.Pf Go.Lx Go.Hb Go.Rb
def TR.tok:TR->Value
 | .ok k tx nu bits a en=>Ai k tx nu bits a en false
 | .err p _=>Nw p
def TR.er:TR->Nat
 | .ok .. =>0
 | .err _ n=>n
end Go.Proofs
end

section
namespace Go.Proofs
open Go.RowKit Go.Pf Go.Rb Go.Bg
def PR (X r i:Nat) (j:Nat):Value:= .int .i64 ((if j<i then 0 else Bn (X/r) j:Nat):Int)
structure TT (r x B1:Nat) (W1:World) (X k:Nat) (ds:List Nat) (lv o:Value) (wr:World):Prop where
 tight:T2 X k
 Ca:FF r x=ds++FF r X
 bits:Dr wr lv X k
 own:wr.ownsRow B1 5 1 o ds.length (Lib.byteCells (ds.map Fc))
 Ac:Below B1 W1 wr
 le:B1<=wr.heap.size
structure TI (r X k g:Nat) (w0:World) (i R:Nat) (wr:World):Prop where
 le:i<=k
 rest:R=X/2^i %r
 row:CJ wr g k 3 (PR X r i)
 Ac:Below g w0 wr
 g0:g=w0.heap.size
theorem Un {w w':World} {B:Nat} {e:TypeId} {size n:Nat} {v:Value} {xs:List Value}(h:w.ownsRow B e size v n xs) (hb:Below w.heap.size w w'):w'.ownsRow B e size v n xs:=by
 refine⟨h.1,?_⟩;rcases h.2 with h2|⟨g,cap,cur,h1,h2,h3,h4⟩
 ·exact .inl h2
 ·exact .inr ⟨g,cap,cur,h1,h2,(hb.block g (lN.1 h3).1).trans h3,h4⟩
theorem TT.below {r x B1:Nat} {W1:World} {X k:Nat} {ds:List Nat} {lv o:Value} {w w':World}(h:TT r x B1 W1 X k ds lv o w) (hb:Below w.heap.size w w'):TT r x B1 W1 X k ds lv o w':=
 ⟨h.tight,h.Ca,h.bits.below hb,Un h.own hb,h.Ac.trans (hb.mono h.le),lg h.le hb.size⟩
theorem WL {X k r:Nat}(j:Nat) (hj:j<k):PR X r k j= .int .i64 0:=by
 unfold PR;rw[lQ hj];rfl
theorem TI.start {r X k:Nat} {w0:World}(h:X<2^k){M:Array Value}(hM:M.size=k) (h0:∀j,j<k->M[j]? =some (.int .i64 0)):TI r X k w0.heap.size w0 k 0 (w0.alloc (.cells M 3)):=by
 refine⟨nR _,by rw[nJ h];simp,⟨M,lT w0 _,by omega,fun j hj=> ?_⟩,Bzz _,rfl⟩;rw[h0 j hj,WL j hj]
theorem TI.next {r X k g i R R':Nat} {w0 wr:World}(h:TI r X k g w0 (i+1) R wr) (hR:R'=X/2^i %r) (hb:Bn (X/r) i=0):TI r X k g w0 i R' wr:=by
 refine⟨by have:=h.le;omega,hR,?_,h.Ac,h.g0⟩;obtain⟨cur,h1,h2,h3⟩:=h.row;refine⟨cur,h1,h2,fun j hj=> ?_⟩;rw[h3 j hj];unfold PR;by_cases e:j=i
 ·subst e;rw[lQ (by omega),lL (by omega),hb]
 ·by_cases e2:j<i
  ·rw[lQ (by omega),lQ e2]
  ·rw[lL (by omega),lL e2]
theorem TI.one {r X k g i R R':Nat} {w0 wr:World}(h:TI r X k g w0 (i+1) R wr) (hR:R'=X/2^i %r) (hb:Bn (X/r) i=1):TI r X k g w0 i R' (wr.setCell ⟨g,i,none⟩ (.int .i64 1)):=by
 have hl:=h.le;refine⟨by omega,hR,h.row.set _ (by omega) fun j hj=> ?_,h.Ac.setCell (p:=⟨g,i,none⟩) (nR _) _,h.g0⟩;unfold PR;by_cases e:j=i
 ·subst e;rw[lQ rfl,lL (by omega),hb];rfl
 ·rw[lL e];by_cases e2:j<i
  ·rw[lQ e2,lQ (by omega)]
  ·rw[lL e2,lL (by omega)]
theorem TI.done {r X k g R:Nat} {w0 wr:World}(h:TI r X k g w0 0 R wr) (hX:X/r<2^k) (hk:k<=1000000000):Dr wr (.slice (some ⟨g,0,none⟩) k k) (X/r) k:=by
 refine .inr ⟨g,0,k,rfl,nR _,by omega,h.row.lt,hX,fun j hj=> ?_⟩;rw[me,h.row.cell hj];unfold PR;rw[lL (by omega)]
theorem Dr.block {w w':World} {g c x m:Nat}(h:Dr w (.slice (some ⟨g,0,none⟩) m c) x m) (hb:w'.heap[g]? =w.heap[g]?) (hs:w.heap.size<=w'.heap.size):Dr w' (.slice (some ⟨g,0,none⟩) m c) x m:=by
 rcases h with⟨h1,_⟩|⟨b,o,c',h1,h2,h3,h4,h5,h6⟩
 ·simp at h1
 ·simp only[mX,mD,Addr.mk.injEq]at h1;obtain⟨⟨rfl,rfl,_⟩,_,rfl⟩:=h1;exact .inr ⟨g,0,c,rfl,h2,h3,by omega,h5,fun j hj=>(oQ hb).trans (h6 j hj)⟩
end Go.Proofs
end
section
namespace Go.Proofs
open Go.RowKit Go.Pf Go.Lx Go.Rb Go.Bg
structure Gf (w:World) (b:Nat):Prop where
 h:w.heap[b]? =some (.cells #[.int .i64 0,.string ⟨#[]⟩,.string ⟨#[]⟩,.int .u64 0,.int .i64 0,.int .i64 0,.bool false] 71 (0,0))
theorem Gf.below {w w':World} {b:Nat}(h:Gf w b) (hb:Below w.heap.size w w'):Gf w' b:=⟨(hb.block b (lN.1 h.h).1).trans h.h⟩
theorem Gf.cs {w:World} {b:Nat}(h:Gf w b):w.cell? ⟨b,0,none⟩=some (.int .i64 0)/\w.cell? ⟨b,1,none⟩=some (.string ⟨#[]⟩)/\w.cell? ⟨b,2,none⟩=some (.string ⟨#[]⟩)/\w.cell? ⟨b,3,none⟩=some (.int .u64 0)/\w.cell? ⟨b,4,none⟩=some (.int .i64 0)/\w.cell? ⟨b,5,none⟩=some (.int .i64 0)/\w.cell? ⟨b,6,none⟩=some (.bool false):=by
 refine⟨?_,?_,?_,?_,?_,?_,?_⟩<;>(rw[Lib.cell_of_heap h.h];rfl)
theorem Gf.f {w:World} {b:Nat}(h:Gf w b) (i:Nat):w.frozen? ⟨b,i,none⟩=false:=Lib.frozen_of_heap h.h i
theorem Gf.fs {w:World} {b:Nat}(h:Gf w b):w.frozen? ⟨b,0,none⟩=false/\w.frozen? ⟨b,1,none⟩=false/\w.frozen? ⟨b,2,none⟩=false/\w.frozen? ⟨b,3,none⟩=false/\w.frozen? ⟨b,4,none⟩=false/\w.frozen? ⟨b,5,none⟩=false/\w.frozen? ⟨b,6,none⟩=false:=⟨h.f 0,h.f 1,h.f 2,h.f 3,h.f 4,h.f 5,h.f 6⟩
end Go.Proofs
end
section
namespace Go.Proofs
open Go.RowKit Go.Pf Go.Lx Go.Hb Go.Rb Go.Bg
theorem FZ {a:Int} {n:Int}(h:a≠n):(a !=n)=true:=by rw[bne,Bool.not_eq_true',nD];intro e;exact h (eq_of_beq e)
theorem JL {a:Int} {n:Int}(h:a=n):(a !=n)=false:=by rw[bne,h,beq_self_eq_true];rfl
theorem AD {a:Int} {n:Int}(h:a≠n):(a==n)=false:=by rw[nD];intro e;exact h (eq_of_beq e)
theorem beq_of_eq {a:Int} {n:Int}(h:a=n):(a==n)=true:=by rw[h];exact beq_self_eq_true _
theorem Gf.new (w:World):Gf (w.alloc (.cells #[.int .i64 0,.string ⟨#[]⟩,.string ⟨#[]⟩,.int .u64 0,.int .i64 0,.int .i64 0,.bool false] 71)) w.heap.size:=⟨lT w _⟩
end Go.Proofs
end
namespace Go.Lx
open Go.Hb Go.Rb Go.Bg Go.Pf
section
variable {s:ByteArray} {a q p:Nat} {out:List UInt8}
theorem ZF (h:s.size<=p):Cz s a q p out= .err a 31:=FK (by unfold Dd;rw[lQ h]) (fun _=>rfl)
theorem bI (h:p<s.size) (hc:FO s p=none):Cz s a q p out= .err p 30:=FK (by unfold Dd;rw[lL (by omega),hc]) (fun h2=>by omega)
theorem fo {v n:Nat}(_h:p<s.size) (hc:FO s p=some (v,n)) (hv:v=10):Cz s a q p out= .err a 31:=
 FK (by unfold Dd;rw[lL (by omega),hc];simp only;rw[lQ hv]) (fun _=>rfl)
theorem Zm {v n:Nat}(_h:p<s.size) (hc:FO s p=some (v,n)) (sD:v≠10) (hv:v=q) (hd:AI s (p+1)=q/\p+1<s.size):Cz s a q p out=Cz s a q (p+2) (out++ [q.toUInt8]):=
 Gr (by unfold Dd;rw[lL (by omega),hc];simp only;rw[lL sD,lQ hv,lQ hd])
theorem WC {v n:Nat}(h:p<s.size) (hc:FO s p=some (v,n)) (sD:v≠10) (hv:v=q) (hd:¬(AI s (p+1)=q/\p+1<s.size)) (hl:q=39/\1000<out.length):Cz s a q p out= .err a 35:=
 FK (by unfold Dd;rw[lL (by omega),hc];simp only;rw[lL sD,lQ hv,lL hd,lQ hl]) (fun _=>by omega)
theorem aK {v n:Nat}(h:p<s.size) (hc:FO s p=some (v,n)) (sD:v≠10) (hv:v=q) (hd:¬(AI s (p+1)=q/\p+1<s.size)) (hl:¬(q=39/\1000<out.length)):Cz s a q p out= .ok (L1 q) ⟨out.toArray⟩ ⟨#[]⟩ 0 a (p+1):=
 FK (by unfold Dd;rw[lL (by omega),hc];simp only;rw[lL sD,lQ hv,lL hd,lL hl]) (fun _=>by omega)
theorem YJ {v n:Nat}(_h:p<s.size) (hc:FO s p=some (v,n)) (hq:v≠q) (hv:v=92) (hd:AI s (p+1)=10):Cz s a q p out=Cz s a q (p+2) out:=
 Gr (by unfold Dd;rw[lL (by omega),hc];simp only;rw[lL (by omega),lL hq,lQ hv,lQ hd])
theorem fh {v n:Nat}(h:p<s.size) (hc:FO s p=some (v,n)) (hq:v≠q) (hv:v=92) (hd:AI s (p+1)≠10) (he:FQ s p=none):Cz s a q p out= .err p 32:=
 FK (by unfold Dd;rw[lL (by omega),hc];simp only;rw[lL (by omega),lL hq,lQ hv,lL hd,he]) (fun _=>by omega)
theorem aF {v n x t:Nat}(_h:p<s.size) (hc:FO s p=some (v,n)) (hq:v≠q) (hv:v=92) (hd:AI s (p+1)≠10) (he:FQ s p=some (x,t)):Cz s a q p out=Cz s a q t (out++Lib.encodeRune x):=
 Gr (by unfold Dd;rw[lL (by omega),hc];simp only;rw[lL (by omega),lL hq,lQ hv,lL hd,he])
theorem Rt {v n:Nat}(_h:p<s.size) (hc:FO s p=some (v,n)) (sD:v≠10) (hq:v≠q) (hv:v≠92):Cz s a q p out=Cz s a q (p+n) (out++Lib.encodeRune v):=
 Gr (by unfold Dd;rw[lL (by omega),hc];simp only;rw[lL sD,lL hq,lL hv])
end
theorem Rp {v:Nat}(h:v<128):(Lib.encodeRune v).length=1:=by
 have hz:Lib.encodeRuneZ (v:Int)= [(v:Int)]:=Lib.encodeRuneZ_one (by omega) (by omega);rw[Cl,hz];rfl
theorem Rh {r:Nat} {s:ByteArray} {f:Nat} :∀k,(∀j,j<k->Cv (AI s (f+j)).toNat<r)->Fx r s f k<r^k
 |0,_=>by simp[Fx]
 |k+1,h=>by
  have h1:=Rh (r:=r) (s:=s) (f:=f) k (fun j hj=>h j (by omega));have h2:=h k (by omega);rw[Fx,l9];have:(Fx r s f k+1)*r<=r^k*r:=lV _ h1;rw[mI,nE]at this;omega
theorem WX {s:ByteArray} {p v t:Nat}(h:FQ s p=some (v,t)):p+(Lib.encodeRune v).length<=t:=by
 have h0:=Hy h;have hl:=OC v;have hD:∀{r:Nat} {pr:Nat->Bool} {f:Nat},p+1<=f->(∀c,pr c=true->A9 c=true)->r<=16->(∀c,pr c=true->Cv c<r)->I7 r pr s f=some (v,t)->p+(Lib.encodeRune v).length<=t:=by
  intro r pr f hpf wm hr xa hd;unfold I7 at hd;split at hd
  ·cases hd
  ·rename_i hn;split at hd
   ·have uj:=BN pr s f;have h4:AF pr s f≠f:=fun h=>hn (.inl h);simp only[mD,nQ]at hd;obtain⟨h1,h2⟩:=hd;by_cases hk:AF pr s f=f+1
    ·have hs:f<s.size:=by
      rcases ls f s.size with h5|h5
      ·exact h5
      ·exact absurd (Bl h5) h4
     have hx:=FP (p:=pr) (s:=s) (a:=f) f hs (nR _) (by omega);have hv:Fx r s f 1<r^1:=Rh 1 (fun j hj=>by
      obtain rfl:j=0:=by omega
      rw[nK,AP s f hs,mB];exact xa _ hx)
     rw[hk,show f+1-f=1 by omega]at h1;rw[h1,Nat.pow_one]at hv;have:=Rp (v:=v) (by omega);omega
    ·omega
   ·cases hd
 unfold FQ at h;split at h
 ·rename_i x hx;split at hx
  ·simp only[mD,nQ]at h;have h5:v<128:=by
    rw[<-h.1];unfold Ls at hx
    repeat' split at hx
    all_goals first|(simp only[mD]at hx;omega)|cases hx
   have:=Rp h5;omega
  ·cases hx
 ·split at h
  ·exact hD (by omega) (fun _ h=>h) (by omega) (fun c hc=>by have:=Go.Proofs.Tc hc;omega) h
  ·exact hD (by omega) (fun _ h=>Go.Proofs.Wf h) (by omega) (fun c hc=>by
    simp[Cr]at hc;unfold Cv;rw[lQ (by omega)];omega) h
theorem S6 {s:ByteArray} {p v n:Nat}(h:D4 s p v n):(Lib.encodeRune v).length=n:=by
 have h0:=h.pos.2;unfold D4 at h;have hr:=KY h0;have h2:(Lib.encodeRune v).length=if v<128 then 1 else if v<2048 then 2 else if v<65536 then 3 else 4:=by
  rcases h0.cases with c|c|c|c
  ·rw[Cl,Lib.encodeRuneZ_one c.1 c.2,lQ (by omega)];rfl
  ·rw[Cl,Lib.encodeRuneZ_two c.1 c.2,lL (by omega),lQ (by omega)];rfl
  ·rw[Cl,Lib.encodeRuneZ_three c,lL (by omega),lL (by omega),lQ (by omega)];rfl
  ·rw[Cl,Lib.encodeRuneZ_four c.1 c.2,lL (by omega),lL (by omega),lL (by omega)];rfl
 rw[h2];unfold cont at h;have:=Mz s p;split
 ·omega
 ·split
  ·omega
  ·split<;>omega
end Go.Lx
namespace Go.Proofs
open Go.RowKit Go.Pf Go.Lx Go.Hb Go.Rb Go.Bg
end Go.Proofs
namespace Go.Lx
open Go.Hb Go.Rb Go.Bg Go.Pf
theorem F9 (s:ByteArray) (k:Nat):(AI s k).toNat=byte s k:=by unfold AI byte;exact mB _
theorem BP {s:ByteArray} {f t k:Nat}(hk:f+k<t) (ht:t<=s.size):byte (s.extract f t) k=byte s (f+k):=by
 unfold byte;have h1:k<(s.extract f t).size:=by rw[l8];omega
 rw[lZ,lZ,oG,pF,lQ (by omega),qA]
theorem Dw {s:ByteArray} {k:Nat}(h:k<s.size):byte s k=s[k].toNat:=DA h
theorem cJ {c:Nat}(h:Fh c=true):Cv c<2:=by
 simp[Fh]at h;unfold Cv;rw[lQ (by omega)];omega
theorem SH {c:Nat}(h:Cr c=true):Cv c<8:=by
 simp[Cr]at h;unfold Cv;rw[lQ (by omega)];omega
theorem bA {c:Nat}(h:AQ c=true):Cv c<10:=by
 simp[AQ]at h;unfold Cv;rw[lQ (by omega)];omega
theorem SQ {c:Nat}(h:A9 c=true):Cv c<16:=by have:=Go.Proofs.Tc h;omega
theorem YL {p:Nat->Bool} {s:ByteArray} {f:Nat}(h0:p 0=false):AF p s f=f↔p (AI s f).toNat=false:=by
 rcases ls f s.size with h|h
 ·rw[AP s f h,mB];constructor
  ·intro e;have h2:=Qa (p:=p) (s:=s) (a:=f) (by omega);simpa[e]using h2
  ·exact fun e=>Cu h e
 ·rw[Ax s f h];exact⟨fun _=>h0,fun _=>Bl h⟩
theorem Oq {a b:ByteArray} {k:Nat} :byte (a++b) k=if k<a.size then byte a k else byte b (k-a.size):=by
 have rH:a.data.toList.length=a.size:=by simp
 unfold byte;rw[ByteArray.data_append,Array.toList_append,lZ,lZ,lZ,List.getElem?_append,rH];split<;>rfl
theorem UU {s:ByteArray} {a p:Nat}(xM:a<=p) (hp:p<s.size):(IS s a p).size=(p-a)+(AF AQ s (p+1)-(p+1)):=by
 have h1:=Bx AQ s (p+1) hp;have h2:=BN AQ s (p+1);unfold IS;rw[ByteArray.size_append,l8,l8];omega
theorem V8 {s:ByteArray} {a p t:Nat} {x:Int}(h:400<AF AQ s (p+1)-a-1):Hr s a p x t= .err a 34:=by unfold Hr;rw[lQ h]
theorem Vw {s:ByteArray} {a p t b:Nat} {x:Int}(h:¬400<AF AQ s (p+1)-a-1) (hb:b=Qs (vN 10 (IS s a p) (IS s a p).size) (x-((AF AQ s (p+1):Int)-p-1))):
 (b<AW->Hr s a p x t= .ok 5 ⟨#[]⟩ ⟨#[]⟩ b a t)/\(¬b<AW->Hr s a p x t= .err a 34):=by
 unfold Hr;rw[lL h,<-hb];exact⟨fun h=>lQ h,fun h=>lL h⟩
end Go.Lx
namespace Go.Proofs
open Go.RowKit Go.Pf Go.Lx Go.Hb Go.Rb Go.Bg
end Go.Proofs
namespace Go.Lx
open Go.Hb Go.Rb Go.Bg Go.Pf
theorem VU {s:ByteArray} {k a t:Nat}(h:1000<t-a):Cw s k a t= .err a 35:=by unfold Cw;rw[lQ h]
theorem Yb {s:ByteArray} {k a t:Nat}(h:¬1000<t-a):Cw s k a t= .ok k (s.extract a t) ⟨#[]⟩ 0 a t:=by unfold Cw;rw[lL h]
end Go.Lx
