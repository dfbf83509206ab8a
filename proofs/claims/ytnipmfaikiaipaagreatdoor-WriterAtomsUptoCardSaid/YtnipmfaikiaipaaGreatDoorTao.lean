import Derived.Test.YtnipmfaikiaipaaGreatDoorTal
set_option maxRecDepth 1000000
set_option maxHeartbeats 40000000
namespace Go.Rb
open Go.Pf
def CK (c:Nat):Nat:=if 48<=c/\c<=57 then c-48 else if 97<=c/\c<=122 then c-97+10 else if 65<=c/\c<=90 then c-65+10 else 99
def vN (r:Nat) (s:ByteArray):Nat->Nat
 |0=>0
 |k+1=>vN r s k*r+CK (byte s k)
theorem Ii {r:Nat}(hr:1<=r) (s:ByteArray){j k:Nat}(h:j<=k):vN r s j<=vN r s k:=by
 induction h with
 |refl=>exact nR _
 |step _ ih=>exact To ih (by rw[vN];exact To (Nat.le_mul_of_pos_right _ hr) (Nat.le_add_right _ _))
def JM (X r d k:Nat):Nat:=(X %2^k*r+d)/2^k
theorem T7 (X r d:Nat):JM X r d 0=d:=by simp[JM,Nat.mod_one]
theorem Kx (X r d k:Nat):(X*r+d)/2^k=X/2^k*r+JM X r d k:=by
 have h1:2^k*(X/2^k)+X %2^k=X:=Nat.div_add_mod X _;have e:X*r+d=(X %2^k*r+d)+2^k*(X/2^k*r):=by
  conv=>lhs;rw[<-h1]
  rw[UP,G0];omega
 rw[e,Nat.add_mul_div_left _ _ (An k)];unfold JM;omega
theorem Xg {X r d:Nat}(h:d<r) (k:Nat):JM X r d k<r:=by
 unfold JM;rw[ad (An k)];have h1:X %2^k<2^k:=gR _ (An k);have h2:(X %2^k+1)*r<=2^k*r:=FF r h1;rw[UP,Nat.one_mul]at h2;rw[So r];omega
theorem S5 (X r d k:Nat):(AQ X k*r+JM X r d k) %2=AQ (X*r+d) k/\(AQ X k*r+JM X r d k)/2=JM X r d (k+1):=by
 have e:X/2^k=2*(X/2^(k+1))+AQ X k:=by
  rw[gj,<-SO];unfold AQ;omega
 have h1:=Kx X r d k;have h2:=Kx X r d (k+1);have e3:(X*r+d)/2^(k+1)=(X*r+d)/2^k/2:=by rw[gj,SO]
 rw[e,UP,G0]at h1;rw[e3,h1]at h2;constructor
 ·have:AQ (X*r+d) k=(X*r+d)/2^k %2:=rfl;rw[this,h1];generalize X/2^(k+1)*r=p;omega
 ·generalize X/2^(k+1)*r=p at*;omega
end Go.Rb
namespace Go.Proofs
open Go.RowKit Go.Pf Go.Rb
theorem WU (c:Nat) (hc:c<256) (w:World):Calls Tryz.prog 249 #[.int .u8 c] w fun e w'=>e= .returned (.int .i64 (CK c))/\w=w':=by
 have ci:(c:Int)<=255:=by omega
 by_cases h1:48<=c/\c<=57
 ·obtain⟨d,hd⟩:∃d,d=c-48:=⟨_,rfl⟩;have hr:CK c=d:=by unfold CK;rw[if_pos h1,hd]
  have e1:(c:Int)-48=d:=by omega
  have g1:decide (48<=c)=true:=AN h1.1;have g2:decide (c<=57)=true:=AN h1.2;have g3:decide ((48:Int)<=c)=true:=A5;have g4:decide ((c:Int)<=57)=true:=A5;rw[hr];clear h1 hr hd;go_enter Tryz.func249,Tryz.ntmps249;go_wp2;go_ret;exact⟨rfl,rfl⟩
 ·have g1:(decide ((48:Int)<=c)=true/\decide ((c:Int)<=57)=false)\/decide ((48:Int)<=c)=false:=by
   by_cases h:48<=c
   ·exact .inl ⟨AN (by omega),AS (by omega)⟩
   ·exact .inr (AS (by omega))
  by_cases h2:97<=c/\c<=122
  ·obtain⟨d,hd⟩:∃d,d=c-97+10:=⟨_,rfl⟩;have hr:CK c=d:=by unfold CK;rw[if_neg h1,if_pos h2,hd]
   have e1:(c:Int)-97+10=d:=by omega
   have g3:decide ((97:Int)<=c)=true:=A5;have g4:decide ((c:Int)<=122)=true:=A5;have g5:(97:Int)<=c:=by omega
   have g6:(c:Int)<=122:=by omega
   rw[hr];clear h1 h2 hr hd;rcases g1 with⟨a,b⟩|a
   all_goals
    go_enter Tryz.func249,Tryz.ntmps249;go_wp2;go_ret;exact⟨rfl,rfl⟩
  ·have g2:(decide ((97:Int)<=c)=true/\decide ((c:Int)<=122)=false)\/decide ((97:Int)<=c)=false:=by
    by_cases h:97<=c
    ·exact .inl ⟨AN (by omega),AS (by omega)⟩
    ·exact .inr (AS (by omega))
   by_cases h3:65<=c/\c<=90
   ·obtain⟨d,hd⟩:∃d,d=c-65+10:=⟨_,rfl⟩;have hr:CK c=d:=by unfold CK;rw[if_neg h1,if_neg h2,if_pos h3,hd]
    have e1:(c:Int)-65+10=d:=by omega
    have g3:decide ((65:Int)<=c)=true:=A5;have g4:decide ((c:Int)<=90)=true:=A5;have g5:(65:Int)<=c:=by omega
    have g6:(c:Int)<=90:=by omega
    rw[hr];clear h1 h2 h3 hr hd;rcases g1 with⟨a,b⟩|a<;>rcases g2 with⟨a2,b2⟩|a2
    all_goals
     go_enter Tryz.func249,Tryz.ntmps249;go_wp2;go_ret;exact⟨rfl,rfl⟩
   ·have g3:(decide ((65:Int)<=c)=true/\decide ((c:Int)<=90)=false)\/decide ((65:Int)<=c)=false:=by
     by_cases h:65<=c
     ·exact .inl ⟨AN (by omega),AS (by omega)⟩
     ·exact .inr (AS (by omega))
    have hr:CK c=99:=by unfold CK;rw[if_neg h1,if_neg h2,if_neg h3]
    rw[hr];clear h1 h2 h3 hr;rcases g1 with⟨a,b⟩|a<;>rcases g2 with⟨a2,b2⟩|a2<;>rcases g3 with⟨a3,b3⟩|a3
    all_goals
     go_enter Tryz.func249,Tryz.ntmps249;go_wp2;go_ret;exact⟨rfl,rfl⟩
end Go.Proofs
