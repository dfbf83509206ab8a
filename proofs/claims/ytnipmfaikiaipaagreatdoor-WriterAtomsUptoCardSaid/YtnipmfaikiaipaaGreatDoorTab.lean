import Derived.Test.YtnipmfaikiaipaaGreatDoorTaa
set_option maxRecDepth 1000000
set_option maxHeartbeats 40000000
section
namespace Go.Pf
def JS (a b:Nat):Nat:=if b<2*(a %b)\/(2*(a %b)=b/\a/b %2=1)then a/b+1 else a/b
def KE:Nat:=1074
def KZ:Nat:=2^KE
theorem LG:KE=1074:=rfl
def PM (N D b:Nat):Prop:=∃u,(u=0\/4503599627370496*(D*2^u)<=N*KZ)/\N*KZ<9007199254740992*(D*2^u)/\b=u*4503599627370496+JS (N*KZ) (D*2^u)
def BR:Nat:=9218868437227405312
def Fl (N D r:Nat):Prop:=∃b,PM N D b/\r=min b BR
theorem S8 {a b a' b':Nat}(hb:0<b) (hb':0<b') (h:a*b'=a'*b):a/b=a'/b'/\a %b*b'=a' %b'*b:=by
 constructor
 ·rw[<-Nat.mul_div_mul_right a b hb',<-Nat.mul_div_mul_right a' b' hb,h,So b b']
 ·rw[<-Nat.mul_mod_mul_right,<-Nat.mul_mod_mul_right,h,So b b']
theorem Gf {a b a' b':Nat}(hb:0<b) (hb':0<b') (h:a*b'=a'*b):JS a b=JS a' b':=by
 obtain⟨h1,h2⟩:=S8 hb hb' h;have h3:b<2*(a %b)↔b'<2*(a' %b'):=by
  rw[<-Nat.mul_lt_mul_right (a:=b') hb' (b:=b),<-Nat.mul_lt_mul_right (a:=b) hb (b:=b'),G0 2,G0 2,h2,So b b']
 have h4:2*(a %b)=b↔2*(a' %b')=b':=by
  constructor
  ·intro e;apply Nat.eq_of_mul_eq_mul_right hb;rw[G0,<-h2,<-G0,e,So]
  ·intro e;apply Nat.eq_of_mul_eq_mul_right hb';rw[G0,h2,<-G0,e,So]
 unfold JS;rw[h1];simp only[h3,h4]
theorem PM.unit {N D u v K:Nat}(h2:N*K<9007199254740992*(D*2^u)) (h1:v=0\/4503599627370496*(D*2^v)<=N*K):v<=u:=by
 rcases BY u v with h|h
 ·exfalso;rcases h1 with h1|h1
  ·omega
  ·have e:2^u*2<=2^v:=by rw[<-gj];exact AT (by decide) h
   have e2:D*(2^u*2)<=D*2^v:=dg D e;rw[<-G0]at e2;omega
 ·exact h
theorem PM.unique {N D b b':Nat}(h:PM N D b) (h':PM N D b'):b=b':=by
 obtain⟨u,h1,h2,h3⟩:=h;obtain⟨v,k1,k2,k3⟩:=h';obtain rfl:u=v:=Nat.le_antisymm (PM.unit k2 h1) (PM.unit h2 k1);rw[h3,k3]
theorem Fl.unique {N D b b':Nat}(h:Fl N D b) (h':Fl N D b'):b=b':=by
 obtain⟨c,h1,h2⟩:=h;obtain⟨c',k1,k2⟩:=h';rw[h2,k2,h1.unique k1]
end Go.Pf
end
section
namespace Go.Pf
def fO (i:Nat):Int:=((i:Int)-345)*108853/32768
def ZF (i:Nat):Nat:=10^(i-345)*2^(2127-fO i).toNat
def PZ:Nat:=2000
def TP (i:Nat):Nat:=10^(345-i)*2^PZ
end Go.Pf
end
