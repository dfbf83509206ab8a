import Derived.Test.YtpjcdbjablijkaaGreatDoorTac
import Derived.Deep.CutBlock
import Derived.Test.YtpjcdbjablijkaaGreatDoorTad
import Derived.ScopeJumps
import Derived.Test.YtpjcdbjablijkaaGreatDoorTaa
set_option maxRecDepth 1000000
set_option maxHeartbeats 40000000
section
namespace Go.Pf
open Go.RowKit
structure DSt where
 A:Nat→Nat
 nd:Nat
 dp:Int
 tr:Bool
def LStep (k:Nat) (s s':DSt):Prop:=∃W,LShift s.A s.nd s.dp s.tr k s'.A W s'.dp s'.tr∧0<s'.nd∧s'.nd≤W∧s'.A (s'.nd-1)≠48∧(∀i,s'.nd≤i→i<W→s'.A i=48)
def RStep (k:Nat) (s s':DSt):Prop:=∃W,RShift s.A s.nd s.dp s.tr k s'.A W s'.dp s'.tr∧0<s'.nd∧s'.nd≤W∧s'.A (s'.nd-1)≠48∧(∀i,s'.nd≤i→i<W→s'.A i=48)
inductive RCh:Nat→DSt→DSt→Prop
 |last {k:Nat} {s s':DSt}(h:k≤60) (r:RStep k s s'):RCh k s s'
 |more {k:Nat} {s t s':DSt}(h:60<k) (r:RStep 60 s t) (c:RCh (k-60) t s'):RCh k s s'
theorem numz_low {A:Nat→Nat} {nd:Nat}(h0:0<nd) (hA:49≤A 0):∀t,10^t≤numz A nd (t+1)
 |0=>by rw[numz,numz,if_pos h0];simp;omega
 |t+1=>by rw[numz,Nat.pow_succ];have:=numz_low h0 hA t;omega
theorem RStep.dp {k:Nat} {s s':DSt}(h:RStep k s s') (hk:k≤60) (h0:0<s.nd) (hA:49≤s.A 0):s'.dp≤s.dp∧s.dp≤s'.dp+20:=by
 obtain⟨W,hs,_⟩:=h
 obtain⟨V,c,r,h1,_,_,hd,_,_,_,_,hp⟩:=hs.ex
 have hr:r≤21:=by
  apply Classical.byContradiction
  intro hh
  obtain⟨t,ht⟩:∃t,r-1=t+1:=⟨r-2,by omega⟩
  rw[ht]at hp
  have h3:=numz_low h0 hA t
  have h4:(10:Nat)^19≤10^t:=Nat.pow_le_pow_right (by decide) (by omega)
  have h5:(2:Nat)^k≤2^60:=Nat.pow_le_pow_right (by decide) hk
  omega
 omega
end Go.Pf
end
section
namespace Go.Pf
theorem lead_num {A:Nat→Nat} {n:Nat}(h0:0<n) (hd:∀i,i<n→A i≤57):num A n/10^(n-1)=A 0-48:=by
 have h1:=num_dig n (n-1) hd (by omega)
 have h2:=num_lt n hd
 have h3:num A n/10^(n-1)<10:=by
  rw[Nat.div_lt_iff_lt_mul (pow_pos10 _),Nat.mul_comm 10,←Nat.pow_succ,show(n-1).succ=n by omega]
  exact h2
 rw[Nat.mod_eq_of_lt h3,show n-1-(n-1)=0 by omega]at h1
 exact h1
end Go.Pf
end
section
namespace Go.Pf
open Go.RowKit
def pwL:List Nat:= [1,3,6,9,13,16,19,23,26]
def pw (d:Int):Nat:=if 9≤d then 27 else pwL.getD d.toNat 1
inductive Dn:DSt→Int→DSt→Int→Prop
 |done {s:DSt} {e:Int}(h:s.dp≤0):Dn s e s e
 |step {s t s':DSt} {e e':Int}(h:0<s.dp) (r:RCh (pw s.dp) s t) (c:Dn t (e+pw s.dp) s' e'):Dn s e s' e'
def small2 (s:DSt):Prop:=s.dp<0∨s.dp=0∧s.A 0<53
inductive Up:DSt→Int→DSt→Int→Prop
 |done {s:DSt} {e:Int}(h:¬small2 s):Up s e s e
 |step {s t s':DSt} {e e':Int}(h:small2 s) (r:LStep (pw (-s.dp)) s t) (c:Up t (e-pw (-s.dp)) s' e'):Up s e s' e'
theorem RCh.dp {k:Nat} {s s':DSt}(h:RCh k s s'):0<s.nd→49≤s.A 0→s'.dp≤s.dp∧3*(s.dp-s'.dp)≤k+60:=by
 induction h with
 |last hk r=>
  intro h0 hA
  have:=r.dp hk h0 hA
  omega
 |more hk r c ih=>
  intro h0 hA
  have h1:=r.dp (nR _) h0 hA
  obtain⟨W,hs,hp,_⟩:=r
  have h2:=ih hp hs.lead
  omega
structure TabF (w:World) (B:Nat):Prop where
 lim:21<B
 i0:w.cell? ⟨16,0,none⟩=some (.int .u64 52)
 i1:w.cell? ⟨16,1,none⟩=some (.int .u64 11)
 i2:w.cell? ⟨16,2,none⟩=some (.int .i64 (-1023))
theorem TabF.below {w w':World} {B:Nat}(h:TabF w B) (hb:Below B w w'):TabF w' B:=by
 have hl:=h.lim
 exact⟨hl,(hb.cell (p:=⟨16,0,none⟩) (by show 16<B;omega)).trans h.i0,(hb.cell (p:=⟨16,1,none⟩) (by show 16<B;omega)).trans h.i1,(hb.cell (p:=⟨16,2,none⟩) (by show 16<B;omega)).trans h.i2⟩
end Go.Pf
end
