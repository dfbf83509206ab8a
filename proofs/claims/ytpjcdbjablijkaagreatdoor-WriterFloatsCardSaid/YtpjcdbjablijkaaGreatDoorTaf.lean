import Derived.Test.YtpjcdbjablijkaaGreatDoorTae
import Derived.Test.YtpjcdbjablijkaaGreatDoorTab
import Derived.Test.YtpjcdbjablijkaaGreatDoorTac
import Derived.Test.YtpjcdbjablijkaaGreatDoorTaa
set_option maxRecDepth 1000000
set_option maxHeartbeats 40000000
section
namespace Go.Pf
theorem num_trim {A:Nat→Nat} {n:Nat} :∀m,(∀i,n≤i→i<n+m→A i=48)→num A (n+m)=num A n*10^m
 |0,_=>by simp
 |m+1,h=>by
  rw[←Nat.add_assoc,num,num_trim m (fun i h1 h2=>h i h1 (by omega)),h (n+m) (by omega) (by omega),Nat.pow_succ,Nat.mul_assoc,Nat.sub_self,Nat.add_zero]
theorem numz_ge {A:Nat→Nat} {nd:Nat} :∀m,numz A nd (nd+m)=num A nd*10^m
 |0=>by rw[Nat.add_zero,numz_le nd (nR _),Nat.pow_zero,Nat.mul_one]
 |m+1=>by
  rw[←Nat.add_assoc,numz,numz_ge m,if_neg (by omega),Nat.add_zero,Nat.pow_succ,Nat.mul_assoc]
def wN (P:Nat) (s:DSt) (e:Int):Nat:=num s.A s.nd*10^(s.dp-s.nd+P).toNat*2^(e+P).toNat
theorem core {X j V g:Nat}(h:X*10^j=V*g) (hg:0<g):V/10^j*g≤X∧X<(V/10^j+1)*g∧(V %10^j=0↔V/10^j*g=X):=by
 have hp:0<10^j:=Nat.pow_pos (by decide)
 have h1:V/10^j*10^j+V %10^j=V:=Nat.div_add_mod' V _
 have h2:V %10^j<10^j:=Nat.mod_lt _ hp
 have e1:X*10^j=V/10^j*g*10^j+V %10^j*g:=by
  rw[h]
  conv=>lhs;rw[←h1]
  rw[Nat.add_mul,Nat.mul_right_comm]
 have h3:V %10^j*g<10^j*g:=Nat.mul_lt_mul_of_pos_right h2 hg
 refine⟨?_,?_,?_⟩
 ·refine Nat.le_of_mul_le_mul_right ?_ hp
  rw[e1];exact Nat.le_add_right _ _
 ·refine Nat.lt_of_mul_lt_mul_right (a:=10^j) ?_
  rw[e1,Nat.add_mul (V/10^j),Nat.one_mul,Nat.add_mul,Nat.mul_comm g]
  exact Nat.add_lt_add_left h3 _
 ·constructor
  ·intro h0
   rw[h0,Nat.zero_mul,Nat.add_zero]at e1
   exact(Nat.eq_of_mul_eq_mul_right hp e1).symm
  ·intro h0
   rw[h0]at e1
   have:V %10^j*g=0:=by omega
   rcases Nat.mul_eq_zero.1 this with h|h
   ·exact h
   ·omega
structure Stp (P:Nat) (s:DSt) (e:Int) (s':DSt) (e':Int):Prop where
 le:wN P s' e'≤wN P s e
 tr:s'.tr=(s.tr||decide (wN P s' e'≠wN P s e))
 fl:wN P s' e'=wN P s e∨∃t g,g=10^(s'.dp-800+P).toNat*2^(e'+P).toNat∧wN P s' e'=t*g∧wN P s e<(t+1)*g
theorem Stp.mk' {P W j V:Nat} {s s':DSt} {e e':Int}(hn:num s'.A W=V/10^j) (hnd:s'.nd≤W) (hz:∀i,s'.nd≤i→i<W→s'.A i=48) (htr:s'.tr=(s.tr||decide (V %10^j≠0)))
 (hj:j=0∨W=800) (hP:0≤s'.dp-W+P) (hx:wN P s e*10^j=V*(10^(s'.dp-W+P).toNat*2^(e'+P).toNat)):Stp P s e s' e':=by
 obtain⟨g,hg⟩:∃g,g=10^(s'.dp-W+P).toNat*2^(e'+P).toNat:=⟨_,rfl⟩
 have g0:0<g:=by rw[hg];exact Nat.mul_pos (Nat.pow_pos (by decide)) (Nat.two_pow_pos _)
 have e1:wN P s' e'=V/10^j*g:=by
  rw[←hn,hg]
  obtain⟨m,rfl⟩:∃m,W=s'.nd+m:=⟨W-s'.nd,by omega⟩
  rw[num_trim m hz]
  unfold wN
  rw[show(s'.dp-s'.nd+P).toNat=m+(s'.dp-(s'.nd+m:Nat)+P).toNat by omega,Nat.pow_add]
  ac_rfl
 rw[←hg]at hx
 obtain⟨c1,c2,c3⟩:=core hx g0
 rw[←e1]at c1 c3
 refine⟨c1,?_,?_⟩
 ·rw[htr]
  congr 1
  simp only[ne_eq,decide_not,c3]
 ·rcases hj with hj|hj
  ·refine .inl (c3.1 ?_)
   rw[hj,Nat.pow_zero,Nat.mod_one]
  ·subst hj
   exact .inr ⟨V/10^j,g,hg,e1,c2⟩
theorem RStep.stp {P k:Nat} {s s':DSt} {e:Int}(h:RStep k s s') (hk:k≤60) (h0:0<s.nd) (h8:s.nd≤800) (hA:49≤s.A 0) (hP:100000≤P) (d1: -50000≤s.dp) (he:0≤e+P):Stp P s e s' (e+k):=by
 have hd:=h.dp hk h0 hA
 obtain⟨W,hs,n0,nW,nz,zz⟩:=h
 obtain⟨V,c,r,r1,r2,r3,r4,r5,r6,r7,_,_⟩:=hs.ex
 have hr:r≤21:=by omega
 obtain⟨j,hj⟩:∃j,c=W+j:=⟨c-W,by omega⟩
 have ej:c-W=j:=by omega
 rw[ej]at r6 r7
 refine Stp.mk' r6 nW zz r7 (by omega) (by omega) ?_
 obtain⟨m,hm⟩:∃m,c+r=s.nd+m:=⟨c+r-s.nd,by omega⟩
 rw[hm,numz_ge]at r3
 unfold wN
 have x1:(s.dp-s.nd+P).toNat+j=m+(s.dp-r-W+P).toNat:=by omega
 have x2:(s'.dp-W+P).toNat=1+(s.dp-r-W+P).toNat:=by omega
 have x3:(e+k+P).toNat=k+(e+P).toNat:=by omega
 rw[x2,x3,Nat.pow_add 10 1,Nat.pow_add 2 k,Nat.pow_one]
 calc num s.A s.nd*10^(s.dp-s.nd+P).toNat*2^(e+P).toNat*10^j=num s.A s.nd*10^((s.dp-s.nd+P).toNat+j)*2^(e+P).toNat:=by rw[Nat.pow_add];ac_rfl
  _=num s.A s.nd*10^m*(10^(s.dp-r-W+P).toNat*2^(e+P).toNat):=by rw[x1,Nat.pow_add];ac_rfl
  _=V*(10*2^k)*(10^(s.dp-r-W+P).toNat*2^(e+P).toNat):=by rw[r3]
  _=V*(10*10^(s.dp-r-W+P).toNat*(2^k*2^(e+P).toNat)):=by ac_rfl
theorem LStep.stp {P k:Nat} {s s':DSt} {e:Int}(h:LStep k s s') (h8:s.nd≤800) (hP:100000≤P) (d1: -50000≤s.dp) (he:0≤e-k+P):Stp P s e s' (e-k)∧∃D:Nat,s'.dp=s.dp+D∧D≤19∧(s.nd+D≤800→wN P s' (e-k)=wN P s e):=by
 obtain⟨W,hs,n0,nW,nz,zz⟩:=h
 obtain⟨D,r1,r2,r3,r4,r5,r6,r7⟩:=hs.ex
 obtain⟨j,hj⟩:∃j,s.nd+D=W+j:=⟨s.nd+D-W,by omega⟩
 have ej:s.nd+D-W=j:=by omega
 rw[ej]at r4 r5
 have hx:wN P s e*10^j=num s.A s.nd*2^k*(10^(s'.dp-W+P).toNat*2^(e-k+P).toNat):=by
  unfold wN
  have x1:(s.dp-s.nd+P).toNat+j=(s'.dp-W+P).toNat:=by omega
  have x3:(e+P).toNat=k+(e-k+P).toNat:=by omega
  rw[x3,Nat.pow_add 2 k]
  calc num s.A s.nd*10^(s.dp-s.nd+P).toNat*(2^k*2^(e-k+P).toNat)*10^j=num s.A s.nd*10^((s.dp-s.nd+P).toNat+j)*(2^k*2^(e-k+P).toNat):=by rw[Nat.pow_add 10];ac_rfl
   _=num s.A s.nd*2^k*(10^(s'.dp-W+P).toNat*2^(e-k+P).toNat):=by rw[x1];ac_rfl
 have st:Stp P s e s' (e-k):=Stp.mk' r4 nW zz r5 (by omega) (by omega) hx
 refine⟨st,D,r2,r1,fun hD=> ?_⟩
 have j0:j=0:=by omega
 subst j0
 have e1:wN P s' (e-k)=num s'.A W*(10^(s'.dp-W+P).toNat*2^(e-k+P).toNat):=by
  obtain⟨m,rfl⟩:∃m,W=s'.nd+m:=⟨W-s'.nd,by omega⟩
  rw[num_trim m zz]
  unfold wN
  rw[show(s'.dp-s'.nd+P).toNat=m+(s'.dp-(s'.nd+m:Nat)+P).toNat by omega,Nat.pow_add]
  ac_rfl
 rw[e1,r4,Nat.pow_zero,Nat.div_one,←hx,Nat.pow_zero,Nat.mul_one]
structure Inv (P:Nat) (Q:Int) (v:Nat) (s:DSt) (e:Int):Prop where
 le:wN P s e≤v
 tr:s.tr=decide (wN P s e≠v)
 th:∀n,n*(10^P*2^(Q+P).toNat)≤v→n*(10^P*2^(Q+P).toNat)≤wN P s e
theorem Inv.step {P v:Nat} {Q e e':Int} {s s':DSt}(h:Inv P Q v s e) (hs:Stp P s e s' e') (c1:s'.dp≤800) (c2:s'.dp+e'≤800+Q) (c3: -50000≤s'.dp) (c4:0≤e'+P) (c5:0≤Q+P) (hP:100000≤P):Inv P Q v s' e':=by
 have l1:=h.le
 have l2:=hs.le
 refine⟨Nat.le_trans l2 l1,?_,?_⟩
 ·rw[hs.tr,h.tr,←Bool.decide_or]
  congr 1
  rw[eq_iff_iff]
  omega
 ·intro n hn
  have h1:=h.th n hn
  rcases hs.fl with hf|⟨t,g,hg,ht,hl⟩
  ·rw[hf];exact h1
  ·have eH:10^P*2^(Q+P).toNat=5^(800-s'.dp).toNat*2^(800-s'.dp+Q-e').toNat*g:=by
    have x1:P=(800-s'.dp).toNat+(s'.dp-800+P).toNat:=by omega
    have x2:(800-s'.dp).toNat+(Q+P).toNat=(800-s'.dp+Q-e').toNat+(e'+P).toNat:=by
     omega
    rw[hg]
    conv=>lhs;arg 1;rw[x1]
    rw[Nat.pow_add,show(10:Nat)^(800-s'.dp).toNat=5^(800-s'.dp).toNat*2^(800-s'.dp).toNat by rw[←Nat.mul_pow]]
    calc 5^(800-s'.dp).toNat*2^(800-s'.dp).toNat*10^(s'.dp-800+P).toNat*2^(Q+P).toNat
     =5^(800-s'.dp).toNat*10^(s'.dp-800+P).toNat*2^((800-s'.dp).toNat+(Q+P).toNat):=by rw[Nat.pow_add 2];ac_rfl
     _=5^(800-s'.dp).toNat*2^(800-s'.dp+Q-e').toNat*(10^(s'.dp-800+P).toNat*2^(e'+P).toNat):=by rw[x2,Nat.pow_add 2];ac_rfl
   rw[eH,←Nat.mul_assoc]at h1⊢
   rw[ht]
   refine Nat.mul_le_mul_right g ?_
   have:=Nat.lt_of_mul_lt_mul_right (Nat.lt_of_le_of_lt h1 hl)
   omega
end Go.Pf
end
section
namespace Go.Pf
structure Gd (s:DSt):Prop where
 pos:0<s.nd
 le:s.nd≤800
 lead:49≤s.A 0
 dig:∀i,i<s.nd→48≤s.A i∧s.A i≤57
theorem RStep.gd {k:Nat} {s s':DSt}(h:RStep k s s'):Gd s':=by
 obtain⟨W,hs,n0,nW,nz,zz⟩:=h
 obtain⟨V,c,r,r1,r2,r3,r4,r5,r6,r7,_,_⟩:=hs.ex
 exact⟨n0,by omega,hs.lead,fun i hi=>hs.dig i (by omega)⟩
theorem LStep.gd {k:Nat} {s s':DSt}(h:LStep k s s'):Gd s':=by
 obtain⟨W,hs,n0,nW,nz,zz⟩:=h
 obtain⟨D,r1,r2,r3,r4,r5,r6,r7⟩:=hs.ex
 exact⟨n0,by omega,hs.lead,fun i hi=>hs.dig i (by omega)⟩
theorem Dn.mono {s s':DSt} {e e':Int}(h:Dn s e s' e'):e≤e':=by
 induction h with
 |done _=>exact Int.le_refl _
 |step _ _ _ ih=>omega
def muD (s:DSt):Int:=10*s.dp+(s.A 0-48:Nat)
theorem LStep.len {k:Nat} {s s':DSt}(h:LStep k s s') (g:Gd s):(k:Int)≤4*(muD s'-muD s):=by
 obtain⟨W,hs,n0,nW,nz,zz⟩:=h
 obtain⟨D,r1,r2,r3,r4,r5,r6,r7⟩:=hs.ex
 have g0:=g.pos
 have gl:=g.lead
 have gd0:=g.dig 0 g0
 have hl:=hs.lead
 have hp:=hs.pos
 have hd0:=hs.dig 0 hp
 have e1:=lead_num g.pos (fun i hi=>(g.dig i hi).2)
 have e2:=lead_num hs.pos (fun i hi=>(hs.dig i hi).2)
 have x1:s.nd+D-W+(W-1)=s.nd+D-1:=by omega
 rw[r4,Nat.div_div_eq_div_mul,←Nat.pow_add,x1]at e2
 obtain⟨N,hN⟩:∃N,N=num s.A s.nd:=⟨_,rfl⟩
 obtain⟨l,hl1⟩:∃l,l=s.A 0-48:=⟨_,rfl⟩
 obtain⟨l',hl2⟩:∃l,l=s'.A 0-48:=⟨_,rfl⟩
 rw[←hN,←hl1]at e1
 rw[←hN,←hl2]at e2
 rw[←hN]at r7
 have b1:l*10^(s.nd-1)≤N:=by rw[←e1];exact Nat.div_mul_le_self _ _
 have b2:N*2^k<(l'+1)*10^(s.nd+D-1):=by
  have:=Nat.lt_div_mul_add (a:=N*2^k) (pow_pos10 (s.nd+D-1))
  rw[e2]at this
  rw[Nat.add_mul,Nat.one_mul]
  exact this
 unfold muD
 rw[r2,←hl1,←hl2]
 by_cases hD:D=0
 ·subst hD
  rw[Nat.add_zero]at b2
  have b3:l*2^k<l'+1:=by
   apply Nat.lt_of_mul_lt_mul_right (a:=10^(s.nd-1))
   refine Nat.lt_of_le_of_lt ?_ b2
   rw[Nat.mul_right_comm]
   exact Nat.mul_le_mul_right _ b1
  have b4:k+1≤2^k:=Nat.lt_two_pow_self
  have b5:l*(k+1)≤l*2^k:=Nat.mul_le_mul_left _ b4
  rw[Nat.mul_add,Nat.mul_one]at b5
  have b6:1*k≤l*k:=Nat.mul_le_mul_right _ (by omega)
  omega
 ·have b3:2^k<10^(D+1):=by
   apply Nat.lt_of_mul_lt_mul_right (a:=10^(s.nd-1))
   rw[←Nat.pow_add,show D+1+(s.nd-1)=s.nd+D by omega,Nat.mul_comm]
   refine Nat.lt_of_le_of_lt ?_ r7
   refine Nat.mul_le_mul_right _ (Nat.le_trans ?_ b1)
   have:=Nat.mul_le_mul_right (10^(s.nd-1)) (show 1≤l by omega)
   rw[Nat.one_mul]at this
   exact this
  have b4:(10:Nat)^(D+1)≤2^(4*(D+1)):=by
   rw[Nat.pow_mul]
   exact Nat.pow_le_pow_left (by decide) _
  have b5:k<4*(D+1):=by
   apply Classical.byContradiction
   intro hh
   have:=Nat.pow_le_pow_right (n:=2) (by decide) (show 4*(D+1)≤k by omega)
   omega
  omega
theorem pw_le (d:Nat) (h:1≤d):2^pw d≤10^d:=by
 unfold pw
 split
 ·have:(10:Nat)^9≤10^d:=Nat.pow_le_pow_right (by decide) (by omega)
  omega
 ·have key:∀n,n<9→1≤n→2^pwL.getD n 1≤10^n:=by decide
  exact key d (by omega) h
theorem LStep.dp0 {s s':DSt}(h:LStep (pw (-s.dp)) s s') (g:Gd s) (h0:s.dp≤0) (hs2:small2 s):s'.dp≤0:=by
 obtain⟨W,hs,n0,nW,nz,zz⟩:=h
 obtain⟨D,r1,r2,r3,r4,r5,r6,r7⟩:=hs.ex
 have g0:=g.pos
 by_cases hz:s.dp=0
 ·rw[hz]at r6 r2
  have:pw (-0)=1:=by decide
  rw[this]at r6
  have e1:=lead_num g.pos (fun i hi=>(g.dig i hi).2)
  have h5:s.A 0<53:=by
   rcases hs2 with h|h
   ·omega
   ·exact h.2
  have b2:num s.A s.nd<5*10^(s.nd-1):=by
   have:=Nat.lt_div_mul_add (a:=num s.A s.nd) (pow_pos10 (s.nd-1))
   rw[e1]at this
   have b:=Nat.mul_le_mul_right (10^(s.nd-1)) (show s.A 0-48≤4 by omega)
   omega
  have b3:(10:Nat)^(s.nd+D-1)<10^s.nd:=by
   have:(10:Nat)^s.nd=10^(s.nd-1)*10:=by rw[←Nat.pow_succ,show(s.nd-1).succ=s.nd by omega]
   omega
  have b4:=(Nat.pow_lt_pow_iff_right (a:=10) (by decide)).1 b3
  omega
 ·obtain⟨d,hd⟩:∃d:Nat,-s.dp=d:=⟨(-s.dp).toNat,by omega⟩
  rw[hd]at r6
  have p:=pw_le d (by omega)
  have b1:=num_lt s.nd (fun i hi=>(g.dig i hi).2)
  have b3:(10:Nat)^(s.nd+D-1)<10^(s.nd+d):=by
   refine Nat.lt_of_le_of_lt r6 ?_
   rw[Nat.pow_add]
   exact Nat.lt_of_le_of_lt (Nat.mul_le_mul_left _ p) (Nat.mul_lt_mul_of_pos_right b1 (pow_pos10 _))
  have b4:=(Nat.pow_lt_pow_iff_right (a:=10) (by decide)).1 b3
  omega
theorem Up.mono {s s':DSt} {e e':Int}(h:Up s e s' e'):e'≤e:=by
 induction h with
 |done _=>exact Int.le_refl _
 |step _ _ _ ih=>omega
theorem Up.dp {s s':DSt} {e e':Int}(h:Up s e s' e'):s.dp≤s'.dp:=by
 induction h with
 |done _=>exact Int.le_refl _
 |step _ r _ ih=>
  obtain⟨W,hs,_⟩:=r
  obtain⟨D,r1,r2,_⟩:=hs.ex
  omega
theorem Up.len {s s':DSt} {e e':Int}(h:Up s e s' e'):Gd s→s.dp≤0→e-e'≤4*(9-muD s)∧s'.dp≤0∧¬small2 s'∧Gd s':=by
 induction h with
 |done h0=>
  intro g h
  refine⟨?_,h,h0,g⟩
  have:=g.dig 0 g.pos
  unfold muD
  omega
 | @step s t s' e e' h0 r c ih=>
  intro g h
  have h1:=r.dp0 g h h0
  have h2:=r.len g
  obtain⟨a1,a2,a3,a4⟩:=ih r.gd h1
  exact⟨by omega,a2,a3,a4⟩
theorem Up.exact {P:Nat} {s s':DSt} {e e':Int}(h:Up s e s' e'):Gd s→s.tr=false→s.dp≤0→ -50000≤s.dp→s.nd-s.dp≤730→0≤e'+P→100000≤P→wN P s' e'=wN P s e∧s'.tr=false:=by
 induction h with
 |done h0=>
  intro g i c1 c2 c3 c4 hP
  exact⟨rfl,i⟩
 | @step s t s' e e' h0 r c ih=>
  intro g i c1 c2 c3 c4 hP
  have hm:=c.mono
  have h1:=r.dp0 g c1 h0
  obtain⟨st,D,d1,d2,d3⟩:=r.stp (P:=P) (e:=e) g.le hP c2 (by omega)
  have hD:(s.nd:Int)+D≤730:=by omega
  have e1:=d3 (by omega)
  have t1:t.tr=false:=by rw[st.tr,i,e1];simp
  have hnd:(t.nd:Int)≤s.nd+D:=by
   obtain⟨W,hs,n0,nW,nz,zz⟩:=r
   obtain⟨D',r1,r2,r3,_⟩:=hs.ex
   omega
  obtain⟨a1,a2⟩:=ih r.gd t1 h1 (by omega) (by omega) c4 hP
  exact⟨a1.trans e1,a2⟩
end Go.Pf
end
section
namespace Go.Pf
theorem near1 {H M M2 L2:Nat}(h:¬M2+2≤M):(H*18446744073709551616+M)*18446744073709551616≤340282366920938463463374607431768211456*H+(M2*18446744073709551616+L2)+18446744073709551616:=by omega
theorem near2 {H M M2 L2:Nat}(h:¬M<M2) (h2:L2<18446744073709551616):340282366920938463463374607431768211456*H+(M2*18446744073709551616+L2)<(H*18446744073709551616+M)*18446744073709551616+18446744073709551616:=by omega
theorem usc_ok (x hi lo s Pn Pd:Nat) (hx:9223372036854775808≤x) (hx2:x<18446744073709551616) (hh0:9223372036854775808≤hi) (hh:hi<18446744073709551616) (hl:lo<18446744073709551616) (hs:8≤s)
 (hPd:0<Pd) (h1:hi*18446744073709551616*Pd<Pn+(lo+1)*Pd) (h2:Pn+lo*Pd≤hi*18446744073709551616*Pd) (hF:Far hi lo Pn Pd x):
 uscN x hi lo s=(x*Pn/(Pd*2^(128+s)))|||(if x*Pn %(Pd*2^(128+s))=0 then 0 else 1):=by
 obtain⟨H,hH⟩:∃H,H=x*hi/18446744073709551616:=⟨_,rfl⟩
 obtain⟨M,hM⟩:∃M,M=x*hi %18446744073709551616:=⟨_,rfl⟩
 obtain⟨M2,hM2⟩:∃M,M=x*lo/18446744073709551616:=⟨_,rfl⟩
 obtain⟨L2,hL2⟩:∃M,M=x*lo %18446744073709551616:=⟨_,rfl⟩
 have e1:x*hi=H*18446744073709551616+M:=by omega
 have e2:x*lo=M2*18446744073709551616+L2:=by omega
 have bM:M<18446744073709551616:=by omega
 have bL:L2<18446744073709551616:=by omega
 have bxl:x*lo≤18446744073709551615*18446744073709551615:=Nat.mul_le_mul (by omega) (by omega)
 have bM2:M2≤18446744073709551614:=by omega
 have bxh:9223372036854775808*9223372036854775808≤x*hi:=Nat.mul_le_mul hx hh0
 have bxh2:x*hi≤18446744073709551615*18446744073709551615:=Nat.mul_le_mul (by omega) (by omega)
 have H0:0<H:=by omega
 have HT:H<18446744073709551615:=by omega
 obtain⟨Y,hY⟩:∃Y,Y=x*Pn:=⟨_,rfl⟩
 have g1:x*(hi*18446744073709551616*Pd)<x*(Pn+(lo+1)*Pd):=Nat.mul_lt_mul_of_pos_left h1 (by omega)
 have g2:x*(Pn+lo*Pd)≤x*(hi*18446744073709551616*Pd):=Nat.mul_le_mul_left x h2
 have f1:x*(hi*18446744073709551616*Pd)=18446744073709551616*(18446744073709551616*(H*Pd)+M*Pd):=by
  calc x*(hi*18446744073709551616*Pd)=18446744073709551616*((x*hi)*Pd):=by ac_rfl
   _=18446744073709551616*(18446744073709551616*(H*Pd)+M*Pd):=by rw[e1,Nat.add_mul];congr 2;ac_rfl
 have f2:x*(Pn+lo*Pd)=Y+(18446744073709551616*(M2*Pd)+L2*Pd):=by
  calc x*(Pn+lo*Pd)=x*Pn+(x*lo)*Pd:=by rw[Nat.mul_add,Nat.mul_assoc]
   _=Y+(18446744073709551616*(M2*Pd)+L2*Pd):=by rw[e2,Nat.add_mul,←hY];congr 2;ac_rfl
 have f3:x*(Pn+(lo+1)*Pd)=Y+(18446744073709551616*(M2*Pd)+L2*Pd)+x*Pd:=by
  rw[←f2,←Nat.mul_add,Nat.add_mul,Nat.one_mul,←Nat.add_assoc]
 rw[f1,f3]at g1
 rw[f2,f1]at g2
 obtain⟨S,hS⟩:∃S,S=2^s:=⟨_,rfl⟩
 have eB:Pd*2^(128+s)=340282366920938463463374607431768211456*(S*Pd):=by
  rw[Nat.pow_add,←hS]
  have:(2:Nat)^128=340282366920938463463374607431768211456:=by decide
  rw[this];ac_rfl
 have S256:256≤S:=by
  rw[hS]
  have:(2:Nat)^8≤2^s:=Nat.pow_le_pow_right (by decide) hs
  omega
 have c1:M*Pd≤18446744073709551615*Pd:=Nat.mul_le_mul_right Pd (by omega)
 have c2:M2*Pd≤18446744073709551614*Pd:=Nat.mul_le_mul_right Pd bM2
 have c3:L2*Pd≤18446744073709551615*Pd:=Nat.mul_le_mul_right Pd (by omega)
 have c4:x*Pd≤18446744073709551615*Pd:=Nat.mul_le_mul_right Pd (by omega)
 obtain⟨Q,hQ⟩:∃Q,Q=H/S:=⟨_,rfl⟩
 rw[eB,←hY]
 unfold uscN
 rw[←hS,←hH,←hM,←hM2,←hQ]
 have q1:H=Q*S+H %S:=by rw[hQ];exact(Nat.div_add_mod' H S).symm
 have q2:H %S<S:=Nat.mod_lt _ (by omega)
 by_cases hz:H %S=0
 ·have q3:Q*S=H:=by omega
  rw[if_pos q3]
  have Q0:0<Q:=by
   rcases Nat.eq_zero_or_pos Q with h|h
   ·rw[h,Nat.zero_mul]at q3;omega
   ·exact h
  have q4:Q*(340282366920938463463374607431768211456*(S*Pd))=340282366920938463463374607431768211456*(H*Pd):=by rw[←q3];ac_rfl
  have sP:256*Pd≤S*Pd:=Nat.mul_le_mul_right Pd S256
  by_cases hlt:M<M2
  ·have c5:(M+1)*Pd≤M2*Pd:=Nat.mul_le_mul_right Pd hlt
   rw[Nat.add_mul,Nat.one_mul]at c5
   have w1:(H+18446744073709551616-1) %18446744073709551616=H-1:=by omega
   have w2:1<(M+18446744073709551616-M2) %18446744073709551616:=by omega
   obtain⟨Q',rfl⟩:∃Q',Q=Q'+1:=⟨Q-1,by omega⟩
   have w3:(H-1)/S=Q':=by
    refine Nat.div_eq_of_lt_le ?_ ?_
    ·rw[Nat.add_mul]at q3;omega
    ·omega
   have w4:Q'*(340282366920938463463374607431768211456*(S*Pd))+340282366920938463463374607431768211456*(S*Pd)=340282366920938463463374607431768211456*(H*Pd):=by rw[←q4,Nat.add_mul,Nat.one_mul]
   obtain⟨d1,d2⟩:=div_mod_of (Y:=Y) (B:=340282366920938463463374607431768211456*(S*Pd)) (Q:=Q') (by omega) (by rw[Nat.add_mul,Nat.one_mul,w4];omega)
   have d3:Y %(340282366920938463463374607431768211456*(S*Pd))≠0:=fun h=>by have:=d2.1 h;omega
   rw[if_pos hlt,w1,if_pos w2,w3,d1,if_neg d3]
  ·have w1:(H+18446744073709551616-0) %18446744073709551616=H:=by omega
   rw[if_neg hlt,w1,←hQ]
   have up:Y<(Q+1)*(340282366920938463463374607431768211456*(S*Pd)):=by
    rw[Nat.add_mul,Nat.one_mul,q4]
    omega
   by_cases h2':M2+2≤M
   ·have c5:(M2+2)*Pd≤M*Pd:=Nat.mul_le_mul_right Pd h2'
    rw[Nat.add_mul]at c5
    have w2:1<(M+18446744073709551616-M2) %18446744073709551616:=by omega
    obtain⟨d1,d2⟩:=div_mod_of (Y:=Y) (B:=340282366920938463463374607431768211456*(S*Pd)) (Q:=Q) (by rw[q4];omega) up
    have d3:Y %(340282366920938463463374607431768211456*(S*Pd))≠0:=fun h=>by have:=d2.1 h;rw[q4]at this;omega
    rw[if_pos w2,d1,if_neg d3]
   ·have w2:¬1<(M+18446744073709551616-M2) %18446744073709551616:=by omega
    obtain⟨k,hk⟩:∃k,s=8+k:=⟨s-8,by omega⟩
    have eS:S=256*2^k:=by rw[hS,hk,Nat.pow_add]
    have q5:Q*2^k*87112285931760246646623899502532662132736=340282366920938463463374607431768211456*H:=by
     rw[←q3,eS]
     have:(87112285931760246646623899502532662132736:Nat)=340282366920938463463374607431768211456*256:=by decide
     rw[this];ac_rfl
    have hY2:=hF (Q*2^k) (by rw[q5,e1,e2];exact near1 h2') (by rw[q5,e1,e2];exact near2 hlt bL)
    rw[q5,←hY,Nat.mul_assoc]at hY2
    obtain⟨d1,d2⟩:=div_mod_of (Y:=Y) (B:=340282366920938463463374607431768211456*(S*Pd)) (Q:=Q) (by rw[q4,hY2];exact nR _) up
    rw[if_neg w2,d1,if_pos (d2.2 (by rw[q4,hY2]))]
 ·have q3:Q*S≠H:=by omega
  rw[if_neg q3]
  have c5:(Q*S+1)*Pd≤H*Pd:=Nat.mul_le_mul_right Pd (by omega)
  have c6:(H+1)*Pd≤(Q*S+S)*Pd:=Nat.mul_le_mul_right Pd (by omega)
  rw[Nat.add_mul,Nat.one_mul]at c5
  rw[Nat.add_mul,Nat.add_mul,Nat.one_mul]at c6
  have q4:Q*(340282366920938463463374607431768211456*(S*Pd))=340282366920938463463374607431768211456*(Q*S*Pd):=by ac_rfl
  obtain⟨d1,d2⟩:=div_mod_of (Y:=Y) (B:=340282366920938463463374607431768211456*(S*Pd)) (Q:=Q) (by rw[q4];omega) (by rw[Nat.add_mul,Nat.one_mul,q4];omega)
  have d3:Y %(340282366920938463463374607431768211456*(S*Pd))≠0:=fun h=>by have:=d2.1 h;rw[q4]at this;omega
  rw[d1,if_neg d3]
end Go.Pf
end
section
namespace Go.Pf
theorem rows_ok:allOk rowOk (Go.Pinned.pow10Rows.drop 3) certs 0=true:=by kernel_rfl
theorem certs_len:certs.length=656:=by kernel_rfl
theorem row_ok (i:Nat) (h:i<656):rowOk i (powHi (i+3)) (powLo (i+3)) (certs.getD i (0,0)).1 (certs.getD i (0,0)).2=true:=by
 have k:=allOk_get rowOk _ _ 0 i rows_ok (by rw[certs_len];exact h)
 unfold powHi powLo
 rw[List.getD_eq_getElem?_getD,List.getElem?_drop,←List.getD_eq_getElem?_getD,Nat.zero_add,Nat.add_comm 3 i]at k
 exact k
structure RowIs (i hi lo:Nat):Prop where
 up:hi*18446744073709551616*pDen i<pNum i+(lo+1)*pDen i
 le:pNum i+lo*pDen i≤hi*18446744073709551616*pDen i
 hi63:9223372036854775808≤hi
 hi64:hi<18446744073709551616
 lo64:lo<18446744073709551616
 low:170141183460469231731687303715884105728*pDen i≤pNum i
 high:pNum i<340240828546070184842346363461134450688*pDen i
theorem row_is (i:Nat) (h:i<656):RowIs i (powHi (i+3)) (powLo (i+3)):=by
 have k:=row_ok i h
 unfold rowOk at k
 simp only[Bool.and_eq_true,Nat.blt_eq,Nat.ble_eq]at k
 obtain⟨⟨⟨⟨⟨⟨h1,h2⟩,h3⟩,h4⟩,h5⟩,h6,h7⟩,_⟩:=k
 exact⟨h1,h2,h3,h4,h5,h6,h7⟩
theorem pDen_pos (i:Nat):0<pDen i:=Nat.mul_pos (Nat.pow_pos (by decide)) (Nat.two_pow_pos _)
def qs (a b:Nat):Nat:=(a/b)|||(if a %b=0 then 0 else 1)
theorem qs_ratio {a b a' b':Nat}(hb:0<b) (hb':0<b') (h4:a*b'=a'*b):qs a b=qs a' b':=by
 obtain⟨h1,h2⟩:=div_ratio hb hb' h4
 have h3:a %b=0↔a' %b'=0:=by
  constructor
  ·intro e
   rw[e,Nat.zero_mul]at h2
   rcases Nat.mul_eq_zero.1 h2.symm with h|h
   ·exact h
   ·omega
  ·intro e
   rw[e,Nat.zero_mul]at h2
   rcases Nat.mul_eq_zero.1 h2 with h|h
   ·exact h
   ·omega
 unfold qs
 rw[h1]
 simp only[h3]
theorem usc_row (i x s:Nat) (hi:i<656) (hx:9223372036854775808≤x) (hx2:x<18446744073709551616) (hs:8≤s):
 uscN x (powHi (i+3)) (powLo (i+3)) s=qs (x*pNum i) (pDen i*2^(128+s)):=by
 have r:=row_is i hi
 exact usc_ok x _ _ s (pNum i) (pDen i) hx hx2 r.hi63 r.hi64 r.lo64 hs (pDen_pos i) r.up r.le (row_far (row_ok i hi) hx hx2)
theorem and_high {m j:Nat}(h:m<2^j) (c:Nat):m&&&2^j*c=0:=by
 apply Nat.eq_of_testBit_eq
 intro i
 rw[Nat.testBit_and,Nat.zero_testBit]
 by_cases hj:i<j
 ·rw[Nat.testBit_two_pow_mul,decide_eq_false (by omega),Bool.false_and,Bool.and_false]
 ·rw[Nat.testBit_lt_two_pow (Nat.lt_of_lt_of_le h (Nat.pow_le_pow_right (by decide) (by omega))),Bool.false_and]
theorem clear52 (m:Nat) (h:m<4503599627370496):(4503599627370496+m)&&&18442240474082181119=m:=by
 have e:4503599627370496+m=2^52*1|||m:=(Nat.two_pow_add_eq_or_of_lt (i:=52) (by omega) 1)
 have e1:(2:Nat)^52*1&&&18442240474082181119=0:=by decide
 rw[e,Nat.and_or_distrib_right,e1,Nat.zero_or]
 have e2:(18442240474082181119:Nat)=2^53*2047|||(2^52-1):=by decide
 rw[e2,Nat.and_or_distrib_left,Nat.and_two_pow_sub_one_eq_mod,Nat.mod_eq_of_lt (by omega)]
 have e3:m&&&2^53*2047=0:=and_high (by omega) 2047
 rw[e3,Nat.zero_or]
theorem and52 (m:Nat) (h:m<9007199254740992):(m&&&4503599627370496=0)↔m<4503599627370496:=by
 have e:(4503599627370496:Nat)=2^52*1:=by decide
 by_cases hm:m<4503599627370496
 ·have:=and_high (m:=m) (j:=52) (by omega) 1
  rw[←e]at this
  simp[hm,this]
 ·obtain⟨k,rfl⟩:∃k,m=4503599627370496+k:=⟨m-4503599627370496,by omega⟩
  have e2:4503599627370496+k=2^52*1|||k:=Nat.two_pow_add_eq_or_of_lt (i:=52) (by omega) 1
  have e3:(4503599627370496+k)&&&4503599627370496=4503599627370496:=by
   rw[e2,Nat.and_or_distrib_right,e,and_high (m:=k) (j:=52) (by omega) 1,Nat.or_zero,Nat.and_self]
  rw[e3]
  simp
theorem packN_fst (m:Nat) (hm:m<9007199254740992) (x:Int):(packN m x).1=if m<4503599627370496 then m else if 972≤x then infB else(1075+x).toNat*4503599627370496+(m-4503599627370496):=by
 unfold packN
 by_cases h:m<4503599627370496
 ·rw[if_pos ((and52 m hm).2 h),if_pos h]
 ·rw[if_neg (fun e=>h ((and52 m hm).1 e)),if_neg h]
  by_cases hx:972≤x
  ·rw[if_pos hx,if_pos hx]
   have e:m&&&9223372036854775808=0:=by
    have e1:(9223372036854775808:Nat)=2^63*1:=by decide
    rw[e1]
    exact and_high (by omega) 1
   show(m&&&9223372036854775808)|||9218868437227405312=infB
   rw[e]
   decide
  ·rw[if_neg hx,if_neg hx]
   show(m&&&18442240474082181119)|||((1075+x).toNat*4503599627370496)=_
   obtain⟨k,rfl⟩:∃k,m=4503599627370496+k:=⟨m-4503599627370496,by omega⟩
   rw[clear52 k (by omega),Nat.or_comm]
   have e:=Nat.two_pow_add_eq_or_of_lt (i:=52) (b:=k) (by omega) (1075+x).toNat
   have e1:(2:Nat)^52=4503599627370496:=by decide
   rw[e1,Nat.mul_comm]at e
   rw[←e]
   omega
theorem shm {w w2 m:Nat}(hs:36028797018963966≤w) (hm:w2=w/2∨w2=w/2/2*2+1) (h:(w2+1+w2/4 %2)/4=m):4503599627370496≤m:=by
 have:18014398509481983≤w2:=by omega
 clear hm hs
 omega
theorem shm2 {w w2 m t:Nat}(ht:t<72048797944905728) (hw:w=t∨w=t/2*2+1) (hm:w2=w/2∨w2=w/2/2*2+1) (h:(w2+1+w2/4 %2)/4=m):m<9007199254740992:=by
 have h1:w<72048797944905729:=by omega
 have h2:w2≤36024398972452865:=by omega
 clear hm hw
 omega
theorem shm3 {w r:Nat}(h1:36028797018963966≤w) (h2:w<36028797018963968) (h:(w+1+w/4 %2)/4=r):r=9007199254740992:=by
 have:w=36028797018963966∨w=36028797018963967:=by omega
 clear h1 h2
 rcases this with rfl|rfl<;>omega
theorem shm4 {w w2 m:Nat}(h1:36028797018963966≤w) (h2:w<36028797018963968) (hm:w2=w/2∨w2=w/2/2*2+1) (h:(w2+1+w2/4 %2)/4=m):m=4503599627370496:=by
 have:w2=18014398509481983:=by omega
 clear h1 h2 hm
 subst this
 omega
theorem shm5 {w m:Nat}(hs:w<36028797018963966) (h:(w+1+w/4 %2)/4=m):m<9007199254740992:=by omega
theorem shm6 {w m:Nat}(hs:18014398509481984≤w) (h:(w+1+w/4 %2)/4=m):4503599627370496≤m:=by omega
theorem shm8 {m u:Nat}(h1:4503599627370496≤m) (h2:m<9007199254740992):(if(972:Int)≤ -(1074-(u:Int)-1)then infB else(1075+ -(1074-(u:Int)-1)).toNat*4503599627370496+(m-4503599627370496))=min ((u+1)*4503599627370496+m) infB:=by
 unfold infB
 split
 ·have h:2045≤u:=by omega
  rw[Nat.min_eq_right (by omega)]
 ·have h:u≤2044:=by omega
  have h3:(1075+ -(1074-(u:Int)-1)).toNat=u+2:=by omega
  rw[Nat.min_eq_left (by omega),h3]
  omega
theorem shm9 {m u:Nat}(h1:4503599627370496≤m) (h2:m<9007199254740992):(if(972:Int)≤ -(1074-(u:Int))then infB else(1075+ -(1074-(u:Int))).toNat*4503599627370496+(m-4503599627370496))=min (u*4503599627370496+m) infB:=by
 unfold infB
 split
 ·have h:2046≤u:=by omega
  rw[Nat.min_eq_right (by omega)]
 ·have h:u≤2045:=by omega
  have h3:(1075+ -(1074-(u:Int))).toNat=u+1:=by omega
  rw[Nat.min_eq_left (by omega),h3]
  omega
theorem shm7 {w t:Nat}(hw:w=t∨w=t/2*2+1):t≤w∧w≤t+1∧(t %2=1→w=t):=by omega
theorem pfR_ok (V U u:Nat) (hU:0<U) (hl:u=0∨4503599627370496*U≤V) (hh:V<18012199486226432*U):
 ∃b,(∃v T,(v=u∧T=U∨v=u+1∧T=2*U)∧(v=0∨4503599627370496*T≤V)∧V<9007199254740992*T∧b=v*4503599627370496+rne V T)∧(pfR (unr V U) (1074-(u:Int))).1=min b infB:=by
 have h3:U*(4*V/U)+4*V %U=4*V:=Nat.div_add_mod (4*V) U
 have h4:4*V %U<U:=Nat.mod_lt _ hU
 have hw:=unr_eq V U
 obtain⟨t,ht⟩:∃t,t=4*V/U:=⟨_,rfl⟩
 rw[←ht]at hw h3
 have hwt:unr V U=t∨unr V U=t/2*2+1:=by
  rw[hw];split
  ·exact .inl rfl
  ·exact .inr rfl
 have hm1:=unr_rnd V U hU
 have hm2:=unr_rnd V (2*U) (by omega)
 rw[unr_half]at hm2
 have hh2:t<72048797944905728:=by rw[ht,Nat.div_lt_iff_lt_mul hU];omega
 unfold pfR
 have mo:∀w:Nat,w/2|||(w&&&1)=w/2∨w/2|||(w&&&1)=w/2/2*2+1:=fun w=>by
  rw[Nat.and_one_is_mod]
  rcases Nat.mod_two_eq_zero_or_one w with e|e
  ·rw[e,Nat.or_zero];exact .inl rfl
  ·rw[e,or_one];exact .inr rfl
 have hmo:=mo (unr V U)
 obtain⟨w,hwd⟩:∃w,w=unr V U:=⟨_,rfl⟩
 obtain⟨w2,hw2⟩:∃w2,w2=w/2|||(w&&&1):=⟨_,rfl⟩
 rw[unr_and]
 rw[←hwd]at hm1 hm2 hwt hmo⊢
 rw[←hw2]at hm2 hmo⊢
 by_cases hs:36028797018963966≤w
 ·rw[if_pos hs,hm2]
  obtain⟨m,hm⟩:∃m,m=rne V (2*U):=⟨_,rfl⟩
  rw[←hm]at hm2⊢
  have m1:4503599627370496≤m:=shm hs hmo hm2
  have m2:m<9007199254740992:=shm2 hh2 hwt hmo hm2
  have pk:=packN_fst m m2 (-(1074-(u:Int)-1))
  rw[if_neg (by omega)]at pk
  have fin:(packN m (-(1074-(u:Int)-1))).1=min ((u+1)*4503599627370496+m) infB:=by
   rw[pk]
   exact shm8 m1 m2
  rw[fin]
  by_cases hV:V<9007199254740992*U
  ·have t2:t<36028797018963968:=by rw[ht,Nat.div_lt_iff_lt_mul hU];omega
   have w7:=shm7 hwt
   have w8:w<36028797018963968:=by clear hm1 hm2 hmo h3 h4;omega
   have r1:rne V U=9007199254740992:=shm3 hs w8 hm1
   have r2:m=4503599627370496:=shm4 hs w8 hmo hm2
   refine⟨_,⟨u,U,.inl ⟨rfl,rfl⟩,?_,hV,rfl⟩,?_⟩
   ·refine .inr ?_
    have t3:36028797018963965≤t:=by clear hm1 hm2 hmo h3 h4;omega
    have:=Nat.mul_le_mul_left U t3
    clear hm1 hm2 hmo w7 hwt
    omega
   ·rw[r1,r2,show(u+1)*4503599627370496+4503599627370496=u*4503599627370496+9007199254740992 by clear hm1 hm2 hmo h3 h4;omega]
  ·refine⟨_,⟨u+1,2*U,.inr ⟨rfl,rfl⟩,.inr (by omega),by omega,rfl⟩,?_⟩
   rw[←hm]
 ·rw[if_neg hs,hm1]
  obtain⟨m,hm⟩:∃m,m=rne V U:=⟨_,rfl⟩
  rw[←hm]at hm1⊢
  have m2:m<9007199254740992:=shm5 (by omega) hm1
  have w7:=shm7 hwt
  have t3:t+1≤36028797018963966:=by clear hm1 hm2 hmo h3 h4;omega
  have hV:V<9007199254740992*U:=by
   have:=Nat.mul_le_mul_left U t3
   rw[Nat.mul_add]at this
   clear hm1 hm2 hmo w7 hwt
   omega
  have pk:=packN_fst m m2 (-(1074-(u:Int)))
  refine⟨_,⟨u,U,.inl ⟨rfl,rfl⟩,hl,hV,rfl⟩,?_⟩
  rw[pk,←hm]
  by_cases hml:m<4503599627370496
  ·rw[if_pos hml]
   rcases hl with h|h
   ·subst h
    rw[Nat.zero_mul,Nat.zero_add]
    exact(Nat.min_eq_left (show m≤infB by unfold infB;clear hm1 hm2 hmo h3 h4 w7 hwt t3 ht hw;omega)).symm
   ·exfalso
    have t4:18014398509481984≤t:=by rw[ht,Nat.le_div_iff_mul_le hU];omega
    exact absurd (shm6 (show 18014398509481984≤w by omega) hm1) (by omega)
  ·rw[if_neg hml]
   exact shm9 (by omega) m2
theorem pfN_ok (d:Nat) (p:Int) (h0:d≠0) (hd:d<18446744073709551616) (hp: -345≤p) (hp2:p≤310):Fl (d*10^p.toNat) (10^(-p).toNat) (pfN d p).1:=by
 obtain⟨b,hb⟩:∃b,b=Lib.bitLen d:=⟨_,rfl⟩
 obtain⟨lp,hlp⟩:∃lp,lp=p*108853/32768:=⟨_,rfl⟩
 obtain⟨e,he⟩:∃e,e=pfE b lp:=⟨_,rfl⟩
 obtain⟨ss,hss⟩:∃ss,ss=pfS b lp:=⟨_,rfl⟩
 obtain⟨i,hi⟩:∃i:Nat,i=(p+345).toNat:=⟨_,rfl⟩
 have B:=bitLen_bounds h0 hd
 have B2:=Lib.bitLenAux_bounds 64 d hd h0
 obtain⟨b1,b64,bx⟩:=B
 have b2:2^(b-1)≤d:=by rw[hb];exact B2.2.1
 have b3:d<2^b:=by rw[hb];exact B2.2.2
 rw[←hb]at b1 b64 bx
 clear B2
 have hr:pfN d p=if 64≤ss then(0,false)else pfR (uscN (d*2^(64-b)) (powHi (i+3)) (powLo (i+3)) ss.toNat) e:=by
  unfold pfN pfU
  rw[←hb,←hlp,←hss,←he,show(p+348).toNat=i+3 by omega]
 rw[hr]
 have i656:i<656:=by omega
 have l1: -1147≤lp:=by omega
 have l2:lp≤1030:=by omega
 have q6:e=min (1074:Int) (53-(b:Int)-lp):=by rw[he];rfl
 have q1:ss= -(e-(64-(b:Int))+lp+3):=by rw[hss,he];rfl
 have ri:=row_is i i656
 have hw:pLog i=lp:=by unfold pLog;rw[hlp];congr 2;omega
 have nA:p.toNat=i-345:=by omega
 have nB:(-p).toNat=345-i:=by omega
 obtain⟨A,hA⟩:∃A,A=10^(i-345):=⟨_,rfl⟩
 obtain⟨D,hD⟩:∃D,D=10^(345-i):=⟨_,rfl⟩
 have D0:0<D:=by rw[hD];exact Nat.pow_pos (by decide)
 obtain⟨k,hk⟩:∃k:Nat,k=(2127-lp).toNat:=⟨_,rfl⟩
 have eN:pNum i=A*2^k:=by unfold pNum;rw[hw,←hA,←hk]
 have eD:pDen i=D*2^PZ:=by unfold pDen;rw[←hD]
 rw[nA,nB,←hA,←hD]
 have lo:=ri.low
 have hiB:=ri.high
 rw[eN,eD]at lo hiB
 have p127:(170141183460469231731687303715884105728:Nat)=2^127:=by decide
 have p128:(340240828546070184842346363461134450688:Nat)=8191*2^115:=by decide
 rw[p127]at lo
 rw[p128]at hiB
 clear hA hD hlp hss he hb hr nA nB hw p127 p128 ri
 have hKZ:KZ=2^KE:=rfl
 have hKE:=KE_eq
 have hPZ:=PZ_eq
 unfold Fl Rnd
 generalize KZ=K at*
 generalize KE=ke at*
 generalize PZ=pz at*
 by_cases h64:64≤ss
 ·rw[if_pos h64]
  have e1074:e=1074:=by omega
  refine⟨0,⟨0,.inl rfl,?_,?_⟩,rfl⟩
  all_goals
   have key:2*(d*A*K)<D:=by
    refine Nat.lt_of_mul_lt_mul_right (a:=2^(128+pz)) ?_
    have s1:A*2^(2+ke+128+pz+b)≤A*2^k:=Nat.mul_le_mul_left A (Nat.pow_le_pow_right (by decide) (by omega))
    have s2:8191*2^115*(D*2^pz)≤D*2^(128+pz):=by
     have:D*2^(128+pz)=8192*2^115*(D*2^pz):=by
      rw[show(8192:Nat)*2^115=2^128 by decide,Nat.pow_add]
      generalize(2:Nat)^128=Z
      ac_rfl
     rw[this]
     exact Nat.mul_le_mul_right _ (by decide)
    have s3:2*(d*A*K)*2^(128+pz)≤A*2^(2+ke+128+pz+b):=by
     have e1:2*(d*A*K)*2^(128+pz)=d*(A*2^(1+ke+(128+pz))):=by
      rw[hKZ,Nat.pow_add 2 (1+ke),Nat.pow_add 2 1,Nat.pow_one]
      generalize(2:Nat)^(128+pz)=Z
      ac_rfl
     have e2:A*2^(2+ke+128+pz+b)=2^b*(A*2^(2+ke+128+pz)):=by
      rw[Nat.pow_add 2 (2+ke+128+pz) b]
      generalize(2:Nat)^(2+ke+128+pz)=Z
      ac_rfl
     rw[e1,e2]
     exact Nat.mul_le_mul (Nat.le_of_lt b3) (Nat.mul_le_mul_left A (Nat.pow_le_pow_right (by decide) (by omega)))
    exact Nat.lt_of_le_of_lt (Nat.le_trans s3 s1) (Nat.lt_of_lt_of_le hiB s2)
  ·rw[Nat.pow_zero,Nat.mul_one]
   omega
  ·rw[Nat.pow_zero,Nat.mul_one,Nat.zero_mul,Nat.zero_add]
   unfold rne
   rw[Nat.mod_eq_of_lt (by omega),Nat.div_eq_of_lt (by omega),if_neg (by omega)]
 ·rw[if_neg h64]
  obtain⟨s,hs⟩:∃s:Nat,s=ss.toNat:=⟨_,rfl⟩
  obtain⟨u,hu⟩:∃u:Nat,u=(1074-e).toNat:=⟨_,rfl⟩
  have eu:e=1074-(u:Int):=by omega
  have s8:8≤s:=by omega
  have xb:9223372036854775808≤d*2^(64-b):=by
   have:2^(b-1)*2^(64-b)≤d*2^(64-b):=Nat.mul_le_mul_right _ b2
   rw[←Nat.pow_add,show b-1+(64-b)=63 by omega]at this
   exact this
  rw[←hs,usc_row i _ s i656 xb bx s8]
  have U0:0<D*2^u:=Nat.mul_pos D0 (Nat.two_pow_pos _)
  have eq:qs (d*2^(64-b)*pNum i) (pDen i*2^(128+s))=unr (d*A*K) (D*2^u):=by
   refine qs_ratio (Nat.mul_pos (pDen_pos i) (Nat.two_pow_pos _)) U0 ?_
   rw[eN,eD,hKZ]
   have x1:d*2^(64-b)*(A*2^k)*(D*2^u)=d*A*D*2^(64-b+k+u):=by
    rw[Nat.pow_add,Nat.pow_add]
    generalize(2:Nat)^(64-b)=Z
    ac_rfl
   have x2:4*(d*A*2^ke)*(D*2^pz*2^(128+s))=d*A*D*2^(2+ke+pz+(128+s)):=by
    rw[Nat.pow_add 2 _ (128+s),Nat.pow_add 2 (2+ke),Nat.pow_add 2 2]
    generalize(2:Nat)^(128+s)=Z
    have:(4:Nat)=2^2:=by decide
    rw[this]
    generalize(2:Nat)^2=Z2
    ac_rfl
   rw[x1,x2,show 64-b+k+u=2+ke+pz+(128+s) by omega]
  rw[eq,eu]
  have vk:∀n,d*A*K*2^k=n→d*2^ke*(A*2^k)=n:=fun n h=>by rw[←h,hKZ];ac_rfl
  have hl:u=0∨4503599627370496*(D*2^u)≤d*A*K:=by
   by_cases h:u=0
   ·exact .inl h
   ·refine .inr (Nat.le_of_mul_le_mul_right ?_ (Nat.two_pow_pos k))
    rw[←vk _ rfl]
    have a1:2^(b-1)*2^ke*(2^127*(D*2^pz))≤d*2^ke*(A*2^k):=Nat.mul_le_mul (Nat.mul_le_mul_right _ b2) lo
    refine Nat.le_trans (Nat.le_of_eq ?_) a1
    have:(4503599627370496:Nat)=2^52:=by decide
    rw[this]
    have y1:2^52*(D*2^u)*2^k=D*2^(52+u+k):=by
     rw[Nat.pow_add,Nat.pow_add]
     generalize(2:Nat)^52=Z
     ac_rfl
    have y2:2^(b-1)*2^ke*(2^127*(D*2^pz))=D*2^(b-1+ke+127+pz):=by
     rw[Nat.pow_add,Nat.pow_add,Nat.pow_add]
     generalize(2:Nat)^127=Z
     ac_rfl
    rw[y1,y2,show 52+u+k=b-1+ke+127+pz by omega]
  have hh:d*A*K<18012199486226432*(D*2^u):=by
   refine Nat.lt_of_mul_lt_mul_right (a:=2^k) ?_
   rw[←vk _ rfl]
   have a1:d*2^ke*(A*2^k)<d*2^ke*(8191*2^115*(D*2^pz)):=Nat.mul_lt_mul_of_pos_left hiB (Nat.mul_pos (by omega) (Nat.two_pow_pos _))
   have a2:d*2^ke*(8191*2^115*(D*2^pz))≤2^b*2^ke*(8191*2^115*(D*2^pz)):=Nat.mul_le_mul_right _ (Nat.mul_le_mul_right _ (Nat.le_of_lt b3))
   refine Nat.lt_of_lt_of_le a1 (Nat.le_trans a2 ?_)
   have c1:(18012199486226432:Nat)=8191*2^41:=by decide
   rw[c1]
   have c2:8191*2^41*(D*2^u)*2^k=8191*D*2^(41+u+k):=by
    rw[Nat.pow_add,Nat.pow_add]
    generalize(2:Nat)^41=Z
    ac_rfl
   have c3:2^b*2^ke*(8191*2^115*(D*2^pz))=8191*D*2^(b+ke+115+pz):=by
    rw[Nat.pow_add,Nat.pow_add,Nat.pow_add]
    generalize(2:Nat)^115=Z
    ac_rfl
   rw[c2,c3]
   exact Nat.mul_le_mul_left _ (Nat.pow_le_pow_right (by decide) (by omega))
  obtain⟨r,⟨v,T,hT,g1,g2,g3⟩,g4⟩:=pfR_ok (d*A*K) (D*2^u) u U0 hl hh
  refine⟨r,⟨v,?_,?_,?_⟩,g4⟩
  all_goals
   have eT:T=D*2^v:=by
    rcases hT with⟨rfl,rfl⟩|⟨rfl,rfl⟩
    ·rfl
    ·rw[Nat.pow_succ];ac_rfl
   rw[←eT]
   assumption
end Go.Pf
end
