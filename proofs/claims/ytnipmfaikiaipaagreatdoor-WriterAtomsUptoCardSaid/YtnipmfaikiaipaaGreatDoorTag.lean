import Derived.Test.YtnipmfaikiaipaaGreatDoorTaf
import Derived.Laws.FloatArith
set_option maxRecDepth 1000000
set_option maxHeartbeats 40000000
section
namespace Go.Pf
theorem PM.ex (N D:Nat) (hD:0<D):∃b,PM N D b:=by
 unfold PM;generalize KZ=K;have hk:∀n,N*K<9007199254740992*(D*2^n)->∃u,N*K<9007199254740992*(D*2^u)/\(u=0\/4503599627370496*(D*2^u)<=N*K):=by
  intro n
  induction n with
  |zero=>exact fun h=>⟨0,h,.inl rfl⟩
  |succ n ih=>
   intro h;by_cases h2:N*K<9007199254740992*(D*2^n)
   ·exact ih h2
   ·refine⟨n+1,h,.inr ?_⟩;rw[gj,So (2^n) 2,Nat.mul_left_comm D 2];omega
 have h0:N*K<9007199254740992*(D*2^(N*K)):=by
  have h1:N*K<2^(N*K):=Nat.lt_two_pow_self;have h2:1*2^(N*K)<=D*2^(N*K):=FF _ hD;omega
 obtain⟨u,a,b⟩:=hk _ h0;exact⟨_,u,b,a,rfl⟩
def TA:Nat:=1024
theorem RM (a b q:Nat) (hb:0<b) (h:q*b<=a):q<=JS a b:=by
 have:q<=a/b:=(gP hb).2 h;unfold JS;split<;>omega
theorem Fl.inf {N D:Nat}(hD:0<D) (h:2^TA*D<=N):Fl N D BR:=by
 obtain⟨b,hr⟩:=PM.ex N D hD;refine⟨b,hr,(Nat.min_eq_right ?_).symm⟩;obtain⟨u,h1,h2,h3⟩:=hr;have hKZ:KZ=2^KE:=rfl;have hKE:=LG;have hTA:TA=1024:=rfl;generalize KZ=K at*;generalize KE=ke at*;generalize TA=ta at*;have p53:(9007199254740992:Nat)=2^53:=by decide
 have k1:2^(ta+ke)*D<2^(53+u)*D:=by
  have a1:2^ta*D*2^ke<=N*K:=by rw[hKZ];exact FF _ h
  have a2:2^(ta+ke)*D=2^ta*D*2^ke:=by rw[E3];ac_rfl
  have a3:2^(53+u)*D=9007199254740992*(D*2^u):=by rw[p53,E3];generalize(2:Nat)^53=Z;ac_rfl
  rw[a2,a3];exact IS a1 h2
 have k2:=(Nat.pow_lt_pow_iff_right (a:=2) (by decide)).1 (cS k1);have u1:2046<=u:=by omega
 have h4:4503599627370496*(D*2^u)<=N*K:=by
  rcases h1 with h|h
  ·omega
  ·exact h
 have h5:=RM _ _ 4503599627370496 (Nat.mul_pos hD (An u)) h4;rw[h3];unfold BR;omega
theorem Fl.Vr {N D:Nat}(h:2*(N*KZ)<D):Fl N D 0:=by
 refine⟨0,⟨0,.inl rfl,?_,?_⟩,rfl⟩
 ·rw[gf,gY];omega
 ·rw[gf,gY,Nat.zero_mul,gX];unfold JS;rw[e8 (by omega),bh (by omega),if_neg (by omega)]
end Go.Pf
end
section
namespace Go.Pf
theorem Vs {a b q:Nat}(hb:0<b) (h:a<q*b):JS a b<=q:=by
 have:a/b<q:=(ad hb).2 h;unfold JS;split<;>omega
def TB:Nat:=310
theorem ck:2^TA<=10^TB:=Nat.le_of_ble_eq_true (by kernel_rfl)
end Go.Pf
end
section
namespace Go.Pf
def Dw (t:Cm) (c:Nat):Cm:=
 if c=46 then {t with dp:=t.nd}
 else if c=48/\t.nd=0 then {t with dp:=t.dp-1}
 else if t.nd<800 then {t with A:=MX t.A t.nd c,nd:=t.nd+1}
 else {t with tr:=t.tr||(c !=48)}
def Bp (s:ByteArray):Nat->Cm
 |0=>⟨fun _=>0,0,0,false⟩
 |k+1=>Dw (Bp s k) (byte s k)
structure LZ (t:Cm) (k:Nat):Prop where
 n8:t.nd<=800
 nk:t.nd<=k
 Bq:∀i,i<t.nd->48<=t.A i/\t.A i<=57
 lead:0<t.nd->49<=t.A 0
 lo: -(k:Int)<=t.dp
 hi:t.dp<=800
 b8:∀i,t.A i<256
theorem LZ.zero:LZ ⟨fun _=>0,0,0,false⟩ 0:=⟨by decide,by decide,fun i h=>absurd h (by simp),fun h=>absurd h (by simp),by decide,by decide,fun _=>by simp⟩
theorem LZ.step {t:Cm} {k:Nat}(h:LZ t k){c:Nat}(hc:c=46\/(48<=c/\c<=57)):LZ (Dw t c) (k+1):=by
 have a1:=h.n8;have a2:=h.nk;have a5:=h.lo;have a6:=h.hi;unfold Dw;split
 ·exact⟨a1,by simp only;omega,h.Bq,h.lead,by simp only;omega,by simp only;omega,h.b8⟩
 split
 ·exact⟨a1,by simp only;omega,h.Bq,h.lead,by simp only;omega,by simp only;omega,h.b8⟩
 split
 ·rename_i h1 h2 h3;refine⟨by simp only;omega,by simp only;omega,?_,?_,by simp only;omega,by simp only;omega,?_⟩
  ·intro i hi;simp only at hi⊢;by_cases e:i=t.nd
   ·subst e;rw[Ci];omega
   ·rw[BZ e];exact h.Bq i (by omega)
  ·intro _;simp only;by_cases e:t.nd=0
   ·rw[e,Ci];omega
   ·rw[BZ (by omega)];exact h.lead (by omega)
  ·intro i;simp only;by_cases e:i=t.nd
   ·subst e;rw[Ci];omega
   ·rw[BZ e];exact h.b8 i
 ·exact⟨a1,by simp only;omega,h.Bq,h.lead,by simp only;omega,by simp only;omega,h.b8⟩
theorem Fc.Vv {s:ByteArray} {p q f:Nat} {sg:Int}(h:Fc s p q f sg):∀k,k<=q->LZ (Bp s k) k
 |0,_=>LZ.zero
 |k+1,hk=>by
  refine(h.Vv k (by omega)).step ?_;by_cases hp:k=p
  ·subst hp;exact .inl h.dot
  ·exact .inr (h.Bq k (by omega) hp)
end Go.Pf
end
section
namespace Go.Pf
def Ua (s:ByteArray):Nat->Nat
 |0=>0
 |k+1=>if byte s k=46 then Ua s k else Ua s k*10+(byte s k-48)
structure gN (s:ByteArray) (p:Nat) (r:RF) (k:Nat):Prop where
 Ln:r.OL=min r.nd 19
 val:∃rest,Ua s k=r.Hx*10^(r.nd-r.OL)+rest/\rest<10^(r.nd-r.OL)/\(r.Ir=false->rest=0)
 low:r.nd=0->Ua s k=0
 pos:0<r.nd->0<r.Hx
 dp:p<k->r.dp=r.nd-((k:Int)-p-1)
 dp0:k<=p->r.dp<=0
theorem Fc.gH {s:ByteArray} {p q f:Nat} {sg:Int}(h:Fc s p q f sg):∀k,k<=q->gN s p (rf s k) k
 |0,_=>⟨by simp[rf],⟨0,by simp[rf,Ua]⟩,fun _=>rfl,fun h=>absurd h (by simp[rf]),fun h=>by omega,fun _=>by simp[rf]⟩
 |k+1,hk=>by
  have ih:=h.gH k (by omega);have Db:=h.Bq k (by omega);have hdot:=h.dot;obtain⟨i1,⟨rest,v1,v2,v3⟩,i3,i4,i5,i6⟩:=ih;rw[rf];obtain⟨r,hr⟩:∃r,r=rf s k:=⟨_,rfl⟩;rw[<-hr]at i1 v1 v2 v3 i3 i4 i5 i6⊢;clear hr;by_cases hp:k=p
  ·subst hp;unfold D3;rw[if_pos hdot];have e:Ua s (k+1)=Ua s k:=by rw[Ua,if_pos hdot]
   exact⟨i1,⟨rest,by rw[e];exact v1,v2,v3⟩,fun h=>by rw[e];exact i3 h,i4,fun _=>by simp only;omega,fun h=>by omega⟩
  ·have hd:=Db hp;have hne:byte s k≠46:=by omega
   have e:Ua s (k+1)=Ua s k*10+(byte s k-48):=by rw[Ua,if_neg hne]
   unfold D3;rw[if_neg hne];by_cases hz:byte s k=48/\r.nd=0
   ·rw[if_pos hz];have e0:Ua s (k+1)=0:=by rw[e,i3 hz.2,hz.1]
    have hm:r.nd-r.OL=0:=by omega
    refine⟨i1,⟨rest,?_,v2,v3⟩,fun _=>e0,i4,fun hk=> ?_,fun hk=> ?_⟩
    ·have:=i3 hz.2;rw[e0];rw[this]at v1;exact v1
    ·simp only;have:=i5 (by omega);omega
    ·simp only;have:=i6 (by omega);omega
   ·rw[if_neg hz];by_cases hn:r.OL<19
    ·rw[if_pos hn];have hm:r.nd-r.OL=0:=by omega
     rw[hm]at v1 v2;have r0:rest=0:=by simpa using v2
     subst r0;refine⟨by simp only;omega,⟨0,?_,?_,fun _=>rfl⟩,fun h=>by simp at h,fun _=> ?_,fun hk=> ?_,fun hk=> ?_⟩
     ·simp only;rw[show r.nd+1-(r.OL+1)=0 by omega,e,v1];simp
     ·exact Nat.pow_pos (by decide)
     ·simp only;rcases dT r.nd with h0|h0
      ·have:byte s k≠48:=fun h=>hz ⟨h,h0⟩;omega
      ·have:=i4 h0;omega
     ·simp only;have:=i5 (by omega);omega
     ·simp only;exact i6 (by omega)
    ·rw[if_neg hn];have hx:r.nd+1-r.OL=r.nd-r.OL+1:=by omega
     refine⟨by simp only;omega,⟨rest*10+(byte s k-48),?_,?_,?_⟩,fun h=>by simp at h,fun _=>i4 (by omega),fun hk=> ?_,fun hk=> ?_⟩
     ·simp only;rw[e,v1,hx,gj,<-G0];omega
     ·simp only;rw[hx,gj];omega
     ·simp only;intro ht;have t1:r.Ir=false:=by cases h:r.Ir<;>rw[h]at ht<;>simp at ht⊢
      have t2:byte s k=48:=by rw[t1]at ht;simpa using ht
      rw[v3 t1,t2]
     ·simp only;have:=i5 (by omega);omega
     ·simp only;exact i6 (by omega)
theorem Fc.fX {s:ByteArray} {p q f:Nat} {sg:Int}(h:Fc s p q f sg):∀k,k<=q->((Bp s k).nd=min (rf s k).nd 800/\((Bp s k).dp=(rf s k).dp\/(Bp s k).dp=800/\800<=(rf s k).nd))
 |0,_=>⟨by simp[Bp,rf],.inl rfl⟩
 |k+1,hk=>by
  obtain⟨i1,i2⟩:=h.fX k (by omega);have Db:=h.Bq k (by omega);rw[Bp,rf];obtain⟨t,ht⟩:∃t,t=Bp s k:=⟨_,rfl⟩;obtain⟨r,hr⟩:∃r,r=rf s k:=⟨_,rfl⟩;rw[<-ht,<-hr]at i1 i2⊢;clear ht hr;unfold Dw D3;by_cases h46:byte s k=46
  ·rw[if_pos h46,if_pos h46];refine⟨i1,?_⟩;simp only;omega
  ·rw[if_neg h46,if_neg h46];by_cases hz:byte s k=48/\r.nd=0
   ·rw[if_pos hz,if_pos ⟨hz.1,by omega⟩];refine⟨i1,?_⟩;simp only;omega
   ·rw[if_neg hz,if_neg (fun hh=>hz ⟨hh.1,by omega⟩)];by_cases h8:t.nd<800
    ·rw[if_pos h8];split<;>exact⟨by simp only;omega,by simp only;omega⟩
    ·rw[if_neg h8];split<;>exact⟨by simp only;omega,by simp only;omega⟩
end Go.Pf
end
section
namespace Go.Pf
open Ieee
def mg (b:Nat):Nat:=if b<4503599627370496 then b else 4503599627370496+b %4503599627370496
def pe (b:Nat):Nat:=b/4503599627370496-1
def bv (b:Nat):Nat:=mg b*2^pe b
theorem Ld:double.binade=4503599627370496:=by decide
theorem Mi:double.infRung=9218868437227405312:=by decide
theorem aM:double.signWeight=9223372036854775808:=by decide
theorem MQ:double.leastPlace= -1074:=by decide
theorem Ue:double.fractionBits=52:=rfl
theorem Cj (b:Nat) (h:b<BR):double.read b= .number false (mg b) (-1074+(pe b:Nat)):=by
 unfold BR at h;unfold Format.read;have e1:b %9223372036854775808=b:=e8 (by omega);have e2:b/9223372036854775808=0:=bh (by omega);simp only[Ld,Mi,aM,MQ,e1,e2];unfold mg pe;by_cases hs:b<4503599627370496
 ·rw[if_pos hs,if_pos hs,bh hs];rfl
 ·rw[if_neg hs,if_neg hs,if_pos h];rfl
theorem O3:double.read BR= .infinity false:=by decide
theorem R8 {a b:Nat}(h:a<b):bv a<bv b:=by
 unfold bv mg pe;obtain⟨qa,ra,ha,hra⟩:∃q r,a=q*4503599627370496+r/\r<4503599627370496:=⟨a/4503599627370496,a %4503599627370496,by omega,by omega⟩;obtain⟨qb,rb,hb,hrb⟩:∃q r,b=q*4503599627370496+r/\r<4503599627370496:=⟨b/4503599627370496,b %4503599627370496,by omega,by omega⟩;have e1:a/4503599627370496=qa:=by omega
 have e2:a %4503599627370496=ra:=by omega
 have e3:b/4503599627370496=qb:=by omega
 have e4:b %4503599627370496=rb:=by omega
 rw[e1,e2,e3,e4];by_cases h1:b<4503599627370496
 ·rw[if_pos h1,if_pos (by omega)];have z1:qa=0:=by omega
  have z2:qb=0:=by omega
  rw[z1,z2,Nat.zero_sub,gf,gY,gY];exact h
 ·rw[if_neg h1];by_cases h2:a<4503599627370496
  ·rw[if_pos h2];have z1:qa=0:=by omega
   rw[z1];have:1<=2^(qb-1):=An _;have:=dg (4503599627370496+rb) this;rw[Nat.zero_sub,gf];omega
  ·rw[if_neg h2];by_cases h3:qa=qb
   ·subst h3;exact c8 (by omega) (An _)
   ·have h4:(2:Nat)^(qa-1)*2<=2^(qb-1):=by rw[<-gj];exact AT (by decide) (by omega)
    have h5:=dg (4503599627370496+rb) h4;have h6:(4503599627370496+ra)*2^(qa-1)<(4503599627370496+rb)*(2^(qa-1)*2):=by
     rw[So (2^(qa-1)) 2,<-G0];exact c8 (by omega) (An _)
    omega
theorem Sy {a b:Nat}(ha:a<BR) (hb:b<BR):double.order a b=some (compare a b):=by
 unfold Format.order;rw[Cj a ha,Cj b hb];show some (compare _ _)=_;congr 1;obtain⟨k,hk⟩:∃k:Nat,min (-1074+((pe a:Nat):Int)) (-1074+((pe b:Nat):Int))= -1074+(k:Int)/\k<=pe a/\k<=pe b:=⟨min (pe a) (pe b),by omega,by omega,by omega⟩;obtain⟨hk,k1,k2⟩:=hk;rw[hk];have e1:(-1074+((pe a:Nat):Int)-(-1074+(k:Int))).toNat=pe a-k:=by omega
 have e2:(-1074+((pe b:Nat):Int)-(-1074+(k:Int))).toNat=pe b-k:=by omega
 rw[e1,e2];unfold signed;simp only[Bool.false_eq_true,if_false,Nat.shiftLeft_eq];have f1:mg a*2^(pe a-k)*2^k=bv a:=by unfold bv;rw[G0,<-E3];congr 2;omega
 have f2:mg b*2^(pe b-k)*2^k=bv b:=by unfold bv;rw[G0,<-E3];congr 2;omega
 have p:=An k;rcases Nat.lt_trichotomy a b with h|h|h
 ·have h1:=R8 h;rw[<-f1,<-f2]at h1;have h2:=cS h1;rw[Nat.compare_eq_lt.2 h,Int.compare_eq_lt.2 (by omega)]
 ·subst h;rw[Nat.compare_eq_eq.2 rfl,Int.compare_eq_eq.2 rfl]
 ·have h1:=R8 h;rw[<-f1,<-f2]at h1;have h2:=cS h1;rw[Nat.compare_eq_gt.2 h,Int.compare_eq_gt.2 (by omega)]
theorem Uu (neg:Bool) (n k:Nat) (h:k<=n.log2+2):Toward.even.cut neg n k=JS n (2^k):=by
 unfold Toward.cut;simp only[Nat.min_eq_left h,Nat.one_shiftLeft];unfold JS;by_cases h1:2^k<2*(n %2^k)\/(2*(n %2^k)=2^k/\n/2^k %2=1)
 ·rw[if_pos h1];have:(decide (2^k<2*(n %2^k))||(2^k==2*(n %2^k)&&n/2^k %2==1))=true:=by
   rcases h1 with h|⟨h,h'⟩
   ·simp[h]
   ·simp[h,h']
  rw[this];rfl
 ·rw[if_neg h1];have:(decide (2^k<2*(n %2^k))||(2^k==2*(n %2^k)&&n/2^k %2==1))=false:=by
   rw[Lq];intro hh;simp only[Bool.or_eq_true,decide_eq_true_eq,Bool.and_eq_true,beq_iff_eq]at hh;omega
  rw[this];rfl
theorem Hw (x:Nat):double.word false x=x:=by unfold Format.word;simp
theorem RZ {mag:Nat} {place:Int}(h0:mag≠0) (hn: -1074<=place+mag.log2-52):Fl (mag*2^place.toNat) (2^(-place).toNat) (double.nearest false mag place):=by
 have l1:2^mag.log2<=mag:=Nat.log2_self_le h0;have l2:mag<2^(mag.log2+1):=Nat.lt_log2_self;obtain⟨L,hL⟩:∃L,L=mag.log2:=⟨_,rfl⟩;rw[<-hL]at l1 l2 hn;obtain⟨u,hu⟩:∃u:Nat,place+L-52= -1074+(u:Int):=⟨(place+L-52+1074).toNat,by omega⟩;unfold Format.nearest;rw[if_neg h0];simp only[Ue,MQ,Mi,Ld,<-hL];rw[show max (place+(L:Int)-((52:Nat):Int)) (-1074)= -1074+(u:Int) by omega,show(-1074+(u:Int)- -1074).toNat=u by omega];rw[Hw];obtain⟨a,ha⟩:∃a,a=(place-(-1074+(u:Int))).toNat:=⟨_,rfl⟩;obtain⟨c,hc⟩:∃c,c=(-1074+(u:Int)-place).toNat:=⟨_,rfl⟩;rw[<-ha,<-hc,Nat.shiftLeft_eq];have hac:(a=0/\(c:Int)=L-52)\/(c=0/\(a:Int)=52-L):=by omega
 have hcut:Toward.even.cut false (mag*2^a) c=JS (mag*2^a) (2^c):=by
  refine Uu _ _ _ ?_;rcases hac with⟨h,h'⟩|⟨h,h'⟩
  ·rw[h,gf,gY,<-hL];omega
  ·omega
 rw[hcut];have hKZ:KZ=2^KE:=rfl;have hKE:=LG;have eq1:mag*2^place.toNat*KZ*2^c=mag*2^a*(2^(-place).toNat*2^u):=by
  rw[hKZ];generalize KE=ke at*;have x:place.toNat+ke+c=a+((-place).toNat+u):=by omega
  calc mag*2^place.toNat*2^ke*2^c=mag*2^(place.toNat+ke+c):=by rw[E3,E3];ac_rfl
   _=mag*2^a*(2^(-place).toNat*2^u):=by rw[x,E3,E3];ac_rfl
 clear hKZ;have pc:=An c;have q1:4503599627370496*2^c<=mag*2^a:=by
  have p52:(4503599627370496:Nat)=2^52:=by decide
  rw[p52,<-E3];refine To ?_ (FF _ l1);rw[<-E3];exact AT (by decide) (by omega)
 have q2:mag*2^a<9007199254740992*2^c:=by
  have p53:(9007199254740992:Nat)=2^53:=by decide
  rw[p53,<-E3];refine IN (c8 l2 (An a)) ?_;rw[<-E3];exact AT (by decide) (by omega)
 refine⟨_,⟨u,.inr ?_,?_,rfl⟩,?_⟩
 ·refine Nat.le_of_mul_le_mul_right ?_ pc;rw[eq1,Nat.mul_right_comm];exact FF _ q1
 ·refine cS (a:=2^c) ?_;rw[eq1,Nat.mul_right_comm 9007199254740992];exact c8 q2 (Nat.mul_pos (An _) (An _))
 ·rw[Gf pc (Nat.mul_pos (An _) (An _)) eq1.symm];unfold BR
  with_reducible rfl
theorem TG {a b q:Nat}(hb:0<b) (h:a=q*b):JS a b=q:=by
 subst h;unfold JS;rw[Nat.mul_mod_left,Nat.mul_div_cancel _ hb,if_neg (by omega)]
theorem Vq {N r:Nat}(h0:0<N) (h:N<9007199254740992) (hr:Fl N 1 r):r<BR/\bv r=N*KZ/\4503599627370496<=mg r:=by
 obtain⟨b,⟨u,h1,h2,h3⟩,h4⟩:=hr;rw[Nat.one_mul]at h1 h2 h3;have hKZ:KZ=2^KE:=rfl;have hKE:=LG;generalize KZ=K at*;generalize KE=ke at*;have p53:(9007199254740992:Nat)=2^53:=by decide
 have p52:(4503599627370496:Nat)=2^52:=by decide
 have k1:1*2^ke<2^(53+u):=by
  rw[E3,<-p53];exact IS (by rw[hKZ];exact FF _ h0) h2
 rw[Nat.one_mul]at k1;have k2:=(Nat.pow_lt_pow_iff_right (a:=2) (by decide)).1 k1;have h1':4503599627370496*2^u<=N*K:=by
  rcases h1 with h|h
  ·omega
  ·exact h
 have k3:2^(52+u)<2^(53+ke):=by
  rw[E3,E3,<-p53,<-p52,<-hKZ];exact IS h1' (c8 h (by rw[hKZ];exact An _))
 have k4:=(Nat.pow_lt_pow_iff_right (a:=2) (by decide)).1 k3;obtain⟨j,hj⟩:∃j,ke=u+j:=⟨ke-u,by omega⟩;have e1:N*K=N*2^j*2^u:=by rw[hKZ,hj,E3];ac_rfl
 have e2:=TG (An u) e1;rw[e1]at h2 h1';have m1:=Nat.le_of_mul_le_mul_right h1' (An u);have m2:=cS h2;rw[e2]at h3;generalize N*2^j=M at*;have hb:b<BR:=by unfold BR;omega
 have hrb:r=b:=by rw[h4];exact Nat.min_eq_left (Nat.le_of_lt hb)
 have d1:b/4503599627370496=u+1:=by omega
 have d2:b %4503599627370496=M-4503599627370496:=by omega
 have d3:¬b<4503599627370496:=by omega
 subst hrb;refine⟨hb,?_,?_⟩
 ·unfold bv mg pe;rw[if_neg d3,d1,d2,e1,show 4503599627370496+(M-4503599627370496)=M by omega,show u+1-1=u by omega]
 ·unfold mg;rw[if_neg d3];omega
end Go.Pf
end
