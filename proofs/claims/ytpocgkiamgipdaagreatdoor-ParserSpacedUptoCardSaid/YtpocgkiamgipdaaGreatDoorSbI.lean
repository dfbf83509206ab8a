import Derived.Test.YtpocgkiamgipdaaGreatDoorTbm
import Derived.Recover
import Derived.Test.YtpocgkiamgipdaaGreatDoorRdZ
import Derived.Defers
set_option maxRecDepth 1000000
set_option maxHeartbeats 0
set_option linter.unusedVariables false
set_option linter.unusedSimpArgs false
open Go.Proofs.Tryz
namespace Go.Lx
open Go.Hb Go.Rb Go.Bg Go.Pf Go.Proofs
structure R6 (s:ByteArray) (a k:Nat) (tx nu:ByteArray) (bits p en:Nat):Prop where
 at_:p=a
 le:en<=s.size
 eof:k=10->en=a/\a=s.size
 fwd:k≠10->a<en
 kind:1<=k/\k<=10
 ku:tx.size<=4*s.size+4
 pu:k=8->∃c,tx=⟨#[c]⟩/\c∈ [(40:UInt8),41,91,93,123,125,44,124]
 int:k=4->∃x,x<2^Go.Proofs.LE/\nu=Hh x
 jy:k≠4->nu=⟨#[]⟩
 Hs:bits<AW
 fin:k=9->en=a+1/\AI s a=46
def TR.gd (s:ByteArray) (a:Nat):TR->Prop
 | .ok k tx nu bits p en=>R6 s a k tx nu bits p en
 | .err _ _=>True
theorem Dc (s:ByteArray) (a p n:Nat):TR.gd s a (.err p n):=True.intro
theorem Ih:0<AW:=by unfold AW;decide
theorem Ny {s:ByteArray} {a en x:Nat}(hx:x<2^Go.Proofs.LE) (h1:a<en) (h2:en<=s.size):TR.gd s a (.ok 4 ⟨#[]⟩ (Hh x) 0 a en):=
 ⟨rfl,h2,fun h=>absurd h (by decide),fun _=>h1,by decide,mK _,fun h=>absurd h (by decide),fun _=>⟨x,hx,rfl⟩,fun h=>absurd rfl h,Ih,fun h=>absurd h (by decide)⟩
theorem fq {s:ByteArray} {a en b:Nat}(hb:b<AW) (h1:a<en) (h2:en<=s.size):TR.gd s a (.ok 5 ⟨#[]⟩ ⟨#[]⟩ b a en):=
 ⟨rfl,h2,fun h=>absurd h (by decide),fun _=>h1,by decide,mK _,fun h=>absurd h (by decide),fun h=>absurd h (by decide),fun _=>rfl,hb,fun h=>absurd h (by decide)⟩
theorem U9 {s:ByteArray} {a en k:Nat} {tx:ByteArray}(hk:k=1\/k=2\/k=3\/k=6\/k=7) (ht:tx.size<=4*s.size+4) (h1:a<en) (h2:en<=s.size):TR.gd s a (.ok k tx ⟨#[]⟩ 0 a en):=
 ⟨rfl,h2,fun h=>by omega,fun _=>h1,by omega,ht,fun h=>by omega,fun h=>by omega,fun _=>rfl,Ih,fun h=>by omega⟩
theorem Hv {x:Nat}(h:x<=1114111):x<2^Go.Proofs.LE:=lR (show x<2^21 by omega) (lX (by decide) (by unfold Go.Proofs.LE;decide))
theorem OG {s:ByteArray} {a:Nat} {A B:TR}(c:Prop) [Decidable c] (hA:c->TR.gd s a A) (hB:¬c->TR.gd s a B):TR.gd s a (if c then A else B):=by
 split
 ·exact hA (by assumption)
 ·exact hB (by assumption)
theorem YG {s:ByteArray} {p:Nat} {c:Int}(h:AI s p=c) (hc:c≠0):p<s.size:=by
 rcases ls p s.size with h1|h1
 ·exact h1
 ·rw[Ax s p h1]at h;omega
theorem VY {s:ByteArray} {p v n:Nat}(h:FO s p=some (v,n)):1<=n/\p+n<=s.size:=by
 rcases Iu s p with⟨v',n',h1,h2⟩|⟨_,h2⟩
 ·rw[h2]at h;simp only[mD,nQ]at h;have h3:=h1.size;have h4:=h1.last;omega
 ·rw[h2]at h;cases h
theorem iq {s:ByteArray} {a:Nat}(ha:a<s.size):(AI s a).toNat=s[a].toNat:=by rw[AP s a ha,mB]
theorem WN {s:ByteArray} {p v n:Nat}(h:FO s p=some (v,n)):Ah v:=by
 rcases Iu s p with⟨v',n',h1,h2⟩|⟨_,h2⟩
 ·rw[h2]at h;simp only[mD,nQ]at h;have h3:=h1.pos.2
  rwa [h.1]at h3
 ·rw[h2]at h;cases h
theorem Yt {s:ByteArray} {a:Nat} {R:TR}(h:De s a=some R):TR.gd s a R:=by
 unfold De at h;split at h
 ·cases h
 ·rename_i h0;split at h
  ·split at h
   ·rename_i h3;have h4:=YG h3 (by decide);cases h;exact Ny (Hv (by decide)) (by omega) (by omega)
   ·cases h
  ·split at h
   ·split at h
    ·cases h;exact Dc _ _ _ _
    ·rename_i x t he;have h4:=Hy he;have hx:x<=1114111:=by have:=h4.2.2.2.1;omega
     cases h;exact Ny (Hv hx) (by omega) (by omega)
   ·split at h
    ·cases h;exact Dc _ _ _ _
    ·rename_i v n he;have h4:=VY he;have hx:v<=1114111:=by have:=WN he;have:=this.2.1;omega
     cases h;exact Ny (Hv hx) (by omega) (by omega)
theorem SJ {s:ByteArray} {a f t r:Nat}(h1:a<t) (h2:t<=s.size):TR.gd s a (Cy s a f t r):=by
 have key:∀(A B:TR),(c:Prop)-> [Decidable c]->(c->TR.gd s a A)->TR.gd s a B->TR.gd s a (if c then A else B):=fun A B c _ hA hB=>by
  split
  ·exact hA (by assumption)
  ·exact hB
 unfold Cy;refine key _ _ _ ?_ ?_
 ·exact fun h=>Ny h h1 h2
 ·exact Dc _ _ _ _
theorem R8 {s:ByteArray} {a p t:Nat} {x:Int}(h1:a<t) (h2:t<=s.size):TR.gd s a (Hr s a p x t):=by
 unfold Hr;split
 ·exact Dc _ _ _ _
 ·split
  ·rename_i h;exact fq h h1 h2
  ·exact Dc _ _ _ _
theorem ag {s:ByteArray} {a p:Nat}(h1:a<=p) (h2:p<s.size):TR.gd s a (Ek s a p):=by
 have h3:=BN AQ s (p+1);have h4:=Bx AQ s (p+1) h2;unfold Ek;split
 ·rename_i hI;split
  ·exact Dc _ _ _ _
  ·have h5:=BN AQ s (Ht s (AF AQ s (p+1)));have h6:AF AQ s (p+1)<Ht s (AF AQ s (p+1)):=by unfold Ht;split<;>omega
   have h8:=hI.2;refine R8 (by omega) ?_;rcases ls s.size (Ht s (AF AQ s (p+1)))with h7|h7
   ·have h9:=Bl (p:=AQ) (s:=s) (a:=Ht s (AF AQ s (p+1))) (by omega);omega
   ·exact Bx AQ s _ h7
 ·exact R8 (by omega) h4
theorem Ms {p:Nat->Bool} {s:ByteArray} {a:Nat}(h:p (AI s a).toNat=true) (h0:p 0=false):a<AF p s a/\AF p s a<=s.size:=by
 have h1:a<s.size:=by
  rcases ls a s.size with h1|h1
  ·exact h1
  ·rw[Ax s a h1]at h;have:p 0=true:=h;rw[h0]at this;cases this
 refine⟨?_,Bx p s a (by omega)⟩;rw[iq h1]at h;rw[Bb h1 h];exact BN p s (a+1)
theorem aE {s:ByteArray} {a:Nat}(hd:AQ (AI s a).toNat=true):TR.gd s a (GL s a):=by
 have h1:=Ms hd rfl;have hrad:∀{p:Nat->Bool} {r:Nat},a+2<AF p s (a+2)->TR.gd s a (Cy s a (a+2) (AF p s (a+2)) r):=fun {p r} h=>by
  have h8:AF p s (a+2)<=s.size:=by
   rcases ls s.size (a+2)with h7|h7
   ·rw[Bl (by omega)]at h;omega
   ·exact Bx p s _ h7
  have h9:a<AF p s (a+2):=by omega
  with_reducible exact SJ h9 h8
 have uD:TR.gd s a (if E4 s a then Ek s a (AF AQ s a)else Cy s a a (AF AQ s a) 10):=by
  refine OG _ (fun h5=> ?_) (fun _=> ?_)
  ·have h6:=YG h5.1 (by decide);have h7:=mW h1.1
   with_reducible exact ag h7 h6
  ·with_reducible exact SJ h1.1 h1.2
 rcases hc:De s a with _|R
 ·by_cases h2:AI s a=48/\(AI s (a+1)=98\/AI s (a+1)=111\/AI s (a+1)=120)
  ·obtain⟨h0,h3|h3|h3⟩:=h2
   ·rw[J7 h0 (c:=98) (.inl ⟨rfl,rfl,rfl⟩) h3]
    with_reducible exact OG _ (fun h=>hrad h) (fun _=>uD)
   ·rw[J7 h0 (c:=111) (.inr (.inl ⟨rfl,rfl,rfl⟩)) h3]
    with_reducible exact OG _ (fun h=>hrad h) (fun _=>uD)
   ·rw[J7 h0 (c:=120) (.inr (.inr ⟨rfl,rfl,rfl⟩)) h3]
    with_reducible exact OG _ (fun h=>hrad h) (fun _=>uD)
  ·rw[IF hc h2];exact uD
 ·rw[SM hc];exact Yt hc
theorem cC (q:Nat):L1 q=1\/L1 q=2\/L1 q=3\/L1 q=6\/L1 q=7:=by unfold L1;split<;>(try split)<;>decide
theorem ZM {s:ByteArray} {a q p:Nat} {out:List UInt8} {R:TR}(hp:a<=p) (ho:out.length<=4*p) (h:Dd s a q p out= .inl R):TR.gd s a R:=by
 unfold Dd at h;split at h
 ·cases h;exact Dc _ _ _ _
 ·split at h
  ·cases h;exact Dc _ _ _ _
  ·split at h
   ·cases h;exact Dc _ _ _ _
   ·split at h
    ·split at h
     ·cases h
     ·split at h
      ·cases h;exact Dc _ _ _ _
      ·cases h;exact U9 (cC q) (by show out.toArray.size<=_;rw[List.size_toArray];omega) (by omega) (by omega)
    ·split at h
     ·split at h
      ·cases h
      ·split at h
       ·cases h;exact Dc _ _ _ _
       ·cases h
     ·cases h
theorem Va {s:ByteArray} {a q p p':Nat} {out out':List UInt8}(ho:out.length<=4*p) (h:Dd s a q p out= .inr (p',out')):out'.length<=4*p':=by
 have h9:=Ib h;unfold Dd at h;split at h
 ·cases h
 ·split at h
  ·cases h
  ·rename_i v n hc;have hn:=VY hc;split at h
   ·cases h
   ·split at h
    ·split at h
     ·cases h;simp only[l6,nF,pf];omega
     ·split at h<;>cases h
    ·split at h
     ·split at h
      ·cases h;omega
      ·split at h
       ·cases h
       ·rename_i x t he;cases h;have:=(OC (x:Int)).2;simp only[l6];omega
     ·cases h;have:=(OC (v:Int)).2;simp only[l6];omega
theorem TN (s:ByteArray) (a q:Nat):∀(f p:Nat) (out:List UInt8),a<=p->out.length<=4*p->TR.gd s a (Gv s a q f p out)
 |0,_,_,_,_=>Dc _ _ _ _
 |f+1,p,out,hp,ho=>by
  unfold Gv;cases h:Dd s a q p out with
  |inl R=>exact ZM hp ho h
  |inr x=>
   obtain⟨p',out'⟩:=x;have:=Ib h;exact TN s a q f p' out' (by omega) (Va ho h)
theorem dS (s:ByteArray) (a t:Nat):(s.extract a t).size<=s.size:=by rw[l8];omega
theorem Jw {s:ByteArray} {k a t:Nat}(hk:k=1\/k=2\/k=3\/k=6\/k=7) (h1:a<t) (h2:t<=s.size):TR.gd s a (Cw s k a t):=by
 unfold Cw;split
 ·exact Dc _ _ _ _
 ·exact U9 hk (by have:=dS s a t;omega) h1 h2
theorem Zk:((List.range 256).all fun c=> !Kh c|| [(40:UInt8),41,91,93,123,125,44,124].contains c.toUInt8)=true:=by kernel_rfl
theorem gA {c:UInt8}(h:Kh c.toNat=true):c∈ [(40:UInt8),41,91,93,123,125,44,124]:=by
 have h2:=nS.1 Zk c.toNat (pX.2 c.toNat_lt);rw[h]at h2;have e:c.toNat.toUInt8=c:=by simp
 rw[e]at h2;simpa using h2
theorem Zv {s:ByteArray} {a:Nat}(h:a<s.size):s.extract a (a+1)=⟨#[s[a]]⟩:=by
 apply pH;apply Array.ext
 ·simp[ByteArray.data_extract];have:s.size=s.data.size:=rfl;omega
 ·intro i h1 h2;have h3:i=0:=by simpa using h2
  subst h3;simp[ByteArray.data_extract];rfl
theorem gL {s:ByteArray} {a:Nat}(ha:a<s.size) (h:Kh (AI s a).toNat=true):TR.gd s a (Cw s 8 a (a+1)):=by
 unfold Cw;rw[lL (by omega),Zv ha];rw[iq ha]at h;exact⟨rfl,ha,fun h=>absurd h (by decide),fun _=>oE a,by decide,by show 1<=_;omega,fun _=>⟨_,rfl,gA h⟩,fun h=>absurd h (by decide),fun _=>rfl,Ih,fun h=>absurd h (by decide)⟩
theorem Zc {s:ByteArray} {a:Nat}(ha:a<=s.size):TR.gd s a (Dy s a):=by
 unfold Dy;split
 ·rename_i h;exact⟨rfl,ha,fun _=>⟨rfl,h⟩,fun h2=>absurd rfl h2,by decide,mK _,fun h=>absurd h (by decide),fun h=>absurd h (by decide),fun _=>rfl,Ih,fun h=>absurd h (by decide)⟩
 ·rename_i qP;split
  ·rename_i h;exact aE h
  ·split
   ·exact TN _ _ _ _ _ _ (by omega) (mK _)
   ·split
    ·rename_i h;have:=Ms (p:=FE) (SD h) rfl;exact Jw (by decide) this.1 this.2
    ·split
     ·rename_i h;have:=Ms (p:=FE) (Rk h) rfl;exact Jw (by decide) this.1 this.2
     ·split
      ·rename_i h;have:=Ms (p:=Ez) h rfl;split
       ·rename_i h2;exact⟨rfl,by omega,fun h=>absurd h (by decide),fun _=>by omega,by decide,mK _,fun h=>absurd h (by decide),fun h=>absurd h (by decide),fun _=>rfl,Ih,fun _=>⟨rfl,h2.2.1⟩⟩
       ·exact Jw (by decide) this.1 this.2
      ·split
       ·exact Jw (by decide) (by omega) (by omega)
       ·split
        ·rename_i h;exact gL (by omega) h
        ·exact Dc _ _ _ _
end Go.Lx
namespace Go.Ps
def Ir (s:ByteArray) (a:Nat):Bool:=
 if h:a<s.size then s[a].toNat==46&&(if h2:a+1<s.size then(decide (9<=s[a+1].toNat)&&decide (s[a+1].toNat<=13))||s[a+1].toNat==32||s[a+1].toNat==37 else true)else false
def Se (s:ByteArray):Nat->Nat->Nat
 |0,_=>s.size
 |n+1,a=>if Ir s a then a+1 else Se s n (a+1)
def DE (s:ByteArray) (a:Nat):Nat:=Se s (s.size-a) a
theorem Ki {s:ByteArray} {a:Nat}(h:a<s.size) (he:Ir s a=true):DE s a=a+1:=by
 unfold DE;obtain⟨n,hn⟩:∃n,s.size-a=n+1:=⟨s.size-a-1,by omega⟩;rw[hn,Se,lQ he]
theorem Np {s:ByteArray} {a:Nat}(h:a<s.size) (he:Ir s a=false):DE s a=DE s (a+1):=by
 unfold DE;obtain⟨n,hn⟩:∃n,s.size-a=n+1:=⟨s.size-a-1,by omega⟩;rw[hn,Se,he,show s.size-(a+1)=n by omega];rfl
theorem Kq {s:ByteArray} {a:Nat}(h:s.size<=a):DE s a=s.size:=by
 unfold DE;rw[show s.size-a=0 by omega];rfl
theorem RB {s:ByteArray} {a:Nat}(h:a<s.size):Ir s a=(s[a].toNat==46&&(if h2:a+1<s.size then(decide (9<=s[a+1].toNat)&&decide (s[a+1].toNat<=13))||s[a+1].toNat==32||s[a+1].toNat==37 else true)):=by
 unfold Ir;rw[dif_pos h]
theorem el {s:ByteArray} {a:Nat}(h:a<s.size) (h1:s[a].toNat≠46):Ir s a=false:=by
 rw[RB h,beq_false_of_ne h1];rfl
theorem Xs {s:ByteArray} {a:Nat}(h:a<s.size) (h1:s[a].toNat=46) (h2:a+1=s.size):Ir s a=true:=by
 rw[RB h,h1,dif_neg (by omega)];rfl
theorem Zr {s:ByteArray} {a j:Nat}(h:a<s.size) (h1:s[a].toNat=46) (hj:j=a+1) (h2:j<s.size):Ir s a=((decide (9<=s[j].toNat)&&decide (s[j].toNat<=13))||s[j].toNat==32||s[j].toNat==37):=by
 subst hj;rw[RB h,h1,dif_pos h2];rfl
end Go.Ps
namespace Go.Proofs
open Go.RowKit Go.Ps
def H8 (n:Nat) (w:World) (e:Ending) (w':World):Prop:=e= .returned (.int .i64 n)/\w=w'
theorem Lf {n:Int} {m:Nat} {w:World}(h:n=m):H8 m w (.returned (.int .i64 n)) w:=by subst h;exact⟨rfl,rfl⟩
set_option maxRecDepth 100000 in
set_option maxHeartbeats 4000000 in
theorem cZ (s:ByteArray) (z:Int) (w:World) (hs:s.size<=4611686018427387904):Calls prog 16 #[.string s,.int .i64 z] w (H8 (DE s z.toNat) w):=by
 obtain⟨R,hR⟩:∃R,R=DE s z.toNat:=⟨_,rfl⟩;rw[<-hR];have HR:=lK hR;clear hR;go_enter func16,ntmps16;go_wp2
 all_goals
  go_loop [1] (fun v=>∃i:Nat,v= .int .i64 i/\R=DE s i) (fun v=>s.size-(intOf v).toNat)
  case atStart=>
   first
    |exact⟨0,rfl,by rw[HR.o,show z.toNat=0 by omega]⟩
    |exact⟨z.toNat,by congr 1;omega,HR.o⟩
  case round=>
   obtain⟨i,rfl,hinv⟩:=hrel;have HI:=lK hinv;clear hinv
   try clear h
   by_cases qE:i<s.size
   ·obtain⟨j,hj⟩:∃j,j=i+1:=⟨_,rfl⟩;have ej:(i:Int)+1=(j:Int):=by omega
    have HJ:=lK hj;have sw:j<=s.size:=by omega
    clear hj;by_cases rZ:s[i].toNat=46
    ·have t0:((s[i].toNat:Int) !=46)=false:=by rw[rZ];rfl
     have t0':((s[i].toNat:Int)==46)=true:=by rw[rZ];rfl
     have H46:=lK rZ;clear rZ;by_cases hjn:j<s.size
     ·have t1:((j:Int)==(s.size:Int))=false:=by rw[nD];intro e;have:=eq_of_beq e;omega
      have HE:=lK (Zr qE H46.o HJ.o hjn);obtain⟨d,hd⟩:∃d,d=s[j].toNat:=⟨_,rfl⟩;have HD:=lK hd;have tF:(s[j].toNat:Int)=(d:Int):=by rw[hd]
      rw[<-hd]at HE;have qU:Hid ((decide ((9:Int)<=(d:Int))=true/\decide ((d:Int)<=13)=true/\((d:Int)==32)=false/\((d:Int)==37)=false/\Ir s i=true)\/
        (decide ((9:Int)<=(d:Int))=false/\decide ((d:Int)<=13)=true/\((d:Int)==32)=false/\((d:Int)==37)=false/\Ir s i=false)\/
        (decide ((9:Int)<=(d:Int))=true/\decide ((d:Int)<=13)=false/\((d:Int)==32)=true/\((d:Int)==37)=false/\Ir s i=true)\/
        (decide ((9:Int)<=(d:Int))=true/\decide ((d:Int)<=13)=false/\((d:Int)==32)=false/\((d:Int)==37)=true/\Ir s i=true)\/
        (decide ((9:Int)<=(d:Int))=true/\decide ((d:Int)<=13)=false/\((d:Int)==32)=false/\((d:Int)==37)=false/\Ir s i=false)):=lK (by
       rw[HE.o];simp only[mL,mN,nH,lY,Bool.or_eq_true,mJ,Bool.or_eq_false_iff,Bool.and_eq_false_iff,ne_eq];omega)
      clear hd HE;rcases qU.o with⟨k1,k2,k3,k4,k5⟩|⟨k1,k2,k3,k4,k5⟩|⟨k1,k2,k3,k4,k5⟩|⟨k1,k2,k3,k4,k5⟩|⟨k1,k2,k3,k4,k5⟩
      all_goals
       have K5:=lK k5;clear k5
       first
        | (have HF:Hid (R=j):=lK (by rw[HI.o,Ki qE K5.o,HJ.o]);go_wp2;go_ret;exact Lf (by rw[HF.o]))
        | (have HN:Hid (R=DE s j):=lK (by rw[HI.o,Np qE K5.o,HJ.o]);go_wp2;go_round;(case rel=>exact⟨j,by go_num,HN.o⟩);(case measure=>simp[intOf];omega))
     ·have hje:Hid (i+1=s.size):=lK (by have:=HJ.o;omega);have t1:((j:Int)==(s.size:Int))=true:=by have:=hje.o;have:=HJ.o;rw[show j=s.size by omega];exact beq_self_eq_true _
      have K5:=lK (Xs qE H46.o hje.o);clear hjn;have HF:Hid (R=j):=lK (by rw[HI.o,Ki qE K5.o,HJ.o]);go_wp2;go_ret;exact Lf (by rw[HF.o])
    ·have t0:((s[i].toNat:Int) !=46)=true:=pA.2 (by omega);have t0':((s[i].toNat:Int)==46)=false:=by rw[nD];intro e;have:=eq_of_beq e;omega
     have K5:=lK (el qE rZ);clear rZ;have HN:Hid (R=DE s j):=lK (by rw[HI.o,Np qE K5.o,HJ.o]);go_wp2;go_round
     case rel=>exact⟨j,by go_num,HN.o⟩
     case measure=>simp[intOf];omega
   ·have HF:Hid (R=s.size):=lK (by rw[HI.o];exact Kq (by omega));go_wp2;go_ret;exact Lf (by rw[HF.o])
end Go.Proofs
namespace Go.Proofs
open Go.RowKit
def Fz (n:Nat):ByteArray:=if n=30 then⟨#[105,108,108,101,103,97,108,95,99,104,97,114,97,99,116,101,114]⟩else if n=31 then⟨#[117,110,99,108,111,115,101,100,95,113,117,111,116,101]⟩else if n=32 then⟨#[98,97,100,95,101,115,99,97,112,101]⟩else if n=33 then⟨#[117,110,99,108,111,115,101,100,95,99,111,109,109,101,110,116]⟩else if n=34 then⟨#[110,117,109,98,101,114,95,116,111,111,95,108,97,114,103,101]⟩else⟨#[110,97,109,101,95,116,111,111,95,108,111,110,103]⟩
theorem eo (n:Nat) (w:World):Calls prog 23 #[.int .i64 n] w fun e w'=>e= .returned (.string (Fz n))/\w=w':=by
 have qU:(((n:Int)==30)=true/\Fz n=⟨#[105,108,108,101,103,97,108,95,99,104,97,114,97,99,116,101,114]⟩)\/
  (((n:Int)==30)=false/\((n:Int)==31)=true/\Fz n=⟨#[117,110,99,108,111,115,101,100,95,113,117,111,116,101]⟩)\/
  (((n:Int)==30)=false/\((n:Int)==31)=false/\((n:Int)==32)=true/\Fz n=⟨#[98,97,100,95,101,115,99,97,112,101]⟩)\/
  (((n:Int)==30)=false/\((n:Int)==31)=false/\((n:Int)==32)=false/\((n:Int)==33)=true/\Fz n=⟨#[117,110,99,108,111,115,101,100,95,99,111,109,109,101,110,116]⟩)\/
  (((n:Int)==30)=false/\((n:Int)==31)=false/\((n:Int)==32)=false/\((n:Int)==33)=false/\((n:Int)==34)=true/\Fz n=⟨#[110,117,109,98,101,114,95,116,111,111,95,108,97,114,103,101]⟩)\/
  (((n:Int)==30)=false/\((n:Int)==31)=false/\((n:Int)==32)=false/\((n:Int)==33)=false/\((n:Int)==34)=false/\Fz n=⟨#[110,97,109,101,95,116,111,111,95,108,111,110,103]⟩):=by
  unfold Fz;by_cases h30:n=30
  ·subst h30;exact .inl ⟨rfl,rfl⟩
  by_cases h31:n=31
  ·subst h31;exact .inr (.inl ⟨rfl,rfl,rfl⟩)
  by_cases h32:n=32
  ·subst h32;exact .inr (.inr (.inl ⟨rfl,rfl,rfl,rfl⟩))
  by_cases h33:n=33
  ·subst h33;exact .inr (.inr (.inr (.inl ⟨rfl,rfl,rfl,rfl,rfl⟩)))
  by_cases h34:n=34
  ·subst h34;exact .inr (.inr (.inr (.inr (.inl ⟨rfl,rfl,rfl,rfl,rfl,rfl⟩))))
  rw[lL h30,lL h31,lL h32,lL h33,lL h34];refine .inr (.inr (.inr (.inr (.inr ⟨?_,?_,?_,?_,?_,rfl⟩))))<;>(rw[lY];omega)
 rcases qU with⟨t1,e1⟩|⟨t1,t2,e1⟩|⟨t1,t2,t3,e1⟩|⟨t1,t2,t3,t4,e1⟩|⟨t1,t2,t3,t4,t5,e1⟩|⟨t1,t2,t3,t4,t5,e1⟩
 all_goals
  rw[e1];clear e1;go_enter func23,ntmps23;go_wp2;go_ret;exact⟨rfl,rfl⟩
def BO (wd:ByteArray):Array Value:= #[.int .i64 2,.string wd,.string ⟨#[]⟩,.int .u64 0,.int .i64 0,.slice none 0 0]
def Aa (b:Nat):Array Value:= #[.int .i64 5,.string ⟨#[115,121,110,116,97,120,95,101,114,114,111,114]⟩,.string ⟨#[]⟩,.int .u64 0,.int .i64 0,.slice (some ⟨b,0,none⟩) 1 1]
theorem fN (wd:ByteArray) (w:World):Calls prog 21 #[.string wd] w fun e w'=>e= .returned (.iface 80 (.pointer (some ⟨w.heap.size+1,0,none⟩)))/\w'=(w.alloc (.cells (BO wd) 31)).alloc (.cells (Aa w.heap.size) 83):=by
 go_enter func21,ntmps21;go_wp2;go_ret;exact⟨rfl,rfl⟩
end Go.Proofs
namespace Go.Proofs
open Go.RowKit Go.Hb Go.Pz Go.Ps
def Ch (n:Nat):Array Value:= #[.int .i64 0,.string ⟨#[]⟩,.string ⟨#[]⟩,.int .u64 0,.int .i64 0,.slice none 0 0,.slice none 0 0,.slice none 0 0,.int .i64 n,.bool false]
theorem UD (n:Nat):(Ch n).all (·.oneCell')=true:=by simp[Ch,Value.oneCell']
theorem Xq:(Tryz.prog.info? 35).map (·.size)=some 10:=by kernel_rfl
structure Vv (r q:Nat) (n:Nat) (wd:ByteArray) (w w':World):Prop where
 ex:∃b,w.heap.size<=b/\w'.heap[q]? =some (.cells #[.iface 80 (.pointer (some ⟨b+1,0,none⟩))] 37)/\w'.heap[b]? =some (.cells (BO wd) 31)/\w'.heap[b+1]? =some (.cells (Aa b) 83)
 res:w'.heap[r]? =some (.cells (Ch n) 35)
 kept:Kept (fun x=>x=r\/x=q) w w'
theorem Yi (vs:Array Value) (w:World):(callFunc 16 vs).run prog w= .ok (.enter 16 vs) w:=by kernel_rfl
theorem bj (vs:Array Value) (w:World):(callFunc 21 vs).run prog w= .ok (.enter 21 vs) w:=by kernel_rfl
theorem Kept.eZ {X:Nat->Prop} {w a:World}(h:Kept X w a){p:Nat}(hp:X p) (cs:Array Value):Kept X w (a.setRow p cs):=
 ⟨h.os,h.tape,h.output,by rw[Al];exact h.size,fun b hb hx=>(mH _ _ _ _ (fun e=>hx (by rw[e];exact hp))).trans (h.block b hb hx)⟩
theorem Kept.cell {X:Nat->Prop} {w a:World}(h:Kept X w a){b i:Nat} {v:Value}(hb:b<w.heap.size) (hx:¬X b) (hc:w.cell? ⟨b,i,none⟩=some v):a.cell? ⟨b,i,none⟩=some v:=(AO (h.block b hb hx) i).trans hc
theorem Ra (p r q:Nat) (s wd:ByteArray) (a:Nat) (cs0:Array Value) (v:Value) (older:List PanicEntry) (w:World) (hs:s.size<=100000000)
  (hp:w.heap[p]? =some (.cells #[.string s] 9)) (hr:w.heap[r]? =some (.cells cs0 35)) (qy:cs0.size=10) (hq:w.heap[q]? =some (.cells #[v] 37)) (h1:p≠r) (h2:p≠q) (h3:r≠q):
  CallsD prog 20 #[.pointer (some ⟨p,0,none⟩),.pointer (some ⟨r,0,none⟩),.pointer (some ⟨q,0,none⟩)] (.panicking ({v:=Me wd a,recovered:=false} ::older)) w
   fun e u' w'=>e= .returned (.tuple #[])/\u'= .panicking ({v:=Me wd a,recovered:=true} ::older)/\Vv r q (DE s a) wd w w':=by
 have CSK:Hid (∀W,Calls prog 16 #[.string s,.int .i64 a] W (H8 (DE s a) W)):=lK (fun W=>by have:=cZ s (a:Int) W (by omega);rwa [mB]at this);have CB:=lK (fun W=>fN wd W);generalize DE s a=sk at*;have hta:∀w:World,(Instr.typeAssert (.iface 63 (.agg #[.string wd,.int .i64 a])) 20 63 true).run prog w= .ok (.tuple #[.agg #[.string wd,.int .i64 a],.bool true]) w:=fun _=>by kernel_rfl
 have lp:p<w.heap.size:=(lN.1 hp).1;have lr:r<w.heap.size:=(lN.1 hr).1;have lq:q<w.heap.size:=(lN.1 hq).1;obtain⟨X,hX⟩:∃X,X=w.alloc (.cells #[.string wd,.int .i64 a] 63):=⟨_,rfl⟩;obtain⟨T,hT⟩:∃T,T=w.heap.size:=⟨_,rfl⟩;have xT:Hid (X.heap[T]? =some (.cells #[.string wd,.int .i64 a] 63)):=lK (by rw[hX,hT];exact lT w _);have zc:∀b,b<w.heap.size->X.heap[b]? =w.heap[b]? :=fun b hb=>by rw[hX];exact Lib.alloc_old w _ b hb
 have xs:X.heap.size=w.heap.size+1:=by rw[hX];simp
 have xp:=lK ((zc p lp).trans hp);have xr:=lK ((zc r lr).trans hr);have xq:=lK ((zc q lq).trans hq);obtain⟨Z,hZ⟩:∃Z:Nat->Prop,Z=fun x=>x=r\/x=q:=⟨_,rfl⟩;have zp:Hid (p<X.heap.size/\¬Z p):=lK ⟨by omega,by rw[hZ];rintro(e|e);exact h1 e;exact h2 e⟩;have zT:Hid (T<X.heap.size/\¬Z T):=lK ⟨by omega,by rw[hZ];rintro(e|e)<;>omega⟩;have zr:Hid (Z r):=lK (by rw[hZ];exact .inl rfl);have zq:Hid (Z q):=lK (by rw[hZ];exact .inr rfl);have kS:Hid (Kept Z X X.drew):=lK (Kept.cV (Kept.refl Z X));have cp:Hid (X.cell? ⟨p,0,none⟩=some (.string s)):=lK (by rw[Lib.cell_of_heap xp.o];rfl);have cT0:Hid (X.cell? ⟨T,0,none⟩=some (.string wd)):=lK (by rw[Lib.cell_of_heap xT.o];rfl);have cT1:Hid (X.cell? ⟨T,1,none⟩=some (.int .i64 a)):=lK (by rw[Lib.cell_of_heap xT.o];rfl);have uC:=lK hX;have HT0:=lK hT;have HZ0:=lK hZ;have HCS:=lK qy;have HLR:=lK (And.intro lr lq);have H3:=lK h3;clear hp hr hq qy lp zc xs h1 h2 h3 hX hT hZ lr lq;unfold Me;refine callsD_of_wpS func20 rfl fun c₀ cs hu=> ?_;apply wpS_seq;apply wpS_region;unfold Me at hu;simp[wpOpsS,go_sem,recoverD,hu,ntmps20,Exit.thenS,Array.replicate,List.replicate];refine wpS_of_wp ?_;go_wp2;rw[<-uC.o,<-HT0.o];refine wp_region_held_drew (S:=fun W=>Kept Z X W) (by kernel_rfl) kS.o (fun hS=> ?_);refine DQ 0 (.string s) rfl hS (fun W hSW=> ?_) ?_
 ·have e1:=hSW.cell zp.o.1 zp.o.2 cp.o;go_simp
 refine tk 1 (.pointer (some ⟨T,1,none⟩)) rfl hS ?_;refine DQ 2 (.int .i64 a) rfl hS (fun W hSW=> ?_) ?_
 ·have e1:=hSW.cell zT.o.1 zT.o.2 cT1.o;go_simp
 refine tk 5 (.pointer (some ⟨T,0,none⟩)) rfl hS ?_;refine DQ 6 (.string wd) rfl hS (fun W hSW=> ?_) ?_
 ·have e1:=hSW.cell zT.o.1 zT.o.2 cT0.o;go_simp
 try simp only[uu,Act.put]
 refine DD 3 rfl (fun K hK=> ?_);refine As (by rfl) 16 [.tmp 13,.tmp 15] #[9,3] (by rfl) #[.string s,.int .i64 a] (by kernel_rfl) Yi ((CSK.o _).mono ?_);rintro e' W6 ⟨rfl,rfl⟩;refine⟨_,rfl,?_⟩;refine hK.o _ _ hS (fun hS=> ?_);refine DQ 4 (.agg (Ch sk)) rfl hS (fun W hSW=> ?_) ?_
 ·go_simp;try rfl
 try simp only[uu,Act.put]
 refine DD 7 rfl (fun K hK=> ?_);refine As (by rfl) 21 [.tmp 19] #[9] (by rfl) #[.string wd] (by kernel_rfl) bj ((CB.o _).mono ?_);rintro e' W7 ⟨rfl,rfl⟩;refine⟨_,rfl,?_⟩;refine hK.o _ _ ((hS.alloc _).alloc _) (fun hS=> ?_)
 try simp only[uu,Act.put]
 obtain⟨Y,hY⟩:∃Y,Y=(X.drew.alloc (.cells (BO wd) 31)).alloc (.cells (Aa X.drew.heap.size) 83):=⟨_,rfl⟩;obtain⟨B,hB⟩:∃B,B=X.drew.heap.size:=⟨_,rfl⟩;have bB:Hid (B=X.heap.size):=lK hB;have yold:∀b,b<X.heap.size->Y.heap[b]? =X.heap[b]? :=fun b hb=>by
  rw[hY];exact(Lib.alloc_old _ _ b (by show b<(X.alloc _).heap.size;simp;omega)).trans (Lib.alloc_old X.drew _ b hb)
 have yr:=lK ((yold r (by have:=(lN.1 xr.o).1;exact this)).trans xr.o);have yq:=lK ((yold q (by have:=(lN.1 xq.o).1;exact this)).trans xq.o);have yb:Hid (Y.heap[B]? =some (.cells (BO wd) 31)):=lK (by
  rw[hY,hB];exact(Lib.alloc_old _ _ _ (by show X.heap.size<(X.alloc _).heap.size;simp)).trans (lT X.drew _))
 have yb1:Hid (Y.heap[B+1]? =some (.cells (Aa B) 83)):=lK (by
  rw[hY,hB];have h:=lT (X.drew.alloc (.cells (BO wd) 31)) (.cells (Aa X.drew.heap.size) 83)
  rwa [show(X.drew.alloc (.cells (BO wd) 31)).heap.size=X.drew.heap.size+1 by simp]at h)
 have ySz:Hid (Y.heap.size=B+2):=lK (by rw[hY,hB];simp);have yS:Hid (Kept Z X Y):=lK (by rw[hY];exact hS);rw[<-hY]at hS⊢;rw[<-hB];clear hY yold hB;refine DD 8 rfl (fun K hK=> ?_);refine Aj rfl (wp_store_row 35 (.tmp 1) (.tmp 17) rfl r (Ch sk) rfl rfl 35 cs0 yr.o (Xq.trans (by rfl)) (by rw[HCS.o];rfl) (UD _) ?_);refine hK.o _ _ (hS.eZ zr.o _) (fun hS=> ?_)
 try simp only[uu,Act.put]
 have vq:Hid ((Y.setRow r (Ch sk)).heap[q]? =some (.cells #[v] 37)):=lK ((mH _ _ _ _ (fun e=>H3.o e.symm)).trans yq.o);have vr:Hid ((Y.setRow r (Ch sk)).heap[r]? =some (.cells (Ch sk) 35)):=lK (mF _ _ _ _ _ _ yr.o);have vb:Hid ((Y.setRow r (Ch sk)).heap[B]? =some (.cells (BO wd) 31)):=lK ((mH _ _ _ _ (by have:=(lN.1 xr.o).1;have:=bB.o;omega)).trans yb.o);have vb1:Hid ((Y.setRow r (Ch sk)).heap[B+1]? =some (.cells (Aa B) 83)):=lK ((mH _ _ _ _ (by have:=(lN.1 xr.o).1;have:=bB.o;omega)).trans yb1.o);generalize Y.setRow r (Ch sk)=V at*;have c1:V.cell? ⟨q,0,none⟩=some v:=by rw[Lib.cell_of_heap vq.o];rfl
 have c2:V.frozen? ⟨q,0,none⟩=false:=Lib.frozen_of_heap vq.o 0;refine DD 9 rfl (fun K hK=> ?_);go_simp;refine hK.o _ _ (hS.set (.inl zq.o) _) (fun hS=> ?_)
 try simp only[uu,Act.put]
 refine wpAnyH_done (by kernel_rfl) ?_ _;have KW:Hid (Kept Z w (V.setCell ⟨q,0,none⟩ (.iface 80 (.pointer (some ⟨B+1,0,none⟩))))):=lK (by
  have h1:Kept Z w X:=by rw[uC.o];exact(Kept.refl Z w).alloc _
  exact h1.trans hS (fun _ _ h=>h))
 go_wp2;have wb:Hid (q<B/\q≠r):=lK ⟨by have:=(lN.1 xq.o).1;have:=bB.o;omega,fun e=>H3.o e.symm⟩;have P6:Hid (Vv r q sk wd w (V.setCell ⟨q,0,none⟩ (.iface 80 (.pointer (some ⟨B+1,0,none⟩))))):=lK (by
  refine⟨⟨B,?_,Eh vq.o 0 _,(AA _ _ _ (by show B≠q;have:=wb.o.1;omega)).trans vb.o,(AA _ _ _ (by show B+1≠q;have:=wb.o.1;omega)).trans vb1.o⟩,(AA _ _ _ (fun e=>wb.o.2 e.symm)).trans vr.o,?_⟩
  ·rw[bB.o,uC.o];simp
  ·have:=KW.o;rwa [HZ0.o]at this)
 simp[bodyPostS,results,results20];exact P6.o
theorem RW (p r q:Nat) (w:World):
  CallsD prog 20 #[.pointer (some ⟨p,0,none⟩),.pointer (some ⟨r,0,none⟩),.pointer (some ⟨q,0,none⟩)] .returning w
   fun e u' w'=>e= .returned (.tuple #[])/\u'= .returning/\w'=w.alloc (.cells #[.string ⟨#[]⟩,.int .i64 0] 63):=by
 have hta:∀w:World,(Instr.typeAssert .nilIface 20 63 true).run prog w= .ok (.tuple #[.agg #[.string ⟨#[]⟩,.int .i64 0],.bool false]) w:=fun _=>by kernel_rfl
 have qP:∀w:World,(binOp .neq 20 .nilIface .nilIface).run prog w= .ok (.bool false) w:=fun _=>by kernel_rfl
 refine callsD_of_wpS func20 rfl fun c₀ cs hu=> ?_;apply wpS_seq;apply wpS_region;simp[wpOpsS,go_sem,recoverD,hu,ntmps20,Exit.thenS,Array.replicate,List.replicate];refine wpS_of_wp ?_;go_wp2;cases c₀
 simp_all[bodyPostS,results,results20]
end Go.Proofs
namespace Go.Lx
open Go.Hb Go.Rb Go.Bg Go.Pf Go.Proofs Go.Pz
def F6 (k:Nat) (tx nu:ByteArray) (bits a en:Nat) (ly:Bool):Tk:=⟨k,tx.data.toList,nu.data.toList,bits,a,en,ly⟩
inductive Ct (s:ByteArray):Nat->List Tk->Option (Nat×Nat)->Prop
 |err {p K E n a:Nat} :Lay s p K E->Pp s K E= .err a n->Ct s p [] (some (n,a))
 |last {p K E k bits a en:Nat} {tx nu:ByteArray} :Lay s p K E->Pp s K E= .ok k tx nu bits a en->k=9\/k=10->Ct s p [F6 k tx nu bits a en (decide (p<K))] none
 |next {p K E k bits a en:Nat} {tx nu:ByteArray} {l:List Tk} {r:Option (Nat×Nat)} :Lay s p K E->Pp s K E= .ok k tx nu bits a en->k≠9->k≠10->Ct s en l r->Ct s p (F6 k tx nu bits a en (decide (p<K))::l) r
theorem Lay.ge {s:ByteArray} {p k e:Nat}(h:Lay s p k e):e=0->p<=k:=by
 induction h with
 |done _=>exact fun _=>lM _
 |stop _ _=>exact fun _=>lM _
 |Si _ _=>exact fun _=>lM _
 |bad _ _ _=>exact fun h=>by cases h
 |step h1 h2 _ _ ih=>exact fun h=>lg (mW (Ex h1 h2).1) (ih h)
theorem Fp {s:ByteArray} {p K E k bits a en:Nat} {tx nu:ByteArray}(hp:p<=s.size) (hL:Lay s p K E) (h:Pp s K E= .ok k tx nu bits a en):R6 s K k tx nu bits a en/\p<=K:=by
 by_cases hE:E=0
 ·have h2:=Zc (s:=s) (a:=K) (hL.le hp hE);unfold Pp at h;rw[lQ hE]at h;rw[h]at h2;exact⟨h2,hL.ge hE⟩
 ·unfold Pp at h;rw[lL hE]at h;cases h
theorem Ct.ex (s:ByteArray):∀(n p:Nat),p<=s.size->s.size-p<=n->∃l r,Ct s p l r:=by
 intro n
 induction n with
 |zero=>
  intro p hp hn;obtain⟨K,E,hL⟩:=Lay.ex s (s.size-p) p (lM _);cases hR:Pp s K E with
  |err a n=>exact⟨_,_,.err hL hR⟩
  |ok k tx nu bits a en=>
   have hg:=Fp hp hL hR;by_cases hk:k=9\/k=10
   ·exact⟨_,_,.last hL hR hk⟩
   ·have:=hg.1.fwd (by omega);have:=hg.1.le;omega
 |succ n ih=>
  intro p hp hn;obtain⟨K,E,hL⟩:=Lay.ex s (s.size-p) p (lM _);cases hR:Pp s K E with
  |err a n=>exact⟨_,_,.err hL hR⟩
  |ok k tx nu bits a en=>
   have hg:=Fp hp hL hR;by_cases hk:k=9\/k=10
   ·exact⟨_,_,.last hL hR hk⟩
   ·have:=hg.1.fwd (by omega);have:=hg.1.le;obtain⟨l,r,h⟩:=ih en (by omega) (by omega);exact⟨_,_,.next hL hR (by omega) (by omega) h⟩
def YR (s:ByteArray) (t:Tk):Prop:=R6 s t.at_ t.kind (bs t.tx) (bs t.nu) t.bits t.at_ t.en
theorem YR.of {s:ByteArray} {K k bits a en:Nat} {tx nu:ByteArray}(h:R6 s K k tx nu bits a en) (ly:Bool):YR s (F6 k tx nu bits a en ly):=by
 have:=h.at_;subst this;exact h
theorem Ct.Kf {s:ByteArray} {p:Nat} {l:List Tk} {r:Option (Nat×Nat)}(h:Ct s p l r):p<=s.size->∀t∈l,YR s t:=by
 induction h with
 |err _ _=>exact fun _ t ht=>by cases ht
 |last hL hR _=>
  intro hp t ht;rw[og.1 ht];exact YR.of (Fp hp hL hR).1 _
 |next hL hR h9 sD _ ih=>
  intro hp t ht;have hg:=Fp hp hL hR;rcases oK.1 ht with rfl|ht
  ·exact YR.of hg.1 _
  ·exact ih hg.1.le t ht
theorem Ct.len {s:ByteArray} {p:Nat} {l:List Tk} {r:Option (Nat×Nat)}(h:Ct s p l r):p<=s.size->l.length+p<=s.size+1:=by
 induction h with
 |err _ _=>exact fun h=>by simpa using Nat.le_succ_of_le h
 |last hL hR _=>exact fun h=>by simp;omega
 |next hL hR h9 sD _ ih=>
  intro hp;have hg:=Fp hp hL hR;have:=hg.1.fwd sD;have:=ih hg.1.le;simp only[nF];omega
theorem Ct.fin {s:ByteArray} {p:Nat} {l:List Tk} {r:Option (Nat×Nat)}(h:Ct s p l r):r=none->∃i t,l=i++ [t]/\(t.kind=9\/t.kind=10)/\∀x∈i,x.kind≠9/\x.kind≠10:=by
 induction h with
 |err _ _=>exact fun h=>by cases h
 |last hL hR hk=>exact fun _=>⟨[],_,rfl,hk,fun x hx=>by cases hx⟩
 |next hL hR h9 sD _ ih=>
  intro h;obtain⟨i,t,e,hk,hi⟩:=ih h;refine⟨_::i,t,by rw[e];rfl,hk,fun x hx=> ?_⟩;rcases oK.1 hx with rfl|hx
  ·exact⟨h9,sD⟩
  ·exact hi x hx
theorem Ct.Yq {s:ByteArray} {p:Nat} {l:List Tk}(h:Ct s p l none):EO l:=by
 obtain⟨i,t,rfl,hk,hi⟩:=h.fin rfl;intro k x hx h9 sD;have qE:=(mC.1 hx).1;simp only[l6,nF,pf]at qE⊢;rcases ls k i.length with h1|h1
 ·omega
 ·have:k=i.length:=by omega
  subst this;rw[oL (lM _)]at hx;simp only[oj,nX,mD]at hx;subst hx;omega
theorem Ct.XQ {s:ByteArray} {p:Nat} {l:List Tk}(h:Ct s p l none):(l.getD (l.length-1) default).kind=9\/(l.getD (l.length-1) default).kind=10:=by
 obtain⟨i,t,rfl,hk,hi⟩:=h.fin rfl;have:(i++ [t]).getD ((i++ [t]).length-1) default=t:=by
  rw[lZ,l6,nF,pf,me,nx,oL (lM _),oj];rfl
 rw[this];exact hk
end Go.Lx
namespace Go.Pz
open Go.Proofs
inductive fX where
 |eof (a:Nat)
 |stop (wd:ByteArray) (a:Nat)
 |ok (t:Tm) (s:RS) (n:Nat)
def RS.zero:RS:=⟨0,[],[],0⟩
def cH (F7:Tm->Nat) (p:Nat) (l:List Tk):Rz (Tm×Int×RS)->fX
 | .stop wd a=> .stop (YV wd) a
 | .ok x=>
  if(now l x.2.2).kind=9 then(if F7 x.1=0 then .ok x.1 x.2.2 (now l x.2.2).en else .stop (YV 3) p)
  else .stop (YV (if(now l x.2.2).kind=10 then 1 else 0)) (now l x.2.2).at_
def Sw (O:Am) (quotes:Int) (F7:Tm->Nat) (p:Nat) (l:List Tk):Option (Nat×Nat)->fX
 |some (n,a)=> .stop (Fz n) a
 |none=>if(now l RS.zero).kind=10 then .eof (now l RS.zero).at_ else cH F7 p l (Ay l O quotes CZ (4*l.length+3) RS.zero 1200)
end Go.Pz
namespace Go.Proofs
open Go.RowKit Go.Hb Go.Pz Go.Lx Go.Ps
def Uz (t:Tk):List Value:=(BH t).toList
theorem gU:(Tryz.prog.info? 71).map (fun i=>(i.zero,i.size,i.bytes))=some (some (.agg zW),7,72):=by kernel_rfl
def jP (lv o:Value) (q:Int):Array Value:= #[lv,.int .i64 0,o,.int .i64 q,.int .i64 0,.string ⟨#[]⟩,.string ⟨#[]⟩,.int .u64 0,.int .i64 0,.slice none 0 0,.slice none 0 0,.slice none 0 0,.int .i64 0,.bool false,.int .i64 0,.slice none 0 0]
structure Jo (P:Nat) (w:World) (s:ByteArray) (q:Int) (o:Value) (W:World) (lv:Value) (l:List Tk):Prop where
 Ac:Below P w W
 sz:P+5<=W.heap.size
 h0:W.heap[P]? =some (.cells #[.string s] 9)
 h2:W.heap[P+1+1]? =some (.cells (Ch 0) 35)
 h3:W.heap[P+1+1+1]? =some (.cells #[.nilIface] 37)
 h4:W.heap[P+1+1+1+1]? =some (.cells (jP lv o q) 69)
 own:W.ownsRow (P+5) 71 7 lv l.length (l.flatMap Uz)
section
variable {P:Nat} {w W:World} {s:ByteArray} {q:Int} {o lv:Value} {l:List Tk}
theorem Jo.below {W':World}(h:Jo P w s q o W lv l) (hb:Below W.heap.size W W'):Jo P w s q o W' lv l:=by
 have hz:=h.sz;exact⟨h.Ac.trans (hb.mono (by omega)),lg h.sz hb.size,(hb.block _ (by omega)).trans h.h0,(hb.block _ (by omega)).trans h.h2,(hb.block _ (by omega)).trans h.h3,(hb.block _ (by omega)).trans h.h4,AS h.own fun b qM=>hb.block b (h.own.lt b qM).2⟩
theorem Jo.drew (h:Jo P w s q o W lv l):Jo P w s q o W.drew lv l:=h.below (Ad (Below.refl _ _))
theorem Jo.row (h:Jo P w s q o W lv l){b:Nat}(hb:P+5<=b) (hn:lv.ownBlock≠some b) (cs:Array Value):Jo P w s q o (W.setRow b cs) lv l:=by
 have hz:=h.sz;exact⟨Below.row h.Ac (by omega) cs,by rw[Al];exact h.sz,(mH _ _ _ _ (by omega)).trans h.h0,(mH _ _ _ _ (by omega)).trans h.h2,(mH _ _ _ _ (by omega)).trans h.h3,(mH _ _ _ _ (by omega)).trans h.h4,AS h.own fun b2 qM=>mH _ _ _ _ (fun e=>hn (e▸qM))⟩
theorem Jo.more {t:Tk} {w2:World} {g cap:Nat}(h:Jo P w s q o W lv l) (qD:w2.ownsRow (P+5) 71 7 (.slice (some ⟨g,0,none⟩) (l.length+1) cap) (l.length+1) (l.flatMap Uz++Uz t)) (hg:W.grownBy w2 lv.ownBlock):
  Jo P w s q o (w2.setCell ⟨P+1+1+1+1,0,none⟩ (.slice (some ⟨g,0,none⟩) (l.length+1) cap)) (.slice (some ⟨g,0,none⟩) (l.length+1) cap) (l++ [t]):=by
 have hz:=h.sz;have hgs:=hg.size;have yt:∀b,lv.ownBlock=some b->P+5<=b:=fun b hb=>(h.own.lt b hb).1;have hk:∀b,b<P+5->w2.heap[b]? =W.heap[b]? :=fun b hb=>hg.block b (by omega) (fun e=>by have:=yt b e.symm;omega);have hg5:P+5<=g:=(qD.lt g rfl).1;refine⟨⟨hg.os.trans h.Ac.os,hg.tape.trans h.Ac.tape,hg.output.trans h.Ac.output,by rw[size_set];have:=h.Ac.size;omega,fun b hb=>(AA _ _ _ (by show b≠P+1+1+1+1;omega)).trans ((hk b (by omega)).trans (h.Ac.block b hb))⟩,by rw[size_set];omega,?_,?_,?_,?_,?_⟩
 ·exact(AA _ _ _ (by show P≠P+1+1+1+1;omega)).trans ((hk _ (by omega)).trans h.h0)
 ·exact(AA _ _ _ (by show P+1+1≠P+1+1+1+1;omega)).trans ((hk _ (by omega)).trans h.h2)
 ·exact(AA _ _ _ (by show P+1+1+1≠P+1+1+1+1;omega)).trans ((hk _ (by omega)).trans h.h3)
 ·exact Eh ((hk _ (by omega)).trans h.h4) 0 _
 ·rw[l6,oW];refine AS (by simpa using qD) (fun b hb=>AA _ _ _ (by show b≠P+1+1+1+1;simp only[Value.ownBlock,mD]at hb;omega))
end
theorem Nu (t:Tk):(Uz t).length=7:=rfl
theorem dw {l:List Tk} {i j:Nat} {t:Tk} {v:Value}(hi:l[i]? =some t) (h:(Uz t)[j]? =some v):(l.flatMap Uz)[i*7+j]? =some v:=by
 have hj:j<7:=(mC.1 h).1
 induction l generalizing i with
 |nil=>cases hi
 |cons a l ih=>
  rw[pK];cases i with
  |zero=>
   simp only[nX,mD]at hi;subst hi;rw[pY (by rw[Nu];omega)];simpa using h
  |succ i=>
   rw[oL (by rw[Nu];omega),Nu,show(i+1)*7+j-7=i*7+j by omega];exact ih (by simpa using hi)
theorem Sj {W:World} {base L cap:Nat} {l:List Tk}(h:W.ownsRow base 71 7 (.slice (some ⟨L,0,none⟩) l.length cap) l.length (l.flatMap Uz)) (i:Nat) (t:Tk) (hi:l[i]? =some t):Nt W L i t.kind (bs t.tx) (bs t.nu) t.bits t.at_ t.en t.ly:=by
 have hl:=(mC.1 hi).1;have key:∀(j:Nat) (v:Value),(Uz t)[j]? =some v->W.cell? ⟨L,i*7+j,none⟩=some v:=fun j v hv=>by
  rw[World.ownsRow.cellAt h (i*7+j) (by have:j<7:=(mC.1 hv).1;omega)];exact dw hi hv
 exact⟨key 0 _ rfl,key 1 _ rfl,key 2 _ rfl,key 3 _ rfl,key 4 _ rfl,key 5 _ rfl,key 6 _ rfl⟩
theorem Jo.aZ {P:Nat} {w W:World} {s:ByteArray} {q:Int} {o lv:Value} {l:List Tk}(h:Jo P w s q o W lv l) (hl:l≠ []):∃L cap,lv= .slice (some ⟨L,0,none⟩) l.length cap/\P+5<=L/\L<W.heap.size:=by
 rcases h.own.2 with⟨_,h0⟩|⟨g,cap,cur,hv,_⟩
 ·exact absurd (List.eq_nil_of_length_eq_zero h0) hl
 ·subst hv;have:=h.own.lt g rfl;exact⟨g,cap,rfl,this.1,this.2⟩
structure Mp (w:World) (s:ByteArray) (o:Value) (O:Am) (F7:Tm->Nat) (G:Tm->Prop):Prop where
 laid:Ag w
 next:∀W (p K E:Nat),Below w.heap.size w W->p<=s.size->Lay s p K E->Calls prog 22 #[.string s,.int .i64 p] W (Dv (Pp s K E) (decide (p<K)) W)
 pre:∀W nm,nm.length<=1000000000->Below w.heap.size w W->Calls prog 95 #[o,.string (bs nm)] W fun e w'=>e= .returned (AM nm (O.pre nm))/\Below W.heap.size W w'
 inf:∀W nm,nm.length<=1000000000->Below w.heap.size w W->Calls prog 42 #[o,.string (bs nm)] W fun e w'=>e= .returned (AM nm (O.inf nm))/\Below W.heap.size W w'
 post:∀W nm,nm.length<=1000000000->Below w.heap.size w W->Calls prog 44 #[o,.string (bs nm)] W fun e w'=>e= .returned (AM nm (O.post nm))/\Below W.heap.size W w'
 pr:∀nm p,O.pre nm=some p\/O.inf nm=some p\/O.post nm=some p->1<=p.pr/\p.pr<=1200
 F7:∀(W:World) (c:Array Value) (S:Nat->Prop) (t:Tm),Below w.heap.size w W->G t->(∀b,S b->b<W.heap.size)->AT W S c.toList t->Calls prog 27 #[.agg c] W fun e w'=>e= .returned (.int .i64 (F7 t))/\Below W.heap.size W w'
def Aw:List (Bs×Nat)->List Nat->List Bs
 |x::l,n::m=>if n=1 then x.1::Aw l m else Aw l m
 |_,_=> []
def YT (x:Bs):List Value:= [.string (bs x)]
def Jp (a:Nat):Array Value:= #[.int .i64 0,.string ⟨#[]⟩,.string ⟨#[]⟩,.int .u64 0,.int .i64 0,.slice none 0 0,.slice none 0 0,.slice none 0 0,.int .i64 a,.bool true]
def Ug (c:Array Value) (nv sv:Value) (n:Nat):Array Value:=c++ #[nv,sv,.int .i64 n,.bool false]
def Ce (s:ByteArray) (w:World) (R:fX) (e:Ending) (w':World):Prop:=Below w.heap.size w w'/\match R with
 | .eof a=>e= .returned (.tuple #[.agg (Jp a),.nilIface])
 | .stop wd a=>∃b,e= .returned (.tuple #[.agg (Ch (DE s a)),.iface 80 (.pointer (some ⟨b+1,0,none⟩))])/\w.heap.size<=b/\w'.heap[b]? =some (.cells (BO wd) 31)/\w'.heap[b+1]? =some (.cells (Aa b) 83)
 | .ok t st n=>∃c nv sv,e= .returned (.tuple #[.agg (Ug c nv sv n),.nilIface])/\AT w' (fun b=>w.heap.size<=b/\b<w'.heap.size) c.toList t/\
   w'.ownsRow w.heap.size 47 2 nv st.names.length (st.names.flatMap QN)/\w'.ownsRow w.heap.size 9 1 sv (Aw st.names st.times).length ((Aw st.names st.times).flatMap YT)
def P8 (a:Nat):Tk:=⟨0,[],[],0,a,a,false⟩
def fL (P:Nat):List Deferred:= [{target:= .fn (.func 20) #[.pointer (some ⟨P,0,none⟩),.pointer (some ⟨P+1+1,0,none⟩),.pointer (some ⟨P+1+1+1,0,none⟩)],args:= #[]}]
theorem Jt (w:World) (g:Nat) (v:Value) (h:w.heap[g]? =some (.cells #[v] 37)):(loadVar 37 ⟨g,0,none⟩).run prog w= .ok v w:=by
 have c1:w.cell? ⟨g,0,none⟩=some v:=by rw[Lib.cell_of_heap h];rfl
 have ha:(isAgg 37).run prog w= .ok false w:=by kernel_rfl
 simp[loadVar,Sem.run_bind,ha];simp[go_sem,c1]
theorem results7 {tmps:Array Value} {w:World} {g k:Nat} {cs:Array Value} {v:Value}(h8:tmps.getD 8 undef= .pointer (some ⟨g,0,none⟩)) (h9:tmps.getD 9 undef= .pointer (some ⟨k,0,none⟩)) (hg:w.heap[g]? =some (.cells cs 35)) (hc:cs.size=10) (hk:w.heap[k]? =some (.cells #[v] 37)):
  (results Tryz.f7 tmps).run prog w= .ok (.tuple #[.agg cs,v]) w:=by
 have h8':tmps[8]?.getD undef= .pointer (some ⟨g,0,none⟩):=by simpa using h8
 have h9':tmps[9]?.getD undef= .pointer (some ⟨k,0,none⟩):=by simpa using h9
 simp[results,results7,h8',h9',asAddr,run_loadVar_row w g 35 35 cs (0,0) _ hg underlying35 rfl (by rw[hc];exact Xq),Jt w k v hk]
theorem GS {P:Program} {fn:Func} {t t':Array Value} {R:Ending->World->Prop}(h:∀w,(results fn t).run P w=(results fn t').run P w):∀(ds:List Deferred) (u:FrameMode) (w:World),Leaves P fn t R ds u w->Leaves P fn t' R ds u w
 | [],.returning,w,hl=>by
  obtain⟨v,h1,h2⟩:=hl;exact⟨v,(h w)▸h1,h2⟩
 | [],.panicking _,_,hl=>hl
 | [],.run,_,hl=>hl
 |d::ds,u,w,hl=>by
  obtain⟨h1,fv,cap,f,args,h2,h3,h4⟩:=hl;refine⟨h1,fv,cap,f,args,h2,h3,h4.mono ?_⟩;intro e u' w' hh;cases e with
  |returned v=>exact GS h ds _ _ hh
  |panicked c=>exact GS h ds _ _ hh
  |outgrown=>exact hh
theorem IL {R:Ending->World->Prop} {c:List PanicEntry} {a:Act} {w:World} {d:Option Tmp} {v:Value}(hd:d≠some 8/\d≠some 9) (h:bodyPostD prog Tryz.f7 R (.panic c) (a.put d v) w):bodyPostD prog Tryz.f7 R (.panic c) a w:=by
 cases d with
 |none=>exact h
 |some d=>
  have h8:d≠8:=fun e=>hd.1 (by rw[e]);have h9:d≠9:=fun e=>hd.2 (by rw[e]);refine GS (fun w=> ?_) _ _ _ h;simp[results,results7,Act.put,Array.getElem?_setIfInBounds_ne h8,Array.getElem?_setIfInBounds_ne h9]
theorem Gj {s:ByteArray} {w W:World} {tmps:Array Value} {wd:ByteArray} {a:Nat}(hs:s.size<=20000000)
  (h:Below w.heap.size w W/\W.heap[w.heap.size]? =some (.cells #[.string s] 9)/\W.heap[w.heap.size+1+1]? =some (.cells (Ch 0) 35)/\W.heap[w.heap.size+1+1+1]? =some (.cells #[.nilIface] 37))
  (h8:tmps.getD 8 undef= .pointer (some ⟨w.heap.size+1+1,0,none⟩)) (h9:tmps.getD 9 undef= .pointer (some ⟨w.heap.size+1+1+1,0,none⟩)):
  bodyPostD prog Tryz.f7 (Ce s w (.stop wd a)) (Exit.panic [{v:=Me wd a,recovered:=false}]) {tmps:=tmps,defers:=fL w.heap.size} W:=by
 obtain⟨hb,k0,k2,k3⟩:=h;unfold fL;refine leaves_cons (f:=20) (args:= #[.pointer (some ⟨w.heap.size,0,none⟩),.pointer (some ⟨w.heap.size+1+1,0,none⟩),.pointer (some ⟨w.heap.size+1+1+1,0,none⟩)]) (by simp) (by simp[go_sem]) ?_;refine(Ra w.heap.size (w.heap.size+1+1) (w.heap.size+1+1+1) s wd a (Ch 0) .nilIface [] W (by omega) k0 k2 rfl k3 (by omega) (by omega) (by omega)).mono ?_;rintro e u' w' ⟨rfl,rfl,hC⟩;obtain⟨b,ql,qM,yi,xB⟩:=hC.ex;show∃v,(results Tryz.f7 tmps).run prog w'= .ok v w'/\_;refine⟨_,results7 h8 h9 hC.res rfl qM,⟨?_,b,rfl,lg hb.size ql,yi,xB⟩⟩;exact hb.trans (hC.kept.below hb.size (fun b hb=>by rintro(e|e)<;>omega))
theorem O0 {s:ByteArray} {w W:World} {tmps:Array Value} {cs:Array Value} {R:fX}(hc:cs.size=10) (h8:tmps.getD 8 undef= .pointer (some ⟨w.heap.size+1+1,0,none⟩)) (h9:tmps.getD 9 undef= .pointer (some ⟨w.heap.size+1+1+1,0,none⟩))
  (k2:W.heap[w.heap.size+1+1]? =some (.cells cs 35)) (k3:W.heap[w.heap.size+1+1+1]? =some (.cells #[.nilIface] 37)) (hR:∀W',Below W.heap.size W W'->Ce s w R (.returned (.tuple #[.agg cs,.nilIface])) W'):
  bodyPostD prog Tryz.f7 (Ce s w R) Exit.ret {tmps:=tmps,defers:=fL w.heap.size} W:=by
 unfold fL;refine leaves_cons (f:=20) (args:= #[.pointer (some ⟨w.heap.size,0,none⟩),.pointer (some ⟨w.heap.size+1+1,0,none⟩),.pointer (some ⟨w.heap.size+1+1+1,0,none⟩)]) (by simp) (by simp[go_sem]) ?_;refine(RW _ _ _ W).mono ?_;rintro e u' w' ⟨rfl,rfl,rfl⟩;have l2:=(lN.1 k2).1;have l3:=(lN.1 k3).1;show∃v,(results Tryz.f7 tmps).run prog _= .ok v _/\_;exact⟨_,results7 h8 h9 ((Lib.alloc_old W _ _ l2).trans k2) hc ((Lib.alloc_old W _ _ l3).trans k3),hR _ (Bzz _)⟩
structure lF (R:TR) (ly:Bool) (t:Tk):Prop where
 v:TR.gq R ly=Fk t
 er:TR.er R=0
theorem Ct.opened {s:ByteArray} {p:Nat} {l:List Tk} {r:Option (Nat×Nat)}(h:Ct s p l r) (hp:p<=s.size):
  (∃K E n a,Lay s p K E/\Pp s K E= .err a n/\l= []/\r=some (n,a))\/
  (∃K E t l2,Lay s p K E/\lF (Pp s K E) (decide (p<K)) t/\YR s t/\l=t::l2/\((l2= []/\r=none/\(t.kind=9\/t.kind=10))\/(t.kind≠9/\t.kind≠10/\Ct s t.en l2 r/\p<t.en/\t.en<=s.size))):=by
 cases h with
 |err hL hX=>exact .inl ⟨_,_,_,_,hL,hX,rfl,rfl⟩
 |last hL hX hk=>
  refine .inr ⟨_,_,_,[],hL,?_,YR.of (Fp hp hL hX).1 _,rfl,.inl ⟨rfl,rfl,hk⟩⟩;rw[hX];exact⟨rfl,rfl⟩
 |next hL hX h9 sD h=>
  have hg:=Fp hp hL hX;refine .inr ⟨_,_,_,_,hL,?_,YR.of hg.1 _,rfl,.inr ⟨h9,sD,h,?_,hg.1.le⟩⟩
  ·rw[hX];exact⟨rfl,rfl⟩
  ·have h1:=hg.1.fwd sD;show p<_;exact mG hg.2 h1
section
variable {P:Program} {ops:Array Oper} {Q:Exit->Act->World->Prop} {md:Region.Mode} {S:World->Prop} {fuel:Nat} {listed:Array Bool} {a:Act} {w:World} {oi:Oper}
theorem iy (i:Nat) (v:Value) (hi:ops[i]? =some oi) (hS:S w) (hy:∀W,S W->(execOp a.eval oi).run P W= .ok (.value v) W) (h:wpAnyH P md ops Q S fuel (listed.setIfInBounds i true) (a.put oi.dst v) w)
  (hw:Region.wanted oi (yielded ops a.tmps)=true:=by rfl) (h1:Region.noSelect ops=true:=by kernel_rfl) (h2:Region.free md ops listed i=true:=by kernel_rfl) (h3:(Region.ready md ops listed).contains i=true:=by kernel_rfl)
  (hQ:∀c a w,Q (.panic c) (a.put oi.dst v) w->Q (.panic c) a w:=by exact fun _ _ _ h=>IL (by decide) h):wpAnyH P md ops Q S (fuel+1) listed a w:=
 wpAnyH_take hi h1 h2 h3 hQ (.inl ⟨hw,hy⟩) hS h
theorem Gm (i:Nat) (v:Value) (hi:ops[i]? =some oi) (hS:S w) (h:wpAnyH P md ops Q S fuel (listed.setIfInBounds i true) (a.put oi.dst v) w)
  (hy:∀W,S W->(execOp a.eval oi).run P W= .ok (.value v) W:=by intro W hSW;go_simp)
  (hw:Region.wanted oi (yielded ops a.tmps)=true:=by rfl) (h1:Region.noSelect ops=true:=by kernel_rfl) (h2:Region.free md ops listed i=true:=by kernel_rfl) (h3:(Region.ready md ops listed).contains i=true:=by kernel_rfl)
  (hQ:∀c a w,Q (.panic c) (a.put oi.dst v) w->Q (.panic c) a w:=by exact fun _ _ _ h=>IL (by decide) h):wpAnyH P md ops Q S (fuel+1) listed a w:=
 wpAnyH_take hi h1 h2 h3 hQ (.inl ⟨hw,hy⟩) hS h
end
end Go.Proofs
