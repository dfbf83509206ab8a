import Derived.Test.YtpocgkiamgipdaaGreatDoorSfB
set_option maxRecDepth 1000000
set_option maxHeartbeats 0
set_option linter.unusedVariables false
set_option linter.unusedSimpArgs false
open Go.Proofs.Tryz
namespace Go.Lx
open Go.Hb Go.Rb Go.Bg Go.Pf Go.Proofs
structure ov (n:Nat) (b J:ByteArray):Prop where
 size:J.size=n+b.size
 AI:∀p,AI J (n+p)=AI b p
 ext:∀f t,J.extract (n+f) (n+t)=b.extract f t
theorem AAz (x b:ByteArray):ov x.size b (x++b):=by
 have e:∀p,(x++b).data.toList.getD (x.size+p) 0=b.data.toList.getD p 0:=fun p=>by
  have h:(x++b).data.toList=x.data.toList++b.data.toList:=by rw[ByteArray.data_append,Array.toList_append]
  rw[h,lZ,lZ,oL (by simp),show x.size+p-x.data.toList.length=p by simp]
 refine⟨ByteArray.size_append ..,fun p=> ?_,fun f t=> ?_⟩
 ·unfold AI;rw[e]
 ·apply pH;apply po.1;have h:(x++b).data.toList=x.data.toList++b.data.toList:=by rw[ByteArray.data_append,Array.toList_append]
  rw[oG,oG,h,List.drop_append,show x.size+t-(x.size+f)=t-f by omega,ot (by simp),List.nil_append,show x.size+f-x.data.toList.length=f by simp]
variable {n:Nat} {b J:ByteArray}
theorem AAu (h:ov n b J) (p:Nat->Bool):∀k a,ED p J k (n+a)=n+ED p b k a
 |0,_=>rfl
 |k+1,a=>by
  have hz:=h.size;rw[ED,ED];by_cases ha:a<b.size
  ·have hj:n+a<J.size:=by omega
   rw[dif_pos ha,dif_pos hj];have e:J[n+a].toNat=b[a].toNat:=by
    have h1:=h.AI a;rw[AP b a ha,AP J (n+a) hj]at h1;omega
   rw[e];by_cases hp:p b[a].toNat=true
   ·rw[lQ hp,lQ hp,oX];exact AAu h p k (a+1)
   ·rw[lL hp,lL hp]
  ·rw[dif_neg ha,dif_neg (by omega)]
theorem C9 (h:ov n b J) (p:Nat->Bool) (a:Nat):AF p J (n+a)=n+AF p b a:=by
 unfold AF;rw[show J.size-(n+a)=b.size-a by have:=h.size;omega];exact AAu h p _ a
theorem AAV (h:ov n b J) (r f:Nat):∀k,Fx r J (n+f) k=Fx r b f k
 |0=>rfl
 |k+1=>by rw[Fx,Fx,AAV h r f k,oX,h.AI]
theorem ABT (h:ov n b J) (r:Nat) (p:Nat->Bool) (f:Nat):I7 r p J (n+f)=(I7 r p b f).map fun x=>(x.1,n+x.2):=by
 unfold I7;rw[C9 h,h.AI,show n+AF p b f-(n+f)=AF p b f-f by omega,AAV h];by_cases h1:AF p b f=f\/AI b (AF p b f)≠92
 ·rw[lQ h1,lQ (by omega)];rfl
 ·rw[lL h1,lL (by omega)];split
  ·rw[oX];rfl
  ·rfl
theorem AAo (h:ov n b J) (p:Nat):FQ J (n+p)=(FQ b p).map fun x=>(x.1,n+x.2):=by
 have hz:=h.size;unfold FQ;simp only[oX,h.AI,hz,Nat.add_lt_add_iff_left,ABT h];split
 ·rfl
 ·split<;>rfl
theorem AA7 (h:ov n b J) (p:Nat) (v m:Int):D4 J (n+p) v m↔D4 b p v m:=by
 have hz:=h.size;unfold D4;rw[oX,oX,oX,h.AI,h.AI,h.AI,h.AI,show(n+p<J.size)=(p<b.size) by rw[eq_iff_iff];omega]
theorem ABC (h:ov n b J) (p:Nat):FO J (n+p)=FO b p:=by
 rcases Iu b p with⟨v,m,h1,h2⟩|⟨h1,h2⟩
 ·rw[h2,LC ((AA7 h p v m).2 h1)]
 ·rw[h2,LU (fun v m hc=>h1 v m ((AA7 h p v m).1 hc))]
def TR.shf (n:Nat):TR->TR
 | .ok k tx nu bits a en=> .ok k tx nu bits (n+a) (n+en)
 | .err p m=> .err (n+p) m
theorem AAq (h:ov n b J) (a:Nat):De J (n+a)=(De b a).map (TR.shf n):=by
 have hz:=h.size;unfold De;simp only[oX,h.AI,hz,Nat.add_le_add_iff_left,AAo h,ABC h];split
 ·rfl
 ·split
  ·split
   ·rfl
   ·rfl
  ·split
   ·cases FQ b (a+2)with
    |none=>rfl
    |some x=>rfl
   ·cases FO b (a+2)with
    |none=>rfl
    |some x=>rfl
theorem C7 (n:Nat){c d:Prop} [Decidable c] [Decidable d] (h:c↔d){A B A' B':TR}(hA:A=TR.shf n A') (hB:B=TR.shf n B'):(if c then A else B)=TR.shf n (if d then A' else B'):=by
 by_cases hd:d
 ·rw[lQ hd,lQ (h.2 hd)];exact hA
 ·rw[lL hd,lL (fun hc=>hd (h.1 hc))];exact hB
theorem AAs (h:ov n b J) (a f t r:Nat):Cy J (n+a) (n+f) (n+t) r=TR.shf n (Cy b a f t r):=by
 unfold Cy;rw[h.ext]
 with_reducible exact C7 n Iff.rfl rfl rfl
theorem ABl (h:ov n b J) (a p:Nat):IS J (n+a) (n+p)=IS b a p:=by
 unfold IS;rw[h.ext,oX,C9 h,h.ext]
theorem AAx (h:ov n b J) (a p t:Nat) (x:Int):Hr J (n+a) (n+p) x (n+t)=TR.shf n (Hr b a p x t):=by
 unfold Hr;rw[ABl h,oX,C9 h,show x-(((n+AF AQ b (p+1):Nat):Int)-((n+p:Nat):Int)-1)=x-((AF AQ b (p+1):Int)-p-1) by omega];refine C7 n (by omega) rfl ?_;exact C7 n Iff.rfl rfl rfl
theorem AAU (h:ov n b J) (e:Nat):Ht J (n+e)=n+Ht b e:=by
 unfold Ht;simp only[oX,h.AI];split<;>rfl
theorem ABi (h:ov n b J) (e:Nat):Gs J (n+e)↔Gs b e:=by
 unfold Gs;rw[AAU h,C9 h,h.AI];constructor
 ·exact fun k=>⟨k.1,by have:=k.2;omega⟩
 ·exact fun k=>⟨k.1,by have:=k.2;omega⟩
theorem ABS (h:ov n b J) (e:Nat):iG J (n+e)=iG b e:=by
 unfold iG;rw[AAU h,C9 h,AAV h,show n+AF AQ b (Ht b e)-(n+Ht b e)=AF AQ b (Ht b e)-Ht b e by omega];simp only[oX,h.AI]
theorem ABZ (h:ov n b J) (a p:Nat):Ek J (n+a) (n+p)=TR.shf n (Ek b a p):=by
 unfold Ek;rw[oX,C9 h,AAU h,ABS h,C9 h];refine C7 n (ABi h _) ?_ (AAx h ..);exact C7 n (by omega) rfl (AAx h ..)
theorem ABd (h:ov n b J) (a:Nat):E4 J (n+a)↔E4 b a:=by
 unfold E4;rw[C9 h,oX,h.AI,h.AI]
theorem ABe (h:ov n b J) (a:Nat):GL J (n+a)=TR.shf n (GL b a):=by
 have uD:(if E4 J (n+a)then Ek J (n+a) (AF AQ J (n+a))else Cy J (n+a) (n+a) (AF AQ J (n+a)) 10)=TR.shf n (if E4 b a then Ek b a (AF AQ b a)else Cy b a a (AF AQ b a) 10):=by
  rw[C9 h];exact C7 n (ABd h a) (ABZ h ..) (AAs h ..)
 have b0:=h.AI a;have b1:=h.AI (a+1);rw[<-oX]at b1;have hrad:∀{c r:Nat} {p:Nat->Bool},AI b a=48->((c=98/\r=2/\p=Fh)\/(c=111/\r=8/\p=Cr)\/(c=120/\r=16/\p=A9))->AI b (a+1)=c->GL J (n+a)=TR.shf n (GL b a):=fun {c r p} h0 hc h1=>by
  rw[J7 (by rw[b0];exact h0) hc (by rw[b1];exact h1),J7 h0 hc h1,uD,oX,C9 h];exact C7 n (by omega) (AAs h ..) rfl
 rcases hc:De b a with _|R
 ·have hcJ:De J (n+a)=none:=by rw[AAq h,hc];rfl
  by_cases h2:AI b a=48/\(AI b (a+1)=98\/AI b (a+1)=111\/AI b (a+1)=120)
  ·obtain⟨h0,h3|h3|h3⟩:=h2
   ·exact hrad h0 (c:=98) (.inl ⟨rfl,rfl,rfl⟩) h3
   ·exact hrad h0 (c:=111) (.inr (.inl ⟨rfl,rfl,rfl⟩)) h3
   ·exact hrad h0 (c:=120) (.inr (.inr ⟨rfl,rfl,rfl⟩)) h3
  ·rw[IF hcJ (by rw[b0,b1];exact h2),IF hc h2];exact uD
 ·rw[SM hc,SM (R:=TR.shf n R) (by rw[AAq h,hc];rfl)]
end Go.Lx
namespace Go.Lx
open Go.Hb Go.Rb Go.Bg Go.Pf Go.Proofs
variable {n:Nat} {b J:ByteArray}
def ACO (n:Nat):TR⊕(Nat×List UInt8)->TR⊕(Nat×List UInt8)
 | .inl R=> .inl (TR.shf n R)
 | .inr (p,o)=> .inr (n+p,o)
theorem ABY (h:ov n b J) (a q p:Nat) (out:List UInt8):Dd J (n+a) q (n+p) out=ACO n (Dd b a q p out):=by
 have hz:=h.size;unfold Dd;simp only[oX,h.AI,hz,Nat.add_le_add_iff_left,Nat.add_lt_add_iff_left,AAo h,ABC h];split
 ·rfl
 ·cases FO b p with
  |none=>rfl
  |some x=>
   obtain⟨v,m⟩:=x;simp only;split
   ·rfl
   ·split
    ·split
     ·rfl
     ·split<;>rfl
    ·split
     ·split
      ·rfl
      ·cases FQ b p with
       |none=>rfl
       |some y=>rfl
     ·rfl
theorem AAw (h:ov n b J) (a q:Nat):∀(f p:Nat) (out:List UInt8),Gv J (n+a) q f (n+p) out=TR.shf n (Gv b a q f p out)
 |0,_,_=>rfl
 |f+1,p,out=>by
  rw[Gv,Gv,ABY h];cases Dd b a q p out with
  |inl R=>rfl
  |inr x=>exact AAw h a q f x.1 x.2
theorem ABV (h:ov n b J) (a q p:Nat) (out:List UInt8):Cz J (n+a) q (n+p) out=TR.shf n (Cz b a q p out):=by
 unfold Cz;rw[show J.size+1-(n+p)=b.size+1-p by have:=h.size;omega];exact AAw h ..
theorem ABW (h:ov n b J) (k a t:Nat):Cw J k (n+a) (n+t)=TR.shf n (Cw b k a t):=by
 unfold Cw;rw[h.ext];exact C7 n (by omega) rfl rfl
theorem AAb (h:ov n b J) (a:Nat):Dy J (n+a)=TR.shf n (Dy b a):=by
 have hz:=h.size;unfold Dy;simp only[oX,h.AI,C9 h,ABe h,ABV h,ABW h];refine C7 n (by omega) rfl ?_;refine C7 n Iff.rfl rfl ?_;refine C7 n Iff.rfl rfl ?_;refine C7 n Iff.rfl rfl ?_;refine C7 n Iff.rfl rfl ?_;refine C7 n Iff.rfl ?_ ?_
 ·refine C7 n ?_ rfl rfl;constructor
  ·rintro⟨h1,h2,h3⟩;exact⟨by omega,h2,by rcases h3 with h3|h3;exact .inl (by omega);exact .inr h3⟩
  ·rintro⟨h1,h2,h3⟩;exact⟨by omega,h2,by rcases h3 with h3|h3;exact .inl (by omega);exact .inr h3⟩
 ·refine C7 n Iff.rfl rfl ?_;exact C7 n Iff.rfl rfl rfl
theorem AAy (h:ov n b J):∀k a,UG J k (n+a)=n+UG b k a
 |0,_=>rfl
 |k+1,a=>by
  have hz:=h.size;rw[UG,UG];simp only[oX,h.AI,hz,Nat.add_lt_add_iff_left];split
  ·split
   ·rfl
   ·exact AAy h k (a+1)
  ·rfl
theorem ABj (h:ov n b J) (a:Nat):Dz J (n+a)=n+Dz b a:=by
 unfold Dz;rw[show J.size-(n+a)=b.size-a by have:=h.size;omega];exact AAy h _ a
def ACN (n:Nat):j4->j4
 | .stop=> .stop
 | .Si=> .Si
 | .JI t=> .JI (n+t)
theorem gg (h:ov n b J) (p:Nat):DM J (n+p)=ACN n (DM b p):=by
 have hz:=h.size;unfold DM;simp only[oX,h.AI,C9 h,ABj h,hz,Nat.add_lt_add_iff_left];split
 ·rfl
 ·split
  ·show j4.JI _=j4.JI _;congr 1;omega
  ·split
   ·split<;>rfl
   ·rfl
theorem ABh {x y:ByteArray}(hz:y.size=n+x.size) (hb:∀p,AI y (n+p)=AI x p) (p:Nat) (v m:Int):D4 y (n+p) v m↔D4 x p v m:=by
 unfold D4;rw[oX,oX,oX,hb,hb,hb,hb,show(n+p<y.size)=(p<x.size) by rw[eq_iff_iff];omega]
theorem ABG (h:ov n b J){t:Nat}(ht:t<=b.size){p:Nat} {r:Int}(hr:Bc (b.extract 0 t) p r):Bc (J.extract 0 (n+t)) (n+p) (if r= -1 then-1 else n+r):=by
 have hz:=h.size;have z1:(b.extract 0 t).size=t:=by rw[l8];omega
 have z2:(J.extract 0 (n+t)).size=n+t:=by rw[l8];omega
 have hs:∀q v m,D4 (J.extract 0 (n+t)) (n+q) v m↔D4 (b.extract 0 t) q v m:=ABh (by omega) (fun q=>by
  rcases ls q t with h1|h1
  ·rw[ET (by omega) (by omega),ET ht h1,h.AI]
  ·rw[JN (by omega) (by omega),JN ht h1])
 induction hr with
 |done h1=>rw[lQ rfl];exact .done (by omega)
 |bad h1 h2=>
  rename_i q;rw[lL (by omega),show(n:Int)+(q:Int)=((n+q:Nat):Int) by omega];exact .bad (by omega) (fun v m hc=>h2 v m ((hs q v m).1 hc))
 |step h1 _ ih=>
  refine .step ((hs _ _ _).2 h1) ?_;rw[oX];exact ih
theorem ABI (h:ov n b J){p K E:Nat}(hl:Lay b p K E):Lay J (n+p) (n+K) E:=by
 have hz:=h.size
 induction hl with
 |done h1=>exact .done (by omega)
 |stop h1 h2=>exact .stop (by omega) (by rw[gg h,h2];rfl)
 |Si h1 h2=>exact .Si (by omega) (by rw[gg h,h2];rfl)
 |bad h1 h2 h3=>
  rename_i p t r;have hb:=Ex h1 h2;have h4:=ABG h hb.2 h3;rw[lL (by omega),show(n:Int)+(r:Int)=((n+r:Nat):Int) by omega]at h4;exact .bad (by omega) (by rw[gg h,h2];rfl) h4
 |step h1 h2 h3 _ ih=>
  have hb:=Ex h1 h2;have h4:=ABG h hb.2 h3;rw[lQ rfl]at h4;exact .step (by omega) (by rw[gg h,h2];rfl) h4 ih
end Go.Lx
namespace Go.Pz
def strip (t:Tk):Tk:= {t with at_:=0,en:=0}
def Rz.C8 {α:Type}(x:Rz α):Rz α:=match x with
 | .ok a=> .ok a
 | .stop w _=> .stop w 0
theorem Rz.G7 {α β:Type}(x:Rz α) (f:α->Rz β):(x.bind f).C8=x.C8.bind fun a=>(f a).C8:=by
 cases x<;>rfl
theorem Rz.OA {α:Type}(c:Prop) [Decidable c] (x y:Rz α):(if c then x else y).C8=if c then x.C8 else y.C8:=by
 split<;>rfl
section
variable (ts:List Tk) (O:Am) (quotes:Int) (tx:Bs->Int->Tm)
theorem o7 (k:Nat):(ts.map strip).getD k default=strip (ts.getD k default):=by
 rw[lZ,lZ,mj];cases ts[k]? <;>rfl
theorem GO (s:RS):now (ts.map strip) s=strip (now ts s):=o7 ts s.k
theorem AAf (s:RS) (n:Nat):Jc (ts.map strip) s n=strip (Jc ts s n):=by
 unfold Jc;rw[nN];split
 ·exact o7 ts _
 ·exact o7 ts _
theorem NV (t:Tk) (c:UInt8):AG (strip t) c=AG t c:=rfl
theorem AAL (t:Tk):Cb (strip t)=Cb t:=rfl
theorem AAS {α:Type}(s:RS):stuck (α:=α) (ts.map strip) s=(stuck (α:=α) ts s).C8:=by
 unfold stuck;rw[GO];rfl
theorem AAX (s:RS) (c:UInt8):pass (ts.map strip) s c=(pass ts s c).C8:=by
 unfold pass;rw[GO,NV,AAS,Rz.OA];rfl
theorem AAj (s:RS):DJ (ts.map strip) O s=DJ ts O s:=by
 unfold DJ;rw[GO,AAf];rfl
theorem AAg (n:Nat):
  (∀s most,Ay (ts.map strip) O quotes tx n s most=(Ay ts O quotes tx n s most).C8)/\
  (∀s most x p,CQ (ts.map strip) O quotes tx n s most x p=(CQ ts O quotes tx n s most x p).C8)/\
  (∀s,Ba (ts.map strip) O quotes tx n s=(Ba ts O quotes tx n s).C8)/\
  (∀s most,A6 (ts.map strip) O quotes tx n s most=(A6 ts O quotes tx n s most).C8)/\
  (∀s nm tk most,Aq (ts.map strip) O quotes tx n s nm (strip tk) most=(Aq ts O quotes tx n s nm tk most).C8):=by
 induction n with
 |zero=>
  refine⟨?_,?_,?_,?_,?_⟩
  ·intro s most;simp only[Ay];rfl
  ·intro s most x p;simp only[CQ];rfl
  ·intro s;simp only[Ba];rfl
  ·intro s most;simp only[A6];rfl
  ·intro s nm tk most;simp only[Aq];rfl
 |succ n ih=>
  obtain⟨iT,iL,iI,iE,iN⟩:=ih;refine⟨?_,?_,?_,?_,?_⟩
  ·intro s most;simp only[Ay,Rz.G7,iE,iL]
  ·intro s most x p;simp only[CQ,GO,NV,AAL];rw[Rz.OA];congr 1;show(match(O.inf (now ts s).tx).filter _ with|some o=>_|none=>_)=_;cases (O.inf (now ts s).tx).filter (fun o=>decide (o.pr<=most)&&decide (p<=D5 o))with
   |some o=>simp only[Rz.G7,iT,iL];rfl
   |none=>
    show(match(O.post (now ts s).tx).filter _ with|some o=>_|none=>_)=_;cases (O.post (now ts s).tx).filter (fun o=>decide (o.pr<=most)&&decide (p<=D5 o))with
    |some o=>simp only[iL];rfl
    |none=>rfl
  ·intro s;simp only[Ba,Rz.G7,iT,iI,GO,NV,Rz.OA];rfl
  ·intro s most;simp only[A6,Rz.G7,iT,iI,iN,GO,AAf,NV,AAL,Rz.OA,AAX,AAS];rfl
  ·intro s nm tk most;simp only[Aq,Rz.G7,iI,GO,NV,Rz.OA,AAX,AAj];congr 1;congr 1;cases (O.pre nm).filter (fun o=>decide (o.pr<=most)&&DJ ts O s)with
   |some o=>simp only[Rz.G7,iT];rfl
   |none=>rfl
theorem AA2 {ts ts':List Tk}(h:ts.map strip=ts'.map strip) (n:Nat) (s:RS) (most:Int):(Ay ts O quotes tx n s most).C8=(Ay ts' O quotes tx n s most).C8:=by
 rw[<-(AAg ts O quotes tx n).1,h,(AAg ts' O quotes tx n).1]
end
end Go.Pz
namespace Go.Lx
open Go.Hb Go.Rb Go.Bg Go.Pf Go.Proofs
theorem KB (x y:ByteArray) (i:Nat):AI (x++y) i=if i<x.size then AI x i else AI y (i-x.size):=by
 unfold AI;have h:(x++y).data.toList=x.data.toList++y.data.toList:=by rw[ByteArray.data_append,Array.toList_append]
 rw[h,lZ,lZ,lZ];have hz:x.data.toList.length=x.size:=by simp
 split
 ·rename_i h1;rw[pY (by omega)]
 ·rename_i h1;rw[oL (by omega),hz]
theorem AB0 {x y:ByteArray} {t:Nat}(ht:t<=x.size):(x++y).extract 0 t=x.extract 0 t:=by
 apply pH;apply po.1;rw[oG,oG,ByteArray.data_append,Array.toList_append,nI,nI,List.take_append_of_le_length (by simp;omega)]
theorem ABm {x y:ByteArray} {q:Nat->Bool} :∀(k f:Nat),x.size-f=k->AF q x f<x.size->AF q (x++y) f=AF q x f:=by
 intro k
 induction k with
 |zero=>
  intro f h1 h2;have:=BN q x f;omega
 |succ k ih=>
  intro f h1 h2;have hf:f<x.size:=by omega
  have hz:(x++y).size=x.size+y.size:=ByteArray.size_append ..;have hj:f<(x++y).size:=by omega
  have h3:=KB x y f;rw[lQ hf,AP _ _ hj,AP _ _ hf]at h3;have h4:(x++y)[f].toNat=x[f].toNat:=by omega
  cases hq:q x[f].toNat with
  |true=>
   rw[Bb hf hq]at h2⊢;rw[Bb hj (by rw[h4];exact hq)];exact ih (f+1) (by omega) h2
  |false=>rw[Cu hf hq,Cu hj (by rw[h4];exact hq)]
theorem AAp {x y:ByteArray} :∀k g p:Nat,x.size<=p+k->k<=g->UG x k p+1<x.size->UG (x++y) g p=UG x k p
 |0,_,p,h1,_,h3=>by rw[UG]at h3;omega
 |k+1,0,_,_,h2,_=>by omega
 |k+1,g+1,p,h1,h2,h3=>by
  have hz:(x++y).size=x.size+y.size:=ByteArray.size_append ..;rw[UG]at h3⊢;rw[UG];by_cases h4:p+1<x.size
  ·rw[lQ h4]at h3;rw[lQ h4,lQ (by omega),KB,lQ (show p<x.size by omega),KB,lQ h4];by_cases h5:AI x p=42/\AI x (p+1)=47
   ·rw[lQ h5,lQ h5]
   ·rw[lL h5]at h3;rw[lL h5,lL h5];exact AAp k g (p+1) (by omega) (by omega) h3
  ·rw[lL h4]at h3;omega
theorem ABL {x y:ByteArray} {p t:Nat}(hp:p<x.size) (h37:AI x p=37->AF (U2 10) x p<x.size) (h:DM x p= .JI t):DM (x++y) p= .JI t:=by
 have hz:(x++y).size=x.size+y.size:=ByteArray.size_append ..;have h0:AI (x++y) p=AI x p:=by rw[KB,lQ hp]
 unfold DM at h⊢;rw[h0];by_cases h1:JO (AI x p).toNat=true
 ·rw[lQ h1]at h⊢;exact h
 rw[lL h1]at h⊢;by_cases h2:AI x p=37
 ·rw[lQ h2]at h⊢;have h3:=h37 h2;rw[ABm _ p rfl h3];simp only[j4.JI.injEq]at h⊢;omega
 rw[lL h2]at h⊢;by_cases h3:AI x p=47/\AI x (p+1)=42
 ·have h4:p+1<x.size:=by
   rcases ls (p+1) x.size with k|k
   ·exact k
   ·have:=h3.2;rw[Ax x _ k]at this;omega
  rw[lQ h3]at h;rw[lQ (show AI x p=47/\AI (x++y) (p+1)=42 by rw[KB,lQ h4];exact h3)];by_cases h5:Dz x (p+2)+1<x.size
  ·rw[lQ h5]at h;have h6:Dz (x++y) (p+2)=Dz x (p+2):=by
    unfold Dz at h5⊢;exact AAp _ _ _ (by omega) (by omega) h5
   rw[h6,lQ (by omega)];exact h
  ·rw[lL h5]at h;cases h
 ·rw[lL h3]at h;cases h
theorem ABc {x y:ByteArray}(h:DM y 0= .stop):DM (x++y) x.size= .stop:=by
 have h0:AI (x++y) x.size=AI y 0:=by rw[KB,lL (by omega),oj]
 have h1:AI (x++y) (x.size+1)=AI y (0+1):=by rw[KB,lL (by omega)];congr 1;omega
 unfold DM at h⊢;rw[h0];split at h
 ·cases h
 ·rename_i k1;rw[lL k1];split at h
  ·cases h
  ·rename_i k2;rw[lL k2];split at h
   ·split at h<;>cases h
   ·rename_i k3;rw[lL (by rw[h1];exact k3)]
theorem jb {x y:ByteArray}(hy:y.size=0\/DM y 0= .stop) (h37:∀p,p<x.size->AI x p=37->AF (U2 10) x p<x.size){p K E:Nat}(h:Lay x p K E):E=0->K=x.size->p<=x.size->Lay (x++y) p x.size 0:=by
 have hz:(x++y).size=x.size+y.size:=ByteArray.size_append ..
 induction h with
 |done h1=>
  intro _ h2 h3;rw[h2];rcases hy with hy|hy
  ·exact .done (by omega)
  ·rcases mh y.size with h4|h4
   ·exact .done (by omega)
   ·exact .stop (by omega) (ABc hy)
 |stop h1 _=>intro _ h2 _;omega
 |Si _ _=>intro h;cases h
 |bad _ _ _=>intro h;cases h
 |step h1 h2 h3 _ ih=>
  intro hE hK hp;have hb:=Ex h1 h2;exact .step (by omega) (ABL h1 (h37 _ h1) h2) (by rw[AB0 hb.2];exact h3) (ih hE hK hb.2)
theorem ABr {s:ByteArray}(h:∀i,i<s.size->AI s i<128):∀(k p:Nat),s.size-p=k->Bc s p (-1):=by
 intro k
 induction k with
 |zero=>intro p hp;exact .done (by omega)
 |succ k ih=>
  intro p hp;exact .step (m:=1) (Jx (by omega) (h p (by omega))) (ih (p+1) (by omega))
theorem G8 {s:ByteArray}(h:(List.range s.size).all (fun i=>decide (AI s i<128))=true) (t p:Nat) (ht:t<=s.size):Bc (s.extract 0 t) p (-1):=by
 refine ABr (fun i hi=> ?_) _ p rfl;have hz:(s.extract 0 t).size=t:=by rw[l8];omega
 have h1:AI (s.extract 0 t) i=AI s i:=by
  rw[AP _ _ hi,AP _ _ (by omega),ByteArray.getElem_extract];simp
 rw[h1];exact lh (nS.1 h i (pX.2 (by omega)))
structure AAM (lay:ByteArray):Prop where
 pos:0<lay.size
 first:JO (AI lay 0).toNat=true\/AI lay 0=37
 lay:∀C:ByteArray,C.size=0\/DM C 0= .stop->Lay (lay++C) 0 lay.size 0
theorem AAR {x:ByteArray}(h:(List.range x.size).all (fun p=> !decide (AI x p=37)||Nat.blt (AF (U2 10) x p) x.size)=true):∀p,p<x.size->AI x p=37->AF (U2 10) x p<x.size:=fun p hp h1=>by
 have h2:=nS.1 h p (pX.2 hp);rw[lU h1]at h2;simpa using h2
def ACK:List ByteArray:= [⟨#[32]⟩,⟨#[10]⟩,⟨#[9,32,10]⟩,⟨#[32,47,42,32,46,32,42,47]⟩,⟨#[37,32,120,46,32,121,10]⟩,⟨#[32,47,42,32,42,32,47,32,42,47,32]⟩]
theorem ACF:AAM ⟨#[32]⟩:=⟨by decide,.inl rfl,fun C hC=>jb hC (AAR (by kernel_rfl)) (.step (t:=1) (by decide) (by kernel_rfl) (G8 (by kernel_rfl) _ _ (by decide)) (.done (lM 1))) rfl rfl (mK _)⟩
theorem ACE:AAM ⟨#[10]⟩:=⟨by decide,.inl rfl,fun C hC=>jb hC (AAR (by kernel_rfl)) (.step (t:=1) (by decide) (by kernel_rfl) (G8 (by kernel_rfl) _ _ (by decide)) (.done (lM 1))) rfl rfl (mK _)⟩
theorem ACI:AAM ⟨#[9,32,10]⟩:=⟨by decide,.inl rfl,fun C hC=>jb hC (AAR (by kernel_rfl)) (.step (t:=1) (by decide) (by kernel_rfl) (G8 (by kernel_rfl) _ _ (by decide)) (.step (t:=2) (by decide) (by kernel_rfl) (G8 (by kernel_rfl) _ _ (by decide)) (.step (t:=3) (by decide) (by kernel_rfl) (G8 (by kernel_rfl) _ _ (by decide)) (.done (lM 3))))) rfl rfl (mK _)⟩
theorem ACH:AAM ⟨#[32,47,42,32,46,32,42,47]⟩:=⟨by decide,.inl rfl,fun C hC=>jb hC (AAR (by kernel_rfl)) (.step (t:=1) (by decide) (by kernel_rfl) (G8 (by kernel_rfl) _ _ (by decide)) (.step (t:=8) (by decide) (by kernel_rfl) (G8 (by kernel_rfl) _ _ (by decide)) (.done (lM 8)))) rfl rfl (mK _)⟩
theorem ACD:AAM ⟨#[37,32,120,46,32,121,10]⟩:=⟨by decide,.inr rfl,fun C hC=>jb hC (AAR (by kernel_rfl)) (.step (t:=7) (by decide) (by kernel_rfl) (G8 (by kernel_rfl) _ _ (by decide)) (.done (lM 7))) rfl rfl (mK _)⟩
theorem ACJ:AAM ⟨#[32,47,42,32,42,32,47,32,42,47,32]⟩:=⟨by decide,.inl rfl,fun C hC=>jb hC (AAR (by kernel_rfl)) (.step (t:=1) (by decide) (by kernel_rfl) (G8 (by kernel_rfl) _ _ (by decide)) (.step (t:=10) (by decide) (by kernel_rfl) (G8 (by kernel_rfl) _ _ (by decide)) (.step (t:=11) (by decide) (by kernel_rfl) (G8 (by kernel_rfl) _ _ (by decide)) (.done (lM 11))))) rfl rfl (mK _)⟩
end Go.Lx
namespace Go.Lx
open Go.Hb Go.Rb Go.Bg Go.Pf Go.Proofs Go.Pz
theorem jv {s:ByteArray} {a b i:Nat}(hb:b<=s.size) (h:a+i<b):AI (s.extract a b) i=AI s (a+i):=by
 have hz:i<(s.extract a b).size:=by rw[l8];omega
 rw[AP _ _ hz,AP _ _ (by omega),ByteArray.getElem_extract]
theorem AA5 {A B:ByteArray} {t:Nat}(ha:t<=A.size) (hb:t<=B.size) (h:∀p,p<t->AI B p=AI A p) (f:Nat):B.extract f t=A.extract f t:=by
 apply ByteArray.ext_getElem
 ·rw[l8,l8];omega
 ·intro i h1 h2;rw[l8]at h1;rw[ByteArray.getElem_extract,ByteArray.getElem_extract];have h3:=h (f+i) (by omega);rw[AP _ _ (by omega),AP _ _ (by omega)]at h3;exact qB.1 (by omega)
theorem Sm.of {A B:ByteArray} {m:Nat}(sa:m<=A.size) (sb:m<=B.size) (bt:∀p,p<m->AI B p=AI A p) (x:cv (AI A m)\/AI A m=47) (y:cv (AI B m))
  (xe:m=A.size\/JO (AI A m).toNat=true\/AI A m=37\/AI A m=47) (ye:m=B.size\/JO (AI B m).toNat=true\/AI B m=37):Sm A B m:=
 ⟨sa,sb,bt,x,y,xe,ye,fun f t ht=>AA5 (by omega) (by omega) (fun p hp=>bt p (by omega)) f⟩
theorem Sm.pre {s R:ByteArray} {K en m:Nat}(h:Sm (s.extract en s.size) R m) (h1:K<=en) (h2:en<=s.size):Sm (s.extract K s.size) (s.extract K en++R) ((en-K)+m):=by
 have z0:(s.extract en s.size).size=s.size-en:=by rw[l8];omega
 have z1:(s.extract K s.size).size=s.size-K:=by rw[l8];omega
 have z2:(s.extract K en).size=en-K:=by rw[l8];omega
 have z3:(s.extract K en++R).size=(en-K)+R.size:=by rw[ByteArray.size_append,z2]
 have hsa:=h.sa;have hsb:=h.sb;have hA:∀i,AI (s.extract K s.size) ((en-K)+i)=AI (s.extract en s.size) i:=fun i=>by
  rcases ls (en+i) s.size with h3|h3
  ·rw[jv (lM _) (by omega),jv (lM _) h3];congr 1;omega
  ·rw[Ax _ _ (by omega),Ax _ _ (by omega)]
 have hB:∀i,AI (s.extract K en++R) ((en-K)+i)=AI R i:=fun i=>by
  rw[KB,lL (by omega),z2];congr 1;omega
 refine Sm.of (by omega) (by omega) (fun p hp=> ?_) (by rw[hA];exact h.x) (by rw[hB];exact h.y) ?_ ?_
 ·rcases ls p (en-K)with h3|h3
  ·rw[KB,lQ (by omega),jv h2 (by omega),jv (lM _) (by omega)]
  ·obtain⟨i,rfl⟩:∃i,p=(en-K)+i:=⟨p-(en-K),by omega⟩;rw[hA,hB];exact h.bt i (by omega)
 ·rw[hA];rcases h.xe with h3|h3
  ·exact .inl (by omega)
  ·exact .inr h3
 ·rw[hB];rcases h.ye with h3|h3
  ·exact .inl (by omega)
  ·exact .inr h3
theorem ABz {A B:ByteArray} {m:Nat}(h:Sm A B m) (hm:0<m) (hs:DM A 0= .stop):DM B 0= .stop:=by
 unfold DM at hs⊢;have e1:=h.eq (show 0+1<=m by omega) (c:=42) (by unfold cv;omega);rw[h.bt 0 hm];split at hs
 ·cases hs
 ·rename_i h1;rw[lL h1];split at hs
  ·cases hs
  ·rename_i h2;rw[lL h2];split at hs
   ·split at hs<;>cases hs
   ·rename_i h3;rw[lL (fun k=>h3 ⟨k.1,e1▸k.2⟩)]
theorem ABN {s:ByteArray} {p K:Nat}(h:Lay s p K 0) (hp:p<K):p<s.size/\(JO (AI s p).toNat=true\/AI s p=37\/AI s p=47):=by
 cases h with
 |done h1=>omega
 |stop _ _=>omega
 |step h1 h2 _ _=>
  refine⟨h1,?_⟩;unfold DM at h2;split at h2
  ·rename_i h3;exact .inl h3
  ·split at h2
   ·rename_i h3;exact .inr (.inl h3)
   ·split at h2
    ·rename_i h3;exact .inr (.inr h3.1)
    ·cases h2
theorem ABa {s:ByteArray} {p K e:Nat}(h:Lay s p K e):e=0->K<s.size->DM s K= .stop:=by
 induction h with
 |done h1=>intro _ h2;omega
 |stop _ h2=>exact fun _ _=>h2
 |Si _ _=>intro h;cases h
 |bad _ _ _=>intro h;cases h
 |step _ _ _ _ ih=>exact ih
theorem AA6 {c:Int}(h0:0<=c) (h:JO c.toNat=true\/c=37):cv c:=by
 unfold cv;rcases h with h|h
 ·unfold JO at h;simp only[Bool.or_eq_true,mJ,mL]at h;omega
 ·omega
def AAO (lay:ByteArray) (b:Bool):ByteArray:=if b then lay else⟨#[]⟩
inductive Spc (s lay:ByteArray):Nat->ByteArray->Prop
 |last {p K bits a en:Nat} {tx nu:ByteArray} :Lay s p K 0->Pp s K 0= .ok 10 tx nu bits a en->Spc s lay p (AAO lay (decide (p<K)))
 |next {p K k bits a en:Nat} {tx nu R:ByteArray} :Lay s p K 0->Pp s K 0= .ok k tx nu bits a en->k≠10->Spc s lay en R->Spc s lay p (AAO lay (decide (p<K))++(s.extract a en++R))
theorem AAl (x:ByteArray):x++(⟨#[]⟩:ByteArray)=x:=by
 apply pH;rw[ByteArray.data_append];simp
theorem AAi (x:ByteArray):(⟨#[]⟩:ByteArray)++x=x:=by
 apply pH;rw[ByteArray.data_append];simp
theorem AAQ (x y z:ByteArray):x++y++z=x++(y++z):=by
 apply pH;simp[ByteArray.data_append,Array.append_assoc]
theorem Ct.shf {n:Nat} {b J:ByteArray}(h:ov n b J){p:Nat} {L:List Tk} {r:Option (Nat×Nat)}(ht:Ct b p L r):r=none->∃L2,Ct J (n+p) L2 none/\L2.map strip=L.map strip:=by
 have uw:∀{K E k bits a en:Nat} {tx nu:ByteArray},Pp b K E= .ok k tx nu bits a en->Pp J (n+K) E= .ok k tx nu bits (n+a) (n+en):=fun {K E k bits a en tx nu} h1=>by
  unfold Pp at h1⊢;split at h1
  ·rename_i hE;rw[lQ hE,AAb h,h1];rfl
  ·cases h1
 induction ht with
 |err _ _=>intro h;cases h
 |last h1 h2 h3=>
  intro _;exact⟨_,.last (ABI h h1) (uw h2) h3,by simp[F6,strip]⟩
 |next h1 h2 h3 h4 _ ih=>
  intro hr;obtain⟨L2,h5,h6⟩:=ih hr;exact⟨_,.next (ABI h h1) (uw h2) h3 h4 h5,by simp only[List.map_cons,h6];simp[F6,strip]⟩
theorem ABb {s:ByteArray} {K k bits a en:Nat} {tx nu:ByteArray}(h:Dy s K= .ok k tx nu bits a en) (hK:K<s.size) (h1:AI s K=39):K+2<=en:=by
 have hf:(Dy s K).le en:=by rw[h];exact lM en
 unfold Dy at hf;rw[lL (by omega),lL (by rw[h1];decide),lQ (.inl h1)]at hf;unfold Cz at hf;exact AAN _ _ _ hf
theorem AA0 {s:ByteArray} {a:Nat}(h:a=s.size):Pp s a 0= .ok 10 ⟨#[]⟩ ⟨#[]⟩ 0 a a:=by
 unfold Pp Dy;rw[lQ rfl,lQ h]
theorem Spc.main {s lay:ByteArray}(hl:AAM lay){p:Nat} {R:ByteArray}(h:Spc s lay p R):p<=s.size->∃m,Sm (s.extract p s.size) R m/\(AI s p=39->2<=m)/\∃L L',Ct s p L none/\Ct R 0 L' none/\L'.map strip=L.map strip:=by
 have begin:∀{p K:Nat}(R:ByteArray),p<=s.size->Lay s p K 0->p<K->Sm (s.extract p s.size) (lay++R) 0/\(AI s p=39->2<=0):=fun {p K} R hp h1 h2=>by
  obtain⟨h3,h4⟩:=ABN h1 h2;have z1:(s.extract p s.size).size=s.size-p:=by rw[l8];omega
  have e0:AI (s.extract p s.size) 0=AI s p:=jv (lM _) h3;have e1:AI (lay++R) 0=AI lay 0:=by rw[KB,lQ hl.pos]
  refine⟨Sm.of (mK _) (mK _) (fun q hq=>absurd hq (by omega)) ?_ ?_ ?_ ?_,fun h5=> ?_⟩
  ·rw[e0];rcases h4 with h4|h4|h4
   ·exact .inl (AA6 (Mz _ _) (.inl h4))
   ·exact .inl (AA6 (Mz _ _) (.inr h4))
   ·exact .inr h4
  ·rw[e1];exact AA6 (Mz _ _) hl.first
  ·rw[e0];exact .inr h4
  ·rw[e1];exact .inr hl.first
  ·rw[h5]at h4
   revert h4
   decide
 induction h with
 | @last p K bits a en tx nu h1 h2=>
  intro hp;have hg:=(Fp hp h1 h2).1;have hK:=(hg.eof rfl).2;have he:=AA0 hK;rw[h2]at he;injection he with _ etx enu ebits ea een
  subst etx enu ebits;clear ea een;rcases ls p K with h3|h3
  ·have hb:=begin ⟨#[]⟩ hp h1 h3;rw[AAl]at hb;have hL:=hl.lay ⟨#[]⟩ (.inl rfl);rw[AAl]at hL;rw[show AAO lay (decide (p<K))=lay by unfold AAO;rw[lU h3];rfl];refine⟨0,hb.1,hb.2,_,_,.last h1 h2 (.inr rfl),.last hL (AA0 rfl) (.inr rfl),?_⟩;have h4:=hl.pos;simp[F6,strip,h3,h4]
  ·have e:p=K:=by have:=Lay.ge h1 rfl;omega
   subst e;rw[show AAO lay (decide (p<p))=⟨#[]⟩ by unfold AAO;rw[lO (Nat.lt_irrefl p)];rfl];have z1:(s.extract p s.size).size=0:=by rw[l8];omega
   refine⟨0,Sm.of (mK _) (mK _) (fun q hq=>absurd hq (by omega)) (.inl (by rw[Ax _ _ (by omega)];exact .inl rfl)) (by rw[Ax _ _ (show(⟨#[]⟩:ByteArray).size<=0 from lM 0)];exact .inl rfl) (.inl z1.symm) (.inl rfl),fun h4=> ?_,_,_,.last h1 h2 (.inr rfl),.last (.done (lM _)) (AA0 rfl) (.inr rfl),by simp[F6,strip]⟩;rw[Ax _ _ (by omega)]at h4;cases h4
 | @next p K k bits a en tx nu R h1 h2 h3 h4 ih=>
  intro hp;have hg:=(Fp hp h1 h2).1;obtain rfl:=hg.at_;have qE:=hg.fwd h3;have hle:=hg.le;obtain⟨m,hm,hq,L,L',hT,hT',hs⟩:=ih hle;have hKs:a<s.size:=by omega
  have hM:=Sm.pre hm (mW qE) hle;have z1:(s.extract a s.size).size=s.size-a:=by rw[l8];omega
  have z2:(s.extract a en).size=en-a:=by rw[l8];omega
  have hsh:ov a (s.extract a s.size) s:=by
   have h5:=AAz (s.extract 0 a) (s.extract a s.size);have e1:s.extract 0 a++s.extract a s.size=s:=by
    apply pH;simp[ByteArray.data_append,ByteArray.data_extract]
   have e2:(s.extract 0 a).size=a:=by rw[l8];omega
   rwa [e1,e2]at h5
  have hs0:Dy s a= .ok k tx nu bits a en:=by unfold Pp at h2;rwa [lQ rfl]at h2
  have hA:Dy (s.extract a s.size) 0= .ok k tx nu bits 0 (en-a):=by
   have h5:=AAb hsh 0;rw[nK,hs0]at h5;cases hc:Dy (s.extract a s.size) 0 with
   |err _ _=>rw[hc]at h5;cases h5
   |ok k2 tx2 nu2 bits2 a2 en2=>
    rw[hc]at h5;simp only[TR.shf,TR.ok.injEq]at h5;obtain⟨rfl,rfl,rfl,rfl,h6,h7⟩:=h5;congr 1<;>omega
  have hB:Dy (s.extract a en++R) 0= .ok k tx nu bits 0 (en-a):=by
   rw[<-hA];refine ABy hM (by omega) (by rw[hA];exact Nat.le_add_right _ _) (fun h5 h6=> ?_);rw[hA]at h5;have h5:en-a=1:=h5;have h7:2<=m:=hq (by
    rcases ls (a+1) s.size with h8|h8
    ·rw[jv (lM _) h8]at h6;rw[show en=a+1 by omega];exact h6
    ·rw[Ax _ _ (by omega)]at h6;cases h6)
   omega
  have qk:DM (s.extract a en++R) 0= .stop:=by
   refine ABz hM (by omega) ?_;have h5:=gg hsh 0;rw[nK,ABa h1 rfl hKs]at h5;cases hc:DM (s.extract a s.size) 0 with
   |stop=>rfl
   |Si=>rw[hc]at h5;cases h5
   |JI t=>rw[hc]at h5;cases h5
  have h9:k=9\/k≠9:=by omega
  have rest:∀(n:Nat) (J:ByteArray),ov n (s.extract a en++R) J->∀(P:Nat),Lay J P n 0->∃L2 L3,Ct s p L2 none/\Ct J P L3 none/\(decide (P<n)=decide (p<a)->L3.map strip=L2.map strip):=fun n J hJ P hL=>by
   have hn:Pp J n 0= .ok k tx nu bits n (n+(en-a)):=by
    have h5:=AAb hJ 0;rw[nK,hB]at h5;unfold Pp;rw[lQ rfl,h5];simp[TR.shf]
   rcases h9 with h9|h9
   ·exact⟨_,_,.last h1 h2 (.inl h9),.last hL hn (.inl h9),fun h5=>by simp[F6,strip,h5]⟩
   ·have hR:=AAz (s.extract a en) R;rw[z2]at hR;have yX:ov (n+(en-a)) R J:=by
     refine⟨by rw[hJ.size,hR.size];omega,fun q=> ?_,fun f t=> ?_⟩
     ·rw[oX,hJ.AI,hR.AI]
     ·rw[oX,oX,hJ.ext,hR.ext]
    obtain⟨L4,h6,h7⟩:=Ct.shf yX hT' rfl;rw[nK]at h6;exact⟨_,_,.next h1 h2 h9 h3 hT,.next hL hn h9 h3 h6,fun h5=>by
     simp only[List.map_cons,h7,hs];simp[F6,strip,h5]⟩
  rcases ls p a with h5|h5
  ·have hb:=begin (s.extract a en++R) hp h1 h5;rw[show AAO lay (decide (p<a))=lay by unfold AAO;rw[lU h5];rfl];obtain⟨L2,L3,h6,h7,h8⟩:=rest lay.size _ (AAz lay _) 0 (hl.lay _ (.inr qk));exact⟨0,hb.1,hb.2,L2,L3,h6,h7,h8 (by rw[lU hl.pos,lU h5])⟩
  ·have e:p=a:=by have:=Lay.ge h1 rfl;omega
   subst e;rw[show AAO lay (decide (p<p))=⟨#[]⟩ by unfold AAO;rw[lO (Nat.lt_irrefl p)];rfl,AAi];obtain⟨L2,L3,h6,h7,h8⟩:=rest 0 _ ⟨by omega,fun q=>by rw[me],fun f t=>by rw[me,me]⟩ 0 (.stop (by rw[ByteArray.size_append,z2];omega) qk);exact⟨_,hM,fun sD=>by have:=ABb hs0 hKs sD;omega,L2,L3,h6,h7,h8 (by rw[lO (Nat.lt_irrefl p)];rfl)⟩
end Go.Lx
namespace Go.Proofs
open Go.RowKit Go.Bg Go.Hb Go.Lx Go.Rb Go.Pf Go.Pz
def AB7 (s lay:ByteArray) (w:World) (e:Ending) (w':World):Prop:=
 ((∃R,Spc s lay 0 R/\R.size<=20000000/\e= .returned (.tuple #[.string R,.bool true]))\/e= .returned (.tuple #[.string ⟨#[]⟩,.bool false]))/\Below w.heap.size w w'
theorem ABv {s:ByteArray} {K E k bits a en:Nat} {tx nu:ByteArray}(h:Pp s K E= .ok k tx nu bits a en):E=0:=by
 unfold Pp at h;split at h
 ·assumption
 ·cases h
theorem ACC {s:ByteArray} {K E a n:Nat}(h:Pp s K E= .err a n):n≠0:=by
 unfold Pp at h;split at h
 ·exact SS h
 ·cases h;assumption
theorem ABn {w:World}(hL:DK w) (s lay:ByteArray) (hs:s.size<=1048576) (hy:lay.size<=11):Calls prog 10 #[.string s,.string lay] w (AB7 s lay w):=by
 have CN:Hid (∀(W:World) (p K E:Nat),Below w.heap.size w W->p<=s.size->Lay s p K E->Calls prog 22 #[.string s,.int .i64 p] W (Dv (Pp s K E) (decide (p<K)) W)):=lK (fun W p K E hb hp hl=>jS s p K E W (by omega) hp (lK hl) (lK (hL.below hb)));clear hL;have hsI:(s.size:Int)<=1048576:=by omega
 have hyI:(lay.size:Int)<=11:=by omega
 go_enter func10,ntmps10
 go_wp2_with fail
 go_loopw [6,7,8] (fun v6 v7 v8 wr=>∃(o:ByteArray) (p i:Nat),v6= .string o/\v7= .int .i64 p/\v8= .int .i64 i/\Hid (i<=s.size+1/\p<=s.size/\o.size<=i*11+p/\(∀R,Spc s lay p R->Spc s lay 0 (o++R))/\Below w.heap.size w wr)) (fun _ _ v8 _=>s.size+1-(intOf v8).toNat)
 case atStart=>exact⟨⟨#[]⟩,0,0,rfl,rfl,rfl,lK ⟨mK _,mK _,lM 0,fun R h=>by rw[AAi];exact h,Below.refl _ _⟩⟩
 case round=>
  obtain⟨o,p,i,rfl,rfl,rfl,hq⟩:=hrel;have BR:Hid (Below w.heap.size w wr):=lK hq.o.2.2.2.2;have HO:=lK hq.o.2.2.1;have HP:=lK hq.o.2.1;have HI:=lK hq.o.1;have HS:=lK hq.o.2.2.2.1;clear hq;by_cases hi:i<=s.size
  ·have ui:(i:Int)<=s.size:=by omega
   obtain⟨K,E,hLay⟩:=Lay.ex s s.size p (by omega);have CX:=lK (CN.o wr p K E BR.o HP.o hLay)
   go_wp2_with (go_at_call 22;(with_reducible refine CX.o.mono ?_))
   intro e W1 h1;cases hR:Pp s K E with
   |err a n=>
    have hn:=ACC hR;rw[hR]at h1;have h2:e= .returned (.tuple #[.agg #[.int .i64 0,.string ⟨#[]⟩,.string ⟨#[]⟩,.int .u64 0,.int .i64 a,.int .i64 a,.bool false],.int .i64 n])/\Below wr.heap.size wr W1:=h1;obtain⟨rfl,b1⟩:=h2;have n0:((n:Int) !=0)=true:=pA.2 (by omega);have HB:Hid (Below w.heap.size w (W1.alloc (.cells #[.int .i64 0,.string ⟨#[]⟩,.string ⟨#[]⟩,.int .u64 0,.int .i64 a,.int .i64 a,.bool false] 71))):=lK ((BR.o.trans (b1.mono BR.o.size)).trans ((Bzz _).mono (BR.o.trans (b1.mono BR.o.size)).size));clear hR hLay CX h1 b1;go_wp2;go_ret2;exact⟨.inr rfl,HB.o⟩
   |ok k tx nu bits a en=>
    obtain rfl:=ABv hR;have hg:=Fp HP.o hLay hR;obtain rfl:=hg.1.at_;have G:=lK hg;have HR:=lK hR;have HL:=lK hLay;rw[hR]at h1;obtain⟨ly,wE⟩:∃ly,ly=decide (p<a):=⟨_,rfl⟩;rw[<-wE]at h1;have zm:=lK wE;have h2:e= .returned (.tuple #[.agg #[.int .i64 k,.string tx,.string nu,.int .u64 bits,.int .i64 a,.int .i64 en,.bool ly],.int .i64 0])/\Below wr.heap.size wr W1:=h1;obtain⟨rfl,b1⟩:=h2;have B1:Hid (Below w.heap.size w W1):=lK (BR.o.trans (b1.mono BR.o.size));clear hR hLay CX h1 b1 hg wE
    go_upto_region 7 with fail
    generalize hX:World.alloc W1 _=X;have HX:X.heap[W1.heap.size]? =some (.cells #[.int .i64 k,.string tx,.string nu,.int .u64 bits,.int .i64 a,.int .i64 en,.bool ly] 71):=by rw[<-hX];exact lT W1 _
    have BX:Hid (Below w.heap.size w X):=lK (by rw[<-hX];exact B1.o.trans ((Bzz _).mono B1.o.size));clear hX;have q0:=mT X W1.heap.size 0 _ 71 (0,0) HX;have q4:=mT X W1.heap.size 4 _ 71 (0,0) HX;have q5:=mT X W1.heap.size 5 _ 71 (0,0) HX;have q6:=mT X W1.heap.size 6 _ 71 (0,0) HX;simp only[oJ,nX,List.getElem?_cons_succ]at q0 q4 q5 q6;clear HX;have hle:=G.o.1.le;have hpa:=G.o.2;have a1:(a:Int)<=en:=by
     have h1:=G.o.1.fwd;have h2:=G.o.1.eof;by_cases h3:k=10
     ·have:=h2 h3;omega
     ·have:=h1 h3;omega
    have a2:(en:Int)<=s.size:=by omega
    have hoI:(o.size:Int)<=12582923:=by have:=HO.o;have:=HP.o;omega
    have hoN:Hid (∀x,x.size<=o.size+11->(x++s.extract a en).size<=(i+1)*11+en):=lK (fun x hx=>by
     rw[ByteArray.size_append,l8];have:=HO.o;omega)
    cases ly with
    |true=>
     have hyL:AAO lay (decide (p<a))=lay:=by unfold AAO;rw[<-zm.o];rfl
     by_cases hk:k=10
     ·have hkI:((k:Int)==10)=true:=by rw[nH];omega
      go_wp2;go_ret2;subst hk;refine⟨.inl ⟨o++lay,?_,by rw[ByteArray.size_append];omega,rfl⟩,BX.o⟩;have h1:=HS.o _ (.last HL.o HR.o)
      rwa [hyL]at h1
     ·have hkI:((k:Int)==10)=false:=by rw[lY];omega
      go_wp2;go_roundw
      case rel=>
       refine⟨o++lay++s.extract a en,en,i+1,rfl,rfl,by go_num,lK ⟨by omega,hle,hoN.o _ (by rw[ByteArray.size_append];omega),fun R h=> ?_,BX.o⟩⟩;have h1:=HS.o _ (.next HL.o HR.o hk h);rw[hyL]at h1;rw[AAQ,AAQ];exact h1
      case measure=>simp[intOf];omega
    |false=>
     have hyL:AAO lay (decide (p<a))=⟨#[]⟩:=by unfold AAO;rw[<-zm.o];rfl
     by_cases hk:k=10
     ·have hkI:((k:Int)==10)=true:=by rw[nH];omega
      go_wp2;go_ret2;subst hk;refine⟨.inl ⟨o,?_,by omega,rfl⟩,BX.o⟩;have h1:=HS.o _ (.last HL.o HR.o)
      rwa [hyL,AAl]at h1
     ·have hkI:((k:Int)==10)=false:=by rw[lY];omega
      go_wp2;go_roundw
      case rel=>
       refine⟨o++s.extract a en,en,i+1,rfl,rfl,by go_num,lK ⟨by omega,hle,hoN.o _ (by omega),fun R h=> ?_,BX.o⟩⟩;have h1:=HS.o _ (.next HL.o HR.o hk h);rw[hyL,AAi]at h1;rw[AAQ];exact h1
      case measure=>simp[intOf];omega
  ·have ui:¬((i:Int)<=s.size):=by omega
   go_wp2;go_ret2;exact⟨.inr rfl,BR.o⟩
end Go.Proofs
namespace Go.Proofs
open Go.RowKit Go.Hb Go.Pz
theorem BK {w W:World}(hb:Below w.heap.size w W){b o:Nat} {v:Value}(h:w.cell? ⟨b,o,none⟩=some v):W.cell? ⟨b,o,none⟩=some v:=by
 have qE:b<w.heap.size:=by
  unfold World.cell? at h;split at h
  ·rename_i _ _ _ hk;exact(lN.1 hk).1
  ·cases h
 rw[AO (hb.block b qE)];exact h
theorem ABU {B:Nat} {w X:World}(h:Below B w X) (n:Nat):Below B w (X.drewN n):=⟨h.os,h.tape,h.output,h.size,h.block⟩
theorem ABF {l:List Bs} {i:Nat} {x:Bs}(h:l[i]? =some x):(l.flatMap fun x=> [Value.string (bs x)])[i]? =some (.string (bs x)):=by
 induction l generalizing i with
 |nil=>simp at h
 |cons a l ih=>
  cases i with
  |zero=>
   simp only[nX,mD]at h;subst h;rfl
  |succ i=>
   rw[List.getElem?_cons_succ]at h;exact ih h
theorem AAa {w:World} {kd v bits:Int} {nm nu:ByteArray} {a a2 na na2 sa sa2:Option Addr} {al cap qQ nc nc2 sc sc2:Nat} {names:List (Bs×Nat)} {sing:List Bs} {b:Bool} {B:Nat}(hn:names.length<=1000000) (hs:sing.length<=1000000)
  (n1:w.ownsRow B 47 2 (.slice na names.length nc) names.length (names.flatMap QN)) (n2:w.ownsRow B 47 2 (.slice na2 names.length nc2) names.length (names.flatMap QN))
  (s1:w.ownsRow B 9 1 (.slice sa sing.length sc) sing.length (sing.flatMap fun x=> [.string (bs x)])) (s2:w.ownsRow B 9 1 (.slice sa2 sing.length sc2) sing.length (sing.flatMap fun x=> [.string (bs x)]))
  (hC:∀W,Below w.heap.size w W->Calls prog 15 #[.agg #[.int .i64 kd,.string nm,.string nu,.int .u64 bits,.int .i64 v,.slice a al cap],.agg #[.int .i64 kd,.string nm,.string nu,.int .u64 bits,.int .i64 v,.slice a2 al qQ]] W fun e w'=>e= .returned (.bool true)/\Below W.heap.size W w'):
  Calls prog 11 #[.agg #[.int .i64 kd,.string nm,.string nu,.int .u64 bits,.int .i64 v,.slice a al cap,.slice na names.length nc,.slice sa sing.length sc,.int .i64 0,.bool b],.agg #[.int .i64 kd,.string nm,.string nu,.int .u64 bits,.int .i64 v,.slice a2 al qQ,.slice na2 names.length nc2,.slice sa2 sing.length sc2,.int .i64 0,.bool b]] w fun e w'=>e= .returned (.bool true)/\Below w.heap.size w w':=by
 have N1:=lK n1;have N2:=lK n2;have S1:=lK s1;have S2:=lK s2;have HC:=lK hC;obtain⟨nn,hnn⟩:∃nn,nn=names.length:=⟨_,rfl⟩;obtain⟨sn,hsn⟩:∃sn,sn=sing.length:=⟨_,rfl⟩;have HN:=lK hnn;have HS:=lK hsn;rw[<-hnn]at N1 N2 hn⊢;rw[<-hsn]at S1 S2 hs⊢;have ln:(nn:Int)<=1000000:=by omega
 have ls:(sn:Int)<=1000000:=by omega
 clear n1 n2 s1 s2 hC hnn hsn;go_enter func11,ntmps11
 go_upto_region 1 with fail
 generalize hA:World.alloc w _=A;have HA:A.heap[w.heap.size]? =some (.cells #[.int .i64 kd,.string nm,.string nu,.int .u64 bits,.int .i64 v,.slice a al cap,.slice na nn nc,.slice sa sn sc,.int .i64 0,.bool b] 35):=by rw[<-hA];exact lT w _
 have BA:Hid (Below w.heap.size w A):=lK (by rw[<-hA];exact Bzz _);have ZA:A.heap.size=w.heap.size+1:=by rw[<-hA];simp
 clear hA;rw[<-ZA];generalize hX:World.alloc A _=X;have HX:X.heap[A.heap.size]? =some (.cells #[.int .i64 kd,.string nm,.string nu,.int .u64 bits,.int .i64 v,.slice a2 al qQ,.slice na2 nn nc2,.slice sa2 sn sc2,.int .i64 0,.bool b] 35):=by rw[<-hX];exact lT A _
 have BX:Hid (Below A.heap.size A X):=lK (by rw[<-hX];exact Bzz _);clear hX;have B0:Hid (Below w.heap.size w X):=lK (BA.o.trans (BX.o.mono BA.o.size));have p0:=BK BX.o (mT A w.heap.size 0 _ 35 (0,0) HA);have q0:=mT X A.heap.size 0 _ 35 (0,0) HX;have p1:=BK BX.o (mT A w.heap.size 1 _ 35 (0,0) HA);have q1:=mT X A.heap.size 1 _ 35 (0,0) HX;have p2:=BK BX.o (mT A w.heap.size 2 _ 35 (0,0) HA);have q2:=mT X A.heap.size 2 _ 35 (0,0) HX;have p3:=BK BX.o (mT A w.heap.size 3 _ 35 (0,0) HA);have q3:=mT X A.heap.size 3 _ 35 (0,0) HX;have p4:=BK BX.o (mT A w.heap.size 4 _ 35 (0,0) HA);have q4:=mT X A.heap.size 4 _ 35 (0,0) HX;have p5:=BK BX.o (mT A w.heap.size 5 _ 35 (0,0) HA);have q5:=mT X A.heap.size 5 _ 35 (0,0) HX;have p6:=BK BX.o (mT A w.heap.size 6 _ 35 (0,0) HA);have q6:=mT X A.heap.size 6 _ 35 (0,0) HX;have p7:=BK BX.o (mT A w.heap.size 7 _ 35 (0,0) HA);have q7:=mT X A.heap.size 7 _ 35 (0,0) HX;have p8:=BK BX.o (mT A w.heap.size 8 _ 35 (0,0) HA);have q8:=mT X A.heap.size 8 _ 35 (0,0) HX;have p9:=BK BX.o (mT A w.heap.size 9 _ 35 (0,0) HA);have q9:=mT X A.heap.size 9 _ 35 (0,0) HX;clear HA HX ZA;simp only[oJ,nX,List.getElem?_cons_succ]at p0 p1 p2 p3 p4 p5 p6 p7 p8 p9 q0 q1 q2 q3 q4 q5 q6 q7 q8 q9;have PQ:=lK (And.intro p0 (And.intro p1 (And.intro p2 (And.intro p3 (And.intro p4 (And.intro p5 (And.intro q0 (And.intro q1 (And.intro q2 (And.intro q3 (And.intro q4 q5)))))))))));clear p0 p1 p2 p3 p4 p5 q0 q1 q2 q3 q4 q5;have P67:=lK (And.intro p6 (And.intro p7 (And.intro q6 q7)));generalize A.heap.size=ab at*;cases b
 all_goals
  go_wp2_with fail
  go_loopw [5] (fun v wr=>∃i:Nat,v= .int .i64 i/\Hid (i<=nn/\Below X.heap.size X wr)) (fun v _=>nn-(intOf v).toNat)
  case atStart=>exact⟨0,rfl,lK ⟨mK _,Below.refl _ _⟩⟩
  case round=>
   obtain⟨i,rfl,hq⟩:=hrel;have zA:=hq.o.1;have BR:Hid (Below X.heap.size X wr):=lK hq.o.2;clear p6 p7 q6 q7 p8 p9 q8 q9;have m6:=BK BR.o P67.o.1;have m7:=BK BR.o P67.o.2.2.1;by_cases qE:i<nn
   ·have ui:(i:Int)<nn:=by omega
    obtain⟨x,hx⟩:∃x,names[i]? =some x:=⟨_,lu (by have:=HN.o;omega)⟩;obtain⟨g,c1,hv,_,_⟩:=N1.o.form (by omega);have se:na=some ⟨g,0,none⟩:=by simp only[mX]at hv;exact hv.1
    obtain⟨g2,c2,vg,_,_⟩:=N2.o.form (by omega);have wT:na2=some ⟨g2,0,none⟩:=by simp only[mX]at vg;exact vg.1
    subst se wT;have x0:wr.cell? ⟨g,i*2,none⟩=some (.string (bs x.1)):=BK BR.o (BK B0.o (by rw[World.ownsRow.cellAt N1.o (i*2) (by omega)];exact(JT hx).1));have x1:wr.cell? ⟨g,i*2+1,none⟩=some (.int .i64 x.2):=BK BR.o (BK B0.o (by rw[World.ownsRow.cellAt N1.o (i*2+1) (by omega)];exact(JT hx).2));have y0:wr.cell? ⟨g2,i*2,none⟩=some (.string (bs x.1)):=BK BR.o (BK B0.o (by rw[World.ownsRow.cellAt N2.o (i*2) (by omega)];exact(JT hx).1));have y1:wr.cell? ⟨g2,i*2+1,none⟩=some (.int .i64 x.2):=BK BR.o (BK B0.o (by rw[World.ownsRow.cellAt N2.o (i*2+1) (by omega)];exact(JT hx).2));clear hx hv vg
    go_upto_region 6 with fail
    go_quiet (fail)
    go_wp2;go_roundw
    case rel=>exact⟨i+1,by go_num,lK ⟨by omega,ABU BR.o nq⟩⟩
    case measure=>simp[intOf];omega
   ·have ui:¬((i:Int)<nn):=by omega
    go_wp2_with fail
    clear m6 m7
    go_loopw [6] (fun v wr=>∃i:Nat,v= .int .i64 i/\Hid (i<=sn/\Below X.heap.size X wr)) (fun v _=>sn-(intOf v).toNat)
    case atStart=>exact⟨0,rfl,lK ⟨mK _,BR.o⟩⟩
    case round=>
     obtain⟨j,rfl,qu⟩:=hrel;have hjn:=qu.o.1;have BQ:Hid (Below X.heap.size X wr):=lK qu.o.2;have m6:=BK BQ.o P67.o.2.1;have m7:=BK BQ.o P67.o.2.2.2;by_cases hlt2:j<sn
     ·have hji:(j:Int)<sn:=by omega
      obtain⟨x,hx⟩:∃x,sing[j]? =some x:=⟨_,lu (by have:=HS.o;omega)⟩;obtain⟨g,c1,hv,_,_⟩:=S1.o.form (by omega);have se:sa=some ⟨g,0,none⟩:=by simp only[mX]at hv;exact hv.1
      obtain⟨g2,c2,vg,_,_⟩:=S2.o.form (by omega);have wT:sa2=some ⟨g2,0,none⟩:=by simp only[mX]at vg;exact vg.1
      subst se wT;have x0:wr.cell? ⟨g,j,none⟩=some (.string (bs x)):=BK BQ.o (BK B0.o (by rw[World.ownsRow.cellAt S1.o j (by omega)];exact ABF hx));have y0:wr.cell? ⟨g2,j,none⟩=some (.string (bs x)):=BK BQ.o (BK B0.o (by rw[World.ownsRow.cellAt S2.o j (by omega)];exact ABF hx));clear hx hv vg
      go_upto_region 11 with fail
      go_quiet (fail)
      go_wp2;go_roundw
      case rel=>exact⟨j+1,by go_num,lK ⟨by omega,ABU BQ.o nq⟩⟩
      case measure=>simp[intOf];omega
     ·have hji:¬((j:Int)<sn):=by omega
      obtain⟨p0,p1,p2,p3,p4,p5,q0,q1,q2,q3,q4,q5⟩:=PQ.o;have p0:=BK BQ.o p0;have p1:=BK BQ.o p1;have p2:=BK BQ.o p2;have p3:=BK BQ.o p3;have p4:=BK BQ.o p4;have p5:=BK BQ.o p5;have q0:=BK BQ.o q0;have q1:=BK BQ.o q1;have q2:=BK BQ.o q2;have q3:=BK BQ.o q3;have q4:=BK BQ.o q4;have q5:=BK BQ.o q5;have B1:Hid (Below w.heap.size w wr):=lK (B0.o.trans (BQ.o.mono B0.o.size));have C15:=lK (HC.o wr B1.o)
      go_wp2_with (go_at_call 15;(with_reducible refine C15.o.mono ?_);rintro e W9 ⟨rfl,b9⟩)
      refine lS (v:= .bool true) ?_ rfl ⟨rfl,B1.o.trans (b9.mono B1.o.size)⟩;simp only[results,results11];go_simp
theorem ABk (w:World):Calls prog 15 #[.agg zV,.agg zV] w fun e w'=>e= .returned (.bool true)/\Below w.heap.size w w':=by
 go_enter func15,ntmps15
 go_upto_region 1 with fail
 generalize hA:World.alloc w _=A;have HA:A.heap[w.heap.size]? =some (.cells zV 31):=by rw[<-hA];exact lT w _
 have BA:Hid (Below w.heap.size w A):=lK (by rw[<-hA];exact Bzz _);have ZA:A.heap.size=w.heap.size+1:=by rw[<-hA];simp
 clear hA;rw[<-ZA];generalize hX:World.alloc A _=X;have HX:X.heap[A.heap.size]? =some (.cells zV 31):=by rw[<-hX];exact lT A _
 have BX:Hid (Below A.heap.size A X):=lK (by rw[<-hX];exact Bzz _);clear hX;have B0:Hid (Below w.heap.size w X):=lK (BA.o.trans (BX.o.mono BA.o.size));have h5:X.heap[w.heap.size]? =A.heap[w.heap.size]? :=BX.o.block _ (by omega);rw[HA]at h5;have p0:=mT X w.heap.size 0 _ 31 (0,0) h5;have q0:=mT X A.heap.size 0 _ 31 (0,0) HX;have p1:=mT X w.heap.size 1 _ 31 (0,0) h5;have q1:=mT X A.heap.size 1 _ 31 (0,0) HX;have p2:=mT X w.heap.size 2 _ 31 (0,0) h5;have q2:=mT X A.heap.size 2 _ 31 (0,0) HX;have p3:=mT X w.heap.size 3 _ 31 (0,0) h5;have q3:=mT X A.heap.size 3 _ 31 (0,0) HX;have p4:=mT X w.heap.size 4 _ 31 (0,0) h5;have q4:=mT X A.heap.size 4 _ 31 (0,0) HX;have p5:=mT X w.heap.size 5 _ 31 (0,0) h5;have q5:=mT X A.heap.size 5 _ 31 (0,0) HX;clear HA HX ZA h5;simp only[oJ,nX,List.getElem?_cons_succ]at p0 p1 p2 p3 p4 p5 q0 q1 q2 q3 q4 q5;generalize A.heap.size=ab at*
 go_wp2_with fail
 go_loop [5] (fun v=>v= .int .i64 0) (fun v=>0)
 case atStart=>rfl
 case round=>
  subst hrel;go_wp2;refine lS (v:= .bool true) ?_ rfl ⟨rfl,B0.o⟩;simp only[results,results15];go_simp
end Go.Proofs
namespace Go.Pz
open Go.Proofs
def fX.unp:fX->fX
 | .eof _=> .eof 0
 | .stop wd _=> .stop wd 0
 | .ok t s _=> .ok t s 0
theorem AAr {L L':List Tk}(h:L'.map strip=L.map strip) (s:RS):(now L' s).kind=(now L s).kind:=by
 have h1:=GO L' s;have h2:=GO L s;rw[h,h2]at h1;exact(mQ Tk.kind h1).symm
theorem ABR {O:Am} {q:Int} {F7:Tm->Nat} {p:Nat} {L L':List Tk}(h:L'.map strip=L.map strip):(Sw O q F7 p L' none).unp=(Sw O q F7 p L none).unp:=by
 have hl:L'.length=L.length:=by have:=mQ List.length h;simpa using this
 unfold Sw;dsimp only;rw[AAr h,hl];by_cases hk:(now L RS.zero).kind=10
 ·rw[lQ hk,lQ hk];rfl
 rw[lL hk,lL hk];have hs:=AA2 (O:=O) (quotes:=q) (tx:=CZ) h (4*L.length+3) RS.zero 1200;cases h1:Ay L' O q CZ (4*L.length+3) RS.zero 1200 with
 |stop w a=>
  cases h2:Ay L O q CZ (4*L.length+3) RS.zero 1200 with
  |stop w' a'=>
   rw[h1,h2]at hs;have hs:(Rz.stop w 0:Rz (Tm×Int×RS))= .stop w' 0:=hs;injection hs with e1 e2
   subst e1;rfl
  |ok x'=>rw[h1,h2]at hs;cases hs
 |ok x=>
  cases h2:Ay L O q CZ (4*L.length+3) RS.zero 1200 with
  |stop w' a'=>rw[h1,h2]at hs;cases hs
  |ok x'=>
   rw[h1,h2]at hs;have hs:(Rz.ok x:Rz (Tm×Int×RS))= .ok x':=hs;injection hs with e1
   subst e1;unfold cH;dsimp only;rw[AAr h];split
   ·split
    ·rfl
    ·rfl
   ·rfl
theorem ABP {O:Am} {q:Int} {F7:Tm->Nat} {p:Nat} {L L':List Tk}(h:L'.map strip=L.map strip):
  (∃a b,Sw O q F7 p L none= .eof a/\Sw O q F7 p L' none= .eof b)\/(∃wd a b,Sw O q F7 p L none= .stop wd a/\Sw O q F7 p L' none= .stop wd b)\/(∃t st a b,Sw O q F7 p L none= .ok t st a/\Sw O q F7 p L' none= .ok t st b):=by
 have hs:=ABR (O:=O) (q:=q) (F7:=F7) (p:=p) h;cases h1:Sw O q F7 p L none with
 |eof a=>
  cases h2:Sw O q F7 p L' none with
  |eof b=>exact .inl ⟨a,b,rfl,rfl⟩
  |stop w b=>rw[h1,h2]at hs;cases hs
  |ok t s b=>rw[h1,h2]at hs;cases hs
 |stop wd a=>
  cases h2:Sw O q F7 p L' none with
  |eof b=>rw[h1,h2]at hs;cases hs
  |stop w b=>
   rw[h1,h2]at hs;have hs:fX.stop w 0= .stop wd 0:=hs;injection hs with e1 e2
   subst e1;exact .inr (.inl ⟨w,a,b,rfl,rfl⟩)
  |ok t s b=>rw[h1,h2]at hs;cases hs
 |ok t st a=>
  cases h2:Sw O q F7 p L' none with
  |eof b=>rw[h1,h2]at hs;cases hs
  |stop w b=>rw[h1,h2]at hs;cases hs
  |ok t' st' b=>
   rw[h1,h2]at hs;have hs:fX.ok t' st' 0= .ok t st 0:=hs;injection hs with e1 e2 e3
   subst e1 e2;exact .inr (.inr ⟨t',st',a,b,rfl,rfl⟩)
end Go.Pz
