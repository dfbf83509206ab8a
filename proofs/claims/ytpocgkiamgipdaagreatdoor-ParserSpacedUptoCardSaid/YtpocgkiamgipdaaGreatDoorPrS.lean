import Derived.Below
import Derived.Test.YtpocgkiamgipdaaGreatDoorTab
set_option maxRecDepth 1000000
set_option maxHeartbeats 0
open Go.Proofs.Tryz
namespace Go.Pz
abbrev Bs:=List UInt8
structure Tk where
 kind:Nat
 tx:Bs
 nu:Bs
 bits:Nat
 at_:Nat
 en:Nat
 ly:Bool
instance:Inhabited Tk:=⟨⟨0,[],[],0,0,0,false⟩⟩
inductive Tm where
 |var (n:Nat)
 |atom (s:Bs)
 |int (s:Bs)
 |Hs (b:Nat)
 |cmp (s:Bs) (l:List Tm)
structure DH where
 ty:Int
 pr:Int
structure Am where
 pre:Bs->Option DH
 inf:Bs->Option DH
 post:Bs->Option DH
structure RS where
 k:Nat
 names:List (Bs×Nat)
 times:List Nat
 vars:Nat
inductive Rz (α:Type) where
 |ok (a:α)
 |stop (word at_:Nat)
def Rz.bind {α β:Type}(x:Rz α) (f:α->Rz β):Rz β:=match x with
 | .ok a=>f a
 | .stop w p=> .stop w p
section
variable (ts:List Tk) (O:Am) (quotes:Int)
def now (s:RS):Tk:=ts.getD s.k default
def Jc (s:RS) (n:Nat):Tk:=if ts.length<=s.k+n then ts.getD (ts.length-1) default else ts.getD (s.k+n) default
def stuck {α:Type}(s:RS):Rz α:= .stop (if(now ts s).kind=10 then 1 else if(now ts s).kind=9 then 2 else 0) (now ts s).at_
def AG (t:Tk) (c:UInt8):Bool:=decide (t.kind=8)&&decide (t.tx= [c])
def RS.on (s:RS) (n:Nat):RS:= {s with k:=s.k+n}
def pass (s:RS) (c:UInt8):Rz RS:=if AG (now ts s) c then .ok (s.on 1)else stuck ts s
def Cb (t:Tk):Bool:=decide (t.kind=1)||decide (t.kind=2)
def nameAt (nm:Bs):List (Bs×Nat)->Option Nat
 | []=>none
 |x::l=>if x.1=nm then some 0 else(nameAt nm l).map (· +1)
def EV (s:RS) (nm:Bs):Tm×RS:=
 if nm= [95]then(.var s.vars,{s with vars:=s.vars+1})
 else match nameAt nm s.names with
  |some i=>(.var (s.names.getD i ([],0)).2,{s with times:=s.times.modify i (· +1)})
  |none=>(.var s.vars,{s with names:=s.names++ [(nm,s.vars)],times:=s.times++ [1],vars:=s.vars+1})
def Cd (l:List Tm) (e:Tm):Tm:=l.foldr (fun x e=> .cmp [46] [x,e]) e
def DR:Bs:= [91,93]
def DU:Bs:= [123,125]
def Cj (t:Tk) (minus:Bool):Tm:=
 if t.kind=5 then .Hs (if minus&&decide (t.bits≠0)then t.bits|||9223372036854775808 else t.bits)
 else .int (if minus&&decide (t.nu≠ [48])then 45::t.nu else t.nu)
def D5 (x:DH):Int:=if x.ty=3 then x.pr-1 else if x.ty=4 then x.pr-1 else if x.ty=5 then x.pr else if x.ty=6 then x.pr-1 else if x.ty=7 then x.pr else 0
def DV (x:DH):Int:=if x.ty=1 then x.pr-1 else if x.ty=2 then x.pr else if x.ty=3 then x.pr-1 else if x.ty=4 then x.pr else if x.ty=5 then x.pr-1 else 0
def DJ (s:RS):Bool:=
 let t:=now ts s
 if t.kind=9\/t.kind=10 then false
 else if t.kind=8 then !(t.tx= [41]||t.tx= [93]||t.tx= [125]||t.tx= [44]||t.tx= [124])
 else if Cb t then
  let u:=Jc ts s 1
  if t.kind=1/\t.tx= [45]/\u.ly=false/\(u.kind=4\/u.kind=5)then true
  else !(O.inf t.tx).isSome&& !(O.post t.tx).isSome||(O.pre t.tx).isSome||AG u 40&& !u.ly
 else true
variable (tx:Bs->Int->Tm)
mutual
def Ay:Nat->RS->Int->Rz (Tm×Int×RS)
 |0,_,_=> .stop 0 0
 |n+1,s,most=>(A6 n s most).bind fun(x,p,s)=>CQ n s most x p
def CQ:Nat->RS->Int->Tm->Int->Rz (Tm×Int×RS)
 |0,_,_,_,_=> .stop 0 0
 |n+1,s,most,x,p=>
  let t:=now ts s
  if !Cb t&& !AG t 44&& !AG t 124 then .ok (x,p,s)
  else match(O.inf t.tx).filter (fun o=>decide (o.pr<=most)&&decide (p<=D5 o))with
   |some o=>(Ay n (s.on 1) (DV o)).bind fun(y,_,s)=>CQ n s most (.cmp t.tx [x,y]) o.pr
   |none=>match(O.post t.tx).filter (fun o=>decide (o.pr<=most)&&decide (p<=D5 o))with
    |some o=>CQ n (s.on 1) most (.cmp t.tx [x]) o.pr
    |none=> .ok (x,p,s)
def Ba:Nat->RS->Rz (List Tm×RS)
 |0,_=> .stop 0 0
 |n+1,s=>(Ay n s 999).bind fun(x,_,s)=>
  if AG (now ts s) 44 then(Ba n (s.on 1)).bind fun(l,s)=> .ok (x::l,s)
  else .ok ([x],s)
def A6:Nat->RS->Int->Rz (Tm×Int×RS)
 |0,_,_=> .stop 0 0
 |n+1,s,most=>
  let t:=now ts s
  if t.kind=4\/t.kind=5 then .ok (Cj t false,0,s.on 1)
  else if t.kind=3 then .ok ((EV (s.on 1) t.tx).1,0,(EV (s.on 1) t.tx).2)
  else if t.kind=6 then .ok (tx t.tx quotes,0,s.on 1)
  else if t.kind=7 then .ok (tx t.tx 0,0,s.on 1)
  else if AG t 40 then(Ay n (s.on 1) 1200).bind fun(x,_,s)=>(pass ts s 41).bind fun s=> .ok (x,0,s)
  else if AG t 91&& !AG (Jc ts s 1) 93 then
   (Ba n (s.on 1)).bind fun(l,s)=>
    (if AG (now ts s) 124 then(Ay n (s.on 1) 999).bind fun(x,_,s)=> .ok (x,s)else .ok (.atom DR,s)).bind fun(e,s)=>
     (pass ts s 93).bind fun s=> .ok (Cd l e,0,s)
  else if AG t 123&& !AG (Jc ts s 1) 125 then
   (Ay n (s.on 1) 1200).bind fun(x,_,s)=>(pass ts s 125).bind fun s=> .ok (.cmp DU [x],0,s)
  else if AG t 91 then Aq n (s.on 2) DR t most
  else if AG t 123 then Aq n (s.on 2) DU t most
  else if Cb t then Aq n (s.on 1) t.tx t most
  else stuck ts s
def Aq:Nat->RS->Bs->Tk->Int->Rz (Tm×Int×RS)
 |0,_,_,_,_=> .stop 0 0
 |n+1,s,nm,t,most=>
  let u:=now ts s
  if AG u 40&& !u.ly then(Ba n (s.on 1)).bind fun(l,s)=>(pass ts s 41).bind fun s=> .ok (.cmp nm l,0,s)
  else if t.kind=1/\nm= [45]/\(u.kind=4\/u.kind=5)/\u.ly=false then .ok (Cj u true,0,s.on 1)
  else match(O.pre nm).filter (fun o=>decide (o.pr<=most)&&DJ ts O s)with
   |some o=>(Ay n s (DV o)).bind fun(x,_,s)=> .ok (.cmp nm [x],o.pr,s)
   |none=> .ok (.atom nm,0,s)
end
end
def E8 (n:Nat) (out:List Nat):List Nat:=if n∈out then out else out++ [n]
mutual
def vars:Tm->List Nat->List Nat
 | .var n,out=>E8 n out
 | .atom _,out=>out
 | .int _,out=>out
 | .Hs _,out=>out
 | .cmp _ l,out=>Ck l out
def Ck:List Tm->List Nat->List Nat
 | [],out=>out
 |x::l,out=>Ck l (vars x out)
end
structure RS.Ok (s:RS):Prop where
 lt:∀x∈s.names,x.2<s.vars
 anon:∀x∈s.names,x.1≠ [95]
 once:(s.names.map (·.1)).Nodup
 Tj:(s.names.map (·.2)).Pairwise (· < ·)
 len:s.times.length=s.names.length
theorem Td {n v:Nat}(h:n<v):E8 n (List.range v)=List.range v:=by
 unfold E8;rw[lQ (pX.2 h)]
theorem LY (v:Nat):E8 v (List.range v)=List.range (v+1):=by
 unfold E8;rw[lL (by simp),List.range_succ]
theorem Pj {nm:Bs} {l:List (Bs×Nat)}(h:nameAt nm l=none):nm∉l.map (·.1):=by
 induction l with
 |nil=>simp
 |cons x l ih=>
  unfold nameAt at h;split at h
  ·cases h
  ·rename_i qP;simp only[Option.map_eq_none_iff]at h;simp only[List.map_cons,oK,not_or];exact⟨fun e=>qP e.symm,ih h⟩
theorem O8 {nm:Bs} {l:List (Bs×Nat)} {i:Nat}(h:nameAt nm l=some i):∃x,l[i]? =some x/\x.1=nm:=by
 induction l generalizing i with
 |nil=>cases h
 |cons x l ih=>
  unfold nameAt at h;split at h
  ·rename_i he;cases h;exact⟨x,rfl,he⟩
  ·simp only[Option.map_eq_some_iff]at h;obtain⟨j,hj,rfl⟩:=h;exact ih hj
theorem RS.Ok.on {s:RS}(h:s.Ok) (n:Nat):(s.on n).Ok:=⟨h.lt,h.anon,h.once,h.Tj,h.len⟩
theorem bO {s:RS}(h:s.Ok) (nm:Bs):(EV s nm).2.Ok/\vars (EV s nm).1 (List.range s.vars)=List.range (EV s nm).2.vars:=by
 unfold EV;split
 ·exact⟨⟨fun x hx=>Nat.lt_succ_of_lt (h.lt x hx),h.anon,h.once,h.Tj,h.len⟩,LY _⟩
 ·rename_i qP;split
  ·rename_i i hi;obtain⟨x,hx,_⟩:=O8 hi;refine⟨⟨h.lt,h.anon,h.once,h.Tj,by simp[h.len]⟩,?_⟩;have ya:s.names.getD i ([],0)=x:=by rw[lZ,hx];rfl
   show E8 (s.names.getD i ([],0)).2 _=_;rw[ya];exact Td (h.lt x (mP hx))
  ·rename_i uE;have uE:=Pj uE;refine⟨⟨?_,?_,?_,?_,?_⟩,LY _⟩
   ·intro x hx;rcases List.mem_append.1 hx with hx|hx
    ·exact Nat.lt_succ_of_lt (h.lt x hx)
    ·rw[og.1 hx];exact oE _
   ·intro x hx;rcases List.mem_append.1 hx with hx|hx
    ·exact h.anon x hx
    ·rw[og.1 hx];exact qP
   ·show((s.names++ [(nm,s.vars)]).map (·.1)).Nodup;rw[oC,List.nodup_append];refine⟨h.once,by simp,?_⟩;intro a ha b hb;simp only[List.map_cons,List.map_nil,og]at hb;subst hb;exact fun e=>uE (e▸ha)
   ·show((s.names++ [(nm,s.vars)]).map (·.2)).Pairwise (· < ·);rw[oC,List.pairwise_append];refine⟨h.Tj,by simp,?_⟩;intro a ha b hb;simp only[List.map_cons,List.map_nil,og]at hb;subst hb;obtain⟨x,hx,rfl⟩:=List.mem_map.1 ha;exact h.lt x hx
   ·simp[h.len]
theorem P4 (l:List Tm) (e:Tm) (out:List Nat):vars (Cd l e) out=vars e (Ck l out):=by
 induction l generalizing out with
 |nil=>rfl
 |cons x l ih=>
  show vars (.cmp [46] [x,Cd l e]) out=_;simp only[vars,Ck];exact ih _
theorem Rz.AH {α β:Type} {x:Rz α} {f:α->Rz β} {b:β}(h:x.bind f= .ok b):∃a,x= .ok a/\f a= .ok b:=by
 cases x with
 |ok a=>exact⟨a,rfl,h⟩
 |stop w p=>cases h
section
variable {ts:List Tk} {O:Am} {quotes:Int} {tx:Bs->Int->Tm}
theorem Hz {s s':RS} {c:UInt8}(h:pass ts s c= .ok s'):s'=s.on 1:=by
 unfold pass at h;split at h
 ·cases h;rfl
 ·unfold stuck at h;cases h
structure Good (s:RS) (t:Tm) (s':RS):Prop where
 ok:s'.Ok
 eq:vars t (List.range s.vars)=List.range s'.vars
theorem Ig (t:Tk) (m:Bool) (out:List Nat):vars (Cj t m) out=out:=by
 unfold Cj;split<;>simp only[vars]
theorem reads (htx:∀s q out,vars (tx s q) out=out) (n:Nat):
  (∀s most t p s',s.Ok->Ay ts O quotes tx n s most= .ok (t,p,s')->Good s t s')/\
  (∀s most x p t q s' v,s.Ok->vars x (List.range v)=List.range s.vars->CQ ts O quotes tx n s most x p= .ok (t,q,s')->s'.Ok/\vars t (List.range v)=List.range s'.vars)/\
  (∀s l s',s.Ok->Ba ts O quotes tx n s= .ok (l,s')->s'.Ok/\Ck l (List.range s.vars)=List.range s'.vars)/\
  (∀s most t p s',s.Ok->A6 ts O quotes tx n s most= .ok (t,p,s')->Good s t s')/\
  (∀s nm tk most t p s',s.Ok->Aq ts O quotes tx n s nm tk most= .ok (t,p,s')->Good s t s'):=by
 induction n with
 |zero=>
  refine⟨?_,?_,?_,?_,?_⟩
  ·intro s most t p s' _ h;simp only[Ay]at h;cases h
  ·intro s most x p t q s' v _ _ h;simp only[CQ]at h;cases h
  ·intro s l s' _ h;simp only[Ba]at h;cases h
  ·intro s most t p s' _ h;simp only[A6]at h;cases h
  ·intro s nm tk most t p s' _ h;simp only[Aq]at h;cases h
 |succ n ih=>
  obtain⟨iT,iL,iI,iE,iN⟩:=ih;refine⟨?_,?_,?_,?_,?_⟩
  ·intro s most t p s' hs h;simp only[Ay]at h;obtain⟨⟨x,q,s1⟩,h1,h2⟩:=Rz.AH h;have g:=iE _ _ _ _ _ hs h1;have k:=iL _ _ _ _ _ _ _ _ g.ok g.eq h2;exact⟨k.1,k.2⟩
  ·intro s most x p t q s' v hs hx h;simp only[CQ]at h;split at h
   ·cases h;exact⟨hs,hx⟩
   ·split at h
    ·obtain⟨⟨y,q1,s1⟩,h1,h2⟩:=Rz.AH h;have g:=iT _ _ _ _ _ (hs.on 1) h1;exact iL _ _ _ _ _ _ _ _ g.ok (by simp only[vars,Ck];rw[hx];exact g.eq) h2
    ·split at h
     ·exact iL _ _ _ _ _ _ _ _ (hs.on 1) (by simp only[vars,Ck];exact hx) h
     ·cases h;exact⟨hs,hx⟩
  ·intro s l s' hs h;simp only[Ba]at h;obtain⟨⟨x,q,s1⟩,h1,h2⟩:=Rz.AH h;have g:=iT _ _ _ _ _ hs h1;dsimp only at h2;split at h2
   ·obtain⟨⟨l1,s2⟩,h3,h4⟩:=Rz.AH h2;have k:=iI _ _ _ (g.ok.on 1) h3;cases h4;exact⟨k.1,by simp only[Ck];rw[g.eq];exact k.2⟩
   ·cases h2;exact⟨g.ok,by simp only[Ck];exact g.eq⟩
  ·intro s most t p s' hs h;simp only[A6]at h;split at h
   ·cases h;exact⟨hs.on 1,Ig _ _ _⟩
   split at h
   ·cases h;have:=bO (hs.on 1) (now ts s).tx;exact⟨this.1,this.2⟩
   split at h
   ·cases h;exact⟨hs.on 1,htx _ _ _⟩
   split at h
   ·cases h;exact⟨hs.on 1,htx _ _ _⟩
   split at h
   ·obtain⟨⟨x,q,s1⟩,h1,h2⟩:=Rz.AH h;obtain⟨s2,h3,h4⟩:=Rz.AH h2;have g:=iT _ _ _ _ _ (hs.on 1) h1;obtain rfl:=Hz h3;cases h4;exact⟨g.ok.on 1,g.eq⟩
   split at h
   ·obtain⟨⟨l,s1⟩,h1,h2⟩:=Rz.AH h;obtain⟨⟨e,s2⟩,h3,h4⟩:=Rz.AH h2;obtain⟨s3,h5,h6⟩:=Rz.AH h4;have g:=iI _ _ _ (hs.on 1) h1;obtain rfl:=Hz h5;have k:s2.Ok/\vars e (List.range s1.vars)=List.range s2.vars:=by
     dsimp only at h3;split at h3
     ·obtain⟨⟨x,q,s4⟩,h7,h8⟩:=Rz.AH h3;have g2:=iT _ _ _ _ _ (g.1.on 1) h7;cases h8;exact⟨g2.ok,g2.eq⟩
     ·cases h3;exact⟨g.1,by simp only[vars]⟩
    cases h6;exact⟨k.1.on 1,by rw[P4];rw[show Ck l (List.range s.vars)=List.range s1.vars from g.2];exact k.2⟩
   split at h
   ·obtain⟨⟨x,q,s1⟩,h1,h2⟩:=Rz.AH h;obtain⟨s2,h3,h4⟩:=Rz.AH h2;have g:=iT _ _ _ _ _ (hs.on 1) h1;obtain rfl:=Hz h3;cases h4;exact⟨g.ok.on 1,by simp only[vars,Ck];exact g.eq⟩
   split at h
   ·have g:=iN _ _ _ _ _ _ _ (hs.on 2) h;exact⟨g.ok,g.eq⟩
   split at h
   ·have g:=iN _ _ _ _ _ _ _ (hs.on 2) h;exact⟨g.ok,g.eq⟩
   split at h
   ·have g:=iN _ _ _ _ _ _ _ (hs.on 1) h;exact⟨g.ok,g.eq⟩
   ·unfold stuck at h;cases h
  ·intro s nm tk most t p s' hs h;simp only[Aq]at h;split at h
   ·obtain⟨⟨l,s1⟩,h1,h2⟩:=Rz.AH h;obtain⟨s2,h3,h4⟩:=Rz.AH h2;have g:=iI _ _ _ (hs.on 1) h1;obtain rfl:=Hz h3;cases h4;exact⟨g.1.on 1,by simp only[vars];exact g.2⟩
   split at h
   ·cases h;exact⟨hs.on 1,Ig _ _ _⟩
   split at h
   ·obtain⟨⟨x,q,s1⟩,h1,h2⟩:=Rz.AH h;have g:=iT _ _ _ _ _ hs h1;cases h2;exact⟨g.ok,by simp only[vars,Ck];exact g.eq⟩
   ·cases h;exact⟨hs,by simp only[vars]⟩
end
end Go.Pz
namespace Go.Pz
mutual
def Dx:Tm->Nat->Nat
 | .cmp _ l,n=>El l (n+1)
 | .var _,n=>n+1
 | .atom _,n=>n+1
 | .int _,n=>n+1
 | .Hs _,n=>n+1
def El:List Tm->Nat->Nat
 | [],n=>n
 |x::l,n=>if 4000<n then n else El l (Dx x n)
end
section
variable (vs is:Bs->Bool) (fs:Nat->Bool)
def Av:Tm->Nat
 | .var _=>0
 | .atom s=>if vs s=false\/1000<s.length then 21 else 0
 | .int s=>if is s then 0 else 22
 | .Hs b=>if fs b then 0 else 23
 | .cmp s l=>if l.length=0\/64<l.length then 20 else if vs s=false\/1000<s.length then 21 else 0
mutual
def JH:Tm->Nat
 | .cmp s l=>if Av vs is fs (.cmp s l)=0 then F0 l else Av vs is fs (.cmp s l)
 | .var n=>Av vs is fs (.var n)
 | .atom s=>Av vs is fs (.atom s)
 | .int s=>Av vs is fs (.int s)
 | .Hs b=>Av vs is fs (.Hs b)
def F0:List Tm->Nat
 | []=>0
 |x::l=>if JH x=0 then F0 l else JH x
end
def GR (t:Tm):Nat:=if 4000<min (Dx t 0) 4001 then 24 else JH vs is fs t
end
mutual
def leaves (I:Bs->Prop) (F:Nat->Prop):Tm->Prop
 | .int s=>I s
 | .Hs b=>F b
 | .var _=>True
 | .atom _=>True
 | .cmp _ l=>BM I F l
def BM (I:Bs->Prop) (F:Nat->Prop):List Tm->Prop
 | []=>True
 |x::l=>leaves I F x/\BM I F l
end
theorem En {I:Bs->Prop} {F:Nat->Prop} {l:List Tm} :BM I F l↔∀x∈l,leaves I F x:=by
 induction l with
 |nil=>simp[BM]
 |cons x l ih=>simp only[BM,ih,oK,forall_eq_or_imp]
theorem IC {I:Bs->Prop} {F:Nat->Prop}(l:List Tm) (e:Tm) (h:BM I F l) (he:leaves I F e):leaves I F (Cd l e):=by
 induction l with
 |nil=>exact he
 |cons x l ih=>
  simp only[BM]at h;show leaves I F (.cmp [46] [x,Cd l e]);simp only[leaves,BM,pZ];exact⟨h.1,ih h.2⟩
section
variable {ts:List Tk} {O:Am} {quotes:Int} {tx:Bs->Int->Tm} {I:Bs->Prop} {F:Nat->Prop}
theorem M3 (hn:∀t∈ts,t.kind=4\/t.kind=5->∀m,leaves I F (Cj t m)) (htx:∀s q,leaves I F (tx s q)) (n:Nat):
  (∀s most t p s',Ay ts O quotes tx n s most= .ok (t,p,s')->leaves I F t)/\
  (∀s most x p t q s',leaves I F x->CQ ts O quotes tx n s most x p= .ok (t,q,s')->leaves I F t)/\
  (∀s l s',Ba ts O quotes tx n s= .ok (l,s')->BM I F l)/\
  (∀s most t p s',A6 ts O quotes tx n s most= .ok (t,p,s')->leaves I F t)/\
  (∀s nm tk most t p s',Aq ts O quotes tx n s nm tk most= .ok (t,p,s')->leaves I F t):=by
 have vO:∀s m,(now ts s).kind=4\/(now ts s).kind=5->leaves I F (Cj (now ts s) m):=by
  intro s m;unfold now;rw[lZ];cases h:ts[s.k]?with
  |none=>exact fun hk=>absurd hk (by decide)
  |some t=>exact fun hk=>hn t (mP h) hk m
 have ti:∀(s:RS) nm,leaves I F (EV s nm).1:=by
  intro s nm;unfold EV;split
  ·simp only[leaves]
  ·split<;>simp only[leaves]
 induction n with
 |zero=>
  refine⟨?_,?_,?_,?_,?_⟩
  ·intro s most t p s' h;simp only[Ay]at h;cases h
  ·intro s most x p t q s' _ h;simp only[CQ]at h;cases h
  ·intro s l s' h;simp only[Ba]at h;cases h
  ·intro s most t p s' h;simp only[A6]at h;cases h
  ·intro s nm tk most t p s' h;simp only[Aq]at h;cases h
 |succ n ih=>
  obtain⟨iT,iL,iI,iE,iN⟩:=ih;refine⟨?_,?_,?_,?_,?_⟩
  ·intro s most t p s' h;simp only[Ay]at h;obtain⟨⟨x,q,s1⟩,h1,h2⟩:=Rz.AH h;exact iL _ _ _ _ _ _ _ (iE _ _ _ _ _ h1) h2
  ·intro s most x p t q s' hx h;simp only[CQ]at h;split at h
   ·cases h;exact hx
   ·split at h
    ·obtain⟨⟨y,q1,s1⟩,h1,h2⟩:=Rz.AH h;exact iL _ _ _ _ _ _ _ (by simp only[leaves,BM,pZ];exact⟨hx,iT _ _ _ _ _ h1⟩) h2
    ·split at h
     ·exact iL _ _ _ _ _ _ _ (by simp only[leaves,BM,pZ];exact hx) h
     ·cases h;exact hx
  ·intro s l s' h;simp only[Ba]at h;obtain⟨⟨x,q,s1⟩,h1,h2⟩:=Rz.AH h;have g:=iT _ _ _ _ _ h1;dsimp only at h2;split at h2
   ·obtain⟨⟨l1,s2⟩,h3,h4⟩:=Rz.AH h2;have k:=iI _ _ _ h3;cases h4;simp only[BM];exact⟨g,k⟩
   ·cases h2;simp only[BM,pZ];exact g
  ·intro s most t p s' h;simp only[A6]at h;split at h
   ·rename_i hk;cases h;exact vO _ _ hk
   split at h
   ·cases h;exact ti _ _
   split at h
   ·cases h;exact htx _ _
   split at h
   ·cases h;exact htx _ _
   split at h
   ·obtain⟨⟨x,q,s1⟩,h1,h2⟩:=Rz.AH h;obtain⟨s2,h3,h4⟩:=Rz.AH h2;cases h4;exact iT _ _ _ _ _ h1
   split at h
   ·obtain⟨⟨l,s1⟩,h1,h2⟩:=Rz.AH h;obtain⟨⟨e,s2⟩,h3,h4⟩:=Rz.AH h2;obtain⟨s3,h5,h6⟩:=Rz.AH h4;have k:leaves I F e:=by
     dsimp only at h3;split at h3
     ·obtain⟨⟨x,q,s4⟩,h7,h8⟩:=Rz.AH h3;cases h8;exact iT _ _ _ _ _ h7
     ·cases h3;simp only[leaves]
    cases h6;exact IC _ _ (iI _ _ _ h1) k
   split at h
   ·obtain⟨⟨x,q,s1⟩,h1,h2⟩:=Rz.AH h;obtain⟨s2,h3,h4⟩:=Rz.AH h2;cases h4;simp only[leaves,BM,pZ];exact iT _ _ _ _ _ h1
   split at h
   ·exact iN _ _ _ _ _ _ _ h
   split at h
   ·exact iN _ _ _ _ _ _ _ h
   split at h
   ·exact iN _ _ _ _ _ _ _ h
   ·unfold stuck at h;cases h
  ·intro s nm tk most t p s' h;simp only[Aq]at h;split at h
   ·obtain⟨⟨l,s1⟩,h1,h2⟩:=Rz.AH h;obtain⟨s2,h3,h4⟩:=Rz.AH h2;cases h4;simp only[leaves];exact iI _ _ _ h1
   split at h
   ·rename_i hk;cases h;exact vO _ _ hk.2.2.1
   split at h
   ·obtain⟨⟨x,q,s1⟩,h1,h2⟩:=Rz.AH h;cases h2;simp only[leaves,BM,pZ];exact iT _ _ _ _ _ h1
   ·cases h;simp only[leaves]
end
end Go.Pz
namespace Go.Pz
section
variable (ts:List Tk) (O:Am) (quotes:Int) (tx:Bs->Int->Tm)
end
def cls (kind:Int):Nat:=if kind=1\/kind=2 then 1 else if kind=3\/kind=4\/kind=5 then 2 else if kind=6\/kind=7 then 3 else 0
def Am.get (O:Am) (c:Nat):Bs->Option DH:=if c=1 then O.pre else if c=2 then O.inf else O.post
def put (f:Bs->Option DH) (nm:Bs) (v:Option DH):Bs->Option DH:=fun x=>if x=nm then v else f x
def Am.set (O:Am) (c:Nat) (nm:Bs) (v:Option DH):Am:=
 if c=1 then {O with pre:=put O.pre nm v} else if c=2 then {O with inf:=put O.inf nm v} else {O with post:=put O.post nm v}
def EK (O:Am) (p kind:Int) (nm:Bs):Nat×Am:=
 let c:=cls kind
 if p<0\/1200<p then(40,O)
 else if c=0 then(41,O)
 else if nm= [44]then(42,O)
 else if nm= [124]/\¬(c=2/\(p=0\/1000<p))\/nm= [91,93]\/nm= [123,125]then(43,O)
 else if p=0 then(0,O.set c nm none)
 else if c=2/\(O.post nm).isSome\/c=3/\(O.inf nm).isSome then(43,O)
 else(0,O.set c nm (some ⟨kind,p⟩))
abbrev Be:=List (Bs×DH)
def findD (c:Nat) (nm:Bs):Be->Option DH
 | []=>none
 |x::l=>if x.1=nm/\cls x.2.ty=c then some x.2 else findD c nm l
def A7 (c:Nat) (nm:Bs) (l:Be):Be:=l.filter fun x=> !(decide (x.1=nm)&&decide (cls x.2.ty=c))
def EU (l:Be) (p kind:Int) (nm:Bs):Nat×Be:=
 let c:=cls kind
 if p<0\/1200<p then(40,l)
 else if c=0 then(41,l)
 else if nm= [44]then(42,l)
 else if nm= [91,93]\/nm= [123,125]then(43,l)
 else if nm= [124]/\(c≠2\/1<=p/\p<=1000)then(43,l)
 else if 0<p/\(c=2/\(findD 3 nm l).isSome\/c=3/\(findD 2 nm l).isSome)then(43,l)
 else(0,A7 c nm l++if 0<p then [(nm,⟨kind,p⟩)]else [])
structure Eb (O:Am) (l:Be):Prop where
 pre:∀nm,O.pre nm=findD 1 nm l
 inf:∀nm,O.inf nm=findD 2 nm l
 post:∀nm,O.post nm=findD 3 nm l
theorem Eb.get {O:Am} {l:Be}(h:Eb O l){c:Nat}(hc:c=1\/c=2\/c=3) (nm:Bs):O.get c nm=findD c nm l:=by
 rcases hc with rfl|rfl|rfl
 ·exact h.pre nm
 ·exact h.inf nm
 ·exact h.post nm
theorem Eb.Qc {O:Am} {l:Be}(h:∀c,c=1\/c=2\/c=3->∀nm,O.get c nm=findD c nm l):Eb O l:=
 ⟨fun nm=>h 1 (.inl rfl) nm,fun nm=>h 2 (.inr (.inl rfl)) nm,fun nm=>h 3 (.inr (.inr rfl)) nm⟩
theorem Nx (O:Am){c d:Nat}(hc:c=1\/c=2\/c=3) (hd:d=1\/d=2\/d=3) (nm x:Bs) (v:Option DH):(O.set c nm v).get d x=if d=c/\x=nm then v else O.get d x:=by
 rcases hc with rfl|rfl|rfl<;>rcases hd with rfl|rfl|rfl<;>simp[Am.set,Am.get,put]
theorem Ik (c:Nat) (nm:Bs) (l m:Be):findD c nm (l++m)=(findD c nm l).orElse fun _=>findD c nm m:=by
 induction l with
 |nil=>rfl
 |cons x l ih=>
  simp only[List.cons_append,findD];split
  ·rfl
  ·exact ih
theorem Ln (c d:Nat) (nm x:Bs) (l:Be):findD d x (A7 c nm l)=if d=c/\x=nm then none else findD d x l:=by
 induction l with
 |nil=>simp[A7,findD]
 |cons y l ih=>
  unfold A7 at ih⊢;rw[List.filter_cons];by_cases hy:y.1=nm/\cls y.2.ty=c
  ·rw[lL (by simp[hy.1,hy.2]),ih];by_cases hk:d=c/\x=nm
   ·rw[lQ hk,lQ hk]
   ·rw[lL hk,lL hk]
    conv=>rhs;unfold findD
    rw[lL (by rintro⟨h1,h2⟩;exact hk ⟨by rw[<-h2,hy.2],by rw[<-h1,hy.1]⟩)]
  ·rw[lQ (by simp only[Bool.not_eq_true',Bool.and_eq_false_iff,mN];exact Decidable.not_and_iff_not_or_not.1 hy)];unfold findD;split
   ·rename_i h;rw[lL (by rintro⟨h1,h2⟩;exact hy ⟨by rw[h.1,h2],by rw[h.2,h1]⟩)]
   ·exact ih
theorem Ur {O:Am} {l:Be}(h:Eb O l) (p kind:Int) (nm:Bs):(EK O p kind nm).1=(EU l p kind nm).1/\Eb (EK O p kind nm).2 (EU l p kind nm).2:=by
 unfold EK EU;dsimp only;by_cases h1:p<0\/1200<p
 ·rw[lQ h1,lQ h1];exact⟨rfl,h⟩
 rw[lL h1,lL h1];by_cases h2:cls kind=0
 ·rw[lQ h2,lQ h2];exact⟨rfl,h⟩
 rw[lL h2,lL h2];have hc:cls kind=1\/cls kind=2\/cls kind=3:=by
  revert h2
  unfold cls
  repeat' split
  all_goals simp
 by_cases h3:nm= [44]
 ·rw[lQ h3,lQ h3];exact⟨rfl,h⟩
 rw[lL h3,lL h3];by_cases h4:nm= [91,93]\/nm= [123,125]
 ·rw[lQ (.inr h4),lQ h4];exact⟨rfl,h⟩
 rw[lL h4];by_cases h5:nm= [124]/\(cls kind≠2\/1<=p/\p<=1000)
 ·rw[lQ (.inl ⟨h5.1,by have:=h5.2;omega⟩),lQ h5];exact⟨rfl,h⟩
 rw[lL h5];rw[lL (by rintro(⟨a,b⟩|hx);exact h5 ⟨a,by omega⟩;exact h4 hx)];by_cases h6:p=0
 ·rw[lQ h6,lL (by omega),lL (by omega),nj];refine⟨rfl,Eb.Qc fun d hd x=> ?_⟩;rw[Nx O hc hd,Ln];split
  ·rfl
  ·exact h.get hd x
 rw[lL h6,h.inf,h.post];by_cases h7:cls kind=2/\(findD 3 nm l).isSome\/cls kind=3/\(findD 2 nm l).isSome
 ·rw[lQ h7,lQ ⟨by omega,h7⟩];exact⟨rfl,h⟩
 rw[lL h7,lL (fun k=>h7 k.2),lQ (by omega)];refine⟨rfl,Eb.Qc fun d hd x=> ?_⟩;rw[Nx O hc hd,Ik,Ln];by_cases hk:d=cls kind/\x=nm
 ·rw[lQ hk,lQ hk,hk.1,hk.2];simp[findD]
 ·rw[lL hk,lL hk,h.get hd x];have:findD d x [(nm,(⟨kind,p⟩:DH))]=none:=by
   unfold findD;rw[lL (fun a=>hk ⟨a.2.symm,a.1.symm⟩)];rfl
  rw[this];cases findD d x l<;>rfl
structure Bd (ts:List Tk) (s:RS):Prop where
 kl:s.k<ts.length
 vk:s.vars<=s.k
 nl:s.names.length<=s.vars
 tl:s.times.length=s.names.length
 tk:∀x∈s.times,x<=s.k
 nv:∀x∈s.names,x.2<s.vars
def EO (ts:List Tk):Prop:=∀k t,ts[k]? =some t->t.kind≠9->t.kind≠10->k+1<ts.length
section
variable {ts:List Tk} {O:Am} {quotes:Int} {tx:Bs->Int->Tm}
theorem Iw {s:RS}(h:s.k<ts.length):ts[s.k]? =some (now ts s):=by
 unfold now;rw[lZ,lu h];rfl
theorem Bd.on (hl:EO ts){s:RS}(h:Bd ts s) (h9:(now ts s).kind≠9) (sD:(now ts s).kind≠10):Bd ts (s.on 1):=
 ⟨hl s.k _ (Iw h.kl) h9 sD,Nat.le_succ_of_le h.vk,h.nl,h.tl,fun x hx=>Nat.le_succ_of_le (h.tk x hx),h.nv⟩
theorem Bv {t:Tk} {c:UInt8}(h:AG t c=true):t.kind=8:=by
 unfold AG at h;simp only[mJ,mL]at h;exact h.1
theorem Pt {t:Tk}(h:Cb t=true):t.kind=1\/t.kind=2:=by
 unfold Cb at h;simpa using h
theorem Bd.AG (hl:EO ts){s:RS}(h:Bd ts s){c:UInt8}(hp:AG (now ts s) c=true):Bd ts (s.on 1):=
 h.on hl (by rw[Bv hp];decide) (by rw[Bv hp];decide)
theorem Bd.name (hl:EO ts){s:RS}(h:Bd ts s) (hp:Cb (now ts s)=true):Bd ts (s.on 1):=by
 have:=Pt hp;exact h.on hl (by omega) (by omega)
theorem Rs {s:RS} {c:UInt8}(hl:EO ts) (h:Bd ts s) (hp:Pz.AG (Jc ts s 1) c=true) (h0:(ts.getD (ts.length-1) default).kind≠8):Bd ts (s.on 2):=by
 unfold Jc at hp;split at hp
 ·exact absurd (Bv hp) h0
 ·rename_i qE;have h1:s.k+1<ts.length:=by omega
  have h2:ts[s.k+1]? =some (ts.getD (s.k+1) default):=by
   rw[lZ,lu h1];rfl
  have h3:=Bv hp;exact⟨hl _ _ h2 (by omega) (by omega),lg h.vk (Nat.le_add_right _ _),h.nl,h.tl,fun x hx=>lg (h.tk x hx) (Nat.le_add_right _ _),h.nv⟩
theorem Bd.var {s:RS}(h:Bd ts s) (hv:s.vars<s.k) (ht:∀x∈s.times,x<s.k) (nm:Bs):Bd ts (EV s nm).2/\(EV s nm).2.k=s.k:=by
 unfold EV;split
 ·exact⟨⟨h.kl,hv,Nat.le_succ_of_le h.nl,h.tl,h.tk,fun x hx=>Nat.lt_succ_of_lt (h.nv x hx)⟩,rfl⟩
 ·split
  ·refine⟨⟨h.kl,h.vk,h.nl,by simp[h.tl],?_,h.nv⟩,rfl⟩;intro x hx;obtain⟨j,hj⟩:=List.getElem?_of_mem hx;dsimp only at hj;rw[List.getElem?_modify]at hj;cases hs:s.times[j]?with
   |none=>rw[hs]at hj;cases hj
   |some y=>
    rw[hs]at hj;have:=ht y (mP hs);simp only[Option.map_eq_map,Option.map_some,mD]at hj;show x<=s.k;split at hj<;>omega
  ·refine⟨⟨h.kl,hv,?_,by simp[h.tl],?_,?_⟩,rfl⟩
   ·simp only[l6,nF,pf];have:=h.nl;omega
   ·intro x hx;rcases List.mem_append.1 hx with hx|hx
    ·exact h.tk x hx
    ·rw[og.1 hx];show 1<=s.k;omega
   ·intro x hx;rcases List.mem_append.1 hx with hx|hx
    ·exact Nat.lt_succ_of_lt (h.nv x hx)
    ·rw[og.1 hx];exact oE _
theorem Jy (hl:EO ts){s s':RS} {c:UInt8}(h:Bd ts s) (hp:pass ts s c= .ok s'):Bd ts s'/\s'=s.on 1:=by
 have h2:=Hz hp;unfold pass at hp;split at hp
 ·rename_i hc;rw[h2];exact⟨h.AG hl hc,rfl⟩
 ·unfold stuck at hp;cases hp
theorem IN (hl:EO ts) (h0:(ts.getD (ts.length-1) default).kind≠8) (n:Nat):
  (∀s most t p s',Bd ts s->Ay ts O quotes tx n s most= .ok (t,p,s')->Bd ts s'/\s.k<s'.k)/\
  (∀s most x p t q s',Bd ts s->CQ ts O quotes tx n s most x p= .ok (t,q,s')->Bd ts s'/\s.k<=s'.k)/\
  (∀s l s',Bd ts s->Ba ts O quotes tx n s= .ok (l,s')->Bd ts s'/\s.k<s'.k)/\
  (∀s most t p s',Bd ts s->A6 ts O quotes tx n s most= .ok (t,p,s')->Bd ts s'/\s.k<s'.k)/\
  (∀s nm tk most t p s',Bd ts s->Aq ts O quotes tx n s nm tk most= .ok (t,p,s')->Bd ts s'/\s.k<=s'.k):=by
 induction n with
 |zero=>
  refine⟨?_,?_,?_,?_,?_⟩
  ·intro s most t p s' _ h;simp only[Ay]at h;cases h
  ·intro s most x p t q s' _ h;simp only[CQ]at h;cases h
  ·intro s l s' _ h;simp only[Ba]at h;cases h
  ·intro s most t p s' _ h;simp only[A6]at h;cases h
  ·intro s nm tk most t p s' _ h;simp only[Aq]at h;cases h
 |succ n ih=>
  obtain⟨iT,iL,iI,iE,iN⟩:=ih;refine⟨?_,?_,?_,?_,?_⟩
  ·intro s most t p s' hs h;simp only[Ay]at h;obtain⟨⟨x,q,s1⟩,h1,h2⟩:=Rz.AH h;have g:=iE _ _ _ _ _ hs h1;have k:=iL _ _ _ _ _ _ _ g.1 h2;exact⟨k.1,by omega⟩
  ·intro s most x p t q s' hs h;simp only[CQ]at h;split at h
   ·cases h;exact⟨hs,lM _⟩
   ·rename_i hc;have hs1:Bd ts (s.on 1):=by
     cases h1:Cb (now ts s)with
     |true=>exact hs.name hl h1
     |false=>
      cases h2:AG (now ts s) 44 with
      |true=>exact hs.AG hl h2
      |false=>
       cases h3:AG (now ts s) 124 with
       |true=>exact hs.AG hl h3
       |false=>rw[h1,h2,h3]at hc;simp at hc
    split at h
    ·obtain⟨⟨y,q1,s1⟩,h1,h2⟩:=Rz.AH h;have g:=iT _ _ _ _ _ hs1 h1;have k:=iL _ _ _ _ _ _ _ g.1 h2;have:(s.on 1).k=s.k+1:=rfl;exact⟨k.1,by omega⟩
    ·split at h
     ·have k:=iL _ _ _ _ _ _ _ hs1 h;have:(s.on 1).k=s.k+1:=rfl;exact⟨k.1,by omega⟩
     ·cases h;exact⟨hs,lM _⟩
  ·intro s l s' hs h;simp only[Ba]at h;obtain⟨⟨x,q,s1⟩,h1,h2⟩:=Rz.AH h;have g:=iT _ _ _ _ _ hs h1;dsimp only at h2;split at h2
   ·rename_i hp;obtain⟨⟨l1,s2⟩,h3,h4⟩:=Rz.AH h2;have k:=iI _ _ _ (g.1.AG hl hp) h3;cases h4;have:(s1.on 1).k=s1.k+1:=rfl;exact⟨k.1,by have k2:=k.2;dsimp only at k2⊢;omega⟩
   ·cases h2;exact g
  ·intro s most t p s' hs h;simp only[A6]at h;split at h
   ·rename_i hk;cases h;exact⟨hs.on hl (by omega) (by omega),oE _⟩
   split at h
   ·rename_i hk;have h1:=hs.on hl (by omega) (by omega);have h2:=h1.var (Nat.lt_succ_of_le hs.vk) (fun x hx=>Nat.lt_succ_of_le (hs.tk x hx)) (now ts s).tx;cases h;exact⟨h2.1,by rw[h2.2];exact oE _⟩
   split at h
   ·rename_i hk;cases h;exact⟨hs.on hl (by omega) (by omega),oE _⟩
   split at h
   ·rename_i hk;cases h;exact⟨hs.on hl (by omega) (by omega),oE _⟩
   split at h
   ·rename_i hp;obtain⟨⟨x,q,s1⟩,h1,h2⟩:=Rz.AH h;obtain⟨s2,h3,h4⟩:=Rz.AH h2;have g:=iT _ _ _ _ _ (hs.AG hl hp) h1;obtain⟨g2,rfl⟩:=Jy hl g.1 h3;cases h4;have e1:(s.on 1).k=s.k+1:=rfl;have e2:(s1.on 1).k=s1.k+1:=rfl;exact⟨g2,by omega⟩
   split at h
   ·rename_i hp;simp only[mJ]at hp;obtain⟨⟨l,s1⟩,h1,h2⟩:=Rz.AH h;obtain⟨⟨e,s2⟩,h3,h4⟩:=Rz.AH h2;obtain⟨s3,h5,h6⟩:=Rz.AH h4;have g:=iI _ _ _ (hs.AG hl hp.1) h1;have k:Bd ts s2/\s1.k<=s2.k:=by
     dsimp only at h3;split at h3
     ·rename_i hq;obtain⟨⟨x,q,s4⟩,h7,h8⟩:=Rz.AH h3;have g2:=iT _ _ _ _ _ (g.1.AG hl hq) h7;cases h8;have e1:(s1.on 1).k=s1.k+1:=rfl;exact⟨g2.1,by have k2:=g2.2;dsimp only at k2⊢;omega⟩
     ·cases h3;exact⟨g.1,lM _⟩
    obtain⟨g2,rfl⟩:=Jy hl k.1 h5;cases h6;have e1:(s.on 1).k=s.k+1:=rfl;have e2:(s2.on 1).k=s2.k+1:=rfl;exact⟨g2,by omega⟩
   split at h
   ·rename_i hp;simp only[mJ]at hp;obtain⟨⟨x,q,s1⟩,h1,h2⟩:=Rz.AH h;obtain⟨s2,h3,h4⟩:=Rz.AH h2;have g:=iT _ _ _ _ _ (hs.AG hl hp.1) h1;obtain⟨g2,rfl⟩:=Jy hl g.1 h3;cases h4;have e1:(s.on 1).k=s.k+1:=rfl;have e2:(s1.on 1).k=s1.k+1:=rfl;exact⟨g2,by omega⟩
   rename_i ql qM;have e2:(s.on 2).k=s.k+2:=rfl;have e1:(s.on 1).k=s.k+1:=rfl;split at h
   ·rename_i hp;rw[hp]at ql;have hq:AG (Jc ts s 1) 93=true:=by simpa using ql
    have g:=iN _ _ _ _ _ _ _ (Rs hl hs hq h0) h;exact⟨g.1,by omega⟩
   split at h
   ·rename_i hp;rw[hp]at qM;have hq:AG (Jc ts s 1) 125=true:=by simpa using qM
    have g:=iN _ _ _ _ _ _ _ (Rs hl hs hq h0) h;exact⟨g.1,by omega⟩
   split at h
   ·rename_i hp;have g:=iN _ _ _ _ _ _ _ (hs.name hl hp) h;exact⟨g.1,by omega⟩
   ·unfold stuck at h;cases h
  ·intro s nm tk most t p s' hs h;simp only[Aq]at h;split at h
   ·rename_i hp;simp only[mJ]at hp;obtain⟨⟨l,s1⟩,h1,h2⟩:=Rz.AH h;obtain⟨s2,h3,h4⟩:=Rz.AH h2;have g:=iI _ _ _ (hs.AG hl hp.1) h1;obtain⟨g2,rfl⟩:=Jy hl g.1 h3;cases h4;have e1:(s.on 1).k=s.k+1:=rfl;have e2:(s1.on 1).k=s1.k+1:=rfl;exact⟨g2,by omega⟩
   split at h
   ·rename_i hp;cases h;exact⟨hs.on hl (by omega) (by omega),mO _⟩
   split at h
   ·obtain⟨⟨x,q,s1⟩,h1,h2⟩:=Rz.AH h;have g:=iT _ _ _ _ _ hs h1;cases h2;exact⟨g.1,by have k2:=g.2;dsimp only at k2⊢;omega⟩
   ·cases h;exact⟨hs,lM _⟩
end
mutual
def C5 (N:Bs->Prop):Tm->Prop
 | .atom s=>N s
 | .cmp s l=>N s/\EJ N l
 | .var _=>True
 | .int _=>True
 | .Hs _=>True
def EJ (N:Bs->Prop):List Tm->Prop
 | []=>True
 |x::l=>C5 N x/\EJ N l
end
theorem L7 {N:Bs->Prop} {l:List Tm} :EJ N l↔∀x∈l,C5 N x:=by
 induction l with
 |nil=>simp[EJ]
 |cons x l ih=>simp only[EJ,ih,oK,forall_eq_or_imp]
theorem Kg {N:Bs->Prop}(h3:N [46]) (l:List Tm) (e:Tm) (h:EJ N l) (he:C5 N e):C5 N (Cd l e):=by
 induction l with
 |nil=>exact he
 |cons x l ih=>
  simp only[EJ]at h;show C5 N (.cmp [46] [x,Cd l e]);simp only[C5,EJ,pZ];exact⟨h3,h.1,ih h.2⟩
section
variable {ts:List Tk} {O:Am} {quotes:Int} {tx:Bs->Int->Tm} {N:Bs->Prop}
theorem Ql (hn:∀t∈ts,N t.tx) (hN0:N []) (hN1:N DR) (h2N:N DU) (h3N:N [46]) (htx:∀s q,N s->C5 N (tx s q)) (n:Nat):
  (∀s most t p s',Ay ts O quotes tx n s most= .ok (t,p,s')->C5 N t)/\
  (∀s most x p t q s',C5 N x->CQ ts O quotes tx n s most x p= .ok (t,q,s')->C5 N t)/\
  (∀s l s',Ba ts O quotes tx n s= .ok (l,s')->EJ N l)/\
  (∀s most t p s',A6 ts O quotes tx n s most= .ok (t,p,s')->C5 N t)/\
  (∀s nm tk most t p s',N nm->Aq ts O quotes tx n s nm tk most= .ok (t,p,s')->C5 N t):=by
 have vO:∀s,N (now ts s).tx:=by
  intro s;unfold now;rw[lZ];cases h:ts[s.k]?with
  |none=>exact hN0
  |some t=>exact hn t (mP h)
 have zM:∀t m,C5 N (Cj t m):=by
  intro t m;unfold Cj;split<;>simp only[C5]
 have ti:∀(s:RS) nm,C5 N (EV s nm).1:=by
  intro s nm;unfold EV;split
  ·simp only[C5]
  ·split<;>simp only[C5]
 induction n with
 |zero=>
  refine⟨?_,?_,?_,?_,?_⟩
  ·intro s most t p s' h;simp only[Ay]at h;cases h
  ·intro s most x p t q s' _ h;simp only[CQ]at h;cases h
  ·intro s l s' h;simp only[Ba]at h;cases h
  ·intro s most t p s' h;simp only[A6]at h;cases h
  ·intro s nm tk most t p s' _ h;simp only[Aq]at h;cases h
 |succ n ih=>
  obtain⟨iT,iL,iI,iE,iN⟩:=ih;refine⟨?_,?_,?_,?_,?_⟩
  ·intro s most t p s' h;simp only[Ay]at h;obtain⟨⟨x,q,s1⟩,h1,h2⟩:=Rz.AH h;exact iL _ _ _ _ _ _ _ (iE _ _ _ _ _ h1) h2
  ·intro s most x p t q s' hx h;simp only[CQ]at h;split at h
   ·cases h;exact hx
   ·split at h
    ·obtain⟨⟨y,q1,s1⟩,h1,h2⟩:=Rz.AH h;exact iL _ _ _ _ _ _ _ (by simp only[C5,EJ,pZ];exact⟨vO _,hx,iT _ _ _ _ _ h1⟩) h2
    ·split at h
     ·exact iL _ _ _ _ _ _ _ (by simp only[C5,EJ,pZ];exact⟨vO _,hx⟩) h
     ·cases h;exact hx
  ·intro s l s' h;simp only[Ba]at h;obtain⟨⟨x,q,s1⟩,h1,h2⟩:=Rz.AH h;have g:=iT _ _ _ _ _ h1;dsimp only at h2;split at h2
   ·obtain⟨⟨l1,s2⟩,h3,h4⟩:=Rz.AH h2;have k:=iI _ _ _ h3;cases h4;simp only[EJ];exact⟨g,k⟩
   ·cases h2;simp only[EJ,pZ];exact g
  ·intro s most t p s' h;simp only[A6]at h;split at h
   ·cases h;exact zM _ _
   split at h
   ·cases h;exact ti _ _
   split at h
   ·cases h;exact htx _ _ (vO _)
   split at h
   ·cases h;exact htx _ _ (vO _)
   split at h
   ·obtain⟨⟨x,q,s1⟩,h1,h2⟩:=Rz.AH h;obtain⟨s2,h3,h4⟩:=Rz.AH h2;cases h4;exact iT _ _ _ _ _ h1
   split at h
   ·obtain⟨⟨l,s1⟩,h1,h2⟩:=Rz.AH h;obtain⟨⟨e,s2⟩,h3,h4⟩:=Rz.AH h2;obtain⟨s3,h5,h6⟩:=Rz.AH h4;have k:C5 N e:=by
     dsimp only at h3;split at h3
     ·obtain⟨⟨x,q,s4⟩,h7,h8⟩:=Rz.AH h3;cases h8;exact iT _ _ _ _ _ h7
     ·cases h3;simp only[C5];exact hN1
    cases h6;exact Kg h3N _ _ (iI _ _ _ h1) k
   split at h
   ·obtain⟨⟨x,q,s1⟩,h1,h2⟩:=Rz.AH h;obtain⟨s2,h3,h4⟩:=Rz.AH h2;cases h4;simp only[C5,EJ,pZ];exact⟨h2N,iT _ _ _ _ _ h1⟩
   split at h
   ·exact iN _ _ _ _ _ _ _ hN1 h
   split at h
   ·exact iN _ _ _ _ _ _ _ h2N h
   split at h
   ·exact iN _ _ _ _ _ _ _ (vO _) h
   ·unfold stuck at h;cases h
  ·intro s nm tk most t p s' sh h;simp only[Aq]at h;split at h
   ·obtain⟨⟨l,s1⟩,h1,h2⟩:=Rz.AH h;obtain⟨s2,h3,h4⟩:=Rz.AH h2;cases h4;simp only[C5];exact⟨sh,iI _ _ _ h1⟩
   split at h
   ·cases h;exact zM _ _
   split at h
   ·obtain⟨⟨x,q,s1⟩,h1,h2⟩:=Rz.AH h;cases h2;simp only[C5,EJ,pZ];exact⟨sh,iT _ _ _ _ _ h1⟩
   ·cases h;simp only[C5];exact sh
end
end Go.Pz
namespace Go.Pz
open Go
def bs (s:Bs):ByteArray:=⟨⟨s⟩⟩
def cQ (k:Int) (nm nu:Bs) (b:Nat) (v:Nat) (sl:Value):List Value:= [.int .i64 k,.string (bs nm),.string (bs nu),.int .u64 b,.int .i64 v,sl]
mutual
inductive AT (w:World) (S:Nat->Prop):List Value->Tm->Prop where
 |var (n:Nat):AT w S (cQ 1 [] [] 0 n (.slice none 0 0)) (.var n)
 |atom (s:Bs):AT w S (cQ 2 s [] 0 0 (.slice none 0 0)) (.atom s)
 |int (s:Bs):AT w S (cQ 3 [] s 0 0 (.slice none 0 0)) (.int s)
 |Hs (b:Nat):AT w S (cQ 4 [] [] b 0 (.slice none 0 0)) (.Hs b)
 |cmp (s:Bs) (l:List Tm) (b off cap:Nat) (cs:List Value) (hb:S b) (hc:∀j,j<cs.length->w.cell? ⟨b,off+j,none⟩=cs[j]?) (h:BJ w S cs l):
   AT w S (cQ 5 s [] 0 0 (.slice (some ⟨b,off,none⟩) l.length cap)) (.cmp s l)
inductive BJ (w:World) (S:Nat->Prop):List Value->List Tm->Prop where
 |nil:BJ w S [] []
 |cons (c cs:List Value) (t:Tm) (l:List Tm) (h:AT w S c t) (r:BJ w S cs l):BJ w S (c++cs) (t::l)
end
section
variable {w w':World} {S S':Nat->Prop}
theorem AO {b:Nat}(h:w'.heap[b]? =w.heap[b]?) (o:Nat):w'.cell? ⟨b,o,none⟩=w.cell? ⟨b,o,none⟩:=by
 unfold World.cell?;rw[h]
mutual
theorem AT.Ak (hs:∀b,S b->w'.heap[b]? =w.heap[b]?) (hi:∀b,S b->S' b){c:List Value} {t:Tm}(h:AT w S c t):AT w' S' c t:=match h with
 | .var n=> .var n
 | .atom s=> .atom s
 | .int s=> .int s
 | .Hs b=> .Hs b
 | .cmp s l b off cap cs hb hc h=> .cmp s l b off cap cs (hi b hb) (fun j hj=>(AO (hs b hb) _).trans (hc j hj)) (BJ.Ak hs hi h)
theorem BJ.Ak (hs:∀b,S b->w'.heap[b]? =w.heap[b]?) (hi:∀b,S b->S' b){cs:List Value} {l:List Tm}(h:BJ w S cs l):BJ w' S' cs l:=match h with
 | .nil=> .nil
 | .cons c cs t l h r=> .cons c cs t l (AT.Ak hs hi h) (BJ.Ak hs hi r)
end
theorem AT.len {c:List Value} {t:Tm}(h:AT w S c t):c.length=6:=by
 cases h<;>rfl
theorem BJ.len {cs:List Value} {l:List Tm}(h:BJ w S cs l):cs.length=6*l.length:=by
 induction l generalizing cs with
 |nil=>cases h;rfl
 |cons t l ih=>
  cases h with
  |cons c cs _ _ h r=>
   rw[l6,h.len,ih r,nF];omega
theorem BJ.append {cs ds:List Value} {l m:List Tm}(h:BJ w S cs l) (k:BJ w S ds m):BJ w S (cs++ds) (l++m):=by
 induction l generalizing cs with
 |nil=>cases h;exact k
 |cons t l ih=>
  cases h with
  |cons c cs _ _ h r=>
   rw[pJ,List.cons_append];exact .cons _ _ _ _ h (ih r)
theorem BJ.one {c:List Value} {t:Tm}(h:AT w S c t):BJ w S c [t]:=by
 have:=BJ.cons c [] t [] h .nil
 rwa [nj]at this
theorem BJ.at {cs:List Value} {l:List Tm}(h:BJ w S cs l){i:Nat} {t:Tm}(hi:l[i]? =some t):∃c,AT w S c t/\∀j,j<6->cs[6*i+j]? =c[j]? :=by
 induction l generalizing cs i with
 |nil=>cases hi
 |cons u l ih=>
  cases h with
  |cons c cs _ _ h r=>
   cases i with
   |zero=>
    simp only[nX,mD]at hi;subst hi;refine⟨c,h,fun j hj=> ?_⟩;rw[Nat.mul_zero,me,pY (by rw[h.len];exact hj)]
   |succ i=>
    rw[List.getElem?_cons_succ]at hi;obtain⟨d,hd,he⟩:=ih r hi;refine⟨d,hd,fun j hj=> ?_⟩;rw[oL (by rw[h.len];omega),h.len,<-he j hj];congr 1;omega
end
end Go.Pz
namespace Go.Proofs
open Go Go.RowKit Go.Pz
structure N4 (w:World) (R L n cap k:Nat) (o:Value) (qt:Int) (nv sv:Value) (vars:Nat) (tv:Value):Prop where
 h:w.heap[R]? =some (.cells #[.slice (some ⟨L,0,none⟩) n cap,.int .i64 k,o,.int .i64 qt,.int .i64 0,.string ⟨#[]⟩,.string ⟨#[]⟩,.int .u64 0,.int .i64 0,.slice none 0 0,nv,sv,.int .i64 0,.bool false,.int .i64 vars,tv] 69)
structure Nt (w:World) (L i:Nat) (k:Int) (tx nu:ByteArray) (bits a en:Int) (ly:Bool):Prop where
 c0:w.cell? ⟨L,i*7,none⟩=some (.int .i64 k)
 c1:w.cell? ⟨L,i*7+1,none⟩=some (.string tx)
 c2:w.cell? ⟨L,i*7+2,none⟩=some (.string nu)
 c3:w.cell? ⟨L,i*7+3,none⟩=some (.int .u64 bits)
 c4:w.cell? ⟨L,i*7+4,none⟩=some (.int .i64 a)
 c5:w.cell? ⟨L,i*7+5,none⟩=some (.int .i64 en)
 c6:w.cell? ⟨L,i*7+6,none⟩=some (.bool ly)
theorem Nt.Ak {w W:World} {L i:Nat} {k:Int} {tx nu:ByteArray} {bits a en:Int} {ly:Bool}(h:Nt w L i k tx nu bits a en ly) (hb:W.heap[L]? =w.heap[L]?):Nt W L i k tx nu bits a en ly:=
 ⟨(AO hb _).trans h.c0,(AO hb _).trans h.c1,(AO hb _).trans h.c2,(AO hb _).trans h.c3,(AO hb _).trans h.c4,(AO hb _).trans h.c5,(AO hb _).trans h.c6⟩
structure Kept (X:Nat->Prop) (w w':World):Prop where
 os:w'.os=w.os
 tape:w'.tape=w.tape
 output:w'.output=w.output
 size:w.heap.size<=w'.heap.size
 block:∀b,b<w.heap.size->¬X b->w'.heap[b]? =w.heap[b]?
theorem Kept.refl (X:Nat->Prop) (w:World):Kept X w w:=⟨rfl,rfl,rfl,lM _,fun _ _ _=>rfl⟩
theorem Kept.trans {X Y:Nat->Prop} {a b c:World}(h:Kept X a b) (k:Kept Y b c) (hy:∀i,i<a.heap.size->Y i->X i):Kept X a c:=
 ⟨k.os.trans h.os,k.tape.trans h.tape,k.output.trans h.output,lg h.size k.size,fun i hi hx=>(k.block i (lR hi h.size) (fun y=>hx (hy i hi y))).trans (h.block i hi hx)⟩
theorem Kept.AY {X:Nat->Prop} {w w':World}(h:Below w.heap.size w w'):Kept X w w':=⟨h.os,h.tape,h.output,h.size,fun b hb _=>h.block b hb⟩
theorem Kept.below {X:Nat->Prop} {B:Nat} {w w':World}(h:Kept X w w') (hB:B<=w.heap.size) (hx:∀b,b<B->¬X b):Below B w w':=⟨h.os,h.tape,h.output,h.size,fun b hb=>h.block b (lR hb hB) (hx b hb)⟩
structure Cx where
 B:Nat
 R:Nat
 L:Nat
 cap:Nat
 o:Value
 qt:Int
 ts:List Tk
 O:Am
 Tb:World->Prop
structure Cx.Ok (C:Cx):Prop where
 rb:C.R<C.B
 lb:C.L<C.B
 rl:C.R≠C.L
 len:C.ts.length<=100000000
 last:EO C.ts
 fin:(C.ts.getD (C.ts.length-1) default).kind≠8
 tk:∀t∈C.ts,t.tx.length<=1000000000/\t.nu.length<=1000000000/\t.bits<18446744073709551616
 pr:∀nm p,C.O.pre nm=some p\/C.O.inf nm=some p\/C.O.post nm=some p->1<=p.pr/\p.pr<=1200
 tb:∀w w':World,w'.os=w.os->w'.tape=w.tape->w'.output=w.output->w.heap.size<=w'.heap.size->(∀b,b<C.B->b≠C.R->w'.heap[b]? =w.heap[b]?)->C.Tb w->C.Tb w'
def QN (x:Bs×Nat):List Value:= [.string (bs x.1),.int .i64 x.2]
def Ly (n:Nat):Value:= .int .i64 n
structure A0 (C:Cx) (w:World) (s:RS) (nv tv:Value):Prop where
 hR:N4 w C.R C.L C.ts.length C.cap s.k C.o C.qt nv (.slice none 0 0) s.vars tv
 VT:∀i t,C.ts[i]? =some t->Nt w C.L i t.kind (bs t.tx) (bs t.nu) t.bits t.at_ t.en t.ly
 Fm:C.Tb w
 Jm:w.ownsRow C.B 47 2 nv s.names.length (s.names.flatMap QN)
 Ji:w.ownsRow C.B 3 1 tv s.times.length (s.times.map Ly)
 apart:∀g,nv.ownBlock=some g->tv.ownBlock≠some g
 bd:Bd C.ts s
 sz:C.B<=w.heap.size
def X0 (C:Cx) (nv tv:Value) (b:Nat):Prop:=b=C.R\/nv.ownBlock=some b\/tv.ownBlock=some b
structure F5 (C:Cx) (w:World) (nv tv:Value) (w':World) (qH qG:Value):Prop where
 kept:Kept (X0 C nv tv) w w'
 nb:∀g,qH.ownBlock=some g->nv.ownBlock=some g\/w.heap.size<=g
 tb:∀g,qG.ownBlock=some g->tv.ownBlock=some g\/w.heap.size<=g
def Sf (C:Cx) (nv tv:Value) (w:World) (b:Nat):Prop:=C.B<=b/\b<w.heap.size/\nv.ownBlock≠some b/\tv.ownBlock≠some b
theorem F5.refl (C:Cx) (w:World) (nv tv:Value):F5 C w nv tv w nv tv:=⟨Kept.refl _ _,fun _ h=> .inl h,fun _ h=> .inl h⟩
theorem F5.trans {C:Cx} {a b c:World} {n0 t0 n1 t1 n2 t2:Value}(h:F5 C a n0 t0 b n1 t1) (k:F5 C b n1 t1 c n2 t2):F5 C a n0 t0 c n2 t2:=by
 refine⟨h.kept.trans k.kept ?_,?_,?_⟩
 ·intro i hi hy;rcases hy with h1|h1|h1
  ·exact .inl h1
  ·rcases h.nb i h1 with h2|h2
   ·exact .inr (.inl h2)
   ·omega
  ·rcases h.tb i h1 with h2|h2
   ·exact .inr (.inr h2)
   ·omega
 ·intro g hg;rcases k.nb g hg with h1|h1
  ·exact h.nb g h1
  ·exact .inr (lg h.kept.size h1)
 ·intro g hg;rcases k.tb g hg with h1|h1
  ·exact h.tb g h1
  ·exact .inr (lg h.kept.size h1)
theorem F5.AY {C:Cx} {w w':World} {nv tv:Value}(h:Below w.heap.size w w'):F5 C w nv tv w' nv tv:=⟨Kept.AY h,fun _ h=> .inl h,fun _ h=> .inl h⟩
theorem Sf.gx {C:Cx}(hC:C.Ok){nv tv:Value} {w:World} {b:Nat}(h:Sf C nv tv w b):b≠C.R:=by have:=hC.rb;have:=h.1;omega
theorem F5.same {C:Cx}(hC:C.Ok){w w':World} {nv tv qH qG:Value}(h:F5 C w nv tv w' qH qG){b:Nat}(hb:Sf C nv tv w b):w'.heap[b]? =w.heap[b]? :=
 h.kept.block b hb.2.1 (fun hx=>hx.elim (hb.gx hC) (fun h=>h.elim hb.2.2.1 hb.2.2.2))
theorem F5.sf {C:Cx} {w w':World} {nv tv qH qG:Value}(h:F5 C w nv tv w' qH qG){b:Nat}(hb:Sf C nv tv w b):Sf C qH qG w' b:=by
 refine⟨hb.1,lR hb.2.1 h.kept.size,fun h1=> ?_,fun h1=> ?_⟩
 ·rcases h.nb b h1 with h2|h2
  ·exact hb.2.2.1 h2
  ·have:=hb.2.1;omega
 ·rcases h.tb b h1 with h2|h2
  ·exact hb.2.2.2 h2
  ·have:=hb.2.1;omega
theorem AS {w w':World} {base:Nat} {e:TypeId} {size:Nat} {v:Value} {n:Nat} {xs:List Value}(h:w.ownsRow base e size v n xs) (hk:∀b,v.ownBlock=some b->w'.heap[b]? =w.heap[b]?):w'.ownsRow base e size v n xs:=by
 obtain⟨h1,h2⟩:=h;refine⟨h1,?_⟩;rcases h2 with h2|⟨g,cap,cur,hv,hg,hh,r⟩
 ·exact .inl h2
 ·exact .inr ⟨g,cap,cur,hv,hg,(hk g (by rw[hv];rfl)).trans hh,r⟩
theorem A0.same {C:Cx}(hC:C.Ok){w w':World} {s:RS} {nv tv:Value}(h:A0 C w s nv tv) (ho:w'.os=w.os/\w'.tape=w.tape/\w'.output=w.output) (hs:w.heap.size<=w'.heap.size) (hB:∀b,b<C.B->w'.heap[b]? =w.heap[b]?)
  (hn:∀b,nv.ownBlock=some b->w'.heap[b]? =w.heap[b]?) (ht:∀b,tv.ownBlock=some b->w'.heap[b]? =w.heap[b]?):A0 C w' s nv tv:=
 ⟨⟨(hB _ hC.rb).trans h.hR.h⟩,fun i t hi=>(h.VT i t hi).Ak (hB _ hC.lb),hC.tb w w' ho.1 ho.2.1 ho.2.2 hs (fun b hb _=>hB b hb) h.Fm,AS h.Jm hn,AS h.Ji ht,h.apart,h.bd,lg h.sz hs⟩
theorem A0.below {C:Cx}(hC:C.Ok){w w':World} {s:RS} {nv tv:Value}(h:A0 C w s nv tv) (hb:Below w.heap.size w w'):A0 C w' s nv tv:=
 h.same hC ⟨hb.os,hb.tape,hb.output⟩ hb.size (fun b hl=>hb.block b (lR hl h.sz)) (fun b hn=>hb.block b (h.Jm.lt b hn).2) (fun b hn=>hb.block b (h.Ji.lt b hn).2)
theorem AA (W:World) (a:Addr) (v:Value){k:Nat}(h:k≠a.block):(W.setCell a v).heap[k]? =W.heap[k]? :=Below.heap_setCell _ _ _ _ h
theorem size_set (W:World) (a:Addr) (v:Value):(W.setCell a v).heap.size=W.heap.size:=by simp[World.setCell]
structure D8 (C:Cx) (w0:World) (n0 t0:Value) (w:World) (s:RS) (nv tv:Value):Prop where
 inv:A0 C w s nv tv
 Bj:F5 C w0 n0 t0 w nv tv
theorem D8.start {C:Cx} {w:World} {s:RS} {nv tv:Value}(h:A0 C w s nv tv):D8 C w nv tv w s nv tv:=⟨h,F5.refl _ _ _ _⟩
theorem D8.below {C:Cx}(hC:C.Ok){w0 w w':World} {n0 t0 nv tv:Value} {s:RS}(h:D8 C w0 n0 t0 w s nv tv) (hb:Below w.heap.size w w'):D8 C w0 n0 t0 w' s nv tv:=
 ⟨h.inv.below hC hb,h.Bj.trans (F5.AY hb)⟩
theorem D8.call {C:Cx} {w0 w w':World} {n0 t0 nv tv qH qG:Value} {s s':RS}(h:D8 C w0 n0 t0 w s nv tv) (k:D8 C w nv tv w' s' qH qG):D8 C w0 n0 t0 w' s' qH qG:=
 ⟨k.inv,h.Bj.trans k.Bj⟩
theorem Eh {W:World} {R:Nat} {cs:Array Value} {T:TypeId}(h:W.heap[R]? =some (.cells cs T)) (i:Nat) (v:Value):(W.setCell ⟨R,i,none⟩ v).heap[R]? =some (.cells (cs.setIfInBounds i v) T):=by
 simp only[World.setCell,Array.getElem?_modify];rw[h];rfl
theorem D8.on {C:Cx}(hC:C.Ok){w0 w:World} {n0 t0 nv tv:Value} {s:RS}(h:D8 C w0 n0 t0 w s nv tv){n:Nat}(hb:Bd C.ts (s.on n)){v:Value}(hv:v= .int .i64 ((s.k+n:Nat):Int)):D8 C w0 n0 t0 (w.setCell ⟨C.R,1,none⟩ v) (s.on n) nv tv:=by
 subst hv;have hn:∀b,nv.ownBlock=some b->b≠C.R:=fun b hb=>by have:=(h.inv.Jm.lt b hb).1;have:=hC.rb;omega
 have ht:∀b,tv.ownBlock=some b->b≠C.R:=fun b hb=>by have:=(h.inv.Ji.lt b hb).1;have:=hC.rb;omega
 refine⟨⟨⟨?_⟩,fun i t hi=>(h.inv.VT i t hi).Ak (AA _ _ _ (fun e=>hC.rl e.symm)),hC.tb w _ rfl rfl rfl (pR (size_set _ _ _).symm) (fun b _ hbr=>AA _ _ _ hbr) h.inv.Fm,AS h.inv.Jm (fun b hb=>AA _ _ _ (hn b hb)),AS h.inv.Ji (fun b hb=>AA _ _ _ (ht b hb)),h.inv.apart,hb,by rw[size_set];exact h.inv.sz⟩,⟨⟨h.Bj.kept.os,h.Bj.kept.tape,h.Bj.kept.output,by rw[size_set];exact h.Bj.kept.size,fun b hb hx=>(AA _ _ _ (fun e=>hx (.inl e))).trans (h.Bj.kept.block b hb hx)⟩,h.Bj.nb,h.Bj.tb⟩⟩;exact Eh h.inv.hR.h 1 _
structure Lc (C:Cx) (nv tv:Value) (w:World) (b:Nat) (cs:Array Value) (T:TypeId):Prop where
 sf:Sf C nv tv w b
 h:w.heap[b]? =some (.cells cs T)
theorem Lc.cell {C:Cx} {nv tv:Value} {w:World} {b:Nat} {cs:Array Value} {T:TypeId}(h:Lc C nv tv w b cs T){i:Nat} {v:Value}(hi:cs[i]? =some v):w.cell? ⟨b,i,none⟩=some v:=by
 unfold World.cell?;rw[h.h];simp[hi]
theorem Lc.lt {C:Cx} {nv tv:Value} {w:World} {b:Nat} {cs:Array Value} {T:TypeId}(h:Lc C nv tv w b cs T):b<w.heap.size:=h.sf.2.1
theorem Lc.step {C:Cx}(hC:C.Ok){w w':World} {nv tv qH qG:Value} {b:Nat} {cs:Array Value} {T:TypeId}(h:Lc C nv tv w b cs T) (k:F5 C w nv tv w' qH qG):Lc C qH qG w' b cs T:=
 ⟨k.sf h.sf,(k.same hC h.sf).trans h.h⟩
theorem Lc.below {C:Cx} {w w':World} {nv tv:Value} {b:Nat} {cs:Array Value} {T:TypeId}(h:Lc C nv tv w b cs T) (k:Below w.heap.size w w'):Lc C nv tv w' b cs T:=
 ⟨⟨h.sf.1,lR h.sf.2.1 k.size,h.sf.2.2⟩,(k.block b h.sf.2.1).trans h.h⟩
theorem Lc.on {C:Cx}(hC:C.Ok){w:World} {nv tv:Value} {b:Nat} {cs:Array Value} {T:TypeId}(h:Lc C nv tv w b cs T) (v:Value):Lc C nv tv (w.setCell ⟨C.R,1,none⟩ v) b cs T:=
 ⟨⟨h.sf.1,by rw[size_set];exact h.sf.2.1,h.sf.2.2⟩,(AA _ _ _ (h.sf.gx hC)).trans h.h⟩
theorem Lc.other {C:Cx} {w:World} {nv tv:Value} {b:Nat} {cs:Array Value} {T:TypeId}(h:Lc C nv tv w b cs T){a:Addr}(ha:b≠a.block) (v:Value):Lc C nv tv (w.setCell a v) b cs T:=
 ⟨⟨h.sf.1,by rw[size_set];exact h.sf.2.1,h.sf.2.2⟩,(AA _ _ _ ha).trans h.h⟩
theorem Lc.new {C:Cx} {w:World} {s:RS} {nv tv:Value}(h:A0 C w s nv tv) (cs:Array Value) (T:TypeId):Lc C nv tv (w.alloc (.cells cs T)) w.heap.size cs T:=by
 refine⟨⟨h.sz,by simp,fun e=> ?_,fun e=> ?_⟩,lT w _⟩
 ·have:=(h.Jm.lt _ e).2;omega
 ·have:=(h.Ji.lt _ e).2;omega
theorem Sf.new {C:Cx} {w W:World} {s:RS} {nv tv:Value}(h:A0 C w s nv tv){b:Nat}(hb:w.heap.size<=b) (qM:b<W.heap.size):Sf C nv tv W b:=by
 refine⟨lg h.sz hb,qM,fun e=> ?_,fun e=> ?_⟩
 ·have:=(h.Jm.lt _ e).2;omega
 ·have:=(h.Ji.lt _ e).2;omega
end Go.Proofs
