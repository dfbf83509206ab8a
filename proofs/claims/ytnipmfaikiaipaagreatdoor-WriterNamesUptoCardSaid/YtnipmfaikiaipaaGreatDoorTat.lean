import Derived.Test.YtnipmfaikiaipaaGreatDoorTam
import Derived.Test.YtnipmfaikiaipaaGreatDoorTao
import Derived.Test.YtnipmfaikiaipaaGreatDoorTas
import Derived.Test.YtnipmfaikiaipaaGreatDoorTah
import Derived.Test.YtnipmfaikiaipaaGreatDoorTaq
import Derived.Test.YtnipmfaikiaipaaGreatDoorTaa
set_option linter.unusedSimpArgs false
set_option maxRecDepth 1000000
set_option maxHeartbeats 40000000
section
namespace Go.Proofs
open Go.RowKit Go.Pf Go.Rb
def LE:Nat:=4096
end Go.Proofs
end
section
namespace Go.Lx
open Go.Hb Go.Rb Go.Bg Go.Pf
inductive TR where
 |ok (k:Nat) (tx nu:ByteArray) (bits a en:Nat)
 |err (p n:Nat)
def numB (x:Nat):ByteArray:=⟨(numL 10 x).toArray⟩
theorem numB_of {nu:ByteArray} {x:Nat}(h:nu.data.toList=numL 10 x):nu=numB x:=by
 apply ByteArray.ext
 apply Array.toList_inj.1
 rw[h];rfl
open Classical in
noncomputable def chD (s:ByteArray) (p:Nat):Option (Nat×Nat):=if h:∃vn:Nat×Nat,ChV s p vn.1 vn.2 then some h.choose else none
theorem chD_some {s:ByteArray} {p v n:Nat}(h:ChV s p v n):chD s p=some (v,n):=by
 have hx:∃vn:Nat×Nat,ChV s p vn.1 vn.2:=⟨(v,n),h⟩
 unfold chD
 rw[dif_pos hx]
 have h2:=hx.choose_spec.unique h
 congr 1
 exact Prod.ext (by have:=h2.1;omega) (by have:=h2.2;omega)
theorem chD_none {s:ByteArray} {p:Nat}(h:NoCh s p):chD s p=none:=by
 unfold chD
 rw[dif_neg]
 rintro⟨vn,hc⟩
 exact h _ _ hc
theorem _root_.Go.Hb.ChV.pos {s:ByteArray} {p:Nat} {v n:Int}(h:ChV s p v n):0≤v∧okRune v:=by
 have hb:=byt_lo s p
 unfold ChV at h
 rcases h with h|h|h|h
 ·refine⟨by omega,?_⟩
  unfold okRune
  omega
 ·exact⟨by omega,h.2.2.2.2.2⟩
 ·exact⟨by omega,h.2.2.2.2.2.2⟩
 ·exact⟨by omega,h.2.2.2.2.2.2.2⟩
theorem chD_cases (s:ByteArray) (p:Nat):(∃v n:Nat,ChV s p v n∧chD s p=some (v,n))∨(NoCh s p∧chD s p=none):=by
 rcases Classical.em (NoCh s p)with h|h
 ·exact .inr ⟨h,chD_none h⟩
 ·left
  have h3:∃v n,ChV s p v n:=by
   apply Classical.byContradiction
   intro h4
   exact h (fun v n hc=>h4 ⟨v,n,hc⟩)
  obtain⟨v,n,hc⟩:=h3
  have h5:=hc.size
  have h6:=hc.pos
  obtain⟨a,rfl⟩:∃a:Nat,v=a:=⟨v.toNat,by omega⟩
  obtain⟨b,rfl⟩:∃b:Nat,n=b:=⟨n.toNat,by omega⟩
  exact⟨a,b,hc,chD_some hc⟩
noncomputable def chrR (s:ByteArray) (a:Nat):Option TR:=
 if byt s a≠48∨byt s (a+1)≠39∨s.size≤a+2∨byt s (a+2)=10 then none
 else if byt s (a+2)=39 then(if byt s (a+3)=39 then some (.ok 4 ⟨#[]⟩ (numB 39) 0 a (a+4))else none)
 else if byt s (a+2)=92 then(match escV s (a+2)with
  |none=>some (.err (a+2) 32)
  |some (x,t)=>some (.ok 4 ⟨#[]⟩ (numB x) 0 a t))
 else match chD s (a+2)with
  |none=>some (.err (a+2) 30)
  |some (v,n)=>some (.ok 4 ⟨#[]⟩ (numB v) 0 a (a+2+n))
def intR (s:ByteArray) (a f t r:Nat):TR:=
 if vN r (s.extract f t) (s.extract f t).size<2^Go.Proofs.LE then .ok 4 ⟨#[]⟩ (numB (vN r (s.extract f t) (s.extract f t).size)) 0 a t else .err a 34
open Classical in
noncomputable def fltB (X:Nat) (x:Int):Nat:=if h:∃b,Fl (X*10^x.toNat) (10^(-x).toNat) b then h.choose else 0
theorem fltB_eq {X:Nat} {x:Int} {b:Nat}(h:Fl (X*10^x.toNat) (10^(-x).toNat) b):fltB X x=b:=by
 have hx:∃b,Fl (X*10^x.toNat) (10^(-x).toNat) b:=⟨b,h⟩
 unfold fltB
 rw[dif_pos hx]
 exact hx.choose_spec.unique h
def fltD (s:ByteArray) (a p:Nat):ByteArray:=s.extract a p++s.extract (p+1) (rowE digB s (p+1))
noncomputable def fltF (s:ByteArray) (a p:Nat) (x:Int) (t:Nat):TR:=
 if 400<rowE digB s (p+1)-a-1 then .err a 34
 else if fltB (vN 10 (fltD s a p) (fltD s a p).size) (x-((rowE digB s (p+1):Int)-p-1))<infB then
  .ok 5 ⟨#[]⟩ ⟨#[]⟩ (fltB (vN 10 (fltD s a p) (fltD s a p).size) (x-((rowE digB s (p+1):Int)-p-1))) a t
 else .err a 34
def expF (s:ByteArray) (e:Nat):Nat:=if byt s (e+1)=45∨byt s (e+1)=43 then e+2 else e+1
def expI (s:ByteArray) (e:Nat):Prop:=(byt s e=101∨byt s e=69)∧expF s e<rowE digB s (expF s e)
instance (s:ByteArray) (e:Nat):Decidable (expI s e):=by unfold expI;exact inferInstance
def expV (s:ByteArray) (e:Nat):Int:=(if byt s (e+1)=45 then-1 else 1)*(valN 10 s (expF s e) (rowE digB s (expF s e)-expF s e):Nat)
noncomputable def fltR (s:ByteArray) (a p:Nat):TR:=
 if expI s (rowE digB s (p+1))then
  (if 4<rowE digB s (expF s (rowE digB s (p+1)))-expF s (rowE digB s (p+1))then .err a 34
   else fltF s a p (expV s (rowE digB s (p+1))) (rowE digB s (expF s (rowE digB s (p+1)))))
 else fltF s a p 0 (rowE digB s (p+1))
noncomputable def numR (s:ByteArray) (a:Nat):TR:=
 match chrR s a with
 |some R=>R
 |none=>
  if byt s a=48∧byt s (a+1)=98∧a+2<rowE binB s (a+2)then intR s a (a+2) (rowE binB s (a+2)) 2
  else if byt s a=48∧byt s (a+1)=111∧a+2<rowE octB s (a+2)then intR s a (a+2) (rowE octB s (a+2)) 8
  else if byt s a=48∧byt s (a+1)=120∧a+2<rowE hexB s (a+2)then intR s a (a+2) (rowE hexB s (a+2)) 16
  else if byt s (rowE digB s a)=46∧digB (byt s (rowE digB s a+1)).toNat=true then fltR s a (rowE digB s a)
  else intR s a a (rowE digB s a) 10
def quoK (q:Nat):Nat:=if q=34 then 6 else if q=96 then 7 else 2
noncomputable def quoS (s:ByteArray) (a q p:Nat) (out:List UInt8):TR⊕(Nat×List UInt8):=
 if s.size≤p then .inl (.err a 31)
 else match chD s p with
  |none=> .inl (.err p 30)
  |some (v,n)=>
   if v=10 then .inl (.err a 31)
   else if v=q then
    (if byt s (p+1)=q∧p+1<s.size then .inr (p+2,out++ [q.toUInt8])
     else if q=39∧1000<out.length then .inl (.err a 35)
     else .inl (.ok (quoK q) ⟨out.toArray⟩ ⟨#[]⟩ 0 a (p+1)))
   else if v=92 then
    (if byt s (p+1)=10 then .inr (p+2,out)
     else match escV s p with
      |none=> .inl (.err p 32)
      |some (x,t)=> .inr (t,out++Lib.encodeRune x))
   else .inr (p+n,out++Lib.encodeRune v)
noncomputable def quoN (s:ByteArray) (a q:Nat):Nat→Nat→List UInt8→TR
 |0,_,_=> .err a 31
 |f+1,p,out=>match quoS s a q p out with
  | .inl R=>R
  | .inr (p',out')=>quoN s a q f p' out'
noncomputable def quoE (s:ByteArray) (a q p:Nat) (out:List UInt8):TR:=quoN s a q (s.size+1-p) p out
theorem escV_gt {s:ByteArray} {p v t:Nat}(h:escV s p=some (v,t)):p+1<t∧t≤s.size∧okRune v:=by
 have hlt:∀k,byt s k=92→k<s.size:=fun k hk=>by
  rcases Nat.lt_or_ge k s.size with h1|h1
  ·exact h1
  ·rw[byt_out s k h1]at hk;omega
 have hD:∀{r:Nat} {pr:Nat→Bool} {f:Nat},escD r pr s f=some (v,t)→f+1<t∧t≤s.size∧okRune v:=by
  intro r pr f hd
  unfold escD at hd
  split at hd
  ·cases hd
  ·rename_i hn
   split at hd
   ·rename_i hok
    have hge:=rowE_ge pr s f
    have h3:=hlt (rowE pr s f) (by apply Classical.byContradiction;intro h;exact hn (.inr h))
    have h4:rowE pr s f≠f:=fun h=>hn (.inl h)
    simp only[Option.some.injEq,Prod.mk.injEq]at hd
    obtain⟨h1,h2⟩:=hd
    rw[h1]at hok
    exact⟨by omega,by omega,hok⟩
   ·cases hd
 unfold escV at h
 split at h
 ·rename_i x hx
  split at hx
  ·rename_i h1
   simp only[Option.some.injEq,Prod.mk.injEq]at h
   refine⟨by omega,by omega,?_⟩
   rw[←h.1]
   unfold escL at hx
   unfold okRune
   repeat' split at hx
   all_goals first|(simp only[Option.some.injEq]at hx;omega)|cases hx
  ·cases hx
 ·split at h
  ·have:=hD h;exact⟨by omega,this.2⟩
  ·have:=hD h;exact⟨by omega,this.2⟩
theorem quoS_inr {s:ByteArray} {a q p p':Nat} {out out':List UInt8}(h:quoS s a q p out= .inr (p',out')):p<p'∧p'≤s.size+1:=by
 unfold quoS at h
 split at h
 ·cases h
 ·rename_i hp
  split at h
  ·cases h
  ·rename_i v n hc
   have hn:1≤n∧p+n≤s.size:=by
    rcases chD_cases s p with⟨v',n',h1,h2⟩|⟨_,h2⟩
    ·rw[h2]at hc
     simp only[Option.some.injEq,Prod.mk.injEq]at hc
     have h3:=h1.size
     have h4:=h1.last
     omega
    ·rw[h2]at hc;cases hc
   split at h
   ·cases h
   ·split at h
    ·split at h
     ·rename_i h5
      simp only[Sum.inr.injEq,Prod.mk.injEq]at h
      omega
     ·split at h<;>cases h
    ·split at h
     ·split at h
      ·simp only[Sum.inr.injEq,Prod.mk.injEq]at h
       omega
      ·split at h
       ·cases h
       ·rename_i x t he
        have:=escV_gt he
        simp only[Sum.inr.injEq,Prod.mk.injEq]at h
        omega
     ·simp only[Sum.inr.injEq,Prod.mk.injEq]at h
      omega
theorem quoN_more {s:ByteArray} {a q:Nat} :∀(f g p:Nat) (out:List UInt8),s.size+1-p≤f→s.size+1-p≤g→quoN s a q f p out=quoN s a q g p out
 |0,0,_,_,_,_=>rfl
 |0,g+1,p,out,h,_=>by
  have hp:s.size≤p:=by omega
  show TR.err a 31=_
  unfold quoN quoS
  rw[if_pos hp]
 |f+1,0,p,out,_,h=>by
  have hp:s.size≤p:=by omega
  show _=TR.err a 31
  unfold quoN quoS
  rw[if_pos hp]
 |f+1,g+1,p,out,h,h2=>by
  unfold quoN
  cases hq:quoS s a q p out with
  |inl R=>rfl
  |inr x=>
   obtain⟨p',out'⟩:=x
   have:=quoS_inr hq
   exact quoN_more f g p' out' (by omega) (by omega)
theorem quoE_end {s:ByteArray} {a q p:Nat} {out:List UInt8} {R:TR}(h:quoS s a q p out= .inl R) (hR:s.size≤p→R= .err a 31):quoE s a q p out=R:=by
 unfold quoE
 cases hf:s.size+1-p with
 |zero=>rw[quoN,hR (by omega)]
 |succ f=>unfold quoN;rw[h]
theorem quoE_step {s:ByteArray} {a q p p':Nat} {out out':List UInt8}(h:quoS s a q p out= .inr (p',out')):quoE s a q p out=quoE s a q p' out':=by
 have h1:=quoS_inr h
 unfold quoE
 have hp:p≤s.size:=by
  rcases Nat.lt_or_ge s.size p with h2|h2
  ·unfold quoS at h
   rw[if_pos (by omega)]at h
   cases h
  ·exact h2
 obtain⟨f,hf⟩:∃f,s.size+1-p=f+1:=⟨s.size-p,by omega⟩
 rw[hf,quoN,h]
 exact quoN_more _ _ _ _ (by omega) (by omega)
def lngR (s:ByteArray) (k a t:Nat):TR:=if 1000<t-a then .err a 35 else .ok k (s.extract a t) ⟨#[]⟩ 0 a t
noncomputable def tokR (s:ByteArray) (a:Nat):TR:=
 if a=s.size then .ok 10 ⟨#[]⟩ ⟨#[]⟩ 0 a a
 else if digB (byt s a).toNat then numR s a
 else if byt s a=39∨byt s a=34∨byt s a=96 then quoE s a (byt s a).toNat (a+1) []
 else if smlB (byt s a).toNat then lngR s 1 a (rowE letB s a)
 else if grtB (byt s a).toNat then lngR s 3 a (rowE letB s a)
 else if sgnB (byt s a).toNat then
  (if rowE sgnB s a=a+1∧byt s a=46∧(a+1=s.size∨blkB (byt s (a+1)).toNat∨byt s (a+1)=37)then .ok 9 ⟨#[]⟩ ⟨#[]⟩ 0 a (a+1)
   else lngR s 1 a (rowE sgnB s a))
 else if byt s a=33∨byt s a=59 then lngR s 1 a (a+1)
 else if punB (byt s a).toNat then lngR s 8 a (a+1)
 else .err a 30
end Go.Lx
namespace Go.Proofs
open Go.RowKit Go.Pf Go.Lx Go.Hb Go.Rb
def TR.tok:TR→Value
 | .ok k tx nu bits a en=>tokV k tx nu bits a en false
 | .err p _=>badV p
def TR.er:TR→Nat
 | .ok .. =>0
 | .err _ n=>n
def TokEnd (R:TR) (w:World) (e:Ending) (w':World):Prop:=e= .returned (.tuple #[TR.tok R,.int .i64 (TR.er R)])∧Below w.heap.size w w'
end Go.Proofs
end
