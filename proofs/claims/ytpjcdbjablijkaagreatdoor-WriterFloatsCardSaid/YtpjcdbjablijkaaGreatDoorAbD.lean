import Derived.Test.YtpjcdbjablijkaaGreatDoorAbC
import Derived.Lib.Bytealg
import Derived.Lib.MakeNoZero
import Derived.Lib.LaidU8
import Derived.OpenShut
import Derived.ChangeStays
import Derived.ChangeSame
import Derived.ProofKit
import Derived.Deep.DeepHandedRow
import Derived.Lay
set_option linter.unusedVariables false
set_option linter.unusedSimpArgs false
set_option linter.unnecessarySimpa false
namespace Go.Proofs.YtpjcdbjablijkaaGreatDoor.Ab
open Go Go.RowKit
def Pend (done:Nat) (listed:Array Bool) (j:Nat):Prop:=bit done j=true∧listed.getD j false=false
def NP (N:Nat→Prop) (al:List (Nat×Nat)) (done:Nat) (listed:Array Bool) (id:Nat):Prop:=N id∨∃j,Pend done listed j∧find2 al j=some id
def XP (ops:Array Oper) (done:Nat) (listed:Array Bool) (t:Nat):Prop:=∃j o,ops[j]? =some o∧Pend done listed j∧o.dst=some t
theorem MR.weaken {N N':Nat→Prop} {ρ:Rho} {ro:Nat} {st:St} {W w:World}(h:MR N ρ ro st W w) (hn:∀id,N' id→N id):MR N' ρ ro st W w:=
 ⟨h.below,fun id hi=>h.no id (hn id hi),h.old,h.own,h.lt,h.next,h.ron,h.nx,h.obs,h.inj,h.cls⟩
theorem MR.strengthen {N N':Nat→Prop} {ρ:Rho} {ro:Nat} {st:St} {W w:World}(h:MR N ρ ro st W w) (hn:∀id,N' id→N id∨(ρ id=none∧id<st.next)):MR N' ρ ro st W w:=
 ⟨h.below,fun id hi=>(hn id hi).elim (h.no id) (fun x=>x),h.old,h.own,h.lt,h.next,h.ron,h.nx,h.obs,h.inj,h.cls⟩
theorem FX.aput {X X':Nat→Prop} {ρ:Rho} {fr fr':Fr} {a:Act}(h:FX X ρ fr a){d:Option Tmp} {v:AV}(hp:fr.put d v= .ok fr') (h1:∀t,X t→X' t) (h2:∀t,d=some t→X' t):FX X' ρ fr' a:=by
 cases d with
 |none=>cases hp;exact⟨h.size,fun t ht=>h.get t (fun hx=>ht (h1 t hx)),h.glob,h.ds⟩
 |some d=>
  simp only[Fr.put]at hp
  split at hp
  ·cases hp
   refine⟨h.size,fun t ht=> ?_,h.glob,h.ds⟩
   have hne:t≠d:=fun e=>ht (e▸h2 d rfl)
   have hg:=h.get t (fun hx=>ht (h1 t hx))
   simp only[Fr.get]at hg⊢
   split
   ·rename_i u hu
    rcases PT.get_set hu with⟨e,_⟩|⟨_,hu'⟩
    ·exact absurd e hne
    ·rw[hu']at hg;exact hg
   ·exact .top _
  ·cases hp
theorem FX.rput {X X':Nat→Prop} {ρ:Rho} {fr:Fr} {a:Act}(h:FX X ρ fr a){d:Option Tmp} {q:Value}(h1:∀t,X t→X' t∨d=some t) (h2:∀t,d=some t→t<fr.n∧VR ρ (fr.get (.tmp t)) q):FX X' ρ fr (a.put d q):=by
 cases d with
 |none=>exact⟨h.size,fun t ht=>h.get t (fun hx=>(h1 t hx).elim ht (fun e=>by cases e)),h.glob,h.ds⟩
 |some d=>
  obtain⟨hlt,hv⟩:=h2 d rfl
  refine⟨by simpa[Act.put]using h.size,fun t ht=> ?_,h.glob,h.ds⟩
  simp only[Act.put]
  by_cases hne:d=t
  ·subst hne
   have:d<a.tmps.size:=by rw[h.size];exact hlt
   simpa[Array.getD_eq_getD_getElem?,Array.getElem?_setIfInBounds,this]using hv
  ·rw[Array.getD_eq_getD_getElem?,Array.getElem?_setIfInBounds_ne hne,←Array.getD_eq_getD_getElem?]
   exact h.get t (fun hx=>(h1 t hx).elim ht (fun e=>hne (by cases e;rfl)))
structure Inv (E:Env) (ops:Array Oper) (N:Nat→Prop) (ρ:Rho) (W w:World) (a:Act) (fr:Fr) (st:St) (done forced:Nat) (al:List (Nat×Nat)) (listed:Array Bool):Prop where
 size:listed.size=ops.size
 sub:∀j,listed.getD j false=true→bit done j=true
 quiet:∀(j:Nat) (o:Oper),ops[j]? =some o→Pend done listed j→quietOp E.P o.op=true
 closed:∀(i:Nat) (o:Oper) (e:Edge),ops[i]? =some o→listed.getD i false=true→e∈o.after.toList→Region.binds .any e=true→listed.getD e.on false=true
 forced:∀j,bit forced j=true→listed.getD j false=true
 ald:∀i id,find2 al i=some id→bit done i=true
 alro:∀i id,Pend done listed i→find2 al i=some id→E.ro≤id∧¬N id
 alinj:∀i j id,Pend done listed i→Pend done listed j→find2 al i=some id→find2 al j=some id→i=j
 rng:∀(j:Nat) (o:Oper) d,ops[j]? =some o→bit done j=true→o.dst=some d→d<fr.n
 mr:MR (NP N al done listed) ρ E.ro st W w
 fx:FX (XP ops done listed) ρ fr a
section
variable {E:Env} {N:Nat→Prop} {ρ:Rho} {st:St} {W w:World} {ops:Array Oper} {fr:Fr} {a:Act} {done forced:Nat} {al:List (Nat×Nat)} {listed:Array Bool}
theorem put_lt {fr fr':Fr} {d:Option Tmp} {x:AV}(hp:fr.put d x= .ok fr'):∀t,d=some t→t<fr.n:=by
 intro t ht
 subst ht
 simp only[Fr.put]at hp
 split at hp
 ·rename_i h;exact blt_true h
 ·cases hp
theorem pend_or {i j:Nat}(h:Pend (Nat.lor done (Nat.pow 2 i)) listed j):Pend done listed j∨j=i:=by
 obtain⟨h1,h2⟩:=h
 rw[bit_lor,bit_pow]at h1
 simp only[Bool.or_eq_true,decide_eq_true_eq]at h1
 rcases h1 with h1|h1
 ·exact .inl ⟨h1,h2⟩
 ·exact .inr h1.symm
theorem pend_lor {i j:Nat}(h:Pend done listed j):Pend (Nat.lor done (Nat.pow 2 i)) listed j:=⟨by rw[bit_lor,h.1];rfl,h.2⟩
theorem bit_or {i j:Nat}(h:bit (Nat.lor done (Nat.pow 2 i)) j=true):bit done j=true∨j=i:=by
 rw[bit_lor,bit_pow]at h
 simp only[Bool.or_eq_true,decide_eq_true_eq]at h
 exact h.imp id Eq.symm
theorem Inv.settle (h:Inv E ops N ρ W w a fr st done forced al listed){i:Nat} {o:Oper}(ho:ops[i]? =some o) (hq:quietOp E.P o.op=true) (hd:bit done i=false){v:AV} {fr':Fr}(hp:fr.put o.dst v= .ok fr'):
 Inv E ops N ρ W w a fr' st (Nat.lor done (Nat.pow 2 i)) forced al listed:=by
 have hl:listed.getD i false=false:=by
  cases hl:listed.getD i false with
  |false=>rfl
  |true=>rw[h.sub i hl]at hd;cases hd
 have hpi:Pend (Nat.lor done (Nat.pow 2 i)) listed i:=⟨by rw[bit_lor,bit_pow];simp,hl⟩
 have hn:=(Fr.put_n hp).1
 refine⟨h.size,fun j hj=>by rw[bit_lor,h.sub j hj];rfl,fun j o' ho' hpd=> ?_,h.closed,h.forced,fun j id hj=>by rw[bit_lor,h.ald j id hj];rfl,fun j id hpd hj=> ?_,fun j k id hj hk h1 h2=> ?_,fun j o' d ho' hb hdst=> ?_,?_,?_⟩
 ·rcases pend_or hpd with h1|rfl
  ·exact h.quiet j o' ho' h1
  ·rw[ho]at ho';cases ho';exact hq
 ·rcases pend_or hpd with h1|rfl
  ·exact h.alro j id h1 hj
  ·rw[h.ald j id hj]at hd;cases hd
 ·rcases pend_or hj with h3|rfl
  ·rcases pend_or hk with h4|rfl
   ·exact h.alinj j k id h3 h4 h1 h2
   ·rw[h.ald k id h2]at hd;cases hd
  ·rw[h.ald j id h1]at hd;cases hd
 ·rw[hn]
  rcases bit_or hb with h1|rfl
  ·exact h.rng j o' d ho' h1 hdst
  ·rw[ho]at ho';cases ho';exact put_lt hp d hdst
 ·refine h.mr.weaken fun id hid=> ?_
  rcases hid with hid|⟨j,h1,h2⟩
  ·exact .inl hid
  ·rcases pend_or h1 with h1|rfl
   ·exact .inr ⟨j,h1,h2⟩
   ·rw[h.ald j id h2]at hd;cases hd
 ·refine h.fx.aput hp (fun t ⟨j,o',h1,h2,h3⟩=>⟨j,o',h1,pend_lor h2,h3⟩) (fun t ht=>⟨i,o,ho,hpi,ht⟩)
theorem Inv.settleNew (h:Inv E ops N ρ W w a fr st done forced al listed){i:Nat} {o:Oper}(ho:ops[i]? =some o) (hq:quietOp E.P o.op=true) (hd:bit done i=false){v:AV} {fr':Fr}(hp:fr.put o.dst v= .ok fr'){ob:Ob}(h0:ob.cl0):
 Inv E ops N ρ W w a fr' (st.new ob) (Nat.lor done (Nat.pow 2 i)) forced ((i,st.next)::al) listed:=by
 have hs:=h.settle ho hq hd hp
 have hfind:∀j id,find2 ((i,st.next)::al) j=some id→(j=i∧id=st.next)∨(j≠i∧find2 al j=some id):=by
  intro j id hj
  simp only[find2]at hj
  split at hj
  ·rename_i e;cases hj;exact .inl ⟨(beq_true e).symm,rfl⟩
  ·rename_i e;exact .inr ⟨fun e'=>beq_false e e'.symm,hj⟩
 have hlt:∀j id,Pend done listed j→find2 al j=some id→id<st.next:=fun j id hj hf=>(h.mr.no id (.inr ⟨j,hj,hf⟩)).2
 refine⟨hs.size,hs.sub,hs.quiet,hs.closed,hs.forced,fun j id hj=> ?_,fun j id hpd hj=> ?_,fun j k id hj hk h1 h2=> ?_,hs.rng,?_,hs.fx⟩
 ·rcases hfind j id hj with⟨rfl,_⟩|⟨_,hj⟩
  ·rw[bit_lor,bit_pow];simp
  ·exact hs.ald j id hj
 ·rcases hfind j id hj with⟨rfl,rfl⟩|⟨hne,hj⟩
  ·exact⟨h.mr.ron,fun hn=>h.mr.freshN (.inl hn)⟩
  ·exact h.alro j id ((pend_or hpd).resolve_right hne) hj
 ·rcases hfind j id h1 with⟨rfl,rfl⟩|⟨hne,h3⟩
  ·rcases hfind k _ h2 with⟨rfl,_⟩|⟨hne',h4⟩
   ·rfl
   ·exact absurd (hlt k _ ((pend_or hk).resolve_right hne') h4) (Nat.lt_irrefl _)
  ·rcases hfind k _ h2 with⟨rfl,rfl⟩|⟨hne',h4⟩
   ·exact absurd (hlt j _ ((pend_or hj).resolve_right hne) h3) (Nat.lt_irrefl _)
   ·exact h.alinj j k id ((pend_or hj).resolve_right hne) ((pend_or hk).resolve_right hne') h3 h4
 ·refine((h.mr.pend h0).strengthen fun id hid=> ?_)
  rcases hid with hid|⟨j,h1,h2⟩
  ·exact .inl (.inl hid)
  ·rcases hfind j id h2 with⟨rfl,rfl⟩|⟨hne,h2⟩
   ·exact .inr ⟨h.mr.fresh,Nat.lt_succ_self _⟩
   ·exact .inl (.inr ⟨j,(pend_or h1).resolve_right hne,h2⟩)
theorem allocA_cl0 {P:Program} {o:Op} {p:Ob×(Nat→AV)}(h:allocA P fr o= .ok p):p.1.cl0:=by
 unfold allocA at h
 split at h
 ·split at h
  ·split at h
   ·cases h;exact mkRow_cl0 _ _
   ·cases h
  ·cases h
 ·split at h
  ·split at h
   ·cases h;exact mkRow_cl0 _ _
   ·cases h
  ·cases h
 ·split at h
  ·split at h
   ·split at h
    ·split at h
     ·obtain⟨l,_,h⟩:=Rs.bind_ok h
      split at h
      ·cases h;exact mkRow_cl0 _ _
      ·cases h
     ·cases h
    ·cases h
   ·cases h
  ·cases h
 ·split at h
  ·split at h
   ·split at h
    ·split at h
     ·cases h;exact mkRow_cl0 _ _
     ·cases h
    ·cases h
   ·cases h
  ·cases h
 ·cases h
theorem settleA_run {ms:PT Nat} :∀{l pre:List Oper} {fr fr':Fr} {st st':St} {done done':Nat} {al al':List (Nat×Nat)},ops.toList=pre++l→settleA E.P ms ops.toList l pre.length fr st done al= .ok (fr',st',done',al')→
 Inv E ops N ρ W w a fr st done forced al listed→Inv E ops N ρ W w a fr' st' done' forced al' listed
 | [],pre,fr,fr',st,st',done,done',al,al',heq,h,hI=>by
  cases h;exact hI
 |o::r,pre,fr,fr',st,st',done,done',al,al',heq,h,hI=>by
  have ho:ops[pre.length]? =some o:=by
   rw[←Array.getElem?_toList,heq]
   simp
  have next:∀{fr1:Fr} {st1:St} {done1:Nat} {al1:List (Nat×Nat)},settleA E.P ms ops.toList r (Nat.succ pre.length) fr1 st1 done1 al1= .ok (fr',st',done',al')→Inv E ops N ρ W w a fr1 st1 done1 forced al1 listed→Inv E ops N ρ W w a fr' st' done' forced al' listed:=
   fun h1 h2=>settleA_run (l:=r) (pre:=pre++ [o]) (by simp[heq]) (by rw[List.length_append,List.length_singleton];exact h1) h2
  simp only[settleA]at h
  split at h
  ·exact next h hI
  ·cases h
  ·rename_i hd hm
   split at h
   ·exact next h hI
   ·exact next h hI
   ·rename_i hk
    have hq:quietOp E.P o.op=true:=by unfold quietOp;rw[hk]
    split at h
    ·cases h
    ·obtain⟨fr1,hp,h⟩:=Rs.bind_ok h
     exact next h (hI.settle ho hq hd hp)
    ·obtain⟨v,hv,h⟩:=Rs.bind_ok h
     obtain⟨fr1,hp,h⟩:=Rs.bind_ok h
     exact next h (hI.settle ho hq hd hp)
   ·rename_i hk
    have hq:quietOp E.P o.op=true:=by unfold quietOp;rw[hk]
    split at h
    ·cases h
    ·obtain⟨fr1,hp,h⟩:=Rs.bind_ok h
     exact next h (hI.settle ho hq hd hp)
    ·obtain⟨p,hv,h⟩:=Rs.bind_ok h
     obtain⟨fr1,hp,h⟩:=Rs.bind_ok h
     exact next h (hI.settleNew ho hq hd hp (allocA_cl0 hv))
end
section
variable {E:Env} {N:Nat→Prop} {ρ:Rho} {st:St} {W w:World} {ops:Array Oper} {fr:Fr} {a:Act} {done forced:Nat} {al:List (Nat×Nat)} {listed:Array Bool}
theorem getD_false_true {listed:Array Bool} {j:Nat} :listed.getD j true=false→listed.getD j false=false:=by
 intro h
 rw[Array.getD_eq_getD_getElem?]at h⊢
 cases hj:listed[j]?with
 |none=>rfl
 |some b=>rw[hj]at h;exact h
theorem lt_of_getD {listed:Array Bool} {j:Nat}(h:listed.getD j true=false):j<listed.size:=by
 rw[Array.getD_eq_getD_getElem?]at h
 cases hj:listed[j]?with
 |none=>rw[hj]at h;cases h
 |some b=>exact(Array.getElem?_eq_some_iff.1 hj).1
theorem set_self {listed:Array Bool} {i:Nat}(hi:i<listed.size):(listed.setIfInBounds i true).getD i false=true:=by
 simp[hi]
theorem set_or {listed:Array Bool} {i j:Nat}(h:(listed.setIfInBounds i true).getD j false=true):listed.getD j false=true∨j=i:=by
 by_cases hij:i=j
 ·exact .inr hij.symm
 ·rw[getD_set_ne false hij]at h;exact .inl h
theorem Inv.deps (h:Inv E ops N ρ W w a fr st done forced al listed){i j:Nat}(hd:Dep ops i j):(∀o e,ops[i]? =some o→e∈o.after.toList→Region.binds .any e=true→listed.getD e.on false=true)→listed.getD j false=true:=by
 induction hd with
 |one i j o e ho he hb hj=>intro hr;rw[hj];exact hr o e ho he hb
 |far i j k o e ho he hb hj _ ih=>
  intro hr
  have hj':listed.getD j false=true:=by rw[hj];exact hr o e ho he hb
  exact ih fun o' e' ho' he' hb'=>h.closed j o' e' ho' hj' he' hb'
theorem ready_edges {i:Nat}(hr:i∈Region.ready .any ops listed):∀o e,ops[i]? =some o→e∈o.after.toList→Region.binds .any e=true→listed.getD e.on false=true:=by
 obtain⟨_,o',ho',hall⟩:=mem_ready.1 hr
 intro o e ho he hb
 rw[ho]at ho';cases ho'
 exact hall e (by simpa using he) hb
theorem Inv.looks {ms:PT Nat}(h:Inv E ops N ρ W w a fr st done forced al listed) (hA:AP E.P ops ms){i:Nat} {o:Oper}(ho:ops[i]? =some o) (hr:i∈Region.ready .any ops listed):∀t∈looksAtA ops.toList o,¬XP ops done listed t:=by
 rintro t ht ⟨j,o',hj,hp,hdst⟩
 by_cases hij:i=j
 ·subst hij
  rw[ho]at hj;cases hj
  exact hA.self i o t ho hdst ht
 ·rcases hA.look i j o o' t hij ho hj hdst ht with h1|h1
  ·have:=h.deps h1 (ready_edges hr)
   rw[hp.2]at this;cases this
  ·rw[h.quiet j o' hj hp]at h1;cases h1
theorem looks_op {o:Oper} {t:Nat}(h:Operand.tmp t∈o.op.operands):t∈looksAtA ops.toList o:=by
 have h1:∀l:List Operand,Operand.tmp t∈l→t∈tmpsOf l:=by
  intro l
  induction l with
  |nil=>intro h;cases h
  |cons x l ih=>
   intro h
   rcases List.mem_cons.1 h with h'|h'
   ·subst h';exact List.mem_cons_self
   ·cases x<;>first|exact List.mem_cons_of_mem _ (ih h')|exact ih h'
 have h2:=h1 o.op.operands.toList (by simpa using h)
 unfold looksAtA
 split
 ·exact h2
 ·split
  ·split
   ·exact List.mem_cons_of_mem _ h2
   ·exact h2
  ·exact h2
theorem looks_guard {o p:Oper} {j:Nat} {want:Bool} {d:Nat}(hg:o.guard=some (j,want)) (hp:ops[j]? =some p) (hd:p.dst=some d):d∈looksAtA ops.toList o:=by
 have hp':ops.toList[j]? =some p:=by simpa using hp
 unfold looksAtA
 rw[hg]
 simp only[hp',hd]
 exact List.mem_cons_self
theorem Inv.list {ms:PT Nat}(h:Inv E ops N ρ W w a fr st done forced al listed) (hA:AP E.P ops ms){i:Nat} {o:Oper}(ho:ops[i]? =some o) (hr:i∈Region.ready .any ops listed) (hd:bit done i=true){ρ':Rho} {w':World} {q:Value}(hle:ρ.le ρ')
 (hM:MR (NP N al done (listed.setIfInBounds i true)) ρ' E.ro st W w') (hv:∀d,o.dst=some d→VR ρ' (fr.get (.tmp d)) q):Inv E ops N ρ' W w' (a.put o.dst q) fr st done forced al (listed.setIfInBounds i true):=by
 have hi:=(mem_ready.1 hr).1
 have hlt:=lt_of_getD hi
 have hpd:∀j,Pend done (listed.setIfInBounds i true) j→Pend done listed j∧j≠i:=by
  rintro j ⟨h1,h2⟩
  have hne:j≠i:=by
   rintro rfl
   rw[set_self hlt]at h2;cases h2
  exact⟨⟨h1,by rw[getD_set_ne false (Ne.symm hne)]at h2;exact h2⟩,hne⟩
 refine⟨by simp[h.size],fun j hj=> ?_,fun j o' ho' hp=>h.quiet j o' ho' (hpd j hp).1,fun j o' e ho' hj he hb=> ?_,fun j hj=>getD_set_true (h.forced j hj),h.ald,fun j id hp hf=>h.alro j id (hpd j hp).1 hf,fun j k id hj hk h1 h2=>h.alinj j k id (hpd j hj).1 (hpd k hk).1 h1 h2,h.rng,hM,?_⟩
 ·rcases set_or hj with h1|rfl
  ·exact h.sub j h1
  ·exact hd
 ·rcases set_or hj with h1|rfl
  ·exact getD_set_true (h.closed j o' e ho' h1 he hb)
  ·exact getD_set_true (ready_edges hr o' e ho' he hb)
 ·refine(h.fx.mono hle).rput (fun t ⟨j,o',h1,h2,h3⟩=> ?_) (fun t ht=>⟨h.rng i o t ho hd ht,hv t ht⟩)
  by_cases hji:j=i
  ·subst hji
   rw[ho]at h1;cases h1
   exact .inr h3
  ·exact .inl ⟨j,o',h1,⟨h2.1,by rw[getD_set_ne false (Ne.symm hji)];exact h2.2⟩,h3⟩
theorem NP_list {i id:Nat}(h:NP N al done (listed.setIfInBounds i true) id):NP N al done listed id:=by
 rcases h with h|⟨j,⟨h1,h2⟩,h3⟩
 ·exact .inl h
 ·refine .inr ⟨j,⟨h1,?_⟩,h3⟩
  cases hl:listed.getD j false with
  |false=>rfl
  |true=>rw[getD_set_true hl]at h2;cases h2
theorem pend_step {ms:PT Nat}(h:Inv E ops N ρ W w a fr st done forced al listed) (hA:AP E.P ops ms){i:Nat} {o:Oper}(ho:ops[i]? =some o) (hr:i∈Region.ready .any ops listed) (hd:bit done i=true)
 (hc:chkOne E.P ops.toList fr st al i o=true){K:Act→World→Prop} {Q:Exit→Act→World→Prop}
 (hK:∀ρ' a' w',ρ.le ρ'→Inv E ops N ρ' W w' a' fr st done forced al (listed.setIfInBounds i true)→K a' w'):wpOp E.P ops Q i K a w:=by
 have hi:=(mem_ready.1 hr).1
 have hpend:Pend done listed i:=⟨hd,getD_false_true hi⟩
 have hlooks:=h.looks hA ho hr
 have hq:=h.quiet i o ho hpend
 have hM0:MR (NP N al done (listed.setIfInBounds i true)) ρ E.ro st W w:=h.mr.weaken fun id=>NP_list
 have he:∀x∈o.op.operands.toList,VR ρ (fr.get x) (a.eval x):=fun x hx=>h.fx.eval x (fun t ht=>hlooks t (looks_op (by subst ht;simpa using hx)))
 unfold wpOp
 rw[ho]
 simp only
 unfold chkOne at hc
 split at hc
 ·cases hc
 ·rename_i hg
  have hw:=guardA_run h.fx (fun j want p d h1 h2 h3=>hlooks d (looks_guard h1 h2 h3)) hg
  rw[if_neg (by rw[hw];exact Bool.false_ne_true)]
  refine hK ρ _ w (Rho.le_refl _) (h.list hA ho hr hd (Rho.le_refl _) hM0 fun d hdst=> ?_)
  rw[hdst]at hc
  simp only at hc
  rw[same_eq _ _ _ hc]
  exact undef_tup
 ·rename_i hg
  have hw:=guardA_run h.fx (fun j want p d h1 h2 h3=>hlooks d (looks_guard h1 h2 h3)) hg
  rw[if_pos hw]
  left
  split at hc
  ·rename_i hk
   unfold quietOp at hq
   rw[hk]at hq;cases hq
  ·rename_i hk
   have key:∀v,pureA E.P fr st o.op= .ok v→(∀d,o.dst=some d→fr.get (.tmp d)=v)→o.wp E.P a w K Q:=by
    intro v hv hdst
    obtain⟨q,h1,h2⟩:=pureA_run h.mr he hv
    unfold Oper.wp
    rw[h1]
    exact hK ρ _ w (Rho.le_refl _) (h.list hA ho hr hd (Rho.le_refl _) hM0 fun d hd'=>by rw[hdst d hd'];exact h2)
   split at hc
   ·rename_i v d hv hdst
    exact key v hv fun d' hd'=>by rw[hdst]at hd';cases hd';exact same_eq _ _ _ hc
   ·rename_i v hv hdst
    exact key v hv fun d' hd'=>by rw[hdst]at hd';cases hd'
   ·cases hc
  ·rename_i hk
   split at hc
   ·rename_i p d id hp hdst hf
    split at hc
    ·rename_i ob hob
     simp only[Bool.and_eq_true]at hc
     have e1:=same_eq _ _ _ hc.1
     have e2:=eqOb_eq hc.2
     obtain⟨v,o',n,h1,h2,h3,h4⟩:=allocA_run he hp w
     have hno:=h.mr.no id (.inr ⟨i,hpend,hf⟩)
     obtain⟨hro,hN⟩:=h.alro i id hpend hf
     have hlt:=lt_of_getD hi
     have hNP:¬NP N al done (listed.setIfInBounds i true) id:=by
      rintro(h5|⟨j,⟨h5,h6⟩,h7⟩)
      ·exact hN h5
      ·have hne:j≠i:=by
        rintro rfl
        rw[set_self hlt]at h6;cases h6
       refine hne (h.alinj j i id ⟨h5,?_⟩ hpend h7 hf)
       rw[getD_set_ne false (Ne.symm hne)]at h6;exact h6
     have hle:=Rho.put_le (L:=⟨w.heap.size,n,0⟩) hno.1
     have hM:=hM0.real (id:=id) (ob:=p.1) (o:=o') (L:=⟨w.heap.size,n,0⟩) (fun ob' hob'=>by rw[hob]at hob';cases hob';exact e2) hno.2 hno.1 hNP hro rfl (h3 _ hle)
     unfold Oper.wp
     rw[h1]
     exact hK _ _ _ hle (h.list hA ho hr hd hle hM fun d' hd'=>by rw[hdst]at hd';cases hd';rw[e1];exact h4 _ _ Rho.put_same)
    ·cases hc
   ·cases hc
end
def cnt (l:List Bool):Nat:=(l.filter (!·)).length
theorem cnt_set:∀(l:List Bool) (i:Nat),l[i]? =some false→cnt (l.set i true)+1=cnt l
 | [],i,h=>by simp at h
 |b::l,0,h=>by
  simp only[List.getElem?_cons_zero,Option.some.injEq]at h
  subst h
  simp[cnt]
 |b::l,i+1,h=>by
  have:=cnt_set l i (by simpa using h)
  cases b<;>simp[cnt]at this⊢ <;>omega
theorem cnt_zero:∀{l:List Bool} {i:Nat} {b:Bool},cnt l=0→l[i]? =some b→b=true
 | [],i,b,h,hi=>by simp at hi
 |x::l,i,b,h,hi=>by
  cases x with
  |false=>simp[cnt]at h
  |true=>
   have h':cnt l=0:=by simpa[cnt]using h
   cases i with
   |zero=>simpa using hi.symm
   |succ i=>exact cnt_zero h' (by simpa using hi)
section
variable {E:Env} {N:Nat→Prop} {ρ:Rho} {st:St} {W w:World} {ops:Array Oper} {fr:Fr} {a:Act} {done forced:Nat} {al:List (Nat×Nat)} {listed:Array Bool}
theorem none_ready {ms:PT Nat}(hk:MK ops ms) (hs:listed.size=ops.size) (hr:Region.ready .any ops listed= []):∀j,j<ops.size→listed.getD j false=true:=by
 intro j
 induction j using Nat.strongRecOn with
 |_ j ih=>
  intro hj
  cases hl:listed.getD j true with
  |true=>
   rw[Array.getD_eq_getD_getElem?]at hl⊢
   have:j<listed.size:=by omega
   simpa[this]using hl
  |false=>
   exfalso
   have ho:ops[j]? =some ops[j]:=by simp[hj]
   have:j∈Region.ready .any ops listed:=mem_ready.2 ⟨hl,_,ho,fun e he hb=>by
    have hlt:=hk.back j _ ho e (by simpa using he) hb
    exact ih e.on hlt (by omega)⟩
   rw[hr]at this
   cases this
theorem stepA_loud {P:Program} {ro:Nat} {o:Oper}(hq:quietOp P o.op=false):stepA P ro fr st o.op=loudA P ro fr st o.op:=by
 unfold quietOp at hq
 unfold stepA
 split at hq
 ·rename_i hk;rw[hk]
 ·cases hq
theorem blur_spec:∀(l:List Oper) (X:Nat→Prop) (fr:Fr),FX X ρ fr a→FX (fun t=>X t∧∀o∈l,o.dst≠some t) ρ (blur l fr) a
 | [],X,fr,h=>⟨h.size,fun t ht=>h.get t fun hx=>ht ⟨hx,fun o ho=>by cases ho⟩,h.glob,h.ds⟩
 |o::r,X,fr,h=>by
  simp only[blur]
  split
  ·rename_i d hd
   have h1:FX (fun t=>X t∧t≠d) ρ {fr with t:=fr.t.set d .top} a:=by
    refine⟨h.size,fun t ht=> ?_,h.glob,h.ds⟩
    simp only[Fr.get]
    split
    ·rename_i u hu
     rcases PT.get_set hu with⟨_,rfl⟩|⟨hne,hu'⟩
     ·exact .top _
     ·have:=h.get t fun hx=>ht ⟨hx,hne⟩
      simp only[Fr.get,hu']at this
      exact this
    ·exact .top _
   have h2:=blur_spec r _ _ h1
   refine⟨h2.size,fun t ht=>h2.get t fun hx=>ht ⟨hx.1.1,fun o' ho'=> ?_⟩,h2.glob,h2.ds⟩
   rcases List.mem_cons.1 ho' with rfl|ho'
   ·rw[hd]
    intro e
    cases e
    exact hx.1.2 rfl
   ·exact hx.2 o' ho'
  ·rename_i hd
   have h2:=blur_spec r _ _ h
   refine⟨h2.size,fun t ht=>h2.get t fun hx=>ht ⟨hx.1,fun o' ho'=> ?_⟩,h2.glob,h2.ds⟩
   rcases List.mem_cons.1 ho' with rfl|ho'
   ·rw[hd];exact fun e=>by cases e
   ·exact hx.2 o' ho'
theorem Inv.ran {ms:PT Nat}(h:Inv E ops N ρ W w a fr st done forced al listed) (hk:MK ops ms){i m:Nat} {o:Oper}(ho:ops[i]? =some o) (hr:i∈Region.ready .any ops listed) (hd:bit done i=false) (hm:ms.get i=some m)
 {ρ':Rho} {w':World} {q:Value} {v:AV} {fr':Fr} {st':St}(hle:ρ.le ρ') (hM:MR (NP N al done listed) ρ' E.ro st' W w') (hp:fr.put o.dst v= .ok fr') (hv:VR ρ' v q):
 Inv E ops N ρ' W w' (a.put o.dst q) fr' st' (Nat.lor done (Nat.pow 2 i)) (Nat.lor forced (Nat.lor m (Nat.pow 2 i))) al (listed.setIfInBounds i true):=by
 have hi:=(mem_ready.1 hr).1
 have hlt:=lt_of_getD hi
 have hpd:∀j,Pend (Nat.lor done (Nat.pow 2 i)) (listed.setIfInBounds i true) j→Pend done listed j:=by
  rintro j ⟨h1,h2⟩
  have hne:j≠i:=by
   rintro rfl
   rw[set_self hlt]at h2;cases h2
  refine⟨(bit_or h1).resolve_right hne,?_⟩
  rw[getD_set_ne false (Ne.symm hne)]at h2;exact h2
 refine⟨by simp[h.size],fun j hj=> ?_,fun j o' ho' hp'=>h.quiet j o' ho' (hpd j hp'),fun j o' e ho' hj he hb=> ?_,fun j hj=> ?_,fun j id hj=>by rw[bit_lor,h.ald j id hj];rfl,fun j id hp' hf=>h.alro j id (hpd j hp') hf,fun j k id hj hk' h1 h2=>h.alinj j k id (hpd j hj) (hpd k hk') h1 h2,fun j o' d ho' hb hdst=> ?_,?_,?_⟩
 ·rcases set_or hj with h1|rfl
  ·rw[bit_lor,h.sub j h1];rfl
  ·rw[bit_lor,bit_pow];simp
 ·rcases set_or hj with h1|rfl
  ·exact getD_set_true (h.closed j o' e ho' h1 he hb)
  ·exact getD_set_true (ready_edges hr o' e ho' he hb)
 ·rw[bit_lor,bit_lor,bit_pow]at hj
  simp only[Bool.or_eq_true,decide_eq_true_eq]at hj
  rcases hj with hj|hj|hj
  ·exact getD_set_true (h.forced j hj)
  ·exact getD_set_true (h.deps (hk.dep i m hm j hj) (ready_edges hr))
  ·subst hj;exact set_self hlt
 ·rw[(Fr.put_n hp).1]
  rcases bit_or hb with h1|rfl
  ·exact h.rng j o' d ho' h1 hdst
  ·rw[ho]at ho';cases ho';exact put_lt hp d hdst
 ·refine hM.weaken fun id hid=> ?_
  rcases hid with hid|⟨j,h1,h2⟩
  ·exact .inl hid
  ·exact .inr ⟨j,hpd j h1,h2⟩
 ·have h1:=(h.fx.mono hle).put hp hv
  refine⟨h1.size,fun t ht=>h1.get t fun⟨j,o',h2,h3,h4⟩=>ht ⟨j,o',h2,?_,h4⟩,h1.glob,h1.ds⟩
  obtain⟨h5,h6⟩:=h3
  have hne:j≠i:=by
   rintro rfl
   rw[hd]at h5;cases h5
  exact⟨by rw[bit_lor,h5];rfl,by rw[getD_set_ne false (Ne.symm hne)];exact h6⟩
theorem Inv.panicked (h:Inv E ops N ρ W w a fr st done forced al listed){ρ0 ρ':Rho} {w':World} {st':St} {ch:List (AV×Bool)} {chain:List PanicEntry}(h0:ρ0.le ρ) (hle:ρ.le ρ') (hM:MR (NP N al done listed) ρ' E.ro st' W w') (hc:ChR ρ' ch chain):
 ExR N ρ0 E.ro W (.panic ch) (blur ops.toList fr) st' (.panic chain) a w':=by
 have h1:=blur_spec ops.toList _ fr (h.fx.mono hle)
 refine⟨ρ',Rho.le_trans h0 hle,hM.weaken fun id hid=> .inl hid,⟨h1.size,fun t _=>h1.get t fun⟨⟨j,o,h2,_,h4⟩,h5⟩=> ?_,h1.glob,h1.ds⟩,hc⟩
 exact h5 o (by simpa using Array.mem_of_getElem? h2) h4
end
section
variable {E:Env} {N:Nat→Prop} {W:World} {ops:Array Oper}
theorem drawA_run {call:FuncId→List AV→St→Rs (En×St)}(hcall:SCall E call){ms:PT Nat}(hk:MK ops ms) (hA:AP E.P ops ms){ex:Ex} {fr':Fr} {st':St} {ρ0:Rho} :∀(n:Nat) (fr:Fr) (st:St) (done forced:Nat) (al:List (Nat×Nat)),
 drawA call E.P E.ro ms ops.toList n fr st done forced al= .ok (ex,fr',st')→∀(fuel:Nat) (listed:Array Bool) (ρ:Rho) (a:Act) (w:World),cnt listed.toList≤fuel→ρ0.le ρ→Gl ρ E.gl→Inv E ops N ρ W w a fr st done forced al listed→
 wpAny E.P .any ops (ExR N ρ0 E.ro W ex fr' st') fuel listed a w:=by
 intro n
 induction n with
 |zero=>intro fr st done forced al h;cases h
 |succ n ihn=>
  intro fr st done forced al h fuel listed ρ a w hfuel h0 hg hI
  simp only[drawA]at h
  obtain⟨⟨fr1,st1,done1,al1⟩,hset,h2⟩:=Rs.bind_ok h
  clear h
  have h:=h2
  clear h2
  have hI2:=settleA_run (ops:=ops) (l:=ops.toList) (pre:= []) rfl hset hI
  clear hset hI
  have hI:=hI2
  clear hI2
  simp only at h
  split at h
  ·cases h
  rename_i hchk
  have hchk':=fun(j:Nat) (o:Oper) (ho:ops[j]? =some o) (hq:quietOp E.P o.op=true)=>by
   have:=chkAll_spec hchk j o (by simpa using ho) hq
   rw[Nat.zero_add]at this
   exact this
  have fin:∀(listed:Array Bool) (ρ:Rho) (a:Act) (w:World),ρ0.le ρ→Inv E ops N ρ W w a fr1 st1 done1 forced al1 listed→Region.ready .any ops listed= []→ExR N ρ0 E.ro W ex fr' st' .normal a w:=by
   intro listed ρ a w h0 hI hr
   have hall:=none_ready hk hI.size hr
   split at h
   ·cases h
    refine⟨ρ,h0,hI.mr.weaken fun id hid=> .inl hid,⟨hI.fx.size,fun t _=>hI.fx.get t fun⟨j,o,h1,h2,h3⟩=> ?_,hI.fx.glob,hI.fx.ds⟩,trivial⟩
    have:=hall j (Array.getElem?_eq_some_iff.1 h1).1
    rw[h2.2]at this;cases this
   ·rename_i i o hn
    obtain⟨p,rfl,h1,_,h3⟩:=nextLoud_some hn
    rw[Nat.zero_add]at h3
    have hp:ops[p]? =some o:=by simpa using h1
    have:=hI.sub p (hall p (Array.getElem?_eq_some_iff.1 hp).1)
    rw[h3]at this;cases this
  induction fuel generalizing listed ρ a w with
  |zero=>
   have hall:Region.ready .any ops listed= []:=by
    cases hr:Region.ready .any ops listed with
    |nil=>rfl
    |cons j _=>
     have hj:j∈Region.ready .any ops listed:=by rw[hr];exact List.mem_cons_self
     have h1:=(mem_ready.1 hj).1
     have h2:=lt_of_getD h1
     have h3:=cnt_zero (l:=listed.toList) (i:=j) (b:=listed[j]) (by omega) (by simp[h2])
     rw[Array.getD_eq_getD_getElem?]at h1
     simp[h2,h3]at h1
   exact⟨hall,fin listed ρ a w h0 hI hall⟩
  |succ fuel ih=>
   refine⟨fun hall=>fin listed ρ a w h0 hI hall,fun i hi=> ?_⟩
   obtain⟨hiun,o,ho,_⟩:=mem_ready.1 hi
   have hlt:=lt_of_getD hiun
   have hL:=getD_false_true hiun
   have hcnt:cnt (listed.setIfInBounds i true).toList≤fuel:=by
    have h1:listed.toList[i]? =some false:=by
     rw[Array.getD_eq_getD_getElem?]at hiun
     simp only[hlt,Array.getElem?_eq_getElem,Option.getD_some]at hiun
     simp[hlt,hiun]
    have:=cnt_set listed.toList i h1
    rw[Array.toList_setIfInBounds]
    omega
   cases hd:bit done1 i with
   |true=>
    have hq:=hI.quiet i o ho ⟨hd,hL⟩
    have hf:bit forced i=false:=by
     cases hf:bit forced i with
     |false=>rfl
     |true=>rw[hI.forced i hf]at hL;cases hL
    exact pend_step hI hA ho hi hd ((hchk' i o ho hq).1 hd hf) fun ρ' a' w' hle hI'=>ih _ ρ' a' w' hcnt (Rho.le_trans h0 hle) (hg.mono hle) hI'
   |false=>
    have hq:quietOp E.P o.op=false:=by
     cases hq:quietOp E.P o.op with
     |false=>rfl
     |true=>
      obtain⟨m,hm,hin⟩:=(hchk' i o ho hq).2 hd
      have:=inside_of (a:=m) (b:=done1) fun j hj=>hI.sub j (hI.deps (hk.dep i m hm j hj) (ready_edges hi))
      rw[hin]at this;cases this
    split at h
    ·rename_i hn
     have:=nextLoud_none hn i o (by simpa using ho) hq
     rw[Nat.zero_add,hd]at this;cases this
    ·rename_i i' o' hn
     obtain⟨p,hp0,hp1,hp2,hp3⟩:=nextLoud_some hn
     rw[Nat.zero_add]at hp0
     subst hp0
     have hp:ops[i']? =some o':=by simpa using hp1
     split at h
     case h_2=>cases h
     rename_i m hm hoth
     have hii:i=i':=by
      by_cases hne:i=i'
      ·exact hne
      ·exfalso
       obtain⟨m',h1,h2⟩:=othersAfter_spec hoth i o (by simpa using ho) hq (by rw[Nat.zero_add];exact hd) (by rw[Nat.zero_add];exact hne)
       rw[Nat.zero_add]at h1
       have:=hI.sub i' (hI.deps (hk.dep i m' h1 i' h2) (ready_edges hi))
       rw[hp3]at this;cases this
     subst hii
     rw[ho]at hp;cases hp
     have hlooks:=hI.looks hA ho hi
     unfold wpOp
     rw[ho]
     simp only
     split at h
     ·cases h
     ·rename_i hgd
      have hw:=guardA_run hI.fx (fun j want p d h1 h2 h3=>hlooks d (looks_guard h1 h2 h3)) hgd
      rw[if_neg (by rw[hw];exact Bool.false_ne_true)]
      obtain⟨fr2,hput,h⟩:=Rs.bind_ok h
      exact ihn _ _ _ _ _ h fuel _ ρ _ w hcnt h0 hg (hI.ran hk ho hi hd hm (Rho.le_refl _) hI.mr hput undef_tup)
     ·rename_i hgd
      have hw:=guardA_run hI.fx (fun j want p d h1 h2 h3=>hlooks d (looks_guard h1 h2 h3)) hgd
      rw[if_pos hw]
      left
      have hX:∀t,Operand.tmp t∈o.op.operands→¬XP ops done1 listed t:=fun t ht=>hlooks t (looks_op ht)
      split at h
      ·cases h
      all_goals rename_i hs
      ·rw[←stepA_loud hq]at hs
       refine step_wp hcall hI.mr hI.fx hX hg hs (fun v st2 e ρ' q w' h1 h2 h3=> ?_) (fun _ e=>by cases e) (fun _ e=>by cases e) (fun _ _ e=>by cases e) (fun _ e=>by cases e)
       cases e
       obtain⟨fr2,hput,h⟩:=Rs.bind_ok h
       exact ihn _ _ _ _ _ h fuel _ ρ' _ w' hcnt (Rho.le_trans h0 h1) (hg.mono h1) (hI.ran hk ho hi hd hm h1 h2 hput h3)
      ·rw[←stepA_loud hq]at hs
       refine step_wp hcall hI.mr hI.fx hX hg hs (fun v st1 e=>by cases e) (fun st1 e w' h1=> ?_) (fun _ e=>by cases e) (fun _ _ e=>by cases e) (fun _ e=>by cases e)
       cases e
       obtain⟨fr2,hput,h⟩:=Rs.bind_ok h
       exact ihn _ _ _ _ _ h fuel _ ρ _ w' hcnt h0 hg (hI.ran hk ho hi hd hm (Rho.le_refl _) h1 hput undef_tup)
      ·rw[←stepA_loud hq]at hs
       refine step_wp hcall hI.mr hI.fx hX hg hs (fun v st1 e=>by cases e) (fun _ e=>by cases e) (fun _ e=>by cases e) (fun f args e=> ?_) (fun _ e=>by cases e)
       cases e
       split at h
       ·cases h
       ·rename_i v st2 hc
        refine⟨_,_,hc,fun ρ' w' h1 h2=>⟨fun v' q e hv=> ?_,fun ch chain e=>by cases e⟩⟩
        cases e
        obtain⟨fr2,hput,h⟩:=Rs.bind_ok h
        exact ihn _ _ _ _ _ h fuel _ ρ' _ w' hcnt (Rho.le_trans h0 h1) (hg.mono h1) (hI.ran hk ho hi hd hm h1 h2 hput hv)
       ·rename_i ch st2 hc
        refine⟨_,_,hc,fun ρ' w' h1 h2=>⟨(fun v' q e hv=>by cases e),fun ch chain e hch=> ?_⟩⟩
        cases e
        cases h
        exact hI.panicked h0 h1 h2 hch
      ·rw[←stepA_loud hq]at hs
       refine step_wp hcall hI.mr hI.fx hX hg hs (fun v st1 e=>by cases e) (fun _ e=>by cases e) (fun _ e=>by cases e) (fun f args e=>by cases e) (fun v e q hv=> ?_)
       cases e
       cases h
       exact hI.panicked h0 (Rho.le_refl _) hI.mr (.cons _ _ _ _ _ hv .nil)
      ·cases h
theorem draw_sound (E:Env) (hmix:E.P.follows .mixedOrders=true):SDraw E:=by
 intro call hcall id ops fr st ex fr' st' h N ρ W w a hM hf hg
 unfold evDraw at h
 obtain⟨ms,hms,h⟩:=Rs.bind_ok h
 split at h
 case h_2=>cases h
 rename_i hap
 have hk:MK ops ms:=masksOf_spec (l:=ops.toList) (pre:= []) rfl (fun i o hi=>absurd hi (Nat.not_lt_zero _)) (fun i x hx=>by cases hx) (fun i x hx=>by cases hx) hms
 have hA:=AP.of hk hap
 have hpend:∀{listed j},¬Pend 0 listed j:=fun⟨h1,_⟩=>by rw[bit_zero]at h1;cases h1
 have hlist:∀j,(Array.replicate ops.size false).getD j false=false:=by
  intro j
  rw[Array.getD_eq_getD_getElem?,Array.getElem?_replicate]
  split<;>rfl
 refine wp_region_any hmix ?_
 refine drawA_run hcall hk hA _ fr st 0 0 [] h ops.size _ ρ a _ ?_ (Rho.le_refl _) hg ?_
 ·rw[Array.toList_replicate]
  exact Nat.le_trans (List.length_filter_le _ _) (by simp)
 ·refine⟨by simp,fun j hj=> ?_,fun j o ho hp=>(hpend hp).elim,fun i o e ho hi=> ?_,fun j hj=> ?_,(fun i id hi=>by cases hi),fun i id hp=>(hpend hp).elim,fun i j id hp=>(hpend hp).elim,fun j o d ho hb=> ?_,?_,?_⟩
  ·rw[hlist]at hj;cases hj
  ·rw[hlist]at hi;cases hi
  ·rw[bit_zero]at hj;cases hj
  ·rw[bit_zero]at hb;cases hb
  ·refine(hM.drawn _).weaken fun id hid=> ?_
   rcases hid with hid|⟨j,h1,_⟩
   ·exact hid
   ·exact(hpend h1).elim
  ·exact⟨hf.size,fun t _=>hf.get t (fun x=>x),hf.glob,hf.ds⟩
end
def impl (e:Ext) (ps rs:Array TypeId):Array Value→Sem Value:=match e with
 | .noZero _=>Extern.BytealgMakeNoZero.makeNoZero ps rs
 | .indexByte=>Extern.BytealgIndexByte.indexByte
 | .indexStr=>Extern.BytealgIndex.index
 | .count=>Extern.BytealgCount.count
 | .f64bits=>Extern.MathFloatBits.float64bits
 | .f64of=>Extern.MathFloatBits.float64frombits
 | .f32bits=>Extern.MathFloatBits.float32bits
 | .f32of=>Extern.MathFloatBits.float32frombits
 | .same=>Extern.AbiNoEscape.same
structure XF (E:Env) (f:FuncId) (e:Ext):Prop where
 fn:∃fn,E.P.funcs[f]? =some fn∧(fn.name== "runtime.NumGoroutine")=false∧fn.body.isNone=true∧Extern.findNext fn=none∧Extern.find fn=some (impl e fn.params fn.resultTypes)∧(∀t,e= .noZero t→∃s,fn.resultTypes= #[s]∧E.P.underlying s=some (.slice t))
 mx:e= .indexStr→E.mx<E.gl∧E.P.globals.findIdx? (·.name== "internal/bytealg.MaxLen")=some E.mx
theorem byteAt_spec (b:Nat) (hb:b<256):∀(s:List UInt8) (k:Nat),place (byteAt s b k)= .int .i64 (if Go.Lib.indexByte s (UInt8.ofNat b)= -1 then-1 else Go.Lib.indexByte s (UInt8.ofNat b)+k)
 | [],k=>by simp[byteAt,place,Go.Lib.indexByte]
 |x::s,k=>by
  have ih:=byteAt_spec b hb s (k+1)
  have hge:=Go.Lib.indexByte_ge s (UInt8.ofNat b)
  simp only[byteAt,Go.Lib.indexByte]
  cases hx:Nat.beq x.toNat b with
  |true=>
   have hx:=beq_true hx
   have:x=UInt8.ofNat b:=by rw[←hx];simp
   subst this
   simp[place]
  |false=>
   have hx:=beq_false hx
   have hne:(x==UInt8.ofNat b)=false:=by
    rw[beq_eq_false_iff_ne]
    intro e
    apply hx
    rw[e]
    simp[Nat.mod_eq_of_lt hb]
   simp only[hne,Bool.false_eq_true,if_false]
   rw[ih]
   congr 1
   simp only[beq_iff_eq]
   split
   ·rfl
   ·rename_i h1
    rw[if_neg (by omega)]
    omega
theorem countA_spec (b:Nat) (hb:b<256):∀(s:List UInt8) (k:Nat),countA s b k=Go.Lib.countByte s (UInt8.ofNat b)+k
 | [],k=>by simp[countA,Go.Lib.countByte]
 |x::s,k=>by
  simp only[countA,Go.Lib.countByte,List.count_cons]
  cases hx:Nat.beq x.toNat b with
  |true=>
   have hx:=beq_true hx
   have:x=UInt8.ofNat b:=by rw[←hx];simp
   subst this
   simp only[countA_spec b hb s,Go.Lib.countByte]
   simp
   omega
  |false=>
   have hx:=beq_false hx
   have hne:(x==UInt8.ofNat b)=false:=by
    rw[beq_eq_false_iff_ne]
    intro e
    apply hx
    rw[e]
    simp[Nat.mod_eq_of_lt hb]
   simp only[countA_spec b hb s,Go.Lib.countByte,hne]
   simp
theorem subAt_spec (s sub:List UInt8):∀(n k:Nat),subAt s sub n k=((List.range' k n).find? fun i=>((s.drop i).take sub.length==sub))
 |0,k=>rfl
 |n+1,k=>by
  simp only[subAt,List.range'_succ,List.find?_cons,eqBytes_iff]
  cases (List.take sub.length (List.drop k s)==sub)with
  |true=>rfl
  |false=>exact subAt_spec s sub n (k+1)
theorem extract_beq (s t:List UInt8) (i:Nat):((⟨⟨s⟩⟩:ByteArray).extract i (i+t.length)==(⟨⟨t⟩⟩:ByteArray))=((s.drop i).take t.length==t):=by
 have h1:(⟨⟨s⟩⟩:ByteArray).extract i (i+t.length)=⟨⟨(s.drop i).take t.length⟩⟩:=by
  apply ByteArray.ext
  rw[ByteArray.data_extract]
  apply Array.ext'
  simp
 rw[h1]
 simp[beq_toListBytes,ByteArray.toList_eq]
theorem indexStr_run {ps rs:Array TypeId} {P:Program} {mx mlen:Nat} {k:IntKind} {s t:List UInt8}(hx:P.globals.findIdx? (·.name== "internal/bytealg.MaxLen")=some mx){w:World}(hu:w.cell? ⟨mx,0+0,none⟩=some (.int k (Int.ofNat mlen))) (c1:2≤t.length) (c2:t.length≤mlen) (c3:s.length≤100000)
 (w1:World) (hw:w1=w):(impl .indexStr ps rs #[.string ⟨⟨s⟩⟩,.string ⟨⟨t⟩⟩]).run P w1= .ok (.int .i64 (match subAt s t (Nat.sub (Nat.succ s.length) t.length) 0 with|some i=>Int.ofNat i|none=> -1)) w1:=by
 subst hw
 have hs:(⟨⟨s⟩⟩:ByteArray).size=s.length:=by simp[ByteArray.size]
 have ht:(⟨⟨t⟩⟩:ByteArray).size=t.length:=by simp[ByteArray.size]
 have hm:Extern.BytealgIndex.maxLen.run P w1= .ok (Int.ofNat mlen) w1:=by
  simp only[Extern.BytealgIndex.maxLen,globalAddr,Sem.run_bind,run_program,Result.andThen_ok,hx,Sem.run_pure,run_load]
  rw[show(⟨mx,0,none⟩:Addr)=⟨mx,0+0,none⟩from rfl,hu]
  rfl
 show(Extern.BytealgIndex.index #[.string ⟨⟨s⟩⟩,.string ⟨⟨t⟩⟩]).run P w1=_
 have hdef:Extern.BytealgIndex.index #[.string ⟨⟨s⟩⟩,.string ⟨⟨t⟩⟩]=(do
  let a ←Extern.Bytes.bytesOf (.string ⟨⟨s⟩⟩)
  let b ←Extern.Bytes.bytesOf (.string ⟨⟨t⟩⟩)
  if b.size<2||(b.size:Int)>(←Extern.BytealgIndex.maxLen)then
   unsupported (.noEntry "extern/internal/bytealg.Index.length")
  if a.size≥2^32-15 then
   unsupported (.noEntry "extern/internal/bytealg.Index: a haystack of 2^32 - 15 bytes or more")
  match(List.range (a.size+1-b.size)).find? fun i=>a.extract i (i+b.size)==b with
  |some i=>pure (goInt i)
  |none=>pure (goInt (-1))):=rfl
 rw[hdef]
 have e1:(decide (t.length<2)||decide ((t.length:Int)>Int.ofNat mlen))=false:=by
  simp only[Bool.or_eq_false_iff,decide_eq_false_iff_not]
  constructor
  ·omega
  ·intro h;have:(t.length:Int)>(mlen:Int):=h;omega
 simp only[Extern.Bytes.bytesOf,Sem.run_bind,Sem.run_pure,Result.andThen_ok,hs,ht,hm,e1,Bool.false_eq_true,if_false,if_neg (show¬(s.length≥2^32-15) by omega)]
 have e2:(List.range (s.length+1-t.length)).find? (fun i=>(⟨⟨s⟩⟩:ByteArray).extract i (i+t.length)==(⟨⟨t⟩⟩:ByteArray))=subAt s t (Nat.sub (Nat.succ s.length) t.length) 0:=by
  rw[subAt_spec,List.range_eq_range']
  congr 1
  funext i
  exact extract_beq s t i
 rw[e2]
 cases subAt s t (Nat.sub (Nat.succ s.length) t.length) 0<;>rfl
theorem impl_run {E:Env} {f:FuncId} {e:Ext}(hX:XF E f e){args:List AV} {v:AV} {st:St}(h:extV st E.mx e args= .ok v){ps rs:Array TypeId} {N:Nat→Prop} {ρ:Rho} {W w:World} {vs:Array Value}(hM:MR N ρ E.ro st W w) (hg:Gl ρ E.gl) (hv:VRs ρ args vs.toList):
 ∃q,(impl e ps rs vs).run E.P w= .ok q w∧VR ρ v q:=by
 have a1:∀{x:AV},args= [x]→∃q,vs= #[q]∧VR ρ x q:=by
  intro x hx
  rw[hx]at hv
  generalize hm:vs.toList=m at hv
  cases hv with|cons _ q _ _ h2 h3=>
  cases h3
  exact⟨q,by apply Array.ext';rw[hm],h2⟩
 have a2:∀{x y:AV},args= [x,y]→∃q r,vs= #[q,r]∧VR ρ x q∧VR ρ y r:=by
  intro x y hx
  rw[hx]at hv
  generalize hm:vs.toList=m at hv
  cases hv with|cons _ q _ _ h2 h3=>
  cases h3 with|cons _ r _ _ h4 h5=>
  cases h5
  exact⟨q,r,by apply Array.ext';rw[hm],h2,h4⟩
 unfold extV at h
 split at h
 ·obtain⟨q,r,rfl,h1,h2⟩:=a2 rfl
  cases h1;cases h2
  split at h
  ·rename_i hb
   have hb:=blt_true hb
   cases h
   rename_i s b _ _
   have h3:(impl .indexByte ps rs #[.string ⟨⟨s⟩⟩,.int .u8 (Int.ofNat b)]).run E.P w=_:=Go.Lib.run_indexByteString (P:=E.P) ⟨⟨s⟩⟩ (Int.ofNat b) w
   refine⟨_,h3,?_⟩
   rw[byteAt_spec _ hb]
   simp only[Int.ofNat_eq_natCast,Int.toNat_natCast,Nat.toUInt8_eq]
   have:∀x:Int,(if x= -1 then-1 else x+(0:Nat))=x:=by intro x;split<;>simp_all
   rw[this]
   exact .int _ _
  ·cases h
 ·obtain⟨q,r,rfl,h1,h2⟩:=a2 rfl
  cases h1;cases h2
  split at h
  case h_2=>cases h
  rename_i k mlen hcell
  split at h
  case h_2=>cases h
  rename_i c1 c2 c3
  cases h
  have c1:=ble_true c1
  have c2:=ble_true c2
  have c3:=ble_true c3
  obtain⟨hx1,hx2⟩:=hX.mx rfl
  obtain⟨n,hn⟩:=hg _ hx1
  obtain⟨u,hu,hur⟩:=hM.cell hn hcell
  cases hur
  refine⟨_,indexStr_run hx2 hu c1 c2 c3 w rfl,?_⟩
  unfold place
  generalize subAt _ _ _ 0=r0
  cases r0<;>exact .int _ _
 ·obtain⟨q,r,rfl,h1,h2⟩:=a2 rfl
  cases h1;cases h2
  split at h
  ·rename_i hb
   have hb:=blt_true hb
   cases h
   rename_i s b _ _
   have h3:(impl .count ps rs #[.string ⟨⟨s⟩⟩,.int .u8 (Int.ofNat b)]).run E.P w=_:=Go.Lib.run_countString (P:=E.P) ⟨⟨s⟩⟩ (Int.ofNat b) w
   refine⟨_,h3,?_⟩
   rw[countA_spec _ hb]
   simp only[Int.ofNat_eq_natCast,Int.toNat_natCast,Nat.toUInt8_eq,Nat.add_zero]
   exact .int _ _
  ·cases h
 ·obtain⟨q,rfl,h1⟩:=a1 rfl
  cases h;cases h1
  exact⟨_,rfl,.int _ _⟩
 ·obtain⟨q,rfl,h1⟩:=a1 rfl
  cases h;cases h1
  exact⟨_,rfl,.flt _ _⟩
 ·obtain⟨q,rfl,h1⟩:=a1 rfl
  cases h;cases h1
  exact⟨_,rfl,.int _ _⟩
 ·obtain⟨q,rfl,h1⟩:=a1 rfl
  cases h;cases h1
  exact⟨_,rfl,.flt _ _⟩
 ·obtain⟨q,rfl,h1⟩:=a1 rfl
  cases h
  exact⟨_,rfl,h1⟩
 ·cases h
theorem noZero_run {E:Env} {te:TypeId} {args:List AV} {v:AV} {st st':St}(h:extM st te args= .ok (v,st')){ps:Array TypeId} {t:TypeId}(ht:E.P.underlying t=some (.slice te)){N:Nat→Prop} {ρ:Rho} {W w:World} {vs:Array Value}(hM:MR N ρ E.ro st W w) (hv:VRs ρ args vs.toList):
 ∃q w' ρ',(impl (.noZero te) ps #[t] vs).run E.P w= .ok q w'∧ρ.le ρ'∧MR N ρ' E.ro st' W w'∧VR ρ' v q:=by
 unfold extM at h
 split at h
 case h_2=>cases h
 rename_i n
 split at h
 case h_2=>cases h
 rename_i hn
 have hn:=ble_true hn
 cases h
 generalize hm:vs.toList=m at hv
 cases hv with|cons _ q _ _ h2 h3=>
 cases h3
 cases h2
 obtain rfl:vs= #[.int .i64 (Int.ofNat n)]:=by apply Array.ext';rw[hm]
 obtain⟨cs,h4,h5,_⟩:=Lib.run_makeNoZero (P:=E.P) w ps t te ht n (by omega)
 obtain⟨ρ',a1,a2,a3⟩:=hM.rowC (cs:= .nil) (k:=0) (e:=te) (cl:=st.next) (rel:=0) (en:=0) (ms:= []) (Nat.le_refl _) (Nat.le_refl _)
  (fun j cs' n' e' fz' rel' hj=>(no_old_class hM hj).elim) (c:=cs) (fun i a hi=>by cases hi) (w.drawn+1+1)
 refine⟨_,_,ρ',h4,a1,a2,.sl _ _ _ _ _ _ _ a3 ⟨?_,.inr (by simp)⟩ h5⟩
 simp
theorem Fit.of {E:Env}(hmix:E.P.follows .mixedOrders=true) (hX:∀f e,E.ext f=some e→XF E f e) (hn:∀(f:FuncId) (fn:Func),E.P.funcs[f]? =some fn→fn.body.isSome=true→(fn.name== "runtime.NumGoroutine")=false):Fit E:=by
 refine⟨draw_sound E hmix,fun f e he args v st st' h N ρ W w vs hM hg hv=> ?_,hn⟩
 have hx:=hX f e he
 obtain⟨fn,h1,h2,h3,h4,h5,h9⟩:=hx.fn
 by_cases hz:∃te,e= .noZero te
 ·obtain⟨te,rfl⟩:=hz
  obtain⟨s,hs,ht⟩:=h9 te rfl
  rw[hs]at h5
  obtain⟨q,w',ρ',h6,h7⟩:=noZero_run (ps:=fn.params) h ht hM hv
  exact⟨q,w',ρ',by rw[run_callFunc_extern h1 h2 h3 h4 h5,h6];rfl,h7⟩
 ·have h':(extV st E.mx e args).bind (fun v=> .ok (v,st))= .ok (v,st'):=by
   unfold extA at h
   split at h
   ·exact absurd ⟨_,rfl⟩ hz
   ·exact h
  obtain⟨v2,hv2,hst⟩:=Rs.bind_ok h'
  cases hst
  obtain⟨q,h6,h7⟩:=impl_run hx hv2 (ps:=fn.params) (rs:=fn.resultTypes) hM hg hv
  exact⟨q,w,ρ,by rw[run_callFunc_extern h1 h2 h3 h4 h5,h6];rfl,Rho.le_refl _,hM,h7⟩
def flatAll (f:TypeId→DataW Unit→Option (List AV)) (e:TypeId) (s:Nat) (l:List (DataW Unit)):Option (List AV):=match l with
 | []=>some []
 |d::r=>match f e d,flatAll f e s r with
  |some a,some b=>match Nat.beq a.length s with
   |true=>some (a++b)
   |false=>none
  |_,_=>none
def flatEach (f:TypeId→DataW Unit→Option (List AV)) (P:Program) (l:List Field):List (DataW Unit)→Nat→Option (List AV):=match l with
 | []=>fun ds _=>match ds with
  | []=>some []
  |_=>none
 |x::l=>fun ds off=>match ds with
  | []=>none
  |d::r=>match f x.type d,flatEach f P l r (Nat.add off (P.cellsOf x.type))with
   |some a,some b=>match Nat.beq a.length (P.cellsOf x.type),Nat.beq x.offset off with
    |true,true=>some (a++b)
    |_,_=>none
   |_,_=>none
def flatD (P:Program) (n:Nat):TypeId→DataW Unit→Option (List AV):=match n with
 |0=>fun _ _=>none
 |n+1=>fun t d=>match P.underlying t with
  |some (.struct fs)=>match d with
   | .agg ds=>match flatEach (flatD P n) P fs.toList ds 0 with
    |some l=>match Nat.beq l.length (P.cellsOf t)with
     |true=>some l
     |false=>none
    |none=>none
   |_=>none
  |some (.array m e)=>match d with
   | .agg ds=>match flatAll (flatD P n) e (P.cellsOf e) ds with
    |some l=>match Nat.beq l.length (P.cellsOf t),Nat.beq ds.length m with
     |true,true=>some l
     |_,_=>none
    |none=>none
   |_=>none
  |some .bool=>match d with
   | .lit (.bool b)=>some [.bool b]
   |_=>none
  |some (.int k)=>match d with
   | .lit (.int _ n)=>some [.int k n]
   |_=>none
  |some (.float k)=>match d with
   | .lit (.float _ n)=>some [.flt k n]
   |_=>none
  |some .string=>match d with
   | .lit (.string s)=>some [.str s]
   |_=>none
  |some (.pointer _)=>some [.any]
  |some (.slice _)=>some [.any]
  |some (.interface _)=>some [.any]
  |_=>none
section
variable {P:Program} {w:World} {base:Nat} {sp:Nat→Bool} {held:Bool} {ρ:Rho}
theorem VRs.take_add {l l':List AV} {cs:List Value} {a b:Nat}(h:VRs ρ l (cs.take a)) (h':VRs ρ l' ((cs.drop a).take b)):VRs ρ (l++l') (cs.take (a+b)):=by
 rw[List.take_add]
 exact h.append h'
theorem flatAll_spec {f:TypeId→DataW Unit→Option (List AV)} {e:TypeId} {s:Nat} {cs:List Value} :∀{ds:List (DataW Unit)} {l:List AV}(k:Nat),flatAll f e s ds=some l→
 (∀(i:Nat) (d:DataW Unit) (a:List AV),ds[i]? =some d→f e d=some a→VRs ρ a ((cs.drop ((k+i)*s)).take s))→VRs ρ l ((cs.drop (k*s)).take (ds.length*s))∧l.length=ds.length*s
 | [],l,k,h,hp=>by cases h;simp;exact .nil
 |d::r,l,k,h,hp=>by
  simp only[flatAll]at h
  split at h
  case h_2=>cases h
  rename_i a b ha hb
  split at h
  case h_2=>cases h
  rename_i hl
  have hl:=beq_true hl
  cases h
  obtain⟨h1,h2⟩:=flatAll_spec (k+1) hb (fun i d' a' h1 h2=>by have:=hp (i+1) d' a' (by simpa using h1) h2;rwa [show k+1+i=k+(i+1)from by omega])
  have h0:=hp 0 d a rfl ha
  have e1:(List.length (d::r))*s=s+r.length*s:=by simp[Nat.add_mul];omega
  refine⟨?_,by simp[hl,h2,Nat.add_mul];omega⟩
  rw[e1]
  refine VRs.take_add (by simpa using h0) ?_
  rw[List.drop_drop]
  rwa [show k*s+s=(k+1)*s from by rw[Nat.add_mul];omega]
theorem flatEach_spec {f:TypeId→DataW Unit→Option (List AV)} {cs:List Value} :∀{fs:List Field} {ds:List (DataW Unit)} {l:List AV} {off:Nat},flatEach f P fs ds off=some l→
 (∀(i:Nat) (x:Field) (d:DataW Unit) (a:List AV),fs[i]? =some x→ds[i]? =some d→f x.type d=some a→VRs ρ a ((cs.drop x.offset).take (P.cellsOf x.type)))→VRs ρ l ((cs.drop off).take l.length)
 | [],ds,l,off,h,hp=>by
  unfold flatEach at h
  cases ds with
  |nil=>cases h;simp;exact .nil
  |cons _ _=>cases h
 |x::fs,ds,l,off,h,hp=>by
  unfold flatEach at h
  cases ds with
  |nil=>cases h
  |cons d r=>
   simp only at h
   split at h
   case h_2=>cases h
   rename_i a b ha hb
   split at h
   case h_2=>cases h
   rename_i hl ho
   have hl:=beq_true hl
   have ho:=beq_true ho
   cases h
   have h1:=flatEach_spec hb (fun i x' d' a' h1 h2 h3=>hp (i+1) x' d' a' (by simpa using h1) (by simpa using h2) h3)
   have h0:=hp 0 x d a rfl rfl ha
   rw[List.length_append,hl]
   refine VRs.take_add (by rw[←ho];exact h0) ?_
   rw[List.drop_drop]
   exact h1
theorem flatD_spec:∀{n:Nat} {t:TypeId} {d:DataW Unit} {l:List AV} {fuel:Nat} {cs:List Value} {p:List MemPlace},flatD P n t d=some l→
 DataW.trod (fun _=>()) P w base sp held fuel t cs=some (d,p)→VRs ρ l cs
 |0,_,_,_,_,_,_,h,_=>by cases h
 |n+1,t,d,l,fuel,cs,p,h,ht=>by
  simp only[flatD]at h
  split at h
  ·rename_i fs hu
   cases d<;>try (cases h;done)
   rename_i ds
   simp only at h
   split at h
   case h_2=>cases h
   rename_i l' hl'
   split at h
   case h_2=>cases h
   rename_i hlen
   have hlen:=beq_true hlen
   cases h
   obtain⟨xs,m,rfl,hx,hc,hxl,hall⟩:=DataW.trod_struct hu ht
   have hds:ds=xs.map (·.1):=by have:=congrArg Prod.fst hx;simpa using this
   have:=flatEach_spec (ρ:=ρ) (cs:=cs) hl' (fun i x d' a h1 h2 h3=>by
    have h4:=hall i x (by simpa using h1)
    rw[hds]at h2
    simp only[List.getElem?_map,Option.map_eq_some_iff]at h2
    obtain⟨y,hy,rfl⟩:=h2
    rw[hy]at h4
    exact flatD_spec (p:=y.2) h3 h4)
   rw[List.drop_zero,hlen,←hc,List.take_length]at this
   exact this
  ·rename_i m e hu
   cases d<;>try (cases h;done)
   rename_i ds
   simp only at h
   split at h
   case h_2=>cases h
   rename_i l' hl'
   split at h
   case h_2=>cases h
   rename_i hlen hm
   have hlen:=beq_true hlen
   have hm:=beq_true hm
   cases h
   obtain⟨xs,q,rfl,hx,hc,hxl,hall⟩:=DataW.trod_array hu ht
   have hds:ds=xs.map (·.1):=by have:=congrArg Prod.fst hx;simpa using this
   have:=flatAll_spec (ρ:=ρ) (cs:=cs) 0 hl' (fun i d' a h2 h3=>by
    have hi:i<m:=by have:=(List.getElem?_eq_some_iff.1 h2).1;omega
    have h4:=hall i hi
    rw[hds]at h2
    simp only[List.getElem?_map,Option.map_eq_some_iff]at h2
    obtain⟨y,hy,rfl⟩:=h2
    rw[hy]at h4
    rw[Nat.zero_add]
    exact flatD_spec (p:=y.2) h3 h4)
   obtain⟨h1,h2⟩:=this
   rw[←h2,hlen,Nat.zero_mul,List.drop_zero,←hc,List.take_length]at h1
   exact h1
  ·rename_i hu
   obtain⟨b,rfl,hx⟩:=DataW.trod_bool hu ht
   cases hx
   cases h
   exact .cons _ _ _ _ (.bool _) .nil
  ·rename_i k hu
   obtain⟨z,rfl,hx,_⟩:=DataW.trod_int hu ht
   cases hx
   cases h
   exact .cons _ _ _ _ (.int _ _) .nil
  ·rename_i k hu
   cases fuel with
   |zero=>simp[DataW.trod]at ht
   |succ m=>
    unfold DataW.trod at ht
    rw[hu]at ht
    split at ht<;>simp_all
    obtain⟨_,rfl,_⟩:=ht
    cases h
    exact .cons _ _ _ _ (.flt _ _) .nil
  ·rename_i hu
   obtain⟨s,rfl,hx,_⟩:=DataW.trod_string hu ht
   cases hx
   cases h
   refine .cons _ _ _ _ ?_ .nil
   have:s=⟨⟨s.data.toList⟩⟩:=by cases s;simp
   rw[this]
   exact .str _
  ·rename_i e hu
   cases h
   rcases DataW.trod_pointer hu ht with⟨rfl,_⟩|⟨a,_,_,_,_,rfl,_⟩
   ·exact .cons _ _ _ _ (.any _ rfl) .nil
   ·exact .cons _ _ _ _ (.any _ rfl) .nil
  ·rename_i e hu
   cases h
   rcases DataW.trod_slice hu ht with⟨rfl,_⟩|⟨a,_,_,_,_,_,_,rfl,_⟩
   ·exact .cons _ _ _ _ (.any _ rfl) .nil
   ·exact .cons _ _ _ _ (.any _ rfl) .nil
  ·rename_i e hu
   cases h
   cases fuel with
   |zero=>simp[DataW.trod]at ht
   |succ m=>
    unfold DataW.trod at ht
    rw[hu]at ht
    split at ht<;>simp_all
    ·exact .cons _ _ _ _ (.any _ rfl) .nil
    ·exact .cons _ _ _ _ (.any _ rfl) .nil
  ·cases h
end
def seedHeap (P:Program) (l:List (String×DataW Unit)):PT Ob→PT Ob:=match l with
 | []=>fun h=>h
 |x::r=>fun h=>match P.globalNamed x.1 with
  |none=>seedHeap P r h
  |some g=>match(P.globals[g]?).map (·.type)with
   |none=>seedHeap P r h
   |some t=>match flatD P 8 t x.2 with
    |none=>seedHeap P r h
    |some cs=>seedHeap P r (h.set g (.row (PT.lay cs 0 .nil) cs.length t 2 0 0))
theorem seedHeap_get {P:Program} :∀{l:List (String×DataW Unit)} {h:PT Ob} {id:Nat} {ob:Ob},(seedHeap P l h).get id=some ob→
 h.get id=some ob∨∃x t cs,x∈l∧P.globalNamed x.1=some id∧(P.globals[id]?).map (·.type)=some t∧flatD P 8 t x.2=some cs∧ob= .row (PT.lay cs 0 .nil) cs.length t 2 0 0
 | [],h,id,ob,hg=> .inl hg
 |x::r,h,id,ob,hg=>by
  have rest:∀{h':PT Ob},(seedHeap P r h').get id=some ob→h'.get id=some ob∨∃x' t cs,x'∈x::r∧P.globalNamed x'.1=some id∧(P.globals[id]?).map (·.type)=some t∧flatD P 8 t x'.2=some cs∧ob= .row (PT.lay cs 0 .nil) cs.length t 2 0 0:=fun h1=>by
   rcases seedHeap_get h1 with h2|⟨y,t,cs,h2,h3⟩
   ·exact .inl h2
   ·exact .inr ⟨y,t,cs,.tail _ h2,h3⟩
  unfold seedHeap at hg
  split at hg
  ·exact rest hg
  ·rename_i g h1
   split at hg
   ·exact rest hg
   ·rename_i t h2
    split at hg
    ·exact rest hg
    ·rename_i cs h3
     rcases rest hg with h4|h4
     ·rcases PT.get_set h4 with⟨rfl,rfl⟩|⟨_,h5⟩
      ·exact .inr ⟨x,t,cs,.head _,h1,h2,h3,rfl⟩
      ·exact .inl h5
     ·exact .inr h4
def seed (P:Program) (l:List (String×DataW Unit)) (ro:Nat):St:= {heap:=seedHeap P l .nil,next:=ro,cls:= .nil}
def rowsOk (P:Program):Bool:=(List.range P.globals.size).all fun g=>match((begin P (fun _ _=>0) default).world.heap[g]?).bind Obj.row?,P.globals[g]?with
 |some (_,t),some x=>Nat.beq t x.type
 |_,_=>false
def rho0 (gl:Nat) (W:World):Rho:=fun id=>match Nat.blt id gl with
 |true=>match W.heap[id]?with
  |some (.cells c _ _)=>some ⟨id,c.size,0⟩
  |_=>none
 |false=>none
theorem seed_MR {P:Program} {l:List (String×DataW Unit)} {ro:Nat} {W0 W:World}(hk:∀g,g<P.globals.size→W.heap[g]? =W0.heap[g]?) (hl:laidMet P l W0) (hs:W0.ShapedOpen P) (hr:rowsOk P=true) (hro:P.globals.size≤ro):
 MR (fun _=>False) (rho0 P.globals.size W) ro (seed P l ro) W W∧Gl (rho0 P.globals.size W) P.globals.size:=by
 have hrow:∀g,g<P.globals.size→∃cs t,W.heap[g]? =some (.cells cs t (0,0))∧(P.globals[g]?).map (·.type)=some t:=by
  intro g hg
  have h1:=List.all_eq_true.1 hr g (List.mem_range.2 hg)
  split at h1
  ·rename_i z t x h2 h3
   obtain⟨cs,h4,_⟩:=hs.1 g z t hg h2
   rw[←hk g hg]at h4
   exact⟨cs,t,h4,by rw[h3];simp[beq_true h1]⟩
  ·cases h1
 have hρ:∀{id:Nat} {L:Loc},rho0 P.globals.size W id=some L→id<P.globals.size∧L.b=id∧L.base=0∧∃cs t,W.heap[id]? =some (.cells cs t (0,0))∧L.n=cs.size∧(P.globals[id]?).map (·.type)=some t:=by
  intro id L h
  unfold rho0 at h
  split at h
  ·rename_i hlt
   have hlt:=blt_true hlt
   obtain⟨cs,t,h1,h2⟩:=hrow id hlt
   rw[h1]at h
   cases h
   exact⟨hlt,rfl,rfl,cs,t,h1,rfl,h2⟩
  ·cases h
 have hlt:∀{id:Nat} {L:Loc},rho0 P.globals.size W id=some L→L.b<W.heap.size:=by
  intro id L h
  obtain⟨_,h2,_,cs,t,h3,_⟩:=hρ h
  rw[h2]
  exact(Array.getElem?_eq_some_iff.1 h3).1
 have hg:∀{id:Nat} {ob:Ob},(seed P l ro).heap.get id=some ob→id<P.globals.size∧∃x t cs,x∈l∧P.globalNamed x.1=some id∧(P.globals[id]?).map (·.type)=some t∧flatD P 8 t x.2=some cs∧ob= .row (PT.lay cs 0 .nil) cs.length t 2 0 0:=by
  intro id ob h
  rcases seedHeap_get h with h1|⟨x,t,cs,h1,h2,h3,h4⟩
  ·cases h1
  ·refine⟨?_,x,t,cs,h1,h2,h3,h4⟩
   rcases Nat.lt_or_ge id P.globals.size with h5|h5
   ·exact h5
   ·rw[Array.getElem?_eq_none h5]at h3;cases h3
 refine⟨{below:=Below.refl _ _,no:=fun _ h=>h.elim,old:=fun id L h _=>hlt h,own:=fun id L h h1=> ?_,lt:=fun id L h=>hlt h,next:=fun id L h=> ?_,ron:=Nat.le_refl _,nx:=fun id ob h=> ?_,obs:=fun id L ob h h1=> ?_,inj:=fun i j L M ob ob' h1 h2 _ _ h3=> .inl ?_,cls:=fun id cs n e fz cl rel h=> ?_},fun g hg'=> ?_⟩
 ·have:=(hρ h).1
  omega
 ·have:=(hρ h).1
  show id<ro
  omega
 ·have:=(hg h).1
  show id<ro
  omega
 ·obtain⟨h2,h3,h4,cs,t,h5,h6,h7⟩:=hρ h
  obtain⟨_,x,t',l',h8,h9,h10,h11,rfl⟩:=hg h1
  obtain rfl:t'=t:=Option.some.inj (h10.symm.trans h7)
  obtain⟨g,t2,cs2,fuel,p,k1,k2,k3,k4⟩:=Lib.laidMet.reads hl h8
  obtain rfl:g=id:=Option.some.inj (k1.symm.trans h9)
  obtain rfl:t2=t':=Option.some.inj (k2.symm.trans h7)
  have hcs:cs2=cs:=by
   unfold World.var? at k3
   rw[k1]at k3
   have hk':=hk _ (hg h1).1
   simp only[Option.bind_some,←hk',h5]at k3
   exact(Option.some.inj k3).symm
  subst hcs
  refine⟨_,by rw[h3];exact h5,cs2,0,0,rfl,h6.symm,fun _=>h4,fun i a hi=> ?_,(fun h=>by cases h),(fun h=>by cases h)⟩
  rcases PT.get_lay hi with⟨_,y⟩|⟨_,y⟩
  ·have hv:=flatD_spec (ρ:=rho0 P.globals.size W) h11 k4
   obtain⟨v,hv1,hv2⟩:=hv.get y
   refine⟨by have:=(List.getElem?_eq_some_iff.1 y).1;omega,v,?_,hv2⟩
   rw[h4,Nat.zero_add]
   simpa using hv1
  ·cases y
 ·obtain⟨_,h4,_⟩:=hρ h1
  obtain⟨_,h5,_⟩:=hρ h2
  omega
 ·obtain⟨_,x,t',l',_,_,_,_,h5⟩:=hg h
  cases h5
 ·obtain⟨cs,t,h1,_⟩:=hrow g hg'
  refine⟨cs.size,?_⟩
  unfold rho0
  rw[show Nat.blt g P.globals.size=true from Nat.ble_eq_true_of_le hg',h1]
theorem ev_calls_at {E:Env}(hF:Fit E){l:List (String×DataW Unit)}(hgl:E.gl=E.P.globals.size) (hro:E.P.globals.size≤E.ro) (hr:rowsOk E.P=true){n:Nat} {f:FuncId} {fn:Func} {c:Code}(hf:E.P.funcs[f]? =some fn) (hb:fn.body=some c)
 {args:List AV} {v:AV} {st':St}(h:(ev E n).call f args (seed E.P l E.ro)= .ok (.ret v,st')){W0 W:World}(hk:∀g,g<E.P.globals.size→W.heap[g]? =W0.heap[g]?) (hl:laidMet E.P l W0) (hs:W0.ShapedOpen E.P){vs:Array Value}(hv:VRs (rho0 E.P.globals.size W) args vs.toList):
 Calls E.P f vs W fun e W'=>∃(q:Value) (ρ:Rho),e= .returned q∧VR ρ v q∧Below W.heap.size W W':=by
 obtain⟨hM,hG⟩:=seed_MR hk hl hs hr hro
 rw[←hgl]at hM hG hv
 have:=(ev_sound hF n).call f args _ _ _ h _ _ W W vs hM hG hv
 rcases this with⟨q,w',h1,_⟩|⟨_,h1⟩
 ·have h2:=enter_call hF hf hb vs W
  rw[h2]at h1
  cases h1
 ·refine h1.mono fun e W' ⟨ρ',_,h2,h3⟩=> ?_
  cases e<;>first
   |exact h3.elim
   |exact⟨_,ρ',rfl,h3,h2.below⟩
theorem ev_calls {E:Env}(hF:Fit E){l:List (String×DataW Unit)}(hgl:E.gl=E.P.globals.size) (hro:E.P.globals.size≤E.ro) (hr:rowsOk E.P=true){n:Nat} {f:FuncId} {fn:Func} {c:Code}(hf:E.P.funcs[f]? =some fn) (hb:fn.body=some c)
 {args:List AV} {v:AV} {st':St}(h:(ev E n).call f args (seed E.P l E.ro)= .ok (.ret v,st')){W:World}(hl:laidMet E.P l W) (hs:W.ShapedOpen E.P){vs:Array Value}(hv:VRs (rho0 E.P.globals.size W) args vs.toList):
 Calls E.P f vs W fun e W'=>∃(q:Value) (ρ:Rho),e= .returned q∧VR ρ v q∧Below W.heap.size W W':=
 ev_calls_at hF hgl hro hr hf hb h (fun _ _=>rfl) hl hs hv
open Go Go.RowKit Go.WideShapes Go.ChangeShapes
section
variable {H:Type} {enc:TypeId×Value→H} {P:Program}
theorem post_below {f:Func} {s:ChangeSpec} {apart fresh handsOn again:Bool} {W W':World} {args:Array Value} {v:Value} {ds gs:List (DataW H)} {before pa pv:List MemPlace}
 (hW:DataW.Whole enc P f.params.toList s.vars apart W args.toList ds gs before)
 (hres:∀(b:Nat) (sp:Nat→Bool) (hd:Bool),DataW.TrodAll enc P W' b sp hd f.resultTypes.toList (v.resultList f.resultTypes.size) (s.fn H (ds++gs)).results [])
 (hargs:∀sp:Nat→Bool,(∀p∈before,sp p.block=true)→DataW.TrodAll enc P W' 0 sp true f.params.toList args.toList (s.fn H (ds++gs)).args pa)
 (hvars:∀sp:Nat→Bool,(∀p∈before,sp p.block=true)→DataW.TrodVars enc P W' sp s.vars (s.fn H (ds++gs)).vars pv)
 (hps:before=pa++pv) (hb:Below W.heap.size W W')
 (hok:∀(j:Nat) (t:TypeId) (r:Value),f.resultTypes[j]? =some t→(v.resultList f.resultTypes.size)[j]? =some r→Value.okWide P W' .any 0 t r):
 s.post enc P f apart fresh handsOn again W args v W':=by
 have hlt:∀p∈before,p.block<W.heap.size:=fun p hp=>hW.lt p hp
 have hold:∀p∈before,(fun b=>decide (b<W.heap.size)) p.block=true:=fun p hp=>by simpa using hlt p hp
 refine⟨ds,gs,before,[],pa,pv,hW,hres _ _ _,hargs _ hold,hvars _ hold,World.keptBut_mono (fun p hp=>⟨hp,?_⟩) (hb.frame (· ∈before)),fun _=> ?_⟩
 ·rw[hps,List.mem_append]at hp
  exact Or.inr hp
 ·obtain⟨_,_,_,_,_,hz,hn⟩:=hW
  refine⟨hok,_,_,([]++pa)++pv,⟨[]++pa,pv,trodAll_append (hargs _ (fun _ _=>rfl)) (hres _ _ _),hvars _ (fun _ _=>rfl),rfl,?_,?_⟩,?_⟩
  ·intro b off hp
   have hin:MemPlace.cell b off∈before:=by rw[hps];simpa using hp
   rw[hb.frozen (hlt _ hin)]
   exact hz b off hin
  ·intro ha
   have:=hn ha
   rw[hps]at this
   simpa using this
  ·intro p hp _
   rw[hps]
   simpa using hp
theorem trodAll_stays {T:TypeId→Prop}(K:Kids P T) (hsz:∀{t e:TypeId},T t→P.underlying t=some (.slice e)→0<P.cellsOf e){W W':World} {sp:Nat→Bool} :
 ∀{ts:List TypeId} {vs:List Value} {ds:List (DataW H)} {p:List MemPlace},DataW.TrodAll enc P W 0 (fun _=>true) true ts vs ds p→(∀t∈ts,T t)→(∀q∈p,W.sameAt W' q)→(∀q∈p,sp q.block=true)→DataW.TrodAll enc P W' 0 sp true ts vs ds p
 | [],[],[],p,h,_,_,_=>h
 |t::ts,v::vs,d::ds,p,h,ht,hs,hsp=>by
  obtain⟨p1,q1,⟨fuel,h1⟩,h2,rfl⟩:=h
  refine⟨p1,q1,⟨fuel,?_⟩,trodAll_stays K hsz h2 (fun t h=>ht t (.tail _ h)) (fun q hq=>hs q (List.mem_append_right _ hq)) (fun q hq=>hsp q (List.mem_append_right _ hq)),rfl⟩
  exact DataW.trod_stays K hsz (fun h=>by cases h) (ht t (.head _)) h1 (fun q hq=>hs q (List.mem_append_left _ hq)) (fun q hq=>hsp q (List.mem_append_left _ hq))
 | [],[],_::_,_,h,_,_,_=>h.elim
 | [],_::_,[],_,h,_,_,_=>h.elim
 | [],_::_,_::_,_,h,_,_,_=>h.elim
 |_::_,[],[],_,h,_,_,_=>h.elim
 |_::_,[],_::_,_,h,_,_,_=>h.elim
 |_::_,_::_,[],_,h,_,_,_=>h.elim
end
theorem anys {ρ:Rho} :∀{l:List Value},(∀v∈l,oneV v=true)→VRs ρ (List.replicate l.length .any) l
 | [],_=> .nil
 |v::_,h=> .cons _ _ _ _ (.any v (h v (.head _))) (anys fun v' h'=>h v' (.tail _ h'))
theorem one_of_okWide {P:Program} {W:World} {r:Reach} {base:Nat} {t:TypeId} {v:Value}(h:Cell.okWide P W r base t v):oneV v=true:=by
 cases v<;>first
  |rfl
  | (exfalso;unfold Cell.okWide at h;split at h<;>first|(rename_i h1 h2;cases h2;done)|(unfold Cell.ok at h;split at h<;>first|(rename_i h1 h2;cases h2;done)|exact h))
theorem anys_of_okWide {P:Program} {W:World} {r:Reach} {base:Nat} {t:TypeId} {v:Value} {fs:Array Field}(ht:P.underlying t=some (.struct fs)) (h:Value.okWide P W r base t v){ρ:Rho} {n:Nat}(hn:P.cellsOf t=n):VR ρ (.agg (List.replicate n .any)) v:=by
 unfold Value.okWide at h
 rw[ht]at h
 obtain⟨cs,rfl,h1,ts,_,_,h2⟩:=h
 refine .agg _ _ ?_
 have:n=cs.toList.length:=by simp[h1,hn]
 rw[this]
 refine anys fun v hv=> ?_
 obtain⟨i,hi⟩:=List.getElem?_of_mem hv
 obtain⟨u,_,h3⟩:=h2 i v (by simpa using hi)
 exact one_of_okWide h3
def typesOk (P:Program):Bool:=laidOutB P&&mapsRowed P&&(List.range P.types.size).all fun t=>match P.underlying t with
 |some (.slice e)=>Nat.blt 0 (P.cellsOf e)
 |_=>true
theorem laidMet_of_H {P:Program} {l:List (String×DataW Unit)} {w:World}(h0:(l.filter fun x=>x.2.handleName?.isSome).isEmpty=true) (h:laidMetH P l w):laidMet P l w:=by
 unfold laidMetH at h
 split at h
 ·exact h
 ·rename_i h1
  rw[h1]at h0
  cases h0
structure LawSpec (s:ChangeSpec) (k:Nat):Prop where
 vars:s.vars= []
 fn:∀(H:Type) (ds:List (DataW H)),ds.length=k→s.fn H ds= {results:= [.lit (.bool true)],args:=ds}
theorem trodAll_length {H:Type} {enc:TypeId×Value→H} {P:Program} {w:World} {base:Nat} {sp:Nat→Bool} {held:Bool} :∀{ts:List TypeId} {vs:List Value} {ds:List (DataW H)} {p:List MemPlace},DataW.TrodAll enc P w base sp held ts vs ds p→ds.length=ts.length
 | [],[],[],_,_=>rfl
 |_::_,_::_,_::_,_,⟨_,_,_,h,_⟩=>by simp[trodAll_length h]
 | [],[],_::_,_,h=>h.elim
 | [],_::_,[],_,h=>h.elim
 | [],_::_,_::_,_,h=>h.elim
 |_::_,[],[],_,h=>h.elim
 |_::_,[],_::_,_,h=>h.elim
 |_::_,_::_,[],_,h=>h.elim
theorem law_post {H:Type} {enc:TypeId×Value→H} {P:Program} {fn:Func} {s:ChangeSpec}(hs:LawSpec s fn.params.size){tb:TypeId}(htb:fn.resultTypes= #[tb]) (hub:P.underlying tb=some .bool) (hK:typesOk P=true) (hp:∀t∈fn.params.toList,t<P.types.size)
 {W W':World} {args:Array Value} {ds gs:List (DataW H)} {before:List MemPlace}(hW:DataW.Whole enc P fn.params.toList s.vars false W args.toList ds gs before) (hb:Below W.heap.size W W'):
 s.post enc P fn false true false false W args (.bool true) W':=by
 have hW':=hW
 obtain⟨p,q,hA,hV,hpq,_,_⟩:=hW'
 rw[hs.vars]at hV
 obtain⟨hgs,hq⟩:=trodVars_none hV
 unfold typesOk at hK
 simp only[Bool.and_eq_true]at hK
 obtain⟨⟨k1,k2⟩,k3⟩:=hK
 have K:=kids_rows k1 k2
 have hsz:∀{t e:TypeId},t<P.types.size→P.underlying t=some (.slice e)→0<P.cellsOf e:=fun {t e} h1 h2=>by
  have:=List.all_eq_true.1 k3 t (List.mem_range.2 h1)
  rw[h2]at this
  exact blt_true this
 have hl:=trodAll_length hA
 have hbp:before=p:=by rw[hpq,hq,List.append_nil]
 have hfn:s.fn H (ds++gs)= {results:= [.lit (.bool true)],args:=ds} :=by rw[hgs,List.append_nil];exact hs.fn H ds (by simpa using hl)
 refine post_below (pa:=p) (pv:= []) hW (fun b sp hd=> ?_) (fun sp hsp=> ?_) (fun sp _=> ?_) (by rw[hbp,List.append_nil]) hb (ok_one htb rfl (okWide_bool_mk hub _))
 ·rw[hfn,htb]
  exact trodAll_cons_mk (shut_bool hub _) trodAll_mk0
 ·rw[hfn]
  exact trodAll_stays K hsz hA hp (fun x hx=>hb.same (hW.lt x (by rw[hbp];exact hx))) (fun x hx=>hsp x (by rw[hbp];exact hx))
 ·rw[hfn,hs.vars]
  rfl
theorem law_calls {H:Type} {enc:TypeId×Value→H} {E:Env}(hF:Fit E){l:List (String×DataW Unit)}(h0:(l.filter fun x=>x.2.handleName?.isSome).isEmpty=true) (hgl:E.gl=E.P.globals.size) (hro:E.P.globals.size≤E.ro) (hr:rowsOk E.P=true)
 {n:Nat} {f:FuncId} {fn:Func} {c:Code}(hf:E.P.funcs[f]? =some fn) (hb:fn.body=some c){avs:List AV}(h:∃st',(ev E n).call f avs (seed E.P l E.ro)= .ok (.ret (.bool true),st'))
 {s:ChangeSpec}(hs:LawSpec s fn.params.size){tb:TypeId}(htb:fn.resultTypes= #[tb]) (hub:E.P.underlying tb=some .bool) (hK:typesOk E.P=true) (hp:∀t∈fn.params.toList,t<E.P.types.size)
 {W:World} {args:Array Value} {ds gs:List (DataW H)} {before:List MemPlace}(hW:DataW.Whole enc E.P fn.params.toList s.vars false W args.toList ds gs before) (hL:laidMetH E.P l W) (hsh:W.ShapedOpen E.P)
 (hv:VRs (rho0 E.P.globals.size W) avs args.toList):Calls E.P f args W fun e W'=>∃v,e= .returned v∧s.post enc E.P fn false true false false W args v W':=by
 obtain⟨st',h⟩:=h
 refine(ev_calls hF hgl hro hr hf hb h (laidMet_of_H h0 hL) hsh hv).mono fun e W' ⟨q,ρ,h1,h2,h3⟩=> ?_
 cases h2
 exact⟨_,h1,law_post hs htb hub hK hp hW h3⟩
theorem witness_row {H:Type} {enc:TypeId×Value→H} {C:Checked} {os:Os} {f:FuncId} {fn:Func} {s:OpenSpec} {conds:List PathCond} {apart:Bool} {laid:List (String×DataW Unit)}(w0:World) (args:Array Value) (hos:w0.os=os)
 (hsh:(w0.forCall (fun _ _=>0) ⟨#[],args,[]⟩).Shaped C.prog) (hok:Input.okWideB C.prog (w0.forCall (fun _ _=>0) ⟨#[],args,[]⟩) f ⟨#[],args,[]⟩=true)
 (hrow:s.preRow enc C.prog fn conds apart laid (w0.forCall (fun _ _=>0) ⟨#[],args,[]⟩).memory args):
 ∃(w:World) (tape:Tape) (i:Input),w.os=os∧(w.forCall tape i).Shaped C.prog∧i.vars= []∧Input.okWide C.prog (w.forCall tape i) .any w.heap.size f i∧
  s.preRow enc C.prog fn conds apart laid (w.forCall tape i).memory i.args∧({} :Assume).holds C.prog (lone (Frame.enter C.prog f i.args .normal) [] (w.forCall tape i)):=
 ⟨w0,fun _ _=>0,⟨#[],args,[]⟩,hos,hsh,(Input.okWide_of_okWideB (base:=0) hok).1,(Input.okWide_of_okWideB hok).2,hrow,by
  simp only[Assume.holds]
  exact⟨by simp,by simp,fun _=>Modest.zero,by simp,by simp⟩⟩
def saysTrue (r:Rs (En×St)):Bool:=match r with
 | .ok (.ret (.bool true),_)=>true
 |_=>false
theorem saysTrue_spec {r:Rs (En×St)}(h:saysTrue r=true):∃st',r= .ok (.ret (.bool true),st'):=by
 unfold saysTrue at h
 split at h
 ·exact⟨_,rfl⟩
 ·cases h
end Go.Proofs.YtpjcdbjablijkaaGreatDoor.Ab
