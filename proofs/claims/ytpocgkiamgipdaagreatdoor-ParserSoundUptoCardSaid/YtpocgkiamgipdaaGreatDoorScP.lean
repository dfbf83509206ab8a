import Derived.Test.YtpocgkiamgipdaaGreatDoorScK
import Derived.Test.YtpocgkiamgipdaaGreatDoorScE
set_option maxRecDepth 1000000
set_option maxHeartbeats 0
set_option linter.unusedVariables false
set_option linter.unusedSimpArgs false
open Go.Proofs.Tryz
namespace Go.Pz
open Go.Proofs Go.RowKit
def Py (O:Am) (x:Bs×DH):Am:=O.set (cls x.2.ty) x.1 (some x.2)
def N5 (l:Be):Be->Bool
 | []=>true
 |x::m=>(cls x.2.ty==1||cls x.2.ty==2||cls x.2.ty==3)&&(findD (cls x.2.ty) x.1 l).isNone&&N5 (l++ [x]) m
theorem QG (m:Be):∀(O:Am) (l:Be),Eb O l->N5 l m=true->Eb (m.foldl Py O) (l++m):=by
 induction m with
 |nil=>intro O l h _;rw[nj];exact h
 |cons x m ih=>
  intro O l h hf;unfold N5 at hf;simp only[mJ,Bool.or_eq_true,nH,Option.isNone_iff_eq_none]at hf;obtain⟨⟨hc,hn⟩,hf⟩:=hf;rw[List.foldl_cons,show l++x::m=(l++ [x])++m by simp];refine ih _ _ (Eb.Qc fun d hd y=> ?_) hf;unfold Py;rw[Nx O (by omega) hd,Ik,h.get hd y];by_cases hk:d=cls x.2.ty/\y=x.1
  ·rw[lQ hk,hk.1,hk.2,hn];simp[findD]
  ·rw[lL hk];have:findD d y [x]=none:=by
    unfold findD;rw[lL (fun a=>hk ⟨a.2.symm,a.1.symm⟩)];rfl
   rw[this];cases findD d y l<;>rfl
def fP (r:Int×Int×Bs):Be:=(Lib.fields r.2.2).map fun x=>(x,⟨r.2.1,r.1⟩)
def O6:Be:=F2.flatMap fP
theorem Ti (rs:List (Int×Int×Bs)):∀O:Am,rs.foldl GF O=(rs.flatMap fP).foldl Py O:=by
 induction rs with
 |nil=>intro O;rfl
 |cons r rs ih=>
  intro O;rw[List.foldl_cons,pK,List.foldl_append,ih];congr 1;unfold fP GF;rw[List.foldl_map];rfl
theorem QQ:Eb Am.none []:=⟨fun _=>rfl,fun _=>rfl,fun _=>rfl⟩
theorem Ow:N5 [] O6=true:=by kernel_rfl
theorem O9:Eb Jn O6:=by
 have h:=QG O6 Am.none [] QQ Ow;rw[List.nil_append]at h;unfold Jn;rw[Ti];exact h
def hasB (l m:Be):Bool:=l.all fun x=>match findD (cls x.2.ty) x.1 m with
 |some o=>o.ty==x.2.ty&&o.pr==x.2.pr
 |none=>false
theorem MC {l m:Be}(h:hasB l m=true){c:Nat} {nm:Bs} {o:DH}(hf:findD c nm l=some o):(∃o',findD c nm m=some o')/\(nm,o)∈l/\cls o.ty=c:=by
 have key:∀l:Be,findD c nm l=some o->(nm,o)∈l/\cls o.ty=c:=by
  intro l
  induction l with
  |nil=>intro h;cases h
  |cons x l ih=>
   intro h;unfold findD at h;split at h
   ·rename_i h1;cases h;exact⟨by rw[<-h1.1];exact List.mem_cons_self,h1.2⟩
   ·exact⟨List.mem_cons_of_mem _ (ih h).1,(ih h).2⟩
 obtain⟨h1,h2⟩:=key l hf;have h3:=nS.1 h _ h1;dsimp only at h3;rw[h2]at h3;refine⟨?_,h1,h2⟩;cases e:findD c nm m with
 |none=>rw[e]at h3;cases h3
 |some o'=>exact⟨o',rfl⟩
theorem Lk {l m:Be}(h1:hasB l m=true) (h2:hasB m l=true) (c:Nat) (nm:Bs):findD c nm l=findD c nm m:=by
 cases e:findD c nm l with
 |some o=>
  obtain⟨⟨o',e'⟩,hm,hc⟩:=MC h1 e;have h3:=nS.1 h1 _ hm;dsimp only at h3;rw[hc,e']at h3;simp only[mJ,nH]at h3;rw[e'];cases o;cases o';simp only at h3;rw[h3.1,h3.2]
 |none=>
  cases e':findD c nm m with
  |none=>rfl
  |some o'=>
   obtain⟨⟨o,e2⟩,_,_⟩:=MC h2 e';rw[e]at e2;cases e2
theorem Qt:hasB O6 Nn=true:=by kernel_rfl
theorem Qy:hasB Nn O6=true:=by kernel_rfl
theorem Ge:Eb Jn Nn:=by
 have h:=O9;exact⟨fun nm=>(h.pre nm).trans (Lk Qt Qy 1 nm),fun nm=>(h.inf nm).trans (Lk Qt Qy 2 nm),fun nm=>(h.post nm).trans (Lk Qt Qy 3 nm)⟩
def Nl (O:Am):Prop:=∀nm p,O.pre nm=some p\/O.inf nm=some p\/O.post nm=some p->1<=p.pr/\p.pr<=1200
theorem Xf {c:Nat} {nm:Bs} {o:DH} :∀{l:Be},findD c nm l=some o->(nm,o)∈l:=by
 intro l
 induction l with
 |nil=>intro h;cases h
 |cons x l ih=>
  intro h;unfold findD at h;split at h
  ·rename_i h1;cases h;rw[<-h1.1];exact List.mem_cons_self
  ·exact List.mem_cons_of_mem _ (ih h)
theorem aW:(Nn.all fun x=>decide (1<=x.2.pr)&&decide (x.2.pr<=1200))=true:=by kernel_rfl
theorem Xg:Nl Jn:=by
 intro nm p h;rw[Ge.pre,Ge.inf,Ge.post]at h;have hm:(nm,p)∈Nn:=by rcases h with h|h|h<;>exact Xf h
 have h1:=nS.1 aW _ hm;simpa using h1
theorem U8 {f:Bs->Option DH} {nm x:Bs} {v:Option DH} {p:DH}(h:put f nm v x=some p):v=some p\/f x=some p:=by
 unfold put at h;split at h
 ·exact .inl h
 ·exact .inr h
theorem gI {O:Am}(h:Nl O){c:Nat} {nm:Bs} {v:Option DH}(hv:∀p,v=some p->1<=p.pr/\p.pr<=1200):Nl (O.set c nm v):=by
 intro x p hp;unfold Am.set at hp
 repeat' split at hp
 all_goals
  dsimp only at hp;rcases hp with hp|hp|hp
  all_goals first
   |exact h x p (.inl hp)
   |exact h x p (.inr (.inl hp))
   |exact h x p (.inr (.inr hp))
   | (rcases U8 hp with h1|h1;exact hv p h1;first|exact h x p (.inl h1)|exact h x p (.inr (.inl h1))|exact h x p (.inr (.inr h1)))
theorem dW {O:Am}(h:Nl O) (p kind:Int) (nm:Bs):Nl (EK O p kind nm).2:=by
 unfold EK;dsimp only;by_cases h1:p<0\/1200<p
 ·rw[lQ h1];exact h
 rw[lL h1]
 repeat' split
 all_goals first
  |exact h
  | (refine gI h (fun q hq=> ?_);cases hq<;>(dsimp only;omega))
end Go.Pz
namespace Go.Pz
theorem Vf (l:Be) (p k:Int) (nm:Bs):(EU l p k nm).2.length<=l.length+1:=by
 unfold EU;dsimp only
 repeat' split
 all_goals first
  |exact mO _
  | (rw[l6];have:(A7 (cls k) nm l).length<=l.length:=List.length_filter_le _ _;try simp only[nF,pf];omega)
theorem Wu:Go.Proofs.Nn.length<=1000:=by
 have h:decide (Go.Proofs.Nn.length<=1000)=true:=by kernel_rfl
 exact lh h
end Go.Pz
namespace Go.Proofs
open Go.RowKit Go.Hb Go.Pz Go.Maps
theorem Z3 (vs:Array Value) (w:World):(callFunc 18 vs).run prog w= .ok (.enter 18 vs) w:=by kernel_rfl
theorem ZZ (vs:Array Value) (w:World):(callFunc 19 vs).run prog w= .ok (.enter 19 vs) w:=by kernel_rfl
structure Lg (w:World) (g o:Nat) (xs:Be):Prop where
 cell:∀(i:Nat) (x:Bs×DH),xs[i]? =some x->∀(j:Nat) (v:Value),(D9 x)[j]? =some v->w.cell? ⟨g,o+i*3+j,none⟩=some v
 name:∀(i:Nat) (x:Bs×DH),xs[i]? =some x->x.1.length<=1000000000
 lt:xs≠ []->g<w.heap.size
structure cx (w W:World) (Q db:Nat) (lv:Value) (N:Nat) (O:Am) (l:Be):Prop where
 Fm:EF W w.heap.size w.heap.size (w.heap.size+1) (w.heap.size+2) (w.heap.size+3) N O
 doc:EH W Q db lv l
 kZ:Eb O l
 pr:Nl O
 len:l.length<=N
 Ac:Below w.heap.size w W
 hQ:w.heap.size+4<=Q
 kn:Q<=W.heap.size
theorem cx.below {w W W':World} {Q db:Nat} {lv:Value} {N:Nat} {O:Am} {l:Be}(h:cx w W Q db lv N O l) (hb:Below W.heap.size W W'):cx w W' Q db lv N O l:=
 ⟨h.Fm.below hb,h.doc.below hb,h.kZ,h.pr,h.len,h.Ac.trans (hb.mono h.Ac.size),h.hQ,lg h.kn hb.size⟩
def I5 (w:World) (e:Ending) (w':World):Prop:=∃Q db lv N O l,e= .returned (.tuple #[.pointer (some ⟨w.heap.size,0,none⟩),.pointer (some ⟨db,0,none⟩),.bool true])/\cx w w' Q db lv N O l
theorem Zl (w:World) (la:Option Addr) (lc g o:Nat) (xs:Be) (vU:xs≠ []->la=some ⟨g,o,none⟩) (hx:Lg w g o xs) (uT:xs.length<=10000000)
  (hF:∀(W:World) (nm:Bs),Below w.heap.size w W->nm.length<=1000->(∀b∈nm,b.toNat<128)->Calls prog 31 #[.string (bs nm)] W fun e w'=>e= .returned (.slice (some ⟨W.heap.size,0,none⟩) (Lib.fields nm).length (Lib.fields nm).length)/\w'=W.alloc (.cells ((Lib.fields nm).map fun l=>Value.string (bs l)).toArray 9)):
  Calls prog 6 #[.slice la xs.length lc] w (I5 w):=by
 have C13:=lK (ca w hF);have HX:=lK hx;have HLA:=lK vU;obtain⟨n,hn⟩:∃n,n=xs.length:=⟨_,rfl⟩;rw[<-hn]at uT⊢;have HN:=lK hn;have hni:(n:Int)<=10000000:=by omega
 clear hF hx vU hn;unfold I5;go_enter func6,ntmps6
 go_wp2_with (go_at_call 13;(with_reducible refine C13.o.mono ?_);rintro e W1 ⟨rfl,sE,ql⟩)
 have C17:=lK (jC W1);have zX:=lK sE;have vE:=lK ql;clear sE ql C13
 go_wp2_with (go_at_call 17;(with_reducible refine C17.o.mono ?_);rintro e W2 ⟨rfl,lv,xh⟩)
 obtain⟨Q,hQ⟩:∃Q,Q=W1.heap.size:=⟨_,rfl⟩;obtain⟨db,uy⟩:∃db,db=W1.heap.size+1+1+1:=⟨_,rfl⟩;have HI:Hid (cx w W2 Q db lv 1000 Jn Nn):=lK (by
  have hl:=zX.o.at.ja;refine⟨zX.o.below (xh.Ac.mono (lM _)),⟨by omega,by rw[uy];exact xh.h,Iq (by omega) xh.own,fun e=>by have:=(xh.own.lt _ e).1;omega⟩,Ge,Xg,Wu,vE.o.trans (xh.Ac.mono vE.o.size),by omega,by rw[hQ];exact xh.Ac.size⟩)
 rw[<-uy];clear xh C17 zX vE hQ uy
 go_loopw [7] (fun v wr=>∃(i:Nat) (lv:Value) (O:Am) (l:Be),v= .int .i64 i/\Hid (i<=n/\cx w wr Q db lv (1000+i) O l)) (fun v _=>n-(intOf v).toNat)
 case atStart=>exact⟨0,_,_,_,rfl,lK ⟨mK _,HI.o⟩⟩
 case round=>
  obtain⟨i,lv,O,l,rfl,hq⟩:=hrel;obtain⟨wr2,yF⟩:∃W,W=wr:=⟨_,rfl⟩;subst yF;have zA:=hq.o.1;have HW:=lK hq.o.2;clear hq HI;by_cases qE:i<n
  ·have hli:(i:Int)<n:=by omega
   obtain⟨x,hx⟩:∃x,xs[i]? =some x:=⟨_,lu (by have:=HN.o;omega)⟩;have qP:xs≠ []:=fun e=>by rw[e]at hx;cases hx
   have HG:=lK (HX.o.lt qP);have vU:=HLA.o qP;subst vU;have zt:=lK (HX.o.name i x hx);have HC:Hid (∀W:World,W.heap[g]? =w.heap[g]? ->W.cell? ⟨g,o+i*3,none⟩=some (.string (bs x.1))/\W.cell? ⟨g,o+i*3+1,none⟩=some (.int .i64 x.2.ty)/\W.cell? ⟨g,o+i*3+2,none⟩=some (.int .i64 x.2.pr)):=lK (fun W h=>
    ⟨(AO h _).trans (HX.o.cell i x hx 0 _ rfl),(AO h _).trans (HX.o.cell i x hx 1 _ rfl),(AO h _).trans (HX.o.cell i x hx 2 _ rfl)⟩)
   have ID:Hid (cx w wr2.drew Q db lv (1000+i) O l):=lK (HW.o.below (Ad (Below.refl _ _)));have HAA:=lK (Ur HW.o.kZ x.2.pr x.2.ty x.1);obtain⟨cd,uh⟩:∃cd,cd=(EK O x.2.pr x.2.ty x.1).1:=⟨_,rfl⟩;have xE:Hid ((EK O x.2.pr x.2.ty x.1).1=cd/\(EU l x.2.pr x.2.ty x.1).1=cd):=lK ⟨uh.symm,by rw[uh];exact HAA.o.1.symm⟩;have C18:Hid (Calls prog 18 #[.pointer (some ⟨w.heap.size,0,none⟩),.int .i64 x.2.pr,.int .i64 x.2.ty,.string (bs x.1)] wr2.drew fun e w'=>e= .returned (.int .i64 cd)/\EF w' w.heap.size w.heap.size (w.heap.size+1) (w.heap.size+2) (w.heap.size+3) (1000+(i+1)) (EK O x.2.pr x.2.ty x.1).2/\Kept (fun b=>b=w.heap.size+1\/b=w.heap.size+2\/b=w.heap.size+3) wr2.drew w'/\wr2.drew.heap.size<=w'.heap.size):=lK (by
    have h:=iz ID.o.Fm (by omega) (by exact ID.o.Ac.size) x.2.pr x.2.ty x.1 zt.o;unfold QI at h;rw[xE.o.1]at h;exact h)
   have C19:Hid (∀W:World,EH W Q db lv l->Q<=W.heap.size->Calls prog 19 #[.pointer (some ⟨db,0,none⟩),.int .i64 x.2.pr,.int .i64 x.2.ty,.string (bs x.1)] W fun e w'=>e= .returned (.int .i64 cd)/\(∃lv,EH w' Q db lv (EU l x.2.pr x.2.ty x.1).2)/\Below Q W w'/\W.heap.size<=w'.heap.size):=lK (fun W hd hQ=>by
    have h:=jR hd (by have:=HW.o.len;omega) hQ x.2.pr x.2.ty x.1 zt.o;unfold Mq at h;rw[xE.o.2]at h;exact h)
   clear uh hx qP
   go_upto_region 6 with fail
   have HS0:Hid (wr2.drew.heap[g]? =w.heap[g]?):=lK (ID.o.Ac.block g HG.o);refine wp_region_held_drew (S:=fun W=>W.heap[g]? =w.heap[g]?) (by kernel_rfl) HS0.o (fun hS=> ?_);refine tk 0 (.pointer (some ⟨w.heap.size,0,none⟩)) rfl hS ?_;refine tk 1 (.slice (some ⟨g,o,none⟩) n lc) rfl hS ?_;refine tk 2 (.int .i64 i) rfl hS ?_;refine tk 3 (.pointer (some ⟨g,o+i*3,none⟩)) rfl hS ?_;refine tk 4 (.pointer (some ⟨g,o+i*3+2,none⟩)) rfl hS ?_;refine DQ 5 (.int .i64 x.2.pr) rfl hS (fun W hSW=> ?_) ?_
   ·have e1:=(HC.o W hSW).2.2;go_simp
   refine tk 6 (.slice (some ⟨g,o,none⟩) n lc) rfl hS ?_;refine tk 7 (.int .i64 i) rfl hS ?_;refine tk 8 (.pointer (some ⟨g,o+i*3,none⟩)) rfl hS ?_;refine tk 9 (.pointer (some ⟨g,o+i*3+1,none⟩)) rfl hS ?_;refine DQ 10 (.int .i64 x.2.ty) rfl hS (fun W hSW=> ?_) ?_
   ·have e1:=(HC.o W hSW).2.1;go_simp
   refine tk 11 (.slice (some ⟨g,o,none⟩) n lc) rfl hS ?_;refine tk 12 (.int .i64 i) rfl hS ?_;refine tk 13 (.pointer (some ⟨g,o+i*3,none⟩)) rfl hS ?_;refine tk 14 (.pointer (some ⟨g,o+i*3,none⟩)) rfl hS ?_;refine DQ 15 (.string (bs x.1)) rfl hS (fun W hSW=> ?_) ?_
   ·have e1:=(HC.o W hSW).1;go_simp
   refine tk 17 (.pointer (some ⟨db,0,none⟩)) rfl hS ?_;refine tk 18 (.slice (some ⟨g,o,none⟩) n lc) rfl hS ?_;refine tk 19 (.int .i64 i) rfl hS ?_;refine tk 20 (.pointer (some ⟨g,o+i*3,none⟩)) rfl hS ?_;refine tk 21 (.pointer (some ⟨g,o+i*3+2,none⟩)) rfl hS ?_;refine DQ 22 (.int .i64 x.2.pr) rfl hS (fun W hSW=> ?_) ?_
   ·have e1:=(HC.o W hSW).2.2;go_simp
   refine tk 23 (.slice (some ⟨g,o,none⟩) n lc) rfl hS ?_;refine tk 24 (.int .i64 i) rfl hS ?_;refine tk 25 (.pointer (some ⟨g,o+i*3,none⟩)) rfl hS ?_;refine tk 26 (.pointer (some ⟨g,o+i*3+1,none⟩)) rfl hS ?_;refine DQ 27 (.int .i64 x.2.ty) rfl hS (fun W hSW=> ?_) ?_
   ·have e1:=(HC.o W hSW).2.1;go_simp
   refine tk 28 (.slice (some ⟨g,o,none⟩) n lc) rfl hS ?_;refine tk 29 (.int .i64 i) rfl hS ?_;refine tk 30 (.pointer (some ⟨g,o+i*3,none⟩)) rfl hS ?_;refine tk 31 (.pointer (some ⟨g,o+i*3,none⟩)) rfl hS ?_;refine DQ 32 (.string (bs x.1)) rfl hS (fun W hSW=> ?_) ?_
   ·have e1:=(HC.o W hSW).1;go_simp
   try simp only[uu,Act.put]
   refine DD 16 rfl (fun K hK=> ?_);refine As (by rfl) 18 [.tmp 20,.tmp 25,.tmp 30,.tmp 35] #[24,3,3,9] (by rfl) #[.pointer (some ⟨w.heap.size,0,none⟩),.int .i64 x.2.pr,.int .i64 x.2.ty,.string (bs x.1)] (by kernel_rfl) Z3 (C18.o.mono ?_);rintro e' W6 ⟨rfl,hT6,hK6,hs6⟩;refine⟨_,rfl,?_⟩;have D6:Hid (EH W6 Q db lv l):=lK (ID.o.doc.same fun b hb=>hK6.block b (by rcases hb with rfl|hb;exact ID.o.doc.lt;exact(ID.o.doc.own.lt b hb).2) (by have h1:=ID.o.doc.hB;have h2:=ID.o.hQ;rcases hb with rfl|hb;omega;have:=(ID.o.doc.own.lt b hb).1;omega));have B6:Hid (Below w.heap.size w W6):=lK (ID.o.Ac.trans (hK6.below ID.o.Ac.size (fun b hb=>by omega)));have Q6:Hid (Q<=W6.heap.size):=lK (lg ID.o.kn hs6);have T6:=lK hT6;clear hT6 hK6 hs6;refine hK.o _ _ (B6.o.block g HG.o) (fun hS=> ?_)
   try simp only[uu,Act.put]
   refine DD 33 rfl (fun K hK=> ?_);refine As (by rfl) 19 [.tmp 37,.tmp 42,.tmp 47,.tmp 52] #[25,3,3,9] (by rfl) #[.pointer (some ⟨db,0,none⟩),.int .i64 x.2.pr,.int .i64 x.2.ty,.string (bs x.1)] (by kernel_rfl) ZZ ((C19.o W6 D6.o Q6.o).mono ?_);rintro e' W7 ⟨rfl,⟨lv7,hD7⟩,hB7,hs7⟩;refine⟨_,rfl,?_⟩;have HW7:Hid (cx w W7 Q db lv7 (1000+(i+1)) (EK O x.2.pr x.2.ty x.1).2 (EU l x.2.pr x.2.ty x.1).2):=lK (by
    have hq:=ID.o.hQ;refine⟨T6.o.same fun b hb=>hB7.block b (by omega),hD7,HAA.o.2,dW HW.o.pr _ _ _,by have:=Vf l x.2.pr x.2.ty x.1;have:=HW.o.len;omega,B6.o.trans (hB7.mono (by omega)),hq,lg Q6.o hs7⟩)
   clear hD7 hB7 hs7;refine hK.o _ _ (HW7.o.Ac.block g HG.o) (fun hS=> ?_);refine tk 34 (.bool false) rfl hS ?_
   try simp only[uu,Act.put]
   refine wpAnyH_done (by kernel_rfl) ?_ _;go_wp2;go_roundw
   case rel=>exact⟨i+1,lv7,_,_,by go_num,lK ⟨by omega,HW7.o⟩⟩
   case measure=>simp[intOf];omega
  ·go_wp2;go_ret3;exact⟨_,_,_,_,_,_,rfl,HW.o⟩
end Go.Proofs
namespace Go.Proofs
open Go.RowKit Go.Hb Go.Pz Go.Lx
def KH (s:ByteArray) (i:Nat):Prop:=i<=s.size/\∃f,s.size-i<=f/\Lib.validGoD f (s.data.toList.drop i)=true
theorem Ts {s:ByteArray}(h:Sb s.data.toList=true):KH s 0:=
 ⟨mK _,s.data.toList.length,by simp,by simpa[Sb,Lib.validD]using h⟩
theorem Xa {s:ByteArray} {i:Nat}(h:KH s i) (hi:i<s.size):∃v n:Nat,D4 s i v n/\KH s (i+n):=by
 obtain⟨h1,f,hf,hv⟩:=h;obtain⟨m,rfl⟩:∃m,f=m+1:=⟨f-1,by omega⟩;unfold Lib.validGoD at hv;have qP:s.data.toList.drop i≠ []:=fun e=>by
  have h2:=mQ List.length e;rw[List.length_drop]at h2;simp at h2;omega
 rw[lL qP]at hv;have hz:0<(s.extract i s.size).size:=by rw[l8];omega
 have hd:Lib.decodeL (s.data.toList.drop i)=Utf8.decode (s.extract i s.size) 0:=by
  unfold Lib.decodeL;rw[<-Dt]
 have full:s.extract 0 s.size=s:=by
  rw[Jj (s.extract 0 s.size),Dt,nI,<-Jj]
 rcases FN (s.extract i s.size) 0 hz with⟨v,n,hc,e⟩|⟨_,e⟩
 ·have uB:D4 s i v n:=by
   have h3:=(GC (lM _) h1 0 v n).1 hc
   rwa [full]at h3
  rw[hd,e]at hv;split at hv
  ·cases hv
  ·refine⟨v,n,uB,uB.last,m,?_,?_⟩
   ·have:=uB.size;omega
   ·rw[List.drop_drop]at hv;exact hv
 ·rw[hd,e,lQ ⟨rfl,rfl⟩]at hv;cases hv
theorem PN (s:ByteArray) (w:World) (hs:s.size<=1000000000) (hv:Sb s.data.toList=true):Calls prog 75 #[.string s] w fun e w'=>e= .returned (.bool true)/\w=w':=by
 have HU:=lK (Ts hv);clear hv;have hsi:(s.size:Int)<=1000000000:=by omega
 go_enter func75,ntmps75;go_wp2
 go_loop [3] (fun v=>∃i:Nat,v= .int .i64 i/\Hid (KH s i)) (fun v=>s.size-(intOf v).toNat)
 case atStart=>exact⟨0,rfl,HU⟩
 case round=>
  obtain⟨i,rfl,hq⟩:=hrel;clear HU;by_cases qE:i<s.size
  ·have hli:(i:Int)<s.size:=by omega
   obtain⟨v,n,hc,hu⟩:=Xa hq.o qE;have vU:=hc.last;obtain⟨d0,sJ⟩:∃d0:Int,AI s i=d0:=⟨_,rfl⟩;have g0:((s[i]'qE).toNat:Int)=d0:=by rw[<-AP s i qE];exact sJ
   have b0:=sJ;clear sJ;unfold D4 cont at hc;rcases hc with hc|hc|hc|hc
   ·have hn:n=1:=by omega
    subst hn;rw[b0]at hc;have h1:d0<128:=hc.2.2.1;have h2:0<=d0:=by rw[<-b0];exact Mz s i
    have yK:=lK hu;clear hc b0 hu hq vU;go_wp2;go_round
    case rel=>exact⟨i+1,by go_num,yK⟩
    case measure=>simp[intOf];omega
   ·have hn:n=2:=by omega
    subst hn;rw[b0]at hc;obtain⟨j1,tq⟩:∃j,j=i+1:=⟨_,rfl⟩;have tX:j1<s.size:=by omega
    obtain⟨d1,qm⟩:∃d:Int,AI s j1=d:=⟨_,rfl⟩;have g1:((s[j1]'tX).toNat:Int)=d1:=by rw[<-AP s j1 tX];exact qm
    rw[<-tq,qm]at hc;clear qm;have ej1:(i:Int)+1=(j1:Int):=by omega
    have HJ1:=lK tq;clear tq;have lo0:(192:Int)<=d0:=hc.2.1.1;have hi0:d0<224:=hc.2.1.2;have lo1:(128:Int)<=d1:=hc.2.2.1.1;have hi1:d1<192:=hc.2.2.1.2;obtain⟨cv,sX⟩:∃cv:Int,cv=((d0-192)*64+d1-128):=⟨_,rfl⟩;have qU:Hid ((128<=cv/\cv<=1114111)/\(cv<55296\/57344<=cv)):=lK (by unfold Ah at hc;rw[sX];omega);have wM:=lK sX;have yK:=lK hu;clear hc b0 hu hq sX vU
    go_wp2_with fail
    go_loop [7,8] (fun v7 v8=>(v7= .int .i64 (d0-192)/\v8= .int .i64 1)\/(v7= .int .i64 ((d0-192)*64+d1-128)/\v8= .int .i64 2)) (fun _ v8=>2-(intOf v8).toNat)
    case atStart=>exact .inl ⟨rfl,rfl⟩
    case round=>
     rcases hrel with⟨rfl,rfl⟩|⟨rfl,rfl⟩
     ·go_wp2;go_round
      case rel=>exact .inr (⟨by go_num,by go_num⟩)
      case measure=>simp[intOf]
     ·rw[<-wM.o];obtain⟨⟨q1,q2⟩,q3|q3⟩:=qU.o
      all_goals
       go_wp2;go_round
       case rel=>exact⟨i+2,by have:=HJ1.o;go_num,yK⟩
       case measure=>have:=HJ1.o;simp[intOf];omega
   ·have hn:n=3:=by omega
    subst hn;rw[b0]at hc;obtain⟨j1,tq⟩:∃j,j=i+1:=⟨_,rfl⟩;have tX:j1<s.size:=by omega
    obtain⟨d1,qm⟩:∃d:Int,AI s j1=d:=⟨_,rfl⟩;have g1:((s[j1]'tX).toNat:Int)=d1:=by rw[<-AP s j1 tX];exact qm
    rw[<-tq,qm]at hc;clear qm;have ej1:(i:Int)+1=(j1:Int):=by omega
    have HJ1:=lK tq;clear tq;obtain⟨j2,vY⟩:∃j,j=i+2:=⟨_,rfl⟩;have uL:j2<s.size:=by omega
    obtain⟨d2,qR⟩:∃d:Int,AI s j2=d:=⟨_,rfl⟩;have g2:((s[j2]'uL).toNat:Int)=d2:=by rw[<-AP s j2 uL];exact qR
    rw[<-vY,qR]at hc;clear qR;have ej2:(i:Int)+2=(j2:Int):=by omega
    have HJ2:=lK vY;clear vY;have lo0:(224:Int)<=d0:=hc.2.1.1;have hi0:d0<240:=hc.2.1.2;have lo1:(128:Int)<=d1:=hc.2.2.1.1;have hi1:d1<192:=hc.2.2.1.2;have lo2:(128:Int)<=d2:=hc.2.2.2.1.1;have qN:d2<192:=hc.2.2.2.1.2;obtain⟨cv,sX⟩:∃cv:Int,cv=(((d0-224)*64+d1-128)*64+d2-128):=⟨_,rfl⟩;have qU:Hid ((2048<=cv/\cv<=1114111)/\(cv<55296\/57344<=cv)):=lK (by unfold Ah at hc;rw[sX];omega);have wM:=lK sX;have yK:=lK hu;clear hc b0 hu hq sX vU
    go_wp2_with fail
    go_loop [7,8] (fun v7 v8=>(v7= .int .i64 (d0-224)/\v8= .int .i64 1)\/(v7= .int .i64 ((d0-224)*64+d1-128)/\v8= .int .i64 2)\/(v7= .int .i64 (((d0-224)*64+d1-128)*64+d2-128)/\v8= .int .i64 3)) (fun _ v8=>3-(intOf v8).toNat)
    case atStart=>exact .inl ⟨rfl,rfl⟩
    case round=>
     rcases hrel with⟨rfl,rfl⟩|⟨rfl,rfl⟩|⟨rfl,rfl⟩
     ·go_wp2;go_round
      case rel=>exact .inr (.inl ⟨by go_num,by go_num⟩)
      case measure=>simp[intOf]
     ·go_wp2;go_round
      case rel=>exact .inr (.inr (⟨by go_num,by go_num⟩))
      case measure=>simp[intOf]
     ·rw[<-wM.o];obtain⟨⟨q1,q2⟩,q3|q3⟩:=qU.o
      all_goals
       go_wp2;go_round
       case rel=>exact⟨i+3,by have:=HJ2.o;go_num,yK⟩
       case measure=>have:=HJ2.o;simp[intOf];omega
   ·have hn:n=4:=by omega
    subst hn;rw[b0]at hc;obtain⟨j1,tq⟩:∃j,j=i+1:=⟨_,rfl⟩;have tX:j1<s.size:=by omega
    obtain⟨d1,qm⟩:∃d:Int,AI s j1=d:=⟨_,rfl⟩;have g1:((s[j1]'tX).toNat:Int)=d1:=by rw[<-AP s j1 tX];exact qm
    rw[<-tq,qm]at hc;clear qm;have ej1:(i:Int)+1=(j1:Int):=by omega
    have HJ1:=lK tq;clear tq;obtain⟨j2,vY⟩:∃j,j=i+2:=⟨_,rfl⟩;have uL:j2<s.size:=by omega
    obtain⟨d2,qR⟩:∃d:Int,AI s j2=d:=⟨_,rfl⟩;have g2:((s[j2]'uL).toNat:Int)=d2:=by rw[<-AP s j2 uL];exact qR
    rw[<-vY,qR]at hc;clear qR;have ej2:(i:Int)+2=(j2:Int):=by omega
    have HJ2:=lK vY;clear vY;obtain⟨j3,hj3⟩:∃j,j=i+3:=⟨_,rfl⟩;have hl3:j3<s.size:=by omega
    obtain⟨d3,yZ⟩:∃d:Int,AI s j3=d:=⟨_,rfl⟩;have g3:((s[j3]'hl3).toNat:Int)=d3:=by rw[<-AP s j3 hl3];exact yZ
    rw[<-hj3,yZ]at hc;clear yZ;have ej3:(i:Int)+3=(j3:Int):=by omega
    have HJ3:=lK hj3;clear hj3;have lo0:(240:Int)<=d0:=hc.2.1.1;have hi0:d0<248:=hc.2.1.2;have lo1:(128:Int)<=d1:=hc.2.2.1.1;have hi1:d1<192:=hc.2.2.1.2;have lo2:(128:Int)<=d2:=hc.2.2.2.1.1;have qN:d2<192:=hc.2.2.2.1.2;have lo3:(128:Int)<=d3:=hc.2.2.2.2.1.1;have hi3:d3<192:=hc.2.2.2.2.1.2;obtain⟨cv,sX⟩:∃cv:Int,cv=((((d0-240)*64+d1-128)*64+d2-128)*64+d3-128):=⟨_,rfl⟩;have qU:Hid ((65536<=cv/\cv<=1114111)/\(57344<=cv)):=lK (by unfold Ah at hc;rw[sX];omega);have wM:=lK sX;have yK:=lK hu;clear hc b0 hu hq sX vU
    go_wp2_with fail
    go_loop [7,8] (fun v7 v8=>(v7= .int .i64 (d0-240)/\v8= .int .i64 1)\/(v7= .int .i64 ((d0-240)*64+d1-128)/\v8= .int .i64 2)\/(v7= .int .i64 (((d0-240)*64+d1-128)*64+d2-128)/\v8= .int .i64 3)\/(v7= .int .i64 ((((d0-240)*64+d1-128)*64+d2-128)*64+d3-128)/\v8= .int .i64 4)) (fun _ v8=>4-(intOf v8).toNat)
    case atStart=>exact .inl ⟨rfl,rfl⟩
    case round=>
     rcases hrel with⟨rfl,rfl⟩|⟨rfl,rfl⟩|⟨rfl,rfl⟩|⟨rfl,rfl⟩
     ·go_wp2;go_round
      case rel=>exact .inr (.inl ⟨by go_num,by go_num⟩)
      case measure=>simp[intOf]
     ·go_wp2;go_round
      case rel=>exact .inr (.inr (.inl ⟨by go_num,by go_num⟩))
      case measure=>simp[intOf]
     ·go_wp2;go_round
      case rel=>exact .inr (.inr (.inr (⟨by go_num,by go_num⟩)))
      case measure=>simp[intOf]
     ·rw[<-wM.o];obtain⟨⟨q1,q2⟩,q3⟩:=qU.o
      all_goals
       go_wp2;go_round
       case rel=>exact⟨i+4,by have:=HJ3.o;go_num,yK⟩
       case measure=>have:=HJ3.o;simp[intOf];omega
  ·clear hq;go_wp2;go_ret;exact⟨rfl,rfl⟩
end Go.Proofs
namespace Go.Proofs
open Go.RowKit Go.Hb Go.Pz
theorem Y9 (n:Nat):∀(t:Tm),SizeOf.sizeOf t<=n->∀(c:Array Value) (k:Nat) (S:Nat->Prop) (w:World),(∀b,S b->b<w.heap.size)->AT w S c.toList t->k<=4000->
  Calls prog 47 #[.agg c,.int .i64 k] w fun e w'=>e= .returned (.int .i64 (Dx t k))/\Below w.heap.size w w':=by
 induction n with
 |zero=>intro t ht;cases t<;>simp at ht
 |succ n ih=>
  intro t ht c k S w hS h hk;obtain⟨c⟩:=c;obtain⟨kd,nm,nu,bits,v,a,cap,hc,hl⟩:=AT.form h;have hc:c=_:=hc;subst hc;obtain⟨r,hr⟩:∃r,r=Dx t k:=⟨_,rfl⟩;rw[<-hr];obtain⟨len,hlen⟩:∃len,len=(AJ t).length:=⟨_,rfl⟩;rw[<-hlen];have HR:=lK (hr.trans (Pb t k));have IH:=lK (fun x (hx:x∈AJ t)=>ih x (Nat.le_of_lt_succ (lR (EP hx) ht)));have HS:=lK hS;have HL:=lK hl;have rz:=lK hlen;have kk:(k:Int)<=4000:=by omega
  clear h ih ht hS hl hr hlen;show Calls prog 47 #[.agg #[.int .i64 kd,.string nm,.string nu,.int .u64 bits,.int .i64 v,.slice a len cap],.int .i64 k] w _;go_enter func47,ntmps47
  go_upto_block 0 with fail
  have BW:Hid (Below w.heap.size w (w.alloc (.cells #[.int .i64 kd,.string nm,.string nu,.int .u64 bits,.int .i64 v,.slice a len cap] 31))):=lK (Bzz _);have vf:=lK (lT w (.cells #[.int .i64 kd,.string nm,.string nu,.int .u64 bits,.int .i64 v,.slice a len cap] 31));have LA:Hid (w.heap.size<(w.alloc (.cells #[.int .i64 kd,.string nm,.string nu,.int .u64 bits,.int .i64 v,.slice a len cap] 31)).heap.size):=lK (by simp);generalize(w.alloc (.cells #[.int .i64 kd,.string nm,.string nu,.int .u64 bits,.int .i64 v,.slice a len cap] 31))=W at*;have HK:=lK hk;clear hk
  go_wp2_with fail
  go_loopw [1,5] (fun v1 v5 wr=>∃(i m:Nat),v1= .int .i64 m/\v5= .int .i64 i/\Hid (i<=m/\m<=4001/\i<=len/\r=El ((AJ t).drop i) m/\Below W.heap.size W wr)) (fun _ v5 _=>match v5 with| .int .i64 i=>len-i.toNat|_=>0)
  case atStart=>exact⟨0,k+1,rfl,rfl,lK ⟨mK _,by have:=HK.o;omega,mK _,HR.o,Below.refl _ _⟩⟩
  case round=>
   obtain⟨i,m,rfl,rfl,hq⟩:=hrel;obtain⟨g0,g1,g2,g3,g4⟩:=hq.o;have bi:(i:Int)<=4001:=by omega
   have bm:(m:Int)<=4001:=by omega
   have G1:=lK (And.intro g0 g1);have G3:=lK g3;have yM:=lK g4;have BR:Hid (Below w.heap.size w wr):=lK (BW.o.trans (g4.mono BW.o.size));have x5:wr.cell? ⟨w.heap.size,5,none⟩=some (.slice a len cap):=by
    rw[Lib.cell_of_heap ((g4.block w.heap.size LA.o).trans vf.o)];rfl
   by_cases hi:i<len
   ·have ui:(i:Int)<len:=by omega
    obtain⟨x,hx⟩:∃x,(AJ t)[i]? =some x:=⟨_,lu (by have:=rz.o;omega)⟩;obtain⟨b,off,cs,rfl,uR,qy,tW⟩:∃b off cs,a=some ⟨b,off,none⟩/\S b/\(∀j,j<cs.length->w.cell? ⟨b,off+j,none⟩=cs[j]?)/\BJ w S cs (AJ t):=by
     rcases HL.o with h1|h1
     ·rw[h1]at hx;cases hx
     ·exact h1
    obtain⟨d0,sJ,uW⟩:=tW.at hx;obtain⟨c0,rfl⟩:∃c0:Array Value,d0=c0.toList:=⟨⟨d0⟩,rfl⟩;have z0:Hid (c0.size=6):=lK (by have:=sJ.len;simpa using this);have qq:=HS.o b uR;have vI:w.rangeAt b (off+i*6) c0.toList:=fun j v hv=>by
     have hj:j<6:=by
      have h1:=(mC.1 hv).1;have h2:=z0.o;rw[nG]at h1;omega
     have h1:=uW j hj;have h2:6*i+j<cs.length:=by
      rcases ls (6*i+j) cs.length with h|h
      ·exact h
      ·rw[mr h]at h1;rw[<-h1]at hv;cases hv
     rw[show off+i*6+j=off+(6*i+j) by omega,qy _ h2,h1,hv]
    have RG:Hid (wr.rangeAt b (off+i*6) c0.toList):=lK (fun j v hv=>(BR.o.cell (p:=⟨b,off+i*6+j,none⟩) qq).trans (vI j v hv));have ZL:Hid ((Tryz.prog.info? 31).map (·.size)=some c0.toList.length):=lK (by rw[nG,z0.o];exact Cg);have HD:Hid (AT wr S c0.toList x):=lK (AT.Ak (fun b hb=>BR.o.block b (HS.o b hb)) (fun _ h=>h) sJ);have HSR:Hid (∀b,S b->b<wr.heap.size):=lK (fun b hb=>lR (HS.o b hb) BR.o.size);have HX:=lK hx;have G3:Hid (r=if 4000<m then m else El ((AJ t).drop (i+1)) (Dx x m)):=lK (by rw[G3.o,drop_cons hx];simp only[El]);clear hx uR qy tW uW sJ qq vI hq g0 g1 g2 g3 g4;by_cases hm:4000<m
    ·have hmi:¬(m:Int)<=4000:=by omega
     have HE:Hid (r=m):=lK (by rw[G3.o,lQ hm]);go_wp2;rw[HE.o];refine lS (v:= .int .i64 m) ?_ rfl ⟨rfl,BR.o⟩;simp[results,results47]
    ·have hmi:(m:Int)<=4000:=by omega
     have HM:Hid (m<=4000):=lK (by omega);have HC:=lK (IH.o x (mP HX.o) c0 m S wr HSR.o HD.o HM.o);have HE:Hid (r=El ((AJ t).drop (i+1)) (Dx x m)):=lK (by rw[G3.o,lL hm]);have HB:=lK (Hj x m HM.o);obtain⟨m2,si⟩:∃m2,m2=Dx x m:=⟨_,rfl⟩;rw[<-si]at HC HE HB;have vD:=lK hi;clear hm si G3 hi
     go_wp2_with (first|(refine wpList_load_mid rfl 31 _ rfl b (off+i*6) rfl c0.toList _ RG.o mE rfl ZL.o ?_)|(go_at_call 47;(refine HC.o.mono ?_)))
     rintro e W5 ⟨rfl,b5⟩;have B5:=lK (yM.o.trans (b5.mono yM.o.size));clear b5 HC x5;go_wp2;go_roundw
     case rel=>exact⟨i+1,m2,rfl,by first|rfl|(congr 1),lK ⟨by have:=HB.o;have:=G1.o;omega,HB.o.2,vD.o,HE.o,B5.o⟩⟩
     case measure=>
      have:=vD.o;show len-((i+1:Nat):Int).toNat<len-((i:Nat):Int).toNat;rw[mB,mB];omega
   ·have ui:¬(i:Int)<len:=by omega
    have HE:Hid (r=m):=lK (by rw[G3.o,ot (by have:=rz.o;omega)];rfl);clear hq g0 g1 g2 g3 g4;go_wp2;rw[HE.o];refine lS (v:= .int .i64 m) ?_ rfl ⟨rfl,BR.o⟩;simp[results,results47]
theorem bc {t:Tm} {c:Array Value} {S:Nat->Prop} {w:World}(hS:∀b,S b->b<w.heap.size) (h:AT w S c.toList t) (hn:Dx t 0<=4000):
  Calls prog 28 #[.agg c] w fun e w'=>e= .returned (.int .i64 (Dx t 0))/\Below w.heap.size w w':=by
 have C6:Hid (c.size=6):=lK (by have:=h.len;simpa using this);have HB:=lK (show Below w.heap.size w (w.alloc (.cells c 31))from Bzz _);have HC:=lK (Y9 _ t (lM _) c 0 S (w.alloc (.cells c 31)) (fun b hb=>lR (hS b hb) HB.o.size) (AT.Ak (fun b hb=>HB.o.block b (hS b hb)) (fun _ h=>h) h) (mK _));have HN:=lK (lT w (.cells c 31));obtain⟨m,hm⟩:∃m,m=Dx t 0:=⟨_,rfl⟩;rw[<-hm]at HC hn⊢;have hmi:(m:Int)<=4000:=by omega
 clear h hS hm hn;go_enter func28,ntmps28
 go_wp2_with (first|(refine KK rfl _ rfl w.heap.size c C6.o rfl HN.o ?_)|(go_at_call 47;(refine HC.o.mono ?_)))
 rintro e W1 ⟨rfl,b1⟩;have B1:=lK (HB.o.trans (b1.mono HB.o.size));clear b1;go_wp2;refine lS (v:= .int .i64 m) ?_ rfl ⟨rfl,B1.o⟩;simp[results,results28]
def Wp (P:Tm->Prop) (I:World->Prop):Prop:=∀(t:Tm) (c:Array Value) (S:Nat->Prop) (w:World),P t->I w->(∀b,S b->b<w.heap.size)->AT w S c.toList t->Calls prog 48 #[.agg c] w fun e w'=>e= .returned (.int .i64 0)/\Below w.heap.size w w'
theorem iC {P:Tm->Prop} {I:World->Prop}(hP:∀t,P t->∀x∈AJ t,P x) (hI:∀w w':World,I w->Below w.heap.size w w'->I w') (hl64:∀t,P t->(AJ t).length<=64) (hN:Wp P I) (n:Nat):∀(t:Tm),SizeOf.sizeOf t<=n->∀(c:Array Value) (S:Nat->Prop) (w:World),P t->I w->(∀b,S b->b<w.heap.size)->AT w S c.toList t->
  Calls prog 29 #[.agg c] w fun e w'=>e= .returned (.int .i64 0)/\Below w.heap.size w w':=by
 induction n with
 |zero=>intro t ht;cases t<;>simp at ht
 |succ n ih=>
  intro t ht c S w hp hiw hS h;have hB:=show Below w.heap.size w (w.alloc (.cells c 31))from Bzz _;have uH:=lK (hN t c S (w.alloc (.cells c 31)) hp (hI _ _ hiw hB) (fun b hb=>lR (hS b hb) hB.size) (AT.Ak (fun b hb=>hB.block b (hS b hb)) (fun _ h=>h) h));have L64:=hl64 t hp;obtain⟨c⟩:=c;obtain⟨kd,nm,nu,bits,v,a,cap,hc,hl⟩:=AT.form h;have hc:c=_:=hc;subst hc;obtain⟨len,hlen⟩:∃len,len=(AJ t).length:=⟨_,rfl⟩;rw[<-hlen]at uH hB L64⊢;have l64:(len:Int)<=64:=by omega
  have uH:Hid (Calls prog 48 #[.agg #[.int .i64 kd,.string nm,.string nu,.int .u64 bits,.int .i64 v,.slice a len cap]] (w.alloc (.cells #[.int .i64 kd,.string nm,.string nu,.int .u64 bits,.int .i64 v,.slice a len cap] 31)) fun e w'=>e= .returned (.int .i64 0)/\Below (w.alloc (.cells #[.int .i64 kd,.string nm,.string nu,.int .u64 bits,.int .i64 v,.slice a len cap] 31)).heap.size (w.alloc (.cells #[.int .i64 kd,.string nm,.string nu,.int .u64 bits,.int .i64 v,.slice a len cap] 31)) w'):=uH;have hB:Below w.heap.size w (w.alloc (.cells #[.int .i64 kd,.string nm,.string nu,.int .u64 bits,.int .i64 v,.slice a len cap] 31)):=hB;have IH:=lK (fun x (hx:x∈AJ t) (c:Array Value) (W:World) (hb:Below w.heap.size w W) (hd:AT W S c.toList x)=>ih x (Nat.le_of_lt_succ (lR (EP hx) ht)) c S W (hP t hp x hx) (hI _ _ hiw hb) (fun b hh=>lR (hS b hh) hb.size) hd);have HS:=lK hS;have HL:=lK hl;have rz:=lK hlen;have BW:=lK hB;clear hB;clear h ih ht hS hl hlen hp hiw hN hI hP hl64;show Calls prog 29 #[.agg #[.int .i64 kd,.string nm,.string nu,.int .u64 bits,.int .i64 v,.slice a len cap]] w _;have vf:=lK (lT w (.cells #[.int .i64 kd,.string nm,.string nu,.int .u64 bits,.int .i64 v,.slice a len cap] 31));have LA:Hid (w.heap.size<(w.alloc (.cells #[.int .i64 kd,.string nm,.string nu,.int .u64 bits,.int .i64 v,.slice a len cap] 31)).heap.size):=lK (by simp);go_enter func29,ntmps29
  go_upto_region 1 with fail
  generalize(w.alloc (.cells #[.int .i64 kd,.string nm,.string nu,.int .u64 bits,.int .i64 v,.slice a len cap] 31))=A at*
  go_wp2_with (first|(refine KK rfl _ rfl w.heap.size #[.int .i64 kd,.string nm,.string nu,.int .u64 bits,.int .i64 v,.slice a len cap] rfl rfl vf.o ?_)|(go_at_call 48;(refine uH.o.mono ?_)))
  first|rintro e W1 rfl b1|rintro e W1 ⟨rfl,b1⟩
  have B1:=lK b1;clear b1 uH
  go_wp2_with fail
  go_loopw [3,4] (fun v3 v4 wr=>∃(i:Nat),v3= .int .i64 0/\v4= .int .i64 i/\Hid (i<=len/\Below A.heap.size A wr)) (fun _ v4 _=>match v4 with| .int .i64 i=>len-i.toNat|_=>0)
  case atStart=>exact⟨0,rfl,rfl,lK ⟨mK _,B1.o⟩⟩
  case round=>
   obtain⟨i,rfl,rfl,hq⟩:=hrel;obtain⟨g2,g4⟩:=hq.o;have bi:(i:Int)<=64:=by omega
   have yM:=lK g4;have BR:Hid (Below w.heap.size w wr):=lK (BW.o.trans (g4.mono BW.o.size));have x5:wr.cell? ⟨w.heap.size,5,none⟩=some (.slice a len cap):=by
    rw[Lib.cell_of_heap ((g4.block w.heap.size LA.o).trans vf.o)];rfl
   by_cases hi:i<len
   ·have ui:(i:Int)<len:=by omega
    obtain⟨x,hx⟩:∃x,(AJ t)[i]? =some x:=⟨_,lu (by have:=rz.o;omega)⟩;obtain⟨b,off,cs,rfl,uR,qy,tW⟩:∃b off cs,a=some ⟨b,off,none⟩/\S b/\(∀j,j<cs.length->w.cell? ⟨b,off+j,none⟩=cs[j]?)/\BJ w S cs (AJ t):=by
     rcases HL.o with h1|h1
     ·rw[h1]at hx;cases hx
     ·exact h1
    obtain⟨d0,sJ,uW⟩:=tW.at hx;obtain⟨c0,rfl⟩:∃c0:Array Value,d0=c0.toList:=⟨⟨d0⟩,rfl⟩;have z0:Hid (c0.size=6):=lK (by have:=sJ.len;simpa using this);have qq:=HS.o b uR;have vI:w.rangeAt b (off+i*6) c0.toList:=fun j v hv=>by
     have hj:j<6:=by
      have h1:=(mC.1 hv).1;have h2:=z0.o;rw[nG]at h1;omega
     have h1:=uW j hj;have h2:6*i+j<cs.length:=by
      rcases ls (6*i+j) cs.length with h|h
      ·exact h
      ·rw[mr h]at h1;rw[<-h1]at hv;cases hv
     rw[show off+i*6+j=off+(6*i+j) by omega,qy _ h2,h1,hv]
    have RG:Hid (wr.rangeAt b (off+i*6) c0.toList):=lK (fun j v hv=>(BR.o.cell (p:=⟨b,off+i*6+j,none⟩) qq).trans (vI j v hv));have ZL:Hid ((Tryz.prog.info? 31).map (·.size)=some c0.toList.length):=lK (by rw[nG,z0.o];exact Cg);have HD:Hid (AT wr S c0.toList x):=lK (AT.Ak (fun b hb=>BR.o.block b (HS.o b hb)) (fun _ h=>h) sJ);have HSR:Hid (∀b,S b->b<wr.heap.size):=lK (fun b hb=>lR (HS.o b hb) BR.o.size);have HX:=lK hx;clear hx uR qy tW uW sJ qq vI hq g2 g4;have HC:=lK (IH.o x (mP HX.o) c0 wr BR.o HD.o);have vD:=lK hi;clear hi
    go_wp2_with (first|(refine wpList_load_mid rfl 31 _ rfl b (off+i*6) rfl c0.toList _ RG.o mE rfl ZL.o ?_)|(go_at_call 29;(refine HC.o.mono ?_)))
    rintro e W5 ⟨rfl,b5⟩;have B5:=lK (yM.o.trans (b5.mono yM.o.size));clear b5 HC x5;go_wp2;go_roundw
    case rel=>exact⟨i+1,rfl,by first|rfl|(congr 1),lK ⟨vD.o,B5.o⟩⟩
    case measure=>
     have:=vD.o;show len-((i+1:Nat):Int).toNat<len-((i:Nat):Int).toNat;rw[mB,mB];omega
   ·have ui:¬(i:Int)<len:=by omega
    clear hq g2 g4;go_wp2;refine lS (v:= .int .i64 0) ?_ rfl ⟨rfl,BR.o⟩;simp[results,results29]
theorem dO {P:Tm->Prop} {I:World->Prop}(hP:∀t,P t->∀x∈AJ t,P x) (hI:∀w w':World,I w->Below w.heap.size w w'->I w') (hl64:∀t,P t->(AJ t).length<=64) (hN:Wp P I){t:Tm} {c:Array Value} {S:Nat->Prop} {w:World}(hn:Dx t 0<=4000) (hp:P t) (hiw:I w) (hS:∀b,S b->b<w.heap.size) (h:AT w S c.toList t):
  Calls prog 8 #[.agg c] w fun e w'=>e= .returned (.int .i64 0)/\Below w.heap.size w w':=by
 have C6:Hid (c.size=6):=lK (by have:=h.len;simpa using this);have HB:=lK (show Below w.heap.size w (w.alloc (.cells c 31))from Bzz _);have HN:=lK (lT w (.cells c 31));have LA:Hid (w.heap.size<(w.alloc (.cells c 31)).heap.size):=lK (by simp);have H45:=lK (fun(W:World) (hb:Below w.heap.size w W)=>bc (t:=t) (c:=c) (S:=S) (w:=W) (fun b hh=>lR (hS b hh) hb.size) (AT.Ak (fun b hh=>hb.block b (hS b hh)) (fun _ h=>h) h) hn);have H46:=lK (fun(W:World) (hb:Below w.heap.size w W)=>iC hP hI hl64 hN _ t (lM _) c S W hp (hI _ _ hiw hb) (fun b hh=>lR (hS b hh) hb.size) (AT.Ak (fun b hh=>hb.block b (hS b hh)) (fun _ h=>h) h));obtain⟨m,hm⟩:∃m,m=Dx t 0:=⟨_,rfl⟩;rw[<-hm]at H45 hn;have h4i:(m:Int)<=4000:=by omega
 clear h hS hm hP hI hN hp hiw hn hl64;go_enter func8,ntmps8
 go_wp2_with (first|(refine KK rfl _ rfl w.heap.size c C6.o rfl HN.o ?_)|(go_at_call 28;(refine(H45.o _ HB.o).mono ?_)))
 first|rintro e W1 rfl b1|rintro e W1 ⟨rfl,b1⟩
 have B1:=lK (HB.o.trans (b1.mono HB.o.size));have HN:=lK ((b1.block w.heap.size LA.o).trans HN.o);clear b1
 go_wp2_with (first|(refine KK rfl _ rfl w.heap.size c C6.o rfl HN.o ?_)|(go_at_call 29;(refine(H46.o _ B1.o).mono ?_)))
 first|rintro e W2 rfl b2|rintro e W2 ⟨rfl,b2⟩
 have B2:=lK (B1.o.trans (b2.mono B1.o.size));clear b2;go_wp2;refine lS (v:= .int .i64 0) ?_ rfl ⟨rfl,B2.o⟩;simp[results,results8]
def Kz (w:World) (e:Ending) (w':World):Prop:=e= .returned (.int .i64 0)/\Below w.heap.size w w'
theorem FM {w A:World} {cs:Array Value}(h:A=w.alloc (.cells cs 31)):Below w.heap.size w A/\A.heap[w.heap.size]? =some (.cells cs 31):=by
 subst h;exact⟨Bzz _,lT w _⟩
theorem YW (n:Nat) (w:World):Calls prog 48 #[.agg #[.int .i64 1,.string ⟨#[]⟩,.string ⟨#[]⟩,.int .u64 0,.int .i64 n,.slice none 0 0]] w (Kz w):=by
 have U75:Hid (∀W,Calls prog 75 #[.string ⟨#[]⟩] W fun e w'=>e= .returned (.bool true)/\W=w'):=lK (fun W=>PN ⟨#[]⟩ W (by decide) J6);go_enter func48,ntmps48
 go_upto_region 1 with fail
 generalize hA:w.alloc (.cells #[.int .i64 1,.string ⟨#[]⟩,.string ⟨#[]⟩,.int .u64 0,.int .i64 n,.slice none 0 0] 31)=A;obtain⟨hb,hh⟩:=FM hA.symm;have x0:A.cell? ⟨w.heap.size,0,none⟩=some (.int .i64 1):=by rw[Lib.cell_of_heap hh];rfl
 have x1:A.cell? ⟨w.heap.size,1,none⟩=some (.string ⟨#[]⟩):=by rw[Lib.cell_of_heap hh];rfl
 have x2:A.cell? ⟨w.heap.size,2,none⟩=some (.string ⟨#[]⟩):=by rw[Lib.cell_of_heap hh];rfl
 have x3:A.cell? ⟨w.heap.size,3,none⟩=some (.int .u64 0):=by rw[Lib.cell_of_heap hh];rfl
 have x4:A.cell? ⟨w.heap.size,4,none⟩=some (.int .i64 n):=by rw[Lib.cell_of_heap hh];rfl
 have x5:A.cell? ⟨w.heap.size,5,none⟩=some (.slice none 0 0):=by rw[Lib.cell_of_heap hh];rfl
 have BA:=lK hb;clear hA hb hh;have qU:((n:Int) !=0)=true\/((n:Int) !=0)=false:=by cases ((n:Int) !=0)<;>simp
 have hn:0<=(n:Int):=by omega
 rcases qU with k1|k1
 all_goals
  go_wp2_with (first|(go_at_call 75;(with_reducible refine(U75.o _).mono ?_);rintro e w' ⟨rfl,rfl⟩))
 all_goals
  refine lS (v:= .int .i64 0) ?_ rfl ⟨rfl,BA.o⟩;simp[results,results48]
theorem WQ (s:Bs) (w:World) (hv:Sb s=true) (hl:s.length<=1000):Calls prog 48 #[.agg #[.int .i64 2,.string (bs s),.string ⟨#[]⟩,.int .u64 0,.int .i64 0,.slice none 0 0]] w (Kz w):=by
 have U75:Hid (∀W,Calls prog 75 #[.string (bs s)] W fun e w'=>e= .returned (.bool true)/\W=w'):=lK (fun W=>PN (bs s) W (by show s.length<=_;omega) hv);go_enter func48,ntmps48
 go_upto_region 1 with fail
 generalize hA:w.alloc (.cells #[.int .i64 2,.string (bs s),.string ⟨#[]⟩,.int .u64 0,.int .i64 0,.slice none 0 0] 31)=A;obtain⟨hb,hh⟩:=FM hA.symm;have x0:A.cell? ⟨w.heap.size,0,none⟩=some (.int .i64 2):=by rw[Lib.cell_of_heap hh];rfl
 have x1:A.cell? ⟨w.heap.size,1,none⟩=some (.string (bs s)):=by rw[Lib.cell_of_heap hh];rfl
 have x2:A.cell? ⟨w.heap.size,2,none⟩=some (.string ⟨#[]⟩):=by rw[Lib.cell_of_heap hh];rfl
 have x3:A.cell? ⟨w.heap.size,3,none⟩=some (.int .u64 0):=by rw[Lib.cell_of_heap hh];rfl
 have x4:A.cell? ⟨w.heap.size,4,none⟩=some (.int .i64 0):=by rw[Lib.cell_of_heap hh];rfl
 have x5:A.cell? ⟨w.heap.size,5,none⟩=some (.slice none 0 0):=by rw[Lib.cell_of_heap hh];rfl
 have BA:=lK hb;clear hA hb hh;have rH:(bs s).size<=1000:=hl
 all_goals
  go_wp2_with (first|(go_at_call 75;(with_reducible refine(U75.o _).mono ?_);rintro e w' ⟨rfl,rfl⟩))
 all_goals
  refine lS (v:= .int .i64 0) ?_ rfl ⟨rfl,BA.o⟩;simp[results,results48]
theorem Tryz.Nc (s:Bs) (a:Option Addr) (len cap:Nat) (w:World) (hv:Sb s=true) (hl:s.length<=1000) (h1:1<=len) (h2:len<=64):Calls prog 48 #[.agg #[.int .i64 5,.string (bs s),.string ⟨#[]⟩,.int .u64 0,.int .i64 0,.slice a len cap]] w (Kz w):=by
 have U75:Hid (∀W,Calls prog 75 #[.string (bs s)] W fun e w'=>e= .returned (.bool true)/\W=w'):=lK (fun W=>PN (bs s) W (by show s.length<=_;omega) hv);go_enter func48,ntmps48
 go_upto_region 1 with fail
 generalize hA:w.alloc (.cells #[.int .i64 5,.string (bs s),.string ⟨#[]⟩,.int .u64 0,.int .i64 0,.slice a len cap] 31)=A;obtain⟨hb,hh⟩:=FM hA.symm;have x0:A.cell? ⟨w.heap.size,0,none⟩=some (.int .i64 5):=by rw[Lib.cell_of_heap hh];rfl
 have x1:A.cell? ⟨w.heap.size,1,none⟩=some (.string (bs s)):=by rw[Lib.cell_of_heap hh];rfl
 have x2:A.cell? ⟨w.heap.size,2,none⟩=some (.string ⟨#[]⟩):=by rw[Lib.cell_of_heap hh];rfl
 have x3:A.cell? ⟨w.heap.size,3,none⟩=some (.int .u64 0):=by rw[Lib.cell_of_heap hh];rfl
 have x4:A.cell? ⟨w.heap.size,4,none⟩=some (.int .i64 0):=by rw[Lib.cell_of_heap hh];rfl
 have x5:A.cell? ⟨w.heap.size,5,none⟩=some (.slice a len cap):=by rw[Lib.cell_of_heap hh];rfl
 have BA:=lK hb;clear hA hb hh;have rH:(bs s).size<=1000:=hl
 all_goals
  have h1i:1<=(len:Int):=by omega
  have h2i:(len:Int)<=64:=by omega
  have h3i:((len:Int)==0)=false:=by rw[lY];omega
 all_goals
  go_wp2_with (first|(go_at_call 75;(with_reducible refine(U75.o _).mono ?_);rintro e w' ⟨rfl,rfl⟩))
 all_goals
  refine lS (v:= .int .i64 0) ?_ rfl ⟨rfl,BA.o⟩;simp[results,results48]
theorem Yc (s:Bs) (w:World) (h76:∀W:World,Below w.heap.size w W->Calls prog 76 #[.string (bs s)] W fun e w'=>e= .returned (.bool true)/\Below W.heap.size W w'):Calls prog 48 #[.agg #[.int .i64 3,.string ⟨#[]⟩,.string (bs s),.int .u64 0,.int .i64 0,.slice none 0 0]] w (Kz w):=by
 have U75:Hid (∀W,Calls prog 75 #[.string ⟨#[]⟩] W fun e w'=>e= .returned (.bool true)/\W=w'):=lK (fun W=>PN ⟨#[]⟩ W (by decide) J6);go_enter func48,ntmps48
 go_upto_region 1 with fail
 generalize hA:w.alloc (.cells #[.int .i64 3,.string ⟨#[]⟩,.string (bs s),.int .u64 0,.int .i64 0,.slice none 0 0] 31)=A;obtain⟨hb,hh⟩:=FM hA.symm;have x0:A.cell? ⟨w.heap.size,0,none⟩=some (.int .i64 3):=by rw[Lib.cell_of_heap hh];rfl
 have x1:A.cell? ⟨w.heap.size,1,none⟩=some (.string ⟨#[]⟩):=by rw[Lib.cell_of_heap hh];rfl
 have x2:A.cell? ⟨w.heap.size,2,none⟩=some (.string (bs s)):=by rw[Lib.cell_of_heap hh];rfl
 have x3:A.cell? ⟨w.heap.size,3,none⟩=some (.int .u64 0):=by rw[Lib.cell_of_heap hh];rfl
 have x4:A.cell? ⟨w.heap.size,4,none⟩=some (.int .i64 0):=by rw[Lib.cell_of_heap hh];rfl
 have x5:A.cell? ⟨w.heap.size,5,none⟩=some (.slice none 0 0):=by rw[Lib.cell_of_heap hh];rfl
 have BA:=lK hb;clear hA hb hh;have C76:=lK h76;clear h76
 all_goals
  go_wp2_with (first|(go_at_call 75;(with_reducible refine(U75.o _).mono ?_);rintro e w' ⟨rfl,rfl⟩)|(go_at_call 76;(with_reducible refine(C76.o _ BA.o).mono ?_)))
 all_goals
  rintro e W1 ⟨rfl,b1⟩;have BA:=lK (BA.o.trans (b1.mono BA.o.size));clear b1;go_wp2;refine lS (v:= .int .i64 0) ?_ rfl ⟨rfl,BA.o⟩;simp[results,results48]
theorem aS (n:Nat) (w:World) (h77:∀W:World,Below w.heap.size w W->Calls prog 77 #[.int .u64 n] W fun e w'=>e= .returned (.bool true)/\Below W.heap.size W w'):Calls prog 48 #[.agg #[.int .i64 4,.string ⟨#[]⟩,.string ⟨#[]⟩,.int .u64 n,.int .i64 0,.slice none 0 0]] w (Kz w):=by
 have U75:Hid (∀W,Calls prog 75 #[.string ⟨#[]⟩] W fun e w'=>e= .returned (.bool true)/\W=w'):=lK (fun W=>PN ⟨#[]⟩ W (by decide) J6);go_enter func48,ntmps48
 go_upto_region 1 with fail
 generalize hA:w.alloc (.cells #[.int .i64 4,.string ⟨#[]⟩,.string ⟨#[]⟩,.int .u64 n,.int .i64 0,.slice none 0 0] 31)=A;obtain⟨hb,hh⟩:=FM hA.symm;have x0:A.cell? ⟨w.heap.size,0,none⟩=some (.int .i64 4):=by rw[Lib.cell_of_heap hh];rfl
 have x1:A.cell? ⟨w.heap.size,1,none⟩=some (.string ⟨#[]⟩):=by rw[Lib.cell_of_heap hh];rfl
 have x2:A.cell? ⟨w.heap.size,2,none⟩=some (.string ⟨#[]⟩):=by rw[Lib.cell_of_heap hh];rfl
 have x3:A.cell? ⟨w.heap.size,3,none⟩=some (.int .u64 n):=by rw[Lib.cell_of_heap hh];rfl
 have x4:A.cell? ⟨w.heap.size,4,none⟩=some (.int .i64 0):=by rw[Lib.cell_of_heap hh];rfl
 have x5:A.cell? ⟨w.heap.size,5,none⟩=some (.slice none 0 0):=by rw[Lib.cell_of_heap hh];rfl
 have BA:=lK hb;clear hA hb hh;have C77:=lK h77;clear h77;have qU:((n:Int) !=0)=true\/((n:Int) !=0)=false:=by cases ((n:Int) !=0)<;>simp
 rcases qU with k1|k1
 all_goals
  go_wp2_with (first|(go_at_call 75;(with_reducible refine(U75.o _).mono ?_);rintro e w' ⟨rfl,rfl⟩)|(go_at_call 77;(with_reducible refine(C77.o _ BA.o).mono ?_)))
 all_goals
  rintro e W1 ⟨rfl,b1⟩;have BA:=lK (BA.o.trans (b1.mono BA.o.size));clear b1;go_wp2;refine lS (v:= .int .i64 0) ?_ rfl ⟨rfl,BA.o⟩;simp[results,results48]
end Go.Proofs
