import Derived.Test.YtpocgkiamgipdaaGreatDoorScK
import Derived.Test.YtpocgkiamgipdaaGreatDoorScE
set_option maxRecDepth 1000000
set_option maxHeartbeats 0
set_option linter.unusedVariables false
set_option linter.unusedSimpArgs false
open Go.Proofs.Tryz
namespace Go.Pz
open Go.Proofs Go.RowKit
def Py (O:Am) (x:Bs×DH):Am:=O.set (cls x.2.ty) x.1 (some x.2)
def N5 (l:Be):Be->Bool
 | []=>true
 |x::m=>(cls x.2.ty==1||cls x.2.ty==2||cls x.2.ty==3)&&(findD (cls x.2.ty) x.1 l).isNone&&N5 (l++ [x]) m
theorem QG (m:Be):∀(O:Am) (l:Be),Eb O l->N5 l m=true->Eb (m.foldl Py O) (l++m):=by
 induction m with
 |nil=>intro O l h _;rw[nj];exact h
 |cons x m ih=>
  intro O l h hf;unfold N5 at hf;simp only[mJ,Bool.or_eq_true,nH,Option.isNone_iff_eq_none]at hf;obtain⟨⟨hc,hn⟩,hf⟩:=hf;rw[List.foldl_cons,show l++x::m=(l++ [x])++m by simp];refine ih _ _ (Eb.Qc fun d hd y=> ?_) hf;unfold Py;rw[Nx O (by omega) hd,Ik,h.get hd y];by_cases hk:d=cls x.2.ty/\y=x.1
  ·rw[lQ hk,hk.1,hk.2,hn];simp[findD]
  ·rw[lL hk];have:findD d y [x]=none:=by
    unfold findD;rw[lL (fun a=>hk ⟨a.2.symm,a.1.symm⟩)];rfl
   rw[this];cases findD d y l<;>rfl
def fP (r:Int×Int×Bs):Be:=(Lib.fields r.2.2).map fun x=>(x,⟨r.2.1,r.1⟩)
def O6:Be:=F2.flatMap fP
theorem Ti (rs:List (Int×Int×Bs)):∀O:Am,rs.foldl GF O=(rs.flatMap fP).foldl Py O:=by
 induction rs with
 |nil=>intro O;rfl
 |cons r rs ih=>
  intro O;rw[List.foldl_cons,pK,List.foldl_append,ih];congr 1;unfold fP GF;rw[List.foldl_map];rfl
theorem QQ:Eb Am.none []:=⟨fun _=>rfl,fun _=>rfl,fun _=>rfl⟩
theorem Ow:N5 [] O6=true:=by kernel_rfl
theorem O9:Eb Jn O6:=by
 have h:=QG O6 Am.none [] QQ Ow;rw[List.nil_append]at h;unfold Jn;rw[Ti];exact h
def hasB (l m:Be):Bool:=l.all fun x=>match findD (cls x.2.ty) x.1 m with
 |some o=>o.ty==x.2.ty&&o.pr==x.2.pr
 |none=>false
theorem MC {l m:Be}(h:hasB l m=true){c:Nat} {nm:Bs} {o:DH}(hf:findD c nm l=some o):(∃o',findD c nm m=some o')/\(nm,o)∈l/\cls o.ty=c:=by
 have key:∀l:Be,findD c nm l=some o->(nm,o)∈l/\cls o.ty=c:=by
  intro l
  induction l with
  |nil=>intro h;cases h
  |cons x l ih=>
   intro h;unfold findD at h;split at h
   ·rename_i h1;cases h;exact⟨by rw[<-h1.1];exact List.mem_cons_self,h1.2⟩
   ·exact⟨List.mem_cons_of_mem _ (ih h).1,(ih h).2⟩
 obtain⟨h1,h2⟩:=key l hf;have h3:=nS.1 h _ h1;dsimp only at h3;rw[h2]at h3;refine⟨?_,h1,h2⟩;cases e:findD c nm m with
 |none=>rw[e]at h3;cases h3
 |some o'=>exact⟨o',rfl⟩
theorem Lk {l m:Be}(h1:hasB l m=true) (h2:hasB m l=true) (c:Nat) (nm:Bs):findD c nm l=findD c nm m:=by
 cases e:findD c nm l with
 |some o=>
  obtain⟨⟨o',e'⟩,hm,hc⟩:=MC h1 e;have h3:=nS.1 h1 _ hm;dsimp only at h3;rw[hc,e']at h3;simp only[mJ,nH]at h3;rw[e'];cases o;cases o';simp only at h3;rw[h3.1,h3.2]
 |none=>
  cases e':findD c nm m with
  |none=>rfl
  |some o'=>
   obtain⟨⟨o,e2⟩,_,_⟩:=MC h2 e';rw[e]at e2;cases e2
theorem Qt:hasB O6 Nn=true:=by kernel_rfl
theorem Qy:hasB Nn O6=true:=by kernel_rfl
theorem Ge:Eb Jn Nn:=by
 have h:=O9;exact⟨fun nm=>(h.pre nm).trans (Lk Qt Qy 1 nm),fun nm=>(h.inf nm).trans (Lk Qt Qy 2 nm),fun nm=>(h.post nm).trans (Lk Qt Qy 3 nm)⟩
def Nl (O:Am):Prop:=∀nm p,O.pre nm=some p\/O.inf nm=some p\/O.post nm=some p->1<=p.pr/\p.pr<=1200
theorem Xf {c:Nat} {nm:Bs} {o:DH} :∀{l:Be},findD c nm l=some o->(nm,o)∈l:=by
 intro l
 induction l with
 |nil=>intro h;cases h
 |cons x l ih=>
  intro h;unfold findD at h;split at h
  ·rename_i h1;cases h;rw[<-h1.1];exact List.mem_cons_self
  ·exact List.mem_cons_of_mem _ (ih h)
theorem aW:(Nn.all fun x=>decide (1<=x.2.pr)&&decide (x.2.pr<=1200))=true:=by kernel_rfl
theorem Xg:Nl Jn:=by
 intro nm p h;rw[Ge.pre,Ge.inf,Ge.post]at h;have hm:(nm,p)∈Nn:=by rcases h with h|h|h<;>exact Xf h
 have h1:=nS.1 aW _ hm;simpa using h1
theorem U8 {f:Bs->Option DH} {nm x:Bs} {v:Option DH} {p:DH}(h:put f nm v x=some p):v=some p\/f x=some p:=by
 unfold put at h;split at h
 ·exact .inl h
 ·exact .inr h
theorem gI {O:Am}(h:Nl O){c:Nat} {nm:Bs} {v:Option DH}(hv:∀p,v=some p->1<=p.pr/\p.pr<=1200):Nl (O.set c nm v):=by
 intro x p hp;unfold Am.set at hp
 repeat' split at hp
 all_goals
  dsimp only at hp;rcases hp with hp|hp|hp
  all_goals first
   |exact h x p (.inl hp)
   |exact h x p (.inr (.inl hp))
   |exact h x p (.inr (.inr hp))
   | (rcases U8 hp with h1|h1;exact hv p h1;first|exact h x p (.inl h1)|exact h x p (.inr (.inl h1))|exact h x p (.inr (.inr h1)))
theorem dW {O:Am}(h:Nl O) (p kind:Int) (nm:Bs):Nl (EK O p kind nm).2:=by
 unfold EK;dsimp only;by_cases h1:p<0\/1200<p
 ·rw[lQ h1];exact h
 rw[lL h1]
 repeat' split
 all_goals first
  |exact h
  | (refine gI h (fun q hq=> ?_);cases hq<;>(dsimp only;omega))
end Go.Pz
namespace Go.Pz
theorem Vf (l:Be) (p k:Int) (nm:Bs):(EU l p k nm).2.length<=l.length+1:=by
 unfold EU;dsimp only
 repeat' split
 all_goals first
  |exact mO _
  | (rw[l6];have:(A7 (cls k) nm l).length<=l.length:=List.length_filter_le _ _;try simp only[nF,pf];omega)
theorem Wu:Go.Proofs.Nn.length<=1000:=by
 have h:decide (Go.Proofs.Nn.length<=1000)=true:=by kernel_rfl
 exact lh h
end Go.Pz
namespace Go.Proofs
open Go.RowKit Go.Hb Go.Pz Go.Maps
theorem Z3 (vs:Array Value) (w:World):(callFunc 18 vs).run prog w= .ok (.enter 18 vs) w:=by kernel_rfl
theorem ZZ (vs:Array Value) (w:World):(callFunc 19 vs).run prog w= .ok (.enter 19 vs) w:=by kernel_rfl
structure Lg (w:World) (g o:Nat) (xs:Be):Prop where
 cell:∀(i:Nat) (x:Bs×DH),xs[i]? =some x->∀(j:Nat) (v:Value),(D9 x)[j]? =some v->w.cell? ⟨g,o+i*3+j,none⟩=some v
 name:∀(i:Nat) (x:Bs×DH),xs[i]? =some x->x.1.length<=1000000000
 lt:xs≠ []->g<w.heap.size
structure cx (w W:World) (Q db:Nat) (lv:Value) (N:Nat) (O:Am) (l:Be):Prop where
 Fm:EF W w.heap.size w.heap.size (w.heap.size+1) (w.heap.size+2) (w.heap.size+3) N O
 doc:EH W Q db lv l
 kZ:Eb O l
 pr:Nl O
 len:l.length<=N
 Ac:Below w.heap.size w W
 hQ:w.heap.size+4<=Q
 kn:Q<=W.heap.size
theorem cx.below {w W W':World} {Q db:Nat} {lv:Value} {N:Nat} {O:Am} {l:Be}(h:cx w W Q db lv N O l) (hb:Below W.heap.size W W'):cx w W' Q db lv N O l:=
 ⟨h.Fm.below hb,h.doc.below hb,h.kZ,h.pr,h.len,h.Ac.trans (hb.mono h.Ac.size),h.hQ,lg h.kn hb.size⟩
def I5 (w:World) (e:Ending) (w':World):Prop:=∃Q db lv N O l,e= .returned (.tuple #[.pointer (some ⟨w.heap.size,0,none⟩),.pointer (some ⟨db,0,none⟩),.bool true])/\cx w w' Q db lv N O l
theorem Zl (w:World) (la:Option Addr) (lc g o:Nat) (xs:Be) (vU:xs≠ []->la=some ⟨g,o,none⟩) (hx:Lg w g o xs) (uT:xs.length<=10000000)
  (hF:∀(W:World) (nm:Bs),Below w.heap.size w W->nm.length<=1000->(∀b∈nm,b.toNat<128)->Calls prog 31 #[.string (bs nm)] W fun e w'=>e= .returned (.slice (some ⟨W.heap.size,0,none⟩) (Lib.fields nm).length (Lib.fields nm).length)/\w'=W.alloc (.cells ((Lib.fields nm).map fun l=>Value.string (bs l)).toArray 9)):
  Calls prog 6 #[.slice la xs.length lc] w (I5 w):=by
 have C13:=lK (ca w hF);have HX:=lK hx;have HLA:=lK vU;obtain⟨n,hn⟩:∃n,n=xs.length:=⟨_,rfl⟩;rw[<-hn]at uT⊢;have HN:=lK hn;have hni:(n:Int)<=10000000:=by omega
 clear hF hx vU hn;unfold I5;go_enter func6,ntmps6
 go_wp2_with (go_at_call 13;(with_reducible refine C13.o.mono ?_);rintro e W1 ⟨rfl,sE,ql⟩)
 have C17:=lK (jC W1);have zX:=lK sE;have vE:=lK ql;clear sE ql C13
 go_wp2_with (go_at_call 17;(with_reducible refine C17.o.mono ?_);rintro e W2 ⟨rfl,lv,xh⟩)
 obtain⟨Q,hQ⟩:∃Q,Q=W1.heap.size:=⟨_,rfl⟩;obtain⟨db,uy⟩:∃db,db=W1.heap.size+1+1+1:=⟨_,rfl⟩;have HI:Hid (cx w W2 Q db lv 1000 Jn Nn):=lK (by
  have hl:=zX.o.at.ja;refine⟨zX.o.below (xh.Ac.mono (lM _)),⟨by omega,by rw[uy];exact xh.h,Iq (by omega) xh.own,fun e=>by have:=(xh.own.lt _ e).1;omega⟩,Ge,Xg,Wu,vE.o.trans (xh.Ac.mono vE.o.size),by omega,by rw[hQ];exact xh.Ac.size⟩)
 rw[<-uy];clear xh C17 zX vE hQ uy
 go_loopw [7] (fun v wr=>∃(i:Nat) (lv:Value) (O:Am) (l:Be),v= .int .i64 i/\Hid (i<=n/\cx w wr Q db lv (1000+i) O l)) (fun v _=>n-(intOf v).toNat)
 case atStart=>exact⟨0,_,_,_,rfl,lK ⟨mK _,HI.o⟩⟩
 case round=>
  obtain⟨i,lv,O,l,rfl,hq⟩:=hrel;obtain⟨wr2,yF⟩:∃W,W=wr:=⟨_,rfl⟩;subst yF;have zA:=hq.o.1;have HW:=lK hq.o.2;clear hq HI;by_cases qE:i<n
  ·have hli:(i:Int)<n:=by omega
   obtain⟨x,hx⟩:∃x,xs[i]? =some x:=⟨_,lu (by have:=HN.o;omega)⟩;have qP:xs≠ []:=fun e=>by rw[e]at hx;cases hx
   have HG:=lK (HX.o.lt qP);have vU:=HLA.o qP;subst vU;have zt:=lK (HX.o.name i x hx);have HC:Hid (∀W:World,W.heap[g]? =w.heap[g]? ->W.cell? ⟨g,o+i*3,none⟩=some (.string (bs x.1))/\W.cell? ⟨g,o+i*3+1,none⟩=some (.int .i64 x.2.ty)/\W.cell? ⟨g,o+i*3+2,none⟩=some (.int .i64 x.2.pr)):=lK (fun W h=>
    ⟨(AO h _).trans (HX.o.cell i x hx 0 _ rfl),(AO h _).trans (HX.o.cell i x hx 1 _ rfl),(AO h _).trans (HX.o.cell i x hx 2 _ rfl)⟩)
   have ID:Hid (cx w wr2.drew Q db lv (1000+i) O l):=lK (HW.o.below (Ad (Below.refl _ _)));have HAA:=lK (Ur HW.o.kZ x.2.pr x.2.ty x.1);obtain⟨cd,uh⟩:∃cd,cd=(EK O x.2.pr x.2.ty x.1).1:=⟨_,rfl⟩;have xE:Hid ((EK O x.2.pr x.2.ty x.1).1=cd/\(EU l x.2.pr x.2.ty x.1).1=cd):=lK ⟨uh.symm,by rw[uh];exact HAA.o.1.symm⟩;have C18:Hid (Calls prog 18 #[.pointer (some ⟨w.heap.size,0,none⟩),.int .i64 x.2.pr,.int .i64 x.2.ty,.string (bs x.1)] wr2.drew fun e w'=>e= .returned (.int .i64 cd)/\EF w' w.heap.size w.heap.size (w.heap.size+1) (w.heap.size+2) (w.heap.size+3) (1000+(i+1)) (EK O x.2.pr x.2.ty x.1).2/\Kept (fun b=>b=w.heap.size+1\/b=w.heap.size+2\/b=w.heap.size+3) wr2.drew w'/\wr2.drew.heap.size<=w'.heap.size):=lK (by
    have h:=iz ID.o.Fm (by omega) (by exact ID.o.Ac.size) x.2.pr x.2.ty x.1 zt.o;unfold QI at h;rw[xE.o.1]at h;exact h)
   have C19:Hid (∀W:World,EH W Q db lv l->Q<=W.heap.size->Calls prog 19 #[.pointer (some ⟨db,0,none⟩),.int .i64 x.2.pr,.int .i64 x.2.ty,.string (bs x.1)] W fun e w'=>e= .returned (.int .i64 cd)/\(∃lv,EH w' Q db lv (EU l x.2.pr x.2.ty x.1).2)/\Below Q W w'/\W.heap.size<=w'.heap.size):=lK (fun W hd hQ=>by
    have h:=jR hd (by have:=HW.o.len;omega) hQ x.2.pr x.2.ty x.1 zt.o;unfold Mq at h;rw[xE.o.2]at h;exact h)
   clear uh hx qP
   go_upto_region 6 with fail
   have HS0:Hid (wr2.drew.heap[g]? =w.heap[g]?):=lK (ID.o.Ac.block g HG.o);refine wp_region_held_drew (S:=fun W=>W.heap[g]? =w.heap[g]?) (by kernel_rfl) HS0.o (fun hS=> ?_);refine tk 0 (.pointer (some ⟨w.heap.size,0,none⟩)) rfl hS ?_;refine tk 1 (.slice (some ⟨g,o,none⟩) n lc) rfl hS ?_;refine tk 2 (.int .i64 i) rfl hS ?_;refine tk 3 (.pointer (some ⟨g,o+i*3,none⟩)) rfl hS ?_;refine tk 4 (.pointer (some ⟨g,o+i*3+2,none⟩)) rfl hS ?_;refine DQ 5 (.int .i64 x.2.pr) rfl hS (fun W hSW=> ?_) ?_
   ·have e1:=(HC.o W hSW).2.2;go_simp
   refine tk 6 (.slice (some ⟨g,o,none⟩) n lc) rfl hS ?_;refine tk 7 (.int .i64 i) rfl hS ?_;refine tk 8 (.pointer (some ⟨g,o+i*3,none⟩)) rfl hS ?_;refine tk 9 (.pointer (some ⟨g,o+i*3+1,none⟩)) rfl hS ?_;refine DQ 10 (.int .i64 x.2.ty) rfl hS (fun W hSW=> ?_) ?_
   ·have e1:=(HC.o W hSW).2.1;go_simp
   refine tk 11 (.slice (some ⟨g,o,none⟩) n lc) rfl hS ?_;refine tk 12 (.int .i64 i) rfl hS ?_;refine tk 13 (.pointer (some ⟨g,o+i*3,none⟩)) rfl hS ?_;refine tk 14 (.pointer (some ⟨g,o+i*3,none⟩)) rfl hS ?_;refine DQ 15 (.string (bs x.1)) rfl hS (fun W hSW=> ?_) ?_
   ·have e1:=(HC.o W hSW).1;go_simp
   refine tk 17 (.pointer (some ⟨db,0,none⟩)) rfl hS ?_;refine tk 18 (.slice (some ⟨g,o,none⟩) n lc) rfl hS ?_;refine tk 19 (.int .i64 i) rfl hS ?_;refine tk 20 (.pointer (some ⟨g,o+i*3,none⟩)) rfl hS ?_;refine tk 21 (.pointer (some ⟨g,o+i*3+2,none⟩)) rfl hS ?_;refine DQ 22 (.int .i64 x.2.pr) rfl hS (fun W hSW=> ?_) ?_
   ·have e1:=(HC.o W hSW).2.2;go_simp
   refine tk 23 (.slice (some ⟨g,o,none⟩) n lc) rfl hS ?_;refine tk 24 (.int .i64 i) rfl hS ?_;refine tk 25 (.pointer (some ⟨g,o+i*3,none⟩)) rfl hS ?_;refine tk 26 (.pointer (some ⟨g,o+i*3+1,none⟩)) rfl hS ?_;refine DQ 27 (.int .i64 x.2.ty) rfl hS (fun W hSW=> ?_) ?_
   ·have e1:=(HC.o W hSW).2.1;go_simp
   refine tk 28 (.slice (some ⟨g,o,none⟩) n lc) rfl hS ?_;refine tk 29 (.int .i64 i) rfl hS ?_;refine tk 30 (.pointer (some ⟨g,o+i*3,none⟩)) rfl hS ?_;refine tk 31 (.pointer (some ⟨g,o+i*3,none⟩)) rfl hS ?_;refine DQ 32 (.string (bs x.1)) rfl hS (fun W hSW=> ?_) ?_
   ·have e1:=(HC.o W hSW).1;go_simp
   try simp only[uu,Act.put]
   refine DD 16 rfl (fun K hK=> ?_);refine As (by rfl) 18 [.tmp 20,.tmp 25,.tmp 30,.tmp 35] #[24,3,3,9] (by rfl) #[.pointer (some ⟨w.heap.size,0,none⟩),.int .i64 x.2.pr,.int .i64 x.2.ty,.string (bs x.1)] (by kernel_rfl) Z3 (C18.o.mono ?_);rintro e' W6 ⟨rfl,hT6,hK6,hs6⟩;refine⟨_,rfl,?_⟩;have D6:Hid (EH W6 Q db lv l):=lK (ID.o.doc.same fun b hb=>hK6.block b (by rcases hb with rfl|hb;exact ID.o.doc.lt;exact(ID.o.doc.own.lt b hb).2) (by have h1:=ID.o.doc.hB;have h2:=ID.o.hQ;rcases hb with rfl|hb;omega;have:=(ID.o.doc.own.lt b hb).1;omega));have B6:Hid (Below w.heap.size w W6):=lK (ID.o.Ac.trans (hK6.below ID.o.Ac.size (fun b hb=>by omega)));have Q6:Hid (Q<=W6.heap.size):=lK (lg ID.o.kn hs6);have T6:=lK hT6;clear hT6 hK6 hs6;refine hK.o _ _ (B6.o.block g HG.o) (fun hS=> ?_)
   try simp only[uu,Act.put]
   refine DD 33 rfl (fun K hK=> ?_);refine As (by rfl) 19 [.tmp 37,.tmp 42,.tmp 47,.tmp 52] #[25,3,3,9] (by rfl) #[.pointer (some ⟨db,0,none⟩),.int .i64 x.2.pr,.int .i64 x.2.ty,.string (bs x.1)] (by kernel_rfl) ZZ ((C19.o W6 D6.o Q6.o).mono ?_);rintro e' W7 ⟨rfl,⟨lv7,hD7⟩,hB7,hs7⟩;refine⟨_,rfl,?_⟩;have HW7:Hid (cx w W7 Q db lv7 (1000+(i+1)) (EK O x.2.pr x.2.ty x.1).2 (EU l x.2.pr x.2.ty x.1).2):=lK (by
    have hq:=ID.o.hQ;refine⟨T6.o.same fun b hb=>hB7.block b (by omega),hD7,HAA.o.2,dW HW.o.pr _ _ _,by have:=Vf l x.2.pr x.2.ty x.1;have:=HW.o.len;omega,B6.o.trans (hB7.mono (by omega)),hq,lg Q6.o hs7⟩)
   clear hD7 hB7 hs7;refine hK.o _ _ (HW7.o.Ac.block g HG.o) (fun hS=> ?_);refine tk 34 (.bool false) rfl hS ?_
   try simp only[uu,Act.put]
   refine wpAnyH_done (by kernel_rfl) ?_ _;go_wp2;go_roundw
   case rel=>exact⟨i+1,lv7,_,_,by go_num,lK ⟨by omega,HW7.o⟩⟩
   case measure=>simp[intOf];omega
  ·go_wp2;go_ret3;exact⟨_,_,_,_,_,_,rfl,HW.o⟩
end Go.Proofs
namespace Go.Proofs
open Go.Shelf
def Ox:Go.Shelf.Ren:=⟨fun|157=>31|229=>49|199=>50|261=>78|311=>105|312=>106|n=>n,fun|9=>9|31=>33|3=>3|5=>5|4=>4|119=>110|0=>0|40=>112|152=>130|21=>21|154=>132|51=>133|141=>135|196=>168|193=>165|198=>171|49=>169|194=>166|201=>174|226=>201|46=>164|227=>202|n=>n,fun|0=>0|6=>1|n=>n⟩
theorem cK:Go.Proofs.Lays.n157 prog Ox:= {
 mixed:=by kernel_rfl
 f157:=Tryz.func31.trans (mQ some (by kernel_rfl))
 f199:=Tryz.func50.trans (mQ some (by kernel_rfl))
 f229:=Tryz.func49.trans (mQ some (by kernel_rfl))
 f261:=Tryz.func78.trans (mQ some (by kernel_rfl))
 f311:=Tryz.func105.trans (mQ some (by kernel_rfl))
 f312:=Tryz.func106.trans (mQ some (by kernel_rfl))
 t0:=underlying0
 a0:=isAgg0
 z0:=sizeOf0
 v0:=zeroValue0
 t3:=nU
 a3:=isAgg3
 z3:=sizeOf3
 v3:=pC
 t4:=oF
 a4:=isAgg4
 z4:=pT
 v4:=od
 t5:=nV
 a5:=isAgg5
 z5:=sizeOf5
 v5:=pD
 t9:=mS
 a9:=isAgg9
 z9:=sizeOf9
 v9:=pO
 t21:=underlying21
 a21:=isAgg21
 z21:=sizeOf21
 v21:=zeroValue21
 t31:=underlying33
 a31:=isAgg33
 z31:=sizeOf33
 v31:=zeroValue33
 t40:=underlying112
 a40:=isAgg112
 z40:=sizeOf112
 v40:=zeroValue112
 t46:=oO
 a46:=isAgg164
 z46:=sizeOf164
 v46:=pL
 t49:=underlying169
 a49:=isAgg169
 z49:=sizeOf169
 v49:=zeroValue169
 t51:=underlying133
 a51:=isAgg133
 z51:=sizeOf133
 v51:=zeroValue133
 t119:=underlying110
 a119:=isAgg110
 z119:=sizeOf110
 t141:=underlying135
 a141:=isAgg135
 z141:=sizeOf135
 v141:=zeroValue135
 t152:=underlying130
 a152:=isAgg130
 z152:=sizeOf130
 v152:=zeroValue130
 t154:=underlying132
 a154:=isAgg132
 z154:=sizeOf132
 v154:=zeroValue132
 t193:=underlying165
 a193:=isAgg165
 z193:=sizeOf165
 v193:=zeroValue165
 t194:=underlying166
 a194:=isAgg166
 z194:=sizeOf166
 v194:=zeroValue166
 t196:=underlying168
 a196:=isAgg168
 z196:=sizeOf168
 v196:=zeroValue168
 t198:=underlying171
 a198:=isAgg171
 z198:=sizeOf171
 v198:=zeroValue171
 t201:=underlying174
 a201:=isAgg174
 z201:=sizeOf174
 v201:=zeroValue174
 t226:=underlying201
 a226:=isAgg201
 z226:=sizeOf201
 v226:=zeroValue201
 t227:=underlying202
 a227:=isAgg202
 z227:=sizeOf202
 v227:=zeroValue202
 g0:=by kernel_rfl
 g6:=by kernel_rfl}
end Go.Proofs
namespace Go.Proofs
open Go.RowKit Go.Hb Go.Pz Go.Lx Go.Proofs.YtpocgkiamgipdaaGreatDoor
theorem XZ:Rows.parserSoundRow.laid[13]? =some ("strings.asciiSpace",Lib.tabData .u8 Lib.asciiSpaceTab):=by kernel_rfl
theorem DK.hJ {W:World}(h:DK W) (c:Nat) (hcl:c<256):W.cell? ⟨0,c,none⟩=some (.int .u8 (if Lib.isSp (UInt8.ofNat c)then 1 else 0)):=by
 obtain⟨W0,h1,h2,h3⟩:=h;obtain⟨cs,fuel,p,hc,hd⟩:=FJ h1 XZ (g:=0) (t:=110) (by kernel_rfl);have e:=Lib.cells_of_tab underlying110 nV (by kernel_rfl) (by kernel_rfl) hd;have hl:c<Lib.asciiSpaceTab.length:=by rw[Lib.asciiSpaceTab_length];exact hcl
 have h4:W0.cell? ⟨0,c,none⟩=some (.int .u8 (if Lib.isSp (UInt8.ofNat c)then 1 else 0)):=by
  rw[hc c,<-mV,e,mj,lu hl,Option.map_some,<-Lib.asciiSpaceTab_at c hcl,lZ,lu hl];rfl
 have lt:0<W0.heap.size:=by
  rcases mh W0.heap.size with h0|h0
  ·exfalso;unfold World.cell? at h4;rw[oS (by show _<=0;omega)]at h4;cases h4
  ·exact h0
 exact(h3.cell (p:=⟨0,c,none⟩) lt).trans h4
theorem MG {w:World}(h:DK w):∀(W:World) (nm:Bs),Below w.heap.size w W->nm.length<=1000->(∀b∈nm,b.toNat<128)->Calls prog 31 #[.string (bs nm)] W fun e w'=>e= .returned (.slice (some ⟨W.heap.size,0,none⟩) (Lib.fields nm).length (Lib.fields nm).length)/\w'=W.alloc (.cells ((Lib.fields nm).map fun l=>Value.string (bs l)).toArray 9):=fun W nm hb hl ha=>
 Any.strings_Fields_core cK (by kernel_rfl) (bs nm) W (by show nm.length<_;omega) (fun j b hj=>ha b (mP hj)) (fun c hc=>(h.below hb).hJ c hc)
end Go.Proofs
namespace Go.Proofs
open Go.RowKit Go.Bg Go.Hb Go.Lx Go.Rb Go.Pf Go.Pz Go.Ps
theorem U7 {w:World} {s:ByteArray}(hs:s.size<=20000000) (hL:DK w){ob m0 m1 m2:Nat} {O:Am}(hT:Dh w ob m0 m1 m2 O) (hp:Nl O):Mp w s (.pointer (some ⟨ob,0,none⟩)) O F3 ME where
 laid:=hL.zero
 next:=fun W p K E hb hq hlay=>jS s p K E W (by omega) hq (lK hlay) (lK (hL.below hb))
 pre:=fun W nm hl hb=>Ww (hT.below hb) nm hl
 inf:=fun W nm hl hb=>Yj (hT.below hb) nm hl
 post:=fun W nm hl hb=>Tz (hT.below hb) nm hl
 pr:=hp
 F7:=fun W c S t hb hg hS h=>fe hg (hL.zero.below hb) hS h
theorem Xu {w:World} {s:ByteArray} {at_:Nat} {q:Int} {ob m0 m1 m2:Nat} {O:Am} {L:List Tk} {fin:Option (Nat×Nat)}(hs:s.size<=20000000) (qh:at_<=s.size) (hq: -9223372036854775808<=q/\q<=9223372036854775807) (hM:DK w) (hT:Dh w ob m0 m1 m2 O) (hp:Nl O) (hL:Ct s at_ L fin):
  Calls prog 7 #[.string s,.int .i64 at_,.pointer (some ⟨ob,0,none⟩),.agg #[.int .i64 q]] w (Ce s w (Sw O q F3 at_ L fin)):=
 jH hs qh hq (U7 hs hM hT hp) hL (fun n st most t p s' h=>LI hs qh hL n st most t p s' h)
end Go.Proofs
namespace Go.Pz
open Go.Proofs Go.RowKit Go.Bg Go.Hb Go.Lx Go.Rb Go.Pf Go.Ps
theorem On (l:List Tm) (e:Tm) (out:List Nat) (h:∀x∈l,∀o,vars x o=o) (he:∀o,vars e o=o):vars (Cd l e) out=out:=by
 induction l with
 |nil=>exact he out
 |cons a l ih=>
  simp only[Cd,List.foldr_cons,vars,Ck];rw[h a List.mem_cons_self];exact ih (fun x hx=>h x (List.mem_cons_of_mem _ hx))
theorem Vn (s:Bs) (q:Int) (out:List Nat):vars (CZ s q) out=out:=by
 unfold CZ;split
 ·simp only[vars]
 ·refine On _ _ _ (fun x hx o=> ?_) (fun o=>by simp only[vars]);obtain⟨c,hc,rfl⟩:=List.mem_map.1 hx;unfold GP;split<;>simp only[vars]
theorem YZ:RS.zero.Ok:=⟨fun x hx=>(by cases hx),fun x hx=>(by cases hx),List.nodup_nil,List.Pairwise.nil,rfl⟩
structure JS (s:ByteArray) (t:Tm) (st:RS) (n:Nat):Prop where
 Kf:ME t
 F7:F3 t=0
 vars:vars t []=List.range st.vars
 ok:st.Ok
 le:n<=s.size
 pos:1<=n
 dot:AI s (n-1)=46
theorem dH {s:ByteArray} {at_:Nat} {q:Int} {O:Am} {L:List Tk} {fin:Option (Nat×Nat)} {t:Tm} {st:RS} {n:Nat}(hs:s.size<=20000000) (qh:at_<=s.size) (hL:Ct s at_ L fin) (h:Sw O q F3 at_ L fin= .ok t st n):JS s t st n:=by
 cases fin with
 |some x=>cases h
 |none=>
  unfold Sw at h;dsimp only at h;split at h
  ·cases h
  ·cases hr:Ay L O q CZ (4*L.length+3) RS.zero 1200 with
   |stop wd a=>rw[hr]at h;cases h
   |ok x=>
    obtain⟨t',p',st'⟩:=x;rw[hr]at h;unfold cH at h;dsimp only at h;split at h
    ·rename_i h9;split at h
     ·rename_i h0;injection h with e1 e2 e3
      subst e1 e2 e3;have hg:=(reads (ts:=L) (O:=O) (quotes:=q) (tx:=CZ) Vn _).1 _ _ _ _ _ YZ hr;have hm:now L st'∈L:=by
       unfold now at h9⊢;rw[lZ]at h9⊢;cases e:L[st'.k]?with
       |none=>rw[e]at h9;cases h9
       |some y=>exact mP e
      have hk:=hL.Kf qh _ hm;have hf:=hk.fin h9;refine⟨LI hs qh hL _ _ _ _ _ _ hr,h0,hg.eq,hg.ok,hk.le,by omega,?_⟩;rw[hf.1,nx];exact hf.2
     ·cases h
    ·cases h
theorem Ni {s:ByteArray} {p:Nat} {r:Int}(h:p<s.size) (h1:AI s p<128) (h2:Bc s (p+1) r):Bc s p r:= .step (m:=1) (Jx h h1) h2
def tA:ByteArray:=bs [88,32,61,32,102,40,89,44,32,95,44,32,88,41,46]
def kA:List Tk:= [F6 3 (bs [88]) ⟨#[]⟩ 0 0 1 (decide (0<0)),F6 1 (bs [61]) ⟨#[]⟩ 0 2 3 (decide (1<2)),F6 1 (bs [102]) ⟨#[]⟩ 0 4 5 (decide (3<4)),F6 8 (bs [40]) ⟨#[]⟩ 0 5 6 (decide (5<5)),F6 3 (bs [89]) ⟨#[]⟩ 0 6 7 (decide (6<6)),F6 8 (bs [44]) ⟨#[]⟩ 0 7 8 (decide (7<7)),F6 3 (bs [95]) ⟨#[]⟩ 0 9 10 (decide (8<9)),F6 8 (bs [44]) ⟨#[]⟩ 0 10 11 (decide (10<10)),F6 3 (bs [88]) ⟨#[]⟩ 0 12 13 (decide (11<12)),F6 8 (bs [41]) ⟨#[]⟩ 0 13 14 (decide (13<13)),F6 9 ⟨#[]⟩ ⟨#[]⟩ 0 14 15 (decide (14<14))]
theorem aq:Ct tA 0 kA none:=(.next (K:=0) (E:=0) (k:=3) (bits:=0) (a:=0) (en:=1) (tx:=(bs [88])) (nu:=⟨#[]⟩) (.stop (lh (by kernel_rfl)) (by kernel_rfl)) (by kernel_rfl) (by decide) (by decide) (.next (K:=2) (E:=0) (k:=1) (bits:=0) (a:=2) (en:=3) (tx:=(bs [61])) (nu:=⟨#[]⟩) (.step (t:=2) (lh (by kernel_rfl)) (by kernel_rfl) (Ni (lh (by kernel_rfl)) (lh (by kernel_rfl)) (.done (lh (by kernel_rfl)))) (.stop (lh (by kernel_rfl)) (by kernel_rfl))) (by kernel_rfl) (by decide) (by decide) (.next (K:=4) (E:=0) (k:=1) (bits:=0) (a:=4) (en:=5) (tx:=(bs [102])) (nu:=⟨#[]⟩) (.step (t:=4) (lh (by kernel_rfl)) (by kernel_rfl) (Ni (lh (by kernel_rfl)) (lh (by kernel_rfl)) (.done (lh (by kernel_rfl)))) (.stop (lh (by kernel_rfl)) (by kernel_rfl))) (by kernel_rfl) (by decide) (by decide) (.next (K:=5) (E:=0) (k:=8) (bits:=0) (a:=5) (en:=6) (tx:=(bs [40])) (nu:=⟨#[]⟩) (.stop (lh (by kernel_rfl)) (by kernel_rfl)) (by kernel_rfl) (by decide) (by decide) (.next (K:=6) (E:=0) (k:=3) (bits:=0) (a:=6) (en:=7) (tx:=(bs [89])) (nu:=⟨#[]⟩) (.stop (lh (by kernel_rfl)) (by kernel_rfl)) (by kernel_rfl) (by decide) (by decide) (.next (K:=7) (E:=0) (k:=8) (bits:=0) (a:=7) (en:=8) (tx:=(bs [44])) (nu:=⟨#[]⟩) (.stop (lh (by kernel_rfl)) (by kernel_rfl)) (by kernel_rfl) (by decide) (by decide) (.next (K:=9) (E:=0) (k:=3) (bits:=0) (a:=9) (en:=10) (tx:=(bs [95])) (nu:=⟨#[]⟩) (.step (t:=9) (lh (by kernel_rfl)) (by kernel_rfl) (Ni (lh (by kernel_rfl)) (lh (by kernel_rfl)) (.done (lh (by kernel_rfl)))) (.stop (lh (by kernel_rfl)) (by kernel_rfl))) (by kernel_rfl) (by decide) (by decide) (.next (K:=10) (E:=0) (k:=8) (bits:=0) (a:=10) (en:=11) (tx:=(bs [44])) (nu:=⟨#[]⟩) (.stop (lh (by kernel_rfl)) (by kernel_rfl)) (by kernel_rfl) (by decide) (by decide) (.next (K:=12) (E:=0) (k:=3) (bits:=0) (a:=12) (en:=13) (tx:=(bs [88])) (nu:=⟨#[]⟩) (.step (t:=12) (lh (by kernel_rfl)) (by kernel_rfl) (Ni (lh (by kernel_rfl)) (lh (by kernel_rfl)) (.done (lh (by kernel_rfl)))) (.stop (lh (by kernel_rfl)) (by kernel_rfl))) (by kernel_rfl) (by decide) (by decide) (.next (K:=13) (E:=0) (k:=8) (bits:=0) (a:=13) (en:=14) (tx:=(bs [41])) (nu:=⟨#[]⟩) (.stop (lh (by kernel_rfl)) (by kernel_rfl)) (by kernel_rfl) (by decide) (by decide) (.last (K:=14) (E:=0) (k:=9) (bits:=0) (a:=14) (en:=15) (tx:=⟨#[]⟩) (nu:=⟨#[]⟩) (.stop (lh (by kernel_rfl)) (by kernel_rfl)) (by kernel_rfl) (Or.inl rfl))))))))))))
def tB:ByteArray:=bs [97,32,98,46]
def kO:List Tk:= [F6 1 (bs [97]) ⟨#[]⟩ 0 0 1 (decide (0<0)),F6 1 (bs [98]) ⟨#[]⟩ 0 2 3 (decide (1<2)),F6 9 ⟨#[]⟩ ⟨#[]⟩ 0 3 4 (decide (3<3))]
theorem ZD:Ct tB 0 kO none:=(.next (K:=0) (E:=0) (k:=1) (bits:=0) (a:=0) (en:=1) (tx:=(bs [97])) (nu:=⟨#[]⟩) (.stop (lh (by kernel_rfl)) (by kernel_rfl)) (by kernel_rfl) (by decide) (by decide) (.next (K:=2) (E:=0) (k:=1) (bits:=0) (a:=2) (en:=3) (tx:=(bs [98])) (nu:=⟨#[]⟩) (.step (t:=2) (lh (by kernel_rfl)) (by kernel_rfl) (Ni (lh (by kernel_rfl)) (lh (by kernel_rfl)) (.done (lh (by kernel_rfl)))) (.stop (lh (by kernel_rfl)) (by kernel_rfl))) (by kernel_rfl) (by decide) (by decide) (.last (K:=3) (E:=0) (k:=9) (bits:=0) (a:=3) (en:=4) (tx:=⟨#[]⟩) (nu:=⟨#[]⟩) (.stop (lh (by kernel_rfl)) (by kernel_rfl)) (by kernel_rfl) (Or.inl rfl))))
def tC:ByteArray:=bs [32,37,32,120]
def kQ:List Tk:= [F6 10 ⟨#[]⟩ ⟨#[]⟩ 0 4 4 (decide (0<4))]
theorem aA:Ct tC 0 kQ none:=(.last (K:=4) (E:=0) (k:=10) (bits:=0) (a:=4) (en:=4) (tx:=⟨#[]⟩) (nu:=⟨#[]⟩) (.step (t:=1) (lh (by kernel_rfl)) (by kernel_rfl) (Ni (lh (by kernel_rfl)) (lh (by kernel_rfl)) (.done (lh (by kernel_rfl)))) (.step (t:=4) (lh (by kernel_rfl)) (by kernel_rfl) (Ni (lh (by kernel_rfl)) (lh (by kernel_rfl)) (Ni (lh (by kernel_rfl)) (lh (by kernel_rfl)) (Ni (lh (by kernel_rfl)) (lh (by kernel_rfl)) (.done (lh (by kernel_rfl)))))) (.done (lh (by kernel_rfl))))) (by kernel_rfl) (Or.inr rfl))
def Ym:Tm:= .cmp [61] [.var 0,.cmp [102] [.var 1,.var 2,.var 0]]
def jX:RS:=⟨10,[([88],0),([89],1)],[2,1],3⟩
theorem Yw:Sw Jn 0 F3 0 kA none= .ok Ym jX 15:=by kernel_rfl
theorem ZB:Sw Jn 0 F3 0 kO none= .stop (YV 0) 2:=by kernel_rfl
theorem aU:Sw Jn 0 F3 0 kQ none= .eof 4:=by kernel_rfl
end Go.Pz
namespace Go.Proofs
open Go.RowKit Go.Hb Go.Pz
theorem ZG (vs:Array Value) (w:World):(callFunc 15 vs).run prog w= .ok (.enter 15 vs) w:=by kernel_rfl
theorem AT.two {w:World} {S:Nat->Prop} {c d:List Value} {t:Tm}(h:AT w S c t) (h':AT w S d t):∃k nm nu bits v a cap a' vt,c= [.int .i64 k,.string nm,.string nu,.int .u64 bits,.int .i64 v,.slice a (AJ t).length cap]/\d= [.int .i64 k,.string nm,.string nu,.int .u64 bits,.int .i64 v,.slice a' (AJ t).length vt]/\(AJ t= []\/(∃b off cs,a=some ⟨b,off,none⟩/\S b/\(∀j,j<cs.length->w.cell? ⟨b,off+j,none⟩=cs[j]?)/\BJ w S cs (AJ t))/\∃b off cs,a'=some ⟨b,off,none⟩/\S b/\(∀j,j<cs.length->w.cell? ⟨b,off+j,none⟩=cs[j]?)/\BJ w S cs (AJ t)):=by
 cases h with
 |var n=>cases h';exact⟨1,_,_,0,n,none,0,none,0,rfl,rfl,.inl rfl⟩
 |atom s=>cases h';exact⟨2,_,_,0,0,none,0,none,0,rfl,rfl,.inl rfl⟩
 |int s=>cases h';exact⟨3,_,_,0,0,none,0,none,0,rfl,rfl,.inl rfl⟩
 |Hs b=>cases h';exact⟨4,_,_,b,0,none,0,none,0,rfl,rfl,.inl rfl⟩
 |cmp s l b off cap cs hb hc h=>
  cases h' with
  |cmp _ _ b2 off2 qQ cs2 qM uB h2=>exact⟨5,_,_,0,0,_,cap,_,qQ,rfl,rfl,.inr ⟨⟨b,off,cs,rfl,hb,hc,h⟩,b2,off2,cs2,rfl,qM,uB,h2⟩⟩
theorem BJ.arg {w:World} {S:Nat->Prop} {cs:List Value} {l:List Tm} {b off i:Nat} {x:Tm}(qy:∀j,j<cs.length->w.cell? ⟨b,off+j,none⟩=cs[j]?) (tW:BJ w S cs l) (hx:l[i]? =some x):∃c0:Array Value,c0.size=6/\AT w S c0.toList x/\w.rangeAt b (off+i*6) c0.toList:=by
 obtain⟨d0,sJ,uW⟩:=tW.at hx;refine⟨⟨d0⟩,by have:=sJ.len;simpa using this,sJ,fun j v hv=> ?_⟩;have hj:j<6:=by
  have h1:=(mC.1 hv).1;have h2:=sJ.len;change j<d0.length at h1;omega
 have h1:=uW j hj;have h2:6*i+j<cs.length:=by
  rcases ls (6*i+j) cs.length with h|h
  ·exact h
  ·rw[mr h]at h1;change d0[j]? =some v at hv;rw[<-h1]at hv;cases hv
 rw[show off+i*6+j=off+(6*i+j) by omega,qy _ h2,h1];exact hv
theorem WV {P:Tm->Prop}(hP:∀t,P t->∀x∈AJ t,P x) (hl64:∀t,P t->(AJ t).length<=64) (n:Nat):∀(t:Tm),SizeOf.sizeOf t<=n->P t->∀(c d:Array Value) (S:Nat->Prop) (w:World),(∀b,S b->b<w.heap.size)->AT w S c.toList t->AT w S d.toList t->
  Calls prog 15 #[.agg c,.agg d] w fun e w'=>e= .returned (.bool true)/\Below w.heap.size w w':=by
 induction n with
 |zero=>intro t ht;cases t<;>simp at ht
 |succ n ih=>
  intro t ht hp c d S w hS h h';have L64:=hl64 t hp;obtain⟨c⟩:=c;obtain⟨d⟩:=d;obtain⟨kd,nm,nu,bits,v,a,cap,a2,qQ,hc,hd,hl⟩:=AT.two h h';have hc:c=_:=hc;have hd:d=_:=hd;subst hc hd;obtain⟨len,hlen⟩:∃len,len=(AJ t).length:=⟨_,rfl⟩;rw[<-hlen]at L64⊢;have l64:(len:Int)<=64:=by omega
  have IH:=lK (fun x (hx:x∈AJ t)=>ih x (Nat.le_of_lt_succ (lR (EP hx) ht)) (hP t hp x hx));have HS:=lK hS;have HL:=lK hl;have rz:=lK hlen;clear h h' ih ht hS hl hlen hp hP hl64;show Calls prog 15 #[.agg #[.int .i64 kd,.string nm,.string nu,.int .u64 bits,.int .i64 v,.slice a len cap],.agg #[.int .i64 kd,.string nm,.string nu,.int .u64 bits,.int .i64 v,.slice a2 len qQ]] w _;go_enter func15,ntmps15
  go_upto_region 1 with fail
  have BW:Hid (Below w.heap.size w ((w.alloc (.cells #[.int .i64 kd,.string nm,.string nu,.int .u64 bits,.int .i64 v,.slice a len cap] 31)).alloc (.cells #[.int .i64 kd,.string nm,.string nu,.int .u64 bits,.int .i64 v,.slice a2 len qQ] 31))):=lK ((Bzz _).alloc (by simp) _);have H1:Hid (((w.alloc (.cells #[.int .i64 kd,.string nm,.string nu,.int .u64 bits,.int .i64 v,.slice a len cap] 31)).alloc (.cells #[.int .i64 kd,.string nm,.string nu,.int .u64 bits,.int .i64 v,.slice a2 len qQ] 31)).heap[w.heap.size]? =some (.cells #[.int .i64 kd,.string nm,.string nu,.int .u64 bits,.int .i64 v,.slice a len cap] 31)):=lK ((Lib.alloc_old _ _ _ (by simp)).trans (lT w _));have H2:Hid (((w.alloc (.cells #[.int .i64 kd,.string nm,.string nu,.int .u64 bits,.int .i64 v,.slice a len cap] 31)).alloc (.cells #[.int .i64 kd,.string nm,.string nu,.int .u64 bits,.int .i64 v,.slice a2 len qQ] 31)).heap[w.heap.size+1]? =some (.cells #[.int .i64 kd,.string nm,.string nu,.int .u64 bits,.int .i64 v,.slice a2 len qQ] 31)):=lK (FU w _ _);have LA:Hid (w.heap.size+1<((w.alloc (.cells #[.int .i64 kd,.string nm,.string nu,.int .u64 bits,.int .i64 v,.slice a len cap] 31)).alloc (.cells #[.int .i64 kd,.string nm,.string nu,.int .u64 bits,.int .i64 v,.slice a2 len qQ] 31)).heap.size):=lK (by simp);generalize((w.alloc (.cells #[.int .i64 kd,.string nm,.string nu,.int .u64 bits,.int .i64 v,.slice a len cap] 31)).alloc (.cells #[.int .i64 kd,.string nm,.string nu,.int .u64 bits,.int .i64 v,.slice a2 len qQ] 31))=W at*;have x0:W.cell? ⟨w.heap.size,0,none⟩=some (.int .i64 kd):=by rw[Lib.cell_of_heap H1.o];rfl
  have x1:W.cell? ⟨w.heap.size,1,none⟩=some (.string nm):=by rw[Lib.cell_of_heap H1.o];rfl
  have x2:W.cell? ⟨w.heap.size,2,none⟩=some (.string nu):=by rw[Lib.cell_of_heap H1.o];rfl
  have x3:W.cell? ⟨w.heap.size,3,none⟩=some (.int .u64 bits):=by rw[Lib.cell_of_heap H1.o];rfl
  have x4:W.cell? ⟨w.heap.size,4,none⟩=some (.int .i64 v):=by rw[Lib.cell_of_heap H1.o];rfl
  have x5:W.cell? ⟨w.heap.size,5,none⟩=some (.slice a len cap):=by rw[Lib.cell_of_heap H1.o];rfl
  have y0:W.cell? ⟨w.heap.size+1,0,none⟩=some (.int .i64 kd):=by rw[Lib.cell_of_heap H2.o];rfl
  have y1:W.cell? ⟨w.heap.size+1,1,none⟩=some (.string nm):=by rw[Lib.cell_of_heap H2.o];rfl
  have y2:W.cell? ⟨w.heap.size+1,2,none⟩=some (.string nu):=by rw[Lib.cell_of_heap H2.o];rfl
  have y3:W.cell? ⟨w.heap.size+1,3,none⟩=some (.int .u64 bits):=by rw[Lib.cell_of_heap H2.o];rfl
  have y4:W.cell? ⟨w.heap.size+1,4,none⟩=some (.int .i64 v):=by rw[Lib.cell_of_heap H2.o];rfl
  have y5:W.cell? ⟨w.heap.size+1,5,none⟩=some (.slice a2 len qQ):=by rw[Lib.cell_of_heap H2.o];rfl
  go_wp2_with fail
  clear x0 y0 x1 y1 x2 y2 x3 y3 x4 y4 x5 y5
  go_loopw [5] (fun v5 wr=>∃i:Nat,v5= .int .i64 i/\Hid (i<=len/\Below W.heap.size W wr)) (fun v5 _=>match v5 with| .int .i64 i=>len-i.toNat|_=>0)
  case atStart=>exact⟨0,rfl,lK ⟨mK _,Below.refl _ _⟩⟩
  case round=>
   obtain⟨i,rfl,hq⟩:=hrel;obtain⟨g1,g2⟩:=hq.o;have bi:(i:Int)<=64:=by omega
   have yM:=lK g2;have X5:Hid (∀V:World,Below W.heap.size W V->V.cell? ⟨w.heap.size,5,none⟩=some (.slice a len cap)):=lK (fun V hV=>by rw[Lib.cell_of_heap ((hV.block w.heap.size (by have:=LA.o;omega)).trans H1.o)];rfl);have Y5:Hid (∀V:World,Below W.heap.size W V->V.cell? ⟨w.heap.size+1,5,none⟩=some (.slice a2 len qQ)):=lK (fun V hV=>by rw[Lib.cell_of_heap ((hV.block (w.heap.size+1) LA.o).trans H2.o)];rfl);have x5:=X5.o wr g2;clear g2 hq;by_cases hi:i<len
   ·have ui:(i:Int)<len:=by omega
    obtain⟨x,hx⟩:∃x,(AJ t)[i]? =some x:=⟨_,lu (by have:=rz.o;omega)⟩;obtain⟨⟨b,off,cs,rfl,uR,qy,tW⟩,b2,off2,cs2,rfl,hSb2,hcs2,hts2⟩:(∃b off cs,a=some ⟨b,off,none⟩/\S b/\(∀j,j<cs.length->w.cell? ⟨b,off+j,none⟩=cs[j]?)/\BJ w S cs (AJ t))/\∃b off cs,a2=some ⟨b,off,none⟩/\S b/\(∀j,j<cs.length->w.cell? ⟨b,off+j,none⟩=cs[j]?)/\BJ w S cs (AJ t):=by
     rcases HL.o with h1|h1
     ·rw[h1]at hx;cases hx
     ·exact h1
    obtain⟨c0,z1,t1,r1⟩:=BJ.arg qy tW hx;obtain⟨d0,z2,t2,r2⟩:=BJ.arg hcs2 hts2 hx;have Z1:=lK z1;have Z2:=lK z2;have BV:Hid (∀V:World,Below W.heap.size W V->Below w.heap.size w V):=lK (fun V hV=>BW.o.trans (hV.mono BW.o.size));have R1:Hid (∀V:World,Below W.heap.size W V->V.rangeAt b (off+i*6) c0.toList):=lK (fun V hV j u hu=>((BV.o V hV).cell (p:=⟨b,off+i*6+j,none⟩) (HS.o b uR)).trans (r1 j u hu));have R2:Hid (∀V:World,Below W.heap.size W V->V.rangeAt b2 (off2+i*6) d0.toList):=lK (fun V hV j u hu=>((BV.o V hV).cell (p:=⟨b2,off2+i*6+j,none⟩) (HS.o b2 hSb2)).trans (r2 j u hu));have HC:Hid (∀V:World,Below W.heap.size W V->Calls prog 15 #[.agg c0,.agg d0] V fun e w'=>e= .returned (.bool true)/\Below V.heap.size V w'):=lK (fun V hV=>IH.o x (mP hx) c0 d0 S V (fun b hb=>lR (HS.o b hb) (BV.o V hV).size) (AT.Ak (fun b hb=>(BV.o V hV).block b (HS.o b hb)) (fun _ h=>h) t1) (AT.Ak (fun b hb=>(BV.o V hV).block b (HS.o b hb)) (fun _ h=>h) t2));have vD:=lK hi;clear hx uR qy tW hSb2 hcs2 hts2 z1 z2 t1 t2 r1 r2 hi g1
    go_upto_region 6 with fail
    clear x5;refine wp_region_held_drew (S:=fun V=>Below W.heap.size W V) (by kernel_rfl) (Ad yM.o) (fun hS=> ?_);refine tk 0 (.pointer (some ⟨w.heap.size,5,none⟩)) rfl hS ?_;refine DQ 1 (.slice (some ⟨b,off,none⟩) len cap) rfl hS (fun W hSW=> ?_) ?_
    ·have e1:=X5.o _ hSW;go_simp
    refine tk 2 (.int .i64 i) rfl hS ?_;refine tk 3 (.pointer (some ⟨b,off+i*6,none⟩)) rfl hS ?_
    try simp only[uu,Act.put]
    refine wpAnyH_take (i:=4) (oi:=_) (v:= .agg c0) rfl (by kernel_rfl) (by kernel_rfl) (by kernel_rfl) (fun _ _ _ h=>h) (M5 rfl _ rfl b (off+i*6) c0 Z1.o rfl (fun V h=>R1.o V h)) hS ?_;refine tk 5 (.pointer (some ⟨w.heap.size+1,5,none⟩)) rfl hS ?_;refine DQ 6 (.slice (some ⟨b2,off2,none⟩) len qQ) rfl hS (fun W hSW=> ?_) ?_
    ·have e1:=Y5.o _ hSW;go_simp
    refine tk 7 (.int .i64 i) rfl hS ?_;refine tk 8 (.pointer (some ⟨b2,off2+i*6,none⟩)) rfl hS ?_
    try simp only[uu,Act.put]
    refine wpAnyH_take (i:=9) (oi:=_) (v:= .agg d0) rfl (by kernel_rfl) (by kernel_rfl) (by kernel_rfl) (fun _ _ _ h=>h) (M5 rfl _ rfl b2 (off2+i*6) d0 Z2.o rfl (fun V h=>R2.o V h)) hS ?_
    try simp only[uu,Act.put]
    refine DD 10 rfl (fun K hK=> ?_);refine As (by rfl) 15 [.tmp 60,.tmp 65] #[31,31] (by rfl) #[.agg c0,.agg d0] (by kernel_rfl) ZG ((HC.o _ (Ad yM.o)).mono ?_);rintro e' W6 ⟨rfl,b6⟩;refine⟨_,rfl,?_⟩;have B6:Hid (Below W.heap.size W W6):=lK ((Ad yM.o).trans (b6.mono yM.o.size));clear b6;refine hK.o _ _ B6.o (fun hS=> ?_);refine tk 11 (.bool true) rfl hS ?_
    try simp only[uu,Act.put]
    refine wpAnyH_done (by kernel_rfl) ?_ _;go_wp2;go_roundw
    case rel=>exact⟨i+1,by first|rfl|(congr 1),lK ⟨vD.o,B6.o⟩⟩
    case measure=>
     have:=vD.o;show len-((i+1:Nat):Int).toNat<len-((i:Nat):Int).toNat;rw[mB,mB];omega
   ·have ui:¬(i:Int)<len:=by omega
    have BE:Hid (Below w.heap.size w wr):=lK (BW.o.trans (yM.o.mono BW.o.size));clear g1;go_wp2;refine lS (v:= .bool true) ?_ rfl ⟨rfl,BE.o⟩;simp[results,results15]
theorem VP (n:Nat) (w:World):Calls prog 14 #[.int .i64 n] w fun e w'=>e= .returned (.agg (BI n))/\Below w.heap.size w w':=by
 go_enter func14,ntmps14;go_wp2;have HN:=lT w (.cells (BI n) 31);refine lS (v:= .agg (BI n)) ?_ rfl ⟨rfl,Bzz _⟩;exact results_cell_row rfl _ _ w.heap.size 31 (BI n) (0,0) _ rfl HN mE rfl Cg
def jG:Bs:= [115,121,110,116,97,120,95,101,114,114,111,114]
def eU (wd:ByteArray):Tm:= .cmp jG [.atom wd.data.toList]
theorem VF {V:World} {S:Nat->Prop} {wd:ByteArray} {b:Nat}(hb:S b) (h:V.heap[b]? =some (.cells (BO wd) 31)):AT V S (Aa b).toList (eU wd):=
 AT.cmp jG [.atom wd.data.toList] b 0 1 (BO wd).toList hb (fun j _=>by rw[Lib.cell_of_heap h,me,mV]) (BJ.one (AT.atom wd.data.toList))
theorem Vj (wd:ByteArray) (V:World) (b b2:Nat) (h:V.heap[b]? =some (.cells (BO wd) 31)) (h2:V.heap[b2]? =some (.cells (BO wd) 31)):Calls prog 15 #[.agg (Aa b),.agg (Aa b2)] V fun e w'=>e= .returned (.bool true)/\Below V.heap.size V w':=by
 refine WV (P:=fun t=>t=eU wd\/t= .atom wd.data.toList) ?_ ?_ _ (eU wd) (lM _) (.inl rfl) (Aa b) (Aa b2) (fun b=>b<V.heap.size) V (fun _ h=>h) (VF (lN.1 h).1 h) (VF (lN.1 h2).1 h2)
 ·rintro t (rfl|rfl) x hx
  ·exact .inr (og.1 hx)
  ·cases hx
 ·rintro t (rfl|rfl)
  ·exact(by decide:1<=64)
  ·exact mK _
theorem fc {w:World} {b:Nat}(wd:ByteArray) (h0:w.heap[b]? =some (.cells (BO wd) 31)) (h1:w.heap[b+1]? =some (.cells (Aa b) 83)):
  Calls prog 12 #[.iface 80 (.pointer (some ⟨b+1,0,none⟩))] w fun e w'=>e= .returned (.tuple #[.string wd,.bool true])/\Below w.heap.size w w':=by
 have H0:=lK h0;have H1:=lK h1;have ZL:Hid ((Tryz.prog.info? 31).map (·.size)=some (Aa b).toList.length):=lK Cg;have RG:Hid (w.rangeAt (b+1) 0 (Aa b).toList):=lK (fun j v hv=>by rw[me,mT w (b+1) j (Aa b) 83 (0,0) h1];simpa using hv);have LB:Hid (b<w.heap.size):=lK (lN.1 h0).1;clear h0 h1;have hta:∀w:World,(Instr.typeAssert (.iface 80 (.pointer (some ⟨b+1,0,none⟩))) 37 80 true).run prog w= .ok (.tuple #[.pointer (some ⟨b+1,0,none⟩),.bool true]) w:=fun _=>by kernel_rfl
 have NE:=lK (lT w (.cells zV 31));have tu:Hid ((Aa b).all (·.oneCell')=true):=lK (by simp[Aa,Value.oneCell']);have BX:=lK (Below.row ((Below.refl w.heap.size w).alloc (lM _) (.cells zV 31)) (lM _) (Aa b));have uC:Hid (((w.alloc (.cells zV 31)).setRow w.heap.size (Aa b)).heap[w.heap.size]? =some (.cells (Aa b) 31)):=lK (mF _ _ _ _ _ _ NE.o);go_enter func12,ntmps12
 go_upto_region 5 with(first|(refine wpList_load_mid rfl 31 _ rfl (b+1) 0 rfl (Aa b).toList _ RG.o mE rfl ZL.o ?_)|(refine F8 rfl _ _ rfl w.heap.size (Aa b) rfl rfl _ NE.o rfl rfl tu.o ?_))
 generalize(w.alloc (.cells zV 31)).setRow w.heap.size (Aa b)=X at*;have x0:X.cell? ⟨w.heap.size,0,none⟩=some (.int .i64 5):=by rw[Lib.cell_of_heap uC.o];rfl
 have x1:X.cell? ⟨w.heap.size,1,none⟩=some (.string ⟨#[115,121,110,116,97,120,95,101,114,114,111,114]⟩):=by rw[Lib.cell_of_heap uC.o];rfl
 have x5:X.cell? ⟨w.heap.size,5,none⟩=some (.slice (some ⟨b,0,none⟩) 1 1):=by rw[Lib.cell_of_heap uC.o];rfl
 have hb:=(BX.o.block b LB.o).trans H0.o;have y0:X.cell? ⟨b,0,none⟩=some (.int .i64 2):=by rw[Lib.cell_of_heap hb];rfl
 have y1:X.cell? ⟨b,1,none⟩=some (.string wd):=by rw[Lib.cell_of_heap hb];rfl
 have HBX:=lK hb;clear hb
 go_upto_region 8 with fail
 have LX:Hid (b<X.heap.size):=lK (lN.1 HBX.o).1;have SX:Hid (Calls prog 15 #[.agg (Aa b),.agg (Aa X.heap.size)] (X.alloc (.cells (BO wd) 31)) fun e w'=>e= .returned (.bool true)/\Below (X.alloc (.cells (BO wd) 31)).heap.size (X.alloc (.cells (BO wd) 31)) w'):=lK (Vj wd _ b X.heap.size ((Lib.alloc_old X _ _ LX.o).trans HBX.o) (lT X _));have BXA:Hid (Below w.heap.size w (X.alloc (.cells (BO wd) 31))):=lK (BX.o.trans ((Bzz _).mono BX.o.size));clear x0 x1 x5 y0 y1
 go_wp2_with (first|(refine KK rfl _ rfl w.heap.size (Aa b) rfl rfl uC.o ?_)|(refine Hn rfl _ rfl (BO wd) rfl rfl ?_)|(go_at_call 15;(refine SX.o.mono ?_)))
 rintro e W2 ⟨rfl,b2⟩;have B2:Hid (Below w.heap.size w W2):=lK (BXA.o.trans (b2.mono BXA.o.size));clear b2;go_wp2;go_ret2;exact⟨rfl,B2.o⟩
end Go.Proofs
