import Derived.Test.YtpocgkiamgipdaaGreatDoorSeC
set_option maxRecDepth 1000000
set_option maxHeartbeats 0
set_option linter.unusedVariables false
set_option linter.unusedSimpArgs false
open Go.Proofs.Tryz
namespace Go.Proofs.YtpocgkiamgipdaaGreatDoor.Ab
open Go Go.RowKit Go.WideShapes Go.ChangeShapes
theorem Xj {a b:Nat}(h:Nat.blt a b=true):a<b:=n7 h
section
variable {H:Type} {enc:TypeId×Value->H} {P:Program}
theorem Qw {f:Func} {s:ChangeSpec} {apart fresh handsOn again:Bool} {W W':World} {args:Array Value} {v:Value} {ds gs:List (DataW H)} {before pa pv:List MemPlace}
 (hW:DataW.Whole enc P f.params.toList s.vars apart W args.toList ds gs before)
 (sV:∀(b:Nat) (sp:Nat->Bool) (hd:Bool),DataW.TrodAll enc P W' b sp hd f.resultTypes.toList (v.resultList f.resultTypes.size) (s.fn H (ds++gs)).results [])
 (hargs:∀sp:Nat->Bool,(∀p∈before,sp p.block=true)->DataW.TrodAll enc P W' 0 sp true f.params.toList args.toList (s.fn H (ds++gs)).args pa)
 (hvars:∀sp:Nat->Bool,(∀p∈before,sp p.block=true)->DataW.TrodVars enc P W' sp s.vars (s.fn H (ds++gs)).vars pv)
 (tN:before=pa++pv) (hb:Below W.heap.size W W')
 (vJ:∀(j:Nat) (t:TypeId) (r:Value),f.resultTypes[j]? =some t->(v.resultList f.resultTypes.size)[j]? =some r->Value.okWide P W' .any 0 t r):
 s.post enc P f apart fresh handsOn again W args v W':=by
 have qE:∀p∈before,p.block<W.heap.size:=fun p hp=>hW.lt p hp;have hold:∀p∈before,(fun b=>decide (b<W.heap.size)) p.block=true:=fun p hp=>by simpa using qE p hp
 refine⟨ds,gs,before,[],pa,pv,hW,sV _ _ _,hargs _ hold,hvars _ hold,World.keptBut_mono (fun p hp=>⟨hp,?_⟩) (hb.frame (· ∈before)),fun _=> ?_⟩
 ·rw[tN,List.mem_append]at hp;exact Or.inr hp
 ·obtain⟨_,_,_,_,_,hz,hn⟩:=hW;refine⟨vJ,_,_,([]++pa)++pv,⟨[]++pa,pv,trodAll_append (hargs _ (fun _ _=>rfl)) (sV _ _ _),hvars _ (fun _ _=>rfl),rfl,?_,?_⟩,?_⟩
  ·intro b off hp;have zA:MemPlace.cell b off∈before:=by rw[tN];simpa using hp
   rw[hb.frozen (qE _ zA)];exact hz b off zA
  ·intro ha;have:=hn ha;rw[tN]at this;simpa using this
  ·intro p hp _;rw[tN];simpa using hp
theorem G5 {T:TypeId->Prop}(K:Kids P T) (rH:∀{t e:TypeId},T t->P.underlying t=some (.slice e)->0<P.cellsOf e){W W':World} {sp:Nat->Bool} :
 ∀{ts:List TypeId} {vs:List Value} {ds:List (DataW H)} {p:List MemPlace},DataW.TrodAll enc P W 0 (fun _=>true) true ts vs ds p->(∀t∈ts,T t)->(∀q∈p,W.sameAt W' q)->(∀q∈p,sp q.block=true)->DataW.TrodAll enc P W' 0 sp true ts vs ds p
 | [],[],[],p,h,_,_,_=>h
 |t::ts,v::vs,d::ds,p,h,ht,hs,hsp=>by
  obtain⟨p1,q1,⟨fuel,h1⟩,h2,rfl⟩:=h;refine⟨p1,q1,⟨fuel,?_⟩,G5 K rH h2 (fun t h=>ht t (.tail _ h)) (fun q hq=>hs q (List.mem_append_right _ hq)) (fun q hq=>hsp q (List.mem_append_right _ hq)),rfl⟩;exact DataW.trod_stays K rH (fun h=>by cases h) (ht t (.head _)) h1 (fun q hq=>hs q (List.mem_append_left _ hq)) (fun q hq=>hsp q (List.mem_append_left _ hq))
 | [],[],_::_,_,h,_,_,_=>h.elim
 | [],_::_,[],_,h,_,_,_=>h.elim
 | [],_::_,_::_,_,h,_,_,_=>h.elim
 |_::_,[],[],_,h,_,_,_=>h.elim
 |_::_,[],_::_,_,h,_,_,_=>h.elim
 |_::_,_::_,[],_,h,_,_,_=>h.elim
end
def Nh (P:Program):Bool:=laidOutB P&&mapsRowed P&&(List.range P.types.size).all fun t=>match P.underlying t with
 |some (.slice e)=>Nat.blt 0 (P.cellsOf e)
 |_=>true
theorem NU {P:Program} {l:List (String×DataW Unit)} {w:World}(h0:(l.filter fun x=>x.2.handleName?.isSome).isEmpty=true) (h:laidMetH P l w):laidMet P l w:=by
 unfold laidMetH at h;split at h
 ·exact h
 ·rename_i h1;rw[h1]at h0;cases h0
structure Rl (s:ChangeSpec) (k:Nat):Prop where
 vars:s.vars= []
 fn:∀(H:Type) (ds:List (DataW H)),ds.length=k->s.fn H ds= {results:= [.lit (.bool true)],args:=ds}
theorem GQ {H:Type} {enc:TypeId×Value->H} {P:Program} {w:World} {base:Nat} {sp:Nat->Bool} {held:Bool} :∀{ts:List TypeId} {vs:List Value} {ds:List (DataW H)} {p:List MemPlace},DataW.TrodAll enc P w base sp held ts vs ds p->ds.length=ts.length
 | [],[],[],_,_=>rfl
 |_::_,_::_,_::_,_,⟨_,_,_,h,_⟩=>by simp[GQ h]
 | [],[],_::_,_,h=>h.elim
 | [],_::_,[],_,h=>h.elim
 | [],_::_,_::_,_,h=>h.elim
 |_::_,[],[],_,h=>h.elim
 |_::_,[],_::_,_,h=>h.elim
 |_::_,_::_,[],_,h=>h.elim
theorem V9 {H:Type} {enc:TypeId×Value->H} {P:Program} {fn:Func} {s:ChangeSpec}(hs:Rl s fn.params.size){tb:TypeId}(htb:fn.resultTypes= #[tb]) (hub:P.underlying tb=some .bool) (hK:Nh P=true) (hp:∀t∈fn.params.toList,t<P.types.size)
 {W W':World} {args:Array Value} {ds gs:List (DataW H)} {before:List MemPlace}(hW:DataW.Whole enc P fn.params.toList s.vars false W args.toList ds gs before) (hb:Below W.heap.size W W'):
 s.post enc P fn false true false false W args (.bool true) W':=by
 have hW':=hW;obtain⟨p,q,hA,hV,hpq,_,_⟩:=hW';rw[hs.vars]at hV;obtain⟨hgs,hq⟩:=trodVars_none hV;unfold Nh at hK;simp only[mJ]at hK;obtain⟨⟨k1,k2⟩,k3⟩:=hK;have K:=kids_rows k1 k2;have rH:∀{t e:TypeId},t<P.types.size->P.underlying t=some (.slice e)->0<P.cellsOf e:=fun {t e} h1 h2=>by
  have:=nS.1 k3 t (pX.2 h1);rw[h2]at this;exact Xj this
 have hl:=GQ hA;have hbp:before=p:=by rw[hpq,hq,nj]
 have hfn:s.fn H (ds++gs)= {results:= [.lit (.bool true)],args:=ds} :=by rw[hgs,nj];exact hs.fn H ds (by simpa using hl)
 refine Qw (pa:=p) (pv:= []) hW (fun b sp hd=> ?_) (fun sp hsp=> ?_) (fun sp _=> ?_) (by rw[hbp,nj]) hb (ok_one htb rfl (okWide_bool_mk hub _))
 ·rw[hfn,htb];exact trodAll_cons_mk (shut_bool hub _) trodAll_mk0
 ·rw[hfn];exact G5 K rH hA hp (fun x hx=>hb.same (hW.lt x (by rw[hbp];exact hx))) (fun x hx=>hsp x (by rw[hbp];exact hx))
 ·rw[hfn,hs.vars];rfl
theorem lN {H:Type} {enc:TypeId×Value->H} {C:Checked} {os:Os} {f:FuncId} {fn:Func} {s:OpenSpec} {conds:List PathCond} {apart:Bool} {laid:List (String×DataW Unit)}(w0:World) (args:Array Value) (hos:w0.os=os)
 (hsh:(w0.forCall (fun _ _=>0) ⟨#[],args,[]⟩).Shaped C.prog) (vJ:Input.okWideB C.prog (w0.forCall (fun _ _=>0) ⟨#[],args,[]⟩) f ⟨#[],args,[]⟩=true)
 (qK:s.preRow enc C.prog fn conds apart laid (w0.forCall (fun _ _=>0) ⟨#[],args,[]⟩).memory args):
 ∃(w:World) (tape:Tape) (i:Input),w.os=os/\(w.forCall tape i).Shaped C.prog/\i.vars= []/\Input.okWide C.prog (w.forCall tape i) .any w.heap.size f i/\
  s.preRow enc C.prog fn conds apart laid (w.forCall tape i).memory i.args/\({} :Assume).holds C.prog (lone (Frame.enter C.prog f i.args .normal) [] (w.forCall tape i)):=
 ⟨w0,fun _ _=>0,⟨#[],args,[]⟩,hos,hsh,(Input.okWide_of_okWideB (base:=0) vJ).1,(Input.okWide_of_okWideB vJ).2,qK,by
  simp only[Assume.holds];exact⟨by simp,by simp,fun _=>Modest.zero,by simp,by simp⟩⟩
end Go.Proofs.YtpocgkiamgipdaaGreatDoor.Ab
namespace Go.Proofs.YtpocgkiamgipdaaGreatDoor
open Go Go.Proofs Go.RowKit Go.Hb Go.Pz
theorem jo {n:Int}(h:(Lit.int .i64 n).wf=true): -9223372036854775808<=n/\n<=9223372036854775807:=by
 have h1:IntKind.i64.min= -9223372036854775808:=by kernel_rfl
 have h2:IntKind.i64.max=9223372036854775807:=by kernel_rfl
 simp only[Lit.wf,mJ,mL,h1,h2]at h;exact h
theorem Qo (s:ByteArray) (la:Option Addr) (lc g o:Nat) (xs:Be) (n:Int) (W:World) (hs:s.size<=1048576) (vU:xs≠ []->la=some ⟨g,o,none⟩) (hx:Lg W g o xs) (uT:xs.length<=1048576) (hn:(Lit.int .i64 n).wf=true) (hL:laidMet prog Rows.parserSoundUptoRow.laid W) (hsh:W.ShapedOpen prog):
  Calls prog 3 #[.string s,.slice la xs.length lc,.int .i64 n] W fun e w'=>e= .returned (.bool true)/\Below W.heap.size W w':=
 Tryz.law3 (DK.of hL hsh) s la lc g o xs n (by omega) vU hx (by omega) (jo hn)
end Go.Proofs.YtpocgkiamgipdaaGreatDoor
