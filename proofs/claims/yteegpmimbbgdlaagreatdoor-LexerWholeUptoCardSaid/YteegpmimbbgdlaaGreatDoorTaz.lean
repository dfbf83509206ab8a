import Derived.Test.YteegpmimbbgdlaaGreatDoorTay
import Derived.ChangeStays
import Derived.ChangeSame
import Derived.ProofKit
import Derived.OpenShut
import Derived.Deep.DeepHandedRow
import Derived.Lay
import Derived.ChangeBears2
import Derived.Shelf.Small.Utf8
import Derived.Shelf.Strings.BuilderK
import Derived.Shelf.Strings.BuilderRune
import Derived.Shelf.Strings.Prefix
import Derived.Test.YteegpmimbbgdlaaGreatDoorProg
import Derived.Test.YteegpmimbbgdlaaGreatDoorChecked
import Derived.WalkKit
import Derived.BigCall
import Derived.Test.YteegpmimbbgdlaaGreatDoorTak
import Derived.Deep.QuietTactic
import Derived.BigQuiet
import Derived.Test.YteegpmimbbgdlaaGreatDoorRows
import Derived.KernelRfl
import Derived.Test.YteegpmimbbgdlaaGreatDoorTaa
set_option maxRecDepth 1000000
set_option maxHeartbeats 40000000
section
namespace Go.Lx
theorem Lay.le {s:ByteArray} {p k e:Nat}(h:Lay s p k e):p≤s.size→e=0→k≤s.size:=by
 induction h with
 |done _=>exact fun h _=>h
 |stop _ _=>exact fun h _=>h
 |opn _ _=>exact fun _ h=>by cases h
 |bad _ _ _=>exact fun _ h=>by cases h
 |step h1 h2 _ _ ih=>exact fun _ h=>ih (layTo_bound h1 h2).2 h
theorem Lay.er {s:ByteArray} {p k e:Nat}(h:Lay s p k e):e=0∨e=30∨e=33:=by
 induction h with
 |done _=>exact .inl rfl
 |stop _ _=>exact .inl rfl
 |opn _ _=>exact .inr (.inr rfl)
 |bad _ _ _=>exact .inr (.inl rfl)
 |step _ _ _ _ ih=>exact ih
end Go.Lx
namespace Go.Proofs
open Go.RowKit Go.Pf Go.Lx Go.Hb Go.Rb Go.Bg
def TR.tokL (R:TR) (ly:Bool):Value:=match R with
 | .ok k tx nu bits a en=>tokV k tx nu bits a en ly
 | .err p _=>badV p
def NextEnd (R:TR) (ly:Bool) (w:World) (e:Ending) (w':World):Prop:=e= .returned (.tuple #[TR.tokL R ly,.int .i64 (TR.er R:Nat)])∧Below w.heap.size w w'
theorem NextEnd.er {R:TR} {ly:Bool} {w w':World} {p n:Nat}(h:R= .err p n) (hb:Below w.heap.size w w'):NextEnd R ly w (.returned (.tuple #[badV p,.int .i64 n])) w':=by subst h;exact⟨rfl,hb⟩
theorem NextEnd.ok {R:TR} {ly:Bool} {w w':World} {k bits a E:Nat} {tx nu:ByteArray}(h:R= .ok k tx nu bits a E) (hb:Below w.heap.size w w'):NextEnd R ly w (.returned (.tuple #[tokV k tx nu bits a E ly,.int .i64 0])) w':=by subst h;exact⟨rfl,hb⟩
noncomputable def nxR (s:ByteArray) (K E:Nat):TR:=if E=0 then tokR s K else .err K E
def TR.nz:TR→Prop
 | .ok .. =>True
 | .err _ n=>n≠0
theorem nz_err (p:Nat){n:Nat}(h:n≠0):TR.nz (.err p n):=h
theorem chrR_nz {s:ByteArray} {a:Nat} {R:TR}(h:chrR s a=some R):TR.nz R:=by
 unfold chrR at h
 repeat' split at h
 all_goals first|(cases h;done)|(cases h;exact True.intro)|(cases h;exact nz_err _ (by decide))
theorem intR_nz (s:ByteArray) (a f t r:Nat):TR.nz (intR s a f t r):=by
 have key:∀(A B:TR),TR.nz A→TR.nz B→∀(c:Prop) [Decidable c],TR.nz (if c then A else B):=fun A B hA hB c _=>by
  split
  ·exact hA
  ·exact hB
 unfold intR
 refine key _ _ ?_ ?_ _
 ·exact True.intro
 ·exact nz_err _ (by decide)
theorem fltF_nz (s:ByteArray) (a p:Nat) (x:Int) (t:Nat):TR.nz (fltF s a p x t):=by
 unfold fltF
 split
 ·exact nz_err _ (by decide)
 ·split
  ·exact True.intro
  ·exact nz_err _ (by decide)
theorem fltR_nz (s:ByteArray) (a p:Nat):TR.nz (fltR s a p):=by
 unfold fltR
 split
 ·split
  ·exact nz_err _ (by decide)
  ·exact fltF_nz _ _ _ _ _
 ·exact fltF_nz _ _ _ _ _
theorem numR_nz (s:ByteArray) (a:Nat):TR.nz (numR s a):=by
 unfold numR
 split
 ·exact chrR_nz (by assumption)
 ·repeat' split
  all_goals first
   | (with_reducible exact intR_nz _ _ _ _ _)
   | (with_reducible exact fltR_nz _ _ _)
theorem quoS_nz {s:ByteArray} {a q p:Nat} {out:List UInt8} {R:TR}(h:quoS s a q p out= .inl R):TR.nz R:=by
 unfold quoS at h
 repeat' split at h
 all_goals first|(cases h;done)|(cases h;exact True.intro)|(cases h;exact nz_err _ (by decide))
theorem quoN_nz (s:ByteArray) (a q:Nat):∀(f p:Nat) (out:List UInt8),TR.nz (quoN s a q f p out)
 |0,_,_=>nz_err _ (by decide)
 |f+1,p,out=>by
  unfold quoN
  split
  ·exact quoS_nz (by assumption)
  ·exact quoN_nz s a q f _ _
theorem quoE_nz (s:ByteArray) (a q p:Nat) (out:List UInt8):TR.nz (quoE s a q p out):=quoN_nz _ _ _ _ _ _
theorem lngR_nz (s:ByteArray) (k a t:Nat):TR.nz (lngR s k a t):=by
 unfold lngR
 split
 ·exact nz_err _ (by decide)
 ·exact True.intro
theorem tokR_nz (s:ByteArray) (a:Nat):TR.nz (tokR s a):=by
 unfold tokR
 repeat' split
 all_goals first
  | (with_reducible exact numR_nz _ _)
  | (with_reducible exact quoE_nz _ _ _ _ _)
  | (with_reducible exact lngR_nz _ _ _ _)
  | (with_reducible exact nz_err _ (by decide))
  |exact True.intro
theorem tokR_er {s:ByteArray} {a p n:Nat}(h:tokR s a= .err p n):n≠0:=by
 have:=tokR_nz s a
 rw[h]at this
 exact this
theorem Tryz.rnext_out (s:ByteArray) (p:Int) (w:World) (hp:p<0∨(s.size:Int)<p) (hp2: -9223372036854775808≤p∧p≤9223372036854775807):
 Calls Tryz.prog 13 #[.string s,.int .i64 p] w (NextEnd (.err 0 36) false w):=by
 obtain⟨R,hR⟩:∃R,R=TR.err 0 36:=⟨_,rfl⟩
 rw[←hR]
 have HF:=Hi hR
 clear hR
 have hq:decide (p<0)=true∨(decide (p<0)=false∧decide ((s.size:Int)<p)=true∧¬p<0∧(s.size:Int)<p):=by
  by_cases h:p<0
  ·exact .inl (decide_eq_true h)
  ·exact .inr ⟨decide_eq_false h,decide_eq_true (by omega),h,by omega⟩
 clear hp
 rcases hq with q1|⟨q1,q2,q3,q4⟩
 all_goals
  go_enter Tryz.func13,Tryz.ntmps13
  go_wp2_with fail
  generalize hW:w.alloc _=W1
  have HBL:Hid (Below w.heap.size w W1):=Hi (by subst hW;exact(Below.refl _ _).alloc (nR _) _)
  have HK:Hid (Tk7 W1 w.heap.size):=Hi (by subst hW;exact Tk7.new w)
  clear hW
  refine(Tryz.rbad 0 36 _).mono ?_
  rintro e W4 ⟨rfl,b4⟩
  unfold badV tokV
  have HKX:=HK.out.below b4
  obtain⟨k0,k1,k2,k3,k4,k5,k6⟩:=HKX.cs
  obtain⟨f0,f1,f2,f3,f4,f5,f6⟩:=HKX.fs
  have HB:=Hi (HBL.out.trans (b4.mono HBL.out.size))
  clear b4 HKX
  go_wp2
  refine bodyPost_ret (v:= .tuple #[badV 0,.int .i64 36]) ?_ rfl (NextEnd.er (p:=0) (n:=36) HF.out ?_)
  ·simp only[results,Tryz.results13]
   go_simp
   rfl
  ·iterate 7 refine Below.setCell ?_ (by first|omega|(simp only;omega)) _
   exact HB.out
theorem Tryz.rnext (s:ByteArray) (p K E:Nat) (w:World) (hs:s.size≤140737488355000) (hp:p≤s.size) (hL:Lay s p K E):
 Calls Tryz.prog 13 #[.string s,.int .i64 p] w (NextEnd (nxR s K E) (decide (p<K)) w):=by
 obtain⟨R,hR⟩:∃R,R=nxR s K E:=⟨_,rfl⟩
 obtain⟨ly,hly⟩:∃ly,ly=decide (p<K):=⟨_,rfl⟩
 rw[←hR,←hly]
 unfold nxR at hR
 have q1:decide ((p:Int)<0)=false:=dFo
 have q2:decide ((s.size:Int)<p)=false:=dFo
 have q2b:decide (s.size<p)=false:=dFo
 have q3:¬(s.size:Int)<p:=by omega
 have CS:Hid (∀w,Calls Tryz.prog 30 #[.string s,.int .i64 p] w (SkipEnd K E w)):=Hi (fun w=>Tryz.rskip s p K E w (by omega) hp (Hi hL))
 have hle:=hL.le hp
 have her:=hL.er
 clear hL
 by_cases hE:E=0
 ·rw[if_pos hE]at hR
  have kle:=hle hE
  have CT:=fun w=>Tryz.rtoken s K w hs kle
  rw[←hR]at CT
  have CT:=Hi CT
  have e0:((E:Int) !=0)=false:=bne_of_eq (by omega)
  have HLY:=Hi hly
  have hlk:decide (p<K)=ly:=hly.symm
  have hlk2:decide ((p:Int)<K)=ly:=by rw[hly];exact decide_eq_decide.2 (by omega)
  cases R with
  |err rp rn=>
   have hrn:rn≠0:=tokR_er hR.symm
   have e1:((rn:Int)==0)=false:=beq_of_ne (by omega)
   have CT:Hid (∀w,Calls Tryz.prog 31 #[.string s,.int .i64 K] w fun e w'=>e= .returned (.tuple #[badV rp,.int .i64 rn])∧Below w.heap.size w w'):=Hi CT.out
   clear hR hle her hE hly hlk hlk2 hrn
   go_enter Tryz.func13,Tryz.ntmps13
   go_wp2_with (go_at_call 30;(with_reducible refine(CS.out _).mono ?_);rintro e w' ⟨rfl,rfl⟩)
   generalize hW:w.alloc _=W1
   have HBL:Hid (Below w.heap.size w W1):=Hi (by subst hW;exact(Below.refl _ _).alloc (nR _) _)
   have HK:Hid (Tk7 W1 w.heap.size):=Hi (by subst hW;exact Tk7.new w)
   clear hW
   refine(CT.out _).mono ?_
   rintro e W4 ⟨rfl,b4⟩
   have HKX:=HK.out.below b4
   have hlt:=HKX.lt
   obtain⟨k0,k1,k2,k3,k4,k5,k6⟩:=HKX.cs
   obtain⟨f0,f1,f2,f3,f4,f5,f6⟩:=HKX.fs
   have HB:=Hi (HBL.out.trans (b4.mono HBL.out.size))
   clear b4 HKX
   unfold badV tokV
   go_wp2
   refine bodyPost_ret (v:= .tuple #[badV rp,.int .i64 rn]) ?_ rfl (NextEnd.er rfl ?_)
   ·simp only[results,Tryz.results13]
    go_simp
    rfl
   ·refine Below.al ?_ _
    iterate 7 refine Below.setCell ?_ (by first|omega|(simp only;omega)) _
    exact HB.out
  |ok k tx nu bits a en=>
   have CT:Hid (∀w,Calls Tryz.prog 31 #[.string s,.int .i64 K] w fun e w'=>e= .returned (.tuple #[tokV k tx nu bits a en false,.int .i64 0])∧Below w.heap.size w w'):=Hi CT.out
   clear hR hle her hE hly
   go_enter Tryz.func13,Tryz.ntmps13
   go_wp2_with (go_at_call 30;(with_reducible refine(CS.out _).mono ?_);rintro e w' ⟨rfl,rfl⟩)
   generalize hW:w.alloc _=W1
   have HBL:Hid (Below w.heap.size w W1):=Hi (by subst hW;exact(Below.refl _ _).alloc (nR _) _)
   have HK:Hid (Tk7 W1 w.heap.size):=Hi (by subst hW;exact Tk7.new w)
   clear hW
   refine(CT.out _).mono ?_
   rintro e W4 ⟨rfl,b4⟩
   have HKX:=HK.out.below b4
   have hlt:=HKX.lt
   obtain⟨k0,k1,k2,k3,k4,k5,k6⟩:=HKX.cs
   obtain⟨f0,f1,f2,f3,f4,f5,f6⟩:=HKX.fs
   have HB:=Hi (HBL.out.trans (b4.mono HBL.out.size))
   clear b4 HKX
   unfold tokV
   go_wp2
   refine bodyPost_ret (v:= .tuple #[tokV k tx nu bits a en ly,.int .i64 0]) ?_ rfl (NextEnd.ok rfl ?_)
   ·simp only[results,Tryz.results13]
    go_simp
    rfl
   ·refine Below.al ?_ _
    iterate 7 refine Below.setCell ?_ (by first|omega|(simp only;omega)) _
    exact HB.out
 ·rw[if_neg hE]at hR
  have HF:=Hi hR
  have e0:((E:Int) !=0)=true:=bne_of_ne (by omega)
  have bE:E≤33:=by omega
  clear hR hle hE her hly
  go_enter Tryz.func13,Tryz.ntmps13
  go_wp2_with (go_at_call 30;(with_reducible refine(CS.out _).mono ?_);rintro e w' ⟨rfl,rfl⟩)
  generalize hW:w.alloc _=W1
  have HBL:Hid (Below w.heap.size w W1):=Hi (by subst hW;exact(Below.refl _ _).alloc (nR _) _)
  have HK:Hid (Tk7 W1 w.heap.size):=Hi (by subst hW;exact Tk7.new w)
  clear hW
  refine(Tryz.rbad K E _).mono ?_
  rintro e W4 ⟨rfl,b4⟩
  unfold badV tokV
  have HKX:=HK.out.below b4
  obtain⟨k0,k1,k2,k3,k4,k5,k6⟩:=HKX.cs
  obtain⟨f0,f1,f2,f3,f4,f5,f6⟩:=HKX.fs
  have HB:=Hi (HBL.out.trans (b4.mono HBL.out.size))
  clear b4 HKX
  go_wp2
  refine bodyPost_ret (v:= .tuple #[badV K,.int .i64 E]) ?_ rfl (NextEnd.er HF.out ?_)
  ·simp only[results,Tryz.results13]
   go_simp
   rfl
  ·iterate 7 refine Below.setCell ?_ (by first|omega|(simp only;omega)) _
   exact HB.out
end Go.Proofs
end
section
namespace Go.Proofs.YteegpmimbbgdlaaGreatDoor.Ab
open Go Go.RowKit Go.WideShapes Go.ChangeShapes
theorem blt_true {a b:Nat}(h:Nat.blt a b=true):a<b:=Nat.le_of_ble_eq_true h
section
variable {H:Type} {enc:TypeId×Value→H} {P:Program}
theorem post_below {f:Func} {s:ChangeSpec} {apart fresh handsOn again:Bool} {W W':World} {args:Array Value} {v:Value} {ds gs:List (DataW H)} {before pa pv:List MemPlace}
 (hW:DataW.Whole enc P f.params.toList s.vars apart W args.toList ds gs before)
 (hres:∀(b:Nat) (sp:Nat→Bool) (hd:Bool),DataW.TrodAll enc P W' b sp hd f.resultTypes.toList (v.resultList f.resultTypes.size) (s.fn H (ds++gs)).results [])
 (hargs:∀sp:Nat→Bool,(∀p∈before,sp p.block=true)→DataW.TrodAll enc P W' 0 sp true f.params.toList args.toList (s.fn H (ds++gs)).args pa)
 (hvars:∀sp:Nat→Bool,(∀p∈before,sp p.block=true)→DataW.TrodVars enc P W' sp s.vars (s.fn H (ds++gs)).vars pv)
 (hps:before=pa++pv) (hb:Below W.heap.size W W')
 (hok:∀(j:Nat) (t:TypeId) (r:Value),f.resultTypes[j]? =some t→(v.resultList f.resultTypes.size)[j]? =some r→Value.okWide P W' .any 0 t r):
 s.post enc P f apart fresh handsOn again W args v W':=by
 have hlt:∀p∈before,p.block<W.heap.size:=fun p hp=>hW.lt p hp
 have hold:∀p∈before,(fun b=>decide (b<W.heap.size)) p.block=true:=fun p hp=>by simpa using hlt p hp
 refine⟨ds,gs,before,[],pa,pv,hW,hres _ _ _,hargs _ hold,hvars _ hold,World.keptBut_mono (fun p hp=>⟨hp,?_⟩) (hb.frame (· ∈before)),fun _=> ?_⟩
 ·rw[hps,List.mem_append]at hp
  exact Or.inr hp
 ·obtain⟨_,_,_,_,_,hz,hn⟩:=hW
  refine⟨hok,_,_,([]++pa)++pv,⟨[]++pa,pv,trodAll_append (hargs _ (fun _ _=>rfl)) (hres _ _ _),hvars _ (fun _ _=>rfl),rfl,?_,?_⟩,?_⟩
  ·intro b off hp
   have hin:MemPlace.cell b off∈before:=by rw[hps];simpa using hp
   rw[hb.frozen (hlt _ hin)]
   exact hz b off hin
  ·intro ha
   have:=hn ha
   rw[hps]at this
   simpa using this
  ·intro p hp _
   rw[hps]
   simpa using hp
theorem trodAll_stays {T:TypeId→Prop}(K:Kids P T) (hsz:∀{t e:TypeId},T t→P.underlying t=some (.slice e)→0<P.cellsOf e){W W':World} {sp:Nat→Bool} :
 ∀{ts:List TypeId} {vs:List Value} {ds:List (DataW H)} {p:List MemPlace},DataW.TrodAll enc P W 0 (fun _=>true) true ts vs ds p→(∀t∈ts,T t)→(∀q∈p,W.sameAt W' q)→(∀q∈p,sp q.block=true)→DataW.TrodAll enc P W' 0 sp true ts vs ds p
 | [],[],[],p,h,_,_,_=>h
 |t::ts,v::vs,d::ds,p,h,ht,hs,hsp=>by
  obtain⟨p1,q1,⟨fuel,h1⟩,h2,rfl⟩:=h
  refine⟨p1,q1,⟨fuel,?_⟩,trodAll_stays K hsz h2 (fun t h=>ht t (.tail _ h)) (fun q hq=>hs q (List.mem_append_right _ hq)) (fun q hq=>hsp q (List.mem_append_right _ hq)),rfl⟩
  exact DataW.trod_stays K hsz (fun h=>by cases h) (ht t (.head _)) h1 (fun q hq=>hs q (List.mem_append_left _ hq)) (fun q hq=>hsp q (List.mem_append_left _ hq))
 | [],[],_::_,_,h,_,_,_=>h.elim
 | [],_::_,[],_,h,_,_,_=>h.elim
 | [],_::_,_::_,_,h,_,_,_=>h.elim
 |_::_,[],[],_,h,_,_,_=>h.elim
 |_::_,[],_::_,_,h,_,_,_=>h.elim
 |_::_,_::_,[],_,h,_,_,_=>h.elim
end
def typesOk (P:Program):Bool:=laidOutB P&&mapsRowed P&&(List.range P.types.size).all fun t=>match P.underlying t with
 |some (.slice e)=>Nat.blt 0 (P.cellsOf e)
 |_=>true
theorem laidMet_of_H {P:Program} {l:List (String×DataW Unit)} {w:World}(h0:(l.filter fun x=>x.2.handleName?.isSome).isEmpty=true) (h:laidMetH P l w):laidMet P l w:=by
 unfold laidMetH at h
 split at h
 ·exact h
 ·rename_i h1
  rw[h1]at h0
  cases h0
structure LawSpec (s:ChangeSpec) (k:Nat):Prop where
 vars:s.vars= []
 fn:∀(H:Type) (ds:List (DataW H)),ds.length=k→s.fn H ds= {results:= [.lit (.bool true)],args:=ds}
theorem trodAll_length {H:Type} {enc:TypeId×Value→H} {P:Program} {w:World} {base:Nat} {sp:Nat→Bool} {held:Bool} :∀{ts:List TypeId} {vs:List Value} {ds:List (DataW H)} {p:List MemPlace},DataW.TrodAll enc P w base sp held ts vs ds p→ds.length=ts.length
 | [],[],[],_,_=>rfl
 |_::_,_::_,_::_,_,⟨_,_,_,h,_⟩=>by simp[trodAll_length h]
 | [],[],_::_,_,h=>h.elim
 | [],_::_,[],_,h=>h.elim
 | [],_::_,_::_,_,h=>h.elim
 |_::_,[],[],_,h=>h.elim
 |_::_,[],_::_,_,h=>h.elim
 |_::_,_::_,[],_,h=>h.elim
theorem law_post {H:Type} {enc:TypeId×Value→H} {P:Program} {fn:Func} {s:ChangeSpec}(hs:LawSpec s fn.params.size){tb:TypeId}(htb:fn.resultTypes= #[tb]) (hub:P.underlying tb=some .bool) (hK:typesOk P=true) (hp:∀t∈fn.params.toList,t<P.types.size)
 {W W':World} {args:Array Value} {ds gs:List (DataW H)} {before:List MemPlace}(hW:DataW.Whole enc P fn.params.toList s.vars false W args.toList ds gs before) (hb:Below W.heap.size W W'):
 s.post enc P fn false true false false W args (.bool true) W':=by
 have hW':=hW
 obtain⟨p,q,hA,hV,hpq,_,_⟩:=hW'
 rw[hs.vars]at hV
 obtain⟨hgs,hq⟩:=trodVars_none hV
 unfold typesOk at hK
 simp only[Bool.and_eq_true]at hK
 obtain⟨⟨k1,k2⟩,k3⟩:=hK
 have K:=kids_rows k1 k2
 have hsz:∀{t e:TypeId},t<P.types.size→P.underlying t=some (.slice e)→0<P.cellsOf e:=fun {t e} h1 h2=>by
  have:=List.all_eq_true.1 k3 t (List.mem_range.2 h1)
  rw[h2]at this
  exact blt_true this
 have hl:=trodAll_length hA
 have hbp:before=p:=by rw[hpq,hq,List.append_nil]
 have hfn:s.fn H (ds++gs)= {results:= [.lit (.bool true)],args:=ds} :=by rw[hgs,List.append_nil];exact hs.fn H ds (by simpa using hl)
 refine post_below (pa:=p) (pv:= []) hW (fun b sp hd=> ?_) (fun sp hsp=> ?_) (fun sp _=> ?_) (by rw[hbp,List.append_nil]) hb (ok_one htb rfl (okWide_bool_mk hub _))
 ·rw[hfn,htb]
  exact trodAll_cons_mk (shut_bool hub _) trodAll_mk0
 ·rw[hfn]
  exact trodAll_stays K hsz hA hp (fun x hx=>hb.same (hW.lt x (by rw[hbp];exact hx))) (fun x hx=>hsp x (by rw[hbp];exact hx))
 ·rw[hfn,hs.vars]
  rfl
theorem witness_row {H:Type} {enc:TypeId×Value→H} {C:Checked} {os:Os} {f:FuncId} {fn:Func} {s:OpenSpec} {conds:List PathCond} {apart:Bool} {laid:List (String×DataW Unit)}(w0:World) (args:Array Value) (hos:w0.os=os)
 (hsh:(w0.forCall (fun _ _=>0) ⟨#[],args,[]⟩).Shaped C.prog) (hok:Input.okWideB C.prog (w0.forCall (fun _ _=>0) ⟨#[],args,[]⟩) f ⟨#[],args,[]⟩=true)
 (hrow:s.preRow enc C.prog fn conds apart laid (w0.forCall (fun _ _=>0) ⟨#[],args,[]⟩).memory args):
 ∃(w:World) (tape:Tape) (i:Input),w.os=os∧(w.forCall tape i).Shaped C.prog∧i.vars= []∧Input.okWide C.prog (w.forCall tape i) .any w.heap.size f i∧
  s.preRow enc C.prog fn conds apart laid (w.forCall tape i).memory i.args∧({} :Assume).holds C.prog (lone (Frame.enter C.prog f i.args .normal) [] (w.forCall tape i)):=
 ⟨w0,fun _ _=>0,⟨#[],args,[]⟩,hos,hsh,(Input.okWide_of_okWideB (base:=0) hok).1,(Input.okWide_of_okWideB hok).2,hrow,by
  simp only[Assume.holds]
  exact⟨by simp,by simp,fun _=>Modest.zero,by simp,by simp⟩⟩
end Go.Proofs.YteegpmimbbgdlaaGreatDoor.Ab
end
section
set_option linter.unusedVariables false
namespace Go.Proofs
open Go.Shelf
def Tryz.lays169_ren:Go.Shelf.Ren:=⟨fun|169=>77|n=>n,fun|70=>93|9=>9|0=>0|72=>95|37=>48|127=>125|3=>3|5=>5|n=>n,fun|n=>n⟩
theorem Tryz.lays169:Go.Proofs.Lays.n169 Tryz.prog Tryz.lays169_ren:= {
 mixed:=by kernel_rfl
 f169:=Tryz.func77.trans (congrArg some (by kernel_rfl))
 t0:=Tryz.underlying0
 a0:=Tryz.isAgg0
 z0:=Tryz.sizeOf0
 v0:=Tryz.zeroValue0
 t3:=Tryz.underlying3
 a3:=Tryz.isAgg3
 z3:=Tryz.sizeOf3
 v3:=Tryz.zeroValue3
 t9:=Tryz.underlying9
 a9:=Tryz.isAgg9
 z9:=Tryz.sizeOf9
 v9:=Tryz.zeroValue9
 t37:=Tryz.underlying48
 a37:=Tryz.isAgg48
 z37:=Tryz.sizeOf48
 v37:=Tryz.zeroValue48
 t70:=Tryz.underlying93
 a70:=Tryz.isAgg93
 z70:=Tryz.sizeOf93
 v70:=Tryz.zeroValue93
 t72:=Tryz.underlying95
 a72:=Tryz.isAgg95
 z72:=Tryz.sizeOf95
 v72:=Tryz.zeroValue95
 t127:=Tryz.underlying125
 a127:=Tryz.isAgg125
 z127:=Tryz.sizeOf125
 v127:=Tryz.zeroValue125}
theorem Tryz.Builder_Extra_169:Builder.Extra Tryz.prog Tryz.lays169_ren:= {
 sizeBuilder:=by kernel_rfl
 liesBuilder:=by kernel_rfl
 t5:=Tryz.underlying5
 a5:=Tryz.isAgg5
 z5:=Tryz.sizeOf5
 v5:=Tryz.zeroValue5
 infoByte:=by kernel_rfl
 cellsByte:=by kernel_rfl
 sizeByte:=by kernel_rfl
 neB5:=by decide}
open Go.RowKit in
theorem Tryz.Builder_String_any_k (B b:Nat) (l:List UInt8) (w:World) (h:Lib.IsBuilderF 95 5 B b (Lib.byteCells l) w) (hBw:B≤w.heap.size):
 Calls Tryz.prog 77 #[.pointer (some ⟨b,0,none⟩)] w fun e w'=>e= .returned (.string ⟨l.toArray⟩)∧(Lib.IsBuilderF 95 5 B b (Lib.byteCells l) w'∧Below B w w'∧Lib.OthersKept 5 (some b) w w'):=Any.Builder_String_any_k Tryz.lays169 Tryz.Builder_Extra_169 B b l w h hBw
def Tryz.lays118_ren:Go.Shelf.Ren:=⟨fun|118=>75|n=>n,fun|21=>21|3=>3|4=>4|n=>n,fun|n=>n⟩
theorem Tryz.lays118:Go.Proofs.Lays.n118 Tryz.prog Tryz.lays118_ren:= {
 mixed:=by kernel_rfl
 f118:=Tryz.func75.trans (congrArg some (by kernel_rfl))
 t3:=Tryz.underlying3
 a3:=Tryz.isAgg3
 z3:=Tryz.sizeOf3
 v3:=Tryz.zeroValue3
 t4:=Tryz.underlying4
 a4:=Tryz.isAgg4
 z4:=Tryz.sizeOf4
 v4:=Tryz.zeroValue4
 t21:=Tryz.underlying21
 a21:=Tryz.isAgg21
 z21:=Tryz.sizeOf21
 v21:=Tryz.zeroValue21}
theorem Tryz.utf8_RuneLen (r:Int) (w:World):
 Calls Tryz.prog 75 #[.int .i32 r] w fun e w'=>e= .returned (.int .i64 (Lib.runeLen r))∧w'=w:=Any.utf8_RuneLen Tryz.lays118 r w
def Tryz.lays206_ren:Go.Shelf.Ren:=⟨fun|206=>66|n=>n,fun|9=>9|4=>4|3=>3|n=>n,fun|n=>n⟩
def Tryz.lays99_ren:Go.Shelf.Ren:=⟨fun|99=>42|206=>66|n=>n,fun|9=>9|4=>4|3=>3|n=>n,fun|n=>n⟩
theorem Tryz.lays99:Go.Proofs.Lays.n99 Tryz.prog Tryz.lays99_ren:= {
 mixed:=by kernel_rfl
 f99:=Tryz.func42.trans (congrArg some (by kernel_rfl))
 f206:=Tryz.func66.trans (congrArg some (by kernel_rfl))
 t3:=Tryz.underlying3
 a3:=Tryz.isAgg3
 z3:=Tryz.sizeOf3
 v3:=Tryz.zeroValue3
 t4:=Tryz.underlying4
 a4:=Tryz.isAgg4
 z4:=Tryz.sizeOf4
 v4:=Tryz.zeroValue4
 t9:=Tryz.underlying9
 a9:=Tryz.isAgg9
 z9:=Tryz.sizeOf9
 v9:=Tryz.zeroValue9}
open Go.RowKit Go.Lib in
theorem Tryz.strings_HasPrefix (s p:ByteArray) (w:World):
 Calls Tryz.prog 42 #[.string s,.string p] w fun e w'=>e= .returned (.bool (Lib.hasPrefix s.data.toList p.data.toList))∧w'=w:=Any.strings_HasPrefix Tryz.lays99 s p w
def Tryz.lays242_ren:Go.Shelf.Ren:=⟨fun|242=>101|278=>119|n=>n,fun|72=>95|37=>48|21=>21|51=>67|4=>4|5=>5|46=>72|n=>n,fun|n=>n⟩
theorem Tryz.lays242:Go.Proofs.Lays.n242 Tryz.prog Tryz.lays242_ren:= {
 mixed:=by kernel_rfl
 f242:=Tryz.func101.trans (congrArg some (by kernel_rfl))
 f278:=Tryz.func119.trans (congrArg some (by kernel_rfl))
 t4:=Tryz.underlying4
 a4:=Tryz.isAgg4
 z4:=Tryz.sizeOf4
 v4:=Tryz.zeroValue4
 t5:=Tryz.underlying5
 a5:=Tryz.isAgg5
 z5:=Tryz.sizeOf5
 v5:=Tryz.zeroValue5
 t21:=Tryz.underlying21
 a21:=Tryz.isAgg21
 z21:=Tryz.sizeOf21
 v21:=Tryz.zeroValue21
 t37:=Tryz.underlying48
 a37:=Tryz.isAgg48
 z37:=Tryz.sizeOf48
 v37:=Tryz.zeroValue48
 t46:=Tryz.underlying72
 a46:=Tryz.isAgg72
 z46:=Tryz.sizeOf72
 v46:=Tryz.zeroValue72
 t51:=Tryz.underlying67
 a51:=Tryz.isAgg67
 z51:=Tryz.sizeOf67
 v51:=Tryz.zeroValue67}
theorem Tryz.Builder_Extra_242:Builder.Extra Tryz.prog Tryz.lays242_ren:= {
 sizeBuilder:=by kernel_rfl
 liesBuilder:=by kernel_rfl
 t5:=Tryz.underlying5
 a5:=Tryz.isAgg5
 z5:=Tryz.sizeOf5
 v5:=Tryz.zeroValue5
 infoByte:=by kernel_rfl
 cellsByte:=by kernel_rfl
 sizeByte:=by kernel_rfl
 neB5:=by decide}
open Go.RowKit in
theorem Tryz.utf8_AppendRune_own (B:Nat) (v:Value) (n:Nat) (xs:List Value) (r:Int) (hr0: -2147483648≤r) (hr1:r≤2147483647) (w:World) (hown:w.ownsRowF B 5 1 v n xs) (hlen:n+4≤140737488355328) (hBw:B≤w.heap.size):
 Calls Tryz.prog 101 #[v,.int .i32 r] w fun e w'=>∃v',e= .returned v'∧w'.ownsRowF B 5 1 v' (n+(Lib.runeCells r).length) (xs++Lib.runeCells r)∧∃o,(w.alloc o).grownBy w' v.ownBlock:=
 Any.utf8_AppendRune_own Tryz.lays242 Tryz.Builder_Extra_242 B v n xs r hr0 hr1 w hown hlen hBw
end Go.Proofs
end
section
namespace Go.Proofs
open Go.Shelf Go.RowKit
theorem Tryz.sizeBuilder:(Tryz.prog.info? 95).map (·.size)=some 2:=by kernel_rfl
theorem Tryz.liesBuilder:liesAt Tryz.prog Tryz.prog.depth 95 (2/Tryz.prog.cellsOf 95) 0 95 1=true:=by kernel_rfl
theorem Tryz.infoByte:(Tryz.prog.info? 5).map (fun i=>(i.zero,i.size,i.bytes))=some (some (.int .u8 0),1,1):=by kernel_rfl
theorem Tryz.copyCheck_used (b:Nat) (w:World) (h0:w.cell? ⟨b,0,none⟩=some (.pointer (some ⟨b,0,none⟩))):
 Calls Tryz.prog 97 #[.pointer (some ⟨b,0,none⟩)] w fun e w'=>e= .returned (.tuple #[])∧w'=w:=by
 obtain⟨j,hj,_⟩:=Option.map_eq_some_iff.1 Tryz.sizeBuilder
 go_enter Tryz.func97,Tryz.ntmps97
 go_wp2
 rw[Lib.run_neq_ptr_same w _ Tryz.underlying93 hj]
 go_wp2
 go_end0
 exact⟨rfl,rfl⟩
theorem Tryz.copyCheck_fresh (b:Nat) (w:World) (h0:w.cell? ⟨b,0,none⟩=some (.pointer none)) (hsh:w.shape? b=some (95,2)) (hfz:w.frozen? ⟨b,0,none⟩=false):
 Calls Tryz.prog 97 #[.pointer (some ⟨b,0,none⟩)] w fun e w'=>e= .returned (.tuple #[])∧w'=w.setCell ⟨b,0,none⟩ (.pointer (some ⟨b,0,none⟩)):=by
 obtain⟨j,hj,hjs⟩:=Option.map_eq_some_iff.1 Tryz.sizeBuilder
 go_enter Tryz.func97,Tryz.ntmps97
 go_wp2
 rw[Lib.run_to_unsafe w ⟨b,0,none⟩ Tryz.underlying93 Tryz.underlying146 hj (by rw[hjs];decide) hsh (Nat.zero_lt_succ 1)]
 simp only[Result.andThen]
 rw[Oper.upon_value]
 go_wp2
 rw[run_callFunc_extern Tryz.func117 (by kernel_rfl) (by kernel_rfl) (by kernel_rfl) (e:=Extern.AbiNoEscape.same) (by kernel_rfl)]
 rw[Lib.run_noEscape]
 simp only[Result.andThen]
 rw[Oper.upon_value]
 go_wp2
 rw[Lib.run_from_unsafe w ⟨b,0,none⟩ Tryz.underlying146 Tryz.underlying93 hj hsh Tryz.liesBuilder]
 simp only[Result.andThen]
 rw[Oper.upon_value]
 go_wp2
 go_end0
 exact⟨rfl,rfl⟩
theorem Tryz.copyCheck_k (B b:Nat) (bs:List Value) (w:World) (h:Lib.IsBuilderF 95 5 B b bs w):
 Calls Tryz.prog 97 #[.pointer (some ⟨b,0,none⟩)] w fun e w'=>e= .returned (.tuple #[])∧(Lib.BuilderAtF 95 5 B b (.pointer (some ⟨b,0,none⟩)) bs w'∧Below B w w'∧Lib.OthersKept 5 (some b) w w'):=by
 rcases h with h|h
 ·refine(Tryz.copyCheck_fresh b w h.cell0 h.shape h.frozen0).mono ?_
  rintro e w' ⟨rfl,rfl⟩
  exact⟨rfl,h.used _,(Below.refl B w).setCell (p:=⟨b,0,none⟩) h.1 _,(Lib.OthersKept.refl _ _ w).setCell ⟨b,0,none⟩ rfl _⟩
 ·refine(Tryz.copyCheck_used b w h.cell0).mono ?_
  rintro e w' ⟨rfl,rfl⟩
  exact⟨rfl,h,Below.refl B _,Lib.OthersKept.refl _ _ _⟩
theorem Tryz.WriteByte_k (B b:Nat) (bs:List Value) (c:Int) (w:World) (h:Lib.IsBuilderF 95 5 B b bs w) (hlen:bs.length+1≤140737488355328) (hBw:B≤w.heap.size):
 Calls Tryz.prog 76 #[.pointer (some ⟨b,0,none⟩),.int .u8 c] w fun e w'=>e= .returned .nilIface∧(Lib.BuilderAtF 95 5 B b (.pointer (some ⟨b,0,none⟩)) (bs++ [.int .u8 c]) w'∧Below B w w'∧Lib.OthersKept 5 (some b) w w'):=by
 obtain⟨i0,hi,hz0,hz1,hz2⟩:=info_parts Tryz.infoByte
 go_enter Tryz.func76,Tryz.ntmps76
 go_wp2_with (go_at_call 97;refine(Tryz.copyCheck_k B b bs _ h).mono ?_)
 rintro e w1 ⟨rfl,h1,hb1,hk1⟩
 obtain⟨hB,v,hbk,hown,hne⟩:=h1
 have c0:w1.cell? ⟨b,0,none⟩=some (.pointer (some ⟨b,0,none⟩)):=by rw[Lib.cell_of_heap hbk];rfl
 have c1:w1.cell? ⟨b,1,none⟩=some v:=by rw[Lib.cell_of_heap hbk];rfl
 go_wp2_with (at_builtin;refine wpList_append_ownF _ rfl _ _ 48 rfl B 5 i0 (.int .u8 0) 1 1 Tryz.underlying48 hi hz0 hz1 hz2 rfl (by decide) _ _ _ rfl (hown.alloc _) ⟨w1.heap.size,0,none⟩ 1 1 [.int .u8 c] rfl rfl ?c1 ?c2 ?c3 ?c4 ?c5 ?_)
 case c1=>
  intro j u hj
  match j,hj with
  |0,hj=>simp at hj;subst hj;simp[Addr.add]
 case c2=>intro u hu;simp at hu;subst hu;rfl
 case c3=>unfold maxLen;omega
 case c4=>omega
 case c5=>have:=hb1.size;simp;omega
 intro v' w2 hown' hgrow _
 have hlt:b<w1.heap.size:=by
  rcases Nat.lt_or_ge b w1.heap.size with h'|h'
  ·exact h'
  ·simp[Array.getElem?_eq_none h']at hbk
 have hb2:w2.heap[b]? =some (.cells #[.pointer (some ⟨b,0,none⟩),v] 95 (0,0)):=by
  rw[hgrow.block b (by simp;omega) (fun e=>hne e.symm),Lib.alloc_old w1 _ b hlt]
  exact hbk
 have d0:w2.cell? ⟨b,0,none⟩=some (.pointer (some ⟨b,0,none⟩)):=by rw[Lib.cell_of_heap hb2];rfl
 have d1:w2.cell? ⟨b,1,none⟩=some v:=by rw[Lib.cell_of_heap hb2];rfl
 have f1:w2.frozen? ⟨b,1,none⟩=false:=Lib.frozen_of_heap hb2 1
 obtain⟨g,cap,rfl⟩:∃g cap,v'= .slice (some ⟨g,0,none⟩) (bs.length+1) cap:=by
  rcases hown'.2 with⟨_,h0⟩|⟨g,cap,cur,fz,hv,_⟩
  ·omega
  ·exact⟨g,cap,hv⟩
 go_wp2
 go_ret
 refine⟨rfl,?_,?_,((hk1.alloc _).grown hgrow (Lib.ownsRowF_kind (hown.alloc _))).setCell ⟨b,1,none⟩ rfl _⟩
 ·exact Lib.BuilderAtF.put (T:=95) (e:=5) hB hb2 (bs':=bs++ [.int .u8 c]) (by simpa using hown') (by decide)
 ·exact((hb1.alloc (by have:=hb1.size;omega) _).grown hgrow (by have:=hb1.size;simp;omega) (fun k hk=>(hown.lt k hk).1)).setCell (p:=⟨b,1,none⟩) hB _
theorem Tryz.WriteRune_k (B b:Nat) (bs:List Value) (r:Int) (hr0: -2147483648≤r) (hr1:r≤2147483647) (w:World) (h:Lib.IsBuilderF 95 5 B b bs w) (hlen:bs.length+4≤140737488355328) (hBw:B≤w.heap.size):
 Calls Tryz.prog 79 #[.pointer (some ⟨b,0,none⟩),.int .i32 r] w fun e w'=>e= .returned (.tuple #[.int .i64 (Lib.runeCells r).length,.nilIface])∧(Lib.BuilderAtF 95 5 B b (.pointer (some ⟨b,0,none⟩)) (bs++Lib.runeCells r) w'∧Below B w w'∧Lib.OthersKept 5 (some b) w w'):=by
 have hk4:=Lib.runeCells_le r
 go_enter Tryz.func79,Tryz.ntmps79
 go_wp2_with (go_at_call 97;refine(Tryz.copyCheck_k B b bs _ h).mono ?_)
 rintro e w1 ⟨rfl,h1,hb1,hk1⟩
 obtain⟨hB,v,hbk,hown,hne⟩:=h1
 obtain⟨ao,cap,rfl⟩:∃ao cap,v= .slice ao bs.length cap:=by
  rcases hown.2 with⟨hv,h0⟩|⟨g,cap,cur,fz,hv,_⟩
  ·exact⟨none,0,by rw[hv,h0]⟩
  ·exact⟨_,_,hv⟩
 have c0:w1.cell? ⟨b,0,none⟩=some (.pointer (some ⟨b,0,none⟩)):=by rw[Lib.cell_of_heap hbk];rfl
 have c1:w1.cell? ⟨b,1,none⟩=some (.slice ao bs.length cap):=by rw[Lib.cell_of_heap hbk];rfl
 go_wp2_with (go_at_call 101;refine(Tryz.utf8_AppendRune_own B _ bs.length bs r hr0 hr1 _ hown hlen (by have:=hb1.size;omega)).mono ?_)
 rintro e w2 ⟨v',rfl,hown',o,hgrow⟩
 have hlt:b<w1.heap.size:=by
  rcases Nat.lt_or_ge b w1.heap.size with h'|h'
  ·exact h'
  ·simp[Array.getElem?_eq_none h']at hbk
 have hb2:w2.heap[b]? =some (.cells #[.pointer (some ⟨b,0,none⟩),.slice ao bs.length cap] 95 (0,0)):=by
  rw[hgrow.block b (by simp;omega) (fun e=>hne e.symm),Lib.alloc_old w1 _ b hlt]
  exact hbk
 have d0:w2.cell? ⟨b,0,none⟩=some (.pointer (some ⟨b,0,none⟩)):=by rw[Lib.cell_of_heap hb2];rfl
 have d1:w2.cell? ⟨b,1,none⟩=some (.slice ao bs.length cap):=by rw[Lib.cell_of_heap hb2];rfl
 have f1:w2.frozen? ⟨b,1,none⟩=false:=Lib.frozen_of_heap hb2 1
 obtain⟨g,cap',rfl⟩:∃g cap',v'= .slice (some ⟨g,0,none⟩) (bs.length+(Lib.runeCells r).length) cap':=by
  rcases hown'.2 with⟨_,h0⟩|⟨g,cap',cur,fz,hv,_⟩
  ·omega
  ·exact⟨g,cap',hv⟩
 go_wp2
 go_ret2
 refine⟨?_,?_,?_,((hk1.alloc _).grown hgrow (Lib.ownsRowF_kind (hown.alloc _))).setCell ⟨b,1,none⟩ rfl _⟩
 ·have e:((bs.length:Int)+((Lib.runeCells r).length:Int)-(bs.length:Int))=((Lib.runeCells r).length:Int):=by omega
  simp[e]
 ·exact Lib.BuilderAtF.put (T:=95) (e:=5) hB hb2 (bs':=bs++Lib.runeCells r) (by simpa using hown') (by decide)
 ·exact((hb1.alloc (by have:=hb1.size;omega) _).grown hgrow (by have:=hb1.size;simp;omega) (fun k hk=>(hown.lt k hk).1)).setCell (p:=⟨b,1,none⟩) hB _
end Go.Proofs
end
section
namespace Go.Proofs
open Go.RowKit Go.Hb
open Go.Proofs.YteegpmimbbgdlaaGreatDoor
def Laid0 (W:World):Prop:=∃W0:World,laidMet Tryz.prog Rows.lexerQuotesRow.laid W0∧W0.ShapedOpen Tryz.prog∧(∀g,g<Tryz.prog.globals.size→W.heap[g]? =W0.heap[g]?)∧Tryz.prog.globals.size≤W.heap.size
theorem Laid0.below {W W':World}(h:Laid0 W) (hb:Below W.heap.size W W'):Laid0 W':=by
 obtain⟨W0,h1,h2,h3,h4⟩:=h
 refine⟨W0,h1,h2,fun g hg=> ?_,?_⟩
 ·rw[hb.block g (by omega),h3 g hg]
 ·have:=hb.size;omega
theorem heap_more0 {P:Program} {W0:World}(h:W0.ShapedOpen P){k:Nat}(h1:Nat.ble P.globals.size k=true) (h2:Nat.ble (k+1) (begin P (fun _ _=>0) default).world.heap.size=true):k<W0.heap.size:=by
 obtain⟨o,_,ho,_⟩:=h.2 k (Nat.le_of_ble_eq_true h1) (Nat.le_of_ble_eq_true h2)
 exact(Array.getElem?_eq_some_iff.1 ho).1
theorem heap_more {W0:World}(h:W0.ShapedOpen Tryz.prog){k:Nat}(h1:Nat.ble Tryz.prog.globals.size k=true) (h2:Nat.ble (k+1) (begin Tryz.prog (fun _ _=>0) default).world.heap.size=true):k<W0.heap.size:=heap_more0 h h1 h2
theorem Laid0.of {W:World}(h1:laidMet Tryz.prog Rows.lexerQuotesRow.laid W) (h2:W.ShapedOpen Tryz.prog):Laid0 W:=by
 have h3:18<W.heap.size:=heap_more h2 (k:=18) (by kernel_rfl) (by kernel_rfl)
 have h4:Tryz.prog.globals.size≤18:=Nat.le_of_ble_eq_true (by kernel_rfl)
 exact⟨W,h1,h2,fun _ _=>rfl,by omega⟩
theorem isB_below {T e:TypeId} {B b:Nat} {bs:List Value} {W W':World}(h:Lib.IsBuilderF T e B b bs W) (hb:Below W.heap.size W W'):Lib.IsBuilderF T e B b bs W':=by
 have key:∀{p:Value},Lib.BuilderAtF T e B b p bs W→Lib.BuilderAtF T e B b p bs W':=by
  intro p h
  have hlt:=h.lt
  obtain⟨hB,v,hv,hown,hne⟩:=h
  exact⟨hB,v,(hb.block b hlt).trans hv,hown.kept (row:=none) ⟨hb.os,hb.tape,hb.output,hb.size,fun k hk _=>hb.block k hk⟩ (Classical.em _),hne⟩
 exact h.elim (fun x=> .inl (key x)) (fun x=> .inr (key x))
end Go.Proofs
end
