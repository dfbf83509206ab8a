import Derived.Test.YtpjcdbjablijkaaGreatDoorAbA
import Derived.Laws.Tables
import Derived.IntWalk
set_option linter.unusedVariables false
set_option linter.unusedSimpArgs false
set_option linter.unnecessarySimpa false
namespace Go.Proofs.YtpjcdbjablijkaaGreatDoor.Ab
open Go Go.RowKit
section
variable {P:Program} {N:Nat→Prop} {ρ:Rho} {ro:Nat} {st:St} {W w:World}
theorem strOp_run {op:BinOp} {s u:List UInt8} {r:AV}(h:strOp op s u= .ok r) (w:World):∃q,(Op.stringOp op ⟨⟨s⟩⟩ ⟨⟨u⟩⟩).run P w= .ok q w∧VR ρ r q:=by
 have e1:(ByteArray.toList ⟨⟨s⟩⟩)=s:=by simp[ByteArray.toList_eq]
 have e2:(ByteArray.toList ⟨⟨u⟩⟩)=u:=by simp[ByteArray.toList_eq]
 cases op<;>simp only[strOp]at h<;>first
  | (cases h;done)
  |skip
 ·split at h
  ·rename_i hl
   cases h
   have hl':=ble_true hl
   have hl2:s.length+u.length≤1000000:=hl'
   refine⟨.string ⟨⟨s++u⟩⟩,?_,.str _⟩
   have h1:¬((((⟨⟨s⟩⟩:ByteArray).size+(⟨⟨u⟩⟩:ByteArray).size:Nat):Int)>IntKind.i64.max):=by
    show¬(((s.length+u.length:Nat):Int)>9223372036854775807)
    omega
   simp only[Op.stringOp]
   rw[if_neg h1]
   have h2:(⟨⟨s⟩⟩:ByteArray)++⟨⟨u⟩⟩=⟨⟨s++u⟩⟩:=by
    apply ByteArray.ext
    simp
   rw[h2];rfl
  ·cases h
 all_goals
  cases h
  simp only[Op.stringOp,e1,e2,eqBytes_iff,ltBytes_iff]
  exact⟨_,rfl,.bool _⟩
def eqSem (op:BinOp) (t:TypeId) (v u:Value):Sem Value:=match op with
 | .eql=>do pure (.bool (←Op.equal t v u))
 |_=>do pure (.bool (!(←Op.equal t v u)))
theorem binOp_eql_forms (op:BinOp) (hop:op= .eql∨op= .neq) (t:TypeId) (v u:Value):(Go.binOp op t v u=eqSem op t v u)∨(∃k a k' b,v= .int k a∧u= .int k' b)∨
 (∃k a k' b,v= .float k a∧u= .float k' b)∨(∃k a b k' c d,v= .complex k a b∧u= .complex k' c d)∨(∃a b,v= .string a∧u= .string b):=by
 rcases hop with rfl|rfl<;>cases v<;>cases u<;>first
  |exact .inl rfl
  |exact .inr (.inl ⟨_,_,_,_,rfl,rfl⟩)
  |exact .inr (.inr (.inl ⟨_,_,_,_,rfl,rfl⟩))
  |exact .inr (.inr (.inr (.inl ⟨_,_,_,_,_,_,rfl,rfl⟩)))
  |exact .inr (.inr (.inr (.inr ⟨_,_,rfl,rfl⟩)))
theorem binOp_str (op:BinOp) (t:TypeId) (s u:ByteArray):Go.binOp op t (.string s) (.string u)=Op.stringOp op s u:=by cases op<;>rfl
theorem run_guarded {g:Sem Unit} {s:Sem Value} {q:Value}(hg:g.run P w= .ok () w) (hs:s.run P w= .ok q w):(do g;s:Sem Value).run P w= .ok q w:=by
 simp[Sem.run_bind,hg,hs]
theorem binA_run (h:MR N ρ ro st W w){op:BinOp} {t:TypeId} {x y:Operand} {a b r:AV} {v u:Value}(hv:VR ρ a v) (hu:VR ρ b u) (hq:binA P st op t x y a b= .ok r):
 ∃q,(do eqGuard op t x y v u;Go.binOp op t v u:Sem Value).run P w= .ok q w∧VR ρ r q:=by
 unfold binA at hq
 split at hq
 ·cases hv;cases hu
  obtain⟨q,h1,h2⟩:=strOp_run (P:=P) (ρ:=ρ) hq w
  refine⟨q,run_guarded (eqGuard_run (ρ:=ρ) (.str _) (.str _) rfl w) ?_,h2⟩
  rw[binOp_str];exact h1
 ·cases hv;cases hu
  obtain⟨q,h1,h2⟩:=scal_run (ρ:=ρ) hq w
  exact⟨q,run_guarded (eqGuard_run (ρ:=ρ) (.int _ _) (.int _ _) rfl w) h1,h2⟩
 ·cases hv;cases hu
  obtain⟨q,h1,h2⟩:=scal_run (ρ:=ρ) hq w
  exact⟨q,run_guarded (eqGuard_run (ρ:=ρ) (.flt _ _) (.flt _ _) rfl w) h1,h2⟩
 ·rename_i n1 n2 n3
  have forms:∀op',(op'= .eql∨op'= .neq)→eqLets P t x y a b=true→Go.binOp op' t v u=eqSem op' t v u:=by
   intro op' hop' hl
   rcases binOp_eql_forms op' hop' t v u with e|⟨k,m,k',m',rfl,rfl⟩|⟨k,m,k',m',rfl,rfl⟩|⟨k,m,m1,k',m',m2,rfl,rfl⟩|⟨s,s',rfl,rfl⟩
   ·exact e
   all_goals
    exfalso
    cases hv<;>cases hu<;>first
     | (revert hl;simp only[eqLets];intro hl;cases hl;done)
     |exact n1 _ _ rfl rfl
     |exact n2 _ _ _ _ rfl rfl
     |exact n3 _ _ _ _ rfl rfl
  split at hq
  ·split at hq
   ·rename_i hl
    obtain⟨e,he,hq⟩:=Rs.bind_ok hq
    cases hq
    have:=eqA_run h 100 10000 (by omega) hv hu he
    refine⟨.bool e,run_guarded (eqGuard_run hv hu hl w) ?_,.bool _⟩
    rw[forms _ (.inl rfl) hl]
    have h2:(Op.equal t v u).run P w= .ok e w:=this
    simp[eqSem,h2]
   ·cases hq
  ·split at hq
   ·rename_i hl
    obtain⟨e,he,hq⟩:=Rs.bind_ok hq
    cases hq
    have:=eqA_run h 100 10000 (by omega) hv hu he
    refine⟨.bool (!e),run_guarded (eqGuard_run hv hu hl w) ?_,.bool _⟩
    rw[forms _ (.inr rfl) hl]
    have h2:(Op.equal t v u).run P w= .ok e w:=this
    simp[eqSem,h2]
   ·cases hq
  ·cases hq
theorem over_get {α:Type} {a b:List α} {off:Nat}(h:off+b.length≤a.length) (i:Nat):(a.take off++b++a.drop (off+b.length))[i]? =if off≤i∧i<off+b.length then b[i-off]? else a[i]? :=by
 have ht:(a.take off).length=off:=by simp;omega
 by_cases h1:i<off
 ·rw[if_neg (by omega),List.append_assoc,List.getElem?_append_left (by omega),List.getElem?_take_of_lt h1]
 ·by_cases h2:i<off+b.length
  ·rw[if_pos ⟨by omega,h2⟩,List.append_assoc,List.getElem?_append_right (by omega),ht,List.getElem?_append_left (by omega)]
  ·rw[if_neg (by omega),List.append_assoc,List.getElem?_append_right (by omega),ht,List.getElem?_append_right (by omega),List.getElem?_drop]
   congr 1;omega
theorem VRs.write {l:List AV} {c:Array Value}(h:VRs ρ l c.toList){l':List AV} {vs:List Value}(h':VRs ρ l' vs){off:Nat}(hl:off+l'.length≤l.length):VRs ρ (over l off l') (writeCells c off vs).toList:=by
 have e1:=h.length
 have e2:=h'.length
 have e1':c.size=l.length:=by simpa using e1
 refine VRs.of_get ?_ fun i a v ha hv=> ?_
 ·simp only[Array.length_toList,writeCells_size,Ab.over,List.length_append,List.length_take,List.length_drop]
  omega
 ·unfold Ab.over at ha
  rw[over_get hl]at ha
  have hv':(writeCells c off vs)[i]? =some v:=by simpa using hv
  rw[writeCells_get vs c off i (by omega)]at hv'
  rw[e2]at hv'
  split at ha
  ·rename_i hi
   rw[if_pos hi]at hv'
   obtain⟨u,hu,hR⟩:=h'.get ha
   rw[hu]at hv';cases hv';exact hR
  ·rename_i hi
   rw[if_neg hi]at hv'
   obtain⟨u,hu,hR⟩:=h.get ha
   have:c[i]? =some u:=by simpa using hu
   rw[this]at hv';cases hv';exact hR
theorem foldl_write (vs:List Value):∀(cs:Array Value) (off j:Nat),((vs.zipIdx j).foldl (fun cs (x:Value×Nat)=>cs.setIfInBounds (off+x.2) x.1) cs)=writeCells cs (off+j) vs:=by
 induction vs with
 |nil=>intro cs off j;rfl
 |cons v r ih=>
  intro cs off j
  simp only[List.zipIdx_cons,List.foldl_cons,writeCells]
  rw[ih,Nat.add_assoc]
theorem foldl_writeA (vs cs:Array Value) (off:Nat):(vs.zipIdx.foldl (fun cs (x:Value×Nat)=>cs.setIfInBounds (off+x.2) x.1) cs)=writeCells cs off vs.toList:=by
 have:=foldl_write vs.toList cs off 0
 rw[←Array.foldl_toList]
 simpa using this
theorem fill_run {place:Nat→Option (Nat×Nat)} :∀{parts:List (Nat×AV)} {vs:List (Nat×Value)} {l r:List AV} {c:Array Value},parts.map (·.1)=vs.map (·.1)→VRs ρ (parts.map (·.2)) (vs.map (·.2))→VRs ρ l c.toList→
 fillA place parts l= .ok r→∃c',Instr.fill place c vs=some c'∧VRs ρ r c'.toList
 | [],[],l,r,c,_,_,hl,h=>by cases h;exact⟨c,rfl,hl⟩
 | [],_::_,_,_,_,h1,_,_,_=>by simp at h1
 |_::_,[],_,_,_,h1,_,_,_=>by simp at h1
 | (i,a)::ps,(j,v)::vs,l,r,c,h1,h2,hl,h=>by
  simp only[List.map_cons,List.cons.injEq]at h1
  obtain⟨rfl,h1⟩:=h1
  cases h2 with
  |cons _ _ _ _ hv h2=>
   simp only[fillA]at h
   split at h
   ·rename_i off size lc hp hc
    split at h
    ·rename_i hs hb
     have hs':=beq_true hs
     have hb':off+lc.length≤l.length:=ble_true hb
     have hcv:=hv.cells hc
     have e1:v.cells.size=lc.length:=by simpa using hcv.length
     have e2:c.size=l.length:=by simpa using hl.length
     have hw:=hl.write hcv hb'
     obtain⟨c',h3,h4⟩:=fill_run h1 h2 hw h
     refine⟨c',?_,h4⟩
     simp only[Instr.fill,hp]
     rw[if_neg (by simp only[ne_eq,Bool.or_eq_true,decide_eq_true_eq];omega),foldl_writeA]
     exact h3
    ·cases h
   ·cases h
theorem parts_map {fr:Fr} {ev:Operand→Value}(l:List (Nat×Operand)):(parts fr l).map (·.1)=(l.map fun p=>(p.1,ev p.2)).map (·.1):=by simp[parts,Function.comp_def]
theorem parts_rel {fr:Fr} {ev:Operand→Value} :∀{l:List (Nat×Operand)},(∀x∈l.map (·.2),VR ρ (fr.get x) (ev x))→VRs ρ ((parts fr l).map (·.2)) ((l.map fun p=>(p.1,ev p.2)).map (·.2))
 | [],_=> .nil
 |p::r,h=> .cons _ _ _ _ (h p.2 (by simp)) (parts_rel fun x hx=>h x (by simp at hx⊢;exact .inr hx))
theorem run_zero {t:TypeId} {z:AV}(h:tyZero P t=some z) (w:World):∃v,(zeroValue t).run P w= .ok v w∧VR ρ z v:=by
 unfold tyZero at h
 split at h
 ·rename_i i hi
  split at h
  ·rename_i v hv
   refine⟨v,by simp[zeroValue,typeInfo,hi,hv],?_⟩
   split at h
   ·cases h
   ·cases h;exact ofV_spec v
  ·cases h
 ·cases h
theorem buildA_run {t:TypeId} {ps:List (Nat×Operand)} {fr:Fr} {ev:Operand→Value} {r:AV}(he:∀x∈ps.map (·.2),VR ρ (fr.get x) (ev x)) (h:buildA P t (parts fr ps)= .ok r) (w:World):
 ∃v,(Instr.build t (ps.map fun p=>(p.1,ev p.2)).toArray).run P w= .ok v w∧VR ρ r v:=by
 unfold buildA at h
 split at h
 ·rename_i z hz
  obtain⟨zv,h1,h2⟩:=run_zero (ρ:=ρ) hz w
  cases h2 with|agg _ zc hzc=>
  split at h
  ·rename_i fs hfs
   split at h
   ·rename_i pl hpl
    obtain⟨cs,hcs,h⟩:=Rs.bind_ok h
    cases h
    obtain⟨c',h3,h4⟩:=fill_run (parts_map ps) (parts_rel he) hzc hcs
    refine⟨.agg c',?_,.agg _ _ h4⟩
    unfold placesOf at hpl
    rw[hfs]at hpl
    have hpl':fs.toList.mapM (fun f=>(P.info? f.type).map fun i=>(f.offset,i.size))=some pl:=by
     rw[←hpl]
     congr 1
     funext f
     unfold tySize
     cases P.info? f.type<;>rfl
    simp[Instr.build,h1,run_underlying hfs,Array.mapM_eq_mapM_toList,run_places w _ _ hpl',Value.cells,h3]
   ·cases h
  ·rename_i n e hty
   split at h
   ·rename_i size hs
    obtain⟨cs,hcs,h⟩:=Rs.bind_ok h
    cases h
    obtain⟨c',h3,h4⟩:=fill_run (parts_map ps) (parts_rel he) hzc hcs
    refine⟨.agg c',?_,.agg _ _ h4⟩
    simp only[Instr.build,Sem.run_bind,h1,Result.andThen_ok,run_underlying hty,run_size hs]
    have h3':Instr.fill (fun i=>some (i*size,size)) zc (ps.map fun p=>(p.1,ev p.2))=some c':=h3
    simp[Value.cells,h3']
   ·cases h
  ·cases h
 ·cases h
theorem natOf_spec {a:AV} {n:Nat} {v:Value}(h:natOf a=some n) (hv:VR ρ a v):∃k,v= .int k (n:Int):=by
 unfold natOf at h
 split at h
 ·cases h;cases hv;exact⟨_,rfl⟩
 ·cases h
theorem run_asIntOf {k:IntKind} {n:Int}(w:World):(asIntOf (.int k n)).run P w= .ok (k,n) w:=rfl
def OptR (x:Option Value) (n:Option Nat):Prop:=(x=none∧n=none)∨∃k m,x=some (.int k ((m:Nat):Int))∧n=some m
theorem numOf_spec {fr:Fr} {ev:Operand→Value} {x:Option Operand} {n:Option Nat}(hx:∀y,x=some y→VR ρ (fr.get y) (ev y)) (h:numOf fr x= .ok n):OptR (x.map ev) n:=by
 unfold numOf at h
 split at h
 ·cases h;exact .inl ⟨rfl,rfl⟩
 ·split at h
  ·rename_i y _ m hm
   cases h
   obtain⟨k,hk⟩:=natOf_spec hm (hx y rfl)
   exact .inr ⟨k,m,by simp[hk],rfl⟩
  ·cases h
theorem run_sliceBound {k:IntKind} {n y:Nat} {code:BoundsCode}(h:n≤y) (w:World):(Instr.sliceBound (.int k (n:Int)) y code).run P w= .ok n w:=by
 have:(0:Int)≤(n:Int)∧(n:Int)≤(y:Int):=by omega
 simp[Instr.sliceBound,run_asIntOf,h]
theorem run_sliceBounds {isSlice:Bool} {len cap:Nat} {lo hi mx:Option Value} {l h m:Option Nat}(hl:OptR lo l) (hh:OptR hi h) (hm:OptR mx m) (hb:l.getD 0≤h.getD len) (hmax:m=none→h.getD len≤cap)
 (hmx:∀k,m=some k→k≤cap∧∃j,h=some j∧j≤k) (w:World):
 (Instr.sliceBounds isSlice len cap lo hi mx).run P w= .ok (l.getD 0,h.getD len,m.getD cap) w:=by
 rcases hm with⟨rfl,rfl⟩|⟨km,m,rfl,rfl⟩
 ·have hc:=hmax rfl
  rcases hh with⟨rfl,rfl⟩|⟨kh,h,rfl,rfl⟩
  ·rcases hl with⟨rfl,rfl⟩|⟨kl,l,rfl,rfl⟩
   ·simp[Instr.sliceBounds]
   ·simp[Instr.sliceBounds,run_sliceBound (show l≤len from hb)]
  ·rcases hl with⟨rfl,rfl⟩|⟨kl,l,rfl,rfl⟩
   ·simp[Instr.sliceBounds,run_sliceBound (show h≤cap from hc)]
   ·simp[Instr.sliceBounds,run_sliceBound (show h≤cap from hc),run_sliceBound (show l≤h from hb)]
 ·obtain⟨hk,h,rfl,hj⟩:=hmx m rfl
  rcases hh with⟨_,e⟩|⟨kh,h',rfl,e⟩
  ·cases e
  ·cases e
   rcases hl with⟨rfl,rfl⟩|⟨kl,l,rfl,rfl⟩
   ·simp[Instr.sliceBounds,run_sliceBound hk,run_sliceBound hj]
   ·simp[Instr.sliceBounds,run_sliceBound hk,run_sliceBound hj,run_sliceBound (show l≤h from hb)]
theorem sel_off {c l off s b:Nat} :(if c=l then b+off else b+off+l*s)=b+(match Nat.beq c l with|true=>off|false=>Nat.add off (Nat.mul l s)):=by
 by_cases h:c=l
 ·subst h;rw[if_pos rfl]
  have:Nat.beq c c=true:=Nat.beq_refl c
  rw[this]
 ·rw[if_neg h]
  have:Nat.beq c l=false:=by
   cases hb:Nat.beq c l with
   |false=>rfl
   |true=>exact absurd (beq_true hb) h
  rw[this]
  show b+off+l*s=b+(off+l*s)
  omega
theorem subslice_spec {id off len size:Nat} {cap:Cap} {l h m:Option Nat} {r:AV} {L:Loc} {c o:Nat}(hs:subslice id off len size cap l h m= .ok r) (hL:ρ id=some L) (hc:CapR L off cap c o) (hl:len≤c):
 (l.getD 0≤h.getD len)∧(m=none→h.getD len≤c)∧(∀k,m=some k→k≤c∧∃j,h=some j∧j≤k)∧
 VR ρ r (.slice (some ⟨L.b,if m.getD c=l.getD 0 then o else o+l.getD 0*size,none⟩) (h.getD len-l.getD 0) (m.getD c-l.getD 0)):=by
 cases cap with
 |k n=>
  obtain⟨rfl,rfl⟩:=hc
  cases m with
  |none=>
   simp only[subslice]at hs
   split at hs
   ·rename_i h1 h2
    cases hs
    have h1':=ble_true h1
    have h2':=ble_true h2
    refine⟨h2',fun _=>h1',(fun k hk=>by cases hk),?_⟩
    refine .sl _ _ _ _ L _ _ hL ⟨rfl,sel_off⟩ ?_
    show h.getD len-l.getD 0≤c-l.getD 0
    omega
   ·cases hs
  |some m=>
   cases h with
   |none=>cases hs
   |some h=>
    simp only[subslice]at hs
    split at hs
    ·rename_i h1 h2 h3
     cases hs
     have h1':=ble_true h1
     have h2':=ble_true h2
     have h3':=ble_true h3
     refine⟨h3',(fun e=>by cases e),(fun k hk=>by cases hk;exact⟨h1',h,rfl,h2'⟩),?_⟩
     refine .sl _ _ _ _ L _ _ hL ⟨rfl,sel_off⟩ ?_
     show h-l.getD 0≤m-l.getD 0
     omega
    ·cases hs
 |g e=>
  obtain⟨hn,ho⟩:=hc
  cases m with
  |none=>
   simp only[subslice]at hs
   split at hs
   ·rename_i h1 h2 h3
    cases hs
    have h1':=ble_true h1
    have h2':=ble_true h2
    have h3':=beq_true h3
    subst h3'
    refine⟨h2',fun _=>by omega,(fun k hk=>by cases hk),?_⟩
    simp only[Option.getD_none]
    refine .sl _ _ _ _ L _ _ hL ⟨?_,?_⟩ (by show h.getD len-l.getD 0≤c-l.getD 0;omega)
    ·show L.base+(off+l.getD 0*e)+(c-l.getD 0)*e=L.n
     have:l.getD 0≤c:=by omega
     rw[Nat.sub_mul]
     have:=Nat.mul_le_mul_right e this
     omega
    ·by_cases hcl:c=l.getD 0
     ·left;omega
     ·right
      rw[if_neg hcl]
      show o+l.getD 0*e=L.base+(off+l.getD 0*e)
      rcases ho with ho|ho<;>omega
   ·cases hs
  |some m=>
   cases h with
   |none=>cases hs
   |some h=>
    simp only[subslice]at hs
    split at hs
    ·rename_i h1 h2 h3
     cases hs
     obtain⟨h0,h00⟩:=Bool.and_eq_true_iff.1 h1
     have h0':=ble_true h0
     have h00':=blt_true h00
     have h2':=ble_true h2
     have h3':=ble_true h3
     have ho':o=L.base+off:=by rcases ho with ho|ho<;>omega
     subst ho'
     refine⟨h3',(fun e=>by cases e),(fun k hk=>by cases hk;exact⟨by omega,h,rfl,h2'⟩),?_⟩
     refine .sl _ _ _ _ L _ _ hL ⟨rfl,sel_off⟩ ?_
     show h-l.getD 0≤m-l.getD 0
     omega
    ·cases hs
theorem sliceA_run {t:TypeId} {x:AV} {v:Value} {lo hi mx:Option Operand} {fr:Fr} {ev:Operand→Value} {r:AV}(hv:VR ρ x v) (he:∀y,(lo=some y∨hi=some y∨mx=some y)→VR ρ (fr.get y) (ev y))
 (h:sliceA P fr t x lo hi mx= .ok r) (w:World):∃q,(Instr.sliceAt t v (lo.map ev) (hi.map ev) (mx.map ev)).run P w= .ok q w∧VR ρ r q:=by
 unfold sliceA at h
 obtain⟨l,hl,ha⟩:=Rs.bind_ok h
 clear h
 obtain⟨hh,hhi,hb⟩:=Rs.bind_ok ha
 clear ha
 obtain⟨m,hm,h⟩:=Rs.bind_ok hb
 clear hb
 have ol:=numOf_spec (fun z hz=>he z (.inl hz)) hl
 have oh:=numOf_spec (fun z hz=>he z (.inr (.inl hz))) hhi
 have om:=numOf_spec (fun z hz=>he z (.inr (.inr hz))) hm
 split at h
 ·rename_i hty
  split at h
  ·cases hv
   rename_i s
   split at h
   ·dsimp only at h
    split at h
    ·rename_i h1 h2
     cases h
     have h1':=ble_true h1
     have h2':=ble_true h2
     have em:mx.map ev=none:=by
      rcases om with⟨e,_⟩|⟨_,_,_,e⟩
      ·exact e
      ·cases e
     refine⟨.string ⟨⟨(s.drop (l.getD 0)).take (hh.getD s.length-l.getD 0)⟩⟩,?_,.str _⟩
     have hsz:(⟨⟨s⟩⟩:ByteArray).size=s.length:=rfl
     have hb:=run_sliceBounds (P:=P) (isSlice:=false) (len:=s.length) (cap:=s.length) ol oh (.inl ⟨rfl,rfl⟩) h2' (fun _=>h1') (fun k hk=>by cases hk) w
     have hx:(⟨⟨s⟩⟩:ByteArray).extract (l.getD 0) (hh.getD s.length)=⟨⟨(s.drop (l.getD 0)).take (hh.getD s.length-l.getD 0)⟩⟩:=by
      apply ByteArray.ext
      simp[ByteArray.data_extract]
     simp only[Instr.sliceAt,Sem.run_bind,run_underlying hty,Result.andThen_ok,Instr.slice]
     simp only[em,Option.isSome_none,Bool.false_eq_true,if_false,hsz]
     simp[hb,hx]
    ·cases h
   ·cases h
  ·cases h
 ·rename_i e hty
  split at h
  ·rename_i size hsize
   split at h
   ·cases hv
    rename_i L c o hL hle hc
    obtain⟨h1,h2,h3,h4⟩:=subslice_spec h hL hc hle
    refine⟨_,?_,h4⟩
    have hb:=run_sliceBounds (P:=P) (isSlice:=true) (cap:=c) ol oh om h1 h2 h3 w
    simp only[Instr.sliceAt,Sem.run_bind,run_underlying hty,Result.andThen_ok,Instr.slice,hb,run_size hsize]
    simp only[Option.map_some,addr_add]
    split<;>rfl
   ·cases hv
    split at h
    ·rename_i h1 h2
     cases h
     refine⟨.slice none 0 0,?_,.nilsl⟩
     have hb:=run_sliceBounds (P:=P) (isSlice:=true) (len:=0) (cap:=0) ol oh om (by omega) (fun _=>by omega) (fun k hk=>by cases hk) w
     simp[Instr.sliceAt,run_underlying hty,Instr.slice,hb,run_size hsize,h1,h2]
    ·cases h
   ·cases h
  ·cases h
 ·rename_i n e hty
  split at h
  ·rename_i size hsize
   split at h
   ·cases hv
    rename_i L hL
    obtain⟨h1,h2,h3,h4⟩:=subslice_spec h hL (c:=n) (o:=L.base+_) ⟨rfl,rfl⟩ (Nat.le_refl _)
    refine⟨_,?_,h4⟩
    have hb:=run_sliceBounds (P:=P) (isSlice:=false) (cap:=n) ol oh om h1 h2 h3 w
    simp only[Instr.sliceAt,Sem.run_bind,run_underlying hty,Result.andThen_ok,run_size hsize,Instr.sureAddr]
    simp only[Sem.run_pure,Result.andThen_ok,addr_add]
    rw[hb]
    simp only[Result.andThen_ok]
    split<;>rfl
   ·cases h
  ·cases h
 ·cases h
end
section
variable {P:Program} {N:Nat→Prop} {ρ:Rho} {ro:Nat} {st:St} {W w:World}
theorem fieldAt_spec {s f:Nat} {t o:Nat}(h:fieldAt P s f=some (t,o)):∃fs x,P.underlying s=some (.struct fs)∧fs[f]? =some x∧x.type=t∧x.offset=o:=by
 unfold fieldAt at h
 split at h
 ·rename_i fs hfs
  split at h
  ·rename_i x hx
   cases h
   exact⟨fs,x,hfs,by simpa using hx,rfl,rfl⟩
  ·cases h
 ·cases h
theorem fieldAddr_run {s f id off o:Nat} {v:Value}(hv:VR ρ (.ptr id off) v) (h:fieldOff P s f=some o) (w:World):∃q,(Instr.fieldAt s v f).run P w= .ok q w∧VR ρ (.ptr id (Nat.add off o)) q:=by
 cases hv with|ptr _ _ L hL=>
 unfold fieldOff at h
 split at h
 ·rename_i t o' hf
  split at h
  ·rename_i n hn
   cases h
   obtain⟨fs,x,h1,h2,rfl,rfl⟩:=fieldAt_spec hf
   refine⟨_,?_,.ptr id (off+x.offset) L hL⟩
   simp[Instr.fieldAt,run_underlying h1,h2,Instr.sureAddr,fieldPlace,run_size hn,addr_add,Nat.add_assoc]
  ·cases h
 ·cases h
theorem field_run {s f t o:Nat} {cs:List AV} {v:Value} {r:AV}(hv:VR ρ (.agg cs) v) (hf:fieldAt P s f=some (t,o)) (h:Ab.part P t cs o= .ok r) (w:World):∃q,(Instr.field s v f).run P w= .ok q w∧VR ρ r q:=by
 cases hv with|agg _ c hc=>
 obtain⟨fs,x,h1,h2,rfl,rfl⟩:=fieldAt_spec hf
 obtain⟨q,h3,h4⟩:=part_run hc h w
 exact⟨q,by simp[Instr.field,run_underlying h1,h2,asAgg,h3],h4⟩
theorem indexAddr_run {t:Nat} {x i r:AV} {v u:Value}(hv:VR ρ x v) (hu:VR ρ i u) (h:indexAddrA P t x i= .ok r) (w:World):∃q,(Instr.indexAt t v u).run P w= .ok q w∧VR ρ r q:=by
 unfold indexAddrA at h
 split at h
 ·cases h
 rename_i n hn
 obtain⟨k,rfl⟩:=natOf_spec hn hu
 split at h
 ·rename_i len e hty
  split at h
  ·rename_i size id off hsz
   cases hv with|ptr _ _ L hL=>
   split at h
   ·rename_i hb
    cases h
    have hb':=blt_true hb
    refine⟨_,?_,.ptr id (off+n*size) L hL⟩
    have h1:(0:Int)≤(n:Int)∧(n:Int)<(len:Int):=by omega
    simp[Instr.indexAt,run_asIntOf,run_underlying hty,Instr.sureAddr,run_size hsz,addr_add,Nat.add_assoc,hb']
   ·cases h
  ·cases h
 ·rename_i e hty
  split at h
  ·rename_i size id off len cap hsz
   cases hv with|sl _ _ _ _ L c o hL hc hle=>
   split at h
   ·rename_i hb
    cases h
    have hb':=blt_true hb
    have ho:o=L.base+off:=by
     cases cap with
     |k m=>exact hc.2
     |g m=>rcases hc.2 with h0|h0
           ·omega
           ·exact h0
    subst ho
    refine⟨_,?_,.ptr id (off+n*size) L hL⟩
    simp[Instr.indexAt,run_asIntOf,run_underlying hty,run_size hsz,addr_add,Nat.add_assoc,hb']
   ·cases h
  ·cases h
 ·cases h
theorem index_run {t:Nat} {x i r:AV} {v u:Value}(hv:VR ρ x v) (hu:VR ρ i u) (h:indexA P t x i= .ok r) (w:World):∃q,(Instr.index t v u).run P w= .ok q w∧VR ρ r q:=by
 unfold indexA at h
 split at h
 ·cases h
 rename_i n hn
 obtain⟨k,rfl⟩:=natOf_spec hn hu
 split at h
 ·rename_i len e cs hty
  cases hv with|agg _ c hc=>
  split at h
  ·rename_i size hsz hb
   have hb':=blt_true hb
   obtain⟨q,h3,h4⟩:=part_run hc h w
   refine⟨q,?_,h4⟩
   have h3':(Go.part e c (n*size)).run P w= .ok q w:=h3
   simp[Instr.index,run_asIntOf,run_underlying hty,run_size hsz,hb',h3']
  ·cases h
 ·rename_i s hty
  cases hv
  split at h
  ·rename_i b hb
   cases h
   refine⟨_,?_,.int _ _⟩
   have hlt:=(List.getElem?_eq_some_iff.1 hb).1
   have hlt':n<(⟨⟨s⟩⟩:ByteArray).size:=hlt
   have hget:(⟨⟨s⟩⟩:ByteArray)[n]? =some b:=by
    rw[getElem?_pos (⟨⟨s⟩⟩:ByteArray) n hlt']
    congr 1
    exact(List.getElem?_eq_some_iff.1 hb).2
   simp[Instr.index,run_asIntOf,run_underlying hty,hget]
  ·cases h
 ·cases h
theorem extract_run {r:AV} {v:Value} {i:Nat} {vs:List AV}(hv:VR ρ (.tup vs) v) (h:vs[i]? =some r) (w:World):∃q,(Instr.extract v i).run P w= .ok q w∧VR ρ r q:=by
 cases hv with|tup _ c hc=>
 obtain⟨q,h1,h2⟩:=hc.get h
 have h1':c[i]? =some q:=by simpa using h1
 exact⟨q,by simp[Instr.extract,h1'],h2⟩
theorem withOk_run {ok:Bool} {a:AV} {u:Value}(ha:VR ρ a u) (w:World):∃q,(pure (if ok=true then .tuple #[u,.bool true]else u):Sem Value).run P w= .ok q w∧VR ρ (withOk ok a) q:=by
 cases ok
 ·exact⟨_,rfl,ha⟩
 ·exact⟨_,rfl,.tup _ _ (.cons _ _ _ _ ha (.cons _ _ _ _ (.bool _) .nil))⟩
theorem assertNo_run {ok:Bool} {t:TypeId} {r:AV}(s d:Option TypeId) (m:String) (h:assertNo P t ok= .ok r) (w:World):
 ∃q,(if ok=true then(do pure (.tuple #[←zeroValue t,.bool false]))else runtimePanic (.typeAssertion s d t m):Sem Value).run P w= .ok q w∧VR ρ r q:=by
 unfold assertNo at h
 cases ok
 ·cases h
 ·simp only at h
  split at h
  ·rename_i z hz
   cases h
   obtain⟨zv,h1,h2⟩:=run_zero (ρ:=ρ) hz w
   exact⟨_,by simp[h1],.tup _ _ (.cons _ _ _ _ h2 (.cons _ _ _ _ (.bool _) .nil))⟩
  ·cases h
theorem assert_run {x r:AV} {v:Value} {xt t:TypeId} {ok:Bool}(hv:VR ρ x v) (h:assertA P x t ok= .ok r) (w:World):∃q,(Instr.typeAssert v xt t ok).run P w= .ok q w∧VR ρ r q:=by
 unfold assertA at h
 split at h
 ·cases hv
  split at h
  ·rename_i d hty
   simp only[Instr.typeAssert,Sem.run_bind,run_underlying hty,Result.andThen_ok]
   cases d
   case interface ms=>exact assertNo_run none none "" h w
   all_goals exact assertNo_run (some xt) none "" h w
  ·cases h
 ·rename_i d y
  cases hv with|iface _ _ u hu=>
  split at h
  ·rename_i want hty
   simp only[Instr.typeAssert,Sem.run_bind,run_underlying hty,Result.andThen_ok]
   split at h
   ·rename_i i hi
    simp only[typeInfo,Sem.run_bind,run_program,Result.andThen_ok,hi,Sem.run_pure]
    split at h
    ·rename_i hm
     cases h
     simp only[hm]
     exact withOk_run (VR.iface d y u hu) w
    ·rename_i m hm
     simp only[hm]
     exact assertNo_run none (some d) m h w
   ·cases h
  ·rename_i dd hn hty
   simp only[Instr.typeAssert,Sem.run_bind,run_underlying hty,Result.andThen_ok]
   have key:∃q,(if d=t then(pure (if ok=true then .tuple #[u,.bool true]else u):Sem Value)else(if ok=true then(do pure (.tuple #[←zeroValue t,.bool false]))else runtimePanic (.typeAssertion (some xt) (some d) t "")):Sem Value).run P w= .ok q w∧VR ρ r q:=by
    split at h
    ·rename_i e
     cases h
     rw[if_pos (beq_true e)]
     exact withOk_run hu w
    ·rename_i e
     rw[if_neg (beq_false e)]
     exact assertNo_run (some xt) (some d) "" h w
   cases dd
   case interface ms=>exact absurd rfl (hn ms)
   all_goals exact key
  ·cases h
 ·cases h
theorem checkKey_fields {n:Nat} {cs:List AV} {c:Array Value}(hc:VRs ρ cs c.toList) (e:Bool) (d:Nat) (w:World) (hf:∀t a v,VR ρ a v→checkA P n t a=true→(Instr.checkKey e d t v).run P w= .ok () w):
 ∀(fs:List Field),checkFields (checkA P n) P cs (eqFields fs)=true→
  (forIn fs PUnit.unit (fun f (_:PUnit)=>if f.name≠ "_" then(do Instr.checkKey e d f.type (←Go.part f.type c f.offset);pure (ForInStep.yield PUnit.unit))else pure (ForInStep.yield PUnit.unit)):Sem PUnit).run P w= .ok PUnit.unit w
 | [],_=>rfl
 |x::r,h=>by
  unfold Ab.eqFields at h
  by_cases hn:x.name≠ "_"
  ·rw[if_pos hn]at h
   simp only[checkFields]at h
   split at h
   ·rename_i a ha
    obtain⟨h1,h2⟩:=Bool.and_eq_true_iff.1 h
    obtain⟨v,hv,hR⟩:=part_run hc ha w
    have:=hf _ _ _ hR h1
    simp only[List.forIn_cons,Sem.run_bind,if_pos hn,hv,this,Result.andThen_ok,Sem.run_pure]
    exact checkKey_fields hc e d w hf r h2
   ·cases h
  ·rw[if_neg hn]at h
   simp only[List.forIn_cons,Sem.run_bind,if_neg hn,Sem.run_pure,Result.andThen_ok]
   exact checkKey_fields hc e d w hf r h
theorem checkA_run:∀(n d:Nat),n≤d→∀{t:TypeId} {a:AV} {v:Value}(e:Bool) (w:World),VR ρ a v→checkA P n t a=true→(Instr.checkKey e d t v).run P w= .ok () w:=by
 intro n
 induction n with
 |zero=>intro d _ t a v e w _ h;cases h
 |succ n ih=>
  intro d hd t a v e w hv h
  obtain⟨d,rfl⟩:∃k,d=k+1:=⟨d-1,by omega⟩
  simp only[checkA]at h
  split at h
  ·cases h
  rename_i ty hty
  split at h
  ·cases hv;split at h<;>cases h
   simp[Instr.checkKey,run_underlying hty]
  ·cases hv;split at h<;>cases h
   simp[Instr.checkKey,run_underlying hty]
  ·cases hv;split at h<;>cases h
   simp[Instr.checkKey,run_underlying hty]
  ·cases hv with|agg _ c hc=>
   split at h
   ·rename_i fs
    have:=checkKey_fields hc e d w (fun t a v ha hb=>ih d (by omega) e w ha hb) _ h
    simp only[Instr.checkKey,Sem.run_bind,run_underlying hty,Result.andThen_ok]
    rw[←Array.forIn_toList,this]
    rfl
   ·cases h
  ·cases h
theorem sameNow_run {t:TypeId} {d:TypeDesc} {a b:Value} {q:Bool}(ht:P.underlying t=some d) (h:Instr.sameNow d a b=some q) (n:Nat) (w:World):(Op.equalIn (n+1) t a b).run P w= .ok q w:=by
 unfold Instr.sameNow at h
 split at h
 ·split at h
  ·rename_i e;cases h;subst e
   simp[Op.equalIn,run_underlying ht]
  ·cases h
 ·cases h;simp[Op.equalIn,run_underlying ht]
 ·cases h;simp[Op.equalIn,run_underlying ht]
 ·cases h
theorem findNow_asking {t:TypeId} {d:TypeDesc} {k:Value}(ht:P.underlying t=some d) (w:World):∀{m:List MapEntry} {i:Nat} {r:Option (Nat×Value)},Instr.findNow d k m i=some r→(Instr.findAsking t k m i).run P w= .ok r w
 | [],i,r,h=>by cases h;rfl
 |e::es,i,r,h=>by
  simp only[Instr.findNow]at h
  have hq:=fun q (hs:Instr.sameNow d k e.key=some q)=>sameNow_run (P:=P) ht hs 9999 w
  simp only[Instr.findAsking,Sem.run_bind]
  split at h
  ·rename_i hs
   cases h
   have h2:(Op.equal t k e.key).run P w= .ok true w:=hq _ hs
   rw[h2];rfl
  ·rename_i hs
   have h2:(Op.equal t k e.key).run P w= .ok false w:=hq _ hs
   rw[h2]
   exact findNow_asking ht w h
  ·cases h
theorem findKey_of {t:TypeId} {d:TypeDesc} {k:Value}(ht:P.underlying t=some d){m:List MapEntry} {r:Option (Nat×Value)} {w:World}(h:(Instr.findAsking t k m).run P w= .ok r w):(Instr.findKey t k m).run P w= .ok r w:=by
 simp only[Instr.findKey,Sem.run_bind,run_underlying ht,Result.andThen_ok]
 split
 ·rename_i r' hr'
  have:=findNow_asking (P:=P) ht w hr'
  rw[this]at h
  cases h;rfl
 ·exact h
def FoundR (ρ:Rho) (m:List MapEntry) (i:Nat) (r:Option (Nat×AV×AV)) (r':Option (Nat×Value)):Prop:=match r with
 |none=>r'=none
 |some p=>∃me,r'=some (p.1,me.val)∧i≤p.1∧m[p.1-i]? =some me∧VR ρ p.2.1 me.key∧VR ρ p.2.2 me.val
theorem findA_run (h:MR N ρ ro st W w){t:TypeId} {k:AV} {kv:Value}(hk:VR ρ k kv):∀{es:List (AV×AV)} {m:List MapEntry} {i:Nat} {r:Option (Nat×AV×AV)},ERs ρ es m→findA P st t k es i= .ok r→
 ∃r',(Instr.findAsking t kv m i).run P w= .ok r' w∧FoundR ρ m i r r'
 | [],m,i,r,he,hr=>by
  cases hr
  obtain⟨h1,_⟩:=he
  have:m= []:=by
   have:=h1.length;simpa using this
  subst this
  exact⟨none,rfl,rfl⟩
 |e::es,[],i,r,he,hr=>by
  obtain⟨h1,_⟩:=he
  have:=h1.length;simp at this
 |e::es,me::m,i,r,he,hr=>by
  obtain⟨h1,h2⟩:=he
  cases h1 with|cons _ _ _ _ hk1 h1=>cases h2 with|cons _ _ _ _ hv1 h2=>
  simp only[findA]at hr
  obtain⟨q,hq,hr⟩:=Rs.bind_ok hr
  have hq':(Op.equal t kv me.key).run P w= .ok q w:=eqA_run h 20 10000 (by omega) hk hk1 hq
  simp only[Instr.findAsking,Sem.run_bind,hq',Result.andThen_ok]
  cases q with
  |true=>
   cases hr
   exact⟨_,rfl,me,rfl,Nat.le_refl _,(by simp),hk1,hv1⟩
  |false=>
   obtain⟨r',h3,h4⟩:=findA_run h hk (i:=i+1) ⟨h1,h2⟩ hr
   refine⟨r',h3,?_⟩
   cases r with
   |none=>exact h4
   |some p=>
    obtain⟨x,a,b,c,d⟩:=h4
    refine⟨x,a,by omega,?_,d⟩
    rw[show p.1-i=(p.1-(i+1))+1 from by omega]
    simpa using c
theorem mapKV_spec {t k v:TypeId}(h:mapKV P t=some (k,v)):P.underlying t=some (.map k v):=by
 unfold mapKV at h
 split at h
 ·rename_i hu;cases h;exact hu
 ·cases h
theorem run_getObj {b:Nat} {o:Obj}(hb:w.heap[b]? =some o) (hc:∀c e f,o≠ .cells c e f):(getObj b).run P w= .ok o w:=by
 unfold getObj Sem.run
 rw[hb]
 cases o<;>first|rfl|exact absurd rfl (hc _ _ _)
theorem lookup_run (h:MR N ρ ro st W w){t:TypeId} {m k r:AV} {mv kv:Value} {ok:Bool}(hm:VR ρ m mv) (hk:VR ρ k kv) (hr:lookupA P st t m k ok= .ok r):∃q,(Instr.lookup t mv kv ok).run P w= .ok q w∧VR ρ r q:=by
 unfold lookupA at hr
 split at hr
 ·cases hr
 rename_i kt vt ht
 have ht':=mapKV_spec ht
 split at hr
 ·cases hr
 rename_i hck
 obtain⟨es,hes,hr⟩:=Rs.bind_ok hr
 obtain⟨f,hf,hr⟩:=Rs.bind_ok hr
 have fin:∀(arr:Array MapEntry),ERs ρ es arr.toList→(Instr.checkKey arr.isEmpty 10000 kt kv).run P w= .ok () w∧∃r' q,(Instr.findKey kt kv arr.toList).run P w= .ok r' w∧VR ρ r q∧
  ((∃i v,r'=some (i,v)∧q=if ok=true then .tuple #[v,.bool true]else v)∨(r'=none∧∃z,(zeroValue vt).run P w= .ok z w∧q=if ok=true then .tuple #[z,.bool false]else z)):=by
  intro arr harr
  obtain⟨r',h1,h2⟩:=findA_run h hk harr hf
  have hkey:∃d,P.underlying kt=some d:=by
   cases hd:P.underlying kt with
   |none=>simp[checkA,hd]at hck
   |some d=>exact⟨d,rfl⟩
  obtain⟨d,hd⟩:=hkey
  have h3:=findKey_of hd h1
  have h4:=checkA_run (P:=P) 20 10000 (by omega) arr.isEmpty w hk hck
  refine⟨h4,r',?_⟩
  cases f with
  |none=>
   have:r'=none:=h2
   subst this
   simp only at hr
   split at hr
   ·rename_i z hz
    obtain⟨zv,h5,h6⟩:=run_zero (ρ:=ρ) hz w
    cases hr
    cases ok
    ·exact⟨zv,h3,h6,.inr ⟨rfl,zv,h5,rfl⟩⟩
    ·exact⟨_,h3,.tup _ _ (.cons _ _ _ _ h6 (.cons _ _ _ _ (.bool _) .nil)),.inr ⟨rfl,zv,h5,rfl⟩⟩
   ·cases hr
  |some p=>
   obtain⟨me,rfl,_,_,_,hv⟩:=h2
   cases hr
   cases ok
   ·exact⟨me.val,h3,hv,.inl ⟨_,_,rfl,rfl⟩⟩
   ·exact⟨_,h3,.tup _ _ (.cons _ _ _ _ hv (.cons _ _ _ _ (.bool _) .nil)),.inl ⟨_,_,rfl,rfl⟩⟩
 unfold St.entries at hes
 split at hes
 ·cases hes
  cases hm
  obtain⟨h0,r',q,h1,h2,h3⟩:=fin #[] ⟨.nil,.nil⟩
  refine⟨q,?_,h2⟩
  simp only[Instr.lookup,Sem.run_bind,run_underlying ht',Result.andThen_ok,Sem.run_pure]
  rw[h0]
  simp only[Result.andThen_ok]
  rw[h1]
  rcases h3 with⟨i,v,rfl,rfl⟩|⟨rfl,z,hz,rfl⟩
  ·rfl
  ·simp[hz]
 ·cases hm
  split at hes
  ·rename_i L hL _ es' hg
   cases hes
   obtain⟨o,ho,arr,clock,rfl,harr,_⟩:=h.obs _ L _ hL hg
   obtain⟨h0,r',q,h1,h2,h3⟩:=fin arr harr
   refine⟨q,?_,h2⟩
   have hgo:=run_getObj (P:=P) ho (by intro c e f hh;cases hh)
   simp only[Instr.lookup,Sem.run_bind,run_underlying ht',Result.andThen_ok,hgo,Sem.run_pure]
   rw[h0]
   simp only[Result.andThen_ok]
   rw[h1]
   rcases h3 with⟨i,v,rfl,rfl⟩|⟨rfl,z,hz,rfl⟩
   ·rfl
   ·simp[hz]
  ·cases hes
 ·cases hes
end
section
variable {P:Program} {N:Nat→Prop} {ρ:Rho} {ro:Nat} {st:St} {W w:World}
theorem MR.cellLt (h:MR N ρ ro st W w){id off:Nat} {L:Loc}(hL:ρ id=some L){a:AV}(hc:st.cell id off= .ok a):∃c e f,w.heap[L.b]? =some (.cells c e f)∧L.base+off<c.size:=by
 unfold St.cell at hc
 split at hc
 ·rename_i cs n e fz cl rel hr
  obtain⟨c,lo,hi,hb,_,_,hcs,_⟩:=h.row hL hr
  obtain⟨_,v,hv,_⟩:=hcs off a (Rs.of_ok hc)
  have:L.base+off<c.size:=by
   rcases Nat.lt_or_ge (L.base+off) c.size with h'|h'
   ·exact h'
   ·rw[Array.getElem?_eq_none h']at hv;cases hv
  exact⟨c,e,(lo,hi),hb,this⟩
 ·cases hc
theorem run_seenAt {b:Nat} {c:Array Value} {e:TypeId} {f:Nat×Nat}(hb:w.heap[b]? =some (.cells c e f)) (o:Nat):(Conv.seenAt ⟨b,o,none⟩).run P w= .ok ⟨b,o,none⟩ w:=by
 have h3:w.shape? b=some (e,c.size):=by simp[World.shape?,hb]
 simp[Conv.seenAt,viewAt,h3]
theorem info_size {t n:Nat}(h:tySize P t=some n):P.cellsOf t=n:=by
 unfold tySize at h
 split at h
 ·rename_i i hi;cases h;simp[Program.cellsOf,hi]
 ·cases h
theorem liesAt_whole {u n cells:Nat}(hs:P.cellsOf u=n+1) (hc:n+1≤cells):liesAt P P.depth u (cells/P.cellsOf u) 0 u 1=true:=by
 obtain⟨d,hd⟩:∃d,P.depth=d+1:=⟨2*(P.types.size+Made.depth)+1,rfl⟩
 rw[hd]
 simp only[liesAt]
 have h1:rowAt P (fun x=>sameLayout P P.depth x u) P.depth u (cells/P.cellsOf u) 0 1=true:=by
  rw[hd]
  simp only[rowAt]
  have h2:1≤cells/(n+1):=by
   rw[Nat.le_div_iff_mul_le (by omega)];omega
  simp[hs,h2,sameLayout]
 rw[h1];rfl
theorem conv_run (h:MR N ρ ro st W w){s d:TypeId} {x r:AV} {v:Value}(hv:VR ρ x v) (hr:convA P st s d x= .ok r):∃q,(Go.convert s d v).run P w= .ok q w∧VR ρ r q:=by
 unfold convA at hr
 split at hr
 ·cases hv with|ptr _ _ L hL=>
  split at hr
  ·rename_i t h1 h2
   split at hr
   ·rename_i n a hn hc
    cases hr
    obtain⟨c,e,f,hb,hlt⟩:=h.cellLt hL hc
    refine⟨_,?_,.ptr _ _ L hL⟩
    have h3:w.shape? L.b=some (e,c.size):=by simp[World.shape?,hb]
    have h4:=run_seenAt (P:=P) hb
    simp only[Go.convert,Sem.run_bind,run_underlying h1,run_underlying h2,Result.andThen_ok,Conv.unsafePointer]
    simp[h4,cellsIn,h3,run_size hn,Nat.not_le.2 hlt]
   ·cases hr
  ·rename_i u h1 h2
   split at hr
   ·rename_i hw
    cases hr
    unfold St.wholeAt at hw
    split at hw
    ·rename_i cs n e fz cl rel k hg hk
     split at hw
     ·rename_i c0 e1 e3 e4
      have he:=beq_true e1
      subst he
      have hn:=ble_true e3
      obtain⟨c,lo,hi,hb,hsz,h0,hcs,_⟩:=h.row hL hg
      have hb0:=h0 rfl
      obtain⟨_,v0,hv0,_⟩:=hcs k c0 e4
      have hlt:k<c.size:=by
       rw[hb0]at hv0
       rcases Nat.lt_or_ge k c.size with h'|h'
       ·exact h'
       ·rw[Array.getElem?_eq_none (by omega)]at hv0;cases hv0
      refine⟨_,?_,.ptr _ 0 L hL⟩
      have h3:w.shape? L.b=some (e,c.size):=by simp[World.shape?,hb]
      have h4:=run_seenAt (P:=P) hb 0
      have h5:=liesAt_whole (info_size hk) (show k+1≤c.size from hlt)
      rw[hb0]
      simp only[Go.convert,Sem.run_bind,run_underlying h1,run_underlying h2,Result.andThen_ok,Conv.unsafePointer,Nat.zero_add]
      simp[h4,variablesAt,h3,run_size hk,h5]
     ·cases hw
    ·cases hw
   ·cases hr
  ·cases hr
 ·cases hv;exact scal_run hr w
 ·cases hv;exact scal_run hr w
 ·cases hv
  split at hr
  ·rename_i h1 h2
   cases hr
   refine⟨_,?_,.str _⟩
   simp[Go.convert,run_underlying h1,run_underlying h2]
  ·cases hr
 ·cases hr
theorem len_run (h:MR N ρ ro st W w){t:TypeId} {x r:AV} {v:Value} {ts:Array TypeId} {ty:TypeId} {rest:List TypeId}(hts:ts.toList=t::rest) (hv:VR ρ x v) (hr:lenA P st t x= .ok r):
 ∃q,(Builtin.len_ ts ty #[v]).run P w= .ok q w∧VR ρ r q:=by
 have ht:ts[0]? =some t:=by
  have:ts.toList[0]? =some t:=by rw[hts];rfl
  simpa using this
 unfold lenA at hr
 split at hr
 ·rename_i s hty;cases hr;cases hv
  exact⟨_,by simp[Builtin.len_,ht,run_underlying hty];rfl,.int _ _⟩
 ·rename_i n e hty;cases hr
  exact⟨_,by simp[Builtin.len_,ht,run_underlying hty];rfl,.int _ _⟩
 ·rename_i e id off n c hty;cases hr;cases hv
  exact⟨_,by simp[Builtin.len_,ht,run_underlying hty];rfl,.int _ _⟩
 ·rename_i e hty;cases hr;cases hv
  exact⟨_,by simp[Builtin.len_,ht,run_underlying hty];rfl,.int _ _⟩
 ·rename_i k e hty;cases hr;cases hv
  exact⟨_,by simp[Builtin.len_,ht,run_underlying hty];rfl,.int _ _⟩
 ·rename_i k e id hty;cases hv with|map _ L hL=>
  split at hr
  ·rename_i es hg
   cases hr
   obtain⟨o,ho,arr,clock,rfl,harr,_⟩:=h.obs _ L _ hL hg
   have hgo:=run_getObj (P:=P) ho (by intro c e f hh;cases hh)
   have hlen:arr.size=es.length:=by
    have:=harr.1.length
    simpa using this
   refine⟨_,?_,.int _ _⟩
   simp[Builtin.len_,ht,run_underlying hty,hgo,hlen,goInt]
  ·cases hr
 ·rename_i a x' hty
  split at hr
  ·rename_i n e hty2
   cases hr
   refine⟨_,?_,.int _ _⟩
   simp[Builtin.len_,ht,run_underlying hty,run_underlying hty2];rfl
  ·cases hr
 ·cases hr
theorem cap_run {t:TypeId} {x r:AV} {v:Value} {ts:Array TypeId} {ty:TypeId} {rest:List TypeId}(hts:ts.toList=t::rest) (hv:VR ρ x v) (hr:capA P t x= .ok r) (w:World):
 ∃q,(Builtin.cap_ ts ty #[v]).run P w= .ok q w∧VR ρ r q:=by
 have ht:ts[0]? =some t:=by
  have:ts.toList[0]? =some t:=by rw[hts];rfl
  simpa using this
 unfold capA at hr
 split at hr
 ·rename_i hty;cases hr;cases hv with|sl _ _ _ _ L c o hL hc hl=>
  obtain⟨rfl,_⟩:=hc
  exact⟨_,by simp[Builtin.cap_,ht,run_underlying hty];rfl,.int _ _⟩
 ·rename_i hty;cases hr;cases hv
  exact⟨_,by simp[Builtin.cap_,ht,run_underlying hty];rfl,.int _ _⟩
 ·rename_i hty;cases hr
  exact⟨_,by simp[Builtin.cap_,ht,run_underlying hty];rfl,.int _ _⟩
 ·cases hr
theorem all_of {fr:Fr} {ev:Operand→Value} {l:List Operand}(he:∀x∈l,VR ρ (fr.get x) (ev x)){as:List AV}(h:fr.all l=as):VRs ρ as (l.map ev):=h▸all_eval he
theorem call_builtin (ev:Operand→Value) (o:Oper) (c:Call) (b:Builtin) (ho:o.op= .call c) (hc:c.callee= .builtin b):
 execOp ev o=(do let d ←(pure {target:= .builtin b c.argTypes o.type (c.args.map fun| .const _=>true|_=>false),args:=c.args.map ev} :Sem Deferred);invoke d.target d.args):=by
 unfold execOp
 rw[ho]
 simp only[resolve,hc]
 rfl
theorem VR.int_inv {k:IntKind} {n:Int} {v:Value}(h:VR ρ (.int k n) v):v= .int k n:=by cases h;rfl
theorem map_one {ev:Operand→Value} {l:Array Operand} {y:Operand}(h:l.toList= [y]):l.map ev= #[ev y]:=by
 apply Array.ext'
 simp[h]
theorem map_two {ev:Operand→Value} {l:Array Operand} {y z:Operand}(h:l.toList= [y,z]):l.map ev= #[ev y,ev z]:=by
 apply Array.ext'
 simp[h]
theorem list_one {α β:Type} {f:α→β} {l:List α} {x:β}(h:l.map f= [x]):∃y,l= [y]∧f y=x:=by
 cases l with
 |nil=>cases h
 |cons a r=>cases r with
  |nil=>simp only[List.map_cons,List.map_nil,List.cons.injEq,and_true]at h;exact⟨a,rfl,h⟩
  |cons _ _=>simp at h
theorem list_two {α β:Type} {f:α→β} {l:List α} {x x':β}(h:l.map f= [x,x']):∃y z,l= [y,z]∧f y=x∧f z=x':=by
 cases l with
 |nil=>cases h
 |cons a r=>
  simp only[List.map_cons,List.cons.injEq]at h
  obtain⟨b,rfl,hb⟩:=list_one h.2
  exact⟨a,b,rfl,h.1,hb⟩
theorem sliceData_run {ts:Array TypeId} {ty:TypeId} {b:Addr} {n c:Nat}(hc:c≠0) (w:World):(Builtin.unsafeSliceData_ ts ty #[.slice (some b) n c]).run P w= .ok (.pointer (some b)) w:=by
 have e:Builtin.unsafeSliceData_ ts ty #[.slice (some b) n c]=(if c≠0 then pure (.pointer (some b))else(do
  if(←viewAt b.block).isSome then pure (.pointer (some b))else pure (.pointer (some ⟨←newObj (.view b (←Go.elemOf ty)),0,none⟩)))):=rfl
 rw[e,if_pos hc];rfl
theorem pureBuiltin_run (h:MR N ρ ro st W w){fr:Fr} {ev:Operand→Value} {o:Oper} {c:Call} {b:Builtin} {r:AV}(ho:o.op= .call c) (hc:c.callee= .builtin b) (he:∀x∈c.args.toList,VR ρ (fr.get x) (ev x))
 (hr:pureBuiltin P fr st b c.args.toList c.argTypes.toList= .ok r):∃q,(execOp ev o).run P w= .ok (.value q) w∧VR ρ r q:=by
 rw[call_builtin ev o c b ho hc]
 unfold pureBuiltin at hr
 have fin:∀{s:Sem Value} {q:Value},s.run P w= .ok q w→((do pure (.value (←s)):Sem Next).run P w= .ok (.value q) w):=by
  intro s q hs;simp[hs]
 split at hr
 ·rename_i x t rest ha ht
  obtain⟨y,hy,rfl⟩:=list_one ha
  obtain⟨q,h1,h2⟩:=len_run (ty:=o.type) h ht (he y (by simp[hy])) hr
  exact⟨q,by rw[map_one hy];exact fin h1,h2⟩
 ·rename_i x t rest ha ht
  obtain⟨y,hy,rfl⟩:=list_one ha
  obtain⟨q,h1,h2⟩:=cap_run (ty:=o.type) ht (he y (by simp[hy])) hr w
  exact⟨q,by rw[map_one hy];exact fin h1,h2⟩
 ·rename_i ha
  unfold minMaxA at hr
  split at hr
  ·rename_i k a k' a' hl
   obtain⟨y,z,hy,hy1,hz1⟩:=list_two (hl:c.args.toList.map fr.get=_)
   have e1:ev y= .int k a:=VR.int_inv (ρ:=ρ) (hy1▸he y (by simp[hy]))
   have e2:ev z= .int k' a':=VR.int_inv (ρ:=ρ) (hz1▸he z (by simp[hy]))
   obtain⟨q,h1,h2⟩:=scal_run (ρ:=ρ) hr w
   exact⟨q,by rw[map_two hy,e1,e2];exact fin h1,h2⟩
  ·cases hr
 ·rename_i ha
  unfold minMaxA at hr
  split at hr
  ·rename_i k a k' a' hl
   obtain⟨y,z,hy,hy1,hz1⟩:=list_two (hl:c.args.toList.map fr.get=_)
   have e1:ev y= .int k a:=VR.int_inv (ρ:=ρ) (hy1▸he y (by simp[hy]))
   have e2:ev z= .int k' a':=VR.int_inv (ρ:=ρ) (hz1▸he z (by simp[hy]))
   obtain⟨q,h1,h2⟩:=scal_run (ρ:=ρ) hr w
   exact⟨q,by rw[map_two hy,e1,e2];exact fin h1,h2⟩
  ·cases hr
 ·rename_i id off n k ha
  obtain⟨y,hy,hy1⟩:=list_one ha
  cases hr
  have hv:=he y (by simp[hy])
  rw[hy1]at hv
  generalize hq:ev y=q at hv
  cases hv with|sl _ _ _ _ L cc oo hL hcap hl=>
  obtain⟨h1,h2⟩:=hcap
  refine⟨_,?_,.ptr id off L hL⟩
  rw[map_one hy,hq,h1,h2]
  exact fin (sliceData_run (by omega) w)
 ·rename_i id off k cap _ ha
  obtain⟨y,hy,hy1⟩:=list_one ha
  cases hr
  have hv:=he y (by simp[hy])
  rw[hy1]at hv
  generalize hq:ev y=q at hv
  cases hv with|sl _ _ _ _ L cc oo hL hcap hl=>
  have hoo:oo=L.base+off:=by
   cases cap with
   |k m=>exact hcap.2
   |g m=>rcases hcap.2 with h0|h0
         ·omega
         ·exact h0
  refine⟨_,?_,.ptr id off L hL⟩
  rw[map_one hy,hq,hoo]
  exact fin (sliceData_run (by omega) w)
 ·rename_i ha
  obtain⟨y,hy,hy1⟩:=list_one ha
  cases hr
  have hv:=he y (by simp[hy])
  rw[hy1]at hv
  generalize hq:ev y=q at hv
  cases hv
  exact⟨_,by rw[map_one hy,hq];exact fin rfl,.nilp⟩
 ·cases hr
end
section
variable {P:Program} {N:Nat→Prop} {ρ:Rho} {ro:Nat} {st:St} {W w:World}
theorem wrapV {s:Sem Value} {q:Value} {w w':World}(h:s.run P w= .ok q w'):(do pure (.value (←s)):Sem Next).run P w= .ok (.value q) w':=by simp[h]
theorem VR.bool_inv {b:Bool} {v:Value}(h:VR ρ (.bool b) v):v= .bool b:=by cases h;rfl
theorem VR.flt_inv {k:FloatKind} {n:Nat} {v:Value}(h:VR ρ (.flt k n) v):v= .float k n:=by cases h;rfl
theorem VR.ptr_inv {id off:Nat} {v:Value}(h:VR ρ (.ptr id off) v):∃L,ρ id=some L∧v= .pointer (some ⟨L.b,L.base+off,none⟩):=by cases h with|ptr _ _ L hL=>exact⟨L,hL,rfl⟩
theorem VR.str_inv {s:List UInt8} {v:Value}(h:VR ρ (.str s) v):v= .string ⟨⟨s⟩⟩:=by cases h;rfl
theorem pureA_run (h:MR N ρ ro st W w){fr:Fr} {ev:Operand→Value} {o:Oper} {r:AV}(he:∀x∈o.op.operands.toList,VR ρ (fr.get x) (ev x)) (hr:pureA P fr st o.op= .ok r):∃q,(execOp ev o).run P w= .ok (.value q) w∧VR ρ r q:=by
 unfold execOp
 generalize hop:o.op=op at he hr
 cases op<;>simp only[pureA]at hr<;>first
  | (cases hr;done)
  |dsimp only
 case move x=>cases hr;exact⟨ev x,rfl,he x (by simp[Op.operands])⟩
 case pick c a b=>
  have hc:=he c (by simp[Op.operands])
  split at hr
  ·rename_i hb;rw[hb]at hc;have:=hc.bool_inv;cases hr
   exact⟨ev a,by simp[this,asBool],he a (by simp[Op.operands])⟩
  ·rename_i hb;rw[hb]at hc;have:=hc.bool_inv;cases hr
   exact⟨ev b,by simp[this,asBool],he b (by simp[Op.operands])⟩
  ·cases hr
 case build t ps=>
  obtain⟨q,h1,h2⟩:=buildA_run (ps:=ps.toList) (ev:=ev) (fun x hx=>he x hx) hr w
  refine⟨q,wrapV ?_,h2⟩
  have e:(ps.map fun(x:Nat×Operand)=>(x.1,ev x.2))=(ps.toList.map fun p=>(p.1,ev p.2)).toArray:=by
   apply Array.ext'
   rw[Array.toList_map]
  rw[←e]at h1
  exact h1
 case load t a=>
  have ha:=he a (by simp[Op.operands])
  split at hr
  ·rename_i id off hp;rw[hp]at ha
   obtain⟨L,hL,e⟩:=ha.ptr_inv
   obtain⟨q,h1,h2⟩:=h.loadVar hL hr
   exact⟨q,wrapV (by simp[Instr.loadAt,e,Instr.sureAddr,h1]),h2⟩
  ·cases hr
 case nilCheck x=>
  have hx:=he x (by simp[Op.operands])
  split at hr
  ·rename_i id off hp;rw[hp]at hx;cases hr
   obtain⟨L,hL,e⟩:=hx.ptr_inv
   exact⟨_,by rw[e];rfl,.ptr id off L hL⟩
  ·rename_i f a c hp;rw[hp]at hx;cases hr
   generalize ev x=q at hx
   cases hx with|fn _ _ _ x' c' h1 h2=>exact⟨_,rfl,.fn _ _ _ _ _ h1 h2⟩
  ·rename_i t v hp;rw[hp]at hx;cases hr
   generalize ev x=q at hx
   cases hx with|iface _ _ u hu=>exact⟨_,rfl,.iface _ _ _ hu⟩
  ·cases hr
 case binOp op t x y t'=>
  obtain⟨q,h1,h2⟩:=binA_run h (he x (by simp[Op.operands])) (he y (by simp[Op.operands])) hr
  exact⟨q,wrapV h1,h2⟩
 case unOp op t x=>
  have hx:=he x (by simp[Op.operands])
  split at hr
  ·rename_i b hp;rw[hp]at hx;rw[hx.bool_inv]
   obtain⟨q,h1,h2⟩:=scal_run (ρ:=ρ) hr w
   exact⟨q,wrapV h1,h2⟩
  ·rename_i k n hp;rw[hp]at hx;rw[hx.int_inv]
   obtain⟨q,h1,h2⟩:=scal_run (ρ:=ρ) hr w
   exact⟨q,wrapV h1,h2⟩
  ·rename_i k n hp;rw[hp]at hx;rw[hx.flt_inv]
   obtain⟨q,h1,h2⟩:=scal_run (ρ:=ρ) hr w
   exact⟨q,wrapV h1,h2⟩
  ·cases hr
 case convert s d x=>
  obtain⟨q,h1,h2⟩:=conv_run h (he x (by simp[Op.operands])) hr
  exact⟨q,wrapV h1,h2⟩
 case makeInterface t x=>
  have hx:=he x (by simp[Op.operands])
  split at hr
  ·cases hr
  ·rename_i d hn hty
   split at hr
   ·cases hr
   ·cases hr
    refine⟨.iface t (ev x),wrapV ?_,.iface _ _ _ hx⟩
    simp only[Instr.makeInterface,Sem.run_bind,run_underlying hty,Result.andThen_ok]
    cases d<;>first|rfl|exact absurd rfl (hn _)
  ·cases hr
 case makeFunc f first cap=>
  split at hr
  ·cases hr
   refine⟨_,wrapV rfl,.fn _ _ _ _ _ ?_ ?_⟩
   ·simpa using all_eval (ev:=ev) fun x hx=>he x (by simp[Op.operands]at hx⊢;exact .inl hx)
   ·simpa using all_eval (ev:=ev) fun x hx=>he x (by simp[Op.operands]at hx⊢;exact .inr hx)
  ·cases hr
 case slice t x lo hi mx=>
  obtain⟨q,h1,h2⟩:=sliceA_run (ev:=ev) (he x (by simp[Op.operands])) (fun y hy=>he y (by simp[Op.operands];rcases hy with rfl|rfl|rfl<;>simp)) hr w
  exact⟨q,wrapV h1,h2⟩
 case fieldAddr s x f=>
  have hx:=he x (by simp[Op.operands])
  split at hr
  ·rename_i id off o' hp ho;rw[hp]at hx;cases hr
   obtain⟨q,h1,h2⟩:=fieldAddr_run hx ho w
   exact⟨q,wrapV h1,h2⟩
  ·cases hr
 case field s x f=>
  have hx:=he x (by simp[Op.operands])
  split at hr
  ·rename_i cs t o' hp ho;rw[hp]at hx
   obtain⟨q,h1,h2⟩:=field_run hx ho hr w
   exact⟨q,wrapV h1,h2⟩
  ·cases hr
 case indexAddr t x i=>
  obtain⟨q,h1,h2⟩:=indexAddr_run (he x (by simp[Op.operands])) (he i (by simp[Op.operands])) hr w
  exact⟨q,wrapV h1,h2⟩
 case index t x i=>
  obtain⟨q,h1,h2⟩:=index_run (he x (by simp[Op.operands])) (he i (by simp[Op.operands])) hr w
  exact⟨q,wrapV h1,h2⟩
 case lookup t m k ok=>
  obtain⟨q,h1,h2⟩:=lookup_run h (he m (by simp[Op.operands])) (he k (by simp[Op.operands])) hr
  exact⟨q,wrapV h1,h2⟩
 case typeAssert x xt t ok=>
  obtain⟨q,h1,h2⟩:=assert_run (xt:=xt) (he x (by simp[Op.operands])) hr w
  exact⟨q,wrapV h1,h2⟩
 case extract t i=>
  have hx:=he t (by simp[Op.operands])
  split at hr
  ·rename_i vs hp;rw[hp]at hx
   obtain⟨q,h1,h2⟩:=extract_run hx (Rs.of_ok hr) w
   exact⟨q,wrapV h1,h2⟩
  ·cases hr
 case call c=>
  split at hr
  ·rename_i b hb
   have:=pureBuiltin_run h (o:=o) (ev:=ev) hop hb (fun x hx=>he x (by simp only[Op.operands,Call.operands,hb];simpa using hx)) hr
   obtain⟨q,h1,h2⟩:=this
   refine⟨q,?_,h2⟩
   unfold execOp at h1
   rw[hop]at h1
   exact h1
  ·cases hr
theorem lay_row {l:List AV} {vs:List Value}(h:VRs ρ l vs){i:Nat} {a:AV}(hg:(PT.lay l 0 .nil).get i=some a):i<l.length∧∃v,vs[i]? =some v∧VR ρ a v:=by
 rcases PT.get_lay hg with⟨_,h1⟩|⟨_,h1⟩
 ·have hlt:=(List.getElem?_eq_some_iff.1 h1).1
  obtain⟨v,h2,h3⟩:=h.get h1
  exact⟨by simpa using hlt,v,by simpa using h2,h3⟩
 ·cases h1
theorem mkRow_cl0 (l:List AV) (e:TypeId):(mkRow l e).cl0:=by
 intro cs n e' fz cl rel h
 cases h
theorem mkRow_OR {l:List AV} {c:Array Value}(h:VRs ρ l c.toList) (e:TypeId) (b:Nat):OR ρ ⟨b,c.size,0⟩ (mkRow l e) (.cells c e):=by
 refine⟨c,0,0,rfl,rfl,fun _=>rfl,fun i a hg=> ?_,fun _=>⟨rfl,rfl⟩,fun h1=>by cases h1⟩
 obtain⟨h1,v,h2,h3⟩:=lay_row h hg
 exact⟨h1,v,by simpa using h2,h3⟩
theorem rep_len (n:Nat) (z:List AV):(rep n z).length=n*z.length:=by
 induction n with
 |zero=>simp[rep]
 |succ n ih=>simp[rep,ih,Nat.succ_mul];omega
def repV (n:Nat) (z:List Value):List Value:=match n with
 |0=> []
 |n+1=>z++repV n z
theorem rep_rel {z:List AV} {v:List Value}(h:VRs ρ z v):∀n,VRs ρ (rep n z) (repV n v)
 |0=> .nil
 |n+1=>h.append (rep_rel h n)
theorem repV_get (z:List Value):∀(n i:Nat),i<n*z.length→(repV n z)[i]? =z[i %z.length]?
 |0,i,h=>by simp at h
 |n+1,i,h=>by
  simp only[repV]
  by_cases hi:i<z.length
  ·rw[List.getElem?_append_left hi,Nat.mod_eq_of_lt hi]
  ·rw[List.getElem?_append_right (by omega),repV_get z n (i-z.length) (by rw[Nat.succ_mul]at h;omega)]
   congr 1
   have:i=(i-z.length)+z.length:=by omega
   conv=>rhs;rw[this,Nat.add_mod_right]
theorem repV_len (n:Nat) (z:List Value):(repV n z).length=n*z.length:=by
 induction n with
 |zero=>simp[repV]
 |succ n ih=>simp[repV,ih,Nat.succ_mul];omega
theorem zero_row (z:Array Value) (n:Nat):((Array.range (n*z.size)).map (z[· %z.size]!))=(repV n z.toList).toArray:=by
 apply Array.ext
 ·simp[repV_len]
 ·intro i h1 h2
  simp only[Array.size_map,Array.size_range]at h1
  have hz:0<z.size:=by
   rcases Nat.eq_zero_or_pos z.size with h|h
   ·rw[h]at h1;simp at h1
   ·exact h
  have hm:i %z.size<z.size:=Nat.mod_lt _ hz
  have:=repV_get z.toList n i (by simpa using h1)
  simp only[Array.getElem_map,Array.getElem_range]
  have h3:(repV n z.toList).toArray[i]? =z.toList[i %z.toList.length]? :=by simpa using this
  rw[Array.getElem?_eq_getElem h2]at h3
  simp only[Array.length_toList,Array.getElem?_toList]at h3
  rw[Array.getElem?_eq_getElem hm]at h3
  rw[getElem!_pos z _ hm]
  exact(Option.some.inj h3).symm
end
section
variable {P:Program} {N:Nat→Prop} {ρ:Rho} {ro:Nat} {st:St} {W w:World}
theorem elemOf_spec {t e n:Nat}(h:Ab.elemOf P t=some (e,n)):P.underlying t=some (.slice e)∧tySize P e=some n:=by
 unfold Ab.elemOf at h
 split at h
 ·rename_i hu
  split at h
  ·rename_i hs;cases h;exact⟨hu,hs⟩
  ·cases h
 ·cases h
theorem zeros_eq {size:Nat} {zv:Value}(hz:zv.cells.size=size) (n:Nat):(n*size=0→((Array.range (n*size)).map ((#[]:Array Value)[· %(#[]:Array Value).size]!))=(repV n zv.cells.toList).toArray)∧
 ((Array.range (n*size)).map (zv.cells[· %zv.cells.size]!))=(repV n zv.cells.toList).toArray:=by
 constructor
 ·intro h0
  have:(repV n zv.cells.toList).toArray= #[]:=by
   apply Array.eq_empty_of_size_eq_zero
   simp only[List.size_toArray,repV_len,Array.length_toList,hz,h0]
  rw[this,h0]
  apply Array.eq_empty_of_size_eq_zero
  simp
 ·have:=zero_row zv.cells n
  rw[hz]at this⊢
  exact this
theorem allocA_run {fr:Fr} {ev:Operand→Value} {o:Oper} {p:Ob×(Nat→AV)}(he:∀x∈o.op.operands.toList,VR ρ (fr.get x) (ev x)) (hr:allocA P fr o.op= .ok p) (w:World):
 ∃v o' n,(execOp ev o).run P w= .ok (.value v) {w with heap:=w.heap.push o'} ∧p.1.cl0∧(∀ρ':Rho,ρ.le ρ'→OR ρ' ⟨w.heap.size,n,0⟩ p.1 o')∧(∀(ρ':Rho) (id:Nat),ρ' id=some ⟨w.heap.size,n,0⟩→VR ρ' (p.2 id) v):=by
 unfold execOp
 generalize hop:o.op=op at he hr
 cases op<;>simp only[allocA]at hr<;>first
  | (cases hr;done)
  |dsimp only
 case alloc e=>
  split at hr
  ·rename_i z hz
   split at hr
   ·rename_i l hl
    cases hr
    obtain⟨zv,h1,h2⟩:=run_zero (ρ:=ρ) hz w
    have hc:=h2.cells hl
    refine⟨.pointer (some ⟨w.heap.size,0,none⟩),.cells zv.cells e,zv.cells.size,wrapV ?_,mkRow_cl0 _ _,fun ρ' hle=>mkRow_OR (hc.mono hle) e _,fun ρ' id hid=> .ptr id 0 _ hid⟩
    simp[Instr.alloc,h1,newVar,newRow]
    try rfl
   ·cases hr
  ·cases hr
 case box e x=>
  have hx:=he x (by simp[Op.operands])
  split at hr
  ·rename_i l hl
   split at hr
   ·cases hr
    have hc:=hx.cells hl
    refine⟨.pointer (some ⟨w.heap.size,0,none⟩),.cells (ev x).cells e,(ev x).cells.size,wrapV ?_,mkRow_cl0 _ _,fun ρ' hle=>mkRow_OR (hc.mono hle) e _,fun ρ' id hid=> .ptr id 0 _ hid⟩
    simp[Instr.box,newVar,newRow]
    try rfl
   ·cases hr
  ·cases hr
 case buildSlice t len ps=>
  split at hr
  ·rename_i e size hes
   obtain⟨hu,hs⟩:=elemOf_spec hes
   split at hr
   ·rename_i z hb hz
    split at hr
    ·rename_i zl hzl
     split at hr
     ·rename_i hsz
      obtain⟨l,hl,hr⟩:=Rs.bind_ok hr
      split at hr
      ·cases hr
       have hb':len*size≤16777216:=ble_true hb
       have hsz':=beq_true hsz
       obtain⟨zv,h1,h2⟩:=run_zero (ρ:=ρ) hz w
       have hc:=h2.cells hzl
       have hcl:=hc.length
       obtain⟨c',h3,h4⟩:=fill_run (c:=(repV len zv.cells.toList).toArray) (parts_map (fr:=fr) (ev:=ev) ps.toList) (parts_rel (ev:=ev) (fun x hx=>he x hx)) (by simpa using rep_rel hc len) hl
       refine⟨.slice (some ⟨w.heap.size,0,none⟩) len len,.cells c' e,c'.size,wrapV ?_,mkRow_cl0 _ _,fun ρ' hle=>mkRow_OR (h4.mono hle) e _,fun ρ' id hid=> .sl id 0 len _ _ _ _ hid ⟨rfl,rfl⟩ (Nat.le_refl _)⟩
       have e1:(ps.map fun(x:Nat×Operand)=>(x.1,ev x.2)).toList=ps.toList.map fun p=>(p.1,ev p.2):=by rw[Array.toList_map]
       have hz2:zv.cells.size=size:=by simp at hcl;omega
       have e2:=zero_row zv.cells len
       rw[hz2]at e2
       have hb2:¬(len*size>2^24):=by omega
       obtain⟨q1,q2⟩:=zeros_eq hz2 len
       simp only[Instr.buildSlice,Sem.run_bind,run_underlying hu,Result.andThen_ok,run_size hs]
       rw[if_neg hb2]
       have h3':Instr.fill (fun i=>some (i*size,size)) (repV len zv.cells.toList).toArray (ps.map fun(x:Nat×Operand)=>(x.1,ev x.2)).toList=some c':=by
        rw[e1];exact h3
       by_cases h0:len*size=0
       ·rw[if_pos h0]
        simp only[Sem.run_bind,Sem.run_pure,Result.andThen_ok]
        rw[q1 h0,h3']
        rfl
       ·rw[if_neg h0]
        simp only[Sem.run_bind,Sem.run_pure,Result.andThen_ok,h1]
        rw[q2,h3']
        rfl
      ·cases hr
     ·cases hr
    ·cases hr
   ·cases hr
  ·cases hr
 case makeSlice t l c=>
  split at hr
  ·rename_i e size n m hes hn hm
   obtain⟨hu,hs⟩:=elemOf_spec hes
   split at hr
   ·rename_i z bytes hz hby
    split at hr
    ·rename_i zl hzl
     split at hr
     ·rename_i h1 h2 h3 h4
      cases hr
      have h1':=beq_true h1
      have h2':n≤m:=ble_true h2
      have h3':m≤1000000:=ble_true h3
      have h4':bytes≤1000000:=ble_true h4
      obtain⟨zv,hz1,hz2⟩:=run_zero (ρ:=ρ) hz w
      have hc:=hz2.cells hzl
      have hcl:=hc.length
      have hz3:zv.cells.size=size:=by simp at hcl;omega
      obtain⟨q1,q2⟩:=zeros_eq hz3 m
      obtain⟨k1,e1⟩:=natOf_spec hn (he l (by simp[Op.operands]))
      obtain⟨k2,e2⟩:=natOf_spec hm (he c (by simp[Op.operands]))
      refine⟨.slice (some ⟨w.heap.size,0,none⟩) n m,.cells (repV m zv.cells.toList).toArray e,(repV m zv.cells.toList).toArray.size,wrapV ?_,mkRow_cl0 _ _,fun ρ' hle=>mkRow_OR (by simpa using(rep_rel hc m).mono hle) e _,fun ρ' id hid=> .sl id 0 n _ _ _ _ hid ⟨rfl,rfl⟩ h2'⟩
      rw[e1,e2]
      have hb:(typeInfo e).run P w= .ok (P.info? e).get! w:=by
       unfold tyBytes at hby
       split at hby
       ·rename_i i hi;simp[typeInfo,hi]
       ·cases hby
      have hb2:((P.info? e).get!).bytes=bytes:=by
       unfold tyBytes at hby
       split at hby
       ·rename_i i hi;cases hby;simp[hi]
       ·cases hby
      have w1:IntKind.i64.wrap (n:Int)=n:=IntWalk.i64_in _ (by omega)
      have w2:IntKind.i64.wrap (m:Int)=m:=IntWalk.i64_in _ (by omega)
      have ht1:(decide ((m:Int)<0)||decide ((bytes:Int)*(m:Int)>2^48))=false:=by
       have:bytes*m≤1000000*1000000:=Nat.mul_le_mul h4' h3'
       have h5:((bytes:Int)*(m:Int))≤1000000000000:=by
        have:((bytes*m:Nat):Int)≤((1000000*1000000:Nat):Int):=Int.ofNat_le.2 this
        simpa using this
       simp only[Bool.or_eq_false_iff,decide_eq_false_iff_not]
       constructor
       ·omega
       ·show¬((bytes:Int)*(m:Int)>281474976710656);omega
      have hroom:¬(m*bytes>roomBytes):=by
       have:m*bytes≤1000000*1000000:=Nat.mul_le_mul h3' h4'
       show¬(m*bytes>140737488355328)
       omega
      have hl:¬((n:Int)<0):=by omega
      have hlm:¬((n:Int)>(m:Int)):=by omega
      simp only[Instr.makeSlice,Sem.run_bind,run_underlying hu,Result.andThen_ok,asInt,run_asIntOf,Sem.run_pure,hb,hb2,w1,w2,ht1,hl,hlm,decide_false,Bool.or_self,Bool.false_eq_true,if_false,Int.toNat_natCast,run_size hs]
      simp only[askRoom,if_neg hroom,Sem.run_pure,Result.andThen_ok]
      by_cases h0:m*size=0
      ·rw[if_pos h0]
       simp only[Sem.run_bind,Sem.run_pure,Result.andThen_ok]
       rw[q1 h0]
       rfl
      ·rw[if_neg h0]
       simp only[Sem.run_bind,Sem.run_pure,Result.andThen_ok,hz1]
       rw[q2]
       rfl
     ·cases hr
    ·cases hr
   ·cases hr
  ·cases hr
theorem putCells_spec:∀{l:List AV} {off:Nat} {cs cs':PT AV},putCells l off cs= .ok cs'→(∀a∈l,a.one=true)∧(∀j,j<l.length→∃x,cs.get (off+j)=some x)∧
 (∀i x,cs'.get i=some x→(off≤i∧i<off+l.length∧l[i-off]? =some x)∨((i<off∨off+l.length≤i)∧cs.get i=some x))
 | [],off,cs,cs',h=>by
  cases h
  exact⟨by simp,by simp,fun i x hx=> .inr ⟨by simp;omega,hx⟩⟩
 |v::r,off,cs,cs',h=>by
  simp only[putCells]at h
  split at h
  ·rename_i y h1 h2
   obtain⟨a,b,c⟩:=putCells_spec h
   refine⟨?_,?_,?_⟩
   ·intro x hx
    rcases List.mem_cons.1 hx with rfl|hx
    ·exact h1
    ·exact a x hx
   ·intro j hj
    cases j with
    |zero=>exact⟨y,h2⟩
    |succ j=>
     simp only[List.length_cons]at hj
     obtain⟨x,hx⟩:=b j (by omega)
     rw[show off+(j+1)=off.succ+j from by omega]
     rcases PT.get_set hx with⟨e,_⟩|⟨_,h'⟩
     ·omega
     ·exact⟨x,h'⟩
   ·intro i x hx
    simp only[List.length_cons]
    rcases c i x hx with⟨h3,h4,h5⟩|⟨h3,h4⟩
    ·left
     have h3':off+1≤i:=h3
     have h4':i<off+1+r.length:=h4
     refine⟨by omega,by omega,?_⟩
     rw[show i-off=(i-off.succ)+1 from by omega]
     simpa using h5
    ·have h3':i<off+1∨off+1+r.length≤i:=h3
     rcases PT.get_set h4 with⟨rfl,rfl⟩|⟨hne,h'⟩
     ·left;exact⟨Nat.le_refl _,by omega,by simp⟩
     ·right;exact⟨by omega,h'⟩
  ·cases h
theorem get_kill:∀{m:List Nat} {id j:Nat} {h:PT Ob} {ob:Ob},(kill m id h).get j=some ob→h.get j=some ob∧(j=id∨j∉m)
 | [],_,_,_,_,h=>⟨h,.inr (by simp)⟩
 |x::r,id,j,t,ob,h=>by
  simp only[kill]at h
  split at h
  ·rename_i e
   obtain⟨h1,h2⟩:=get_kill h
   refine⟨h1,?_⟩
   by_cases hj:j=id
   ·exact .inl hj
   ·right
    have:=beq_true e
    simp only[List.mem_cons,not_or]
    exact⟨by omega,h2.resolve_left hj⟩
  ·obtain⟨h1,h2⟩:=get_kill h
   obtain⟨h3,h4⟩:=PT.get_del h1
   refine⟨h4,?_⟩
   by_cases hj:j=id
   ·exact .inl hj
   ·right
    simp only[List.mem_cons,not_or]
    exact⟨h3,h2.resolve_left hj⟩
theorem MR.stores (h:MR N ρ ro st W w){id off:Nat} {L:Loc} {l:List AV} {vs:List Value} {st':St}(hL:ρ id=some L) (hs:st.stores ro id off l= .ok st') (hv:VRs ρ l vs):
 ∃w',(storeCells ⟨L.b,L.base+off,none⟩ vs).run P w= .ok () w'∧MR N ρ ro st' W w'∧st'.next=st.next:=by
 unfold St.stores at hs
 split at hs
 ·cases hs
  have:vs= []:=by have:=hv.length;simpa using this
  subst this
  exact⟨w,rfl,h,rfl⟩
 ·split at hs
  ·rename_i cs n e fz cl rel hr
   split at hs
   ·rename_i hfz hro
    obtain⟨cs',hcs,hs⟩:=Rs.bind_ok hs
    have hro':ro≤id:=blt_false hro
    obtain⟨p1,p2,p3⟩:=putCells_spec hcs
    obtain⟨c,lo,hi,hb,hsz,hbase,hcells,hf0,hf1⟩:=h.row hL hr
    obtain⟨rfl,rfl⟩:=hf0 rfl
    have hlen:=hv.length
    have hne:0<l.length:=by
     rcases Nat.eq_zero_or_pos l.length with h0|h0
     ·exfalso
      have:l= []:=by simpa using h0
      subst this
      simp_all
     ·exact h0
    have hfit:L.base+off+vs.length≤c.size:=by
     obtain⟨x,hx⟩:=p2 (l.length-1) (by omega)
     obtain⟨_,v,hv',_⟩:=hcells _ _ hx
     have:L.base+(off+(l.length-1))<c.size:=by
      rcases Nat.lt_or_ge (L.base+(off+(l.length-1))) c.size with h'|h'
      ·exact h'
      ·rw[Array.getElem?_eq_none h']at hv';cases hv'
     omega
    have hone:∀v∈vs,oneV v=true:=by
     intro v hvm
     obtain⟨i,hi⟩:=List.getElem?_of_mem hvm
     have hlt:i<l.length:=by have:=(List.getElem?_eq_some_iff.1 hi).1;omega
     obtain⟨v',hv',hR⟩:=hv.get (i:=i) (a:=l[i]) (by simp[hlt])
     rw[hi]at hv';cases hv'
     exact hR.one (p1 _ (List.getElem_mem hlt))
    have hrun:=run_storeCells (P:=P) (b:=L.b) (e:=e) vs (L.base+off) 0 c w hb (by omega) hone
    have hOR:OR ρ L (.row cs' n e 0 cl rel) (.cells (writeCells c (L.base+off) vs) e (0,0)):=by
     refine⟨_,0,0,rfl,by rw[writeCells_size];exact hsz,hbase,fun i a hg=> ?_,fun _=>⟨rfl,rfl⟩,fun e=>by cases e⟩
     rw[writeCells_get vs c (L.base+off) _ hfit]
     rcases p3 i a hg with⟨h1,h2,h3⟩|⟨h1,h2⟩
     ·rw[if_pos (by omega)]
      obtain⟨v,hv1,hv2⟩:=hv.get h3
      obtain⟨y,hy⟩:=p2 (i-off) (by omega)
      rw[show off+(i-off)=i from by omega]at hy
      refine⟨(hcells i y hy).1,v,?_,hv2⟩
      rw[show L.base+i-(L.base+off)=i-off from by omega];exact hv1
     ·rw[if_neg (by omega)]
      exact hcells i a h2
    have hidn:=h.nx _ _ hr
    refine⟨_,hrun,?_⟩
    split at hs
    ·cases hs
     refine⟨h.upd hL hro' hOR rfl (fun j ob hj=> ?_) hidn (fun j M ob hj hM hob=> ?_) (fun j cs n e fz cl rel hj=> ?_),rfl⟩
     ·rcases PT.get_set hj with⟨rfl,rfl⟩|⟨h1,h2⟩
      ·exact .inl ⟨rfl,rfl⟩
      ·exact .inr ⟨h1,h2⟩
     ·rcases PT.get_set hob with⟨rfl,_⟩|⟨_,h2⟩
      ·exact absurd rfl hj
      ·intro hbb
       rcases h.inj id j L M _ _ hL hM hr h2 hbb.symm with e'|⟨_,_,_,_,_,_,_,_,_,_,_,e1,_⟩
       ·exact hj e'.symm
       ·cases e1
     ·rcases PT.get_set hj with⟨_,e1⟩|⟨_,h2⟩
      ·cases e1
      ·exact h.cls j cs n e fz cl rel h2
    ·rename_i hcl
     split at hs
     ·rename_i m hm
      cases hs
      obtain⟨cl,rfl⟩:∃k,cl=k+1:=by
       cases cl with
       |zero=>exact absurd rfl hcl
       |succ k=>exact⟨k,rfl⟩
      obtain⟨hcn,_⟩:=h.cls id cs n e 0 cl rel hr
      refine⟨h.upd hL hro' hOR rfl (fun j ob hj=> ?_) hidn (fun j M ob hj hM hob=> ?_) (fun j cs1 n1 e1 fz1 cl1 rel1 hj=> ?_),rfl⟩
      ·obtain⟨h1,_⟩:=get_kill hj
       rcases PT.get_set h1 with⟨rfl,rfl⟩|⟨h1,h2⟩
       ·exact .inl ⟨rfl,rfl⟩
       ·exact .inr ⟨h1,h2⟩
      ·obtain⟨h1,h2⟩:=get_kill hob
       rcases PT.get_set h1 with⟨rfl,_⟩|⟨_,h3⟩
       ·exact absurd rfl hj
       ·intro hbb
        rcases h.inj id j L M _ _ hL hM hr h3 hbb.symm with e'|⟨_,_,_,_,_,_,cs2,n2,e2,fz2,rel2,e1,e3,_⟩
        ·exact hj e'.symm
        ·cases e1
         subst e3
         obtain⟨_,hm2⟩:=h.cls j cs2 n2 e2 fz2 cl rel2 h3
         obtain⟨hin2,_⟩:=hm2 _ hm
         rcases h2 with h2|h2
         ·exact hj h2
         ·exact h2 hin2
      ·obtain⟨h1,h2⟩:=get_kill hj
       rcases PT.get_set h1 with⟨rfl,e'⟩|⟨hne,h3⟩
       ·cases e'
        refine⟨hcn,fun m2 hm2=> ?_⟩
        rcases PT.get_set hm2 with⟨_,rfl⟩|⟨hne,_⟩
        ·exact⟨by simp,Nat.le_refl _⟩
        ·exact absurd rfl hne
       ·obtain⟨a1,hm2⟩:=h.cls j cs1 n1 e1 fz1 cl1 rel1 h3
        refine⟨a1,fun m2 hm3=> ?_⟩
        rcases PT.get_set hm3 with⟨hc,rfl⟩|⟨hne',hm4⟩
        ·have hc':cl1=cl:=by omega
         subst hc'
         obtain⟨hin2,_⟩:=hm2 _ hm
         rcases h2 with h2|h2
         ·exact absurd h2 hne
         ·exact absurd hin2 h2
        ·exact hm2 _ hm4
     ·cases hs
   ·cases hs
  ·cases hs
end
section
variable {P:Program} {N:Nat→Prop} {ρ:Rho} {ro:Nat} {st:St} {W w:World}
theorem MR.pendC (h:MR N ρ ro st W w){cs:PT AV} {k e fz cl rel en:Nat} {ms:List Nat}(hcl:cl+1≤st.next+1) (hend:rel+k≤en)
 (hold:∀j cs' n' e' fz' rel',st.heap.get j=some (.row cs' n' e' fz' (cl+1) rel')→j∈ms∧rel'+n'≤en):
 MR N ρ ro {heap:=st.heap.set st.next (.row cs k e fz (cl+1) rel),next:=Nat.succ st.next,cls:=st.cls.set (cl+1) (en,st.next::ms)} W w:=by
 refine⟨h.below,(fun i hi=>⟨(h.no i hi).1,Nat.lt_succ_of_lt (h.no i hi).2⟩),h.old,h.own,h.lt,fun id L hL=>Nat.lt_succ_of_lt (h.next id L hL),Nat.le_succ_of_le h.ron,fun j o hj=> ?_,fun j M o hj ho=> ?_,fun i j M M' o o' hi hj hoi hoj hb=> ?_,fun j cs1 n1 e1 fz1 cl1 rel1 hj=> ?_⟩
 ·rcases PT.get_set hj with⟨rfl,_⟩|⟨_,h'⟩
  ·exact Nat.lt_succ_self _
  ·exact Nat.lt_succ_of_lt (h.nx j o h')
 ·rcases PT.get_set ho with⟨rfl,_⟩|⟨_,h'⟩
  ·exact absurd (h.next _ _ hj) (Nat.lt_irrefl _)
  ·exact h.obs j M o hj h'
 ·rcases PT.get_set hoi with⟨rfl,_⟩|⟨_,h'⟩
  ·exact absurd (h.next _ _ hi) (Nat.lt_irrefl _)
  ·rcases PT.get_set hoj with⟨rfl,_⟩|⟨_,h''⟩
   ·exact absurd (h.next _ _ hj) (Nat.lt_irrefl _)
   ·exact h.inj i j M M' o o' hi hj h' h'' hb
 ·rcases PT.get_set hj with⟨rfl,e2⟩|⟨_,h'⟩
  ·cases e2
   refine⟨hcl,fun m hm=> ?_⟩
   rcases PT.get_set hm with⟨_,rfl⟩|⟨hne,_⟩
   ·exact⟨by simp,hend⟩
   ·exact absurd rfl hne
  ·obtain⟨a,b⟩:=h.cls j cs1 n1 e1 fz1 cl1 rel1 h'
   refine⟨Nat.le_succ_of_le a,fun m hm=> ?_⟩
   rcases PT.get_set hm with⟨hc,rfl⟩|⟨_,hm'⟩
   ·have hc':cl1=cl:=by omega
    subst hc'
    obtain⟨x,y⟩:=hold j cs1 n1 e1 fz1 rel1 h'
    exact⟨by simp[x],y⟩
   ·exact b m hm'
theorem MR.beyond (h:MR N ρ ro st W w){b:Nat} {c:Array Value} {e:TypeId} {f:Nat×Nat}(hb:w.heap[b]? =some (.cells c e f)) (hW:W.heap.size≤b){q:Nat} {vs:List Value}(hq:q+vs.length≤c.size)
 (hk:∀j M ob,ρ j=some M→M.b=b→st.heap.get j=some ob→∃cs n e fz cl rel,ob= .row cs n e fz cl rel∧M.base+n≤q):
 MR N ρ ro st W {w with heap:=w.heap.setIfInBounds b (.cells (writeCells c q vs) e f)} :=by
 have hlt:=lt_of_block hb
 refine⟨⟨h.below.os,h.below.tape,h.below.output,by simpa using h.below.size,fun k hk'=> ?_⟩,h.no,h.old,h.own,by simpa using h.lt,h.next,h.ron,h.nx,fun j M ob hj hob=> ?_,h.inj,h.cls⟩
 ·rw[←h.below.block k hk']
  exact Array.getElem?_setIfInBounds_ne (by omega)
 ·obtain⟨o,h1,h2⟩:=h.obs j M ob hj hob
  by_cases hbb:M.b=b
  ·obtain⟨cs,n,e',fz,cl,rel,rfl,hn⟩:=hk j M ob hj hbb hob
   rw[hbb,hb]at h1
   cases h1
   obtain⟨c',lo,hi,he,hsz,h0,hcs,hf0,hf1⟩:=h2
   cases he
   refine⟨.cells (writeCells c q vs) e (lo,hi),by simp[hbb,hlt],_,lo,hi,rfl,by rw[writeCells_size];exact hsz,h0,fun i a hg=> ?_,hf0,hf1⟩
   obtain⟨h3,v,h4,h5⟩:=hcs i a hg
   refine⟨h3,v,?_,h5⟩
   rw[writeCells_get vs c q _ hq,if_neg (by omega)]
   exact h4
  ·refine⟨o,?_,h2⟩
   rw[←h1]
   exact Array.getElem?_setIfInBounds_ne (fun e=>hbb e.symm)
theorem MR.alias (h:MR N ρ ro st W w){id:Nat} {L:Loc} {ob:Ob} {o:Obj}(hid:∀ob',st.heap.get id=some ob'→ob'=ob) (hidn:id<st.next) (hρ:ρ id=none) (hN:¬N id) (hro:ro≤id) (hW:W.heap.size≤L.b)
 (hb:w.heap[L.b]? =some o) (ho:OR ρ L ob o) (hm:∀j M ob',ρ j=some M→st.heap.get j=some ob'→M.b=L.b→Mates L M ob ob'∧Mates M L ob' ob):MR N (ρ.put id L) ro st W w:=by
 have hle:=Rho.put_le (L:=L) hρ
 have hpr:∀{j M},ρ.put id L j=some M→(j=id∧M=L)∨(j≠id∧ρ j=some M):=by
  intro j M hj
  unfold Rho.put at hj
  split at hj
  ·rename_i e;cases hj;exact .inl ⟨e,rfl⟩
  ·rename_i e;exact .inr ⟨e,hj⟩
 refine⟨h.below,(fun i hi=>⟨by unfold Rho.put;rw[if_neg (fun(e:i=id)=>hN (e▸hi))];exact(h.no i hi).1,(h.no i hi).2⟩),fun j M hj hjr=> ?_,fun j M hj hjr=> ?_,fun j M hj=> ?_,fun j M hj=> ?_,h.ron,h.nx,fun j M ob' hj hob=> ?_,fun i j M M' a a' hi hj hoi hoj hbb=> ?_,h.cls⟩
 ·rcases hpr hj with⟨rfl,rfl⟩|⟨_,h'⟩
  ·omega
  ·exact h.old j M h' hjr
 ·rcases hpr hj with⟨rfl,rfl⟩|⟨_,h'⟩
  ·exact hW
  ·exact h.own j M h' hjr
 ·rcases hpr hj with⟨rfl,rfl⟩|⟨_,h'⟩
  ·exact lt_of_block hb
  ·exact h.lt j M h'
 ·rcases hpr hj with⟨rfl,rfl⟩|⟨_,h'⟩
  ·exact hidn
  ·exact h.next j M h'
 ·rcases hpr hj with⟨rfl,rfl⟩|⟨_,h'⟩
  ·cases hid _ hob
   exact⟨o,hb,ho.mono hle⟩
  ·obtain⟨x,h1,h2⟩:=h.obs j M ob' h' hob
   exact⟨x,h1,h2.mono hle⟩
 ·rcases hpr hi with⟨rfl,rfl⟩|⟨_,hi'⟩
  ·rcases hpr hj with⟨rfl,rfl⟩|⟨_,hj'⟩
   ·exact .inl rfl
   ·cases hid _ hoi
    exact .inr (hm j M' a' hj' hoj hbb.symm).1
  ·rcases hpr hj with⟨rfl,rfl⟩|⟨_,hj'⟩
   ·cases hid _ hoj
    exact .inr (hm i M a hi' hoi hbb).2
   ·exact h.inj i j M M' a a' hi' hj' hoi hoj hbb
theorem load_block {b o k:Nat} {c:Array Value} {e:TypeId} {f:Nat×Nat}(hb:w.heap[b]? =some (.cells c e f)) (hk:o+k≤c.size):(Go.loadCells (⟨b,o,none⟩:Addr) k).run P w= .ok ((c.toList.drop o).take k).toArray w:=by
 have hl:((c.toList.drop o).take k).length=k:=by simp;omega
 have:=run_loads (P:=P) (w:=w) (b:=b) (o:=o) (vs:=(c.toList.drop o).take k) (fun j v hv=>by
  have hj:j<k:=by have:=(List.getElem?_eq_some_iff.1 hv).1;omega
  rw[List.getElem?_take_of_lt hj,List.getElem?_drop]at hv
  have hv':c[o+j]? =some v:=by simpa using hv
  simp[World.cell?,hb,hv'])
 rw[hl]at this
 exact this
theorem run_load0 {a:Addr} :(Go.loadCells a 0).run P w= .ok #[] w:=rfl
theorem lenOf_run {x:AV} {v:Value} {n:Nat}(hv:VR ρ x v) (h:lenOfA x=some n) (w:World):(Builtin.lenOf v).run P w= .ok n w:=by
 unfold lenOfA at h
 split at h<;>first
  | (cases h;done)
  | (cases h;cases hv;rfl)
theorem loads_length {st:St} {id:Nat} :∀{n off:Nat} {l:List AV},st.loads id n off= .ok l→l.length=n
 |0,off,l,h=>by cases h;rfl
 |n+1,off,l,h=>by
  obtain⟨a,_,h⟩:=Rs.bind_ok h
  obtain⟨r,hr,h⟩:=Rs.bind_ok h
  cases h
  simp[loads_length hr]
theorem firstCells_run (h:MR N ρ ro st W w){size n:Nat} {x:AV} {v:Value} {l:List AV} {len:Nat}(hv:VR ρ x v) (hlen:lenOfA x=some len) (hn:n≤len) (hl:firstA st size n x= .ok l):
 ∃vs:List Value,(Builtin.firstCells size n v).run P w= .ok vs.toArray w∧VRs ρ l vs∧l.length=n*size:=by
 unfold firstA at hl
 split at hl
 ·rename_i id off ln cap
  cases hlen
  cases hv with|sl _ _ _ _ L c o hL hcap hle=>
  by_cases h0:n*size=0
  ·have h0':Nat.mul n size=0:=h0
   rw[h0']at hl
   cases hl
   exact⟨[],by simp[Builtin.firstCells,h0,run_load0],.nil,by simp[h0]⟩
  ·have hn0:0<n:=by
    rcases Nat.eq_zero_or_pos n with e|e
    ·subst e;simp at h0
    ·exact e
   have ho:o=L.base+off:=by
    cases cap with
    |k m=>exact hcap.2
    |g m=>rcases hcap.2 with h1|h1
          ·omega
          ·exact h1
   subst ho
   obtain⟨vs,h1,h2,h3⟩:=h.loads hL hl
   refine⟨vs,?_,h1,loads_length hl⟩
   have:=run_loads (P:=P) h3
   rw[h2]at this
   exact this
 ·split at hl
  ·cases hl;cases hv
   exact⟨[],rfl,.nil,by simp⟩
  ·cases hl
 ·rename_i s
  split at hl
  ·rename_i hsz
   have hsz':=beq_true hsz
   subst hsz'
   cases hl;cases hv;cases hlen
   refine⟨(s.take n).map fun b=> .int .u8 b.toNat,?_,?_,by simp;omega⟩
   ·have hx:((⟨⟨s⟩⟩:ByteArray).extract 0 n).data=⟨s.take n⟩:=by
     simp[ByteArray.data_extract]
    simp only[Builtin.firstCells,Sem.run_pure]
    rw[hx]
    congr 1
    apply Array.ext'
    simp
   ·clear hn
    generalize s.take n=u
    induction u with
    |nil=>exact .nil
    |cons b r ih=>exact .cons _ _ _ _ (.int _ _) ih
  ·cases hl
 ·cases hl
theorem oneAll_one {l:List AV} {vs:List Value}(h:VRs ρ l vs) (ho:AV.oneAll l=true):∀v∈vs,oneV v=true:=by
 intro v hvm
 obtain⟨i,hi⟩:=List.getElem?_of_mem hvm
 have hlt:i<l.length:=by have:=(List.getElem?_eq_some_iff.1 hi).1;have:=h.length;omega
 obtain⟨v',hv',hR⟩:=h.get (i:=i) (a:=l[i]) (by simp[hlt])
 rw[hi]at hv';cases hv'
 exact hR.one (List.all_eq_true.1 ho _ (List.getElem_mem hlt))
end
section
variable {P:Program} {N:Nat→Prop} {ρ:Rho} {ro:Nat} {st:St} {W w:World}
def zerosK (xt:Option TypeId) (K:Bool→Sem Value):Sem Value:=
 match xt with
 |some xType=>do
  let d ←underlying xType
  let zeros ←pure (match d with| .int _=>true|_=>false)
  K zeros
 |none=>do
  let zeros ←pure false
  K zeros
theorem notInt_K {xt:Option TypeId}(h:notInt P xt=true) (w:World) (K:Bool→Sem Value):
 (zerosK xt K).run P w=(K false).run P w:=by
 unfold notInt at h
 unfold zerosK
 cases xt with
 |none=>rfl
 |some u=>
  simp only at h⊢
  split at h
  ·cases h
  ·rename_i d hn hu
   simp only[Sem.run_bind,run_underlying hu,Result.andThen_ok]
   cases d<;>first|rfl|exact absurd rfl (hn _)
  ·cases h
structure AppIn (P:Program) (w:World) (ts:Array TypeId) (e size n:Nat) (xv:Value):Prop where
 ty:∃t,ts[0]? =some t∧P.underlying t=some (.slice e)
 sz:tySize P e=some size
 int:notInt P ts[1]? =true
 len:(Builtin.lenOf xv).run P w= .ok n w
theorem append_room {ts:Array TypeId} {ty:TypeId} {e size n len c:Nat} {base:Option Addr} {xv:Value} {vs:List Value} {w':World}(h:AppIn P w ts e size n xv) (hcells:(Builtin.firstCells size n xv).run P w= .ok vs.toArray w) (hroom:len+n≤c)
 (hst:∀a,base=some a→(storeCells (a.add (len*size)) vs).run P w= .ok () w') (hno:base=none→w'=w):
 (Builtin.append_ ts ty #[.slice base len c,xv]).run P w= .ok (.slice base (len+n) c) w':=by
 obtain⟨t,ht,hu⟩:=h.ty
 unfold Builtin.append_
 simp only[ht,List.getElem?_toArray,List.getElem?_cons_zero,List.getElem?_cons_succ,Sem.run_bind,run_underlying hu,Result.andThen_ok,run_size h.sz]
 refine(notInt_K h.int w _).trans ?_
 simp only[Bool.false_eq_true,if_false,Sem.run_bind,h.len,Result.andThen_ok,if_pos hroom,Bool.not_false,if_true,hcells]
 cases base with
 |none=>cases hno rfl;rfl
 |some a=>
  have:=hst a rfl
  simp[Sem.run_bind,this]
theorem growBy_le (n:Nat):∀(r c:Nat),c≤n+(n+768)/4→Builtin.growBy n r c≤n+(n+768)/4
 |0,c,h=>h
 |r+1,c,h=>by
  simp only[Builtin.growBy]
  split
  ·exact h
  ·rename_i hc
   exact growBy_le n r _ (by omega)
theorem nextcap_le {n c:Nat}(h:c<n):Builtin.nextslicecap n c≤2*n+192:=by
 unfold Builtin.nextslicecap
 split
 ·omega
 ·split
  ·omega
  ·have:=growBy_le n 4 c (by omega)
   omega
theorem append_grow {ts:Array TypeId} {ty:TypeId} {e size n len c:Nat} {base:Option Addr} {xv:Value} {vs ov:List Value} {bytes:Nat}(h:AppIn P w ts e size n xv) (hroom:c<len+n)
 (hb:tyBytes P e=some bytes) (hb0:0<bytes) (hb1:bytes≤100000) (hn:len+n≤100000) (hz:zeroOk P e size=true) (hcells:(Builtin.firstCells size n xv).run P {w with drawn:=w.drawn+1} = .ok vs.toArray {w with drawn:=w.drawn+1})
 (hold:(Builtin.firstCells size len (.slice base len c)).run P {w with drawn:=w.drawn+1} = .ok ov.toArray {w with drawn:=w.drawn+1}):
 ∃newCap rest w',(Builtin.append_ ts ty #[.slice base len c,xv]).run P w= .ok (.slice (some ⟨w.heap.size,0,none⟩) (len+n) newCap) w'∧w'= {w with drawn:=w.drawn+1,heap:=w.heap.push (.cells (ov.toArray++vs.toArray++rest) e)} ∧len+n≤newCap∧rest.size=(newCap-(len+n))*size:=by
 obtain⟨t,ht,hu⟩:=h.ty
 have hinfo:∃i,P.info? e=some i∧i.bytes=bytes:=by
  unfold tyBytes at hb
  split at hb
  ·rename_i i hi;cases hb;exact⟨i,hi,rfl⟩
  ·cases hb
 obtain⟨i,hi,hib⟩:=hinfo
 have hzero:∃zv:Value,zv.cells.size=size∧∀w',(zeroValue e).run P w'= .ok zv w':=by
  unfold zeroOk at hz
  split at hz
  ·rename_i z hz1
   split at hz
   ·rename_i l hl
    have hlen:=beq_true hz
    obtain⟨zv,h1,h2⟩:=run_zero (ρ:=fun _=>none) hz1 w
    have hc:=(h2.cells hl).length
    refine⟨zv,by simp at hc;omega,fun w'=> ?_⟩
    obtain⟨zv',h3,_⟩:=run_zero (ρ:=fun _=>none) hz1 w'
    have:zv'=zv:=by
     unfold tyZero at hz1
     rw[hi]at hz1
     simp only at hz1
     split at hz1
     ·rename_i v hv
      simp[zeroValue,typeInfo,hi,hv]at h1 h3
      rw[←h1,←h3]
     ·cases hz1
    rw[←this];exact h3
   ·cases hz
  ·cases hz
 obtain⟨zv,hzs,hzr⟩:=hzero
 have hmax:¬((((len+n:Nat):Int)>IntKind.i64.max)∧((false=true)∨i.bytes=0)):=by
  rintro⟨h1,_⟩
  have:((len+n:Nat):Int)>9223372036854775807:=h1
  omega
 have hnext:¬(Builtin.nextslicecap (len+n) c*i.bytes>2^48):=by
  have h1:=nextcap_le hroom
  have h2:Builtin.nextslicecap (len+n) c≤200192:=by omega
  have h3:Builtin.nextslicecap (len+n) c*i.bytes≤200192*100000:=Nat.mul_le_mul h2 (by omega)
  omega
 have hnoroom:¬(len+n≤c):=by omega
 unfold Builtin.append_
 simp only[ht,List.getElem?_toArray,List.getElem?_cons_zero,List.getElem?_cons_succ,Sem.run_bind,run_underlying hu,Result.andThen_ok,run_size h.sz]
 have hmax':¬((((len+n:Nat):Int)>IntKind.i64.max)∧((false=true)∨bytes=0)):=hib▸hmax
 have hnext':¬(Builtin.nextslicecap (len+n) c*bytes>2^48):=hib▸hnext
 have hty:∀w',(typeInfo e).run P w'= .ok i w':=fun w'=>by simp[typeInfo,hi]
 obtain⟨newCap,hcap,hge⟩:∃newCap,(choose (.appendCap (len+n) c e)).run P w= .ok newCap {w with drawn:=w.drawn+1} ∧len+n≤newCap:=by
  refine⟨(Question.appendCap (len+n) c e).cut (w.tape w.drawn (.appendCap (len+n) c e)),?_,?_⟩
  ·rw[run_choose];rw[if_neg (by simp[Question.forced])]
  ·simp[Question.cut]
 refine⟨newCap,Builtin.zeroCells zv.cells (newCap-(len+n)),_,(notInt_K h.int w _).trans ?_,rfl,hge,by simp[Builtin.zeroCells,hzs]⟩
 simp only[Bool.false_eq_true,if_false,Sem.run_bind,h.len,Result.andThen_ok,if_neg hnoroom,Bool.not_false,if_true,hty,hib,if_neg hnext',false_or,hcap,run_askRoom]
 rw[if_neg (by rintro⟨_,h2⟩;omega)]
 simp only[Sem.run_bind,hty,hib,if_neg hnext',hcap,run_askRoom,Result.andThen_ok,Sem.run_pure]
 rw[hold]
 simp only[Sem.run_bind,Result.andThen_ok]
 rw[hcells]
 simp only[Sem.run_bind,Result.andThen_ok]
 rw[hzr]
 simp only[Sem.run_bind,Result.andThen_ok,newRow,run_newObj,Sem.run_pure]
end
section
variable {P:Program} {N:Nat→Prop} {ρ:Rho} {ro:Nat} {st:St} {W w:World}
theorem MR.rowC (h:MR N ρ ro st W w){cs:PT AV} {k e cl rel en:Nat} {ms:List Nat}(hcl:cl+1≤st.next+1) (hend:rel+k≤en)
 (hold:∀j cs' n' e' fz' rel',st.heap.get j=some (.row cs' n' e' fz' (cl+1) rel')→j∈ms∧rel'+n'≤en){c:Array Value}(hcs:∀i a,cs.get i=some a→i<k∧∃v,c[i]? =some v∧VR ρ a v) (d:Nat):
 ∃ρ',ρ.le ρ'∧MR N ρ' ro {heap:=st.heap.set st.next (.row cs k e 0 (cl+1) rel),next:=Nat.succ st.next,cls:=st.cls.set (cl+1) (en,st.next::ms)} W {w with drawn:=d,heap:=w.heap.push (.cells c e)} ∧ρ' st.next=some ⟨w.heap.size,c.size,0⟩:=by
 have h1:=(h.pendC (cs:=cs) (k:=k) (e:=e) (fz:=0) (cl:=cl) (rel:=rel) hcl hend hold).drawn d
 have hf:=h.fresh
 refine⟨ρ.put st.next ⟨w.heap.size,c.size,0⟩,Rho.put_le hf,?_,Rho.put_same⟩
 refine h1.real (id:=st.next) (ob:= .row cs k e 0 (cl+1) rel) (fun ob' hob=> ?_) (Nat.lt_succ_self _) hf h.freshN h.ron rfl ?_
 ·rcases PT.get_set hob with⟨_,r⟩|⟨n,_⟩
  ·exact r
  ·exact absurd rfl n
 ·refine⟨c,0,0,rfl,rfl,fun _=>rfl,fun i a hi=> ?_,fun _=>⟨rfl,rfl⟩,fun e=>by cases e⟩
  obtain⟨x,v,y,z⟩:=hcs i a hi
  exact⟨x,v,by simpa using y,z.mono (Rho.put_le hf)⟩
theorem lay2 {ol new:List AV} {ov vs:List Value}(h1:VRs ρ ol ov) (h2:VRs ρ new vs){rest:Array Value} {i:Nat} {a:AV}(h:(PT.lay new ol.length (PT.lay ol 0 .nil)).get i=some a):
 i<ol.length+new.length∧∃v,(ov.toArray++vs.toArray++rest)[i]? =some v∧VR ρ a v:=by
 have l1:=h1.length
 have l2:=h2.length
 rcases PT.get_lay h with⟨x,y⟩|⟨x,y⟩
 ·obtain⟨v,hv,hr⟩:=h2.get y
  have hlt:=(List.getElem?_eq_some_iff.1 hv).1
  refine⟨by omega,v,?_,hr⟩
  rw[Array.getElem?_append_left (by simp;omega),Array.getElem?_append_right (by simp;omega)]
  simpa[l1]using hv
 ·rcases PT.get_lay y with⟨x',y'⟩|⟨_,y'⟩
  ·obtain⟨v,hv,hr⟩:=h1.get y'
   have hlt:=(List.getElem?_eq_some_iff.1 hv).1
   refine⟨by omega,v,?_,hr⟩
   rw[Array.getElem?_append_left (by simp;omega),Array.getElem?_append_left (by simp;omega)]
   simpa using hv
  ·cases y'
theorem no_old_class (h:MR N ρ ro st W w){j:Nat} {cs':PT AV} {n' e' fz' rel':Nat}(hj:st.heap.get j=some (.row cs' n' e' fz' (st.next+1) rel')):False:=by
 have:=(h.cls j cs' n' e' fz' st.next rel' hj).1
 omega
theorem MR.grown (h:MR N ρ ro st W w){ol new:List AV} {ov vs:List Value}(h1:VRs ρ ol ov) (h2:VRs ρ new vs){k e size m newCap:Nat} {rest:Array Value}(hk:k=ol.length+new.length) (hm:m*size=k) (hc:m≤newCap) (hr:rest.size=(newCap-m)*size) (d:Nat):
 ∃ρ',ρ.le ρ'∧MR N ρ' ro (st.grown (PT.lay new ol.length (PT.lay ol 0 .nil)) k e size m).2 W {w with drawn:=d,heap:=w.heap.push (.cells (ov.toArray++vs.toArray++rest) e)} ∧
  VR ρ' (st.grown (PT.lay new ol.length (PT.lay ol 0 .nil)) k e size m).1 (.slice (some ⟨w.heap.size,0,none⟩) m newCap):=by
 have l1:=h1.length
 have l2:=h2.length
 obtain⟨ρ',a1,a2,a3⟩:=h.rowC (cs:=PT.lay new ol.length (PT.lay ol 0 .nil)) (k:=k) (e:=e) (cl:=st.next) (rel:=0) (en:=k) (ms:= []) (Nat.le_refl _) (by omega)
  (fun j cs' n' e' fz' rel' hj=>(no_old_class h hj).elim) (c:=ov.toArray++vs.toArray++rest) (fun i a hi=>by rw[hk];exact lay2 h1 h2 hi) d
 refine⟨ρ',a1,a2,.sl _ _ _ _ _ _ _ a3 ⟨?_,.inr (by simp)⟩ hc⟩
 simp only[Array.size_append,List.size_toArray,l1,l2]
 rw[hr]
 have:newCap*size=m*size+(newCap-m)*size:=by rw[←Nat.add_mul];congr 1;omega
 omega
def AppOut (P:Program) (N:Nat→Prop) (ρ:Rho) (ro:Nat) (st':St) (W w:World) (m:Sem Value) (r:AV):Prop:=∃ρ' w' v,m.run P w= .ok v w'∧ρ.le ρ'∧MR N ρ' ro st' W w'∧VR ρ' r v
theorem lay_new {X:PT AV} {new:List AV} {vs:List Value} {d k:Nat} {c:Array Value} {o:Nat}(h2:VRs ρ new vs) (hk:k=d+new.length) (hX:∀i a,X.get i=some a→i<d∧∃v,c[o+i]? =some v∧VR ρ a v){i:Nat} {a:AV}(h:(PT.lay new d X).get i=some a):
 i<k∧((d≤i∧∃v,vs[i-d]? =some v∧VR ρ a v)∨(i<d∧∃v,c[o+i]? =some v∧VR ρ a v)):=by
 have l2:=h2.length
 rcases PT.get_lay h with⟨x,y⟩|⟨x,y⟩
 ·obtain⟨v,hv,hr⟩:=h2.get y
  have hlt:=(List.getElem?_eq_some_iff.1 hv).1
  exact⟨by omega,.inl ⟨x,v,hv,hr⟩⟩
 ·obtain⟨hi,v,hv,hr⟩:=hX i a y
  exact⟨by omega,.inr ⟨hi,v,hv,hr⟩⟩
theorem append_open (h:MR N ρ ro st W w){ts:Array TypeId} {ty:TypeId} {id off len c o n size e k cl rel bytes:Nat} {L:Loc} {cs X:PT AV} {new:List AV} {m:Nat×List Nat} {xv:Value}(hL:ρ id=some L) (hro:ro≤id)
 (hrow:st.heap.get id=some (.row cs k e 0 (cl+1) rel)) (hcls:st.cls.get (cl+1)=some m) (hp:m.1≤rel+off+len*size)
 (hcap:CapR L off (.g size) c o) (hlc:len≤c) (hn0:0<n) (hX:∀cc e',w.heap[L.b]? =some (.cells cc e' (0,0))→∀i a,X.get i=some a→i<len*size∧∃v,cc[L.base+off+i]? =some v∧VR ρ a v)
 (hin:∀d,AppIn P {w with drawn:=d} ts e size n xv) (hnew:∀d,∃vs:List Value,(Builtin.firstCells size n xv).run P {w with drawn:=d} = .ok vs.toArray {w with drawn:=d} ∧VRs ρ new vs) (hnl:new.length=n*size) (hone:AV.oneAll new=true)
 (hb:tyBytes P e=some bytes) (hb0:0<bytes) (hb1:bytes≤100000) (hln:len+n≤100000) (hz:zeroOk P e size=true):
 AppOut P N ρ ro {heap:=st.heap.set st.next (.row (PT.lay new (len*size) X) ((len+n)*size) e 0 (cl+1) (rel+off)),next:=Nat.succ st.next,cls:=st.cls.set (cl+1) (rel+off+len*size+n*size,st.next::m.2)} W w
  (Builtin.append_ ts ty #[.slice (some ⟨L.b,o,none⟩) len c,xv]) (.sl st.next 0 (len+n) (.g size)):=by
 obtain⟨cc,lo,hi,hblk,hsz,hbase,hcells,hf0,hf1⟩:=h.row hL hrow
 obtain⟨rfl,rfl⟩:=hf0 rfl
 obtain⟨hc1,hc2⟩:=hcap
 have hX':=hX cc e hblk
 have hsum:(len+n)*size=len*size+n*size:=Nat.add_mul _ _ _
 have hin0:AppIn P w ts e size n xv:=hin w.drawn
 have hmul:len*size≤c*size:=Nat.mul_le_mul_right _ hlc
 have hclass:=(h.cls id cs k e 0 cl rel hrow)
 obtain⟨hcn,hcm⟩:=hclass
 have hkm:=(hcm m hcls).2
 have hold:∀j cs' n' e' fz' rel',st.heap.get j=some (.row cs' n' e' fz' (cl+1) rel')→j∈m.2∧rel'+n'≤rel+off+len*size+n*size:=by
  intro j cs' n' e' fz' rel' hj
  obtain⟨x,y⟩:=(h.cls j cs' n' e' fz' cl rel' hj).2 m hcls
  exact⟨x,by omega⟩
 rcases Nat.lt_or_ge c (len+n)with hroom|hroom
 ·obtain⟨vs,hv1,hv2⟩:=hnew (w.drawn+1)
  have hov:∃ov:List Value,(Builtin.firstCells size len (.slice (some ⟨L.b,o,none⟩) len c)).run P {w with drawn:=w.drawn+1} = .ok ov.toArray {w with drawn:=w.drawn+1} ∧ov.length=len*size∧∀i,i<len*size→ov[i]? =cc[L.base+off+i]? :=by
   by_cases h0:len*size=0
   ·refine⟨[],?_,by simp[h0],fun i hi=>by omega⟩
    show(Go.loadCells (⟨L.b,o,none⟩:Addr) (len*size)).run P _=_
    rw[h0];rfl
   ·have hl0:0<len:=Nat.pos_of_ne_zero (fun e=>h0 (by simp[e]))
    have ho:o=L.base+off:=by rcases hc2 with h1|h1;omega;exact h1
    subst ho
    refine⟨(cc.toList.drop (L.base+off)).take (len*size),?_,by simp;omega,fun i hi=> ?_⟩
    ·exact load_block (w:= {w with drawn:=w.drawn+1}) hblk (by omega)
    ·rw[List.getElem?_take_of_lt hi,List.getElem?_drop]
     simp
  obtain⟨ov,ho1,ho2,ho3⟩:=hov
  obtain⟨newCap,rest,w',hr,rfl,hge,hrs⟩:=append_grow (ty:=ty) hin0 hroom hb hb0 hb1 hln hz hv1 ho1
  have l2:=hv2.length
  obtain⟨ρ',a1,a2,a3⟩:=h.rowC (cs:=PT.lay new (len*size) X) (k:=(len+n)*size) (e:=e) (cl:=cl) (rel:=rel+off) (en:=rel+off+len*size+n*size) (ms:=m.2) (by omega) (by omega) hold (c:=ov.toArray++vs.toArray++rest)
   (fun i a hi=>by
    obtain⟨x,y⟩:=lay_new (k:=(len+n)*size) hv2 (by omega) hX' hi
    refine⟨x,?_⟩
    rcases y with⟨y1,v,y2,y3⟩|⟨y1,v,y2,y3⟩
    ·have hlt:=(List.getElem?_eq_some_iff.1 y2).1
     refine⟨v,?_,y3⟩
     rw[Array.getElem?_append_left (by simp;omega),Array.getElem?_append_right (by simp;omega)]
     simpa[ho2]using y2
    ·refine⟨v,?_,y3⟩
     rw[Array.getElem?_append_left (by simp;omega),Array.getElem?_append_left (by simp;omega)]
     simpa[ho3 i y1]using y2) (w.drawn+1)
  refine⟨ρ',_,_,hr,a1,a2,.sl _ _ _ _ _ _ _ a3 ⟨?_,.inr (by simp)⟩ hge⟩
  simp only[Array.size_append,List.size_toArray,l2,ho2,hnl]
  rw[hrs]
  have:newCap*size=(len+n)*size+(newCap-(len+n))*size:=by rw[←Nat.add_mul];congr 1;omega
  omega
 ·have ho:o=L.base+off:=by rcases hc2 with h1|h1;omega;exact h1
  subst ho
  obtain⟨vs,hv1,hv2⟩:=hnew w.drawn
  have l2:=hv2.length
  have hmul2:(len+n)*size≤c*size:=Nat.mul_le_mul_right _ hroom
  have hW:=h.own id L hL hro
  have hfit:L.base+off+len*size+vs.length≤cc.size:=by omega
  have hst:=run_storeCells (P:=P) (b:=L.b) (e:=e) vs (L.base+off+len*size) 0 cc w hblk (by omega) (oneAll_one hv2 hone)
  have hr:=append_room (ty:=ty) (base:=some ⟨L.b,L.base+off,none⟩) hin0 hv1 hroom (w':= {w with heap:=w.heap.setIfInBounds L.b (.cells (writeCells cc (L.base+off+len*size) vs) e (0,0))}) (fun a ha=>by cases ha;rw[addr_add];exact hst) (fun e=>by cases e)
  have h1:=h.beyond hblk hW (q:=L.base+off+len*size) (vs:=vs) hfit (fun j M ob hj hM hob=>by
   rcases h.inj j id M L ob _ hj hL hob hrow hM with rfl|hmt
   ·rw[hrow]at hob;cases hob
    rw[hL]at hj;cases hj
    exact⟨_,_,_,_,_,_,rfl,by omega⟩
   ·obtain⟨cs1,n1,e1,fz1,cl1,rel1,cs2,n2,e2,fz2,rel2,rfl,he,hb1,hb2⟩:=hmt
    cases he
    obtain⟨x,y⟩:=(h.cls j cs1 n1 e1 fz1 cl rel1 hob).2 m hcls
    exact⟨_,_,_,_,_,_,rfl,by omega⟩)
  have h2:=h1.pendC (cs:=PT.lay new (len*size) X) (k:=(len+n)*size) (e:=e) (fz:=0) (cl:=cl) (rel:=rel+off) (en:=rel+off+len*size+n*size) (ms:=m.2) (by omega) (by omega) hold
  have hf:=h.fresh
  have hblk':({w with heap:=w.heap.setIfInBounds L.b (.cells (writeCells cc (L.base+off+len*size) vs) e (0,0))} :World).heap[L.b]? =some (.cells (writeCells cc (L.base+off+len*size) vs) e (0,0)):=by
   have:=lt_of_block hblk
   simp[this]
  have hOR:OR ρ ⟨L.b,L.n,L.base+off⟩ (.row (PT.lay new (len*size) X) ((len+n)*size) e 0 (cl+1) (rel+off)) (.cells (writeCells cc (L.base+off+len*size) vs) e (0,0)):=by
   refine⟨writeCells cc (L.base+off+len*size) vs,0,0,rfl,by rw[writeCells_size];exact hsz,(fun e=>by cases e),fun i a hi=> ?_,fun _=>⟨rfl,rfl⟩,fun e=>by cases e⟩
   obtain⟨x,y⟩:=lay_new (k:=(len+n)*size) hv2 (by omega) hX' hi
   refine⟨x,?_⟩
   show∃v,(writeCells cc (L.base+off+len*size) vs)[L.base+off+i]? =some v∧_
   rw[writeCells_get vs cc _ _ hfit]
   rcases y with⟨y1,v,y2,y3⟩|⟨y1,v,y2,y3⟩
   ·have hlt:=(List.getElem?_eq_some_iff.1 y2).1
    refine⟨v,?_,y3⟩
    rw[if_pos (by omega),show L.base+off+i-(L.base+off+len*size)=i-len*size from by omega]
    exact y2
   ·refine⟨v,?_,y3⟩
    rw[if_neg (by omega)]
    exact y2
  have hget:∀{j ob},ρ j≠none→(st.heap.set st.next (.row (PT.lay new (len*size) X) ((len+n)*size) e 0 (cl+1) (rel+off))).get j=some ob→st.heap.get j=some ob:=by
   intro j ob hj hg
   rcases PT.get_set hg with⟨rfl,_⟩|⟨_,r⟩
   ·exact absurd hf hj
   ·exact r
  have h3:=h2.alias (id:=st.next) (L:=⟨L.b,L.n,L.base+off⟩) (ob:= .row (PT.lay new (len*size) X) ((len+n)*size) e 0 (cl+1) (rel+off)) (fun ob' hob=>by
   rcases PT.get_set hob with⟨_,r⟩|⟨n,_⟩
   ·exact r
   ·exact absurd rfl n) (Nat.lt_succ_self _) hf h.freshN h.ron hW hblk' hOR (fun j M ob' hj hob hM=>by
   have hob':=hget (by rw[hj];simp) hob
   rcases h.inj j id M L ob' _ hj hL hob' hrow hM with rfl|hmt
   ·rw[hrow]at hob';cases hob'
    rw[hL]at hj;cases hj
    exact⟨⟨_,_,_,_,_,_,_,_,_,_,_,rfl,rfl,by simp;omega,rfl⟩,⟨_,_,_,_,_,_,_,_,_,_,_,rfl,rfl,by simp;omega,rfl⟩⟩
   ·obtain⟨cs1,n1,e1,fz1,cl1,rel1,cs2,n2,e2,fz2,rel2,rfl,he,hb1,hb2⟩:=hmt
    cases he
    exact⟨⟨_,_,_,_,_,_,_,_,_,_,_,rfl,rfl,by simp;omega,hb2.symm⟩,⟨_,_,_,_,_,_,_,_,_,_,_,rfl,rfl,by simp;omega,hb2⟩⟩)
  refine⟨_,_,_,hr,Rho.put_le hf,h3,.sl _ _ _ _ ⟨L.b,L.n,L.base+off⟩ _ _ Rho.put_same ⟨?_,.inr (by simp)⟩ hroom⟩
  exact hc1
theorem lenOf_other {P:Program} {xv:Value} {n:Nat} {w:World}(h:(Builtin.lenOf xv).run P w= .ok n w) (w':World):(Builtin.lenOf xv).run P w'= .ok n w':=by
 unfold Builtin.lenOf at h⊢
 split at h<;>simp_all
theorem appendA_run (h:MR N ρ ro st W w){ts:Array TypeId} {ty t:TypeId} {s x r:AV} {sv xv:Value} {st':St}(ht:ts[0]? =some t) (hs:VR ρ s sv) (hx:VR ρ x xv) (hr:appendA P ro st t ts[1]? s x= .ok (r,st')):
 AppOut P N ρ ro st' W w (Builtin.append_ ts ty #[sv,xv]) r:=by
 unfold appendA at hr
 split at hr
 ·cases hr
 rename_i e size hel
 obtain⟨hu,hsz⟩:=elemOf_spec hel
 split at hr
 case h_2=>cases hr
 rename_i bytes n hni hbytes hlen
 split at hr
 case h_2=>cases hr
 rename_i hz hb1
 simp only[Bool.and_eq_true]at hz
 obtain⟨hb0,hz⟩:=hz
 have hb0:0<bytes:=blt_true hb0
 have hb1:bytes≤100000:=ble_true hb1
 obtain⟨new,hnew,hr2⟩:=Rs.bind_ok hr
 clear hr
 have hr:=hr2
 clear hr2
 split at hr
 ·cases hr
 rename_i hone
 have hin:∀d,AppIn P {w with drawn:=d} ts e size n xv:=fun d=>⟨⟨t,ht,hu⟩,hsz,hni,lenOf_run hx hlen _⟩
 have hin0:AppIn P w ts e size n xv:=hin w.drawn
 have hfirst:∀d,∃vs:List Value,(Builtin.firstCells size n xv).run P {w with drawn:=d} = .ok vs.toArray {w with drawn:=d} ∧VRs ρ new vs∧new.length=n*size:=fun d=>firstCells_run (h.drawn d) hx hlen (Nat.le_refl _) hnew
 obtain⟨vs0,hv0,hV0,hnl⟩:=hfirst w.drawn
 split at hr
 ·cases hs
  split at hr
  ·cases hr
   have:vs0= []:=by have:=hV0.length;simp at hnl;simpa[hnl]using this
   subst this
   exact⟨ρ,w,_,append_room hin0 hv0 (by simp) (fun a ha=>by cases ha) (fun _=>rfl),Rho.le_refl _,h,.nilsl⟩
  ·rename_i hn
   split at hr
   ·rename_i hn1
    have hn1:=ble_true hn1
    simp only[Rs.ok.injEq]at hr
    obtain⟨vs,hv1,hv2,_⟩:=hfirst (w.drawn+1)
    have hn0:0<n:=Nat.pos_of_ne_zero hn
    obtain⟨newCap,rest,w',hrun,rfl,hge,hrs⟩:=append_grow (ty:=ty) (base:=none) (len:=0) (c:=0) hin0 (by omega) hbytes hb0 hb1 (by omega) hz hv1 (ov:= []) rfl
    obtain⟨ρ',a1,a2,a3⟩:=h.grown (.nil:VRs ρ [] []) hv2 (k:=n*size) (e:=e) (size:=size) (m:=n) (newCap:=newCap) (rest:=rest) (by simpa using hnl.symm) rfl (by omega) (by simpa using hrs) (w.drawn+1)
    have e1:(st.grown (PT.lay new 0 .nil) (Nat.mul n size) e size n)=(r,st'):=hr
    have e2:r=_:=(congrArg Prod.fst e1).symm
    have e3:st'=_:=(congrArg Prod.snd e1).symm
    rw[e2,e3]
    rw[Nat.zero_add]at hrun
    exact⟨ρ',_,_,hrun,a1,a2,a3⟩
   ·cases hr
 ·rename_i id off len cap
  cases hs with|sl _ _ _ _ L c o hL hcap hlc=>
  split at hr
  ·cases hr
  ·rename_i hln
   cases hr
   have:vs0= []:=by have:=hV0.length;simp at hnl;simpa[hnl]using this
   subst this
   exact⟨ρ,w,_,append_room hin0 hv0 (by simpa using hlc) (fun a ha=>rfl) (fun e=>by cases e),Rho.le_refl _,h,.sl _ _ _ _ _ _ _ hL hcap (by simpa using hlc)⟩
  ·rename_i n _ _ hn hln
   have hln:len+n≤100000:=ble_true hln
   have hn0:0<n:=Nat.pos_of_ne_zero (fun e=>hn (by simpa using e))
   split at hr
   ·rename_i cc
    obtain⟨rfl,rfl⟩:=hcap
    split at hr
    ·rename_i hroom
     have hroom:len+n≤c:=ble_true hroom
     obtain⟨st1,hst,hr⟩:=Rs.bind_ok hr
     cases hr
     obtain⟨w',hw,hM,_⟩:=h.stores (P:=P) hL hst hV0
     refine⟨ρ,w',_,append_room hin0 hv0 hroom (fun a ha=> ?_) (fun e=>by cases e),Rho.le_refl _,hM,.sl _ _ _ _ L _ _ hL ⟨rfl,rfl⟩ hroom⟩
     cases ha
     rw[addr_add]
     have:L.base+off+len*size=L.base+Nat.add off (Nat.mul len size):=Nat.add_assoc _ _ _
     rw[this]
     exact hw
    ·rename_i hroom
     have hroom:¬(len+n≤c):=fun hh=>by
      have:=Nat.ble_eq_true_of_le hh
      exact Bool.noConfusion (this.symm.trans hroom)
     obtain⟨old,ho,hr2⟩:=Rs.bind_ok hr
     clear hr
     have hr:=hr2
     clear hr2
     obtain⟨vs,hv1,hv2,_⟩:=hfirst (w.drawn+1)
     obtain⟨ov,ho1,ho2,ho3⟩:=firstCells_run (h.drawn (w.drawn+1)) (P:=P) (.sl id off len (.k c) L c _ hL ⟨rfl,rfl⟩ hlc) rfl (Nat.le_refl _) ho
     obtain⟨newCap,rest,w',hrun,rfl,hge,hrs⟩:=append_grow (ty:=ty) hin0 (by omega) hbytes hb0 hb1 hln hz hv1 ho1
     obtain⟨ρ',a1,a2,a3⟩:=h.grown ho2 hv2 (k:=(len+n)*size) (e:=e) (size:=size) (m:=len+n) (newCap:=newCap) (rest:=rest) (by rw[ho3,hnl,Nat.add_mul]) rfl hge hrs (w.drawn+1)
     simp only[Rs.ok.injEq]at hr
     have e1:(st.grown (PT.lay new (Nat.mul len size) (PT.lay old 0 .nil)) (Nat.mul (Nat.add len n) size) e size (Nat.add len n))=(r,st'):=hr
     have e0:Nat.mul len size=old.length:=ho3.symm
     rw[e0]at e1
     have e2:r=_:=(congrArg Prod.fst e1).symm
     have e3:st'=_:=(congrArg Prod.snd e1).symm
     rw[e2,e3]
     exact⟨ρ',_,_,hrun,a1,a2,a3⟩
   ·rename_i sz
    split at hr
    case h_2=>cases hr
    rename_i cs k e' cl rel hsz' hro hrow
    have hro:ro≤id:=blt_false hro
    have hsz':=beq_true hsz'
    subst hsz'
    split at hr
    case h_2=>cases hr
    rename_i cl m hee hcls
    have hee:=beq_true hee
    subst hee
    dsimp only at hr
    split at hr
    case h_2=>cases hr
    rename_i hp hk
    have hp:m.1≤rel+off+len*sz:=ble_true hp
    have hk:rel+k≤m.1:=ble_true hk
    have hfirst':∀d,∃vs:List Value,(Builtin.firstCells sz n xv).run P {w with drawn:=d} = .ok vs.toArray {w with drawn:=d} ∧VRs ρ new vs:=fun d=>let⟨a,b,c,_⟩:=hfirst d;⟨a,b,c⟩
    split at hr
    ·cases hr
     refine append_open h hL hro hrow hcls hp hcap hlc hn0 (fun cc e' hblk i a hi=> ?_) hin hfirst' hnl hone hbytes hb0 hb1 hln hz
     obtain⟨cc',lo,hi',hblk',_,_,hcells,_⟩:=h.row hL hrow
     rw[hblk']at hblk;cases hblk
     obtain⟨x,v,y,z⟩:=hcells i a hi
     exact⟨by omega,v,by simpa using y,z⟩
    ·obtain⟨old,ho,hr⟩:=Rs.bind_ok hr
     cases hr
     refine append_open h hL hro hrow hcls hp hcap hlc hn0 (fun cc e' hblk i a hi=> ?_) hin hfirst' hnl hone hbytes hb0 hb1 hln hz
     rcases PT.get_lay hi with⟨_,y⟩|⟨_,y⟩
     ·obtain⟨ov,h1,h2,h3⟩:=h.loads hL ho
      obtain⟨v,hv,hR⟩:=h1.get y
      have hlt:=(List.getElem?_eq_some_iff.1 y).1
      have hol:=loads_length ho
      have:=h3 _ _ hv
      refine⟨by simp only[Nat.sub_zero]at hlt;rw[hol]at hlt;exact hlt,v,?_,hR⟩
      simpa[World.cell?,hblk]using this
     ·cases y
 ·cases hr
end
end Go.Proofs.YtpjcdbjablijkaaGreatDoor.Ab
