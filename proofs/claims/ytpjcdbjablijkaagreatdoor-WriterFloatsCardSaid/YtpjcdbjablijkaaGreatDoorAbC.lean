import Derived.Test.YtpjcdbjablijkaaGreatDoorAbB
import Derived.Lib.UnsafeStr
import Derived.Laws.BytesString
import Derived.Scope
import Derived.LoopN
import Derived.Orders
set_option linter.unusedVariables false
set_option linter.unusedSimpArgs false
set_option linter.unnecessarySimpa false
namespace Go.Proofs.YtpjcdbjablijkaaGreatDoor.Ab
open Go Go.RowKit
section
variable {P:Program} {N:Nat→Prop} {ρ:Rho} {ro:Nat} {st:St} {W w:World}
theorem MR.put0 (h:MR N ρ ro st W w){id:Nat} {L:Loc}(hL:ρ id=some L) (hro:ro≤id){ob ob':Ob} {o':Obj}(hob:st.heap.get id=some ob) (h0:ob.cl0) (h0':ob'.cl0) (ho:OR ρ L ob' o'):
 MR N ρ ro {st with heap:=st.heap.set id ob'} W {w with heap:=w.heap.setIfInBounds L.b o'} :=by
 refine h.upd hL hro ho rfl (fun j x hj=> ?_) (h.nx _ _ hob) (fun j M x hne hM hj hb=> ?_) (fun j cs n e fz cl rel hj=> ?_)
 ·rcases PT.get_set hj with⟨rfl,rfl⟩|⟨a,b⟩
  ·exact .inl ⟨rfl,rfl⟩
  ·exact .inr ⟨a,b⟩
 ·rcases PT.get_set hj with⟨e,_⟩|⟨_,b⟩
  ·exact hne e
  ·rcases h.inj j id M L _ _ hM hL b hob hb with e|hm
   ·exact hne e
   ·obtain⟨cs1,n1,e1,fz1,cl1,rel1,cs2,n2,e2,fz2,rel2,_,h2,_⟩:=hm
    exact h0 _ _ _ _ _ _ h2
 ·rcases PT.get_set hj with⟨rfl,e⟩|⟨_,b⟩
  ·exact absurd e.symm (h0' _ _ _ _ _ _)
  ·exact h.cls j cs n e fz cl rel b
theorem cl0_map (es:List (AV×AV)):(Ob.map es).cl0:=fun _ _ _ _ _ _ e=>by cases e
theorem cl0_iter (s:List UInt8) (p:Nat):(Ob.iter s p).cl0:=fun _ _ _ _ _ _ e=>by cases e
theorem plain_same {n:Nat} {a b:AV} {v u:Value}(hp:plainCell a=true) (hs:AV.same (n+1) a b=true) (hv:VR ρ a v) (hu:VR ρ b u) (m:Nat):v=u∧Instr.sameBits (m+1) v v=true:=by
 cases a<;>simp only[plainCell]at hp<;>first|(exact absurd hp (by decide))|skip
 all_goals cases b<;>simp only[AV.same]at hs<;>first|(exact absurd hs (by decide))|skip
 ·cases hv;cases hu
  simp at hs
  exact⟨by rw[hs],by simp[Instr.sameBits]⟩
 ·cases hv;cases hu
  simp at hs
  exact⟨by rw[hs.1,hs.2],by simp[Instr.sameBits]⟩
 ·cases hv;cases hu
  rw[eqBytes_iff]at hs
  exact⟨by rw[eq_of_beq hs],by simp[Instr.sameBits,beq_toListBytes]⟩
theorem plain_cells {n:Nat} :∀{a b:List AV} {v u:List Value},a.all plainCell=true→eqAVs (AV.same (n+1)) a b=true→VRs ρ a v→VRs ρ b u→∀m,v=u∧((v.zip v).all fun(x,y)=>Instr.sameBits (m+1) x y)=true
 | [],[],v,u,_,_,hv,hu,m=>by cases hv;cases hu;exact⟨rfl,rfl⟩
 | [],_::_,v,u,_,hs,hv,hu,m=>by cases hs
 |_::_,[],v,u,_,hs,hv,hu,m=>by cases hs
 |x::r,y::s,v,u,hp,hs,hv,hu,m=>by
  cases hv with|cons _ v1 _ v2 hv1 hv2=>cases hu with|cons _ u1 _ u2 hu1 hu2=>
  simp only[List.all_cons,Bool.and_eq_true]at hp
  simp only[eqAVs]at hs
  split at hs
  ·rename_i hs1
   obtain⟨rfl,h2⟩:=plain_same hp.1 hs1 hv1 hu1 m
   obtain⟨rfl,h4⟩:=plain_cells hp.2 hs hv2 hu2 m
   exact⟨rfl,by simp only[List.zip_cons_cons,List.all_cons,h2,h4,Bool.and_self]⟩
  ·cases hs
theorem key_same {a b:AV} {v u:Value}(hp:plainKey a=true) (hs:AV.same 20 a b=true) (hv:VR ρ a v) (hu:VR ρ b u):v=u∧Instr.sameBits 10000 v v=true:=by
 cases a<;>simp only[plainKey]at hp<;>first
  | (exact plain_same hp hs hv hu 9999)
  |skip
 cases b<;>first|(exact Bool.noConfusion (show false=true from hs))|skip
 cases hv with|agg _ c hc=>cases hu with|agg _ c' hc'=>
 obtain⟨h1,h2⟩:=plain_cells (n:=18) hp hs hc hc' 9998
 have:c=c':=Array.ext' h1
 subst this
 exact⟨rfl,by simp only[Instr.sameBits,h2,beq_self_eq_true,Bool.and_self]⟩
theorem setNth_spec {k v:AV} {kv vv:Value} :∀{es:List (AV×AV)} {m:List MapEntry} {i:Nat},ERs ρ es m→VR ρ k kv→VR ρ v vv→ERs ρ (setNth es k v i) (m.modify i fun e=> {e with key:=kv,val:=vv})
 | [],m,i,h,hk,hv=>by
  obtain⟨h1,h2⟩:=h
  have:m= []:=by have:=h1.length;simpa using this
  subst this
  cases i<;>exact⟨.nil,.nil⟩
 |e::es,[],i,h,hk,hv=>by have:=h.1.length;simp at this
 |e::es,me::m,i,h,hk,hv=>by
  obtain⟨h1,h2⟩:=h
  cases h1 with|cons _ _ _ _ a1 a2=>cases h2 with|cons _ _ _ _ b1 b2=>
  cases i with
  |zero=>exact⟨by simpa[setNth]using VRs.cons _ _ _ _ hk a2,by simpa[setNth]using VRs.cons _ _ _ _ hv b2⟩
  |succ i=>
   obtain⟨c1,c2⟩:=setNth_spec (i:=i) ⟨a2,b2⟩ hk hv
   exact⟨by simpa[setNth]using VRs.cons _ _ _ _ a1 c1,by simpa[setNth]using VRs.cons _ _ _ _ b1 c2⟩
theorem delNth_spec:∀{es:List (AV×AV)} {m:List MapEntry} {i:Nat},ERs ρ es m→ERs ρ (delNth es i) (m.eraseIdx i)
 | [],m,i,h=>by
  obtain⟨h1,h2⟩:=h
  have:m= []:=by have:=h1.length;simpa using this
  subst this
  cases i<;>exact⟨.nil,.nil⟩
 |e::es,[],i,h=>by have:=h.1.length;simp at this
 |e::es,me::m,i,h=>by
  obtain⟨h1,h2⟩:=h
  cases h1 with|cons _ _ _ _ a1 a2=>cases h2 with|cons _ _ _ _ b1 b2=>
  cases i with
  |zero=>exact⟨by simpa[delNth]using a2,by simpa[delNth]using b2⟩
  |succ i=>
   obtain⟨c1,c2⟩:=delNth_spec (i:=i) ⟨a2,b2⟩
   exact⟨by simpa[delNth]using VRs.cons _ _ _ _ a1 c1,by simpa[delNth]using VRs.cons _ _ _ _ b1 c2⟩
theorem ERs.snoc {es:List (AV×AV)} {m:List MapEntry}(h:ERs ρ es m){k v:AV} {e:MapEntry}(hk:VR ρ k e.key) (hv:VR ρ v e.val):ERs ρ (es++ [(k,v)]) (m++ [e]):=
 ⟨by simpa using h.1.append (.cons _ _ _ _ hk .nil),by simpa using h.2.append (.cons _ _ _ _ hv .nil)⟩
theorem checkA_under {kt:TypeId} {k:AV} {n:Nat}(h:checkA P n kt k=true):∃d,P.underlying kt=some d:=by
 cases n with
 |zero=>cases h
 |succ n=>
  cases hd:P.underlying kt with
  |none=>simp[checkA,hd]at h
  |some d=>exact⟨d,rfl⟩
theorem run_setObj {b:Nat} {es:Array MapEntry} {clock:Nat}(o:Obj) (hb:w.heap[b]? =some (.map es clock)):(setObj b o).run P w= .ok () {w with heap:=w.heap.setIfInBounds b o} :=by
 simp[setObj,Sem.run,hb]
theorem updateA_run (h:MR N ρ ro st W w){t:TypeId} {m k v:AV} {mv kv vv:Value} {st':St}(hm:VR ρ m mv) (hk:VR ρ k kv) (hv:VR ρ v vv) (hr:updateA P ro st t m k v= .ok st'):
 ∃w',(Instr.mapUpdate t mv kv vv).run P w= .ok () w'∧MR N ρ ro st' W w':=by
 unfold updateA at hr
 split at hr
 case h_2=>cases hr
 rename_i kt _ id ht
 have ht':=mapKV_spec ht
 cases hm with|map _ L hL=>
 split at hr
 case h_2=>cases hr
 rename_i es hg hck hro
 simp only[Bool.and_eq_true]at hck
 have hro:=blt_false hro
 obtain⟨f,hf,hr⟩:=Rs.bind_ok hr
 obtain⟨o,ho,arr,clock,rfl,harr,hbase⟩:=h.obs _ L _ hL hg
 obtain⟨r',h1,h2⟩:=findA_run h hk harr hf
 obtain⟨d,hd⟩:=checkA_under hck.1
 have h3:=findKey_of hd h1
 have h4:=checkA_run (P:=P) 20 10000 (by omega) false w hk hck.1
 have hgo:=run_getObj (P:=P) ho (by intro c e f hh;cases hh)
 have hset:=fun x=>run_setObj (P:=P) x ho
 simp only[Instr.mapUpdate,Sem.run_bind,run_underlying ht',Result.andThen_ok,hgo,h4,h3]
 cases f with
 |none=>
  have:r'=none:=h2
  subst this
  cases hr
  refine⟨_,hset _,h.put0 hL hro hg (cl0_map _) (cl0_map _) ⟨_,_,rfl,?_,hbase⟩⟩
  rw[Array.toList_push]
  exact harr.snoc hk hv
 |some p=>
  obtain⟨i,e⟩:=p
  obtain⟨me,rfl,_,hme,hek,_⟩:=h2
  simp only at hr
  split at hr
  ·rename_i hs
   cases hr
   obtain⟨he1,he2⟩:=key_same hck.2 hs hk hek
   have hme':arr[i]? =some me:=by simpa using hme
   subst he1
   simp only[hme',Option.map_some,Option.getD_some]
   have hst:(Instr.keyThatStays me.key me.key).run P w= .ok me.key w:=by simp[Instr.keyThatStays,he2]
   simp only[Sem.run_bind,hst,Result.andThen_ok]
   refine⟨_,hset _,h.put0 hL hro hg (cl0_map _) (cl0_map _) ⟨_,_,rfl,?_,hbase⟩⟩
   rw[Array.toList_modify]
   exact setNth_spec harr hk hv
  ·cases hr
theorem deleteA_run (h:MR N ρ ro st W w){ts:Array TypeId} {ty t:TypeId} {m k:AV} {mv kv:Value} {st':St}(hts:ts[0]? =some t) (hm:VR ρ m mv) (hk:VR ρ k kv) (hr:deleteA P ro st t m k= .ok st'):
 ∃w',(Builtin.delete_ ts ty #[mv,kv]).run P w= .ok (.tuple #[]) w'∧MR N ρ ro st' W w':=by
 unfold deleteA at hr
 split at hr
 case h_3=>cases hr
 ·rename_i kt _ ht
  have ht':=mapKV_spec ht
  cases hm
  split at hr
  ·rename_i hck
   cases hr
   have h4:=checkA_run (P:=P) 20 10000 (by omega) true w hk hck
   refine⟨w,?_,h⟩
   simp[Builtin.delete_,hts,run_underlying ht',h4]
  ·cases hr
 ·rename_i kt _ id ht
  have ht':=mapKV_spec ht
  cases hm with|map _ L hL=>
  split at hr
  case h_2=>cases hr
  rename_i es hg hck hro
  have hro:=blt_false hro
  obtain⟨f,hf,hr⟩:=Rs.bind_ok hr
  obtain⟨o,ho,arr,clock,rfl,harr,hbase⟩:=h.obs _ L _ hL hg
  obtain⟨r',h1,h2⟩:=findA_run h hk harr hf
  obtain⟨d,hd⟩:=checkA_under hck
  have h3:=findKey_of hd h1
  have h4:=checkA_run (P:=P) 20 10000 (by omega) arr.isEmpty w hk hck
  have hgo:=run_getObj (P:=P) ho (by intro c e f hh;cases hh)
  have hset:=fun x=>run_setObj (P:=P) x ho
  cases f with
  |none=>
   have:r'=none:=h2
   subst this
   cases hr
   have hsame:({w with heap:=w.heap.setIfInBounds L.b (.map arr clock)} :World)=w:=by
    have:w.heap.setIfInBounds L.b (.map arr clock)=w.heap:=by
     apply Array.ext_getElem?
     intro i
     by_cases hi:L.b=i
     ·subst hi
      have:=lt_of_block ho
      simp[this]
      rw[Array.getElem?_eq_getElem this]at ho
      exact(Option.some.inj ho).symm
     ·rw[Array.getElem?_setIfInBounds_ne hi]
    rw[this]
   refine⟨w,?_,h⟩
   have hset':=hset (.map arr clock)
   rw[hsame]at hset'
   simp only[Builtin.delete_,hts,List.getElem?_toArray,List.getElem?_cons_zero,List.getElem?_cons_succ,Sem.run_bind,run_underlying ht',Result.andThen_ok,hgo,h4,h3,hset',Sem.run_pure]
  |some p=>
   obtain⟨i,e⟩:=p
   obtain⟨me,rfl,_,hme,hek,_⟩:=h2
   cases hr
   refine⟨{w with heap:=w.heap.setIfInBounds L.b (.map (arr.eraseIdxIfInBounds i) clock)},?_,h.put0 hL hro hg (cl0_map _) (cl0_map _) ⟨_,_,rfl,?_,hbase⟩⟩
   ·simp only[Builtin.delete_,hts,List.getElem?_toArray,List.getElem?_cons_zero,List.getElem?_cons_succ,Sem.run_bind,run_underlying ht',Result.andThen_ok,hgo,h4,h3,hset,Sem.run_pure]
   ·have:(arr.eraseIdxIfInBounds i).toList=arr.toList.eraseIdx i:=by
     unfold Array.eraseIdxIfInBounds
     split
     ·simp
     ·rename_i hi
      rw[List.eraseIdx_of_length_le (by simpa using hi)]
    rw[this]
    exact delNth_spec harr
theorem copyA_run (h:MR N ρ ro st W w){ts:Array TypeId} {ty t:TypeId} {d s r:AV} {dv sv:Value} {st':St}(hts:ts[0]? =some t) (hd:VR ρ d dv) (hs:VR ρ s sv) (hr:copyA P ro st t d s= .ok (r,st')):
 ∃w' q,(Builtin.copy_ ts ty #[dv,sv]).run P w= .ok q w'∧MR N ρ ro st' W w'∧VR ρ r q:=by
 unfold copyA at hr
 split at hr
 case h_2=>cases hr
 rename_i e size dn sn hel hdn hsn
 obtain⟨hu,hsz⟩:=elemOf_spec hel
 have hmin:minA sn dn=Nat.min sn dn:=by
  unfold minA
  cases hb:Nat.ble sn dn with
  |true=>exact(Nat.min_eq_left (ble_true hb)).symm
  |false=>
   have:dn≤sn:=by
    rcases Nat.lt_or_ge sn dn with h1|h1
    ·have:=Nat.ble_eq_true_of_le (Nat.le_of_lt h1)
     rw[this]at hb;cases hb
    ·exact h1
   exact(Nat.min_eq_right this).symm
 rw[hmin]at hr
 obtain⟨l,hl,hr2⟩:=Rs.bind_ok hr
 clear hr
 split at hr2
 ·cases hr2
 rename_i hone
 obtain⟨vs,h1,h2,h3⟩:=firstCells_run (P:=P) h hs hsn (Nat.min_le_left _ _) hl
 have hlen:=lenOf_run (P:=P) hs hsn w
 split at hr2
 ·rename_i id off ln cap
  obtain⟨st1,hst,hr2⟩:=Rs.bind_ok hr2
  cases hr2
  cases hdn
  cases hd with|sl _ _ _ _ L c o hL hcap hlc=>
  by_cases h0:vs= []
  ·subst h0
   have hl0:l= []:=by have:=h2.length;simpa using this.symm
   subst hl0
   cases hst
   refine⟨w,_,?_,h,.int _ _⟩
   simp only[Builtin.copy_,hts,List.getElem?_toArray,List.getElem?_cons_zero,List.getElem?_cons_succ,Sem.run_bind,run_underlying hu,Result.andThen_ok,hlen,run_size hsz,h1,Sem.run_pure]
   rfl
  ·have ho:o=L.base+off:=by
    cases cap with
    |k m=>exact hcap.2
    |g m=>rcases hcap.2 with h5|h5
          ·exfalso
           subst h5
           have:dn=0:=by omega
           subst this
           have h6:=h2.length
           have h7:l.length=0:=by rw[h3];simp[Nat.min_def]
           apply h0
           have:vs.length=0:=by omega
           simpa using this
          ·exact h5
   subst ho
   obtain⟨w',hw,hM,_⟩:=h.stores (P:=P) hL hst h2
   refine⟨w',_,?_,hM,.int _ _⟩
   simp only[Builtin.copy_,hts,List.getElem?_toArray,List.getElem?_cons_zero,List.getElem?_cons_succ,Sem.run_bind,run_underlying hu,Result.andThen_ok,hlen,run_size hsz,h1,Sem.run_pure,hw]
   rfl
 ·cases hr2
  cases hdn
  cases hd
  refine⟨w,_,?_,h,.int _ _⟩
  simp only[Builtin.copy_,hts,List.getElem?_toArray,List.getElem?_cons_zero,List.getElem?_cons_succ,Sem.run_bind,run_underlying hu,Result.andThen_ok,hlen,run_size hsz,h1,Sem.run_pure]
  rfl
 ·cases hr2
end
section
variable {P:Program} {N:Nat→Prop} {ρ:Rho} {ro:Nat} {st:St} {W w:World}
theorem MR.change (h:MR N ρ ro st W w){id:Nat} {L:Loc}(hL:ρ id=some L) (hro':ro≤id){cs cs':PT AV} {n e fz fz' cl rel:Nat} {o':Obj}(hr:st.heap.get id=some (.row cs n e fz cl rel)) (hOR:OR ρ L (.row cs' n e fz' cl rel) o'){st':St}
 (hs:st.change id cs' n e fz' cl rel= .ok st'):MR N ρ ro st' W {w with heap:=w.heap.setIfInBounds L.b o'} ∧st'.next=st.next:=by
 have hidn:=h.nx _ _ hr
 unfold St.change at hs
 split at hs
 ·cases hs
  refine⟨h.upd hL hro' hOR rfl (fun j ob hj=> ?_) hidn (fun j M ob hj hM hob=> ?_) (fun j cs n e fz cl rel hj=> ?_),rfl⟩
  ·rcases PT.get_set hj with⟨rfl,rfl⟩|⟨h1,h2⟩
   ·exact .inl ⟨rfl,rfl⟩
   ·exact .inr ⟨h1,h2⟩
  ·rcases PT.get_set hob with⟨rfl,_⟩|⟨_,h2⟩
   ·exact absurd rfl hj
   ·intro hbb
    rcases h.inj id j L M _ _ hL hM hr h2 hbb.symm with e'|⟨_,_,_,_,_,_,_,_,_,_,_,e1,_⟩
    ·exact hj e'.symm
    ·cases e1
  ·rcases PT.get_set hj with⟨_,e1⟩|⟨_,h2⟩
   ·cases e1
   ·exact h.cls j cs n e fz cl rel h2
 ·rename_i hcl
  split at hs
  ·rename_i m hm
   cases hs
   obtain⟨cl,rfl⟩:∃k,cl=k+1:=by
    cases cl with
    |zero=>exact absurd rfl hcl
    |succ k=>exact⟨k,rfl⟩
   obtain⟨hcn,_⟩:=h.cls id cs n e fz cl rel hr
   refine⟨h.upd hL hro' hOR rfl (fun j ob hj=> ?_) hidn (fun j M ob hj hM hob=> ?_) (fun j cs1 n1 e1 fz1 cl1 rel1 hj=> ?_),rfl⟩
   ·obtain⟨h1,_⟩:=get_kill hj
    rcases PT.get_set h1 with⟨rfl,rfl⟩|⟨h1,h2⟩
    ·exact .inl ⟨rfl,rfl⟩
    ·exact .inr ⟨h1,h2⟩
   ·obtain⟨h1,h2⟩:=get_kill hob
    rcases PT.get_set h1 with⟨rfl,_⟩|⟨_,h3⟩
    ·exact absurd rfl hj
    ·intro hbb
     rcases h.inj id j L M _ _ hL hM hr h3 hbb.symm with e'|⟨_,_,_,_,_,_,cs2,n2,e2,fz2,rel2,e1,e3,_⟩
     ·exact hj e'.symm
     ·cases e1
      subst e3
      obtain⟨_,hm2⟩:=h.cls j cs2 n2 e2 fz2 cl rel2 h3
      obtain⟨hin2,_⟩:=hm2 _ hm
      rcases h2 with h2|h2
      ·exact hj h2
      ·exact h2 hin2
   ·obtain⟨h1,h2⟩:=get_kill hj
    rcases PT.get_set h1 with⟨rfl,e'⟩|⟨hne,h3⟩
    ·cases e'
     refine⟨hcn,fun m2 hm2=> ?_⟩
     rcases PT.get_set hm2 with⟨_,rfl⟩|⟨hne,_⟩
     ·exact⟨by simp,Nat.le_refl _⟩
     ·exact absurd rfl hne
    ·obtain⟨a1,hm2⟩:=h.cls j cs1 n1 e1 fz1 cl1 rel1 h3
     refine⟨a1,fun m2 hm3=> ?_⟩
     rcases PT.get_set hm3 with⟨hc,rfl⟩|⟨hne',hm4⟩
     ·have hc':cl1=cl:=by omega
      subst hc'
      obtain⟨hin2,_⟩:=hm2 _ hm
      rcases h2 with h2|h2
      ·exact absurd h2 hne
      ·exact absurd hin2 h2
     ·exact hm2 _ hm4
  ·cases hs
theorem bytesOfA_spec:∀{l:List AV} {s:List UInt8} {vs:List Value},bytesOfA l= .ok s→VRs ρ l vs→vs=s.map fun b=>Value.int .u8 (b.toNat:Int)
 | [],s,vs,h,hv=>by cases h;cases hv;rfl
 |x::r,s,vs,h,hv=>by
  cases hv with|cons _ v _ m hx hr=>
  unfold bytesOfA at h
  split at h
  ·rename_i b
   split at h
   ·rename_i hb
    have hb:=blt_true hb
    obtain⟨t,ht,h⟩:=Rs.bind_ok h
    cases h
    cases hx
    rw[bytesOfA_spec ht hr]
    simp only[List.map_cons]
    congr 2
    simp[UInt8.toNat_ofNat,Nat.mod_eq_of_lt hb]
   ·cases h
  ·cases h
theorem bytes_fold (s:List UInt8):∀(acc:ByteArray),((s.map fun b=>(b.toNat:Int)).foldl (fun r n=>r.push (UInt8.ofNat n.toNat)) acc)=⟨acc.data++s.toArray⟩:=by
 induction s with
 |nil=>intro acc;simp
 |cons b s ih=>
  intro acc
  simp only[List.map_cons,List.foldl_cons,ih]
  congr 1
  simp
theorem bytesToString_run {b o len cap:Nat} {s:List UInt8}(h:(Go.loadCells (⟨b,o,none⟩:Addr) len).run P w= .ok (s.map fun b=>Value.int .u8 (b.toNat:Int)).toArray w):
 (Conv.bytesToString (.slice (some ⟨b,o,none⟩) len cap)).run P w= .ok (.string ⟨⟨s⟩⟩) w:=by
 have:=run_bytesToString (P:=P) w (⟨b,o,none⟩:Addr) len cap (s.map fun b=>(b.toNat:Int)) (by rw[h];simp)
 rw[this,bytes_fold]
 congr 3
 simp
theorem loadBytes_run {b:Nat} :∀(s:List UInt8) (o:Nat) (acc:ByteArray),(∀j x,s[j]? =some x→w.cell? ⟨b,o+j,none⟩=some (.int .u8 (x.toNat:Int)))→(Go.loadBytes ⟨b,o,none⟩ acc s.length).run P w= .ok ⟨acc.data++s.toArray⟩ w
 | [],o,acc,h=>by simp[Go.loadBytes]
 |x::s,o,acc,h=>by
  have h0:=h 0 x (by simp)
  simp only[Nat.add_zero]at h0
  simp only[Go.loadBytes,List.length_cons,Sem.run_bind,run_load,h0,Result.andThen_ok]
  rw[addr_add]
  have:=loadBytes_run s (o+1) (acc.push x) (fun j y hj=>by
   have:=h (j+1) y (by simpa using hj)
   rw[show o+1+j=o+(j+1)from by omega];exact this)
  have e:((x.toNat:Int).toNat.toUInt8)=x:=by simp
  rw[e,this]
  congr 2
  simp
theorem liesAt_row {u d off n count:Nat}(hs:P.cellsOf u=1) (hc:off+n≤count):liesAt P P.depth u (count/P.cellsOf u) off u n=true:=by
 obtain⟨d,hd⟩:∃d,P.depth=d+1:=⟨2*(P.types.size+Made.depth)+1,rfl⟩
 rw[hd]
 simp only[liesAt]
 have h1:rowAt P (fun x=>sameLayout P P.depth x u) P.depth u (count/P.cellsOf u) off n=true:=by
  rw[hd]
  simp only[rowAt]
  simp[hs,sameLayout,Nat.mod_one,hc]
 rw[h1];rfl
end
section
variable {P:Program} {N:Nat→Prop} {ρ:Rho} {ro:Nat} {st:St} {W w:World}
theorem MR.make (h:MR N ρ ro st W w){ob:Ob} {o:Obj} {n:Nat}(h0:ob.cl0) (ho:∀ρ':Rho,ρ.le ρ'→OR ρ' ⟨w.heap.size,n,0⟩ ob o):
 ∃ρ',ρ.le ρ'∧MR N ρ' ro (st.new ob) W {w with heap:=w.heap.push o} ∧ρ' st.next=some ⟨w.heap.size,n,0⟩:=by
 have hf:=h.fresh
 refine⟨ρ.put st.next ⟨w.heap.size,n,0⟩,Rho.put_le hf,?_,Rho.put_same⟩
 exact(h.pend h0).real (id:=st.next) (ob:=ob) (fun ob' hob=>get_new hob rfl) (Nat.lt_succ_self _) hf h.freshN h.ron rfl (ho _ (Rho.put_le hf))
def OutR (P:Program) (N:Nat→Prop) (ρ:Rho) (ro:Nat) (st:St) (W w:World) (out:Out) (r:Result Next):Prop:=match out with
 | .val v st'=>∃ρ' q w',r= .ok (.value q) w'∧ρ.le ρ'∧MR N ρ' ro st' W w'∧VR ρ' v q
 | .skip st'=>∃w',r= .ok .skip w'∧MR N ρ ro st' W w'
 | .later d=>∃x,r= .ok (.defer x) w∧DR ρ d x
 | .enter f args=>∃vs:Array Value,r=(callFunc f vs).run P w∧VRs ρ args vs.toList
 | .panic v=>∃q,r= .halt (.panic q) w∧VR ρ v q
theorem next_run (h:MR N ρ ro st W w){id pos:Nat} {s:List UInt8} {iv:Value} {ty:TypeId}(hv:VR ρ (.ptr id 0) iv) (hg:st.heap.get id=some (.iter s pos)) (hro:ro≤id):
 (Nat.blt pos s.length=true→∃q w',(Instr.next iv true ty).run P w= .ok q w'∧MR N ρ ro {st with heap:=st.heap.set id (.iter s (Nat.add pos (decodeA s pos).2))} W w'∧VR ρ (.tup [.bool true,.int .i64 (Int.ofNat pos),.int .i32 (Int.ofNat (decodeA s pos).1)]) q)∧
 (Nat.blt pos s.length=false→∃q,(Instr.next iv true ty).run P w= .ok q w∧VR ρ (.tup [.bool false]) q):=by
 cases hv with|ptr _ _ L hL=>
 obtain⟨o,ho,rfl,hbase⟩:=h.obs _ L _ hL hg
 have hgo:=run_getObj (P:=P) ho (by intro c e f hh;cases hh)
 have hset:∀x,(setObj L.b x).run P w= .ok () {w with heap:=w.heap.setIfInBounds L.b x} :=fun x=>by simp[setObj,Sem.run,ho]
 have hb0:L.base+0=0:=by omega
 rw[hb0]
 have hsize:(⟨⟨s⟩⟩:ByteArray).size=s.length:=by simp[ByteArray.size]
 have hdec:Utf8.decode ⟨⟨s⟩⟩ pos=decodeA s pos:=by
  unfold decodeA
  split
  ·rename_i b hb
   split
   ·rename_i hlt
    have hlt:=blt_true hlt
    have hb':(⟨⟨s⟩⟩:ByteArray).get! (pos+0)=b:=by
     have:pos<s.length:=(List.getElem?_eq_some_iff.1 hb).1
     simp only[ByteArray.get!,Nat.add_zero]
     rw[getElem!_pos _ _ (by simpa using this)]
     have h2:=(List.getElem?_eq_some_iff.1 hb).2
     simpa using h2
    unfold Utf8.decode
    dsimp only
    rw[if_pos (by rw[hb'];omega),hb']
   ·rfl
  ·rfl
 constructor
 ·intro hlt
  have hlt:=blt_true hlt
  refine⟨_,_,?_,h.put0 hL hro hg (cl0_iter _ _) (cl0_iter s (pos+(decodeA s pos).2)) ⟨rfl,hbase⟩,.tup _ #[_,_,_] (.cons _ _ _ _ (.bool _) (.cons _ _ _ _ (.int _ _) (.cons _ _ _ _ (.int _ _) .nil)))⟩
  simp only[Instr.next,Sem.run_bind,hgo,Result.andThen_ok,hsize,if_pos hlt,hdec,hset,Sem.run_pure]
  rfl
 ·intro hlt
  have hlt:=blt_false hlt
  refine⟨_,?_,.tup _ #[_] (.cons _ _ _ _ (.bool _) .nil)⟩
  simp only[Instr.next,Sem.run_bind,hgo,Result.andThen_ok,hsize,if_neg (Nat.not_lt.2 hlt),Sem.run_pure]
theorem modify_push {α:Type}(a:Array α) (x:α) (f:α→α):(a.push x).modify a.size f=a.push (f x):=by
 apply Array.ext_getElem?
 intro i
 simp only[Array.getElem?_modify,Array.getElem?_push]
 by_cases hi:a.size=i
 ·subst hi;simp
 ·rw[if_neg hi,if_neg (by omega),if_neg (by omega)]
theorem toBytes_run (h:MR N ρ ro st W w){b:List UInt8} {e:TypeId}(hlen:b.length≤100000):
 ∃ρ' q w',(Conv.stringToBytes e ⟨⟨b⟩⟩).run P w= .ok q w'∧ρ.le ρ'∧MR N ρ' ro {heap:=st.heap.set st.next (.row (PT.lay (b.map fun x=> .int .u8 (Int.ofNat x.toNat)) 0 .nil) b.length e 1 (Nat.succ st.next) 0),next:=Nat.succ st.next,cls:=st.cls.set (Nat.succ st.next) (b.length,[st.next])} W w'∧VR ρ' (.sl st.next 0 b.length (.g 1)) q:=by
 have hsize:(⟨⟨b⟩⟩:ByteArray).size=b.length:=by simp[ByteArray.size]
 obtain⟨cap,hcap,hge⟩:∃cap,(choose (.appendCap (⟨⟨b⟩⟩:ByteArray).size 0 e)).run P w= .ok cap {w with drawn:=w.drawn+1} ∧b.length≤cap:=by
  refine⟨(Question.appendCap (⟨⟨b⟩⟩:ByteArray).size 0 e).cut (w.tape w.drawn (.appendCap (⟨⟨b⟩⟩:ByteArray).size 0 e)),?_,?_⟩
  ·rw[run_choose];rw[if_neg (by simp[Question.forced])]
  ·simp[Question.cut,hsize]
 let row:Array Value:=((⟨b⟩:Array UInt8).map fun x=>Value.int .u8 (x.toNat:Int))++Array.replicate (cap-b.length) (.int .u8 0)
 have hrow:row.size=cap:=by simp[row];omega
 have hb:VRs ρ (b.map fun x=> .int .u8 (Int.ofNat x.toNat)) (b.map fun x=>Value.int .u8 (x.toNat:Int)):=by
  clear hsize hcap hge hrow row hlen
  induction b with
  |nil=>exact .nil
  |cons x b ih=>exact .cons _ _ _ _ (.int _ _) ih
 have hp:=(h.pendC (cs:=PT.lay (b.map fun x=> .int .u8 (Int.ofNat x.toNat)) 0 .nil) (k:=b.length) (e:=e) (fz:=1) (cl:=st.next) (rel:=0) (en:=b.length) (ms:= []) (Nat.le_refl _) (by omega) (fun j cs' n' e' fz' rel' hj=>(no_old_class h hj).elim)).drawn (w.drawn+1)
 have hf:=h.fresh
 have hr:=hp.real (id:=st.next) (ob:= .row (PT.lay (b.map fun x=> .int .u8 (Int.ofNat x.toNat)) 0 .nil) b.length e 1 (st.next+1) 0) (o:= .cells row e (cap,cap+1)) (L:=⟨w.heap.size,cap,0⟩) (fun ob' hob=>by
  rcases PT.get_set hob with⟨_,r⟩|⟨n,_⟩
  ·exact r
  ·exact absurd rfl n) (Nat.lt_succ_self _) hf h.freshN h.ron rfl (by
  refine⟨row,cap,cap+1,rfl,hrow,fun _=>rfl,fun i a hi=> ?_,(fun e=>by cases e),fun _=>Nat.le_refl _⟩
  obtain⟨h1,v,h2,h3⟩:=lay_row hb hi
  simp only[List.length_map]at h1
  refine⟨h1,v,?_,h3.mono (Rho.put_le hf)⟩
  simp only[Nat.zero_add,row]
  rw[Array.getElem?_append_left (by simp;exact h1)]
  simpa using h2)
 refine⟨_,.slice (some ⟨w.heap.size,0,none⟩) b.length cap,_,?_,Rho.put_le hf,hr,.sl _ _ _ _ ⟨w.heap.size,cap,0⟩ _ _ Rho.put_same ⟨by simp,.inr (by simp)⟩ hge⟩
 simp only[Conv.stringToBytes,Sem.run_bind,hcap,Result.andThen_ok,newRow,run_newObj,Sem.run_pure,markStringish,run_shape,World.shape?]
 have hrow':((⟨⟨b⟩⟩:ByteArray).data.map (fun x=>Value.int .u8 (x.toNat:Int))++Array.replicate (cap-(⟨⟨b⟩⟩:ByteArray).size) (Value.int .u8 0))=row:=by rw[hsize]
 rw[hrow']
 simp only[Array.getElem?_push,if_true,hrow,run_freeze,Result.andThen_ok,hsize,Sem.run_bind,World.freeze,Nat.succ_ne_zero,if_false]
 rw[modify_push]
 rfl
theorem shape_row {b:Nat} {c:Array Value} {e:TypeId} {f:Nat×Nat}(hb:w.heap[b]? =some (.cells c e f)):w.shape? b=some (e,c.size):=by simp[World.shape?,hb]
theorem unsafeString_some (ts:Array TypeId) (ty:TypeId) (a:Addr) (nv:Value):Builtin.unsafeString_ ts ty #[.pointer (some a),nv]=(do
 let n ←asInt nv
 let some pt:=ts[0]? |stuck "unsafe.String: no argument types"
 if n<0 then runtimePanic (.error "unsafe.String: len out of range")
 if n>IntKind.i64.max then unsupported (.unsafePointer "String: a length above the largest int")
 if n=0 then pure (.string .empty)
 else if←variablesAt a (←Go.elemOf pt) n.toNat then do
  let s ←loadBytes a .empty n.toNat
  freeze a n.toNat
  pure (.string s)
 else unsupported (.unsafePointer "String: not so many bytes at ptr")):=rfl
theorem unsafeString_nil (ts:Array TypeId) (ty:TypeId) (nv:Value):Builtin.unsafeString_ ts ty #[.pointer none,nv]=(do
 let n ←asInt nv
 let some _:=ts[0]? |stuck "unsafe.String: no argument types"
 if n<0 then runtimePanic (.error "unsafe.String: len out of range")
 if n>IntKind.i64.max then unsupported (.unsafePointer "String: a length above the largest int")
 if n=0 then pure (.string .empty)
 else runtimePanic (.error "unsafe.String: ptr is nil and len is not zero")):=rfl
theorem unsafeString_zero {ts:Array TypeId} {ty pt:TypeId} {p:Option Addr} {kd:IntKind}(hts:ts[0]? =some pt):(Builtin.unsafeString_ ts ty #[.pointer p,.int kd 0]).run P w= .ok (.string ⟨⟨[]⟩⟩) w:=by
 have hmax:¬((0:Int)>IntKind.i64.max):=by
  show¬((0:Int)>9223372036854775807)
  omega
 cases p with
 |none=>
  rw[unsafeString_nil]
  simp only[asInt,asIntOf,Sem.run_bind,Sem.run_pure,Result.andThen_ok,hts,if_neg hmax,Int.lt_irrefl,if_false,if_true]
  rfl
 |some a=>
  rw[unsafeString_some]
  simp only[asInt,asIntOf,Sem.run_bind,Sem.run_pure,Result.andThen_ok,hts,if_neg hmax,Int.lt_irrefl,if_false,if_true]
  rfl
theorem unsafeString_run (h:MR N ρ ro st W w){ts:Array TypeId} {ty pt u id off n k e fz cl rel:Nat} {nv:Value} {kd:IntKind} {cs:PT AV} {l:List AV} {s:List UInt8} {st':St} {L:Loc}(hL:ρ id=some L) (hts:ts[0]? =some pt) (hu:P.underlying pt=some (.pointer u)) (hn:n+1≤1000001) (hsz:tySize P u=some 1)
 (hg:st.heap.get id=some (.row cs k e fz cl rel)) (he:e=u) (hro:ro≤id) (hl:st.loads id (n+1) off= .ok l) (hs:bytesOfA l= .ok s) (hc:st.change id cs k e 2 cl rel= .ok st') (hnv:nv= .int kd ((n+1:Nat):Int)):
 ∃w',(Builtin.unsafeString_ ts ty #[.pointer (some ⟨L.b,L.base+off,none⟩),nv]).run P w= .ok (.string ⟨⟨s⟩⟩) w'∧MR N ρ ro st' W w':=by
 subst he
 obtain⟨vs,h1,h2,h3⟩:=h.loads hL hl
 have hlen:=loads_length hl
 obtain⟨c,lo,hi,hb,hsize,hbase,hcells,hf0,hf1⟩:=h.row hL hg
 have hv:=bytesOfA_spec hs h1
 have hsl:s.length=n+1:=by rw[←h2,hv]at*;simpa using h2
 have hload:=loadBytes_run (P:=P) (w:=w) (b:=L.b) s (L.base+off) .empty (fun j x hj=>h3 j _ (by rw[hv];simp[hj]))
 have hfit:L.base+off+(n+1)≤c.size:=by
  have h5:=h3 n (vs[n]'(by omega)) (by simp)
  simp only[World.cell?,hb]at h5
  rcases Nat.lt_or_ge (L.base+off+n) c.size with h6|h6
  ·omega
  ·simp[Array.getElem?_eq_none h6]at h5
 have hlies:liesAt P P.depth e (c.size/P.cellsOf e) (L.base+off) e (n+1)=true:=liesAt_row (d:=0) (info_size hsz) hfit
 have hOR:∀x y,OR ρ L (.row cs k e 2 cl rel) (.cells c e (x,y)):=fun x y=>⟨c,x,y,rfl,hsize,hbase,hcells,fun e=>(by cases e),fun e=>(by cases e)⟩
 have hfr:∃x y,w.freeze ⟨L.b,L.base+off,none⟩ (n+1)= {w with heap:=w.heap.setIfInBounds L.b (.cells c e (x,y))} :=by
  unfold World.freeze
  rw[if_neg (by omega)]
  refine⟨(if lo==hi then(L.base+off,L.base+off+(n+1))else(min lo (L.base+off),max hi (L.base+off+(n+1)))).1,(if lo==hi then(L.base+off,L.base+off+(n+1))else(min lo (L.base+off),max hi (L.base+off+(n+1)))).2,?_⟩
  congr 1
  apply Array.ext_getElem?
  intro i
  simp only[Array.getElem?_modify]
  by_cases hi':L.b=i
  ·subst hi'
   have:=lt_of_block hb
   rw[if_pos rfl,hb,Array.getElem?_setIfInBounds_self_of_lt this]
   simp
  ·rw[if_neg hi',Array.getElem?_setIfInBounds_ne hi']
 obtain⟨x,y,hfr⟩:=hfr
 have hM:=(h.change hL hro hg (hOR x y) hc).1
 refine⟨_,?_,hM⟩
 subst hnv
 have hm:¬((((n+1:Nat):Int))>IntKind.i64.max):=by
  show¬((((n+1:Nat):Int))>9223372036854775807)
  omega
 have hm0:¬((((n+1:Nat):Int))<0):=by omega
 have hm1:¬((((n+1:Nat):Int))=0):=by omega
 rw[unsafeString_some]
 simp only[asInt,asIntOf,Sem.run_bind,Sem.run_pure,Result.andThen_ok,hts,if_neg hm0,if_neg hm,if_neg hm1,Go.elemOf,run_underlying hu,variablesAt,run_program,run_shape,shape_row hb,Int.toNat_natCast,hlies,if_true]
 rw[←hsl,hload]
 simp only[Result.andThen_ok,run_freeze,Sem.run_pure,hsl,hfr]
 congr 3
 simp
theorem args_eval {fr:Fr} {ev:Operand→Value} {l:Array Operand}(h:∀x∈l.toList,VR ρ (fr.get x) (ev x)):VRs ρ (fr.all l.toList) (l.map ev).toList:=by
 rw[Array.toList_map]
 exact all_eval h
theorem two_args {fr:Fr} {ev:Operand→Value} {l:Array Operand} {a b:AV}(h:∀x∈l.toList,VR ρ (fr.get x) (ev x)) (he:fr.all l.toList= [a,b]):∃v u,l.map ev= #[v,u]∧VR ρ a v∧VR ρ b u:=by
 have h1:=args_eval h
 rw[he]at h1
 generalize hm:(l.map ev).toList=m at h1
 cases h1 with|cons _ v _ _ h2 h3=>cases h3 with|cons _ u _ _ h4 h5=>
 cases h5
 exact⟨v,u,by apply Array.ext';rw[hm],h2,h4⟩
theorem one_arg {fr:Fr} {ev:Operand→Value} {l:Array Operand} {a:AV}(h:∀x∈l.toList,VR ρ (fr.get x) (ev x)) (he:fr.all l.toList= [a]):∃v,l.map ev= #[v]∧VR ρ a v:=by
 have h1:=args_eval h
 rw[he]at h1
 generalize hm:(l.map ev).toList=m at h1
 cases h1 with|cons _ v _ _ h2 h3=>
 cases h3
 exact⟨v,by apply Array.ext';rw[hm],h2⟩
theorem loudBuiltin_run (h:MR N ρ ro st W w){fr:Fr} {ev:Operand→Value} {b:Builtin} {args:Array Operand} {ts:Array TypeId} {ty:TypeId} {cs:Array Bool} {out:Out}(he:∀x∈args.toList,VR ρ (fr.get x) (ev x)) (hr:loudBuiltin P ro fr st b args.toList ts.toList= .ok out):
 OutR P N ρ ro st W w out ((Go.builtin b ts ty cs (args.map ev)).run P w):=by
 unfold loudBuiltin at hr
 split at hr
 ·rename_i s x ha
  obtain⟨sv,xv,e1,h1,h2⟩:=two_args he ha
  rw[e1]
  split at hr
  ·rename_i t r hts
   obtain⟨p,hp,hr⟩:=Rs.bind_ok hr
   cases hr
   have ht0:ts[0]? =some t:=by rw[←Array.getElem?_toList,hts];rfl
   have ht1:ts[1]? =r.head?:=by rw[←Array.getElem?_toList,hts];simp[List.head?_eq_getElem?]
   rw[←ht1]at hp
   obtain⟨ρ',w',v,h3,h4,h5,h6⟩:=appendA_run (ty:=ty) h ht0 h1 h2 hp
   exact⟨ρ',v,w',by simp[Go.builtin,h3],h4,h5,h6⟩
  ·cases hr
 ·rename_i s x ha
  obtain⟨sv,xv,e1,h1,h2⟩:=two_args he ha
  rw[e1]
  split at hr
  ·rename_i t r hts
   obtain⟨p,hp,hr⟩:=Rs.bind_ok hr
   cases hr
   have ht0:ts[0]? =some t:=by rw[←Array.getElem?_toList,hts];rfl
   obtain⟨w',v,h3,h4,h5⟩:=copyA_run (ty:=ty) h ht0 h1 h2 hp
   exact⟨ρ,v,w',by simp[Go.builtin,h3],Rho.le_refl _,h4,h5⟩
  ·cases hr
 ·rename_i s x ha
  obtain⟨sv,xv,e1,h1,h2⟩:=two_args he ha
  rw[e1]
  split at hr
  ·rename_i t r hts
   obtain⟨p,hp,hr⟩:=Rs.bind_ok hr
   cases hr
   have ht0:ts[0]? =some t:=by rw[←Array.getElem?_toList,hts];rfl
   obtain⟨w',h3,h4⟩:=deleteA_run (ty:=ty) h ht0 h1 h2 hp
   exact⟨ρ,.tuple #[],w',by simp[Go.builtin,h3],Rho.le_refl _,h4,.tup _ #[] .nil⟩
  ·cases hr
 ·rename_i v ha
  obtain⟨vv,e1,h1⟩:=one_arg he ha
  rw[e1]
  split at hr
  ·cases hr
   cases h1 with|iface _ _ u hu=>
   exact⟨_,by simp[Go.builtin,Instr.panic],.iface _ _ _ hu⟩
  ·cases hr
 ·rename_i p n ha
  obtain⟨pv,nv,e1,h1,h2⟩:=two_args he ha
  rw[e1]
  split at hr
  ·rename_i pt r hts
   have ht0:ts[0]? =some pt:=by rw[←Array.getElem?_toList,hts];rfl
   split at hr
   ·rename_i u hu hn
    obtain⟨kd,rfl⟩:=natOf_spec hn h2
    split at hr
    ·cases hr
     cases h1 with|ptr _ _ L hL=>
     refine⟨ρ,_,w,?_,Rho.le_refl _,h,.str []⟩
     simp[Go.builtin,unsafeString_zero (P:=P) (w:=w) (ty:=ty) ht0]
    ·cases hr
     cases h1
     refine⟨ρ,_,w,?_,Rho.le_refl _,h,.str []⟩
     simp[Go.builtin,unsafeString_zero (P:=P) (w:=w) (ty:=ty) ht0]
    ·cases hr
   ·rename_i u n hu hn
    split at hr
    ·rename_i id off hn1 hsz
     cases h1 with|ptr _ _ L hL=>
     split at hr
     ·rename_i cs k e fz cl rel hg
      split at hr
      ·rename_i hee hro
       obtain⟨l,hl,hr⟩:=Rs.bind_ok hr
       obtain⟨s,hs,hr⟩:=Rs.bind_ok hr
       obtain⟨st1,hc,hr⟩:=Rs.bind_ok hr
       cases hr
       obtain⟨kd,hk⟩:=natOf_spec hn h2
       have:=ble_true hn1
       obtain⟨w',h3,h4⟩:=unsafeString_run (ty:=ty) h hL ht0 hu (by omega) hsz hg (beq_true hee) (blt_false hro) hl hs hc hk
       exact⟨ρ,_,w',by simp[Go.builtin,h3],Rho.le_refl _,h4,.str _⟩
      ·cases hr
     ·cases hr
    ·cases hr
   ·cases hr
  ·cases hr
 ·cases hr
end
section
variable {P:Program} {N:Nat→Prop} {ρ:Rho} {ro:Nat} {st:St} {W w:World}
theorem methodA_run {t:TypeId} {name:String} {f:FuncId}(h:methodA P t name=some f) (v:Value) (w:World):(Go.method (P.types.size+Made.depth) t v name).run P w= .ok (f,v) w:=by
 obtain⟨d,hd⟩:∃d,P.types.size+Made.depth=d+1:=⟨P.types.size+(Made.depth-1),rfl⟩
 rw[hd]
 unfold methodA at h
 split at h
 case h_2=>cases h
 rename_i i hi
 split at h
 case h_2=>cases h
 rename_i m hm
 have hty:∀w',(typeInfo t).run P w'= .ok i w':=fun w'=>by simp[typeInfo,hi]
 split at h
 case h_2=>cases h
 case h_4=>cases h
 all_goals
  rename_i hp hfn hu
  cases h
  have hpath:m.path.toList= []:=by
   have:=Array.isEmpty_iff.1 hp
   rw[this]
  simp only[Go.method,Sem.run_bind,hty,Result.andThen_ok,hm,hpath,follow,Sem.run_pure,hfn]
 ·simp[receiverAt,run_underlying hu,Place.get]
 ·rename_i d' hne
  simp only[receiverAt,Sem.run_bind,run_underlying hu,Result.andThen_ok]
  cases d'<;>first|exact absurd rfl (hne _)|simp[Place.get]
theorem call_enter {f:FuncId} {x c:Array Value} :(invoke (.fn (.func f) c) x:Sem Next)=callFunc f (x++c):=rfl
theorem loudA_run (h:MR N ρ ro st W w){fr:Fr} {ev:Operand→Value} {o:Oper} {out:Out}(he:∀x∈o.op.operands.toList,VR ρ (fr.get x) (ev x)) (hr:loudA P ro fr st o.op= .ok out):OutR P N ρ ro st W w out ((execOp ev o).run P w):=by
 unfold execOp
 generalize hop:o.op=op at he hr
 cases op<;>simp only[loudA]at hr<;>first
  | (cases hr;done)
  |dsimp only
 case assign x=>
  cases hr
  exact⟨ρ,ev x,w,rfl,Rho.le_refl _,h,he x (by simp[Op.operands])⟩
 case store t a x=>
  have ha:=he a (by simp[Op.operands])
  have hx:=he x (by simp[Op.operands])
  split at hr
  ·rename_i id off hp;rw[hp]at ha
   obtain⟨L,hL,e⟩:=ha.ptr_inv
   obtain⟨st',hs,hr⟩:=Rs.bind_ok hr
   cases hr
   unfold Ab.storeVar at hs
   split at hs
   case h_2=>cases hs
   rename_i l n hc hsz
   split at hs
   case h_2=>cases hs
   rename_i hlen
   have hlen:=beq_true hlen
   have hvs:=hx.cells hc
   have hl2:=hvs.length
   obtain⟨w',h1,h2,_⟩:=h.stores (P:=P) hL hs hvs
   refine⟨w',?_,h2⟩
   have hsz':(ev x).cells.size=n:=by simpa[hlen]using hl2
   rw[e]
   simp[Instr.storeAt,Instr.sureAddr,Go.storeVar,run_size hsz,hsz',h1]
  ·cases hr
 case mapUpdate t m k x=>
  obtain⟨st',hs,hr⟩:=Rs.bind_ok hr
  cases hr
  obtain⟨w',h1,h2⟩:=updateA_run h (he m (by simp[Op.operands])) (he k (by simp[Op.operands])) (he x (by simp[Op.operands])) hs
  exact⟨w',by simp[h1],h2⟩
 case insert t m k x=>
  obtain⟨st',hs,hr⟩:=Rs.bind_ok hr
  cases hr
  obtain⟨w',h1,h2⟩:=updateA_run h (he m (by simp[Op.operands])) (he k (by simp[Op.operands])) (he x (by simp[Op.operands])) hs
  exact⟨w',by simp[h1],h2⟩
 case makeMap t r=>
  split at hr
  ·cases hr
   obtain⟨ρ',h1,h2,h3⟩:=h.make (ob:= .map []) (o:= .map #[] 0) (n:=0) (cl0_map _) (fun ρ' _=>⟨#[],0,rfl,⟨.nil,.nil⟩,rfl⟩)
   exact⟨ρ',.map (some w.heap.size),_,by simp[Instr.makeMap],h1,h2,.map _ _ h3⟩
  ·cases hr
 case range t x=>
  have hx:=he x (by simp[Op.operands])
  split at hr
  ·rename_i s hu hs
   rw[hs]at hx
   have:=hx.str_inv
   cases hr
   obtain⟨ρ',h1,h2,h3⟩:=h.make (ob:= .iter s 0) (o:= .stringIter ⟨⟨s⟩⟩ 0) (n:=0) (cl0_iter _ _) (fun ρ' _=>⟨rfl,rfl⟩)
   exact⟨ρ',.pointer (some ⟨w.heap.size,0,none⟩),_,by simp[Instr.range,run_underlying hu,this],h1,h2,.ptr _ 0 _ h3⟩
  ·cases hr
 case next it isString=>
  have hx:=he it (by simp[Op.operands])
  split at hr
  ·rename_i id hs
   rw[hs]at hx
   split at hr
   ·rename_i s pos hg hro
    obtain⟨h1,h2⟩:=next_run (P:=P) (ty:=o.type) h hx hg (blt_false hro)
    split at hr
    ·rename_i hlt
     cases hr
     obtain⟨q,w',h3,h4,h5⟩:=h1 hlt
     exact⟨ρ,q,w',by simp[h3],Rho.le_refl _,h4,h5⟩
    ·rename_i hlt
     cases hr
     obtain⟨q,h3,h4⟩:=h2 hlt
     exact⟨ρ,q,w,by simp[h3],Rho.le_refl _,h,h4⟩
   ·cases hr
  ·cases hr
 case convert s d x=>
  have hx:=he x (by simp[Op.operands])
  split at hr
  ·rename_i e hs hd
   split at hr
   case h_2=>cases hr
   rename_i hel
   split at hr
   ·rename_i hv
    cases hr
    rw[hv]at hx
    generalize ev x=q at hx
    cases hx
    refine⟨ρ,.string .empty,w,?_,Rho.le_refl _,h,.str []⟩
    simp[Go.convert,run_underlying hs,run_underlying hd,run_underlying hel,Conv.bytesToString]
   ·rename_i id off len cap hv
    obtain⟨l,hl,hr⟩:=Rs.bind_ok hr
    obtain⟨b,hb,hr⟩:=Rs.bind_ok hr
    cases hr
    rw[hv]at hx
    generalize ev x=q at hx
    obtain⟨vs,h1,h2,h3⟩:=firstCells_run (P:=P) (size:=1) (n:=len) h hx rfl (Nat.le_refl _) (by simpa[firstA]using hl)
    cases hx with|sl _ _ _ _ L c o' hL hcap hlc=>
    refine⟨ρ,.string ⟨⟨b⟩⟩,w,?_,Rho.le_refl _,h,.str _⟩
    have hvs:=bytesOfA_spec hb h2
    have h4:(Go.loadCells (⟨L.b,o',none⟩:Addr) len).run P w= .ok (b.map fun b=>Value.int .u8 (b.toNat:Int)).toArray w:=by
     rw[←hvs]
     simpa[Builtin.firstCells]using h1
    have h5:=bytesToString_run (P:=P) (cap:=c) h4
    simp[run_convert_bytes_string w s d e _ len c hs hel hd,h5]
   ·cases hr
  ·rename_i e b hs hd hv
   rw[hv]at hx
   have hq:=hx.str_inv
   split at hr
   case h_2=>cases hr
   rename_i hel
   split at hr
   case h_2=>cases hr
   rename_i hlen
   cases hr
   obtain⟨ρ',q,w',h1,h2,h3,h4⟩:=toBytes_run (P:=P) (e:=e) h (ble_true hlen)
   exact⟨ρ',q,w',by simp[Go.convert,run_underlying hs,run_underlying hd,run_underlying hel,hq,h1],h2,h3,h4⟩
  ·cases hr
 case panic x=>
  have hx:=he x (by simp[Op.operands])
  split at hr
  ·rename_i t v hv
   cases hr
   rw[hv]at hx
   generalize ev x=q at hx
   cases hx with|iface _ _ u hu=>
   exact⟨_,by simp[Instr.panic],.iface _ _ _ hu⟩
  ·cases hr
 case defer c=>
  split at hr
  ·rename_i f hc
   have hf:=he f (by simp[Op.operands,Call.operands,hc])
   have hargs:=args_eval (ρ:=ρ) (fr:=fr) (ev:=ev) (l:=c.args) (fun x hx=>he x (by
    have:=Array.mem_toList_iff.1 hx
    simp[Op.operands,Call.operands,hc,this]))
   split at hr
   ·rename_i f' first cap hv
    cases hr
    rw[hv]at hf
    generalize hq:ev f=q at hf
    cases hf with|fn _ _ _ x' c' h1 h2=>
    refine⟨{target:= .fn (.func f') c',args:=x'++c.args.map ev},?_,c',rfl,?_⟩
    ·simp[resolve,hc,hq,Deferred.ofValue]
    ·simp only[Array.toList_append]
     exact(h1.append hargs).append h2
   ·cases hr
  ·cases hr
 case call c=>
  split at hr
  ·rename_i f hc
   have hf:=he f (by simp[Op.operands,Call.operands,hc])
   have hargs:=args_eval (ρ:=ρ) (fr:=fr) (ev:=ev) (l:=c.args) (fun x hx=>he x (by
    have:=Array.mem_toList_iff.1 hx
    simp[Op.operands,Call.operands,hc,this]))
   unfold callFn at hr
   split at hr
   ·rename_i f' first cap hv
    cases hr
    rw[hv]at hf
    generalize hq:ev f=q at hf
    cases hf with|fn _ _ _ x' c' h1 h2=>
    refine⟨x'++c.args.map ev++c',?_,?_⟩
    ·simp[resolve,hc,hq,Deferred.ofValue,call_enter]
    ·simp only[Array.toList_append]
     exact(h1.append hargs).append h2
   ·cases hr
  ·rename_i x name hc
   have hf:=he x (by simp[Op.operands,Call.operands,hc])
   have hargs:=args_eval (ρ:=ρ) (fr:=fr) (ev:=ev) (l:=c.args) (fun x hx=>he x (by
    have:=Array.mem_toList_iff.1 hx
    simp[Op.operands,Call.operands,hc,this]))
   split at hr
   ·rename_i t v hv
    split at hr
    ·rename_i f hm
     cases hr
     rw[hv]at hf
     generalize hq:ev x=q at hf
     cases hf with|iface _ _ u hu=>
     refine⟨#[u]++c.args.map ev,?_,?_⟩
     ·have hx1:(#[Value.iface t u]++c.args.map ev)[0]? =some (.iface t u):=by
       rw[Array.getElem?_append_left (by simp)];rfl
      have hx2:(#[Value.iface t u]++c.args.map ev).extract 1 (#[Value.iface t u]++c.args.map ev).size=c.args.map ev:=by
       apply Array.ext'
       simp only[Array.toList_extract,Array.toList_append,Array.toList_map]
       simp[List.take_of_length_le]
      simp only[resolve,hc,hq,Sem.run_bind,Sem.run_pure,Result.andThen_ok,invoke,hx1,hx2,callMethod,run_program,methodA_run hm]
     ·simp only[Array.toList_append]
      exact .cons _ _ _ _ hu hargs
    ·cases hr
   ·cases hr
  ·rename_i b hc
   have h1:=loudBuiltin_run (ty:=o.type) (cs:=(c.args.map fun| .const _=>true|_=>false)) h (fun x hx=>he x (by
    have:=Array.mem_toList_iff.1 hx
    simp[Op.operands,Call.operands,hc,this])) hr
   have e:((do let d ←resolve ev c o.type;invoke d.target d.args:Sem Next)).run P w=(Go.builtin b c.argTypes o.type (c.args.map fun| .const _=>true|_=>false) (c.args.map ev)).run P w:=by
    simp only[resolve,hc,Sem.run_bind,Sem.run_pure,Result.andThen_ok,invoke]
    rfl
   rw[e]
   exact h1
theorem stepA_run (h:MR N ρ ro st W w){fr:Fr} {ev:Operand→Value} {o:Oper} {out:Out}(he:∀x∈o.op.operands.toList,VR ρ (fr.get x) (ev x)) (hr:stepA P ro fr st o.op= .ok out):OutR P N ρ ro st W w out ((execOp ev o).run P w):=by
 unfold stepA at hr
 split at hr
 ·obtain⟨v,hv,hr⟩:=Rs.bind_ok hr
  cases hr
  obtain⟨q,h1,h2⟩:=pureA_run h he hv
  exact⟨ρ,q,w,h1,Rho.le_refl _,h,h2⟩
 ·obtain⟨p,hp,hr⟩:=Rs.bind_ok hr
  cases hr
  obtain⟨v,o',n,h1,h2,h3,h4⟩:=allocA_run he hp w
  obtain⟨ρ',h5,h6,h7⟩:=h.make h2 h3
  exact⟨ρ',v,_,h1,h5,h6,h4 _ _ h7⟩
 ·exact loudA_run h he hr
end
def Gl (ρ:Rho) (gl:Nat):Prop:=∀g,g<gl→∃n,ρ g=some ⟨g,n,0⟩
theorem Gl.mono {ρ ρ':Rho}(hle:ρ.le ρ'){gl:Nat}(h:Gl ρ gl):Gl ρ' gl:=fun g hg=>let⟨n,hn⟩:=h g hg;⟨n,hle _ _ hn⟩
inductive ChR (ρ:Rho):List (AV×Bool)→List PanicEntry→Prop where
 |nil:ChR ρ [] []
 |cons (v:AV) (b:Bool) (q:Value) (l:List (AV×Bool)) (m:List PanicEntry) (h:VR ρ v q) (r:ChR ρ l m):ChR ρ ((v,b)::l) ({v:=q,recovered:=b,goexit:=false} ::m)
theorem ChR.mono {ρ ρ':Rho}(hle:ρ.le ρ'){l:List (AV×Bool)} {m:List PanicEntry}(h:ChR ρ l m):ChR ρ' l m:=by
 induction h with
 |nil=>exact .nil
 |cons v b q l m h _ ih=>exact .cons _ _ _ _ _ (h.mono hle) ih
theorem ChR.append {ρ:Rho} {l l':List (AV×Bool)} {m m':List PanicEntry}(h:ChR ρ l m) (h':ChR ρ l' m'):ChR ρ (l++l') (m++m'):=by
 induction h with
 |nil=>exact h'
 |cons v b q l m h _ ih=>exact .cons _ _ _ _ _ h ih
theorem ChR.noexit {ρ:Rho} {l:List (AV×Bool)} {m:List PanicEntry}(h:ChR ρ l m):m.dropWhile (!·.goexit)= []:=by
 induction h with
 |nil=>rfl
 |cons v b q l m h _ ih=>simpa using ih
def EnM (ρ:Rho) (en:En) (e:Ending):Prop:=match en,e with
 | .ret v,.returned q=>VR ρ v q
 | .panic ch,.panicked chain=>ChR ρ ch chain
 |_,_=>False
def EnR (N:Nat→Prop) (ρ:Rho) (ro:Nat) (W:World) (en:En) (st':St):Ending→World→Prop:=fun e w=>∃ρ':Rho,ρ.le ρ'∧MR N ρ' ro st' W w∧EnM ρ' en e
def ExM (ρ:Rho) (ex:Ex) (e:Exit):Prop:=match ex,e with
 | .normal,.normal=>True
 | .ret,.ret=>True
 | .exit i,.exit j=>i=j
 | .panic ch,.panic chain=>ChR ρ ch chain
 |_,_=>False
def ExR (N:Nat→Prop) (ρ:Rho) (ro:Nat) (W:World) (ex:Ex) (fr':Fr) (st':St):Exit→Act→World→Prop:=fun e a w=>∃ρ':Rho,ρ.le ρ'∧MR N ρ' ro st' W w∧FR ρ' fr' a∧ExM ρ' ex e
def CallsTo (P:Program) (f:FuncId) (vs:Array Value) (w:World) (R:Ending→World→Prop):Prop:=
 (∃q w',(callFunc f vs).run P w= .ok (.value q) w'∧R (.returned q) w')∨((callFunc f vs).run P w= .ok (.enter f vs) w∧Calls P f vs w R)
def SCall (E:Env) (call:FuncId→List AV→St→Rs (En×St)):Prop:=
 ∀f args st en st',call f args st= .ok (en,st')→∀(N:Nat→Prop) (ρ:Rho) (W w:World) (vs:Array Value),MR N ρ E.ro st W w→Gl ρ E.gl→VRs ρ args vs.toList→CallsTo E.P f vs w (EnR N ρ E.ro W en st')
theorem ExR.le {N:Nat→Prop} {ρ ρ':Rho}(hle:ρ.le ρ'){ro:Nat} {W:World} {ex:Ex} {fr':Fr} {st':St} {e:Exit} {a:Act} {w:World}(h:ExR N ρ' ro W ex fr' st' e a w):ExR N ρ ro W ex fr' st' e a w:=
 let⟨ρ'',h1,h2⟩:=h;⟨ρ'',Rho.le_trans hle h1,h2⟩
theorem wpOps_mono {P:Program} {ops:Array Oper} {Q Q':Exit→Act→World→Prop}(hq:∀e a w,Q e a w→Q' e a w):∀(l:List Nat) (a:Act) (w:World),wpOps P ops Q l a w→wpOps P ops Q' l a w
 | [],a,w,h=>hq _ _ _ h
 |i::l,a,w,h=>by
  simp only[wpOps]at h⊢
  split
  ·rename_i h0
   rw[h0]at h
   exact wpOps_mono hq l a w h
  ·rename_i o h0
   rw[h0]at h
   simp only at h
   split
   ·rename_i hw
    rw[if_pos hw]at h
    rcases h with h|⟨h,b,w',h'⟩
    ·left
     unfold Oper.wp at h⊢
     generalize(execOp a.eval o).run P w=r at h⊢
     cases r with
     |ok n w'=>
      cases n<;>simp only[Oper.upon]at h⊢ <;>first
       |exact wpOps_mono hq l _ _ h
       |exact h
       |exact Rows.mono h fun v w' hv=>wpOps_mono hq l _ _ hv
       | (refine Calls.mono h fun e w' he=> ?_
          cases e with
          |returned v=>exact wpOps_mono hq l _ _ he
          |panicked c=>exact hq _ _ _ he
          |outgrown=>exact let⟨b,w',h'⟩:=he;⟨b,w',hq _ _ _ h'⟩)
     |halt x w'=>cases x<;>simp only[Oper.upon]at h⊢ <;>first
      |exact hq _ _ _ h
      |exact h
    ·exact .inr ⟨h,b,w',hq _ _ _ h'⟩
   ·rename_i hw
    rw[if_neg hw]at h
    exact wpOps_mono hq l _ _ h
section
variable {E:Env} {N:Nat→Prop} {ρ:Rho} {st:St} {W w:World}
theorem guardA_run {X:Nat→Prop} {ops:Array Oper} {fr:Fr} {a:Act} {o:Oper} {b:Bool}(hf:FX X ρ fr a) (hX:∀j want p d,o.guard=some (j,want)→ops[j]? =some p→p.dst=some d→¬X d) (h:guardA ops.toList fr o=some b):
 Region.wanted o (yielded ops a.tmps)=b:=by
 unfold guardA at h
 unfold Region.wanted
 split at h
 ·rename_i hg
  cases h
  rw[hg]
 ·rename_i j want hg
  rw[hg]
  simp only
  split at h
  ·rename_i p hp
   have hp':ops[j]? =some p:=by simpa using hp
   split at h
   ·rename_i d hd
    have hx:=hX j want p d hg hp' hd
    have hv:=hf.get d hx
    have hy:yielded ops a.tmps j=match a.tmps[d]?with|some (.bool b)=>some b|_=>none:=by
     unfold yielded
     rw[hp']
     simp only[Option.bind_some,hd]
     rfl
    rw[hy]
    split at h
    ·rename_i b' hb
     cases h
     simp only[Fr.get,hb]at hv
     have hv':=hv.bool_inv
     rw[Array.getD_eq_getD_getElem?]at hv'
     cases ht:a.tmps[d]?with
     |none=>rw[ht]at hv';cases hv'
     |some v=>
      rw[ht]at hv'
      simp only[Option.getD_some]at hv'
      subst hv'
      simp
    ·rename_i hb
     cases h
     simp only[Fr.get,hb]at hv
     rw[Array.getD_eq_getD_getElem?]at hv
     cases ht:a.tmps[d]?with
     |none=>simp
     |some v=>
      rw[ht]at hv
      simp only[Option.getD_some]at hv
      cases hv
      simp
    ·cases h
   ·cases h
  ·cases h
theorem undef_tup:VR ρ (.tup []) undef:= .tup [] #[] .nil
theorem step_wp {call:FuncId→List AV→St→Rs (En×St)}(hc:SCall E call){o:Oper} {out:Out} {fr:Fr} {a:Act} {K:Act→World→Prop} {Q:Exit→Act→World→Prop} {X:Nat→Prop}
 (hM:MR N ρ E.ro st W w) (hf:FX X ρ fr a) (hX:∀t,Operand.tmp t∈o.op.operands→¬X t) (hg:Gl ρ E.gl) (hs:stepA E.P E.ro fr st o.op= .ok out)
 (hval:∀v st',out= .val v st'→∀ρ' q w',ρ.le ρ'→MR N ρ' E.ro st' W w'→VR ρ' v q→K (a.put o.dst q) w')
 (hskip:∀st',out= .skip st'→∀w',MR N ρ E.ro st' W w'→K (a.put o.dst undef) w')
 (hlater:∀d,out= .later d→∀x,DR ρ d x→K ({a with defers:=x::a.defers}.put o.dst undef) w)
 (hret:∀f args,out= .enter f args→∃en st',call f args st= .ok (en,st')∧∀ρ' w',ρ.le ρ'→MR N ρ' E.ro st' W w'→(∀v q,en= .ret v→VR ρ' v q→K (a.put o.dst q) w')∧(∀ch chain,en= .panic ch→ChR ρ' ch chain→Q (.panic chain) a w'))
 (hpan:∀v,out= .panic v→∀q,VR ρ v q→Q (.panic [{v:=q,recovered:=false}]) a w):o.wp E.P a w K Q:=by
 have he:∀x∈o.op.operands.toList,VR ρ (fr.get x) (a.eval x):=fun x hx=>hf.eval x (fun t ht=>hX t (by subst ht;simpa using hx))
 have h:=stepA_run hM he hs
 unfold Oper.wp
 generalize hrun:(execOp a.eval o).run E.P w=r at h
 cases out with
 |val v st'=>
  obtain⟨ρ',q,w',rfl,h1,h2,h3⟩:=h
  exact hval v st' rfl ρ' q w' h1 h2 h3
 |skip st'=>
  obtain⟨w',rfl,h1⟩:=h
  exact hskip st' rfl w' h1
 |later d=>
  obtain⟨x,rfl,h1⟩:=h
  exact hlater d rfl x h1
 |panic v=>
  obtain⟨q,rfl,h1⟩:=h
  exact hpan v rfl q h1
 |enter f args=>
  obtain⟨vs,rfl,h1⟩:=h
  obtain⟨en,st',h2,h3⟩:=hret f args rfl
  rcases hc f args st en st' h2 N ρ W w vs hM hg h1 with⟨q,w',h4,ρ',h5,h6,h7⟩|⟨h4,h5⟩
  ·rw[h4]
   cases en with
   |ret v=>exact(h3 ρ' w' h5 h6).1 v q rfl h7
   |panic ch=>exact h7.elim
  ·rw[h4]
   refine Calls.mono h5 fun e w' ⟨ρ',h6,h7,h8⟩=> ?_
   cases e with
   |returned q=>
    cases en with
    |ret v=>exact(h3 ρ' w' h6 h7).1 v q rfl h8
    |panic ch=>exact h8.elim
   |panicked chain=>
    cases en with
    |ret v=>exact h8.elim
    |panic ch=>exact(h3 ρ' w' h6 h7).2 ch chain rfl h8
   |outgrown=>cases en<;>exact h8.elim
theorem evOps_run {call:FuncId→List AV→St→Rs (En×St)}(hc:SCall E call){ops:Array Oper} :∀(l pre:List Oper) (fr:Fr) (st:St) (ρ:Rho) (a:Act) (w:World) (ex:Ex) (fr':Fr) (st':St),ops.toList=pre++l→MR N ρ E.ro st W w→FR ρ fr a→Gl ρ E.gl→
 evOps call E.P E.ro ops.toList l fr st= .ok (ex,fr',st')→wpOps E.P ops (ExR N ρ E.ro W ex fr' st') (List.range' pre.length l.length) a w:=by
 intro l
 induction l with
 |nil=>
  intro pre fr st ρ a w ex fr' st' _ hM hf hg h
  simp only[evOps]at h
  cases h
  exact⟨ρ,Rho.le_refl _,hM,hf,trivial⟩
 |cons o r ih=>
  intro pre fr st ρ a w ex fr' st' heq hM hf hg h
  have ho:ops[pre.length]? =some o:=by
   rw[←Array.getElem?_toList,heq]
   simp
  have heq':ops.toList=(pre++ [o])++r:=by simp[heq]
  have next:∀(ρ':Rho) (fr1:Fr) (st1:St) (a1:Act) (w1:World),ρ.le ρ'→MR N ρ' E.ro st1 W w1→FR ρ' fr1 a1→evOps call E.P E.ro ops.toList r fr1 st1= .ok (ex,fr',st')→wpOps E.P ops (ExR N ρ E.ro W ex fr' st') (List.range' (pre.length+1) r.length) a1 w1:=by
   intro ρ' fr1 st1 a1 w1 hle h1 h2 h3
   have:=ih (pre++ [o]) fr1 st1 ρ' a1 w1 ex fr' st' heq' h1 h2 (hg.mono hle) h3
   rw[List.length_append,List.length_singleton]at this
   exact wpOps_mono (fun e a w h=>h.le hle) _ _ _ this
  simp only[List.length_cons,List.range'_succ]
  rw[wpOps,ho]
  simp only
  simp only[evOps]at h
  split at h
  ·cases h
  ·rename_i hgd
   have hw:=guardA_run hf (fun _ _ _ _ _ _ _=>id) hgd
   rw[if_neg (by rw[hw];exact Bool.false_ne_true)]
   obtain⟨fr1,h1,h⟩:=Rs.bind_ok h
   exact next ρ fr1 st _ w (Rho.le_refl _) hM (hf.put h1 undef_tup) h
  ·rename_i hgd
   have hw:=guardA_run hf (fun _ _ _ _ _ _ _=>id) hgd
   rw[if_pos hw]
   left
   split at h
   ·cases h
   all_goals rename_i hs
   ·refine step_wp hc hM hf (fun t _=>id) hg hs (fun v st1 e ρ' q w' h1 h2 h3=> ?_) (fun _ e=>by cases e) (fun _ e=>by cases e) (fun _ _ e=>by cases e) (fun _ e=>by cases e)
    cases e
    obtain⟨fr1,h4,h⟩:=Rs.bind_ok h
    exact next ρ' fr1 _ _ w' h1 h2 ((hf.mono h1).put h4 h3) h
   ·refine step_wp hc hM hf (fun t _=>id) hg hs (fun v st1 e=>by cases e) (fun st1 e w' h1=> ?_) (fun _ e=>by cases e) (fun _ _ e=>by cases e) (fun _ e=>by cases e)
    cases e
    obtain⟨fr1,h4,h⟩:=Rs.bind_ok h
    exact next ρ fr1 _ _ w' (Rho.le_refl _) h1 (hf.put h4 undef_tup) h
   ·rename_i d0
    refine step_wp hc hM hf (fun t _=>id) hg hs (fun v st1 e=>by cases e) (fun _ e=>by cases e) (fun d e x h1=> ?_) (fun _ _ e=>by cases e) (fun _ e=>by cases e)
    cases e
    obtain⟨fr1,h4,h2⟩:=Rs.bind_ok h
    clear h
    have h:=h2
    clear h2
    have hf':FR ρ {fr with ds:=d0::fr.ds} {a with defers:=x::a.defers} :=⟨hf.size,hf.get,hf.glob,.cons _ _ _ _ h1 hf.ds⟩
    exact next ρ fr1 st _ w (Rho.le_refl _) hM (hf'.put h4 undef_tup) h
   ·refine step_wp hc hM hf (fun t _=>id) hg hs (fun v st1 e=>by cases e) (fun _ e=>by cases e) (fun _ e=>by cases e) (fun f args e=> ?_) (fun _ e=>by cases e)
    cases e
    split at h
    ·cases h
    ·rename_i v st1 hcall
     refine⟨_,_,hcall,fun ρ' w' h1 h2=>⟨fun v' q e hv=> ?_,fun ch chain e=>by cases e⟩⟩
     cases e
     obtain⟨fr1,h4,h⟩:=Rs.bind_ok h
     exact next ρ' fr1 _ _ w' h1 h2 ((hf.mono h1).put h4 hv) h
    ·rename_i ch st1 hcall
     refine⟨_,_,hcall,fun ρ' w' h1 h2=>⟨(fun v' q e hv=>by cases e),fun ch chain e hch=> ?_⟩⟩
     cases e
     cases h
     exact⟨ρ',h1,h2,hf.mono h1,hch⟩
   ·refine step_wp hc hM hf (fun t _=>id) hg hs (fun v st1 e=>by cases e) (fun _ e=>by cases e) (fun _ e=>by cases e) (fun f args e=>by cases e) (fun v e q hv=> ?_)
    cases e
    cases h
    exact⟨ρ,Rho.le_refl _,hM,hf,.cons _ _ _ _ _ hv .nil⟩
end
def MdR (ρ:Rho) (u:Md) (m:FrameMode):Prop:=match u,m with
 | .returning,.returning=>True
 | .panicking ch,.panicking chain=>ChR ρ ch chain
 |_,_=>False
theorem MdR.mono {ρ ρ':Rho}(hle:ρ.le ρ'){u:Md} {m:FrameMode}(h:MdR ρ u m):MdR ρ' u m:=by
 cases u<;>cases m<;>first|exact h|exact ChR.mono hle h
theorem MdR.notRun {ρ:Rho} {u:Md} {m:FrameMode}(h:MdR ρ u m):m≠ .run:=by
 cases u<;>cases m<;>first|exact h.elim|(intro e;cases e)
theorem settle_R {ρ:Rho} {u:Md} {m:FrameMode}(h:MdR ρ u m):MdR ρ (mdSettle u) (settle m):=by
 cases u with
 |returning=>cases m<;>first|exact h.elim|exact trivial
 |panicking ch=>
  cases m with
  |run=>exact h.elim
  |returning=>exact h.elim
  |panicking chain=>
   have h:ChR ρ ch chain:=h
   cases h with
   |nil=>exact .nil
   |cons v b q l m hv r=>
    cases b with
    |false=>exact ChR.cons _ _ _ _ _ hv r
    |true=>
     simp only[mdSettle,settle,r.noexit]
     trivial
theorem raise_R {ρ:Rho} {u:Md} {m:FrameMode} {ch:List (AV×Bool)} {chain:List PanicEntry}(h:MdR ρ u m) (hc:ChR ρ ch chain):MdR ρ (mdRaise u ch) (raised m chain):=by
 cases u with
 |returning=>cases m<;>first|exact h.elim|exact hc
 |panicking ch'=>
  cases m with
  |run=>exact h.elim
  |returning=>exact h.elim
  |panicking chain'=>exact hc.append h
def SCallD (E:Env) (callD:FuncId→List AV→Md→St→Rs (En×Md×St)):Prop:=
 ∀f args u st en u' st',callD f args u st= .ok (en,u',st')→∀(N:Nat→Prop) (ρ:Rho) (W w:World) (vs:Array Value) (m:FrameMode),MR N ρ E.ro st W w→Gl ρ E.gl→VRs ρ args vs.toList→MdR ρ u m→
  (callFunc f vs).run E.P w= .ok (.enter f vs) w∧CallsD E.P f vs m w fun e m' w'=>∃ρ':Rho,ρ.le ρ'∧MR N ρ' E.ro st' W w'∧MdR ρ' u' m'∧EnM ρ' en e
section
variable {P:Program} {E:Env} {N:Nat→Prop} {ρ:Rho} {ro:Nat} {st:St} {W w:World}
def resRun (tmps:Array Value) (r:ResultVar):Sem Value:=match r with
 | .tmp t=>pure (tmps.getD t undef)
 | .cell a t=>do Go.loadVar t (←asAddr (tmps.getD a undef))
theorem resOne_run (h:MR N ρ ro st W w){fr:Fr} {tmps:Array Value}(hg:∀t,VR ρ (fr.get (.tmp t)) (tmps.getD t undef)){r:ResultVar} {v:AV}(hr:resOne P fr st r= .ok v):
 ∃q,(resRun tmps r).run P w= .ok q w∧VR ρ v q:=by
 unfold resOne at hr
 cases r with
 |tmp t=>cases hr;exact⟨_,rfl,hg t⟩
 |cell a t=>
  simp only at hr
  split at hr
  ·rename_i id off hp
   have ha:=hg a
   rw[hp]at ha
   obtain⟨L,hL,e⟩:=ha.ptr_inv
   obtain⟨q,h1,h2⟩:=h.loadVar hL hr
   exact⟨q,by simp[resRun,e,asAddr,h1],h2⟩
  ·cases hr
theorem resAll_run (h:MR N ρ ro st W w){fr:Fr} {tmps:Array Value}(hg:∀t,VR ρ (fr.get (.tmp t)) (tmps.getD t undef)):∀{l:List ResultVar} {vs:List AV},resAll P fr st l= .ok vs→
 ∃qs,(l.mapM (resRun tmps)).run P w= .ok qs w∧VRs ρ vs qs
 | [],vs,hr=>by cases hr;exact⟨[],rfl,.nil⟩
 |r::l,vs,hr=>by
  obtain⟨v,hv,hr⟩:=Rs.bind_ok hr
  obtain⟨u,hu,hr⟩:=Rs.bind_ok hr
  cases hr
  obtain⟨q,h1,h2⟩:=resOne_run h hg hv
  obtain⟨qs,h3,h4⟩:=resAll_run h hg hu
  refine⟨q::qs,?_,.cons _ _ _ _ h2 h4⟩
  simp only[List.mapM_cons,Sem.run_bind,h1,h3,Result.andThen_ok,Sem.run_pure]
theorem resA_run (h:MR N ρ ro st W w){fn:Func} {fr:Fr} {tmps:Array Value}(hg:∀t,VR ρ (fr.get (.tmp t)) (tmps.getD t undef)){v:AV}(hr:resA P fn fr st= .ok v):∃q,(results fn tmps).run P w= .ok q w∧VR ρ v q:=by
 unfold resA at hr
 obtain⟨l,hl,hr2⟩:=Rs.bind_ok hr
 clear hr
 obtain⟨qs,h1,h2⟩:=resAll_run h hg hl
 have h3:(fn.results.mapM (resRun tmps)).run P w= .ok qs.toArray w:=by
  rw[Array.mapM_eq_mapM_toList]
  simp[h1]
 have h4:(results fn tmps).run P w= .ok (if h:qs.toArray.size=1 then qs.toArray[0]else .tuple qs.toArray) w:=by
  have e:results fn tmps=(do let vs ←fn.results.mapM (resRun tmps);pure (if h:vs.size=1 then vs[0]else .tuple vs)):=rfl
  rw[e]
  simp only[Sem.run_bind,h3,Result.andThen_ok,Sem.run_pure]
 split at hr2
 ·cases hr2
  cases h2 with|cons _ q _ _ h5 h6=>
  cases h6
  exact⟨q,by rw[h4];rfl,h5⟩
 ·rename_i hne
  cases hr2
  refine⟨.tuple qs.toArray,?_,.tup _ _ (by simpa using h2)⟩
  rw[h4,dif_neg]
  intro hlen
  have:=h2.length
  have hl1:l.length=1:=by simp at hlen;omega
  obtain⟨x,hx⟩:=List.length_eq_one_iff.1 hl1
  exact hne x hx
theorem leaveA_run {callD:FuncId→List AV→Md→St→Rs (En×Md×St)}(hc:SCallD E callD){fn:Func} {fr:Fr} {tmps:Array Value} {en:En} {st':St} :∀(ds:List (FuncId×List AV)) (xs:List Deferred) (u:Md) (m:FrameMode) (st:St) (ρ0 ρ:Rho) (w:World),
 leaveA callD E.P fn fr ds u st= .ok (en,st')→ρ0.le ρ→MR N ρ E.ro st W w→(∀t,VR ρ (fr.get (.tmp t)) (tmps.getD t undef))→DRs ρ ds xs→Gl ρ E.gl→MdR ρ u m→Leaves E.P fn tmps (EnR N ρ0 E.ro W en st') xs m w:=by
 intro ds
 induction ds with
 |nil=>
  intro xs u m st ρ0 ρ w h hle hM hg hd hgl hm
  cases hd
  simp only[leaveA]at h
  cases u with
  |returning=>
   cases m with
   |returning=>
    obtain⟨v,hv,h⟩:=Rs.bind_ok h
    cases h
    obtain⟨q,h1,h2⟩:=resA_run hM hg hv
    exact⟨q,h1,ρ,hle,hM,h2⟩
   |run=>exact hm.elim
   |panicking _=>exact hm.elim
  |panicking ch=>
   cases m with
   |panicking chain=>
    cases h
    exact⟨ρ,hle,hM,hm⟩
   |run=>exact hm.elim
   |returning=>exact hm.elim
 |cons d ds ih=>
  intro xs u m st ρ0 ρ w h hle hM hg hd hgl hm
  cases hd with|cons _ x _ xs hx hxs=>
  obtain⟨cap,ht,hargs⟩:=hx
  simp only[leaveA]at h
  have key:∀en1 u1 st1,callD d.1 d.2 u st= .ok (en1,u1,st1)→(callFunc d.1 (x.args++cap)).run E.P w= .ok (.enter d.1 (x.args++cap)) w∧CallsD E.P d.1 (x.args++cap) m w fun e m' w'=>∃ρ':Rho,ρ.le ρ'∧MR N ρ' E.ro st1 W w'∧MdR ρ' u1 m'∧EnM ρ' en1 e:=
   fun en1 u1 st1 hcall=>hc d.1 d.2 u st en1 u1 st1 hcall N ρ W w (x.args++cap) m hM hgl (by simpa using hargs) hm
  have hx':x= {target:= .fn (.func d.1) cap,args:=x.args} :=by
   cases x;simp at ht;simp[ht]
  rw[hx']
  split at h
  ·cases h
  ·rename_i v u1 st1 hcall
   obtain⟨h1,h2⟩:=key _ _ _ hcall
   refine leaves_cons hm.notRun (by rw[call_enter];exact h1) (h2.mono fun e m' w' ⟨ρ',h3,h4,h5,h6⟩=> ?_)
   cases e with
   |returned q=>exact ih xs _ _ st1 ρ0 ρ' w' h (Rho.le_trans hle h3) h4 (fun t=>(hg t).mono h3) (hxs.mono h3) (hgl.mono h3) (settle_R h5)
   |panicked _=>exact h6.elim
   |outgrown=>exact h6.elim
  ·rename_i ch u1 st1 hcall
   obtain⟨h1,h2⟩:=key _ _ _ hcall
   refine leaves_cons hm.notRun (by rw[call_enter];exact h1) (h2.mono fun e m' w' ⟨ρ',h3,h4,h5,h6⟩=> ?_)
   cases e with
   |returned q=>exact h6.elim
   |panicked chain=>exact ih xs _ _ st1 ρ0 ρ' w' h (Rho.le_trans hle h3) h4 (fun t=>(hg t).mono h3) (hxs.mono h3) (hgl.mono h3) (raise_R h5 h6)
   |outgrown=>exact h6.elim
end
def wpN (P:Program) (n:Nat) (c:Code) (Q:Exit→Act→World→Prop) (a:Act) (w:World):Prop:=match c with
 | .loop b=>Code.rounds P b Q n a w
 |c=>c.wp P Q a w
def SCode (E:Env) (code:Code→Fr→St→Rs (Ex×Fr×St)):Prop:=
 ∀c fr st ex fr' st',code c fr st= .ok (ex,fr',st')→∃n,∀(N:Nat→Prop) (ρ:Rho) (W w:World) (a:Act),MR N ρ E.ro st W w→FR ρ fr a→Gl ρ E.gl→wpN E.P n c (ExR N ρ E.ro W ex fr' st') a w
def SCodeD (E:Env) (codeD:Code→Fr→Md→St→Rs (Ex×Fr×Md×St)):Prop:=
 ∀c fr u st ex fr' u' st',codeD c fr u st= .ok (ex,fr',u',st')→∀(N:Nat→Prop) (ρ:Rho) (W w:World) (a:Act) (m:FrameMode) (c₀:Frame) (rest:List Frame),MR N ρ E.ro st W w→FR ρ fr a→Gl ρ E.gl→MdR ρ u m→
  c.wpS E.P (fun e a cs w=>∃(ρ':Rho) (m':FrameMode),ρ.le ρ'∧MR N ρ' E.ro st' W w∧FR ρ' fr' a∧MdR ρ' u' m'∧cs= {c₀ with mode:=m'} ::rest∧ExM ρ' ex e) a ({c₀ with mode:=m} ::rest) w
def SDraw (E:Env):Prop:=
 ∀call,SCall E call→∀(id:Nat) (ops:Array Oper) fr st ex fr' st',evDraw call E.P E.ro ops.toList fr st= .ok (ex,fr',st')→∀(N:Nat→Prop) (ρ:Rho) (W w:World) (a:Act),MR N ρ E.ro st W w→FR ρ fr a→Gl ρ E.gl→(Code.region id ops true).wp E.P (ExR N ρ E.ro W ex fr' st') a w
structure Fit (E:Env):Prop where
 draw:SDraw E
 ext:∀f e,E.ext f=some e→∀args v st st',extA st E.mx e args= .ok (v,st')→∀(N:Nat→Prop) (ρ:Rho) (W w:World) (vs:Array Value),MR N ρ E.ro st W w→Gl ρ E.gl→VRs ρ args vs.toList→∃q w' ρ',(callFunc f vs).run E.P w= .ok (.value q) w'∧ρ.le ρ'∧MR N ρ' E.ro st' W w'∧VR ρ' v q
 name:∀(f:FuncId) (fn:Func),E.P.funcs[f]? =some fn→fn.body.isSome=true→(fn.name== "runtime.NumGoroutine")=false
structure SEv (E:Env) (ih:Ev):Prop where
 code:SCode E ih.code
 call:SCall E ih.call
 codeD:SCodeD E ih.codeD
 callD:SCallD E ih.callD
section
variable {E:Env} {N:Nat→Prop} {ρ:Rho} {st:St} {W w:World}
theorem rounds_mono {P:Program} {c:Code} {Q Q':Exit→Act→World→Prop}(hq:∀e a w,Q e a w→Q' e a w):∀(n:Nat) (a:Act) (w:World),Code.rounds P c Q n a w→Code.rounds P c Q' n a w
 |0,_,_,h=>h
 |n+1,a,w,h=>wp_mono h fun e a w he=>by
  cases e<;>first
   |exact rounds_mono hq n a w he
   |exact hq _ _ _ he
theorem wpN_wp {P:Program} {n:Nat} {c:Code} {Q:Exit→Act→World→Prop} {a:Act} {w:World}(h:wpN P n c Q a w):c.wp P Q a w:=by
 cases c<;>first
  |exact h
  |exact wp_loop_rounds n h
theorem SCode.wp {code:Code→Fr→St→Rs (Ex×Fr×St)}(h:SCode E code){c:Code} {fr:Fr} {st:St} {ex:Ex} {fr':Fr} {st':St}(h1:code c fr st= .ok (ex,fr',st')){a:Act}(hM:MR N ρ E.ro st W w) (hf:FR ρ fr a) (hg:Gl ρ E.gl):c.wp E.P (ExR N ρ E.ro W ex fr' st') a w:=
 let⟨_,h2⟩:=h c fr st ex fr' st' h1;wpN_wp (h2 N ρ W w a hM hf hg)
theorem ExR.mk {ro:Nat} {a:Act} {ex:Ex} {fr':Fr} {st':St} {e:Exit}(hM:MR N ρ ro st' W w) (hf:FR ρ fr' a) (h:ExM ρ ex e):ExR N ρ ro W ex fr' st' e a w:=⟨ρ,Rho.le_refl _,hM,hf,h⟩
theorem codeBody_run (hF:Fit E){ih:Ev}(hi:SEv E ih):SCode E (codeBody E ih):=by
 intro c fr st ex fr' st' h
 by_cases hl:∃b,c= .loop b
 ·obtain⟨b,rfl⟩:=hl
  simp only[codeBody]at h
  split at h
  ·rename_i fr1 st1 h1
   obtain⟨n,hn⟩:=hi.code _ _ _ _ _ _ h
   refine⟨n+1,fun N ρ W w a hM hf hg=>wp_mono (hi.code.wp h1 hM hf hg) fun e a1 w1 he=> ?_⟩
   obtain⟨ρ1,h2,h3,h4,h5⟩:=he
   cases e<;>first|exact h5.elim|skip
   exact rounds_mono (fun _ _ _ hh=>hh.le h2) n _ _ (hn N ρ1 W w1 a1 h3 h4 (hg.mono h2))
  ·rename_i r hne
   refine⟨1,fun N ρ W w a hM hf hg=>wp_mono (hi.code.wp h hM hf hg) fun e a1 w1 he=> ?_⟩
   cases e<;>first
    |exact he
    |skip
   obtain⟨ρ1,h2,h3,h4,h5⟩:=he
   cases ex<;>first|exact h5.elim|skip
   exact absurd h (hne _ _)
 refine⟨0,fun N ρ W w a hM hf hg=> ?_⟩
 have e0:∀Q,wpN E.P 0 c Q a w=c.wp E.P Q a w:=by
  intro Q
  cases c<;>first|rfl|exact absurd ⟨_,rfl⟩ hl
 rw[e0]
 clear e0
 cases c<;>simp only[codeBody]at h<;>first
  | (cases h;done)
  | (exact absurd ⟨_,rfl⟩ hl)
  |skip
 case skip=>cases h;exact wp_skip (.mk hM hf trivial)
 case label l=>cases h;exact wp_label (.mk hM hf trivial)
 case exit id=>cases h;exact wp_exit (.mk hM hf rfl)
 case ret=>cases h;exact wp_ret (.mk hM hf trivial)
 case region id ops draw=>
  split at h
  ·have h1:=evOps_run hi.call ops.toList [] fr st ρ a w ex fr' st' rfl hM hf hg h
   refine wp_region (Q:=ExR N ρ E.ro W ex fr' st') ?_
   have e:List.range' 0 ops.toList.length=List.range ops.size:=by rw[List.range_eq_range'];simp
   rw[←e]
   exact h1
  ·exact hF.draw _ hi.call id ops fr st ex fr' st' h N ρ W w a hM hf hg
 case seq x y=>
  have hx:=fun ex1 fr1 st1 (h1:ih.code x fr st= .ok (ex1,fr1,st1))=>hi.code.wp h1 hM hf hg
  split at h
  ·rename_i fr1 st1 h1
   refine wp_seq (wp_mono (hx _ _ _ h1) fun e a1 w1 he=> ?_)
   obtain⟨ρ1,h2,h3,h4,h5⟩:=he
   cases e<;>first|exact h5.elim|skip
   exact wp_mono (hi.code.wp h h3 h4 (hg.mono h2)) fun _ _ _ hh=>hh.le h2
  ·rename_i r hne
   refine wp_seq (wp_mono (hx _ _ _ h) fun e a1 w1 he=> ?_)
   cases e<;>first
    |exact he
    |skip
   obtain⟨ρ1,h2,h3,h4,h5⟩:=he
   cases ex<;>first|exact h5.elim|skip
   exact absurd h (hne _ _)
 case cond x b c=>
  have hx:=hf.eval x (fun _ _=>id)
  split at h
  ·rename_i hb
   rw[hb]at hx
   exact wp_cond_true hx.bool_inv (hi.code.wp h hM hf hg)
  ·rename_i hb
   rw[hb]at hx
   exact wp_cond_false hx.bool_inv (hi.code.wp h hM hf hg)
  ·cases h
 case block id b=>
  have hx:=fun ex1 fr1 st1 (h1:ih.code b fr st= .ok (ex1,fr1,st1))=>hi.code.wp h1 hM hf hg
  split at h
  ·rename_i id' fr1 st1 h1
   refine wp_block (wp_mono (hx _ _ _ h1) fun e a1 w1 he=> ?_)
   obtain⟨ρ1,h2,h3,h4,h5⟩:=he
   cases e<;>first|exact h5.elim|skip
   rename_i id2
   have h5:id'=id2:=h5
   subst h5
   split at h
   ·rename_i hid
    have hid:=beq_true hid
    cases h
    simp only[Exit.inBlock,hid,if_true]
    exact⟨ρ1,h2,h3,h4,trivial⟩
   ·rename_i hid
    have hid:=beq_false hid
    cases h
    simp only[Exit.inBlock,if_neg hid]
    exact⟨ρ1,h2,h3,h4,rfl⟩
  ·rename_i r hne
   refine wp_block (wp_mono (hx _ _ _ h) fun e a1 w1 he=> ?_)
   cases e<;>first
    |exact he
    |skip
   obtain⟨ρ1,h2,h3,h4,h5⟩:=he
   cases ex<;>first|exact h5.elim|skip
   exact absurd h (hne _ _ _)
 case scope b=>
  have hx:=fun ex1 fr1 st1 (h1:ih.code b fr st= .ok (ex1,fr1,st1))=>hi.code.wp h1 hM hf hg
  split at h
  ·cases h
  ·rename_i r hne
   refine wp_scope_straight (wp_mono (hx _ _ _ h) fun e a1 w1 he=> ?_)
   cases e<;>first
    |exact he
    |skip
   obtain⟨ρ1,h2,h3,h4,h5⟩:=he
   cases ex<;>exact h5.elim
end
section
variable {E:Env} {N:Nat→Prop} {ρ:Rho} {st:St} {W w:World}
theorem enter_FR (hg:Gl ρ E.gl){fn:Func} {args:List AV} {vs:Array Value}(h:VRs ρ args vs.toList):FR ρ (enterA E.gl fn args) {tmps:=vs++Array.replicate (fn.ntmps-vs.size) undef,defers:= []} :=by
 have hl:=h.length
 have hl':vs.size=args.length:=by simpa using hl
 refine⟨?_,fun t _=> ?_,hg,.nil⟩
 ·simp[enterA,hl']
 ·simp only[Fr.get,enterA]
  split
  ·rename_i v hv
   rcases PT.get_lay hv with⟨_,h1⟩|⟨_,h1⟩
   ·obtain⟨q,h2,h3⟩:=h.get h1
    have h2':vs[t]? =some q:=by simpa using h2
    have hlt:=(Array.getElem?_eq_some_iff.1 h2').1
    rw[Array.getD_eq_getD_getElem?,Array.getElem?_append_left hlt,h2']
    exact h3
   ·cases h1
  ·exact .top _
theorem enter_call (hF:Fit E){f:FuncId} {fn:Func} {c:Code}(hf:E.P.funcs[f]? =some fn) (hb:fn.body=some c) (vs:Array Value) (w:World):(callFunc f vs).run E.P w= .ok (.enter f vs) w:=by
 have hn:=hF.name f fn hf (by rw[hb];rfl)
 simp only[callFunc,Sem.run_bind,run_program,Result.andThen_ok,hf]
 rw[if_neg (by rw[hn];exact Bool.false_ne_true)]
 simp[hb]
theorem callBody_run (hF:Fit E){ih:Ev}(hi:SEv E ih):SCall E (callBody E ih):=by
 intro f args st en st' h N ρ W w vs hM hg hv
 unfold callBody at h
 split at h
 ·rename_i e he
  obtain⟨⟨v,st1⟩,hx,h⟩:=Rs.bind_ok h
  cases h
  obtain⟨q,w',ρ',h1,h2,h3,h4⟩:=hF.ext f e he args v st _ hx N ρ W w vs hM hg hv
  exact .inl ⟨q,w',h1,ρ',h2,h3,h4⟩
 ·split at h
  ·cases h
  rename_i fn hf
  split at h
  ·cases h
  rename_i c hb
  refine .inr ⟨enter_call hF hf hb vs w,calls_of_wp_defers hf hb ?_⟩
  have hfr:=enter_FR (E:=E) hg (fn:=fn) hv
  split at h
  ·cases h
  ·rename_i fr st1 h1
   refine wp_mono (hi.code.wp h1 hM hfr hg) fun e a1 w1 ⟨ρ1,h2,h3,h4,h5⟩=> ?_
   cases e<;>first|exact h5.elim|skip
   exact leaveA_run hi.callD fr.ds a1.defers .returning .returning st1 ρ ρ1 w1 h h2 h3 (fun t=>h4.get t id) h4.ds (hg.mono h2) trivial
  ·rename_i fr st1 h1
   refine wp_mono (hi.code.wp h1 hM hfr hg) fun e a1 w1 ⟨ρ1,h2,h3,h4,h5⟩=> ?_
   cases e<;>first|exact h5.elim|skip
   exact leaveA_run hi.callD fr.ds a1.defers .returning .returning st1 ρ ρ1 w1 h h2 h3 (fun t=>h4.get t id) h4.ds (hg.mono h2) trivial
  ·rename_i ch fr st1 h1
   refine wp_mono (hi.code.wp h1 hM hfr hg) fun e a1 w1 he=> ?_
   obtain⟨ρ1,h2,h3,h4,h5⟩:=he
   cases e<;>first|exact h5.elim|skip
   rename_i chain
   exact leaveA_run hi.callD fr.ds a1.defers (.panicking ch) (.panicking chain) st1 ρ ρ1 w1 h h2 h3 (fun t=>h4.get t id) h4.ds (hg.mono h2) h5
  ·cases h
def ExS (N:Nat→Prop) (ρ:Rho) (ro:Nat) (W:World) (c₀:Frame) (rest:List Frame) (ex:Ex) (fr':Fr) (u':Md) (st':St):Exit→Act→List Frame→World→Prop:=
 fun e a cs w=>∃(ρ':Rho) (m':FrameMode),ρ.le ρ'∧MR N ρ' ro st' W w∧FR ρ' fr' a∧MdR ρ' u' m'∧cs= {c₀ with mode:=m'} ::rest∧ExM ρ' ex e
theorem ExS.le {N:Nat→Prop} {ρ ρ':Rho}(hle:ρ.le ρ'){ro:Nat} {W:World} {c₀:Frame} {rest:List Frame} {ex:Ex} {fr':Fr} {u':Md} {st':St} {e:Exit} {a:Act} {cs:List Frame} {w:World}(h:ExS N ρ' ro W c₀ rest ex fr' u' st' e a cs w):ExS N ρ ro W c₀ rest ex fr' u' st' e a cs w:=
 let⟨ρ'',m',h1,h2⟩:=h;⟨ρ'',m',Rho.le_trans hle h1,h2⟩
theorem wpS_mono {P:Program} {c:Code} {Q Q':Exit→Act→List Frame→World→Prop} {a:Act} {cs:List Frame} {w:World}(h:c.wpS P Q a cs w) (hq:∀e a cs w,Q e a cs w→Q' e a cs w):c.wpS P Q' a cs w:=
 fun b k hb hr=>let⟨e,a',cs',w',q,r⟩:=h b k hb hr;⟨e,a',cs',w',hq _ _ _ _ q,r⟩
theorem wpOpsS_mono {P:Program} {ops:Array Oper} {Q Q':Exit→Act→List Frame→World→Prop}(hq:∀e a cs w,Q e a cs w→Q' e a cs w):∀(l:List Nat) (a:Act) (cs:List Frame) (w:World),wpOpsS P ops Q l a cs w→wpOpsS P ops Q' l a cs w
 | [],a,cs,w,h=>hq _ _ _ _ h
 |i::l,a,cs,w,h=>by
  simp only[wpOpsS]at h⊢
  split
  ·rename_i h0
   rw[h0]at h
   exact wpOpsS_mono hq l a cs w h
  ·rename_i o h0
   rw[h0]at h
   simp only at h
   split
   ·rename_i hw
    rw[if_pos hw]at h
    generalize(execOp a.eval o).run P w=r at h⊢
    cases r with
    |ok n w'=>
     cases n<;>simp only[Oper.upon]at h⊢ <;>first
      |exact wpOpsS_mono hq l _ _ _ h
      |exact h
      |exact Rows.mono h fun v w' hv=>wpOpsS_mono hq l _ _ _ hv
      | (refine Calls.mono h fun e w' he=> ?_
         cases e with
         |returned v=>exact wpOpsS_mono hq l _ _ _ he
         |panicked c=>exact hq _ _ _ _ he
         |outgrown=>exact let⟨b,w',h'⟩:=he;⟨b,w',hq _ _ _ _ h'⟩)
      | (split at h<;>exact wpOpsS_mono hq l _ _ _ h)
    |halt x w'=>cases x<;>simp only[Oper.upon]at h⊢ <;>first
     |exact hq _ _ _ _ h
     |exact h
   ·rename_i hw
    rw[if_neg hw]at h
    exact wpOpsS_mono hq l _ _ _ h
theorem recover_run {ev:Operand→Value} {o:Oper}(h:isRecover o.op=true) (w:World):(execOp ev o).run E.P w= .ok .recover w:=by
 unfold isRecover at h
 split at h
 ·rename_i c hop
  split at h
  ·rename_i hc
   simp only[execOp,hop,resolve,hc,Sem.run_bind,Sem.run_pure,Result.andThen_ok,invoke,Go.builtin]
  ·cases h
 ·cases h
theorem evOpsD_run {call:FuncId→List AV→St→Rs (En×St)}(hc:SCall E call){ops:Array Oper} {c₀:Frame} {rest:List Frame} :∀(l pre:List Oper) (fr:Fr) (u:Md) (st:St) (ρ:Rho) (a:Act) (m:FrameMode) (w:World) (ex:Ex) (fr':Fr) (u':Md) (st':St),ops.toList=pre++l→MR N ρ E.ro st W w→FR ρ fr a→Gl ρ E.gl→MdR ρ u m→
 evOpsD call E.P E.ro ops.toList l fr u st= .ok (ex,fr',u',st')→wpOpsS E.P ops (ExS N ρ E.ro W c₀ rest ex fr' u' st') (List.range' pre.length l.length) a ({c₀ with mode:=m} ::rest) w:=by
 intro l
 induction l with
 |nil=>
  intro pre fr u st ρ a m w ex fr' u' st' _ hM hf hg hm h
  simp only[evOpsD]at h
  cases h
  exact⟨ρ,m,Rho.le_refl _,hM,hf,hm,rfl,trivial⟩
 |cons o r ih=>
  intro pre fr u st ρ a m w ex fr' u' st' heq hM hf hg hm h
  have ho:ops[pre.length]? =some o:=by
   rw[←Array.getElem?_toList,heq]
   simp
  have heq':ops.toList=(pre++ [o])++r:=by simp[heq]
  have next:∀(ρ':Rho) (fr1:Fr) (u1:Md) (st1:St) (a1:Act) (m1:FrameMode) (w1:World),ρ.le ρ'→MR N ρ' E.ro st1 W w1→FR ρ' fr1 a1→MdR ρ' u1 m1→evOpsD call E.P E.ro ops.toList r fr1 u1 st1= .ok (ex,fr',u',st')→wpOpsS E.P ops (ExS N ρ E.ro W c₀ rest ex fr' u' st') (List.range' (pre.length+1) r.length) a1 ({c₀ with mode:=m1} ::rest) w1:=by
   intro ρ' fr1 u1 st1 a1 m1 w1 hle h1 h2 h2' h3
   have:=ih (pre++ [o]) fr1 u1 st1 ρ' a1 m1 w1 ex fr' u' st' heq' h1 h2 (hg.mono hle) h2' h3
   rw[List.length_append,List.length_singleton]at this
   exact wpOpsS_mono (fun e a cs w h=>h.le hle) _ _ _ _ this
  simp only[List.length_cons,List.range'_succ]
  rw[wpOpsS,ho]
  simp only
  simp only[evOpsD]at h
  split at h
  ·cases h
  ·rename_i hgd
   have hw:=guardA_run hf (fun _ _ _ _ _ _ _=>id) hgd
   rw[if_neg (by rw[hw];exact Bool.false_ne_true)]
   obtain⟨fr1,h1,h⟩:=Rs.bind_ok h
   exact next ρ fr1 u st _ m w (Rho.le_refl _) hM (hf.put h1 undef_tup) hm h
  ·rename_i hgd
   have hw:=guardA_run hf (fun _ _ _ _ _ _ _=>id) hgd
   rw[if_pos hw]
   split at h
   ·rename_i hrec
    rw[recover_run hrec]
    simp only
    obtain⟨fr1,h1,h2⟩:=Rs.bind_ok h
    clear h
    cases u with
    |returning=>
     cases m<;>first|exact hm.elim|skip
     simp only[recoverD]
     exact next ρ fr1 .returning st _ .returning w (Rho.le_refl _) hM (hf.put h1 .nili) trivial h2
    |panicking ch=>
     cases m with
     |run=>exact hm.elim
     |returning=>exact hm.elim
     |panicking chain=>
      have hm:ChR ρ ch chain:=hm
      cases hm with
      |nil=>
       simp only[recoverD]
       exact next ρ fr1 (.panicking []) st _ (.panicking []) w (Rho.le_refl _) hM (hf.put h1 .nili) ChR.nil h2
      |cons v0 b q l m hv hr=>
       cases b with
       |true=>
        simp only[recoverD]
        exact next ρ fr1 (.panicking ((v0,true)::l)) st _ (.panicking _) w (Rho.le_refl _) hM (hf.put h1 .nili) (ChR.cons _ _ _ _ _ hv hr) h2
       |false=>
        simp only[recoverD]
        exact next ρ fr1 (.panicking ((v0,true)::l)) st _ (.panicking _) w (Rho.le_refl _) hM (hf.put h1 hv) (ChR.cons _ _ _ _ _ hv hr) h2
   ·suffices hup:o.wp E.P a w (fun a' w'=>wpOpsS E.P ops (ExS N ρ E.ro W c₀ rest ex fr' u' st') (List.range' (pre.length+1) r.length) a' ({c₀ with mode:=m} ::rest) w') (fun e a' w'=>ExS N ρ E.ro W c₀ rest ex fr' u' st' e a' ({c₀ with mode:=m} ::rest) w') by
     unfold Oper.wp at hup
     generalize(execOp a.eval o).run E.P w=r0 at hup⊢
     cases r0 with
     |ok n w'=>cases n<;>first|exact hup|exact hup.elim
     |halt x w'=>exact hup
    show o.wp E.P a w (fun a' w'=>wpOpsS E.P ops (ExS N ρ E.ro W c₀ rest ex fr' u' st') (List.range' (pre.length+1) r.length) a' ({c₀ with mode:=m} ::rest) w') (fun e a' w'=>ExS N ρ E.ro W c₀ rest ex fr' u' st' e a' ({c₀ with mode:=m} ::rest) w')
    split at h
    ·cases h
    all_goals rename_i hs
    ·refine step_wp hc hM hf (fun t _=>id) hg hs (fun v st1 e ρ' q w' h1 h2 h3=> ?_) (fun _ e=>by cases e) (fun _ e=>by cases e) (fun _ _ e=>by cases e) (fun _ e=>by cases e)
     cases e
     obtain⟨fr1,h4,h⟩:=Rs.bind_ok h
     exact next ρ' fr1 u _ _ m w' h1 h2 ((hf.mono h1).put h4 h3) (hm.mono h1) h
    ·refine step_wp hc hM hf (fun t _=>id) hg hs (fun v st1 e=>by cases e) (fun st1 e w' h1=> ?_) (fun _ e=>by cases e) (fun _ _ e=>by cases e) (fun _ e=>by cases e)
     cases e
     obtain⟨fr1,h4,h⟩:=Rs.bind_ok h
     exact next ρ fr1 u _ _ m w' (Rho.le_refl _) h1 (hf.put h4 undef_tup) hm h
    ·cases h
    ·refine step_wp hc hM hf (fun t _=>id) hg hs (fun v st1 e=>by cases e) (fun _ e=>by cases e) (fun _ e=>by cases e) (fun f args e=> ?_) (fun _ e=>by cases e)
     cases e
     split at h
     ·cases h
     ·rename_i v st1 hcall
      refine⟨_,_,hcall,fun ρ' w' h1 h2=>⟨fun v' q e hv=> ?_,fun ch chain e=>by cases e⟩⟩
      cases e
      obtain⟨fr1,h4,h⟩:=Rs.bind_ok h
      exact next ρ' fr1 u _ _ m w' h1 h2 ((hf.mono h1).put h4 hv) (hm.mono h1) h
     ·rename_i ch st1 hcall
      refine⟨_,_,hcall,fun ρ' w' h1 h2=>⟨(fun v' q e hv=>by cases e),fun ch chain e hch=> ?_⟩⟩
      cases e
      cases h
      exact⟨ρ',m,h1,h2,hf.mono h1,hm.mono h1,rfl,hch⟩
    ·refine step_wp hc hM hf (fun t _=>id) hg hs (fun v st1 e=>by cases e) (fun _ e=>by cases e) (fun _ e=>by cases e) (fun f args e=>by cases e) (fun v e q hv=> ?_)
     cases e
     cases h
     exact⟨ρ,m,Rho.le_refl _,hM,hf,hm,rfl,.cons _ _ _ _ _ hv .nil⟩
theorem plain_S {code:Code→Fr→St→Rs (Ex×Fr×St)}(hi:SCode E code){c:Code} {fr:Fr} {ex:Ex} {fr':Fr} {u:Md} {st':St}(h:code c fr st= .ok (ex,fr',st')){a:Act} {m:FrameMode} {c₀:Frame} {rest:List Frame}(hM:MR N ρ E.ro st W w) (hf:FR ρ fr a) (hg:Gl ρ E.gl) (hm:MdR ρ u m):
 c.wpS E.P (ExS N ρ E.ro W c₀ rest ex fr' u st') a ({c₀ with mode:=m} ::rest) w:=
 wpS_of_wp (wp_mono (hi.wp h hM hf hg) fun _ _ _ ⟨ρ',h1,h2,h3,h4⟩=>⟨ρ',m,h1,h2,h3,hm.mono h1,rfl,h4⟩)
theorem codeDBody_run (hF:Fit E){ih:Ev}(hi:SEv E ih):SCodeD E (codeDBody E ih):=by
 intro c fr u st ex fr' u' st' h N ρ W w a m c₀ rest hM hf hg hm
 have other:(match ih.code c fr st with| .ok (e,fr',st')=>Rs.ok (e,fr',u,st')| .bad w=> .bad w)= .ok (ex,fr',u',st')→c.wpS E.P (ExS N ρ E.ro W c₀ rest ex fr' u' st') a ({c₀ with mode:=m} ::rest) w:=by
  intro h
  split at h
  ·rename_i h1
   cases h
   exact plain_S hi.code h1 hM hf hg hm
  ·cases h
 cases c<;>simp only[codeDBody]at h<;>first
  |exact other h
  |skip
 case seq x y=>
  have hx:=fun ex1 fr1 u1 st1 (h1:ih.codeD x fr u st= .ok (ex1,fr1,u1,st1))=>hi.codeD x fr u st ex1 fr1 u1 st1 h1 N ρ W w a m c₀ rest hM hf hg hm
  split at h
  ·rename_i fr1 u1 st1 h1
   refine wpS_seq (wpS_mono (hx _ _ _ _ h1) fun e a1 cs1 w1 he=> ?_)
   obtain⟨ρ1,m1,h2,h3,h4,h5,rfl,h6⟩:=he
   cases e<;>first|exact h6.elim|skip
   exact wpS_mono (hi.codeD y fr1 u1 st1 ex fr' u' st' h N ρ1 W w1 a1 m1 c₀ rest h3 h4 (hg.mono h2) h5) fun _ _ _ _ hh=>ExS.le h2 hh
  ·rename_i r hne
   refine wpS_seq (wpS_mono (hx _ _ _ _ h) fun e a1 cs1 w1 he=> ?_)
   cases e<;>first
    |exact he
    |skip
   obtain⟨ρ1,m1,h2,h3,h4,h5,rfl,h6⟩:=he
   cases ex<;>first|exact h6.elim|skip
   exact absurd h (hne _ _ _)
 case cond x b c=>
  have hx:=hf.eval x (fun _ _=>id)
  split at h
  ·rename_i hb
   rw[hb]at hx
   exact wpS_cond hx.bool_inv (by simpa using hi.codeD _ _ _ _ _ _ _ _ h N ρ W w a m c₀ rest hM hf hg hm)
  ·rename_i hb
   rw[hb]at hx
   exact wpS_cond hx.bool_inv (by simpa using hi.codeD _ _ _ _ _ _ _ _ h N ρ W w a m c₀ rest hM hf hg hm)
  ·cases h
 case region id ops draw=>
  split at h
  ·have h1:=evOpsD_run (c₀:=c₀) (rest:=rest) hi.call ops.toList [] fr u st ρ a m w ex fr' u' st' rfl hM hf hg hm h
   refine wpS_region (Q:=ExS N ρ E.ro W c₀ rest ex fr' u' st') ?_
   have e:List.range' 0 ops.toList.length=List.range ops.size:=by rw[List.range_eq_range'];simp
   rw[←e]
   exact h1
  ·exact other h
theorem callDBody_run (hF:Fit E){ih:Ev}(hi:SEv E ih):SCallD E (callDBody E ih):=by
 intro f args u st en u' st' h N ρ W w vs m hM hg hv hm
 unfold callDBody at h
 split at h
 ·cases h
 split at h
 ·cases h
 rename_i fn hf
 split at h
 ·cases h
 rename_i c hb
 refine⟨enter_call hF hf hb vs w,callsD_of_wpS hf hb fun c₀ cs hc0=> ?_⟩
 have hfr:=enter_FR (E:=E) hg (fn:=fn) hv
 split at h
 ·cases h
 rename_i e fr u1 st1 h1
 have hc:c₀= {c₀ with mode:=m} :=by subst hc0;rfl
 have hS:=hi.codeD c _ u st e fr u1 st1 h1 N ρ W w _ m c₀ cs hM hfr hg hm
 rw[←hc]at hS
 refine wpS_mono hS fun e1 a1 cs1 w1 he=> ?_
 obtain⟨ρ1,m1,h2,h3,h4,h5,rfl,h6⟩:=he
 split at h
 case h_2=>cases h
 rename_i hds
 have hd:a1.defers= []:=by
  have:=h4.ds
  rw[hds]at this
  generalize a1.defers=d at this
  cases this;rfl
 split at h
 ·obtain⟨v,hv,h⟩:=Rs.bind_ok h
  cases h
  obtain⟨q,h7,h8⟩:=resA_run h3 (fun t=>h4.get t id) hv
  cases e1<;>first|exact h6.elim|skip
  exact⟨hd,m1,rfl,q,h7,ρ1,h2,h3,h5,h8⟩
 ·obtain⟨v,hv,h⟩:=Rs.bind_ok h
  cases h
  obtain⟨q,h7,h8⟩:=resA_run h3 (fun t=>h4.get t id) hv
  cases e1<;>first|exact h6.elim|skip
  exact⟨hd,m1,rfl,q,h7,ρ1,h2,h3,h5,h8⟩
 ·cases h
  cases e1<;>first|exact h6.elim|skip
  exact⟨hd,m1,rfl,ρ1,h2,h3,h5,h6⟩
 ·cases h
theorem ev_sound (hF:Fit E):∀n,SEv E (ev E n)
 |0=>⟨(fun _ _ _ _ _ _ h=>by cases h),(fun _ _ _ _ _ h=>by cases h),(fun _ _ _ _ _ _ _ _ h=>by cases h),(fun _ _ _ _ _ _ _ h=>by cases h)⟩
 |n+1=>⟨codeBody_run hF (ev_sound hF n),callBody_run hF (ev_sound hF n),codeDBody_run hF (ev_sound hF n),callDBody_run hF (ev_sound hF n)⟩
end
theorem nbeq {a b:Nat}(h:a=b):Nat.beq a b=true:=by subst h;exact Nat.beq_refl a
theorem bit_iff (m i:Nat):bit m i=m.testBit i:=by
 unfold bit
 rw[Nat.testBit_eq_decide_div_mod_eq]
 by_cases h:m/2^i %2=1
 ·rw[decide_eq_true h]
  exact nbeq h
 ·rw[decide_eq_false h]
  cases hb:Nat.beq (Nat.mod (Nat.div m (Nat.pow 2 i)) 2) 1 with
  |false=>rfl
  |true=>exact absurd (Nat.eq_of_beq_eq_true hb) h
theorem bit_lor (a b i:Nat):bit (Nat.lor a b) i=(bit a i||bit b i):=by
 rw[bit_iff,bit_iff,bit_iff]
 exact Nat.testBit_or a b i
theorem bit_pow (k i:Nat):bit (Nat.pow 2 k) i=decide (k=i):=by
 rw[bit_iff]
 exact Nat.testBit_two_pow
theorem bit_zero (i:Nat):bit 0 i=false:=by rw[bit_iff];exact Nat.zero_testBit i
theorem inside_true {a b:Nat}(h:inside a b=true){i:Nat}(hi:bit a i=true):bit b i=true:=by
 have h:=beq_true h
 rw[←h,bit_lor,hi];rfl
theorem inside_of {a b:Nat}(h:∀i,bit a i=true→bit b i=true):inside a b=true:=by
 unfold inside
 have:Nat.lor a b=b:=by
  apply Nat.eq_of_testBit_eq
  intro i
  rw[←bit_iff,←bit_iff,bit_lor]
  cases ha:bit a i with
  |false=>rfl
  |true=>rw[h i ha];rfl
 rw[this]
 exact nbeq rfl
inductive Dep (ops:Array Oper):Nat→Nat→Prop where
 |one (i j:Nat) (o:Oper) (e:Edge) (ho:ops[i]? =some o) (he:e∈o.after.toList) (hb:Region.binds .any e=true) (hj:j=e.on):Dep ops i j
 |far (i j k:Nat) (o:Oper) (e:Edge) (ho:ops[i]? =some o) (he:e∈o.after.toList) (hb:Region.binds .any e=true) (hj:j=e.on) (h:Dep ops j k):Dep ops i k
theorem edgeMask_spec {m:PT Nat} :∀{l:List Edge} {a b:Nat},edgeMask l m a= .ok b→(∀e∈l,Region.binds .any e=true→∃x,m.get e.on=some x)∧
 ∀j,bit b j=true→bit a j=true∨∃e∈l,Region.binds .any e=true∧(j=e.on∨∃x,m.get e.on=some x∧bit x j=true)
 | [],a,b,h=>by cases h;exact⟨(fun _ h=>by cases h),fun j h=> .inl h⟩
 |e::r,a,b,h=>by
  simp only[edgeMask]at h
  split at h
  ·rename_i hb
   obtain⟨h1,h2⟩:=edgeMask_spec h
   refine⟨fun e' he' hb'=> ?_,fun j hj=> ?_⟩
   ·rcases List.mem_cons.1 he' with rfl|he'
    ·rw[hb]at hb';cases hb'
    ·exact h1 e' he' hb'
   ·rcases h2 j hj with h3|⟨e',h3,h4⟩
    ·exact .inl h3
    ·exact .inr ⟨e',List.mem_cons_of_mem _ h3,h4⟩
  ·rename_i hb
   split at h
   ·rename_i x hx
    obtain⟨h1,h2⟩:=edgeMask_spec h
    refine⟨fun e' he' hb'=> ?_,fun j hj=> ?_⟩
    ·rcases List.mem_cons.1 he' with rfl|he'
     ·exact⟨x,hx⟩
     ·exact h1 e' he' hb'
    ·rcases h2 j hj with h3|⟨e',h3,h4⟩
     ·rw[bit_lor,bit_lor,bit_pow]at h3
      simp only[Bool.or_eq_true,decide_eq_true_eq]at h3
      rcases h3 with h3|h3|h3
      ·exact .inl h3
      ·exact .inr ⟨e,List.mem_cons_self,hb,.inr ⟨x,hx,h3⟩⟩
      ·exact .inr ⟨e,List.mem_cons_self,hb,.inl h3.symm⟩
     ·exact .inr ⟨e',List.mem_cons_of_mem _ h3,h4⟩
   ·cases h
structure MK (ops:Array Oper) (ms:PT Nat):Prop where
 back:∀(i:Nat) (o:Oper),ops[i]? =some o→∀e∈o.after.toList,Region.binds .any e=true→e.on<i
 dep:∀i m,ms.get i=some m→∀j,bit m j=true→Dep ops i j
theorem masksOf_spec {ops:Array Oper} :∀{l pre:List Oper} {m ms:PT Nat},ops.toList=pre++l→(∀(i:Nat) (o:Oper),i<pre.length→ops[i]? =some o→∀e∈o.after.toList,Region.binds .any e=true→e.on<i)→
 (∀i x,m.get i=some x→i<pre.length)→(∀i x,m.get i=some x→∀j,bit x j=true→Dep ops i j)→masksOf l pre.length m= .ok ms→MK ops ms
 | [],pre,m,ms,heq,h1,h2,h3,h=>by
  cases h
  refine⟨fun i o ho=>h1 i o ?_ ho,h3⟩
  have:=(Array.getElem?_eq_some_iff.1 ho).1
  have hl:ops.size=pre.length:=by have:=congrArg List.length heq;simpa using this
  omega
 |o::r,pre,m,ms,heq,h1,h2,h3,h=>by
  simp only[masksOf]at h
  obtain⟨x,hx,h⟩:=Rs.bind_ok h
  have ho:ops[pre.length]? =some o:=by
   rw[←Array.getElem?_toList,heq]
   simp
  obtain⟨e1,e2⟩:=edgeMask_spec hx
  refine masksOf_spec (l:=r) (pre:=pre++ [o]) (by simp[heq]) (fun i o' hi ho' e he hb=> ?_) (fun i y hy=> ?_) (fun i y hy j hj=> ?_) (by rw[List.length_append,List.length_singleton];exact h)
  ·rw[List.length_append,List.length_singleton]at hi
   rcases Nat.lt_or_ge i pre.length with h4|h4
   ·exact h1 i o' h4 ho' e he hb
   ·have:i=pre.length:=by omega
    subst this
    rw[ho]at ho';cases ho'
    obtain⟨y,hy⟩:=e1 e he hb
    exact h2 _ _ hy
  ·rw[List.length_append,List.length_singleton]
   rcases PT.get_set hy with⟨rfl,_⟩|⟨_,h5⟩
   ·omega
   ·have:=h2 _ _ h5;omega
  ·rcases PT.get_set hy with⟨rfl,rfl⟩|⟨_,h5⟩
   ·rcases e2 j hj with h6|⟨e,he,hb,h6⟩
    ·rw[bit_zero]at h6;cases h6
    ·rcases h6 with h6|⟨y,h6,h7⟩
     ·exact .one _ _ o e ho he hb h6
     ·exact .far _ _ _ o e ho he hb rfl (h3 _ _ h6 _ h7)
   ·exact h3 _ _ h5 _ hj
structure AP (P:Program) (ops:Array Oper) (ms:PT Nat):Prop where
 self:∀(i:Nat) (o:Oper) d,ops[i]? =some o→o.dst=some d→d∉looksAtA ops.toList o
 dst:∀(i j:Nat) (o o':Oper) d,i≠j→ops[i]? =some o→ops[j]? =some o'→quietOp P o.op=true→o.dst=some d→o'.dst≠some d
 look:∀(i j:Nat) (o o':Oper) d,i≠j→ops[i]? =some o→ops[j]? =some o'→o'.dst=some d→d∈looksAtA ops.toList o→Dep ops i j∨quietOp P o'.op=false
theorem apartA_spec {P:Program} {ms:PT Nat} {i:Nat} {q:Bool} {dst:Option Nat} {looks:List Nat} :∀{l:List Oper} {k:Nat},apartA P ms i q dst looks l k=true→∀(p:Nat) (o:Oper),l[p]? =some o→∀d,o.dst=some d→
 (i=k+p→d∉looks)∧(i≠k+p→(q=true→dst≠some d)∧(d∈looks→(∃m,ms.get i=some m∧bit m (k+p)=true)∨quietOp P o.op=false))
 | [],k,h,p,o,ho,d,hd=>by simp at ho
 |o1::r,k,h,p,o,ho,d,hd=>by
  simp only[apartA,Bool.and_eq_true]at h
  obtain⟨h1,h2⟩:=h
  cases p with
  |succ p=>
   have:=apartA_spec h2 p o (by simpa using ho) d hd
   rw[show k+(p+1)=Nat.succ k+p from by omega]
   exact this
  |zero=>
   simp only[List.getElem?_cons_zero,Option.some.injEq]at ho
   subst ho
   rw[hd]at h1
   refine⟨fun e=> ?_,fun ne=> ?_⟩
   ·have:Nat.beq i k=true:=by rw[e];exact nbeq rfl
    rw[this]at h1
    simp only[Bool.not_eq_true']at h1
    intro hm
    rw[List.contains_iff_mem.2 hm]at h1
    cases h1
   ·have hb:Nat.beq i k=false:=by
     cases hb:Nat.beq i k with
     |false=>rfl
     |true=>exact absurd (beq_true hb) ne
    rw[hb]at h1
    simp only[Bool.and_eq_true]at h1
    obtain⟨h3,h4⟩:=h1
    refine⟨fun hq hdst=> ?_,fun hm=> ?_⟩
    ·subst hq
     rw[hdst]at h3
     simp only[Bool.not_eq_true']at h3
     exact beq_false h3 rfl
    ·rw[List.contains_iff_mem.2 hm]at h4
     simp only at h4
     split at h4
     ·rename_i mi mj hmi hmj
      simp only[Bool.or_eq_true,Bool.and_eq_true,Bool.not_eq_true']at h4
      rcases h4 with h4|⟨h4,_⟩
      ·exact .inl ⟨mi,hmi,h4⟩
      ·exact .inr h4
     ·cases h4
theorem allApart_spec {P:Program} {ms:PT Nat} {all:List Oper} :∀{l:List Oper} {k:Nat},allApart P ms all l k=true→∀(p:Nat) (o:Oper),l[p]? =some o→apartA P ms (k+p) (quietOp P o.op) o.dst (looksAtA all o) all 0=true
 | [],k,h,p,o,ho=>by simp at ho
 |o1::r,k,h,p,o,ho=>by
  simp only[allApart,Bool.and_eq_true]at h
  cases p with
  |zero=>
   simp only[List.getElem?_cons_zero,Option.some.injEq]at ho
   subst ho
   exact h.1
  |succ p=>
   have:=allApart_spec h.2 p o (by simpa using ho)
   rw[show k+(p+1)=Nat.succ k+p from by omega]
   exact this
theorem AP.of {P:Program} {ops:Array Oper} {ms:PT Nat}(hk:MK ops ms) (h:allApart P ms ops.toList ops.toList 0=true):AP P ops ms:=by
 have key:∀(i j:Nat) (o o':Oper) d,ops[i]? =some o→ops[j]? =some o'→o'.dst=some d→(i=j→d∉looksAtA ops.toList o)∧(i≠j→(quietOp P o.op=true→o.dst≠some d)∧(d∈looksAtA ops.toList o→(∃m,ms.get i=some m∧bit m j=true)∨quietOp P o'.op=false)):=by
  intro i j o o' d hi hj hd
  have h1:=allApart_spec h i o (by simpa using hi)
  rw[Nat.zero_add]at h1
  have h2:=apartA_spec h1 j o' (by simpa using hj) d hd
  rw[Nat.zero_add]at h2
  exact h2
 refine⟨fun i o d hi hd=>(key i i o o d hi hi hd).1 rfl,fun i j o o' d hne hi hj hq hd hd'=> ?_,fun i j o o' d hne hi hj hd hm=> ?_⟩
 ·exact((key i j o o' d hi hj hd').2 hne).1 hq hd
 ·rcases((key i j o o' d hi hj hd).2 hne).2 hm with⟨m,h1,h2⟩|h1
  ·exact .inl (hk.dep i m h1 j h2)
  ·exact .inr h1
theorem eqBytes_eq {a b:List UInt8}(h:eqBytes a b=true):a=b:=by
 rw[eqBytes_iff]at h
 exact eq_of_beq h
theorem eqCap_eq {a b:Cap}(h:eqCap a b=true):a=b:=by
 cases a<;>cases b<;>simp only[eqCap]at h<;>first|(cases h;done)|(rw[beq_true h])
theorem eqAVs_eq {f:AV→AV→Bool}(hf:∀a b,f a b=true→a=b):∀{a b:List AV},eqAVs f a b=true→a=b
 | [],[],_=>rfl
 | [],_::_,h=>by cases h
 |_::_,[],h=>by cases h
 |x::r,y::s,h=>by
  simp only[eqAVs]at h
  split at h
  ·rename_i h1
   rw[hf x y h1,eqAVs_eq hf h]
  ·cases h
theorem same_eq:∀(n:Nat) (a b:AV),AV.same n a b=true→a=b
 |0,a,b,h=>by cases h
 |n+1,a,b,h=>by
  have ih:=same_eq n
  cases a<;>cases b<;>simp only[AV.same]at h<;>first
   |rfl
   | (exact Bool.noConfusion h)
   |skip
  all_goals (try simp only[Bool.and_eq_true,decide_eq_true_eq,beq_iff_eq]at h)
  ·rw[h]
  ·rw[h.1,h.2]
  ·rw[h.1,beq_true h.2]
  ·rw[eqBytes_eq h]
  ·rw[beq_true h.1,beq_true h.2]
  ·rw[beq_true h.1.1.1,beq_true h.1.1.2,beq_true h.1.2,eqCap_eq h.2]
  ·rw[beq_true h]
  ·rw[beq_true h.1.1,eqAVs_eq ih h.1.2,eqAVs_eq ih h.2]
  ·rw[beq_true h.1,ih _ _ h.2]
  ·rw[eqAVs_eq ih h]
  ·rw[eqAVs_eq ih h]
theorem eqPT_eq:∀{t u:PT AV},eqPT t u=true→t=u
 | .nil,.nil,_=>rfl
 | .nil,.node _ _ _,h=>by cases h
 | .node _ _ _,.nil,h=>by cases h
 | .node l v r,.node l' v' r',h=>by
  simp only[eqPT,Bool.and_eq_true]at h
  obtain⟨⟨h1,h2⟩,h3⟩:=h
  rw[eqPT_eq h2,eqPT_eq h3]
  congr 1
  cases v<;>cases v'<;>first|rfl|(exact Bool.noConfusion h1)|(rw[same_eq _ _ _ h1])
theorem eqOb_eq {a b:Ob}(h:eqOb a b=true):a=b:=by
 cases a<;>cases b<;>simp only[eqOb]at h<;>first|(cases h;done)|skip
 simp only[Bool.and_eq_true]at h
 obtain⟨⟨⟨⟨⟨h1,h2⟩,h3⟩,h4⟩,h5⟩,h6⟩:=h
 rw[eqPT_eq h1,beq_true h2,beq_true h3,beq_true h4,beq_true h5,beq_true h6]
section
variable {P:Program} {ms:PT Nat} {all:List Oper} {fr:Fr} {st:St} {al:List (Nat×Nat)} {done forced:Nat}
theorem chkAll_spec:∀{l:List Oper} {k:Nat},chkAll P ms all fr st al done forced l k=true→∀(p:Nat) (o:Oper),l[p]? =some o→quietOp P o.op=true→
 (bit done (k+p)=true→bit forced (k+p)=false→chkOne P all fr st al (k+p) o=true)∧(bit done (k+p)=false→∃m,ms.get (k+p)=some m∧inside m done=false)
 | [],k,h,p,o,ho,hq=>by simp at ho
 |o1::r,k,h,p,o,ho,hq=>by
  simp only[chkAll]at h
  split at h
  case h_2=>cases h
  rename_i h1
  cases p with
  |succ p=>
   have:=chkAll_spec h p o (by simpa using ho) hq
   rw[show k+(p+1)=Nat.succ k+p from by omega]
   exact this
  |zero=>
   simp only[List.getElem?_cons_zero,Option.some.injEq]at ho
   subst ho
   rw[hq]at h1
   rw[Nat.add_zero]
   refine⟨fun hd hf=> ?_,fun hd=> ?_⟩
   ·rw[hd]at h1
    simp only[hf]at h1
    exact h1
   ·rw[hd]at h1
    simp only at h1
    split at h1
    ·rename_i m hm
     exact⟨m,hm,by simpa using h1⟩
    ·cases h1
theorem othersAfter_spec {i:Nat} :∀{l:List Oper} {k:Nat},othersAfter P ms done i l k=true→∀(p:Nat) (o:Oper),l[p]? =some o→quietOp P o.op=false→bit done (k+p)=false→k+p≠i→∃m,ms.get (k+p)=some m∧bit m i=true
 | [],k,h,p,o,ho,hq,hd,hne=>by simp at ho
 |o1::r,k,h,p,o,ho,hq,hd,hne=>by
  simp only[othersAfter]at h
  split at h
  case h_2=>cases h
  rename_i h1
  cases p with
  |succ p=>
   have e:k+(p+1)=Nat.succ k+p:=by omega
   rw[e]at hd hne⊢
   exact othersAfter_spec h p o (by simpa using ho) hq hd hne
  |zero=>
   simp only[List.getElem?_cons_zero,Option.some.injEq]at ho
   subst ho
   rw[Nat.add_zero]at hd hne⊢
   have hb:Nat.beq i k=false:=by
    cases hb:Nat.beq i k with
    |false=>rfl
    |true=>exact absurd (beq_true hb).symm hne
   rw[hd,hq,hb]at h1
   simp only at h1
   split at h1
   ·rename_i m hm
    exact⟨m,hm,h1⟩
   ·cases h1
theorem nextLoud_none:∀{l:List Oper} {k:Nat},nextLoud P done l k=none→∀(p:Nat) (o:Oper),l[p]? =some o→quietOp P o.op=false→bit done (k+p)=true
 | [],k,h,p,o,ho,hq=>by simp at ho
 |o1::r,k,h,p,o,ho,hq=>by
  simp only[nextLoud]at h
  split at h
  ·cases h
  ·rename_i hne
   cases p with
   |succ p=>
    have:=nextLoud_none h p o (by simpa using ho) hq
    rw[show k+(p+1)=Nat.succ k+p from by omega]
    exact this
   |zero=>
    simp only[List.getElem?_cons_zero,Option.some.injEq]at ho
    subst ho
    rw[Nat.add_zero]
    cases hd:bit done k with
    |true=>rfl
    |false=>exact absurd hq (hne hd)
theorem nextLoud_some {i:Nat} {o:Oper} :∀{l:List Oper} {k:Nat},nextLoud P done l k=some (i,o)→∃p,i=k+p∧l[p]? =some o∧quietOp P o.op=false∧bit done i=false
 | [],k,h=>by cases h
 |o1::r,k,h=>by
  simp only[nextLoud]at h
  split at h
  ·rename_i hd hq
   cases h
   exact⟨0,rfl,rfl,hq,hd⟩
  ·obtain⟨p,h1,h2,h3,h4⟩:=nextLoud_some h
   exact⟨p+1,by omega,by simpa using h2,h3,h4⟩
end
end Go.Proofs.YtpjcdbjablijkaaGreatDoor.Ab
