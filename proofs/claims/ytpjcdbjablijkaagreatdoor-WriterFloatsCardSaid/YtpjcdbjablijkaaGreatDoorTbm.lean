import Derived.Test.YtpjcdbjablijkaaGreatDoorTaj
import Derived.Test.YtpjcdbjablijkaaGreatDoorTba
import Derived.OpenShut
import Derived.ChangeBears2
import Derived.Test.YtpjcdbjablijkaaGreatDoorTbl
import Derived.Test.YtpjcdbjablijkaaGreatDoorTaz
import Derived.Test.YtpjcdbjablijkaaGreatDoorTaa
set_option maxRecDepth 1000000
set_option maxHeartbeats 40000000
section
namespace Go.Proofs
open Go.RowKit Go.Pf Go.Lib
open Go.Proofs.YtpjcdbjablijkaaGreatDoor
section
variable {H:Type} {enc:TypeId×Value→H} {P:Program} {w:World} {base:Nat} {sp:Nat→Bool} {held:Bool} {fuel:Nat} {t:TypeId} {cs:List Value}
theorem trod_float {k:FloatKind} {x:DataW H×List MemPlace}(ht:P.underlying t=some (.float k)) (h:DataW.trod enc P w base sp held fuel t cs=some x):∃b,cs= [.float k b]∧x=(.lit (.float k b),[]):=by
 cases fuel with
 |zero=>simp[DataW.trod]at h
 |succ n=>
  unfold DataW.trod at h
  rw[ht]at h
  split at h<;>simp_all
theorem trod_iface {n:String} {d:DataW H} {p:List MemPlace}(ht:∃y,P.underlying t=some (.interface y)) (h:DataW.trod enc P w base sp held fuel t cs=some (.iface n d,p)):∃u v,cs= [.iface u v]:=by
 obtain⟨y,ht⟩:=ht
 cases fuel with
 |zero=>simp[DataW.trod]at h
 |succ n=>
  unfold DataW.trod at h
  rw[ht]at h
  split at h<;>simp_all
theorem slice_rd {e:TypeId} {l r:List (DataW H)} {p:List MemPlace}(ht:P.underlying t=some (.slice e)) (h:DataW.trod enc P w base sp held fuel t cs=some (.slice l r,p)):
 ∃(a:Addr) (cap n:Nat),cs= [.slice (some a) l.length cap]∧∀(i:Nat) (d:DataW H),l[i]? =some d→∃es q,w.cells? base (a.add (i*P.cellsOf e)) (P.cellsOf e)=some es∧DataW.trod enc P w base sp held n e es=some (d,q):=by
 rcases DataW.trod_slice ht h with⟨_,hx⟩|⟨a,len,cap,elems,rest,n,_,hcs,hx,_,_,_,hl,hel,_⟩
 ·cases hx
 ·have h1:l=elems.map (·.1):=by have:=congrArg Prod.fst hx;simp at this;exact this.1
  have h2:l.length=len:=by rw[h1,List.length_map,hl]
  refine⟨a,cap,n,by rw[h2];exact hcs,fun i d hi=> ?_⟩
  have hi2:i<len:=by
   rcases Nat.lt_or_ge i l.length with h3|h3
   ·omega
   ·rw[List.getElem?_eq_none h3]at hi;cases hi
  have h4:=hel i hi2
  rw[h1,List.getElem?_map]at hi
  cases he:elems[i]?with
  |none=>rw[he]at hi;cases hi
  |some y=>
   rw[he]at hi h4
   simp only[Option.map_some,Option.some.injEq]at hi
   obtain⟨es,h5,h6⟩:=Option.bind_eq_some_iff.1 h4
   exact⟨es,y.2,h5,by rw[h6,←hi]⟩
theorem struct_rd {fs:Array Field} {l:List (DataW H)} {p:List MemPlace}(ht:P.underlying t=some (.struct fs)) (h:DataW.trod enc P w base sp held fuel t cs=some (.agg l,p)):
 ∃n,∀(i:Nat) (f:Field) (d:DataW H),fs[i]? =some f→l[i]? =some d→∃q,DataW.trod enc P w base sp held n f.type ((cs.drop f.offset).take (P.cellsOf f.type))=some (d,q):=by
 obtain⟨xs,n,_,hx,_,_,hf⟩:=DataW.trod_struct ht h
 have h1:l=xs.map (·.1):=by have:=congrArg Prod.fst hx;simpa using this
 refine⟨n,fun i f d h2 h3=> ?_⟩
 have h4:=hf i f h2
 rw[h1,List.getElem?_map]at h3
 cases he:xs[i]?with
 |none=>rw[he]at h3;cases h3
 |some y=>
  rw[he]at h3 h4
  simp only[Option.map_some,Option.some.injEq]at h3
  exact⟨y.2,by rw[h4,←h3]⟩
theorem array_rd {m:Nat} {e:TypeId} {l:List (DataW H)} {p:List MemPlace}(ht:P.underlying t=some (.array m e)) (h:DataW.trod enc P w base sp held fuel t cs=some (.agg l,p)):
 ∃n,∀(i:Nat) (d:DataW H),i<m→l[i]? =some d→∃q,DataW.trod enc P w base sp held n e ((cs.drop (i*P.cellsOf e)).take (P.cellsOf e))=some (d,q):=by
 obtain⟨xs,n,_,hx,_,_,hf⟩:=DataW.trod_array ht h
 have h1:l=xs.map (·.1):=by have:=congrArg Prod.fst hx;simpa using this
 refine⟨n,fun i d h2 h3=> ?_⟩
 have h4:=hf i h2
 rw[h1,List.getElem?_map]at h3
 cases he:xs[i]?with
 |none=>rw[he]at h3;cases h3
 |some y=>
  rw[he]at h3 h4
  simp only[Option.map_some,Option.some.injEq]at h3
  exact⟨y.2,by rw[h4,←h3]⟩
end
theorem cells_at {w:World} {g o n:Nat} {es:List Value} {i:Nat} {v:Value}(h:w.cells? 0 ⟨g,o,none⟩ n=some es) (hv:es[i]? =some v):w.cell? ⟨g,o+i,none⟩=some v:=by
 obtain⟨_,hl,hc⟩:=World.cells?_some h
 have hi:i<n:=by
  rcases Nat.lt_or_ge i es.length with h3|h3
  ·omega
  ·rw[List.getElem?_eq_none h3]at hv;cases hv
 rw[←hv,←hc i hi]
 unfold Addr.add
 split
 ·rename_i h0;subst h0;rfl
 ·rfl
theorem take_one {cs:List Value} {k:Nat} {v:Value}(h:(cs.drop k).take 1= [v]):cs[k]? =some v:=by
 have:=congrArg (·[0]?) h
 simpa[List.getElem?_take,List.getElem?_drop]using this
section
variable {P:Program} {W0:World}
def globOk (P:Program) (n:String) (g t:Nat):Bool:=match P.globalNamed n with|some g'=>Nat.beq g' g&&(match(P.globals[g]?).map (·.type)with|some t'=>Nat.beq t' t|none=>false)|none=>false
theorem reads_at0 {L:List (String×DataW Unit)}(h1:laidMet P L W0){i:Nat} {n:String} {d:DataW Unit} {g t:Nat}(hl:L[i]? =some (n,d)) (hg:globOk P n g t=true):
 ∃(cs:Array Value) (fuel:Nat) (p:List MemPlace),(∀off,W0.cell? ⟨g,off,none⟩=cs[off]?)∧DataW.trod (fun _=>()) P W0 0 (fun _=>true) false fuel t cs.toList=some (d,p):=by
 obtain⟨g',t',cs,fuel,p,hgn,hty,hvar,hd⟩:=Lib.laidMet.reads h1 (List.mem_of_getElem? hl)
 unfold globOk at hg
 rw[hgn]at hg
 simp only[Bool.and_eq_true]at hg
 obtain⟨e1,e2⟩:=hg
 obtain rfl:=Nat.eq_of_beq_eq_true e1
 rw[hty]at e2
 obtain rfl:=Nat.eq_of_beq_eq_true e2
 exact⟨cs,fuel,p,fun off=>World.var?_cell hgn hvar off,hd⟩
def rowIs (P:Program) (g t:Nat):Bool:=Nat.ble (g+1) P.globals.size&&P.buildable t&&(match((begin P (fun _ _=>0) default).world.heap[g]?).bind Obj.row? with|some (z,t')=>Nat.beq t' t&&Nat.beq z.size 1|none=>false)
theorem spot_at0 (h:W0.ShapedOpen P){g t e:Nat}(hr:rowIs P g t=true) (hc:P.cellTypes P.depth t=some [t]) (hu:P.underlying t=some (.slice e)){a:Addr} {len cap:Nat}(ha:W0.cell? ⟨g,0,none⟩=some (.slice (some a) len cap)):a.spot=none:=by
 unfold rowIs at hr
 simp only[Bool.and_eq_true]at hr
 obtain⟨⟨hg,hb⟩,h0⟩:=hr
 split at h0
 ·rename_i z t' hz
  simp only[Bool.and_eq_true]at h0
  obtain rfl:=Nat.eq_of_beq_eq_true h0.1
  obtain⟨cs,hh,hs,hrow⟩:=h.1 g z _ (Nat.le_of_ble_eq_true hg) hz
  obtain⟨ts,hts,_,hall⟩:=hrow hb
  rw[hc]at hts
  cases hts
  have hv:cs[0]? =some (.slice (some a) len cap):=by
   rw[←ha]
   simp[World.cell?,hh]
  obtain⟨u,hu',hok⟩:=hall 0 _ hv
  simp only[List.length_cons,List.length_nil,Nat.zero_add,Nat.zero_mod,List.getElem?_cons_zero,Option.some.injEq]at hu'
  subst hu'
  unfold Cell.ok at hok
  rw[hu]at hok
  exact hok.2.2.2.1
 ·cases h0
end
theorem add_none (b o n:Nat):(⟨b,o,none⟩:Addr).add n=⟨b,o+n,none⟩:=by
 unfold Addr.add
 split
 ·rename_i h0;subst h0;rfl
 ·rfl
theorem reads_at {W0:World}(h1:laidMet Tryz.prog Rows.writerFloatsRow.laid W0){i:Nat} {n:String} {d:DataW Unit} {g t:Nat}(hl:Rows.writerFloatsRow.laid[i]? =some (n,d)) (hg:globOk Tryz.prog n g t=true):
 ∃(cs:Array Value) (fuel:Nat) (p:List MemPlace),(∀off,W0.cell? ⟨g,off,none⟩=cs[off]?)∧DataW.trod (fun _=>()) Tryz.prog W0 0 (fun _=>true) false fuel t cs.toList=some (d,p):=reads_at0 h1 hl hg
def Laid1 (W:World):Prop:=∃W0:World,laidMet Tryz.prog Rows.writerFloatsRow.laid W0∧W0.ShapedOpen Tryz.prog∧Below W0.heap.size W0 W
theorem Laid1.below {W W':World}(h:Laid1 W) (hb:Below W.heap.size W W'):Laid1 W':=by
 obtain⟨W0,h1,h2,h3⟩:=h
 exact⟨W0,h1,h2,h3.trans (hb.mono h3.size)⟩
theorem Laid1.of {W:World}(h1:laidMet Tryz.prog Rows.writerFloatsRow.laid W) (h2:W.ShapedOpen Tryz.prog):Laid1 W:=⟨W,h1,h2,Below.refl _ _⟩
theorem Laid1.zero {W:World}(h:Laid1 W):Laid0 W:=by
 obtain⟨W0,h1,h2,h3⟩:=h
 exact(Laid0.of h1 h2).below h3
theorem laid_3:Rows.writerFloatsRow.laid[3]? =some ("internal/strconv.float64info",.agg [.lit (.int .u64 52),.lit (.int .u64 11),.lit (.int .i64 (-1023))]):=by kernel_rfl
theorem laid_4:Rows.writerFloatsRow.laid[4]? =some ("internal/strconv.optimize",.lit (.bool true)):=by kernel_rfl
theorem laid_6:Rows.writerFloatsRow.laid[6]? =some ("internal/strconv.float64pow10",.slice ((List.range 23).map fun i=> .lit (.float .f64 (pt10 i))) []):=by kernel_rfl
theorem laid_10:∃n d,Rows.writerFloatsRow.laid[10]? =some ("strconv.ErrRange",.iface n d):=by
 have h:(match Rows.writerFloatsRow.laid[10]?with|some (s,.iface _ _)=>s== "strconv.ErrRange" |_=>false)=true:=by kernel_rfl
 split at h
 ·rename_i s n d hl
  exact⟨n,d,by rw[hl,eq_of_beq h]⟩
 ·cases h
theorem laid_13:Rows.writerFloatsRow.laid[15]? =some ("internal/strconv.pow10Tab",.agg ((List.range 696).map fun i=> .agg [.lit (.int .u64 (powHi i:Nat)),.lit (.int .u64 (powLo i:Nat))])):=by kernel_rfl
theorem opt_at {W0:World}(h1:laidMet Tryz.prog Rows.writerFloatsRow.laid W0):W0.cell? ⟨4,0,none⟩=some (.bool true):=by
 obtain⟨cs,fuel,p,hc,hd⟩:=reads_at h1 laid_4 (g:=4) (t:=4) (by kernel_rfl)
 obtain⟨b,hb,hx⟩:=DataW.trod_bool Tryz.underlying4 hd
 simp only[Prod.mk.injEq,DataW.lit.injEq,Lit.bool.injEq]at hx
 rw[hc 0,←Array.getElem?_toList,hb,←hx.1]
 rfl
theorem err_at6 {W0:World}(h1:laidMet Tryz.prog Rows.writerFloatsRow.laid W0):∃te pe,W0.cell? ⟨8,0,none⟩=some (.iface te pe):=by
 obtain⟨n,d,hl⟩:=laid_10
 obtain⟨cs,fuel,p,hc,hd⟩:=reads_at h1 hl (g:=8) (t:=37) (by kernel_rfl)
 obtain⟨u,v,hb⟩:=trod_iface ⟨_,Tryz.underlying37⟩ hd
 exact⟨u,v,by rw[hc 0,←Array.getElem?_toList,hb];rfl⟩
theorem c72:Tryz.prog.cellsOf 51=1:=by kernel_rfl
theorem c3:Tryz.prog.cellsOf 3=1:=by kernel_rfl
theorem fields190:∃f0 f1 f2:Field,Tryz.prog.underlying 304=some (.struct #[f0,f1,f2])∧(f0.type=51∧f0.offset=0)∧(f1.type=51∧f1.offset=1)∧(f2.type=3∧f2.offset=2):=⟨_,_,_,Tryz.underlying304,⟨rfl,rfl⟩,⟨rfl,rfl⟩,⟨rfl,rfl⟩⟩
theorem int_one {w:World} {fuel k:Nat} {t:TypeId} {kd:IntKind} {z:Int} {cs:List Value} {q:List MemPlace}(ht:Tryz.prog.underlying t=some (.int kd)) (hc:Tryz.prog.cellsOf t=1)
 (h:DataW.trod (fun _=>()) Tryz.prog w 0 (fun _=>true) false fuel t ((cs.drop k).take (Tryz.prog.cellsOf t))=some (.lit (.int kd z),q)):cs[k]? =some (.int kd z):=by
 obtain⟨n,h1,h2,_⟩:=DataW.trod_int ht h
 simp only[Prod.mk.injEq,DataW.lit.injEq,Lit.int.injEq,true_and]at h2
 rw[hc]at h1
 rw[take_one h1,←h2.1]
theorem inf_at {W0:World}(h1:laidMet Tryz.prog Rows.writerFloatsRow.laid W0):W0.cell? ⟨16,0,none⟩=some (.int .u64 52)∧W0.cell? ⟨16,1,none⟩=some (.int .u64 11)∧W0.cell? ⟨16,2,none⟩=some (.int .i64 (-1023)):=by
 obtain⟨cs,fuel,p,hc,hd⟩:=reads_at h1 laid_3 (g:=16) (t:=304) (by kernel_rfl)
 obtain⟨f0,f1,f2,hu,⟨t0,o0⟩,⟨t1,o1⟩,⟨t2,o2⟩⟩:=fields190
 obtain⟨n,hf⟩:=struct_rd hu hd
 obtain⟨_,e0⟩:=hf 0 f0 _ rfl rfl
 obtain⟨_,e1⟩:=hf 1 f1 _ rfl rfl
 obtain⟨_,e2⟩:=hf 2 f2 _ rfl rfl
 rw[t0,o0]at e0
 rw[t1,o1]at e1
 rw[t2,o2]at e2
 refine⟨?_,?_,?_⟩
 ·rw[hc 0,←Array.getElem?_toList];exact int_one Tryz.underlying51 c72 e0
 ·rw[hc 1,←Array.getElem?_toList];exact int_one Tryz.underlying51 c72 e1
 ·rw[hc 2,←Array.getElem?_toList];exact int_one Tryz.underlying3 c3 e2
theorem get_range {H:Type} {n i:Nat}(f:Nat→DataW H) (h:i<n):((List.range n).map f)[i]? =some (f i):=by
 rw[List.getElem?_map,List.getElem?_range h];rfl
theorem slice_at {W0:World}(h1:laidMet Tryz.prog Rows.writerFloatsRow.laid W0) (h2:W0.ShapedOpen Tryz.prog){i g t e:Nat} {n:String} {l r:List (DataW Unit)}(hl:Rows.writerFloatsRow.laid[i]? =some (n,.slice l r)) (hg:globOk Tryz.prog n g t=true) (hr:rowIs Tryz.prog g t=true) (hc:Tryz.prog.cellTypes Tryz.prog.depth t=some [t]) (hu:Tryz.prog.underlying t=some (.slice e)):
 ∃(b o cap fuel:Nat),W0.cell? ⟨g,0,none⟩=some (.slice (some ⟨b,o,none⟩) l.length cap)∧∀i d,l[i]? =some d→∃es q,W0.cells? 0 ⟨b,o+i*Tryz.prog.cellsOf e,none⟩ (Tryz.prog.cellsOf e)=some es∧DataW.trod (fun _=>()) Tryz.prog W0 0 (fun _=>true) false fuel e es=some (d,q):=by
 obtain⟨cs,fuel,p,hcl,hd⟩:=reads_at h1 hl hg
 obtain⟨a,cap,m,hcs,hel⟩:=slice_rd hu hd
 have h0:W0.cell? ⟨g,0,none⟩=some (.slice (some a) l.length cap):=by rw[hcl 0,←Array.getElem?_toList,hcs];rfl
 have hs:=spot_at0 h2 hr hc hu h0
 obtain⟨b,o,sp⟩:=a
 simp only at hs
 subst hs
 refine⟨b,o,cap,m,h0,fun i d hi=> ?_⟩
 obtain⟨es,q,k1,k2⟩:=hel i d hi
 rw[add_none]at k1
 exact⟨es,q,k1,k2⟩
theorem c120:Tryz.prog.cellsOf 47=1:=by kernel_rfl
theorem p10_at {W0:World}(h1:laidMet Tryz.prog Rows.writerFloatsRow.laid W0) (h2:W0.ShapedOpen Tryz.prog):Tab13 W0 W0.heap.size:=by
 obtain⟨b,o,cap,fuel,h0,hel⟩:=slice_at h1 h2 laid_6 (g:=19) (t:=319) (by kernel_rfl) (by kernel_rfl) (by kernel_rfl) Tryz.underlying319
 rw[c120]at hel
 have key:∀i,i<23→W0.cell? ⟨b,o+i,none⟩=some (.float .f64 (pt10 i)):=fun i hi=>by
  obtain⟨es,q,e1,e2⟩:=hel i _ (get_range _ hi)
  obtain⟨n,e3,e4⟩:=trod_float Tryz.underlying47 e2
  simp only[Prod.mk.injEq,DataW.lit.injEq,Lit.float.injEq,true_and]at e4
  have e5:=cells_at (i:=0) e1 (v:= .float .f64 (pt10 i)) (by rw[e3,e4.1];rfl)
  rw[Nat.mul_one,Nat.add_zero]at e5
  exact e5
 exact⟨b,o,cap,Lib.lt_of_cell (key 0 (by omega)),Lib.lt_of_cell h0,h0,key⟩
theorem c9:Tryz.prog.cellsOf 9=1:=by kernel_rfl
theorem c227:Tryz.prog.cellsOf 278=2:=by kernel_rfl
theorem c23:Tryz.prog.cellsOf 22=1:=by kernel_rfl
theorem fields227:∃f0 f1:Field,Tryz.prog.underlying 278=some (.struct #[f0,f1])∧(f0.type=22∧f0.offset=0)∧(f1.type=22∧f1.offset=1):=⟨_,_,Tryz.underlying278,⟨rfl,rfl⟩,⟨rfl,rfl⟩⟩
theorem pows_at {W0:World}(h1:laidMet Tryz.prog Rows.writerFloatsRow.laid W0):Tab16 W0:=by
 obtain⟨cs,fuel,p,hc,hd⟩:=reads_at h1 laid_13 (g:=10) (t:=279) (by kernel_rfl)
 obtain⟨n,ha⟩:=array_rd Tryz.underlying279 hd
 intro i hi
 obtain⟨_,e⟩:=ha i _ hi (get_range _ hi)
 rw[c227]at e
 obtain⟨f0,f1,hu,⟨t0,o0⟩,⟨t1,o1⟩⟩:=fields227
 obtain⟨n,hf⟩:=struct_rd hu e
 obtain⟨_,k0⟩:=hf 0 f0 _ rfl rfl
 obtain⟨_,k1⟩:=hf 1 f1 _ rfl rfl
 rw[t0,o0]at k0
 rw[t1,o1]at k1
 have v0:=int_one Tryz.underlying22 c23 k0
 have v1:=int_one Tryz.underlying22 c23 k1
 rw[List.getElem?_take,List.getElem?_drop]at v0 v1
 simp only[Nat.zero_lt_succ,if_true,Nat.add_zero,Nat.lt_add_one]at v0 v1
 exact⟨by rw[hc,←Array.getElem?_toList];exact v0,by rw[hc,←Array.getElem?_toList];exact v1⟩
theorem Laid1.tab {W:World}(h:Laid1 W):∃B,B≤W.heap.size∧TabP W B:=by
 obtain⟨W0,h1,h2,h3⟩:=h
 obtain⟨te,pe,h6⟩:=err_at6 h1
 obtain⟨i0,i1,i2⟩:=inf_at h1
 have h18:21<W0.heap.size:=heap_more h2 (k:=21) (by kernel_rfl) (by kernel_rfl)
 have t0:TabP W0 W0.heap.size:=⟨⟨⟨h18,i0,i1,i2⟩,p10_at h1 h2,pows_at h1,opt_at h1⟩,te,pe,h6⟩
 exact⟨W0.heap.size,h3.size,t0.below h3⟩
end Go.Proofs
end
section
namespace Go.Proofs
open Go.RowKit Go.Pf Go.Lx Go.Hb Go.Rb Go.Bg
theorem Laid0.gl {w:World}(h:Laid0 w):Tryz.prog.globals.size≤w.heap.size:=by
 obtain⟨_,_,_,_,h4⟩:=h;exact h4
end Go.Proofs
end
