import Derived.Test.YtnipmfaikiaipaaGreatDoorTbl
set_option linter.unusedVariables false
set_option linter.unusedSimpArgs false
set_option maxRecDepth 1000000
set_option maxHeartbeats 40000000
section
namespace Go.Proofs
open Go.RowKit Go.Pf Go.Lib
open Go.Proofs.YtnipmfaikiaipaaGreatDoor
section
variable {H:Type} {enc:TypeId×Value->H} {P:Program} {w:World} {base:Nat} {sp:Nat->Bool} {held:Bool} {fuel:Nat} {t:TypeId} {cs:List Value}
theorem RC {k:FloatKind} {x:DataW H×List MemPlace}(ht:P.underlying t=some (.float k)) (h:DataW.trod enc P w base sp held fuel t cs=some x):∃b,cs= [.float k b]/\x=(.lit (.float k b),[]):=by
 cases fuel with
 |zero=>simp[DataW.trod]at h
 |succ n=>
  unfold DataW.trod at h;rw[ht]at h;split at h<;>simp_all
theorem QT {n:String} {d:DataW H} {p:List MemPlace}(ht:∃y,P.underlying t=some (.interface y)) (h:DataW.trod enc P w base sp held fuel t cs=some (.iface n d,p)):∃u v,cs= [.iface u v]:=by
 obtain⟨y,ht⟩:=ht;cases fuel with
 |zero=>simp[DataW.trod]at h
 |succ n=>
  unfold DataW.trod at h;rw[ht]at h;split at h<;>simp_all
theorem V3 {e:TypeId} {l r:List (DataW H)} {p:List MemPlace}(ht:P.underlying t=some (.slice e)) (h:DataW.trod enc P w base sp held fuel t cs=some (.slice l r,p)):
 ∃(a:Addr) (cap n:Nat),cs= [.slice (some a) l.length cap]/\∀(i:Nat) (d:DataW H),l[i]? =some d->∃es q,w.cells? base (a.add (i*P.cellsOf e)) (P.cellsOf e)=some es/\DataW.trod enc P w base sp held n e es=some (d,q):=by
 rcases DataW.trod_slice ht h with⟨_,hx⟩|⟨a,len,cap,elems,rest,n,_,hcs,hx,_,_,_,hl,hel,_⟩
 ·cases hx
 ·have h1:l=elems.map (·.1):=by have:=congrArg Prod.fst hx;simp at this;exact this.1
  have h2:l.length=len:=by rw[h1,List.length_map,hl]
  refine⟨a,cap,n,by rw[h2];exact hcs,fun i d hi=> ?_⟩;have hi2:i<len:=by
   rcases BY i l.length with h3|h3
   ·omega
   ·rw[gQ h3]at hi;cases hi
  have h4:=hel i hi2;rw[h1,List.getElem?_map]at hi;cases he:elems[i]?with
  |none=>rw[he]at hi;cases hi
  |some y=>
   rw[he]at hi h4;simp only[Option.map_some,Option.some.injEq]at hi;obtain⟨es,h5,h6⟩:=Option.bind_eq_some_iff.1 h4;exact⟨es,y.2,h5,by rw[h6,<-hi]⟩
theorem JR {fs:Array Field} {l:List (DataW H)} {p:List MemPlace}(ht:P.underlying t=some (.struct fs)) (h:DataW.trod enc P w base sp held fuel t cs=some (.agg l,p)):
 ∃n,∀(i:Nat) (f:Field) (d:DataW H),fs[i]? =some f->l[i]? =some d->∃q,DataW.trod enc P w base sp held n f.type ((cs.drop f.offset).take (P.cellsOf f.type))=some (d,q):=by
 obtain⟨xs,n,_,hx,_,_,hf⟩:=DataW.trod_struct ht h;have h1:l=xs.map (·.1):=by have:=congrArg Prod.fst hx;simpa using this
 refine⟨n,fun i f d h2 h3=> ?_⟩;have h4:=hf i f h2;rw[h1,List.getElem?_map]at h3;cases he:xs[i]?with
 |none=>rw[he]at h3;cases h3
 |some y=>
  rw[he]at h3 h4;simp only[Option.map_some,Option.some.injEq]at h3;exact⟨y.2,by rw[h4,<-h3]⟩
theorem VP {m:Nat} {e:TypeId} {l:List (DataW H)} {p:List MemPlace}(ht:P.underlying t=some (.array m e)) (h:DataW.trod enc P w base sp held fuel t cs=some (.agg l,p)):
 ∃n,∀(i:Nat) (d:DataW H),i<m->l[i]? =some d->∃q,DataW.trod enc P w base sp held n e ((cs.drop (i*P.cellsOf e)).take (P.cellsOf e))=some (d,q):=by
 obtain⟨xs,n,_,hx,_,_,hf⟩:=DataW.trod_array ht h;have h1:l=xs.map (·.1):=by have:=congrArg Prod.fst hx;simpa using this
 refine⟨n,fun i d h2 h3=> ?_⟩;have h4:=hf i h2;rw[h1,List.getElem?_map]at h3;cases he:xs[i]?with
 |none=>rw[he]at h3;cases h3
 |some y=>
  rw[he]at h3 h4;simp only[Option.map_some,Option.some.injEq]at h3;exact⟨y.2,by rw[h4,<-h3]⟩
end
theorem Il {w:World} {g o n:Nat} {es:List Value} {i:Nat} {v:Value}(h:w.cells? 0 ⟨g,o,none⟩ n=some es) (hv:es[i]? =some v):w.cell? ⟨g,o+i,none⟩=some v:=by
 obtain⟨_,hl,hc⟩:=World.cells?_some h;have hi:i<n:=by
  rcases BY i es.length with h3|h3
  ·omega
  ·rw[gQ h3]at hv;cases hv
 rw[<-hv,<-hc i hi];unfold Addr.add;split
 ·rename_i h0;subst h0;rfl
 ·rfl
theorem take_one {cs:List Value} {k:Nat} {v:Value}(h:(cs.drop k).take 1= [v]):cs[k]? =some v:=by
 have:=congrArg (·[0]?) h;simpa[List.getElem?_take,List.getElem?_drop]using this
section
variable {P:Program} {W0:World}
def Nv (P:Program) (n:String) (g t:Nat):Bool:=match P.globalNamed n with|some g'=>Nat.beq g' g&&(match(P.globals[g]?).map (·.type)with|some t'=>Nat.beq t' t|none=>false)|none=>false
theorem Tc {L:List (String×DataW Unit)}(h1:laidMet P L W0){i:Nat} {n:String} {d:DataW Unit} {g t:Nat}(hl:L[i]? =some (n,d)) (hg:Nv P n g t=true):
 ∃(cs:Array Value) (fuel:Nat) (p:List MemPlace),(∀off,W0.cell? ⟨g,off,none⟩=cs[off]?)/\DataW.trod (fun _=>()) P W0 0 (fun _=>true) false fuel t cs.toList=some (d,p):=by
 obtain⟨g',t',cs,fuel,p,hgn,hty,hvar,hd⟩:=Lib.laidMet.reads h1 (List.mem_of_getElem? hl);unfold Nv at hg;rw[hgn]at hg;simp only[Bool.and_eq_true]at hg;obtain⟨e1,e2⟩:=hg;obtain rfl:=Nat.eq_of_beq_eq_true e1;rw[hty]at e2;obtain rfl:=Nat.eq_of_beq_eq_true e2;exact⟨cs,fuel,p,fun off=>World.var?_cell hgn hvar off,hd⟩
def Vp (P:Program) (g t:Nat):Bool:=Nat.ble (g+1) P.globals.size&&P.buildable t&&(match((begin P (fun _ _=>0) default).world.heap[g]?).bind Obj.row? with|some (z,t')=>Nat.beq t' t&&Nat.beq z.size 1|none=>false)
theorem Vx (h:W0.ShapedOpen P){g t e:Nat}(hr:Vp P g t=true) (hc:P.cellTypes P.depth t=some [t]) (hu:P.underlying t=some (.slice e)){a:Addr} {len cap:Nat}(ha:W0.cell? ⟨g,0,none⟩=some (.slice (some a) len cap)):a.spot=none:=by
 unfold Vp at hr;simp only[Bool.and_eq_true]at hr;obtain⟨⟨hg,hb⟩,h0⟩:=hr;split at h0
 ·rename_i z t' hz;simp only[Bool.and_eq_true]at h0;obtain rfl:=Nat.eq_of_beq_eq_true h0.1;obtain⟨cs,hh,hs,hrow⟩:=h.1 g z _ (Nat.le_of_ble_eq_true hg) hz;obtain⟨ts,hts,_,hall⟩:=hrow hb;rw[hc]at hts;cases hts;have hv:cs[0]? =some (.slice (some a) len cap):=by
   rw[<-ha];simp[World.cell?,hh]
  obtain⟨u,hu',hok⟩:=hall 0 _ hv;simp only[List.length_cons,List.length_nil,gX,Nat.zero_mod,List.getElem?_cons_zero,Option.some.injEq]at hu';subst hu';unfold Cell.ok at hok;rw[hu]at hok;exact hok.2.2.2.1
 ·cases h0
end
theorem Uq (b o n:Nat):(⟨b,o,none⟩:Addr).add n=⟨b,o+n,none⟩:=by
 unfold Addr.add;split
 ·rename_i h0;subst h0;rfl
 ·rfl
theorem GB {W0:World}(h1:laidMet Tryz.prog Rows.writerAtomsRow.laid W0){i:Nat} {n:String} {d:DataW Unit} {g t:Nat}(hl:Rows.writerAtomsRow.laid[i]? =some (n,d)) (hg:Nv Tryz.prog n g t=true):
 ∃(cs:Array Value) (fuel:Nat) (p:List MemPlace),(∀off,W0.cell? ⟨g,off,none⟩=cs[off]?)/\DataW.trod (fun _=>()) Tryz.prog W0 0 (fun _=>true) false fuel t cs.toList=some (d,p):=Tc h1 hl hg
def EO (W:World):Prop:=∃W0:World,laidMet Tryz.prog Rows.writerAtomsRow.laid W0/\W0.ShapedOpen Tryz.prog/\Below W0.heap.size W0 W
theorem EO.below {W W':World}(h:EO W) (hb:Below W.heap.size W W'):EO W':=by
 obtain⟨W0,h1,h2,h3⟩:=h;exact⟨W0,h1,h2,h3.trans (hb.mono h3.size)⟩
theorem EO.of {W:World}(h1:laidMet Tryz.prog Rows.writerAtomsRow.laid W) (h2:W.ShapedOpen Tryz.prog):EO W:=⟨W,h1,h2,AH _ _⟩
theorem EO.zero {W:World}(h:EO W):Aj W:=by
 obtain⟨W0,h1,h2,h3⟩:=h;exact(Aj.of h1 h2).below h3
theorem bz:Rows.writerAtomsRow.laid[3]? =some ("internal/strconv.float64info",.agg [.lit (.int .u64 52),.lit (.int .u64 11),.lit (.int .i64 (-1023))]):=by kernel_rfl
theorem cG:Rows.writerAtomsRow.laid[4]? =some ("internal/strconv.optimize",.lit (.bool true)):=by kernel_rfl
theorem bG:Rows.writerAtomsRow.laid[5]? =some ("internal/strconv.powtab",.slice ((List.range 9).map fun i=> .lit (.int .i64 (Ub.getD i 1:Nat))) []):=by kernel_rfl
theorem cD:Rows.writerAtomsRow.laid[6]? =some ("internal/strconv.float64pow10",.slice ((List.range 23).map fun i=> .lit (.float .f64 (Gu i))) []):=by kernel_rfl
theorem YU:∃n d,Rows.writerAtomsRow.laid[10]? =some ("strconv.ErrRange",.iface n d):=by
 have h:(match Rows.writerAtomsRow.laid[10]?with|some (s,.iface _ _)=>s== "strconv.ErrRange" |_=>false)=true:=by kernel_rfl
 split at h
 ·rename_i s n d hl;exact⟨n,d,by rw[hl,eq_of_beq h]⟩
 ·cases h
theorem ZP:Rows.writerAtomsRow.laid[14]? =some ("internal/strconv.leftcheats",.slice ((List.range 61).map fun i=> .agg [.lit (.int .i64 (Et i:Nat)),.lit (.string (OO i))]) []):=by kernel_rfl
theorem XZ:Rows.writerAtomsRow.laid[15]? =some ("internal/strconv.pow10Tab",.agg ((List.range 696).map fun i=> .agg [.lit (.int .u64 (Jy i:Nat)),.lit (.int .u64 (Je i:Nat))])):=by kernel_rfl
theorem cE {W0:World}(h1:laidMet Tryz.prog Rows.writerAtomsRow.laid W0):W0.cell? ⟨6,0,none⟩=some (.bool true):=by
 obtain⟨cs,fuel,p,hc,hd⟩:=GB h1 cG (g:=6) (t:=4) (by kernel_rfl);obtain⟨b,hb,hx⟩:=DataW.trod_bool Tryz.underlying4 hd;simp only[Prod.mk.injEq,DataW.lit.injEq,Lit.bool.injEq]at hx;rw[hc 0,<-Array.getElem?_toList,hb,<-hx.1];rfl
theorem ZR {W0:World}(h1:laidMet Tryz.prog Rows.writerAtomsRow.laid W0):∃te pe,W0.cell? ⟨8,0,none⟩=some (.iface te pe):=by
 obtain⟨n,d,hl⟩:=YU;obtain⟨cs,fuel,p,hc,hd⟩:=GB h1 hl (g:=8) (t:=44) (by kernel_rfl);obtain⟨u,v,hb⟩:=QT ⟨_,Tryz.underlying44⟩ hd;exact⟨u,v,by rw[hc 0,<-Array.getElem?_toList,hb];rfl⟩
theorem gD:Tryz.prog.cellsOf 121=1:=by kernel_rfl
theorem c3:Tryz.prog.cellsOf 3=1:=by kernel_rfl
theorem Tl:∃f0 f1 f2:Field,Tryz.prog.underlying 345=some (.struct #[f0,f1,f2])/\(f0.type=121/\f0.offset=0)/\(f1.type=121/\f1.offset=1)/\(f2.type=3/\f2.offset=2):=⟨_,_,_,Tryz.underlying345,⟨rfl,rfl⟩,⟨rfl,rfl⟩,⟨rfl,rfl⟩⟩
theorem Gs {w:World} {fuel k:Nat} {t:TypeId} {kd:IntKind} {z:Int} {cs:List Value} {q:List MemPlace}(ht:Tryz.prog.underlying t=some (.int kd)) (hc:Tryz.prog.cellsOf t=1)
 (h:DataW.trod (fun _=>()) Tryz.prog w 0 (fun _=>true) false fuel t ((cs.drop k).take (Tryz.prog.cellsOf t))=some (.lit (.int kd z),q)):cs[k]? =some (.int kd z):=by
 obtain⟨n,h1,h2,_⟩:=DataW.trod_int ht h;simp only[Prod.mk.injEq,DataW.lit.injEq,Lit.int.injEq,true_and]at h2;rw[hc]at h1;rw[take_one h1,<-h2.1]
theorem aX {W0:World}(h1:laidMet Tryz.prog Rows.writerAtomsRow.laid W0):W0.cell? ⟨16,0,none⟩=some (.int .u64 52)/\W0.cell? ⟨16,1,none⟩=some (.int .u64 11)/\W0.cell? ⟨16,2,none⟩=some (.int .i64 (-1023)):=by
 obtain⟨cs,fuel,p,hc,hd⟩:=GB h1 bz (g:=16) (t:=345) (by kernel_rfl);obtain⟨f0,f1,f2,hu,⟨t0,o0⟩,⟨t1,o1⟩,⟨t2,o2⟩⟩:=Tl;obtain⟨n,hf⟩:=JR hu hd;obtain⟨_,e0⟩:=hf 0 f0 _ rfl rfl;obtain⟨_,e1⟩:=hf 1 f1 _ rfl rfl;obtain⟨_,e2⟩:=hf 2 f2 _ rfl rfl;rw[t0,o0]at e0;rw[t1,o1]at e1;rw[t2,o2]at e2;refine⟨?_,?_,?_⟩
 ·rw[hc 0,<-Array.getElem?_toList];exact Gs Tryz.underlying121 gD e0
 ·rw[hc 1,<-Array.getElem?_toList];exact Gs Tryz.underlying121 gD e1
 ·rw[hc 2,<-Array.getElem?_toList];exact Gs Tryz.underlying3 c3 e2
theorem Gk {H:Type} {n i:Nat}(f:Nat->DataW H) (h:i<n):((List.range n).map f)[i]? =some (f i):=by
 rw[List.getElem?_map,List.getElem?_range h];rfl
theorem LB {W0:World}(h1:laidMet Tryz.prog Rows.writerAtomsRow.laid W0) (h2:W0.ShapedOpen Tryz.prog){i g t e:Nat} {n:String} {l r:List (DataW Unit)}(hl:Rows.writerAtomsRow.laid[i]? =some (n,.slice l r)) (hg:Nv Tryz.prog n g t=true) (hr:Vp Tryz.prog g t=true) (hc:Tryz.prog.cellTypes Tryz.prog.depth t=some [t]) (hu:Tryz.prog.underlying t=some (.slice e)):
 ∃(b o cap fuel:Nat),W0.cell? ⟨g,0,none⟩=some (.slice (some ⟨b,o,none⟩) l.length cap)/\∀i d,l[i]? =some d->∃es q,W0.cells? 0 ⟨b,o+i*Tryz.prog.cellsOf e,none⟩ (Tryz.prog.cellsOf e)=some es/\DataW.trod (fun _=>()) Tryz.prog W0 0 (fun _=>true) false fuel e es=some (d,q):=by
 obtain⟨cs,fuel,p,hcl,hd⟩:=GB h1 hl hg;obtain⟨a,cap,m,hcs,hel⟩:=V3 hu hd;have h0:W0.cell? ⟨g,0,none⟩=some (.slice (some a) l.length cap):=by rw[hcl 0,<-Array.getElem?_toList,hcs];rfl
 have hs:=Vx h2 hr hc hu h0;obtain⟨b,o,sp⟩:=a;simp only at hs;subst hs;refine⟨b,o,cap,m,h0,fun i d hi=> ?_⟩;obtain⟨es,q,k1,k2⟩:=hel i d hi;rw[Uq]at k1;exact⟨es,q,k1,k2⟩
theorem fq:Tryz.prog.cellsOf 117=1:=by kernel_rfl
theorem Te {W0:World}(h1:laidMet Tryz.prog Rows.writerAtomsRow.laid W0) (h2:W0.ShapedOpen Tryz.prog):∃g o c,g<W0.heap.size/\W0.cell? ⟨18,0,none⟩=some (.slice (some ⟨g,o,none⟩) 9 c)/\∀i,i<9->W0.cell? ⟨g,o+i,none⟩=some (.int .i64 (Ub.getD i 1:Nat)):=by
 obtain⟨b,o,cap,fuel,h0,hel⟩:=LB h1 h2 bG (g:=18) (t:=89) (by kernel_rfl) (by kernel_rfl) (by kernel_rfl) Tryz.underlying89;rw[c3]at hel;have key:∀i,i<9->W0.cell? ⟨b,o+i,none⟩=some (.int .i64 (Ub.getD i 1:Nat)):=fun i hi=>by
  obtain⟨es,q,e1,e2⟩:=hel i _ (Gk _ hi);obtain⟨n,e3,e4,_⟩:=DataW.trod_int Tryz.underlying3 e2;simp only[Prod.mk.injEq,DataW.lit.injEq,Lit.int.injEq,true_and]at e4;have e5:=Il (i:=0) e1 (v:= .int .i64 (Ub.getD i 1:Nat)) (by rw[e3,e4.1];rfl);rw[gY,gZ]at e5;exact e5
 exact⟨b,o,cap,Lib.lt_of_cell (key 0 (by omega)),h0,key⟩
theorem Z8 {W0:World}(h1:laidMet Tryz.prog Rows.writerAtomsRow.laid W0) (h2:W0.ShapedOpen Tryz.prog):IG W0 W0.heap.size:=by
 obtain⟨b,o,cap,fuel,h0,hel⟩:=LB h1 h2 cD (g:=19) (t:=362) (by kernel_rfl) (by kernel_rfl) (by kernel_rfl) Tryz.underlying362;rw[fq]at hel;have key:∀i,i<23->W0.cell? ⟨b,o+i,none⟩=some (.float .f64 (Gu i)):=fun i hi=>by
  obtain⟨es,q,e1,e2⟩:=hel i _ (Gk _ hi);obtain⟨n,e3,e4⟩:=RC Tryz.underlying117 e2;simp only[Prod.mk.injEq,DataW.lit.injEq,Lit.float.injEq,true_and]at e4;have e5:=Il (i:=0) e1 (v:= .float .f64 (Gu i)) (by rw[e3,e4.1];rfl);rw[gY,gZ]at e5;exact e5
 exact⟨b,o,cap,Lib.lt_of_cell (key 0 (by omega)),Lib.lt_of_cell h0,h0,key⟩
theorem fZ:Tryz.prog.cellsOf 323=2:=by kernel_rfl
theorem c9:Tryz.prog.cellsOf 9=1:=by kernel_rfl
theorem TX:∃f0 f1:Field,Tryz.prog.underlying 323=some (.struct #[f0,f1])/\(f0.type=3/\f0.offset=0)/\(f1.type=9/\f1.offset=1):=⟨_,_,Tryz.underlying323,⟨rfl,rfl⟩,⟨rfl,rfl⟩⟩
theorem UJ {W0:World}(h1:laidMet Tryz.prog Rows.writerAtomsRow.laid W0) (h2:W0.ShapedOpen Tryz.prog):LP W0 W0.heap.size:=by
 obtain⟨b,o,cap,fuel,h0,hel⟩:=LB h1 h2 ZP (g:=12) (t:=324) (by kernel_rfl) (by kernel_rfl) (by kernel_rfl) Tryz.underlying324;rw[fZ]at hel;have key:∀i,i<61->W0.cell? ⟨b,o+i*2,none⟩=some (.int .i64 (Et i:Nat))/\W0.cell? ⟨b,o+i*2+1,none⟩=some (.string ⟨(OO i).toArray⟩):=fun i hi=>by
  obtain⟨es,q,e1,e2⟩:=hel i _ (Gk _ hi);obtain⟨f0,f1,hu,⟨t0,o0⟩,⟨t1,o1⟩⟩:=TX;obtain⟨n,hf⟩:=JR hu e2;obtain⟨_,k0⟩:=hf 0 f0 _ rfl rfl;obtain⟨_,k1⟩:=hf 1 f1 _ rfl rfl;rw[t0,o0]at k0;rw[t1,o1]at k1;have v0:=Il e1 (Gs Tryz.underlying3 c3 k0);rw[c9]at k1;obtain⟨sx,e3,e4,_⟩:=DataW.trod_string Tryz.underlying9 k1;simp only[Prod.mk.injEq,DataW.lit.injEq,Lit.string.injEq]at e4;have v1:=Il e1 (take_one e3);refine⟨v0,?_⟩;rw[v1,show(⟨(OO i).toArray⟩:ByteArray)=sx from by apply ByteArray.ext;apply Array.toList_inj.1;rw[<-e4.1]]
 exact⟨b,o,cap,Lib.lt_of_cell (key 0 (by omega)).1,Lib.lt_of_cell h0,h0,key⟩
theorem ft:Tryz.prog.cellsOf 318=2:=by kernel_rfl
theorem gB:Tryz.prog.cellsOf 28=1:=by kernel_rfl
theorem TN:∃f0 f1:Field,Tryz.prog.underlying 318=some (.struct #[f0,f1])/\(f0.type=28/\f0.offset=0)/\(f1.type=28/\f1.offset=1):=⟨_,_,Tryz.underlying318,⟨rfl,rfl⟩,⟨rfl,rfl⟩⟩
theorem Xe {W0:World}(h1:laidMet Tryz.prog Rows.writerAtomsRow.laid W0):LX W0:=by
 obtain⟨cs,fuel,p,hc,hd⟩:=GB h1 XZ (g:=11) (t:=319) (by kernel_rfl);obtain⟨n,ha⟩:=VP Tryz.underlying319 hd;intro i hi;obtain⟨_,e⟩:=ha i _ hi (Gk _ hi);rw[ft]at e;obtain⟨f0,f1,hu,⟨t0,o0⟩,⟨t1,o1⟩⟩:=TN;obtain⟨n,hf⟩:=JR hu e;obtain⟨_,k0⟩:=hf 0 f0 _ rfl rfl;obtain⟨_,k1⟩:=hf 1 f1 _ rfl rfl;rw[t0,o0]at k0;rw[t1,o1]at k1;have v0:=Gs Tryz.underlying28 gB k0;have v1:=Gs Tryz.underlying28 gB k1;rw[List.getElem?_take,List.getElem?_drop]at v0 v1;simp only[Nat.zero_lt_succ,if_true,gZ,Nat.lt_add_one]at v0 v1;exact⟨by rw[hc,<-Array.getElem?_toList];exact v0,by rw[hc,<-Array.getElem?_toList];exact v1⟩
theorem EO.SD {W:World}(h:EO W):∃B,B<=W.heap.size/\Dl W B:=by
 obtain⟨W0,h1,h2,h3⟩:=h;obtain⟨te,pe,h6⟩:=ZR h1;obtain⟨i0,i1,i2⟩:=aX h1;have hch:=UJ h1 h2;have h18:21<W0.heap.size:=L9 h2 (k:=21) (by kernel_rfl) (by kernel_rfl);have t0:Dl W0 W0.heap.size:=⟨⟨⟨h18,hch,Te h1 h2,i0,i1,i2⟩,Z8 h1 h2,Xe h1,cE h1⟩,te,pe,h6⟩;exact⟨W0.heap.size,h3.size,t0.below h3⟩
end Go.Proofs
end
section
namespace Go.Proofs
open Go.RowKit Go.Pf Go.Lx Go.Hb Go.Rb Go.Bg
theorem EO.fP {w:World}(h:EO w):Dl w w.heap.size:=by
 obtain⟨B,h1,h2⟩:=h.SD;exact h2.mono h1
theorem Aj.gl {w:World}(h:Aj w):Tryz.prog.globals.size<=w.heap.size:=by
 obtain⟨_,_,_,_,h4⟩:=h;exact h4
theorem F9.av (w:World) (k:Int) (tx nu:ByteArray) (bits a en:Int) (ly:Bool):F9 (w.alloc (.cells #[.int .i64 k,.string tx,.string nu,.int .u64 bits,.int .i64 a,.int .i64 en,.bool ly] 30)) w.heap.size k tx nu bits a en ly:=⟨dk w _⟩
def Zh (R:TR) (w:World) (e:Ending) (w':World):Prop:=∃R' ly,(R'=R\/TR.fo R/\TR.fo R')/\Cb R' ly w e w'
theorem e7 (s:ByteArray) (p K E:Nat) (w:World) (hs:s.size<=100000000) (hp:p<=s.size) (hL:Hid (Lay s p K E)) (hM:Hid (EO w)):
 Calls Tryz.prog 13 #[.string s,.int .i64 p] w (Zh (UY s K E) w):=by
 obtain⟨R,hR⟩:∃R,R=UY s K E:=⟨_,rfl⟩;rw[<-hR];have HR:=Hi hR;have L0:=Hi hM.out.zero;have T0:=Hi hM.out.fP;have q1:decide ((p:Int)<0)=false:=BC;have q2:decide ((s.size:Int)<p)=false:=BC;have q2b:decide (s.size<p)=false:=BC;have q3:¬(s.size:Int)<p:=by omega
 have hle:=hL.out.le hp;have HW:Hid (∀W1,W1=(w.alloc (.cells #[.int .i64 0,.string ⟨#[]⟩,.string ⟨#[]⟩,.int .u64 0,.int .i64 0,.int .i64 0,.bool false] 30)).alloc (.cells #[.string s,.int .i64 p] 68)->A8 W1 w.heap.size/\St W1 (w.heap.size+1) s p/\Below w.heap.size w W1/\W1.heap.size=w.heap.size+2):=Hi (by
  intro W1 hW;refine⟨⟨?_⟩,⟨?_⟩,?_,?_⟩
  ·subst hW;rw[Lib.alloc_old _ _ _ (by simp)];exact dk w _
  ·subst hW;have:=dk (w.alloc (.cells (Ck 0) 30)) (.cells #[.string s,.int .i64 p] 68);rw[show(w.alloc (.cells (Ck 0) 30)).heap.size=w.heap.size+1 by simp]at this;exact this
  ·subst hW;exact((AH _ _).alloc (nR _) _).alloc (by simp) _
  ·subst hW;simp)
 clear hR;go_enter Tryz.func13,Tryz.ntmps13
 go_wp2_with fail
 generalize hW1:(w.alloc _).alloc _=W1;obtain⟨tk,st,bl,sz⟩:=HW.out W1 hW1.symm;have CL:Hid (Calls Tryz.prog 31 #[.pointer (some ⟨w.heap.size+1,0,none⟩)] W1 (YZ s (w.heap.size+1) K E W1)):=Hi (ZJ (w.heap.size+1) s p K E W1 hs hp hL st (L0.out.below bl) (by have:=L0.out.gl;omega));have TK:=Hi tk;have BL:=Hi bl;have SZ:=Hi sz;clear hW1 tk st bl sz HW
 go_wp2_with (go_at_call 31;(with_reducible refine CL.out.mono ?_))
 rintro e W2 ⟨hok,her,hbel,hsz⟩;have TK2:Hid (A8 W2 w.heap.size):=Hi ⟨(hbel.block _ (by omega)).trans TK.out.h⟩;have BL2:Hid (Below w.heap.size w W2):=Hi (BL.out.trans (hbel.mono (by omega)));have lt2:w.heap.size+1<W2.heap.size:=by have:=SZ.out;omega
 clear hbel hsz CL;by_cases hE:E=0
 ·obtain⟨rfl,st2⟩:=hok hE;have hR2:R=Dr s K:=by rw[HR.out];unfold UY;rw[if_pos hE]
  have HR2:=Hi hR2;have kle:=hle hE;have CT:Hid (Calls Tryz.prog 32 #[.pointer (some ⟨w.heap.size+1,0,none⟩)] W2 (AL R W2)):=Hi (by
   rw[HR2.out];exact Z3 (w.heap.size+1) s K W2 hs kle (Hi st2) (Hi (L0.out.below BL2.out)) (Hi (T0.out.next BL2.out)) (Hi (by have:=L0.out.gl;omega)))
  have HNZ:Hid (∀R',(R'=R\/TR.fo R/\TR.fo R')->∀p n,R'= .err p n->n≠0):=Hi (by
   rintro R' (e|⟨_,h⟩) p n e2
   ·exact KF (hR2.symm.trans (e.symm.trans e2))
   ·subst e2;have:n=34:=h;omega)
  clear hok her hle hE st2 hR2
  go_wp2_with (go_at_call 32;(with_reducible refine CT.out.mono ?_))
  rintro e W3 ⟨R',hs2,h1,b3⟩;have HS2:=Hi hs2;have hnz:=HNZ.out R' hs2;have B3:=Hi b3;clear b3 hs2 HNZ CT;cases R' with
  |ok k tx nu bits a en=>
   have h1:e= .returned (.tuple #[AK k tx nu bits a en false,.int .i64 0,.int .i64 0]):=h1;subst h1;obtain⟨ly,hlk⟩:∃ly,decide (p<a)=ly:=⟨_,rfl⟩;have hlk2:decide ((p:Int)<a)=ly:=by rw[<-hlk];exact NO.2 (by omega)
   clear hnz;unfold AK
   go_upto_region 8 with fail
   generalize hW4:W3.alloc _=W4;have T1:Hid (F9 W4 W3.heap.size k tx nu bits a en false):=Hi (by rw[<-hW4];exact F9.av W3 _ _ _ _ _ _ _);have b4:Below W3.heap.size W3 W4:=by rw[<-hW4];exact(AH _ _).alloc (nR _) _
   have TK4:Hid (A8 W4 w.heap.size):=Hi ((TK2.out.below B3.out).below b4);have BL4:Hid (Below w.heap.size w W4):=Hi ((BL2.out.trans (B3.out.mono BL2.out.size)).trans (b4.mono (by have:=B3.out.size;omega)));have lt3:w.heap.size<W3.heap.size:=by have:=B3.out.size;omega
   clear hW4 b4;obtain⟨x00,x01,x02,x03,x04,x05,x06⟩:=TK4.out.cs;obtain⟨y00,y01,y02,y03,y04,y05,y06⟩:=TK4.out.fs;obtain⟨x10,x11,x12,x13,x14,x15,x16⟩:=T1.out.cs;obtain⟨y10,y11,y12,y13,y14,y15,y16⟩:=T1.out.fs
   go_wp2_with fail
   refine AI (v:= .tuple #[AK k tx nu bits a en ly,.int .i64 0]) ?_ rfl ⟨_,ly,HS2.out,Cb.ok rfl (AJ (BL4.out.setCell (p:=⟨W3.heap.size,6,none⟩) (by show w.heap.size<=W3.heap.size;omega) _) (nR _) _ _ _ _ _ _ _)⟩;simp only[results,Tryz.results13];go_simp
   try rfl
  |err rp rn=>
   have h1:∃(k:Int) (tx nu:ByteArray) (bits at_ en:Int) (ly:Bool),e= .returned (.tuple #[AK k tx nu bits at_ en ly,.int .i64 rp,.int .i64 rn]):=h1;obtain⟨k,tx,nu,bits,at_,en,lz,rfl⟩:=h1;have hrn:=hnz rp rn rfl;have e1:((rn:Int) !=0)=true:=Cd (by omega);clear hrn hnz;unfold AK
   go_upto_region 8 with fail
   generalize hW4:W3.alloc _=W4;have b4:Below W3.heap.size W3 W4:=by rw[<-hW4];exact(AH _ _).alloc (nR _) _
   have TK4:Hid (A8 W4 w.heap.size):=Hi ((TK2.out.below B3.out).below b4);have BL4:Hid (Below w.heap.size w W4):=Hi ((BL2.out.trans (B3.out.mono BL2.out.size)).trans (b4.mono (by have:=B3.out.size;omega)));clear hW4 b4
   go_wp2_with (go_at_call 30;(with_reducible refine(Un rp rn _).mono ?_))
   rintro e W5 ⟨rfl,b5⟩;have TK5:Hid (A8 W5 w.heap.size):=Hi (TK4.out.below b5);have BL5:Hid (Below w.heap.size w W5):=Hi (BL4.out.trans (b5.mono BL4.out.size));clear b5;unfold As AK;obtain⟨x00,x01,x02,x03,x04,x05,x06⟩:=TK5.out.cs;obtain⟨y00,y01,y02,y03,y04,y05,y06⟩:=TK5.out.fs;go_wp2;refine AI (v:= .tuple #[As rp,.int .i64 rn]) ?_ rfl ⟨_,false,HS2.out,Cb.er rfl (AJ BL5.out (nR _) _ _ _ _ _ _ _)⟩;simp only[results,Tryz.results13];go_simp
   try rfl
 ·obtain rfl:=her hE;have HF:Hid (R= .err K E):=Hi (by rw[HR.out];unfold UY;rw[if_neg hE]);have e1:((E:Int) !=0)=true:=Cd (by omega);clear hok her hle hE
  go_wp2_with (go_at_call 30;(with_reducible refine(Un K E _).mono ?_))
  rintro e W5 ⟨rfl,b5⟩;have TK5:Hid (A8 W5 w.heap.size):=Hi (TK2.out.below b5);have BL5:Hid (Below w.heap.size w W5):=Hi (BL2.out.trans (b5.mono BL2.out.size));clear b5;unfold As AK;obtain⟨x00,x01,x02,x03,x04,x05,x06⟩:=TK5.out.cs;obtain⟨y00,y01,y02,y03,y04,y05,y06⟩:=TK5.out.fs;go_wp2;refine AI (v:= .tuple #[As K,.int .i64 E]) ?_ rfl ⟨_,false,.inl rfl,Cb.er HF.out (AJ BL5.out (nR _) _ _ _ _ _ _ _)⟩;simp only[results,Tryz.results13];go_simp
  try rfl
end Go.Proofs
end
section
namespace Go.Lx
open Go.Hb Go.Rb Go.Bg Go.Pf Go.Proofs
noncomputable def OJ (R:TR) (s:ByteArray):Bool:=match R with
 | .ok k tx _ _ _ _=>decide (k=1)&&decide (tx=s)
 | .err _ _=>false
end Go.Lx
namespace Go.Proofs
open Go.RowKit Go.Pf Go.Lx Go.Hb Go.Rb Go.Bg
theorem Wr {R:TR} (s:ByteArray) (h:TR.fo R):OJ R s=false:=by
 cases R with
 |ok k tx nu bits a en=>
  have:k=5:=h;subst this;simp[OJ]
 |err p n=>rfl
theorem XR {R R':TR} (s:ByteArray) (h:R'=R\/TR.fo R/\TR.fo R'):OJ R s=OJ R' s:=by
 rcases h with rfl|⟨h1,h2⟩
 ·rfl
 ·rw[Wr s h1,Wr s h2]
theorem X3 (s:ByteArray) (K E:Nat) (w:World) (hs:s.size<=100000000) (hL:Hid (Lay s 0 K E)) (hM:Hid (EO w)):
 Calls Tryz.prog 25 #[.string s] w fun e w'=>e= .returned (.bool (OJ (UY s K E) s))/\Below w.heap.size w w':=by
 obtain⟨R,hR⟩:∃R,R=UY s K E:=⟨_,rfl⟩;rw[<-hR];have C1:Hid (Calls Tryz.prog 13 #[.string s,.int .i64 0] w (Zh R w)):=Hi (by rw[hR];exact e7 s 0 K E w hs (Nat.zero_le _) hL hM);have HZ:Hid (∀R',(R'=R\/TR.fo R/\TR.fo R')->∀p n,R'= .err p n->n≠0):=Hi (by
  rintro R' (e|⟨_,h⟩) p n e2
  ·have h:=hR.symm.trans (e.symm.trans e2);unfold UY at h;split at h
   ·exact KF h
   ·rename_i hE;cases h;exact hE
  ·subst e2;have:n=34:=h;omega)
 have HI:Hid (∀R',(R'=R\/TR.fo R/\TR.fo R')->OJ R s=OJ R' s):=Hi (fun R' h=>XR s h);obtain⟨r,hr⟩:∃r,r=OJ R s:=⟨_,rfl⟩;rw[<-hr];rw[<-hr]at HI;clear hR hr;go_enter Tryz.func25,Tryz.ntmps25
 go_wp2_with (go_at_call 13;(with_reducible refine C1.out.mono ?_))
 rintro e W1 ⟨R',ly,hs2,h1,b1⟩;have hz:=HZ.out R' hs2;have hr:=HI.out R' hs2;have B1:=Hi b1;clear b1 hs2 HZ HI C1;cases R' with
 |err p n=>
  replace h1:e= .returned (.tuple #[AK 0 ⟨#[]⟩ ⟨#[]⟩ 0 p p false,.int .i64 n]):=h1
  subst h1
  replace hr:r=false:=hr
  subst hr;have hn:=hz p n rfl;have e1:((n:Int)==0)=false:=AA (by omega);clear hn hz;unfold AK;go_wp2;refine AI (v:= .bool false) ?_ rfl ⟨rfl,?_⟩
  ·simp only[results,Tryz.results25];go_simp
   try rfl
  ·exact B1.out.trans (((AH _ _).alloc (nR _) _).mono B1.out.size)
 |ok k tx nu bits a en=>
  replace h1:e= .returned (.tuple #[AK k tx nu bits a en ly,.int .i64 0]):=h1
  subst h1;have KEY:(((k:Int)==1)=false/\OJ (.ok k tx nu bits a en) s=false)\/(((k:Int)==1)=true/\(¬tx.toList=s.toList)/\OJ (.ok k tx nu bits a en) s=false)\/(((k:Int)==1)=true/\tx.toList=s.toList/\OJ (.ok k tx nu bits a en) s=true):=by
   unfold OJ;by_cases hk:k=1
   ·by_cases ht:tx=s
    ·exact .inr (.inr ⟨beq_of_eq (by omega),by rw[ht],by simp[hk,ht]⟩)
    ·exact .inr (.inl ⟨beq_of_eq (by omega),fun h=>ht (ByteArray.ext (Array.toList_inj.1 (by rw[<-gT,<-gT];exact h))),by simp[ht]⟩)
   ·exact .inl ⟨AA (by omega),by simp[hk]⟩
  rw[<-hr]at KEY;clear hz hr;unfold AK;rcases KEY with⟨k1,rfl⟩|⟨k1,k2,rfl⟩|⟨k1,k2,rfl⟩
  all_goals
   go_wp2;refine AI (v:= .bool _) ?_ rfl ⟨rfl,B1.out.trans (((AH _ _).alloc (nR _) _).mono B1.out.size)⟩;simp only[results,Tryz.results25];go_simp
   try rfl
theorem F9.keep {W W':World} {b:Nat} {k bits a en:Int} {tx nu:ByteArray} {ly:Bool}(h:Hid (F9 W b k tx nu bits a en ly)) (hb:Below W.heap.size W W'):Hid (F9 W' b k tx nu bits a en ly):=Hi ⟨(hb.block _ h.out.lt).trans h.out.h⟩
end Go.Proofs
end
