import Derived.Test.YtpjcdbjablijkaaGreatDoorTal
import Derived.Test.YtpjcdbjablijkaaGreatDoorTas
import Derived.Test.YtpjcdbjablijkaaGreatDoorTan
import Derived.Test.YtpjcdbjablijkaaGreatDoorTat
import Derived.Test.YtpjcdbjablijkaaGreatDoorTap
import Derived.Test.YtpjcdbjablijkaaGreatDoorTaa
set_option maxRecDepth 1000000
set_option maxHeartbeats 40000000
section
namespace Go.Rb
theorem div_top {X r i:Nat}(hr:0<r):(2*(X/2^(i+1) %r)+bit2 X i) %r=X/2^i %r∧bit2 (X/r) i=(2*(X/2^(i+1) %r)+bit2 X i)/r:=by
 have e:X/2^i=2*(X/2^(i+1))+bit2 X i:=by
  rw[Nat.pow_succ,←Nat.div_div_eq_div_mul]
  unfold bit2
  omega
 have h1:r*(X/2^(i+1)/r)+X/2^(i+1) %r=X/2^(i+1):=Nat.div_add_mod _ _
 have h2:X/2^(i+1) %r<r:=Nat.mod_lt _ hr
 have h3:=bit2_lt X i
 obtain⟨Q,hQ⟩:∃Q,Q=X/2^(i+1)/r:=⟨_,rfl⟩
 obtain⟨R,hR⟩:∃R,R=X/2^(i+1) %r:=⟨_,rfl⟩
 obtain⟨t,ht⟩:∃t,t=2*R+bit2 X i:=⟨_,rfl⟩
 rw[←hQ,←hR]at h1
 rw[←hR]at h2⊢
 have e2:X/2^i=r*(2*Q)+t:=by
  rw[e,←h1,ht,Nat.mul_add]
  have:r*(2*Q)=2*(r*Q):=by ac_rfl
  omega
 rw[←ht]
 constructor
 ·rw[e2,Nat.mul_add_mod]
 ·have e3:X/r/2^i=X/2^i/r:=by rw[Nat.div_div_eq_div_mul,Nat.div_div_eq_div_mul,Nat.mul_comm]
  unfold bit2
  rw[e3,e2,Nat.mul_add_div hr]
  have h5:t/r<2:=by rw[Nat.div_lt_iff_lt_mul hr];omega
  clear e e2 e3 h1 ht
  generalize t/r=q at*
  omega
theorem T2.half {X Y k m:Nat}(h:T2 X k) (hX:X≠0) (hY:Y≤X/2) (h':T2 Y m):m<k:=by
 have k0:k≠0:=fun e=>hX (h.zero_iff.1 e)
 obtain⟨j,rfl⟩:∃j,k=j+1:=⟨k-1,by omega⟩
 have h1:=h.1
 rw[Nat.pow_succ]at h1
 have:=h'.le (m:=j) (x:=X/2) (by omega) hY
 omega
end Go.Rb
namespace Go.Proofs
open Go.RowKit Go.Pf Go.Rb Go.Bg
def mixb (X r i:Nat) (j:Nat):Value:= .int .i64 ((if j<i then 0 else bit2 (X/r) j:Nat):Int)
structure TT (r x B1:Nat) (W1:World) (X k:Nat) (ds:List Nat) (lv o:Value) (wr:World):Prop where
 tight:T2 X k
 dig:digs r x=ds++digs r X
 bits:BtV wr lv X k
 own:wr.ownsRow B1 5 1 o ds.length (Lib.byteCells (ds.map sgn))
 bel:Below B1 W1 wr
 le:B1≤wr.heap.size
structure TI (r X k g:Nat) (w0:World) (i R:Nat) (wr:World):Prop where
 le:i≤k
 rest:R=X/2^i %r
 row:RowIs wr g k 3 (mixb X r i)
 bel:Below g w0 wr
 g0:g=w0.heap.size
theorem own_below {w w':World} {B:Nat} {e:TypeId} {size n:Nat} {v:Value} {xs:List Value}(h:w.ownsRow B e size v n xs) (hb:Below w.heap.size w w'):w'.ownsRow B e size v n xs:=by
 refine⟨h.1,?_⟩
 rcases h.2 with h2|⟨g,cap,cur,h1,h2,h3,h4⟩
 ·exact .inl h2
 ·exact .inr ⟨g,cap,cur,h1,h2,(hb.block g (Array.getElem?_eq_some_iff.1 h3).1).trans h3,h4⟩
theorem TT.below {r x B1:Nat} {W1:World} {X k:Nat} {ds:List Nat} {lv o:Value} {w w':World}(h:TT r x B1 W1 X k ds lv o w) (hb:Below w.heap.size w w'):TT r x B1 W1 X k ds lv o w':=
 ⟨h.tight,h.dig,h.bits.below hb,own_below h.own hb,h.bel.trans (hb.mono h.le),Nat.le_trans h.le hb.size⟩
theorem makeInt (k:Nat) (hk:k≤1000000000):∃M:Array Value,M.size=k∧(∀j,j<k→M[j]? =some (.int .i64 0))∧∀W:World,(Instr.makeSlice 63 (.int .i64 (k:Int)) (.int .i64 (k:Int))).run Tryz.prog W= .ok (.slice (some ⟨W.heap.size,0,none⟩) k k) (W.alloc (.cells M 3)):=by
 obtain⟨i0,hi,hz0,hz1,hz2⟩:=info_parts Tryz.infoInt
 refine⟨madeCells #[.int .i64 0] k,size_madeCells _ _,fun j hj=> ?_,fun W=> ?_⟩
 ·rw[←Array.getElem?_toList,toList_madeCells_one,List.getElem?_replicate,if_pos hj]
 ·have h:=run_make (P:=Tryz.prog) W 63 3 i0 (.int .i64 0) Tryz.underlying63 hi hz0 .i64 .i64 (k:Int) (k:Int) (by omega) (by omega) (by rw[hz2];omega) (by omega)
  rw[hz1]at h
  have e:(Value.int .i64 0).cells= #[Value.int .i64 0]:=rfl
  rw[e]at h
  simpa using h
theorem mixb_top {X k r:Nat}(j:Nat) (hj:j<k):mixb X r k j= .int .i64 0:=by
 unfold mixb
 rw[if_pos hj];rfl
theorem TI.start {r X k:Nat} {w0:World}(h:X<2^k){M:Array Value}(hM:M.size=k) (h0:∀j,j<k→M[j]? =some (.int .i64 0)):TI r X k w0.heap.size w0 k 0 (w0.alloc (.cells M 3)):=by
 refine⟨nR _,by rw[Nat.div_eq_of_lt h];simp,⟨M,heap_alloc_new w0 _,by omega,fun j hj=> ?_⟩,(Below.refl _ _).alloc (nR _) _,rfl⟩
 rw[h0 j hj,mixb_top j hj]
theorem TI.next {r X k g i R R':Nat} {w0 wr:World}(h:TI r X k g w0 (i+1) R wr) (hR:R'=X/2^i %r) (hb:bit2 (X/r) i=0):TI r X k g w0 i R' wr:=by
 refine⟨by have:=h.le;omega,hR,?_,h.bel,h.g0⟩
 obtain⟨cur,h1,h2,h3⟩:=h.row
 refine⟨cur,h1,h2,fun j hj=> ?_⟩
 rw[h3 j hj]
 unfold mixb
 by_cases e:j=i
 ·subst e;rw[if_pos (by omega),if_neg (by omega),hb]
 ·by_cases e2:j<i
  ·rw[if_pos (by omega),if_pos e2]
  ·rw[if_neg (by omega),if_neg e2]
theorem TI.one {r X k g i R R':Nat} {w0 wr:World}(h:TI r X k g w0 (i+1) R wr) (hR:R'=X/2^i %r) (hb:bit2 (X/r) i=1):TI r X k g w0 i R' (wr.setCell ⟨g,i,none⟩ (.int .i64 1)):=by
 have hl:=h.le
 refine⟨by omega,hR,h.row.set _ (by omega) fun j hj=> ?_,h.bel.setCell (p:=⟨g,i,none⟩) (nR _) _,h.g0⟩
 unfold mixb
 by_cases e:j=i
 ·subst e;rw[if_pos rfl,if_neg (by omega),hb];rfl
 ·rw[if_neg e]
  by_cases e2:j<i
  ·rw[if_pos e2,if_pos (by omega)]
  ·rw[if_neg e2,if_neg (by omega)]
theorem TI.done {r X k g R:Nat} {w0 wr:World}(h:TI r X k g w0 0 R wr) (hX:X/r<2^k) (hk:k≤1000000000):BtV wr (.slice (some ⟨g,0,none⟩) k k) (X/r) k:=by
 refine .inr ⟨g,0,k,rfl,nR _,by omega,h.row.lt,hX,fun j hj=> ?_⟩
 rw[Nat.zero_add,h.row.cell hj]
 unfold mixb
 rw[if_neg (by omega)]
theorem BtV.block {w w':World} {g c x m:Nat}(h:BtV w (.slice (some ⟨g,0,none⟩) m c) x m) (hb:w'.heap[g]? =w.heap[g]?) (hs:w.heap.size≤w'.heap.size):BtV w' (.slice (some ⟨g,0,none⟩) m c) x m:=by
 rcases h with⟨h1,_⟩|⟨b,o,c',h1,h2,h3,h4,h5,h6⟩
 ·simp at h1
 ·simp only[Value.slice.injEq,Option.some.injEq,Addr.mk.injEq]at h1
  obtain⟨⟨rfl,rfl,_⟩,_,rfl⟩:=h1
  exact .inr ⟨g,0,c,rfl,h2,h3,by omega,h5,fun j hj=>(World.cell?_of_block hb).trans (h6 j hj)⟩
theorem own_text {w:World} {B n tc:Nat} {ta:Option Addr} {l:List UInt8}(h:w.ownsRow B 5 1 (.slice ta n tc) n (Lib.byteCells l)) (hn:0<n):
 ∃t:ByteArray,t.data.toList=l∧(convert 88 9 (.slice ta n tc)).run Tryz.prog w= .ok (.string t) w:=by
 have hl:l.length=n:=by have:=h.1;rw[Lib.byteCells_length]at this;omega
 rcases h.2 with⟨h1,h2⟩|⟨g,cap,cur,h1,h2,h3,h4,h5,h6,h7⟩
 ·omega
 ·simp only[Value.slice.injEq]at h1
  obtain⟨rfl,_,rfl⟩:=h1
  refine⟨⟨l.toArray⟩,rfl,?_⟩
  have hc:∀i,i<n→w.cell? ⟨g,0+i,none⟩=some (.int .u8 ((l.map fun x=>(x.toNat:Int)).getD i 0)):=by
   intro i hi
   have h8:=World.ownsRow.cellAt h i (by omega)
   rw[Nat.zero_add,h8,List.getD_eq_getElem?_getD,List.getElem?_map]
   unfold Lib.byteCells
   rw[List.getElem?_map,List.getElem?_eq_getElem (by omega)]
   rfl
  rw[run_convert_bytes_arg w 88 5 Tryz.underlying88 Tryz.underlying5 g 0 n tc (l.map fun x=>(x.toNat:Int)) (by simp[hl]) hc 9 Tryz.underlying9]
  congr 2
  apply ByteArray.ext
  apply Array.toList_inj.1
  rw[strOfNums_data,List.map_map]
  show _=l
  conv=>rhs;rw[←List.map_id l]
  apply List.map_congr_left
  intro x _
  simp
def RTextSays (r x:Nat) (w:World) (e:Ending) (w':World):Prop:=∃t:ByteArray,e= .returned (.string t)∧t.data.toList=numL r x∧Below w.heap.size w w'
theorem Tryz.rtext (v:Value) (x m r:Nat) (w:World) (hm:m≤1000000) (hr:2≤r) (hr2:r≤36) (hv:Hid (BtV w v x m)) (hT:T2 x m):
 Calls Tryz.prog 24 #[.agg #[.bool false,v],.int .i64 r] w (RTextSays r x w):=by
 obtain⟨a,c,rfl⟩:=hv.out.slice
 obtain⟨i0,hi,hz0,hz1,hz2⟩:=info_parts Tryz.infoU8
 have HT:=Hi hT
 clear hT
 go_enter Tryz.func24,Tryz.ntmps24
 by_cases h0:m=0
 ·subst h0
  have hx0:x=0:=HT.out.zero_iff.1 rfl
  subst hx0
  go_wp2
  go_ret
  exact⟨⟨#[48]⟩,rfl,rfl,(Below.refl _ _).alloc (nR _) _⟩
 ·have h0':((m:Int)==0)=false:=by rw[Bool.eq_false_iff];intro h;have:=eq_of_beq h;omega
  have hx0:x≠0:=fun h=>h0 (HT.out.zero_iff.2 h)
  go_wp2_with fail
  generalize hW:w.alloc _=W1
  have bl:Below w.heap.size w W1:=by subst hW;exact(Below.refl _ _).alloc (nR _) _
  have c0:W1.cell? ⟨w.heap.size,0,none⟩=some (.bool false):=by subst hW;go_simp
  have c1:W1.cell? ⟨w.heap.size,1,none⟩=some (.slice a m c):=by subst hW;go_simp
  have hlt0:w.heap.size<W1.heap.size:=by subst hW;simp
  have hv1:=Hi (hv.out.below bl)
  clear hW
  have T0:TT r x W1.heap.size W1 x m [] (.slice a m c) (.slice none 0 0) W1:=⟨HT.out,by simp,hv1.out,World.ownsRow_nil _ _ _ _,Below.refl _ _,nR _⟩
  have HX:=Hi hx0
  have HBL:=Hi bl
  clear h0 hx0 bl
  go_loopw [5,6] (fun out l wr=>∃(X k:Nat) (ds:List Nat),k≤m∧TT r x W1.heap.size W1 X k ds l out wr∧ds.length+k≤m) (fun _ l _=>match l with| .slice _ n _=>n|_=>0)
  case atStart=>exact⟨x,m,[],nR _,T0,by simp⟩
  case round=>
   obtain⟨X,k,ds,hk,hq,hdk⟩:=hrel
   obtain⟨oa,oc,ho⟩:=own_slice hq.own
   subst ho
   obtain⟨la,lc,hl⟩:=hq.bits.slice
   subst hl
   rcases Nat.eq_zero_or_pos k with hkz|hkp
   ·subst hkz
    have hX:X=0:=hq.tight.zero_iff.1 rfl
    subst hX
    have hds:digs r x=ds:=by have:=hq.dig;rwa [digs_zero,List.append_nil]at this
    obtain⟨L,hL⟩:∃L,L=ds.map sgn:=⟨_,rfl⟩
    have hLl:L.length=ds.length:=by rw[hL,List.length_map]
    have hpos:0<L.length:=by rw[hLl,←hds,digs_pos hr HX.out,List.length_cons];omega
    obtain⟨h,rfl,hgh,hrow⟩:=own_row hq.own hL hpos
    rw[←hLl]
    have NL:Hid (numL r x=L.reverse):=Hi (by unfold numL;rw[if_neg HX.out,hds,hL])
    have E0:wr.cell? ⟨w.heap.size,0,none⟩=some (.bool false):=(hq.bel.cell (p:=⟨w.heap.size,0,none⟩) hlt0).trans c0
    have BLW:=Hi (HBL.out.trans (hq.bel.mono (by omega)))
    have hL32:L.length≤1000000:=by omega
    have hrl:=hrow.lt
    have HR:=Hi hrow
    have HPOS:Hid (0<L.length-0):=Hi (by omega)
    clear hds hL hLl hq hrow T0 hv HT hpos
    go_wp2
    obtain⟨wo,rfl⟩:∃wo:World,wo=wr:=⟨_,rfl⟩
    go_loopw [10,11] (fun tv iv ww=>∃(q:Nat),q≤L.length∧iv= .int .i64 ((q:Int)-1)∧ww.ownsRow wo.heap.size 5 1 tv (L.length-q) (Lib.byteCells (L.reverse.take (L.length-q)))∧Below wo.heap.size wo ww∧wo.heap.size≤ww.heap.size) (fun _ iv _=>(intOf iv+1).toNat)
    case atStart=>exact⟨L.length,nR _,by go_num,by rw[Nat.sub_self];exact World.ownsRow_nil _ _ _ _,Below.refl _ _,nR _⟩
    case round=>
     obtain⟨q,hqL,rfl,hown,hbw,hsz⟩:=hrel
     obtain⟨ta,tc,htv⟩:=own_slice hown
     subst htv
     cases q with
     |zero=>
      obtain⟨t,ht,hcv⟩:=own_text hown HPOS.out
      rw[List.take_of_length_le (by rw[List.length_reverse];omega)]at ht
      have HB2:=Hi (BLW.out.trans (hbw.mono (by have:=BLW.out.size;omega)))
      rw[Nat.sub_zero]at hcv
      clear hown hbw
      go_wp2
      go_ret
      exact⟨t,rfl,by rw[ht,NL.out],HB2.out⟩
     |succ q=>
      have hq1:((q+1:Nat):Int)-1=(q:Int):=by omega
      rw[hq1]
      have q0:decide ((0:Int)≤(q:Int))=true:=dTo
      have hqi:(q:Int)<(L.length:Int):=by omega
      obtain⟨ch,hch⟩:∃ch:Nat,ch=(L.getD q 0).toNat:=⟨_,rfl⟩
      have hcell:wr.cell? ⟨h,q,none⟩=some (.int .u8 ch):=by rw[hch];exact(hbw.cell (p:=⟨h,q,none⟩) hrl).trans (HR.out.cell (by omega))
      have HN:Hid (Lib.byteCells (L.reverse.take (L.length-q))=Lib.byteCells (L.reverse.take (L.length-(q+1)))++ [.int .u8 (ch:Nat)]):=Hi (by
       have e:L.length-q=L.length-(q+1)+1:=by omega
       have e2:L.length-1-(L.length-(q+1))=q:=by omega
       rw[e,List.take_succ_eq_append_getElem (by rw[List.length_reverse];omega)]
       unfold Lib.byteCells
       rw[List.map_append,List.map_singleton,List.getElem_reverse,hch]
       simp only[e2,List.getD_eq_getElem?_getD,List.getElem?_eq_getElem (show q<L.length by omega),Option.getD_some])
      have HQ:=Hi (show L.length-q=L.length-(q+1)+1 by omega)
      clear hch
      go_wp2_with (at_builtin;refine wpList_append_own _ rfl _ _ 88 rfl wo.heap.size 5 i0 (.int .u8 0) 1 1 Tryz.underlying88 hi hz0 hz1 hz2 rfl (by decide) _ _ _ rfl (hown.alloc _) ⟨wr.heap.size,0,none⟩ 1 1 [.int .u8 (ch:Nat)] rfl rfl ?c1 ?c2 ?c3 ?c4 ?c5 ?_)
      case c1=>
       intro j u hj
       match j,hj with
       |0,hj=>simp at hj;subst hj;simp[Addr.add]
      case c2=>intro u hu;simp at hu;subst hu;rfl
      case c3=>unfold maxLen;omega
      case c4=>omega
      case c5=>simp;omega
      intro v' w2 hown' hgrow _
      rw[←HN.out,←HQ.out]at hown'
      have hb2:=Hi ((hbw.alloc hsz (.cells #[.int .u8 (ch:Nat)] 5)).grown hgrow (by simp;omega) (fun b hb=>by have:=(hown.lt b hb).1;omega))
      have HO:=Hi hown'
      have hs2:=hgrow.size
      have HS:Hid (wo.heap.size≤w2.heap.size):=Hi (by simp at hs2;omega)
      clear hown hbw hown' hgrow hs2
      go_wp2
      go_roundw
      case rel=>exact⟨q,by omega,by go_num,HO.out,hb2.out,HS.out⟩
      case measure=>simp[intOf]
   ·have hX0:X≠0:=fun h=>by have:=hq.tight.zero_iff.2 h;omega
    obtain⟨M,hM,hM0,hmk⟩:=makeInt k (by omega)
    have I0:TI r X k wr.heap.size wr k 0 (wr.alloc (.cells M 3)):=TI.start hq.tight.1 hM hM0
    have HQ:=Hi hq
    have HX0:=Hi hX0
    have HDK:=Hi hdk
    clear hM hM0 hq hX0
    obtain⟨wo,rfl⟩:∃wo:World,wo=wr:=⟨_,rfl⟩
    go_wp2
    go_loopw [7,9] (fun rv iv ww=>∃(i R:Nat),rv= .int .i64 R∧iv= .int .i64 ((i:Int)-1)∧TI r X k wo.heap.size wo i R ww) (fun _ iv _=>(intOf iv+1).toNat)
    case atStart=>exact⟨k,0,rfl,by go_num,I0⟩
    case round=>
     obtain⟨i,R,rfl,rfl,hi2⟩:=hrel
     have HI:=Hi hi2
     have ll:=hi2.le
     cases i with
     |zero=>
      have hn:R=X %r:=by rw[hi2.rest];simp
      have hn36:R<36:=by rw[hn];have:=Nat.mod_lt X (show 0<r by omega);omega
      have hal:=alpha_at R hn36
      have hXr:X/r<2^k:=Nat.lt_of_le_of_lt (Nat.div_le_self _ _) HQ.out.tight.1
      have hdone:=Hi (hi2.done hXr (by omega))
      have HN:=Hi hn
      have htt:=Hi (HQ.out.below hi2.bel)
      have hown:=htt.out.own
      have hwsz:=htt.out.le
      clear hn hXr hi2
      go_wp2_with (go_at_call 57;(with_reducible refine(Tryz.rcut _ (X/r) k _ hdone.out).mono ?_))
      rintro e w' ⟨k2,ht,rfl,rfl⟩
      have hk2:=ht.half (h:=HQ.out.tight) HX0.out (Nat.div_le_div_left hr (by decide))
      have HCUT:=Hi (hdone.out.cut (by omega) ht.1)
      have HK2:=Hi hk2
      have hdl:ds.length≤1000000:=by omega
      clear hk2
      go_wp2_with (at_builtin;refine wpList_append_own _ rfl _ _ 88 rfl W1.heap.size 5 i0 (.int .u8 0) 1 1 Tryz.underlying88 hi hz0 hz1 hz2 rfl (by decide) _ _ _ rfl (hown.alloc _) ⟨wr.heap.size,0,none⟩ 1 1 [.int .u8 ((sgn R).toNat:Nat)] rfl rfl ?c1 ?c2 ?c3 ?c4 ?c5 ?_)
      case c1=>
       intro j u hj
       match j,hj with
       |0,hj=>simp at hj;subst hj;simp[Addr.add]
      case c2=>intro u hu;simp at hu;subst hu;rfl
      case c3=>unfold maxLen;omega
      case c4=>omega
      case c5=>simp;omega
      intro v' w2 hown' hgrow _
      obtain⟨va,vc,hv'⟩:=own_slice hown'
      subst hv'
      have HTT:Hid (TT r x W1.heap.size W1 (X/r) k2 (ds++ [R]) (.slice (some ⟨wo.heap.size,0,none⟩) k2 k) (.slice va (ds.length+1) vc) w2):=Hi (by
       have hgs:=hgrow.size
       simp at hgs
       have hgo:some wo.heap.size≠(Value.slice oa ds.length oc).ownBlock:=fun e=>by have:=(HQ.out.own.lt _ e.symm).2;omega
       have hgl:=HI.out.row.lt
       refine⟨ht,?_,HCUT.out.block ?_ (by omega),?_,?_,by omega⟩
       ·rw[HQ.out.dig,digs_pos hr HX0.out,←HN.out,List.append_assoc];rfl
       ·rw[hgrow.block wo.heap.size (by simp;omega) hgo]
        exact Lib.alloc_old wr _ _ hgl
       ·have e:Lib.byteCells ((ds++ [R]).map sgn)=Lib.byteCells (ds.map sgn)++ [.int .u8 ((sgn R).toNat:Nat)]:=by simp[Lib.byteCells]
        rw[e,List.length_append,List.length_singleton]
        exact hown'
       ·exact(htt.out.bel.alloc (by omega) _).grown hgrow (by simp;omega) (fun b hb=>by have:=(hown.lt b hb).1;omega))
      clear hown hown' hgrow
      go_wp2
      go_roundw
      case rel=>exact⟨X/r,k2,ds++ [R],by have:=HK2.out;omega,HTT.out,by have:=HK2.out;simp;have:=HDK.out;omega⟩
      case measure=>have:=HK2.out;simp;omega
     |succ i=>
      obtain⟨g2,o2,hga,hcell⟩:=(HQ.out.bits.below (w':=wr) hi2.bel).cellAt (j:=i) (by omega)
      subst hga
      obtain⟨b,hb⟩:∃b,b=bit2 X i:=⟨_,rfl⟩
      obtain⟨R',hR'⟩:∃R',R'=X/2^i %r:=⟨_,rfl⟩
      obtain⟨n1,n2⟩:=div_top (X:=X) (r:=r) (i:=i) (by omega)
      have b2:=bit2_lt X i
      have Rb:R<r:=by rw[hi2.rest];exact Nat.mod_lt _ (by omega)
      rw[←hi2.rest,←hb]at n1 n2
      rw[←hb]at hcell b2
      rw[←hR']at n1
      have hq1:((i+1:Nat):Int)-1=(i:Int):=by omega
      rw[hq1]
      have q0:decide ((0:Int)≤(i:Int))=true:=dTo
      have hii:(i:Int)<(k:Int):=by omega
      obtain⟨t,ht⟩:∃t,t=2*R+b:=⟨_,rfl⟩
      have e1:2*(R:Int)+(b:Int)=(t:Int):=by omega
      rw[←ht]at n1 n2
      have tb:(t:Int)≤72:=by omega
      have bb:(b:Int)≤1:=by omega
      have rb:(R:Int)≤36:=by omega
      by_cases hrt:r≤t
      ·have f1:R'=t-r:=by
        rw[←n1,Nat.mod_eq_sub_mod hrt,Nat.mod_eq_of_lt (by omega)]
       have f2:bit2 (X/r) i=1:=by
        rw[n2];exact Nat.div_eq_of_lt_le (by omega) (by omega)
       have e2:(t:Int)-(r:Int)=(R':Int):=by omega
       have HO:=Hi (hi2.one hR' f2)
       have hold:=hi2.row.cell (j:=i) (by omega)
       have hfz:=hi2.row.frozen i
       obtain⟨ov,hov⟩:∃ov:Value,ov=mixb X r (i+1) i:=⟨_,rfl⟩
       rw[←hov]at hold
       have g1:decide ((r:Int)≤(t:Int))=true:=dTo
       clear n1 n2 hb hR' hi2 ht f1 f2 hov
       go_wp2
       go_roundw
       case rel=>exact⟨i,R',by go_num,by go_num,HO.out⟩
       case measure=>simp[intOf]
      ·have f1:R'=t:=by rw[←n1,Nat.mod_eq_of_lt (by omega)]
       have f2:bit2 (X/r) i=0:=by rw[n2];exact Nat.div_eq_of_lt (by omega)
       have HO:=Hi (hi2.next hR' f2)
       have HF:=Hi f1
       have g1:decide (r≤t)=false:=decide_eq_false hrt
       clear n1 n2 hb hR' hi2 ht f1 f2
       go_wp2
       go_roundw
       case rel=>exact⟨i,R',by rw[HF.out],by go_num,HO.out⟩
       case measure=>simp[intOf]
end Go.Proofs
end
section
namespace Go.Proofs
open Go.RowKit Go.Pf Go.Lx Go.Rb Go.Bg
structure Tk7 (w:World) (b:Nat):Prop where
 h:w.heap[b]? =some (.cells #[.int .i64 0,.string ⟨#[]⟩,.string ⟨#[]⟩,.int .u64 0,.int .i64 0,.int .i64 0,.bool false] 28 (0,0))
theorem Tk7.below {w w':World} {b:Nat}(h:Tk7 w b) (hb:Below w.heap.size w w'):Tk7 w' b:=⟨(hb.block b (Array.getElem?_eq_some_iff.1 h.h).1).trans h.h⟩
theorem Tk7.cs {w:World} {b:Nat}(h:Tk7 w b):w.cell? ⟨b,0,none⟩=some (.int .i64 0)∧w.cell? ⟨b,1,none⟩=some (.string ⟨#[]⟩)∧w.cell? ⟨b,2,none⟩=some (.string ⟨#[]⟩)∧w.cell? ⟨b,3,none⟩=some (.int .u64 0)∧w.cell? ⟨b,4,none⟩=some (.int .i64 0)∧w.cell? ⟨b,5,none⟩=some (.int .i64 0)∧w.cell? ⟨b,6,none⟩=some (.bool false):=by
 refine⟨?_,?_,?_,?_,?_,?_,?_⟩<;>(rw[Lib.cell_of_heap h.h];rfl)
theorem Tk7.f {w:World} {b:Nat}(h:Tk7 w b) (i:Nat):w.frozen? ⟨b,i,none⟩=false:=Lib.frozen_of_heap h.h i
theorem Tk7.fs {w:World} {b:Nat}(h:Tk7 w b):w.frozen? ⟨b,0,none⟩=false∧w.frozen? ⟨b,1,none⟩=false∧w.frozen? ⟨b,2,none⟩=false∧w.frozen? ⟨b,3,none⟩=false∧w.frozen? ⟨b,4,none⟩=false∧w.frozen? ⟨b,5,none⟩=false∧w.frozen? ⟨b,6,none⟩=false:=⟨h.f 0,h.f 1,h.f 2,h.f 3,h.f 4,h.f 5,h.f 6⟩
end Go.Proofs
end
section
namespace Go.Proofs
open Go.RowKit Go.Pf Go.Lx Go.Hb Go.Rb Go.Bg
def ChrEnd (o:Option TR) (w:World) (e:Ending) (w':World):Prop:=
 (e=match o with
  |none=> .returned (.tuple #[badV 0,.int .i64 0,.bool false])
  |some R=> .returned (.tuple #[TR.tok R,.int .i64 (TR.er R),.bool true]))∧Below w.heap.size w w'
theorem ChrEnd.ok {o:Option TR} {w w':World} {x a E:Nat} {nu:ByteArray}(h:o=some (.ok 4 ⟨#[]⟩ (numB x) 0 a E)) (hn:nu.data.toList=numL 10 x) (hb:Below w.heap.size w w'):ChrEnd o w (.returned (.tuple #[tokV 4 ⟨#[]⟩ nu 0 a E false,.int .i64 0,.bool true])) w':=by
 subst h;rw[numB_of hn];exact⟨rfl,hb⟩
theorem beq_of_ne {a:Int} {n:Int}(h:a≠n):(a==n)=false:=by rw[Bool.eq_false_iff];intro e;exact h (eq_of_beq e)
theorem beq_of_eq {a:Int} {n:Int}(h:a=n):(a==n)=true:=by rw[h];exact beq_self_eq_true _
theorem Tk7.new (w:World):Tk7 (w.alloc (.cells #[.int .i64 0,.string ⟨#[]⟩,.string ⟨#[]⟩,.int .u64 0,.int .i64 0,.int .i64 0,.bool false] 28)) w.heap.size:=⟨heap_alloc_new w _⟩
theorem Tk7.lt {w:World} {b:Nat}(h:Tk7 w b):b<w.heap.size:=(Array.getElem?_eq_some_iff.1 h.h).1
end Go.Proofs
end
