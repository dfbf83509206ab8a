import Derived.Test.YtnipmfaikiaipaaGreatDoorWqRun
import Derived.Test.YtnipmfaikiaipaaGreatDoorTba
import Derived.Lib.OthersKept
import Derived.Laws.Concat
set_option linter.unusedVariables false
set_option linter.unusedSimpArgs false
set_option maxRecDepth 1000000
set_option maxHeartbeats 40000000
section
namespace Go.Lx
open Go.Hb Go.Rb Go.Bg Go.Pf Go.Proofs
def JG (b:UInt8):List UInt8:=
 if b.toNat=39\/b.toNat=92 then [92,b]
 else if b.toNat=10 then [92,110]
 else if b.toNat<32\/b.toNat=127 then 92::120::(Ca 16 b.toNat++ [92])
 else [b]
def DK (l:List UInt8):List UInt8:=l.flatMap JG
def qw (l:List UInt8):List UInt8:=39::(DK l++ [39])
theorem SB:∀v,v<128->(v<16/\Ca 16 v= [J5 v])\/(16<=v/\Ca 16 v= [J5 (v/16),J5 (v %16)]):=by decide+kernel
theorem ae {v:Int}(h:AR v) (hv:128<=v):∀c∈Lib.encodeRune v,128<=c.toNat:=by
 intro c hc;rw[Ar]at hc;obtain⟨x,hx,rfl⟩:=List.mem_map.1 hc;have hb:=Lib.encodeRuneZ_byte v x hx;rw[aQ _ (by omega)];rcases h.cases with c1|c1|c1|c1
 ·omega
 ·rw[Lib.encodeRuneZ_two c1.1 c1.2]at hx;simp at hx;omega
 ·rw[Lib.encodeRuneZ_three c1]at hx;simp at hx;omega
 ·rw[Lib.encodeRuneZ_four c1.1 c1.2]at hx;simp at hx;omega
theorem UT {b:UInt8}(h:128<=b.toNat):JG b= [b]:=by
 unfold JG;rw[if_neg (by omega),if_neg (by omega),if_neg (by omega)]
theorem JH:∀{l:List UInt8},(∀b∈l,128<=b.toNat)->DK l=l
 | [],_=>rfl
 |b::l,h=>by
  unfold DK;rw[List.flatMap_cons,UT (h b (by simp))];have:=JH (l:=l) (fun x hx=>h x (by simp[hx]));unfold DK at this;rw[this];rfl
theorem Uf (a b:List UInt8):DK (a++b)=DK a++DK b:=List.flatMap_append
theorem DC {s:ByteArray} {p:Nat}(h:p<s.size):s.data.toList.drop p=(AE s p).toNat.toUInt8::s.data.toList.drop (p+1):=by
 rw[List.drop_eq_getElem_cons (by simpa using h)];congr 1;apply UInt8.toNat_inj.1;rw[aQ _ (by have:=C6 s p;have:=DF s p;omega),AO s p h,IT];rfl
theorem Iy {x y:Int}(h:x=y):x.toNat.toUInt8=y.toNat.toUInt8:=by rw[h]
theorem Yc {s:ByteArray} {p v n:Nat}(h:B8 s p v n):s.data.toList.drop p=Lib.encodeRune v++s.data.toList.drop (p+n):=by
 have hl:=h.last;have h0:=h.pos.2;have b0:=DF s p;rw[Ar];unfold B8 cont at h;rcases h with⟨e,h1,h2,h3⟩|⟨e,h1,h2,h3,h4,h5⟩|⟨e,h1,h2,h2',h3,h4,h5⟩|⟨e,h1,h2,h2',h2'',h3,h4,h5⟩
 ·obtain rfl:n=1:=by omega
  rw[DC (by omega),Lib.encodeRuneZ_one (by omega) (by omega),h3];rfl
 ·obtain rfl:n=2:=by omega
  rw[DC (p:=p) (by omega),DC (p:=p+1) (by omega),Lib.encodeRuneZ_two (by omega) (by omega)];simp only[List.map_cons,List.map_nil,List.cons_append,List.nil_append];refine congr (congrArg _ (Iy (by omega))) (congr (congrArg _ (Iy (by omega))) rfl)
 ·obtain rfl:n=3:=by omega
  unfold AR at h5;rw[DC (p:=p) (by omega),DC (p:=p+1) (by omega),show p+1+1=p+2 from rfl,DC (p:=p+2) (by omega),Lib.encodeRuneZ_three (by omega)];simp only[List.map_cons,List.map_nil,List.cons_append,List.nil_append];refine congr (congrArg _ (Iy (by omega))) (congr (congrArg _ (Iy (by omega))) (congr (congrArg _ (Iy (by omega))) rfl))
 ·obtain rfl:n=4:=by omega
  unfold AR at h5;rw[DC (p:=p) (by omega),DC (p:=p+1) (by omega),show p+1+1=p+2 from rfl,DC (p:=p+2) (by omega),show p+2+1=p+3 from rfl,DC (p:=p+3) (by omega),Lib.encodeRuneZ_four (by omega) (by omega)];simp only[List.map_cons,List.map_nil,List.cons_append,List.nil_append];refine congr (congrArg _ (Iy (by omega))) (congr (congrArg _ (Iy (by omega))) (congr (congrArg _ (Iy (by omega))) (congr (congrArg _ (Iy (by omega))) rfl)))
end Go.Lx
end
section
namespace Go.Lx
open Go.Hb Go.Rb Go.Bg Go.Pf Go.Proofs
theorem Lc {s:ByteArray} {p v n:Nat}(h:B8 s p v n):(s.data.toList.drop p).take n=Lib.encodeRune v:=by
 rw[Yc h,List.take_append_of_le_length (by rw[Iw h];exact Nat.le_refl _),List.take_of_length_le (by rw[Iw h];exact Nat.le_refl _)]
theorem I3 (s:ByteArray) (p n:Nat):DK (s.data.toList.take (p+n))=DK (s.data.toList.take p)++DK ((s.data.toList.drop p).take n):=by
 rw[List.take_add,Uf]
theorem KU {s:ByteArray} {p v n:Nat}(h:B8 s p v n) (hv:v<128):DK (s.data.toList.take (p+n))=DK (s.data.toList.take p)++JG v.toUInt8/\(v.toUInt8).toNat=v:=by
 refine⟨?_,aQ v (by omega)⟩;rw[I3,Lc h,Ar,Lib.encodeRuneZ_one (by omega) (by omega)];simp[DK]
theorem Oc {s:ByteArray} {p v n:Nat}(h:B8 s p v n) (hv:128<=v):DK (s.data.toList.take (p+n))=DK (s.data.toList.take p)++Lib.encodeRune v:=by
 rw[I3,Lc h,JH (ae h.pos.2 (by omega))]
theorem Pu (s:ByteArray) (p n:Nat):(s.extract p (p+n)).data.toList=(s.data.toList.drop p).take n:=by
 rw[Lib.extract_data];rw[show p+n-p=n by omega]
theorem Sm {s:ByteArray} {p n:Nat}(hd:(∃v:Nat,B8 s p v n/\128<=v)\/(n=1/\p<s.size/\EG s p)):DK (s.data.toList.take (p+n))=DK (s.data.toList.take p)++(s.extract p (p+n)).data.toList:=by
 rcases hd with⟨v,h,hv⟩|⟨rfl,hp,hn⟩
 ·rw[Oc h hv,Pu s p n,Lc h]
 ·have hb:128<=AE s p:=by
   rcases Int.lt_or_le (AE s p) 128 with h1|h1
   ·exact absurd (FV hp h1) (hn _ _)
   ·exact h1
  rw[I3,Pu s p 1,DC hp];rw[List.take_succ_cons,List.take_zero];have e:DK [(AE s p).toNat.toUInt8]= [(AE s p).toNat.toUInt8]:=JH (fun x hx=>by
   obtain rfl:=List.mem_singleton.1 hx;rw[aQ _ (by have:=C6 s p;have:=DF s p;omega)];omega)
  rw[e]
theorem SY (l:List UInt8):(DK l).length<=5*l.length:=by
 induction l with
 |nil=>simp[DK]
 |cons b l ih=>
  have h1:DK (b::l)=JG b++DK l:=by simp[DK]
  have h2:(JG b).length<=5:=by
   unfold JG;split
   ·simp
   ·split
    ·simp
    ·split
     ·rename_i h3;rcases SB b.toNat (by omega)with⟨_,e⟩|⟨_,e⟩<;>rw[e]<;>simp
     ·simp
  rw[h1,eR,List.length_cons];omega
end Go.Lx
end
section
namespace Go.Proofs
open Go.RowKit Go.Hb Go.Bg Go.Proofs.YtnipmfaikiaipaaGreatDoor Go.Proofs.YtnipmfaikiaipaaGreatDoor.Ab
theorem dS (v:Nat) (hv:v<32\/v=127){W:World}(h:Aj W):Calls Tryz.prog 59 #[.int .i64 v,.int .i64 16] W fun e W'=>e= .returned (.string ⟨(Ca 16 v).toArray⟩)/\Below W.heap.size W W':=by
 obtain⟨W0,h1,h2,h3,_⟩:=h;have hr0:=List.all_eq_true.1 Xn v (X7 hv);obtain⟨st',hr⟩:=N4 hr0;obtain⟨c,hc⟩:∃c,Tryz.f59.body=some c:=⟨_,rfl⟩;refine(Jv (E:=env) fits rfl (Nat.le_refl _) SX Tryz.func59 hc hr h3 h1 h2 (.cons _ _ _ _ (.int _ _) (.cons _ _ _ _ (.int _ _) .nil))).mono fun e W' ⟨q,ρ,h1,h2,h3⟩=> ?_;cases h2;exact⟨h1,h3⟩
end Go.Proofs
namespace Go.Proofs
open Go.Shelf Go.RowKit
theorem Ee (B b:Nat) (bs:List Value) (s:ByteArray) (w:World) (h:Lib.IsBuilderF 106 5 B b bs w) (hlen:bs.length+s.size<=140737488355328) (hBw:B<=w.heap.size):
 Calls Tryz.prog 45 #[.pointer (some ⟨b,0,none⟩),.string s] w fun e w'=>e= .returned (.tuple #[.int .i64 s.size,.nilIface])/\(Lib.BuilderAtF 106 5 B b (.pointer (some ⟨b,0,none⟩)) (bs++Lib.strCells s) w'/\Below B w w'/\Lib.OthersKept 5 (some b) w w'):=by
 obtain⟨i0,hi,hz0,hz1,hz2⟩:=info_parts Tryz.infoByte;go_enter Tryz.func45,Tryz.ntmps45
 go_wp2_with (go_at_call 89;refine(GV B b bs _ h).mono ?_)
 rintro e w1 ⟨rfl,h1,hb1,hk1⟩;obtain⟨hB,v,hbk,hown,hne⟩:=h1;have c0:w1.cell? ⟨b,0,none⟩=some (.pointer (some ⟨b,0,none⟩)):=by rw[Lib.cell_of_heap hbk];rfl
 have c1:w1.cell? ⟨b,1,none⟩=some v:=by rw[Lib.cell_of_heap hbk];rfl
 go_wp2_with (at_builtin;refine Lib.wpList_append_own_stringF _ rfl _ _ 104 9 rfl B 5 i0 Tryz.underlying104 Tryz.underlying9 hi hz0 hz1 hz2 _ _ _ rfl hown s rfl ?c3 ?c4 ?c5 ?_)
 case c3=>unfold maxLen;omega
 case c4=>omega
 case c5=>have:=hb1.size;omega
 intro v' w2 hown' hgrow _;have hlt:b<w1.heap.size:=by
  rcases BY b w1.heap.size with h'|h'
  ·exact h'
  ·simp[Array.getElem?_eq_none h']at hbk
 have hb2:w2.heap[b]? =some (.cells #[.pointer (some ⟨b,0,none⟩),v] 106 (0,0)):=by
  rw[hgrow.block b hlt (fun e=>hne e.symm)];exact hbk
 have d0:w2.cell? ⟨b,0,none⟩=some (.pointer (some ⟨b,0,none⟩)):=by rw[Lib.cell_of_heap hb2];rfl
 have d1:w2.cell? ⟨b,1,none⟩=some v:=by rw[Lib.cell_of_heap hb2];rfl
 have f1:w2.frozen? ⟨b,1,none⟩=false:=Lib.frozen_of_heap hb2 1;obtain⟨ao,n',cap,rfl⟩:∃ao n' cap,v'= .slice ao n' cap:=by
  rcases hown'.2 with⟨hv,_⟩|⟨g,cap,cur,fz,hv,_⟩
  ·exact⟨_,_,_,hv⟩
  ·exact⟨_,_,_,hv⟩
 go_wp2;go_ret2;refine⟨rfl,?_,?_,(hk1.grown hgrow (Lib.ownsRowF_kind hown)).setCell ⟨b,1,none⟩ rfl _⟩
 ·exact Lib.BuilderAtF.put (T:=106) (e:=5) hB hb2 (bs':=bs++Lib.strCells s) (by simpa[Lib.strCells_length]using hown') (by decide)
 ·exact(hb1.grown hgrow (by have:=hb1.size;omega) (fun k hk=>(hown.lt k hk).1)).setCell (p:=⟨b,1,none⟩) hB _
end Go.Proofs
end
section
namespace Go.Proofs
open Go.RowKit Go.Hb Go.Bg Go.Lx
structure WR (t:ByteArray) (B K:Nat) (W0:World) (acc:List UInt8) (pos:Nat) (wr:World):Prop where
 MW:Lib.IsBuilderF 106 5 B B (Lib.byteCells acc) wr
 it:wr.heap[K]? =some (.stringIter t pos)
 Ad:Below B W0 wr
 lt:B<K
theorem WR.next {t:ByteArray} {B K:Nat} {W0:World} {acc:List UInt8} {pos:Nat} {wr:World}(h:WR t B K W0 acc pos wr) (hp:pos<t.size) (n c:Nat) (hd:Utf8.decode t pos=(c,n)):
 ∃wn,(∀ty,(Instr.next (.pointer (some ⟨K,0,none⟩)) true ty).run Tryz.prog wr= .ok (.tuple #[.bool true,.int .i64 pos,.int .i32 c]) wn)/\WR t B K W0 acc (pos+n) wn:=by
 refine⟨_,fun ty=> ?_,h.MW.iterAt h.it (pos+n),Lib.iterAt_heap wr K t pos _ h.it,Lib.below_iterAt h.Ad (k:=K) (Nat.le_of_lt h.lt) t _,h.lt⟩;have:=Lib.run_next_any_at (P:=Tryz.prog) wr K t pos ty h.it hp;rw[hd]at this;exact this
theorem WR.write {t:ByteArray} {B K:Nat} {W0:World} {acc x:List UInt8} {cells:List Value}(hx:Lib.byteCells x=cells){pos:Nat} {wn W1:World}(h:WR t B K W0 acc pos wn)
 (b0:Lib.BuilderAtF 106 5 B B (.pointer (some ⟨B,0,none⟩)) (Lib.byteCells acc++cells) W1) (b1:Below B wn W1) (b2:Lib.OthersKept 5 (some B) wn W1):WR t B K W0 (acc++x) pos W1:=by
 subst hx;refine⟨.inr ?_,?_,h.Ad.trans b1,h.lt⟩
 ·rw[Lib.byteCells_append];exact b0
 ·exact b2.iter h.it (by have:=h.lt;omega)
theorem WR.call {t:ByteArray} {B K:Nat} {W0:World} {acc:List UInt8} {pos:Nat} {wn W1:World}(h:WR t B K W0 acc pos wn) (hb:Below wn.heap.size wn W1):WR t B K W0 acc pos W1:=by
 have hlt:K<wn.heap.size:=(OF.1 h.it).1;have:=h.lt;exact⟨I6 h.MW hb,(hb.block _ hlt).trans h.it,h.Ad.trans (hb.mono (by omega)),h.lt⟩
theorem WR.sz {t:ByteArray} {B K:Nat} {W0:World} {acc:List UInt8} {pos:Nat} {wn:World}(h:WR t B K W0 acc pos wn):B<=wn.heap.size/\K<wn.heap.size:=by
 have hlt:K<wn.heap.size:=(OF.1 h.it).1;have:=h.lt;omega
theorem WR.pos' {t:ByteArray} {B K:Nat} {W0:World} {acc:List UInt8} {pos:Nat} {wn:World}(h:WR t B K W0 acc pos wn):wn.iterPos K=pos:=by simp[World.iterPos,h.it]
def Zl (s:ByteArray) (w:World) (e:Ending) (w':World):Prop:=∃t:ByteArray,e= .returned (.string t)/\t.data.toList=qw s.data.toList/\Below w.heap.size w w'
theorem YW (s:ByteArray) (w:World) (hs:s.size<=1048576) (hL:Aj w):Calls Tryz.prog 26 #[.string s] w (Zl s w):=by
 obtain⟨B,hB⟩:∃B,B=w.heap.size:=⟨_,rfl⟩;have HL:=Lib.hid hL;have HB:=Lib.hid hB;clear hL;go_enter Tryz.func26,Tryz.ntmps26
 go_wp2_with (go_at_call 57;(with_reducible refine(ES w.heap.size w.heap.size [] 39 _ (Lib.IsBuilderF.of (Lib.fresh_isBuilder 106 5 w)) (by simp) (by simp)).mono ?_))
 rintro e W1 ⟨rfl,h1,b1,k1⟩;have hB1:w.heap.size<W1.heap.size:=by have:=b1.size;simp at this;omega
 have hW1:Below w.heap.size w W1:=((AH _ _).alloc (Nat.le_refl _) _).trans b1;have q0:WR s B W1.heap.size w [39] 0 (W1.iter s 0):=by
  subst hB;refine⟨.inr ?_,World.iter_heap W1 s 0,hW1.alloc (by omega) _,hB1⟩;have:=h1.alloc (.stringIter s 0);exact this
 clear k1 b1 hW1 h1;go_wp2;obtain⟨K,hK⟩:∃K,K=W1.heap.size:=⟨_,rfl⟩;rw[<-hK]at q0⊢;rw[<-hB];clear hB hB1 hK
 go_loopw [] (fun wr=>∃(pos:Nat) (acc:List UInt8),pos<=s.size/\WR s B K w acc pos wr/\acc=39::DK (s.data.toList.take pos)) (fun wr=>s.size-wr.iterPos K)
 case atStart=>exact⟨0,[39],by omega,q0,rfl⟩
 case round=>
  obtain⟨pos,acc,hps,hq,hacc⟩:=hrel;have i1:=hq.pos';clear q0;by_cases hp:pos<s.size
  ·have hal:acc.length<=10000000:=by
    rw[hacc,List.length_cons];have h1:=SY (s.data.toList.take pos);have h2:(s.data.toList.take pos).length<=s.size:=by simp;omega
    omega
   have hbl:(Lib.byteCells acc).length<=10000000:=by rw[Lib.byteCells_length];exact hal
   have HBL:=Lib.hid hbl;have HACC:=Lib.hid hacc;have key:(∃v n:Nat,B8 s pos v n/\Utf8.decode s pos=(v,n)/\v≠65533)\/(∃n:Nat,Utf8.decode s pos=(65533,n)/\1<=n/\pos+n<=s.size/\DK (s.data.toList.take (pos+n))=DK (s.data.toList.take pos)++(s.extract pos (pos+n)).data.toList):=by
    rcases E5 s pos hp with⟨v,n,hc,hd⟩|⟨hn,hd⟩
    ·by_cases h65:v=65533
     ·subst h65;exact .inr ⟨n,hd,by have:=hc.size;omega,hc.last,Sm (.inl ⟨_,hc,by omega⟩)⟩
     ·exact .inl ⟨v,n,hc,hd,h65⟩
    ·exact .inr ⟨1,hd,Nat.le_refl _,by omega,Sm (.inr ⟨rfl,hp,hn⟩)⟩
   clear hacc hbl hal;rcases key with⟨v,n,hc,hd,h65⟩|⟨n,hd,hn1,hn2,hraw⟩
   ·have h1:=hc.size;have h2:=hc.last;have hn1:1<=n:=by omega
    have hv0:v<1114112:=by have:=hc.pos.2;unfold AR at this;omega
    obtain⟨wn,hnx,q2⟩:=hq.next hp n v hd;have T5:((v:Int)==65533)=false:=AA (by omega);have HC:=Lib.hid hc;clear hc hd h65 h1;by_cases h39:v=39\/v=92
    ·have HE:=Lib.hid (KU HC.out (by omega));have T1:(((v:Int)==39)=true)\/(((v:Int)==39)=false/\((v:Int)==92)=true):=by
      rcases h39 with rfl|rfl
      ·exact .inl rfl
      ·exact .inr ⟨rfl,rfl⟩
     have HX:Hid (JG v.toUInt8= [92]++Lib.encodeRune v):=Lib.hid (by
      unfold JG;rw[if_pos (by rw[HE.out.2];exact h39),Ar,Lib.encodeRuneZ_one (by omega) (by omega)];rfl)
     clear h39;rcases T1 with T1|⟨T1,T2⟩
     all_goals
      go_wp2_with (go_at_call 57;(with_reducible refine(ES B B (Lib.byteCells acc) 92 _ q2.MW (by have:=HBL.out;omega) q2.sz.1).mono ?_))
      rintro e W2 ⟨rfl,g1,g2,g3⟩;have q3:=q2.write (x:= [92]) rfl g1 g2 g3;clear g1 g2 g3
      go_wp2_with (go_at_call 58;(with_reducible refine(De B B (Lib.byteCells (acc++ [92])) v (by omega) (by omega) _ q3.MW (by rw[Lib.byteCells_append,eR];have:=HBL.out;simp[Lib.byteCells]at this⊢;omega) q3.sz.1).mono ?_))
      rintro e W3 ⟨rfl,g1,g2,g3⟩;have q4:=q3.write (x:=Lib.encodeRune v) (Lib.byteCells_encodeRune _) g1 g2 g3;clear g1 g2 g3;go_wp2;go_roundw
      case rel=>exact⟨pos+n,_,h2,q4,by rw[HE.out.1,HX.out,HACC.out];simp⟩
      case measure=>rw[i1,q4.pos'];omega
    have T1:((v:Int)==39)=false:=AA (by omega);have T2:((v:Int)==92)=false:=AA (by omega);by_cases h10:v=10
    ·have HE:=Lib.hid (KU HC.out (by omega));have T3:((v:Int)==10)=true:=by rw[h10];rfl
     have HX:Hid (JG v.toUInt8= [92,110]):=Lib.hid (by subst h10;decide);have HLEN:Hid ((Lib.byteCells acc).length+(⟨#[92,110]⟩:ByteArray).size<=140737488355328):=Lib.hid (To (Nat.add_le_add HBL.out (Nat.le_refl 2)) (by decide));clear h39 h10
     go_wp2_with (go_at_call 45;(with_reducible refine(Ee B B (Lib.byteCells acc) ⟨#[92,110]⟩ _ q2.MW HLEN.out q2.sz.1).mono ?_))
     rintro e W2 ⟨rfl,g1,g2,g3⟩;have q3:=q2.write (x:= [92,110]) rfl g1 g2 g3;clear g1 g2 g3;go_wp2;go_roundw
     case rel=>exact⟨pos+n,_,h2,q3,by rw[HE.out.1,HX.out,HACC.out];simp⟩
     case measure=>rw[i1,q3.pos'];omega
    ·have T3:((v:Int)==10)=false:=AA (by omega);by_cases hct:v<32\/v=127
     ·have HE:=Lib.hid (KU HC.out (by omega));have T4:decide ((v:Int)<32)=true\/(decide ((v:Int)<32)=false/\((v:Int)==127)=true):=by
       rcases hct with h|rfl
       ·exact .inl (AN (by omega))
       ·exact .inr ⟨rfl,rfl⟩
      have HX:Hid (JG v.toUInt8= [92,120]++Ca 16 v++ [92]):=Lib.hid (by
       have e:=HE.out.2;unfold JG;rw[if_neg (by omega),if_neg (by omega),if_pos (by omega),e];rfl)
      obtain⟨X,hX⟩:∃X:ByteArray,X=⟨(Ca 16 v).toArray⟩:=⟨_,rfl⟩;have hXs:X.size<=2:=by
       rw[hX];show(Ca 16 v).toArray.size<=2;rcases SB v (by omega)with⟨_,e⟩|⟨_,e⟩<;>rw[e]<;>simp
      have CF:Hid (Calls Tryz.prog 59 #[.int .i64 v,.int .i64 16] wn fun e W'=>e= .returned (.string X)/\Below wn.heap.size wn W'):=Lib.hid (by rw[hX];exact dS v hct (HL.out.below (by rw[<-HB.out];exact q2.Ad)));obtain⟨Y,hY⟩:∃Y:ByteArray,Y=(⟨#[92,120]⟩:ByteArray)++X:=⟨_,rfl⟩;have hYs:Y.size<=4:=by rw[hY,ByteArray.size_append];show 2+_<=_;omega
      obtain⟨Z,hZ⟩:∃Z:ByteArray,Z=Y++(⟨#[92]⟩:ByteArray):=⟨_,rfl⟩;have hZs:Z.size<=5:=by rw[hZ,ByteArray.size_append];show _+1<=_;omega
      have A1:∀w:World,(Op.stringOp .add ⟨#[92,120]⟩ X).run Tryz.prog w= .ok (.string Y) w:=fun w=>by rw[hY];exact run_string_add_sum w _ _ (by show 2+X.size<=_;omega)
      have A2:∀w:World,(Op.stringOp .add Y ⟨#[92]⟩).run Tryz.prog w= .ok (.string Z) w:=fun w=>by rw[hZ];exact run_string_add_sum w _ _ (by show Y.size+1<=_;omega)
      have HZ:Hid (Z.data.toList= [92,120]++Ca 16 v++ [92]):=Lib.hid (by rw[hZ,hY,hX];simp);have HZS:=Lib.hid hZs;clear h39 h10 hct hX hXs hY hYs hZ hZs;rcases T4 with T4|⟨T4,T6⟩
      all_goals
       go_wp2_with (go_at_call 59;(with_reducible refine CF.out.mono ?_))
       rintro e W2 ⟨rfl,hb⟩;have q3:=q2.call hb;clear hb
       go_wp2_with (go_at_call 45;(with_reducible refine(Ee B B (Lib.byteCells acc) Z _ q3.MW (by have:=HBL.out;have:=HZS.out;omega) q3.sz.1).mono ?_))
       rintro e W3 ⟨rfl,g1,g2,g3⟩;have q4:=q3.write (x:=Z.data.toList) (Lib.strCells_eq Z).symm g1 g2 g3;clear g1 g2 g3;go_wp2;go_roundw
       case rel=>exact⟨pos+n,_,h2,q4,by rw[HE.out.1,HX.out,HACC.out,HZ.out];simp⟩
       case measure=>rw[i1,q4.pos'];omega
     ·have T4:decide ((v:Int)<32)=false:=AS (by omega);have T6:((v:Int)==127)=false:=AA (by omega);have HE:Hid (DK (s.data.toList.take (pos+n))=DK (s.data.toList.take pos)++Lib.encodeRune v):=Lib.hid (by
       rcases BY v 128 with h|h
       ·obtain⟨e1,e2⟩:=KU HC.out h;rw[e1];congr 1;unfold JG;rw[if_neg (by omega),if_neg (by omega),if_neg (by omega),Ar,Lib.encodeRuneZ_one (by omega) (by omega)];rfl
       ·exact Oc HC.out h)
      clear h39 h10 hct
      go_wp2_with (go_at_call 58;(with_reducible refine(De B B (Lib.byteCells acc) v (by omega) (by omega) _ q2.MW (by have:=HBL.out;omega) q2.sz.1).mono ?_))
      rintro e W3 ⟨rfl,g1,g2,g3⟩;have q4:=q2.write (x:=Lib.encodeRune v) (Lib.byteCells_encodeRune _) g1 g2 g3;clear g1 g2 g3;go_wp2;go_roundw
      case rel=>exact⟨pos+n,_,h2,q4,by rw[HE.out,HACC.out];simp⟩
      case measure=>rw[i1,q4.pos'];omega
   ·obtain⟨wn,hnx,q2⟩:=hq.next hp n 65533 hd;have T1:(((65533:Nat):Int)==39)=false:=rfl;have T2:(((65533:Nat):Int)==92)=false:=rfl;have T3:(((65533:Nat):Int)==10)=false:=rfl;have T4:decide (((65533:Nat):Int)<32)=false:=rfl;have T6:(((65533:Nat):Int)==127)=false:=rfl;have T5:(((65533:Nat):Int)==65533)=true:=rfl;have CD:Hid (Calls Tryz.prog 60 #[.string (s.extract pos s.size)] wn fun e w'=>e= .returned (.tuple #[.int .i32 (65533:Nat),.int .i64 (n:Nat)])/\Below wn.heap.size wn w'):=Lib.hid (by
     have h:=Tryz.utf8_DecodeRuneInString (s.extract pos s.size) wn (HL.out.below (by rw[<-HB.out];exact q2.Ad)).utf8;rw[Gi s pos hp,hd]at h;exact h)
    have S1:∀W,(Instr.slice 9 (.string s) (some (.int .i64 (pos:Int))) none none).run Tryz.prog W= .ok (.string (s.extract pos s.size)) W:=fun W=>by
     have:=run_slice_string_l (P:=Tryz.prog) (w:=W) (t:=9) (s:=s) Tryz.underlying9 .i64 (pos:Int) (by omega) (by omega);rw[show((pos:Int)).toNat=pos by omega]at this;exact this
    obtain⟨m,hm⟩:∃m,m=pos+n:=⟨_,rfl⟩;have em:(pos:Int)+(n:Int)=(m:Int):=by omega
    have S2:∀W,(Instr.slice 9 (.string s) (some (.int .i64 (pos:Int))) (some (.int .i64 (m:Int))) none).run Tryz.prog W= .ok (.string (s.extract pos m)) W:=fun W=>by
     have:=eE (P:=Tryz.prog) (w:=W) 9 s .i64 .i64 (pos:Int) (m:Int) Tryz.underlying9 (by omega) (by omega) (by omega);rw[show((pos:Int)).toNat=pos by omega,show((m:Int)).toNat=m by omega]at this;exact this
    have HM:Hid (pos+n=m):=Lib.hid hm.symm;rw[<-hm]at hraw hn2 q2;obtain⟨Z,hZ⟩:∃Z,Z=s.extract pos m:=⟨_,rfl⟩;rw[<-hZ]at hraw S2;have hZs:Z.size<=1048576:=by rw[hZ,Of];omega
    have HRAW:=Lib.hid hraw;have HZS:=Lib.hid hZs;obtain⟨U,hU⟩:∃U,U=s.extract pos s.size:=⟨_,rfl⟩;rw[<-hU]at CD S1;have m1:pos<m:=by omega
    clear hraw hZ hZs hd hm hU hn1
    go_wp2_with (go_at_call 60;(with_reducible refine CD.out.mono ?_))
    rintro e W2 ⟨rfl,hb⟩;have q3:=q2.call hb;clear hb
    go_wp2_with (go_at_call 45;(with_reducible refine(Ee B B (Lib.byteCells acc) Z _ q3.MW (by have:=HBL.out;have:=HZS.out;omega) q3.sz.1).mono ?_))
    rintro e W3 ⟨rfl,g1,g2,g3⟩;have q4:=q3.write (x:=Z.data.toList) (Lib.strCells_eq Z).symm g1 g2 g3;clear g1 g2 g3;go_wp2;go_roundw
    case rel=>exact⟨m,_,hn2,q4,by rw[HRAW.out,HACC.out];simp⟩
    case measure=>rw[i1,q4.pos'];omega
  ·obtain rfl:pos=s.size:=by omega
   have hnx:∀ty,(Instr.next (.pointer (some ⟨K,0,none⟩)) true ty).run Tryz.prog wr= .ok (.tuple #[.bool false]) wr:=fun ty=>run_next_end_at wr K s s.size ty hq.it hp;have e0:s.data.toList.take s.size=s.data.toList:=List.take_of_length_le (by simp);rw[e0]at hacc;have hal:acc.length<=10000000:=by
    rw[hacc,List.length_cons];have h1:=SY s.data.toList;have h2:s.data.toList.length=s.size:=by simp
    omega
   have hbl:(Lib.byteCells acc).length<=10000000:=by rw[Lib.byteCells_length];exact hal
   have HBL:=Lib.hid hbl;have HACC:=Lib.hid hacc;clear hacc hbl hal e0
   go_wp2_with (go_at_call 57;(with_reducible refine(ES B B (Lib.byteCells acc) 39 _ hq.MW (by have:=HBL.out;omega) hq.sz.1).mono ?_))
   rintro e W2 ⟨rfl,g1,g2,g3⟩;have q3:=hq.write (x:= [39]) rfl g1 g2 g3;clear g1 g2 g3
   go_wp2_with (go_at_call 47;(with_reducible refine(Tryz.Builder_String_any_k B B (acc++ [39]) _ q3.MW q3.sz.1).mono ?_))
   rintro e W3 ⟨rfl,_,g2,_⟩;go_wp2;go_ret;exact⟨_,rfl,by rw[HACC.out];simp[qw],by have:=q3.Ad.trans g2;rw[HB.out]at this;exact this⟩
end Go.Proofs
end
section
namespace Go.Proofs
open Go.RowKit Go.Hb Go.Bg Go.Lx
def ed:ByteArray:=⟨#[91,93]⟩
def fH:ByteArray:=⟨#[123,125]⟩
structure YV (s:ByteArray) (pl:Bool) (w:World) (e:Ending) (w':World) (t:ByteArray):Prop where
 ret:e= .returned (.string t)
 Ad:Below w.heap.size w w'
 raw:(s=ed\/s=fH\/pl=true)->t=s
 quo:s≠ed->s≠fH->pl=false->t.data.toList=qw s.data.toList
theorem Mb {s:ByteArray} {l:List UInt8}(h:s≠⟨l.toArray⟩):¬s.toList=l:=fun e=>h (ByteArray.ext (Array.toList_inj.1 (by rw[<-gT];exact e)))
theorem gF (s:ByteArray) (pl:Bool) (w:World) (hs:s.size<=1048576) (hL:∀W,Below w.heap.size w W->Aj W) (CP:Hid (Calls Tryz.prog 25 #[.string s] w fun e w'=>e= .returned (.bool pl)/\Below w.heap.size w w')):
 Calls Tryz.prog 10 #[.string s] w fun e w'=>∃t,YV s pl w e w' t:=by
 by_cases h1:s=ed
 ·subst h1;unfold ed at*;go_enter Tryz.func10,Tryz.ntmps10;go_wp2;go_ret;exact⟨_,rfl,AH _ _,fun _=>rfl,fun h=>absurd rfl h⟩
 by_cases h2:s=fH
 ·subst h2;unfold fH ed at*;go_enter Tryz.func10,Tryz.ntmps10;go_wp2;go_ret;exact⟨_,rfl,AH _ _,fun _=>rfl,fun _ h=>absurd rfl h⟩
 have n1:¬s.toList= [91,93]:=Mb h1;have n2:¬s.toList= [123,125]:=Mb h2;have n3:(s.toList== [91,93])=false:=beq_false_of_ne n1;have n4:(s.toList== [123,125])=false:=beq_false_of_ne n2;have HL:=Lib.hid hL;have H1:=Lib.hid h1;have H2:=Lib.hid h2;clear hL h1 h2;have CQ:Hid (∀W,Below w.heap.size w W->Calls Tryz.prog 26 #[.string s] W (Zl s W)):=Lib.hid fun W hb=>YW s W hs (HL.out W hb);cases pl with
 |true=>
  go_enter Tryz.func10,Tryz.ntmps10
  go_wp2_with (go_at_call 25;(with_reducible refine CP.out.mono ?_))
  rintro e W1 ⟨rfl,hb⟩;go_wp2;go_ret;exact⟨_,rfl,hb,fun _=>rfl,fun _ _ h=>by cases h⟩
 |false=>
  go_enter Tryz.func10,Tryz.ntmps10
  go_wp2_with (go_at_call 25;(with_reducible refine CP.out.mono ?_))
  rintro e W1 ⟨rfl,hb⟩
  go_wp2_with (go_at_call 26;(with_reducible refine(CQ.out _ hb).mono ?_))
  rintro e W2 ⟨t,rfl,ht,hb2⟩;go_wp2;go_ret;exact⟨t,rfl,hb.trans (hb2.mono hb.size),fun h=>h.elim (fun h=>absurd h H1.out) (fun h=>h.elim (fun h=>absurd h H2.out) (fun h=>by cases h)),fun _ _ _=>ht⟩
end Go.Proofs
end
