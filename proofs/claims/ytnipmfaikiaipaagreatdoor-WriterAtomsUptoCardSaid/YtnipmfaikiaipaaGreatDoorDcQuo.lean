import Derived.Test.YtnipmfaikiaipaaGreatDoorWqAll
import Derived.Test.YtnipmfaikiaipaaGreatDoorTbn
import Derived.Lib.AppendStr
set_option linter.unusedVariables false
set_option linter.unusedSimpArgs false
set_option maxRecDepth 1000000
set_option maxHeartbeats 40000000
namespace Go.Proofs
open Go.RowKit Go.Hb Go.Bg Go.Rb Go.Lx
theorem gy (a b:List UInt8):Lib.byteCells (a++b)=Lib.byteCells a++Lib.byteCells b:=by simp[Lib.byteCells]
theorem gX (s:ByteArray) (k:Nat) (h:k<s.size):DK (s.data.toList.take (k+1))=DK (s.data.toList.take k)++JG s[k]:=by
 have e:s.data.toList.take (k+1)=s.data.toList.take k++ [s[k]]:=by
  rw[List.take_succ_eq_append_getElem (by simpa using h)];rfl
 rw[e,Uf];congr 1;simp[DK]
theorem gY (s:ByteArray) (k:Nat):(DK (s.data.toList.take k)).length<=5*s.size:=by
 have h1:=SY (s.data.toList.take k);have h2:(s.data.toList.take k).length<=s.size:=by simp;omega
 omega
def gj (s:ByteArray) (B:Nat) (v:Value) (k:Nat) (wr:World):Prop:=wr.ownsRow B 5 1 v (1+(DK (s.data.toList.take k)).length) (Lib.byteCells (39::DK (s.data.toList.take k)))
theorem gR {s:ByteArray} {B k m:Nat} {w2:World} {v':Value} {news:List Value}(h:k<s.size) {l:List UInt8}(hl:JG s[k]=l) (hm:m=l.length) (hn:news=Lib.byteCells l)
 (hown:w2.ownsRow B 5 1 v' (1+(DK (s.data.toList.take k)).length+m) (Lib.byteCells (39::DK (s.data.toList.take k))++news)):gj s B v' (k+1) w2:=by
 subst hm hn;unfold gj;rw[gX s k h,hl,eR,<-Nat.add_assoc];have e2:Lib.byteCells (39::(DK (s.data.toList.take k)++l))=Lib.byteCells (39::DK (s.data.toList.take k))++Lib.byteCells l:=by simp[Lib.byteCells]
 rw[e2];exact hown
theorem gh (s:ByteArray) (w:World) (hs:s.size<=1048576):Calls Tryz.prog 28 #[.string s] w (Zl s w):=by
 obtain⟨i0,hi,hz0,hz1,hz2⟩:=info_parts RA;go_enter Tryz.func28,Tryz.ntmps28;go_wp2
 go_loopw [3,4] (fun v i wr=>∃k:Nat,k<=s.size/\i= .int .i64 k/\gj s w.heap.size v k wr/\Below w.heap.size w wr/\w.heap.size<=wr.heap.size) (fun _ i _=>s.size-(intOf i).toNat)
 case atStart=>
  refine⟨0,by omega,rfl,?_,(AH _ _).alloc (nR _) _,by simp⟩;exact World.ownsRow_lit w #[.int .u8 39] 1 (nR _) (by unfold maxLen;omega) rfl
 case round=>
  obtain⟨k,hk,rfl,hown,hbw,hsz⟩:=hrel;unfold gj at hown;have hq:=gY s k;by_cases hlt:k<s.size
  ·have c256:s[k].toNat<256:=UInt8.toNat_lt _;by_cases t1:s[k].toNat=39\/s[k].toNat=92
   ·have HL:Hid (JG s[k]= [92,s[k]]):=Hi (by unfold JG;rw[if_pos (by omega)]);have T:((s[k].toNat:Int)==39)=true\/(((s[k].toNat:Int)==39)=false/\((s[k].toNat:Int)==92)=true):=by
     rcases t1 with h|h
     ·exact .inl (beq_of_eq (by omega))
     ·exact .inr ⟨AA (by omega),beq_of_eq (by omega)⟩
    clear t1;rcases T with T1|⟨T1,hT2b⟩
    all_goals
     go_wp2_with (at_builtin;refine wpList_append_own _ rfl _ _ 104 rfl w.heap.size 5 i0 (.int .u8 0) 1 1 Tryz.underlying104 hi hz0 hz1 hz2 rfl (by decide) _ _ _ rfl (hown.alloc _) ⟨wr.heap.size,0,none⟩ 2 2 [.int .u8 92,.int .u8 (s[k].toNat:Int)] rfl rfl ?c1 ?c2 ?c3 ?c4 ?c5 ?_)
     case c1=>
      intro j u hj
      match j,hj with
      |0,hj=>simp at hj;subst hj;simp[Addr.add]
      |1,hj=>simp at hj;subst hj;simp[Addr.add]
     case c2=>intro u hu;simp at hu;first|(subst hu;rfl)|(rcases hu with rfl|rfl<;>rfl)
     case c3=>unfold maxLen;omega
     case c4=>omega
     case c5=>simp;omega
     intro v' w2 hown' hgrow _;have hn:=gR hlt HL.out rfl rfl hown';have hb2:=(hbw.alloc (o:= .cells #[.int .u8 92,.int .u8 (s[k].toNat:Int)] 5) hsz).grown hgrow (by simp;omega) (fun k hk=>(hown.lt k hk).1);go_wp2;go_roundw
     case rel=>exact⟨k+1,by omega,by go_num,hn,hb2,by have:=hb2.size;omega⟩
     case measure=>simp[intOf];omega
   have T1:((s[k].toNat:Int)==39)=false:=AA (by omega);have hT2b:((s[k].toNat:Int)==92)=false:=AA (by omega);by_cases t3:s[k].toNat=10
   ·have HL:Hid (JG s[k]= [92,110]):=Hi (by unfold JG;rw[if_neg (by omega),if_pos (by omega)]);have T3:((s[k].toNat:Int)==10)=true:=beq_of_eq (by omega);clear t1 t3
    go_wp2_with (at_builtin;refine wpList_append_own _ rfl _ _ 104 rfl w.heap.size 5 i0 (.int .u8 0) 1 1 Tryz.underlying104 hi hz0 hz1 hz2 rfl (by decide) _ _ _ rfl (hown.alloc _) ⟨wr.heap.size,0,none⟩ 2 2 [.int .u8 92,.int .u8 110] rfl rfl ?c1 ?c2 ?c3 ?c4 ?c5 ?_)
    case c1=>
     intro j u hj
     match j,hj with
     |0,hj=>simp at hj;subst hj;simp[Addr.add]
     |1,hj=>simp at hj;subst hj;simp[Addr.add]
    case c2=>intro u hu;simp at hu;first|(subst hu;rfl)|(rcases hu with rfl|rfl<;>rfl)
    case c3=>unfold maxLen;omega
    case c4=>omega
    case c5=>simp;omega
    intro v' w2 hown' hgrow _;have hn:=gR hlt HL.out rfl rfl hown';have hb2:=(hbw.alloc (o:= .cells #[.int .u8 92,.int .u8 110] 5) hsz).grown hgrow (by simp;omega) (fun k hk=>(hown.lt k hk).1);go_wp2;go_roundw
    case rel=>exact⟨k+1,by omega,by go_num,hn,hb2,by have:=hb2.size;omega⟩
    case measure=>simp[intOf];omega
   have T3:((s[k].toNat:Int)==10)=false:=AA (by omega);by_cases t4:s[k].toNat<32\/s[k].toNat=127
   ·have HL:Hid (JG s[k]=92::120::(Ca 16 s[k].toNat++ [92])):=Hi (by unfold JG;rw[if_neg (by omega),if_neg (by omega),if_pos (by omega)]);have T4:decide ((s[k].toNat:Int)<32)=true\/(decide ((s[k].toNat:Int)<32)=false/\((s[k].toNat:Int)==127)=true):=by
     by_cases h:s[k].toNat<32
     ·exact .inl (AN (by omega))
     ·exact .inr ⟨AS (by omega),beq_of_eq (by omega)⟩
    obtain⟨X,hX⟩:∃X:ByteArray,X=⟨(Ca 16 s[k].toNat).toArray⟩:=⟨_,rfl⟩;have hXs:X.size<=2:=by
     rw[hX];show(Ca 16 s[k].toNat).toArray.size<=2;rcases SB s[k].toNat (by omega)with⟨_,e⟩|⟨_,e⟩<;>rw[e]<;>simp
    have CS:Hid (∀W,Calls Tryz.prog 63 #[.int .i64 (s[k].toNat:Int)] W (Fx false s[k].toNat W)):=Hi (fun W=>Ke s[k].toNat W (by omega));have CT:Hid (∀W v m,Ap W v s[k].toNat m->T2 s[k].toNat m->Calls Tryz.prog 62 #[.agg #[.bool false,v],.int .i64 16] W fun e w'=>e= .returned (.string X)/\Below W.heap.size W w'):=Hi (fun W v m h1 h2=>by
     refine(Sn v s[k].toNat m 16 W (by have:=T2.le h2 (show s[k].toNat<2^8 by omega) (nR _);omega) (by decide) (by decide) (Hi h1) h2).mono ?_;rintro e w' ⟨t,h3,h4,h5⟩;have:t=X:=by
      rw[hX];apply ByteArray.ext;apply Array.toList_inj.1;rw[h4]
     subst this;exact⟨h3,h5⟩)
    obtain⟨Y,hY⟩:∃Y:ByteArray,Y=(⟨#[92,120]⟩:ByteArray)++X:=⟨_,rfl⟩;have hYs:Y.size<=4:=by rw[hY,ByteArray.size_append];show 2+_<=_;omega
    obtain⟨Z,hZ⟩:∃Z:ByteArray,Z=Y++(⟨#[92]⟩:ByteArray):=⟨_,rfl⟩;have hZs:Z.size<=5:=by rw[hZ,ByteArray.size_append];show _+1<=_;omega
    have A1:∀w:World,(Op.stringOp .add ⟨#[92,120]⟩ X).run Tryz.prog w= .ok (.string Y) w:=fun w=>by rw[hY];exact run_string_add_sum w _ _ (by show 2+X.size<=_;omega)
    have A2:∀w:World,(Op.stringOp .add Y ⟨#[92]⟩).run Tryz.prog w= .ok (.string Z) w:=fun w=>by rw[hZ];exact run_string_add_sum w _ _ (by show Y.size+1<=_;omega)
    have HZ:Hid (Z.data.toList=92::120::(Ca 16 s[k].toNat++ [92])):=Hi (by rw[hZ,hY,hX];simp);have HZS:=Hi hZs;have nf:(false&&decide (0<s[k].toNat))=false:=rfl;clear t1 t3 t4 hX hXs hY hYs hZ hZs;rcases T4 with T4|⟨T4,T5⟩
    all_goals
     go_wp2_with (go_at_call 63;(with_reducible refine(CS.out _).mono ?_))
     rintro e W1 ⟨sv,m,rfl,ht,hv,b1⟩;rw[nf]
     go_wp2_with (go_at_call 62;(with_reducible refine(CT.out _ _ _ hv ht).mono ?_))
     rintro e W2 ⟨rfl,b2⟩;have b3:Below wr.heap.size wr W2:=b1.trans (b2.mono b1.size);have own3:=S7 hown b3;have hb3:=hbw.trans (b3.mono hsz);have sz3:=b3.size;clear hv ht b1 b2
     go_wp2_with (at_builtin;refine Lib.wpList_append_own_string _ rfl _ _ 104 9 rfl w.heap.size 5 i0 Tryz.underlying104 Tryz.underlying9 hi hz0 hz1 hz2 _ _ _ rfl own3 Z rfl ?c3 ?c4 ?c5 ?_)
     case c3=>have:=HZS.out;unfold maxLen;omega
     case c4=>have:=HZS.out;omega
     case c5=>omega
     intro v' w2 hown' hgrow _;have hn:=gR hlt HL.out (by rw[<-HZ.out];simp) (by rw[<-HZ.out];rfl) hown';have hb2:=hb3.grown hgrow (by omega) (fun k hk=>(hown.lt k hk).1);go_wp2;go_roundw
     case rel=>exact⟨k+1,by omega,by go_num,hn,hb2,by have:=hb2.size;omega⟩
     case measure=>simp[intOf];omega
   ·have HL:Hid (JG s[k]= [s[k]]):=Hi (by unfold JG;rw[if_neg (by omega),if_neg (by omega),if_neg (by omega)]);have T4:decide ((s[k].toNat:Int)<32)=false:=AS (by omega);have T5:((s[k].toNat:Int)==127)=false:=AA (by omega);clear t1 t3 t4
    go_wp2_with (at_builtin;refine wpList_append_own _ rfl _ _ 104 rfl w.heap.size 5 i0 (.int .u8 0) 1 1 Tryz.underlying104 hi hz0 hz1 hz2 rfl (by decide) _ _ _ rfl (hown.alloc _) ⟨wr.heap.size,0,none⟩ 1 1 [.int .u8 (s[k].toNat:Int)] rfl rfl ?c1 ?c2 ?c3 ?c4 ?c5 ?_)
    case c1=>
     intro j u hj
     match j,hj with
     |0,hj=>simp at hj;subst hj;simp[Addr.add]
    case c2=>intro u hu;simp at hu;first|(subst hu;rfl)|(rcases hu with rfl|rfl<;>rfl)
    case c3=>unfold maxLen;omega
    case c4=>omega
    case c5=>simp;omega
    intro v' w2 hown' hgrow _;have hn:=gR hlt HL.out rfl rfl hown';have hb2:=(hbw.alloc (o:= .cells #[.int .u8 (s[k].toNat:Int)] 5) hsz).grown hgrow (by simp;omega) (fun k hk=>(hown.lt k hk).1);go_wp2;go_roundw
    case rel=>exact⟨k+1,by omega,by go_num,hn,hb2,by have:=hb2.size;omega⟩
    case measure=>simp[intOf];omega
  ·obtain rfl:k=s.size:=by omega
   have e0:s.data.toList.take s.size=s.data.toList:=List.take_of_length_le (by simp);rw[e0]at hown hq;clear e0
   go_wp2_with (at_builtin;refine wpList_append_own _ rfl _ _ 104 rfl w.heap.size 5 i0 (.int .u8 0) 1 1 Tryz.underlying104 hi hz0 hz1 hz2 rfl (by decide) _ _ _ rfl (hown.alloc _) ⟨wr.heap.size,0,none⟩ 1 1 [.int .u8 39] rfl rfl ?c1 ?c2 ?c3 ?c4 ?c5 ?_)
   case c1=>
    intro j u hj
    match j,hj with
    |0,hj=>simp at hj;subst hj;simp[Addr.add]
   case c2=>intro u hu;simp at hu;first|(subst hu;rfl)|(rcases hu with rfl|rfl<;>rfl)
   case c3=>unfold maxLen;omega
   case c4=>omega
   case c5=>simp;omega
   intro v' w2 hown' hgrow _;have hb2:=(hbw.alloc (o:= .cells #[.int .u8 39] 5) hsz).grown hgrow (by simp;omega) (fun k hk=>(hown.lt k hk).1);have hown2:w2.ownsRow w.heap.size 5 1 v' (1+(DK s.data.toList).length+1) (Lib.byteCells (qw s.data.toList)):=by
    have e2:Lib.byteCells (qw s.data.toList)=Lib.byteCells (39::DK s.data.toList)++ [.int .u8 39]:=by simp[Lib.byteCells,qw]
    rw[e2];exact hown'
   obtain⟨ta,tn,tc,rfl⟩:∃ta tn tc,v'= .slice ta tn tc:=by
    rcases hown2.2 with⟨hv,_⟩|⟨g,cap,cur,hv,_⟩
    ·exact⟨_,_,_,hv⟩
    ·exact⟨_,_,_,hv⟩
   obtain rfl:tn=1+(DK s.data.toList).length+1:=by
    rcases hown2.2 with⟨hv,h0⟩|⟨g,cap,cur,hv,_⟩
    ·omega
    ·simp only[Value.slice.injEq]at hv;exact hv.2.1
   obtain⟨t,hl,hconv⟩:=OW hown2 (by omega);go_wp2;go_ret;exact⟨t,rfl,hl,hb2⟩
theorem gw (s:ByteArray) (pl:Bool) (w:World) (hs:s.size<=1048576) (CP:Hid (Calls Tryz.prog 27 #[.string s] w fun e w'=>e= .returned (.bool pl)/\Below w.heap.size w w')):
 Calls Tryz.prog 11 #[.string s] w fun e w'=>∃t,YV s pl w e w' t:=by
 have CQ:Hid (∀W,Calls Tryz.prog 28 #[.string s] W (Zl s W)):=Hi fun W=>gh s W hs;by_cases h:pl=true
 ·subst h;go_enter Tryz.func11,Tryz.ntmps11
  go_wp2_with (go_at_call 27;(with_reducible refine CP.out.mono ?_))
  rintro e W1 ⟨rfl,hb⟩;go_wp2;go_ret;exact⟨_,rfl,hb,fun _=>rfl,fun _ _ h=>by cases h⟩
 obtain rfl:pl=false:=by simpa using h
 clear h;by_cases h1:s=ed
 ·subst h1;unfold ed at*;go_enter Tryz.func11,Tryz.ntmps11
  go_wp2_with (go_at_call 27;(with_reducible refine CP.out.mono ?_))
  rintro e W1 ⟨rfl,hb⟩;go_wp2;go_ret;exact⟨_,rfl,hb,fun _=>rfl,fun h=>absurd rfl h⟩
 by_cases h2:s=fH
 ·subst h2;unfold fH ed at*;go_enter Tryz.func11,Tryz.ntmps11
  go_wp2_with (go_at_call 27;(with_reducible refine CP.out.mono ?_))
  rintro e W1 ⟨rfl,hb⟩;go_wp2;go_ret;exact⟨_,rfl,hb,fun _=>rfl,fun _ h=>absurd rfl h⟩
 have n1:¬s.toList= [91,93]:=Mb h1;have n2:¬s.toList= [123,125]:=Mb h2;have n3:(s.toList== [91,93])=false:=beq_false_of_ne n1;have n4:(s.toList== [123,125])=false:=beq_false_of_ne n2;have H1:=Hi h1;have H2:=Hi h2;clear h1 h2;go_enter Tryz.func11,Tryz.ntmps11
 go_wp2_with (go_at_call 27;(with_reducible refine CP.out.mono ?_))
 rintro e W1 ⟨rfl,hb⟩
 go_wp2_with (go_at_call 28;(with_reducible refine(CQ.out _).mono ?_))
 rintro e W2 ⟨t,rfl,ht,hb2⟩;go_wp2;go_ret;exact⟨t,rfl,hb.trans (hb2.mono hb.size),fun h=>h.elim (fun h=>absurd h H1.out) (fun h=>h.elim (fun h=>absurd h H2.out) (fun h=>by cases h)),fun _ _ _=>ht⟩
open Go.Proofs.YtnipmfaikiaipaaGreatDoor
theorem gT (s:ByteArray) (W:World) (hs:s.size<=1048576) (hL0:laidMet Tryz.prog Rows.writerAtomsUptoRow.laid W) (hsh:W.ShapedOpen Tryz.prog):
 Calls Tryz.prog 4 #[.string s] W fun e W'=>e= .returned (.bool true)/\Below W.heap.size W W':=by
 have hL:laidMet Tryz.prog Rows.writerAtomsRow.laid W:=hL0;have LA1:=Hi (EO.of hL hsh);obtain⟨r,c1,c2⟩:=bD s (by omega);have HA:Hid (Calls Tryz.prog 9 #[] W fun e w'=>e= .returned (.bool true)/\Below W.heap.size W w'):=Hi (YtnipmfaikiaipaaGreatDoor.Y4 hL hsh);have CA:Hid (∀W',Below W.heap.size W W'->Calls Tryz.prog 10 #[.string s] W' fun e w'=>∃t,YV s r W' e w' t):=Hi fun W' hb=>gF s r W' hs (fun W'' hb2=>((LA1.out.below hb).below hb2).zero) (Hi (c1 W' (LA1.out.below hb)));have CD:Hid (∀W',Calls Tryz.prog 11 #[.string s] W' fun e w'=>∃t,YV s r W' e w' t):=Hi fun W'=>gw s r W' hs (Hi (c2 W'));clear c1 c2 hL hL0 hsh;go_enter Tryz.func4,Tryz.ntmps4
 go_wp2_with (go_at_call 9;(with_reducible refine HA.out.mono ?_))
 rintro e W1 ⟨rfl,b1⟩
 go_wp2_with (go_at_call 10;(with_reducible refine(CA.out _ b1).mono ?_))
 rintro e W2 ⟨t,⟨rfl,b2,hraw,hquo⟩⟩;have B2:=Hi (b1.trans (b2.mono b1.size));clear b1 b2
 go_wp2_with (go_at_call 11;(with_reducible refine(CD.out _).mono ?_))
 rintro e W3 ⟨t2,⟨rfl,b3,hraw2,hquo2⟩⟩;have B3:=Hi (B2.out.trans (b3.mono B2.out.size));have E:t2=t:=by
  by_cases h1:s=ed
  ·rw[hraw (.inl h1),hraw2 (.inl h1)]
  by_cases h2:s=fH
  ·rw[hraw (.inr (.inl h2)),hraw2 (.inr (.inl h2))]
  cases r with
  |true=>rw[hraw (.inr (.inr rfl)),hraw2 (.inr (.inr rfl))]
  |false=>exact ByteArray.ext (Array.toList_inj.1 ((hquo2 h1 h2 rfl).trans (hquo h1 h2 rfl).symm))
 subst E;clear hraw hraw2 hquo hquo2 b3;go_wp2;refine AI (v:= .bool true) ?_ rfl ⟨rfl,B3.out⟩;simp only[results,Tryz.results4];go_simp
 try rfl
end Go.Proofs
