import Derived.Test.YtnipmfaikiaipaaGreatDoorTaz
import Derived.Lib.LaidU8T
import Derived.Lib.LaidTab
import Derived.IntWalk
import Derived.Shelf.Strings.Builder1
import Derived.Shelf.Strings.BuilderF
import Derived.Shelf.Strconv.Clone
import Derived.Shelf.Strconv.Lower
import Derived.Shelf.Strconv.ParseUint10Empty
import Derived.Shelf.Strconv.ParseUintEmpty
import Derived.Shelf.Strings.Search1
import Derived.Shelf.Strings.Search2
import Derived.Shelf.Strings.Search3
import Derived.Shelf.Strings.Shaped
set_option linter.unusedSimpArgs false
set_option maxRecDepth 1000000
set_option maxHeartbeats 40000000
section
namespace Go.Proofs
open Go.RowKit Go.Shelf
open Go.Proofs.YtnipmfaikiaipaaGreatDoor
def eA:Ren:=⟨fun n=>n,fun|119=>145|138=>213|139=>214|n=>n,fun|3=>3|4=>4|n=>n⟩
theorem Yv:U8Types Tryz.prog eA:=⟨Tryz.underlying5,Tryz.underlying145,Tryz.underlying213,Tryz.underlying214⟩
theorem YX:U8Extra Tryz.prog eA:=⟨by kernel_rfl,by kernel_rfl,by kernel_rfl,by kernel_rfl,by kernel_rfl,by kernel_rfl,by kernel_rfl⟩
theorem Qp:Rows.writerAtomsRow.laid[16]? =some ("unicode/utf8.first",Lib.firstData):=by kernel_rfl
theorem O1:Rows.writerAtomsRow.laid[9]? =some ("unicode/utf8.acceptRanges",Lib.acceptData):=by kernel_rfl
theorem Qg:Rows.writerAtomsRow.laid[8]? =some ("internal/strconv.uint64pow10",Lib.tabData .u64 Lib.pow10Tab):=by kernel_rfl
theorem Aj.utf8 {W:World}(h:Aj W):Lib.Utf8Tabs 3 4 W:=by
 obtain⟨W0,h1,_,h3,_⟩:=h;have r1:=Lib.laidMet.reads h1 (List.mem_of_getElem? Qp);have r2:=Lib.laidMet.reads h1 (List.mem_of_getElem? O1);have k:=utf8Tabs_of_readsT Yv YX r1 r2;have hs:5<=Tryz.prog.globals.size:=Nat.le_of_ble_eq_true (by kernel_rfl);have e2:∀c,W.cell? ⟨3,c,none⟩=W0.cell? ⟨3,c,none⟩:=fun c=>World.cell?_of_block (a:=⟨3,c,none⟩) (h3 3 (by omega));have e3:∀c,W.cell? ⟨4,c,none⟩=W0.cell? ⟨4,c,none⟩:=fun c=>World.cell?_of_block (a:=⟨4,c,none⟩) (h3 4 (by omega));exact⟨fun c hc=>(e2 c).trans (k.1 c hc),fun i hi=>⟨(e3 _).trans (k.2 i hi).1,(e3 _).trans (k.2 i hi).2⟩⟩
theorem Oa:∃g,Tryz.prog.globalNamed "internal/strconv.uint64pow10" =some g/\(Tryz.prog.globals[g]?).map (·.type)=some 265/\g<Tryz.prog.globals.size:=by
 have h:(match Tryz.prog.globalNamed "internal/strconv.uint64pow10" with|some g=>((Tryz.prog.globals[g]?).map (·.type)==some 265)&&Nat.blt g Tryz.prog.globals.size|none=>false)=true:=by kernel_rfl
 split at h
 ·rename_i g hg;simp only[Bool.and_eq_true]at h;exact⟨g,hg,by simpa using h.1,by simpa using h.2⟩
 ·cases h
theorem Ye:Tryz.prog.cellsOf 28=1:=by kernel_rfl
theorem Vo:Tryz.prog.cellsOf 265=20:=by kernel_rfl
theorem Aj.dM {W:World}(h:Aj W):Lib.TabIs Tryz.prog W "internal/strconv.uint64pow10" .u64 Lib.pow10Tab:=by
 obtain⟨W0,h1,_,h3,_⟩:=h;obtain⟨g,t,cs,fuel,p,hg,hty,hvar,hd⟩:=Lib.laidMet.reads h1 (List.mem_of_getElem? Qg);obtain⟨g',hg',hty',hlt⟩:=Oa;obtain rfl:=Option.some.inj (hg.symm.trans hg');obtain rfl:=Option.some.inj (hty.symm.trans hty');have hcs:=Lib.cells_of_tab Tryz.underlying265 Tryz.underlying28 Ye Vo hd;unfold Lib.TabIs;have e:W.var? Tryz.prog "internal/strconv.uint64pow10" =W0.var? Tryz.prog "internal/strconv.uint64pow10" :=by
  unfold World.var?;rw[hg];simp only[Option.bind_some,h3 g hlt]
 rw[e,hvar,<-hcs]
end Go.Proofs
end
section
namespace Go.Proofs
open Go.RowKit Go.Hb
def Ck (k:Int):Array Value:= #[.int .i64 k,.string ⟨#[]⟩,.string ⟨#[]⟩,.int .u64 0,.int .i64 0,.int .i64 0,.bool false]
structure QR (t:ByteArray) (B:Nat) (W3:World) (acc:List UInt8) (pos:Nat) (wr:World):Prop where
 MW:Lib.IsBuilderF 106 5 (B+1+1) (B+1+1) (Lib.byteCells acc) wr
 it:wr.heap[B+3]? =some (.stringIter t pos)
 Ad:Below (B+1+1) W3 wr
theorem QR.next {t:ByteArray} {B:Nat} {W3:World} {acc:List UInt8} {pos:Nat} {wr:World}(h:QR t B W3 acc pos wr) (hp:pos<t.size) (n c:Nat) (hd:Utf8.decode t pos=(c,n)):
 ∃wn,(∀ty,(Instr.next (.pointer (some ⟨B+3,0,none⟩)) true ty).run Tryz.prog wr= .ok (.tuple #[.bool true,.int .i64 pos,.int .i32 c]) wn)/\QR t B W3 acc (pos+n) wn:=by
 refine⟨_,fun ty=> ?_,h.MW.iterAt h.it (pos+n),Lib.iterAt_heap wr (B+3) t pos _ h.it,Lib.below_iterAt h.Ad (k:=B+3) (by omega) t _⟩;have:=Lib.run_next_any_at (P:=Tryz.prog) wr (B+3) t pos ty h.it hp;rw[hd]at this;exact this
theorem QR.write {t:ByteArray} {B:Nat} {W3:World} {acc x:List UInt8} {cells:List Value}(hx:Lib.byteCells x=cells){pos n:Nat} {wn W1:World}(h:QR t B W3 acc pos wn)
 (b0:Lib.BuilderAtF 106 5 (B+1+1) (B+1+1) (.pointer (some ⟨B+1+1,0,none⟩)) (Lib.byteCells acc++cells) W1) (b1:Below (B+1+1) (wn.drewN n) W1) (b2:Lib.OthersKept 5 (some (B+1+1)) (wn.drewN n) W1):QR t B W3 (acc++x) pos W1:=by
 subst hx;refine⟨.inr ?_,?_,h.Ad.trans (⟨b1.os,b1.tape,b1.output,b1.size,b1.block⟩:Below _ wn W1)⟩
 ·rw[Lib.byteCells_append];exact b0
 ·exact b2.iter (show(wn.drewN n).heap[B+3]? =_ from h.it) (by omega)
theorem BJ {w:World} {k:Nat} {s:ByteArray} {pos:Nat}(h:w.heap[k]? =some (.stringIter s pos)):w.iterPos k=pos:=by simp[World.iterPos,h]
theorem QR.call {t:ByteArray} {B:Nat} {W3:World} {acc:List UInt8} {pos:Nat} {wn W1:World}(h:QR t B W3 acc pos wn) (hb:Below wn.drew.heap.size wn.drew W1):QR t B W3 acc pos W1:=by
 have hb':Below wn.heap.size wn W1:=⟨hb.os,hb.tape,hb.output,hb.size,hb.block⟩;have hlt:B+3<wn.heap.size:=(OF.1 h.it).1;exact⟨I6 h.MW hb',(hb'.block _ hlt).trans h.it,h.Ad.trans (hb'.mono (by omega))⟩
theorem Bh (v:Int) (n:Nat) (h:Hid (Lib.runeLen v=n)) (w:World):Calls Tryz.prog 119 #[.int .i32 v] w fun e w'=>e= .returned (.int .i64 n)/\w=w':=by
 have:=Tryz.utf8_RuneLen v w;rw[h.out]at this;exact this.mono fun _ _ ⟨h1,h2⟩=>⟨h1,h2.symm⟩
end Go.Proofs
end
section
namespace Go.Hb
theorem E5 (s:ByteArray) (p:Nat) (hp:p<s.size):(∃v n:Nat,B8 s p v n/\Utf8.decode s p=(v,n))\/(EG s p/\Utf8.decode s p=(65533,1)):=by
 rw[Lib.decode_N];have hl:s.data.toList.length=s.size:=by simp
 rw[hl];have e0:AE s p=((s.data.toList.getD p 0).toNat:Int):=rfl;have e1:AE s (p+1)=((s.data.toList.getD (p+1) 0).toNat:Int):=rfl;have e2:AE s (p+2)=((s.data.toList.getD (p+2) 0).toNat:Int):=rfl;have e3:AE s (p+3)=((s.data.toList.getD (p+3) 0).toNat:Int):=rfl;have o1:s.size<=p+1->AE s (p+1)=0:=Am s (p+1);have o2:s.size<=p+2->AE s (p+2)=0:=Am s (p+2);have o3:s.size<=p+3->AE s (p+3)=0:=Am s (p+3);have h0:=C6 s p;have h1:=C6 s (p+1);have h2:=C6 s (p+2);have h3:=C6 s (p+3);generalize(s.data.toList.getD p 0).toNat=b0 at*;generalize(s.data.toList.getD (p+1) 0).toNat=b1 at*;generalize(s.data.toList.getD (p+2) 0).toNat=b2 at*;generalize(s.data.toList.getD (p+3) 0).toNat=b3 at*;have key:(∀v n:Int,B8 s p v n->False)->EG s p:=fun h v n hc=>h v n hc;unfold Lib.decodeN;by_cases c0:b0<128
 ·rw[if_pos c0];exact .inl ⟨b0,1,.inl ⟨rfl,hp,by omega,by omega⟩,rfl⟩
 rw[if_neg c0];by_cases c1:b0/32=6/\(1<s.size-p/\b1/64=2)
 ·rw[if_pos c1];by_cases c:b0 %32*64+b1 %64>=128
  ·rw[if_pos c];exact .inl ⟨_,2,.inr (.inl ⟨rfl,⟨by omega,by omega⟩,⟨by omega,by omega⟩,by omega,by omega,by unfold AR;omega⟩),rfl⟩
  ·rw[if_neg c];refine .inr ⟨key fun v n hc=> ?_,rfl⟩;unfold B8 cont AR at hc;omega
 rw[if_neg c1];by_cases c2:b0/16=14/\(1<s.size-p/\b1/64=2)/\(2<s.size-p/\b2/64=2)
 ·rw[if_pos c2];split
  ·rename_i c;exact .inl ⟨_,3,.inr (.inr (.inl ⟨rfl,⟨by omega,by omega⟩,⟨by omega,by omega⟩,⟨by omega,by omega⟩,by omega,by omega,by unfold AR;omega⟩)),rfl⟩
  ·refine .inr ⟨key fun v n hc=> ?_,rfl⟩;unfold B8 cont AR at hc;omega
 rw[if_neg c2];by_cases c3:b0/8=30/\(1<s.size-p/\b1/64=2)/\(2<s.size-p/\b2/64=2)/\(3<s.size-p/\b3/64=2)
 ·rw[if_pos c3];split
  ·rename_i c;exact .inl ⟨_,4,.inr (.inr (.inr ⟨rfl,⟨by omega,by omega⟩,⟨by omega,by omega⟩,⟨by omega,by omega⟩,⟨by omega,by omega⟩,by omega,by omega,by unfold AR;omega⟩)),rfl⟩
  ·refine .inr ⟨key fun v n hc=> ?_,rfl⟩;unfold B8 cont AR at hc;omega
 rw[if_neg c3];refine .inr ⟨key fun v n hc=> ?_,rfl⟩;unfold B8 cont AR at hc;omega
theorem Yt (s:ByteArray) (p:Nat):Utf8.decode (s.extract p s.size) 0=Utf8.decode s p:=by
 have e:(s.extract p s.size).data.toList=s.data.toList.drop p:=by
  rw[Lib.extract_data,List.take_of_length_le (by simp)]
 rw[EX (s.extract p s.size) 0 _ rfl,EX s p _ rfl,gU,e]
theorem Gi (s:ByteArray) (p:Nat) (hp:p<s.size):Lib.decodeGo (s.extract p s.size)=Utf8.decode s p:=by
 unfold Lib.decodeGo;rw[if_neg (by rw[Of];omega),Yt]
end Go.Hb
namespace Go.Proofs
open Go.RowKit Go.Pf Go.Lx Go.Hb Go.Rb
theorem run_next_end_at {P:Program}(w:World) (k:Nat) (s:ByteArray) (pos:Nat) (ty:TypeId) (hk:w.heap[k]? =some (.stringIter s pos)) (h:¬pos<s.size):
 (Instr.next (.pointer (some ⟨k,0,none⟩)) true ty).run P w= .ok (.tuple #[.bool false]) w:=by
 simp[Instr.next,getObj,Sem.run,hk,h]
def NH (R:Int) (w:World) (e:Ending) (w':World):Prop:=e= .returned (.int .i64 R)/\Below w.heap.size w w'
theorem OX {p q:Int} {w w':World}(h:p=q) (hb:Below w.heap.size w w'):NH q w (.returned (.int .i64 p)) w':=by subst h;exact⟨rfl,hb⟩
structure Pc (t:ByteArray) (B:Nat) (w0:World) (pos:Nat) (wr:World):Prop where
 it:wr.heap[B]? =some (.stringIter t pos)
 Ad:Below B w0 wr
theorem Pc.next {t:ByteArray} {B:Nat} {w0:World} {pos:Nat} {wr:World}(h:Pc t B w0 pos wr) (hp:pos<t.size) (n c:Nat) (hd:Utf8.decode t pos=(c,n)):
 ∃wn,(∀ty,(Instr.next (.pointer (some ⟨B,0,none⟩)) true ty).run Tryz.prog wr= .ok (.tuple #[.bool true,.int .i64 pos,.int .i32 c]) wn)/\Pc t B w0 (pos+n) wn:=by
 refine⟨_,fun ty=> ?_,Lib.iterAt_heap wr B t pos _ h.it,Lib.below_iterAt h.Ad (k:=B) (nR _) t _⟩;have:=Lib.run_next_any_at (P:=Tryz.prog) wr B t pos ty h.it hp;rw[hd]at this;exact this
theorem Pc.call {t:ByteArray} {B:Nat} {w0:World} {pos:Nat} {wr w1:World}(h:Pc t B w0 pos wr) (hb:Below wr.heap.size wr w1):Pc t B w0 pos w1:=by
 have hlt:B<wr.heap.size:=(OF.1 h.it).1;exact⟨(hb.block _ hlt).trans h.it,h.Ad.trans (hb.mono (by omega))⟩
theorem aZ (t:ByteArray) (r:Int) (w:World) (hs:t.size<=140737488355000) (hr:Hid (Az t 0 r)) (hL:Aj w):
 Calls Tryz.prog 70 #[.string t] w (NH r w):=by
 obtain⟨B,hB⟩:∃B,B=w.heap.size:=⟨_,rfl⟩;go_enter Tryz.func70,Tryz.ntmps70;go_wp2;have h0:Pc t B w 0 (w.iter t 0):=⟨by rw[hB];exact World.iter_heap w t 0,by rw[hB];exact(AH _ _).alloc (nR _) _⟩;rw[<-hB];have HL:=Hi hL;have HB:=Hi hB;clear hL hB
 go_loopw [3,4,5,6] (fun _ _ _ _ wr=>∃pos:Nat,pos<=t.size/\Pc t B w pos wr/\Az t pos r) (fun _ _ _ _ wr=>t.size-wr.iterPos B)
 case atStart=>exact⟨0,by omega,h0,hr.out⟩
 case round=>
  obtain⟨pos,hps,hit,hod⟩:=hrel;have HO:=Hi hod;clear hod h0;have i1:=BJ hit.it;by_cases hp:pos<t.size
  ·have hsl:∀W,(Instr.slice 9 (.string t) (some (.int .i64 (pos:Int))) none none).run Tryz.prog W= .ok (.string (t.extract pos t.size)) W:=fun W=>by
    have:=run_slice_string_l (P:=Tryz.prog) (w:=W) (t:=9) (s:=t) Tryz.underlying9 .i64 (pos:Int) (by omega) (by omega);rw[show((pos:Int)).toNat=pos by omega]at this;exact this
   rcases E5 t pos hp with⟨v,n,hc,hd⟩|⟨hn,hd⟩
   ·have h1:=hc.size;have h2:=hc.last;have HN:=Hi (HO.out.Fp hc);obtain⟨wn,hnx,hit2⟩:=hit.next hp n v hd;have i2:=BJ hit2.it;by_cases h65:v=65533
    ·have hn3:n=3:=by unfold B8 cont at hc;omega
     subst h65 hn3;have t1:(((65533:Nat):Int)==65533)=true:=rfl;have LN:Aj wn:=HL.out.below (by rw[<-HB.out];exact hit2.Ad);have CD:Hid (Calls Tryz.prog 60 #[.string (t.extract pos t.size)] wn fun e w'=>e= .returned (.tuple #[.int .i32 (65533:Nat),.int .i64 (3:Nat)])/\Below wn.heap.size wn w'):=Hi (by
      have h:=Tryz.utf8_DecodeRuneInString (t.extract pos t.size) wn LN.utf8;rw[Gi t pos hp,hd]at h;exact h)
     have Ud:=hsl wn;have t2:(((3:Nat):Int)==1)=false:=rfl;have I:=Hi (show t.size-(pos+3)<t.size-wr.iterPos B by rw[i1];omega);have hp3:pos+3<=t.size:=by omega
     clear hc hd h1 h2 i1 hsl LN
     go_wp2_with (go_at_call 60;(with_reducible refine CD.out.mono ?_);rintro e w' ⟨rfl,hb⟩)
     have hit3:=hit2.call hb;have i3:=BJ hit3.it;go_roundw
     case rel=>exact⟨pos+3,hp3,hit3,HN.out⟩
     case measure=>rw[i3];exact I.out
    ·have t1:((v:Int)==65533)=false:=AA (by omega);have I:=Hi (show t.size-wn.iterPos B<t.size-wr.iterPos B by rw[i1,i2];omega);clear hc hd h1 i1 i2 h65 hsl;go_wp2;go_roundw
     case rel=>exact⟨pos+n,h2,hit2,HN.out⟩
     case measure=>exact I.out
   ·have HF:Hid (r=pos):=Hi (HO.out.JN hp hn);obtain⟨wn,hnx,hit2⟩:=hit.next hp 1 65533 hd;have t1:(((65533:Nat):Int)==65533)=true:=rfl;have LN:Aj wn:=HL.out.below (by rw[<-HB.out];exact hit2.Ad);have CD:Hid (Calls Tryz.prog 60 #[.string (t.extract pos t.size)] wn fun e w'=>e= .returned (.tuple #[.int .i32 (65533:Nat),.int .i64 (1:Nat)])/\Below wn.heap.size wn w'):=Hi (by
     have h:=Tryz.utf8_DecodeRuneInString (t.extract pos t.size) wn LN.utf8;rw[Gi t pos hp,hd]at h;exact h)
    have Ud:=hsl wn;have t2:(((1:Nat):Int)==1)=true:=rfl;clear hd hn i1 hsl LN
    go_wp2_with (go_at_call 60;(with_reducible refine CD.out.mono ?_);rintro e w' ⟨rfl,hb⟩)
    go_ret;exact OX HF.out.symm (by rw[<-HB.out];exact(hit2.call hb).Ad)
  ·have HF:Hid (r= -1):=Hi (HO.out.Gr (by omega));have hnx:∀ty,(Instr.next (.pointer (some ⟨B,0,none⟩)) true ty).run Tryz.prog wr= .ok (.tuple #[.bool false]) wr:=fun ty=>run_next_end_at wr B t pos ty hit.it hp;go_wp2;go_ret;exact OX HF.out.symm (by rw[<-HB.out];exact hit.Ad)
end Go.Proofs
end
section
namespace Go.Proofs
open Go.Shelf
def OQ:Go.Shelf.Ren:=⟨fun|143=>69|219=>112|217=>110|225=>166|224=>167|267=>168|266=>165|314=>215|n=>n,fun|9=>9|3=>3|4=>4|5=>5|46=>121|146=>203|51=>176|n=>n,fun|1=>5|n=>n⟩
theorem XX:Go.Proofs.Lays.n143 Tryz.prog OQ:= {
 mixed:=by kernel_rfl
 f143:=Tryz.func69.trans (congrArg some (by kernel_rfl))
 f217:=Tryz.func110.trans (congrArg some (by kernel_rfl))
 f219:=Tryz.func112.trans (congrArg some (by kernel_rfl))
 f224:=Tryz.func167.trans (congrArg some (by kernel_rfl))
 f225:=Tryz.func166.trans (congrArg some (by kernel_rfl))
 f266:=Tryz.func165.trans (congrArg some (by kernel_rfl))
 f267:=Tryz.func168.trans (congrArg some (by kernel_rfl))
 f314:=Tryz.func215.trans (congrArg some (by kernel_rfl))
 t3:=Tryz.underlying3
 a3:=Tryz.isAgg3
 z3:=Tryz.sizeOf3
 v3:=Tryz.zeroValue3
 t4:=Tryz.underlying4
 a4:=Tryz.isAgg4
 z4:=Tryz.sizeOf4
 v4:=Tryz.zeroValue4
 t5:=Tryz.underlying5
 a5:=Tryz.isAgg5
 z5:=Tryz.sizeOf5
 v5:=Tryz.zeroValue5
 t9:=Tryz.underlying9
 a9:=Tryz.isAgg9
 z9:=Tryz.sizeOf9
 v9:=Tryz.zeroValue9
 t46:=Tryz.underlying121
 a46:=Tryz.isAgg121
 z46:=Tryz.sizeOf121
 v46:=Tryz.zeroValue121
 t51:=Tryz.underlying176
 a51:=Tryz.isAgg176
 z51:=Tryz.sizeOf176
 v51:=Tryz.zeroValue176
 t146:=Tryz.underlying203
 a146:=Tryz.isAgg203
 z146:=Tryz.sizeOf203
 v146:=Tryz.zeroValue203
 g1:=by kernel_rfl}
open Go.RowKit Go.Lib in
theorem Tryz.strings_Index (s sub:ByteArray) (m:Int) (w:World) (hs:s.size<4294967281) (hm:w.cell? ⟨5,0,none⟩=some (.int .i64 m)):
 Calls Tryz.prog 69 #[.string s,.string sub] w fun e w'=>e= .returned (.int .i64 (Lib.index s.data.toList sub.data.toList))/\w'=w:=Any.strings_Index XX s sub m w hs hm
def NF:Go.Shelf.Ren:=⟨fun|143=>69|219=>112|217=>110|225=>166|224=>167|267=>168|266=>165|314=>215|n=>n,fun|9=>9|3=>3|4=>4|5=>5|46=>121|146=>203|51=>176|n=>n,fun|1=>5|n=>n⟩
theorem V8:Go.Proofs.LaysM.n143 Tryz.prog NF:= {
 mixed:=by kernel_rfl
 f143:=Tryz.func69.trans (congrArg some (by kernel_rfl))
 f217:=Tryz.func110.trans (congrArg some (by kernel_rfl))
 f219:=Tryz.func112.trans (congrArg some (by kernel_rfl))
 f224:=Tryz.func167.trans (congrArg some (by kernel_rfl))
 f225:=Tryz.func166.trans (congrArg some (by kernel_rfl))
 f266:=Tryz.func165.trans (congrArg some (by kernel_rfl))
 f267:=Tryz.func168.trans (congrArg some (by kernel_rfl))
 f314:=Tryz.func215.trans (congrArg some (by kernel_rfl))
 t3:=Tryz.underlying3
 a3:=Tryz.isAgg3
 z3:=Tryz.sizeOf3
 v3:=Tryz.zeroValue3
 t4:=Tryz.underlying4
 a4:=Tryz.isAgg4
 z4:=Tryz.sizeOf4
 v4:=Tryz.zeroValue4
 t5:=Tryz.underlying5
 a5:=Tryz.isAgg5
 z5:=Tryz.sizeOf5
 v5:=Tryz.zeroValue5
 t9:=Tryz.underlying9
 a9:=Tryz.isAgg9
 z9:=Tryz.sizeOf9
 v9:=Tryz.zeroValue9
 t46:=Tryz.underlying121
 a46:=Tryz.isAgg121
 z46:=Tryz.sizeOf121
 v46:=Tryz.zeroValue121
 t51:=Tryz.underlying176
 a51:=Tryz.isAgg176
 z51:=Tryz.sizeOf176
 v51:=Tryz.zeroValue176
 t146:=Tryz.underlying203
 a146:=Tryz.isAgg203
 z146:=Tryz.sizeOf203
 v146:=Tryz.zeroValue203
 g1:=by kernel_rfl
 i3:=by kernel_rfl
 i4:=by kernel_rfl
 i5:=by kernel_rfl
 i9:=by kernel_rfl
 i46:=by kernel_rfl
 i51:=by kernel_rfl
 i146:=by kernel_rfl
 m1:=by kernel_rfl
 s1_3:=fun w h=>Go.Proofs.cell_of_shapedOpen_int (zero:= #[.int .i64 0]) (t:=3) h (of_decide_eq_true (by kernel_rfl)) (by kernel_rfl) rfl (by kernel_rfl) (by kernel_rfl) Tryz.underlying3}
end Go.Proofs
end
section
namespace Go.Lx
open Go.Hb Go.Pf
theorem drop_cons {s:ByteArray} {p:Nat}(h:p<s.size):s.data.toList.drop p=s[p]::s.data.toList.drop (p+1):=by
 have h1:p<s.data.toList.length:=by simpa using h
 rw[List.drop_eq_getElem_cons h1];rfl
theorem DV {s:ByteArray} {p:Nat}(h:s.size<=p):s.data.toList.drop p= []:=List.drop_eq_nil_of_le (by simpa using h)
theorem Xw (s:ByteArray):∀n p,s.size-p<=n->p<=s.size->Lib.indexByte (s.data.toList.drop p) 10=if AF (Ni 10) s p<s.size then((AF (Ni 10) s p-p:Nat):Int)else-1:=by
 intro n
 induction n with
 |zero=>
  intro p h hp;rw[DV (by omega),Ac (by omega),if_neg (by omega)];rfl
 |succ n ih=>
  intro p h hp;rcases BY p s.size with h1|h1
  ·rw[drop_cons h1,Lib.indexByte];by_cases hc:s[p]=10
   ·have e:AF (Ni 10) s p=p:=Aw h1 (by rw[hc];rfl);rw[e,if_pos h1,Nat.sub_self];simp[hc]
   ·have hn:Ni 10 s[p].toNat=true:=by
     unfold Ni;simp only[Bool.not_eq_true',decide_eq_false_iff_not];intro hh;exact hc (UInt8.toNat_inj.1 hh)
    have e:=Af (p:=Ni 10) h1 hn;have i1:=ih (p+1) (by omega) (by omega);have hge:=Ae (Ni 10) s (p+1);rw[e,i1];by_cases hr:AF (Ni 10) s (p+1)<s.size
    ·rw[if_pos hr];have hne:¬((AF (Ni 10) s (p+1)-(p+1):Nat):Int)= -1:=by omega
     simp[hc,hne,hr];omega
    ·rw[if_neg hr];simp[hc,hr]
  ·rw[DV h1,Ac h1,if_neg (by omega)];rfl
theorem Yn (s:ByteArray):∀n p,s.size-p<=n->Lib.index (s.data.toList.drop p) [42,47]=if C7 s p+1<s.size then((C7 s p-p:Nat):Int)else-1:=by
 intro n
 induction n with
 |zero=>
  intro p h;rw[DV (by omega),GZ (by omega),if_neg (by omega)];rfl
 |succ n ih=>
  intro p h;rcases BY p s.size with h1|h1
  ·rw[drop_cons h1,Lib.index];have i1:=ih (p+1) (by omega);have hge:=M5 s (p+1);by_cases hm:p+1<s.size/\AE s p=42/\AE s (p+1)=47
   ·obtain⟨m0,m1,m2⟩:=hm;rw[AO s p h1]at m1;have m3:=m2;rw[AO s (p+1) m0]at m2;have e0:s[p]=42:=UInt8.toNat_inj.1 (by show s[p].toNat=42;omega);have e1:s[p+1]=47:=UInt8.toNat_inj.1 (by show s[p+1].toNat=47;omega);rw[MJ m0 ⟨by rw[AO s p h1];exact m1,m3⟩,if_pos m0,drop_cons m0,e0,e1];simp[List.isPrefixOf]
   ·have hpre:([42,47]:List UInt8).isPrefixOf (s[p]::s.data.toList.drop (p+1))=false:=by
     rcases BY (p+1) s.size with h2|h2
     ·rw[drop_cons h2];simp only[List.isPrefixOf,Bool.and_eq_false_iff,beq_eq_false_iff_ne,ne_eq,Bool.and_true];by_cases h3:(42:UInt8)=s[p]
      ·right;intro h4;refine hm ⟨h2,?_,?_⟩
       ·rw[AO s p h1,<-h3];rfl
       ·rw[AO s (p+1) h2,<-h4];rfl
      ·exact .inl h3
     ·rw[DV h2];simp[List.isPrefixOf]
    have e:C7 s p=C7 s (p+1)\/(s.size<=p+1/\C7 s p=p):=by
     rcases BY (p+1) s.size with h2|h2
     ·exact .inl (MN h2 (fun h3=>hm ⟨h2,h3⟩))
     ·exact .inr ⟨h2,GZ h2⟩
    rw[hpre];simp only[Bool.false_eq_true,if_false];rcases e with e|⟨h2,e⟩
    ·rw[e];by_cases hr:C7 s (p+1)+1<s.size
     ·rw[if_pos hr]at i1;rw[if_pos hr,i1];have hne:(((C7 s (p+1)-(p+1):Nat):Int)== -1)=false:=by rw[Lq];intro hh;have:=eq_of_beq hh;omega
      rw[hne];simp only[Bool.false_eq_true,if_false];omega
     ·rw[if_neg hr]at i1;rw[if_neg hr,i1];rfl
    ·have e2:C7 s (p+1)=p+1:=GZ (by omega);rw[e2,if_neg (by omega)]at i1;rw[e,i1,if_neg (show¬p+1<s.size by omega)];rfl
  ·rw[DV h1,GZ (by omega),if_neg (by omega)];rfl
theorem ZH {s:ByteArray} {p:Nat}(h:p<s.size):Lib.hasPrefix (s.data.toList.drop p) [47,42]=decide (AE s p=47/\AE s (p+1)=42):=by
 rw[drop_cons h];rcases BY (p+1) s.size with h2|h2
 ·rw[drop_cons h2,AO s p h,AO s (p+1) h2];have e0:(s[p]=47)↔((s[p].toNat:Int)=47):=⟨fun h=>by rw[h];rfl,fun h=>UInt8.toNat_inj.1 (by show s[p].toNat=47;omega)⟩;have e1:(s[p+1]=42)↔((s[p+1].toNat:Int)=42):=⟨fun h=>by rw[h];rfl,fun h=>UInt8.toNat_inj.1 (by show s[p+1].toNat=42;omega)⟩;have key:Lib.hasPrefix (s[p]::s[p+1]::s.data.toList.drop (p+1+1)) [47,42]=decide (s[p]=47/\s[p+1]=42):=by
   unfold Lib.hasPrefix;simp only[List.isPrefixOf,Bool.and_true];rw[Bool.eq_iff_iff];simp only[Bool.and_eq_true,beq_iff_eq,decide_eq_true_eq];exact⟨fun⟨h1,h2⟩=>⟨h1.symm,h2.symm⟩,fun⟨h1,h2⟩=>⟨h1.symm,h2.symm⟩⟩
  rw[key];exact NO.2 (by rw[e0,e1])
 ·rw[DV h2,Am s (p+1) h2];simp[Lib.hasPrefix,List.isPrefixOf]
theorem V7 (s:ByteArray) (p t:Nat):(s.extract p t).data.toList=(s.data.toList.drop p).take (t-p):=Lib.extract_data s p t
theorem EI (s:ByteArray) (p:Nat):(s.extract p s.size).data.toList=s.data.toList.drop p:=by
 rw[Lib.extract_data,List.take_of_length_le (by simp)]
theorem Ij {s:ByteArray} {p t:Nat}(_ht:t<=s.size) (hp:p<=t) (k:Nat):AE (s.extract p t) k=AE (s.extract 0 t) (p+k):=by
 unfold AE;rw[Lib.extract_data,Lib.extract_data,gU,Nat.sub_zero];congr 2;rw[SM,SM,List.getElem?_take,List.getElem?_take,List.getElem?_drop];by_cases h:k<t-p
 ·rw[if_pos h,if_pos (by omega)]
 ·rw[if_neg h,if_neg (by omega)]
theorem IE {s:ByteArray} {p t:Nat}(ht:t<=s.size) (hp:p<=t) (k:Nat) (v n:Int):B8 (s.extract p t) k v n↔B8 (s.extract 0 t) (p+k) v n:=by
 have hz:(s.extract p t).size=t-p:=by rw[Of];omega
 have hz0:(s.extract 0 t).size=t:=by rw[Of];omega
 have hlt:(k<(s.extract p t).size)=(p+k<(s.extract 0 t).size):=by rw[hz,hz0];exact propext ⟨fun h=>by omega,fun h=>by omega⟩
 unfold B8;rw[Ij ht hp k,Ij ht hp (k+1),Ij ht hp (k+2),Ij ht hp (k+3),hlt,<-Nat.add_assoc,<-Nat.add_assoc,<-Nat.add_assoc]
theorem VX {s:ByteArray} {p t:Nat}(ht:t<=s.size) (hp:p<=t){q:Nat} {r:Int}(h:Az (s.extract 0 t) q r):∀k,q=p+k->Az (s.extract p t) k (if r= -1 then-1 else r-p):=by
 have hz:(s.extract p t).size=t-p:=by rw[Of];omega
 have hz0:(s.extract 0 t).size=t:=by rw[Of];omega
 induction h with
 |done h1=>exact fun k hk=>by rw[if_pos rfl];exact .done (by rw[hz];rw[hz0]at h1;omega)
 | @bad q h1 h2=>
  intro k hk;subst hk;have e:(if((p+k:Nat):Int)= -1 then(-1:Int)else((p+k:Nat):Int)-p)=(k:Int):=by rw[if_neg (by omega)];omega
  rw[e];exact .bad (by rw[hz];rw[hz0]at h1;omega) (fun v n hc=>h2 v n ((IE ht hp k v n).1 hc))
 | @step q m v r hc _ ih=>
  intro k hk;subst hk;exact .step ((IE ht hp k v m).2 hc) (ih (k+m) (by omega))
end Go.Lx
end
section
namespace Go.Proofs
open Go.RowKit Go.Pf Go.Lx Go.Hb Go.Rb
structure St (w:World) (b:Nat) (s:ByteArray) (p:Nat):Prop where
 h:w.heap[b]? =some (.cells #[.string s,.int .i64 p] 68 (0,0))
theorem St.c0 {w:World} {b p:Nat} {s:ByteArray}(h:St w b s p):w.cell? ⟨b,0,none⟩=some (.string s):=by rw[Lib.cell_of_heap h.h];rfl
theorem St.c1 {w:World} {b p:Nat} {s:ByteArray}(h:St w b s p):w.cell? ⟨b,1,none⟩=some (.int .i64 p):=by rw[Lib.cell_of_heap h.h];rfl
theorem St.f {w:World} {b p:Nat} {s:ByteArray}(h:St w b s p) (i:Nat):w.frozen? ⟨b,i,none⟩=false:=Lib.frozen_of_heap h.h i
theorem St.lt {w:World} {b p:Nat} {s:ByteArray}(h:St w b s p):b<w.heap.size:=(OF.1 h.h).1
theorem St.below {w w':World} {b p:Nat} {s:ByteArray}(h:St w b s p) (hb:Below w.heap.size w w'):St w' b s p:=⟨(hb.block b h.lt).trans h.h⟩
theorem St.set {w:World} {b p:Nat} {s:ByteArray}(h:St w b s p) (q:Nat):St (w.setCell ⟨b,1,none⟩ (.int .i64 q)) b s q:=⟨heap_setCell_same w b 1 _ 68 (.int .i64 q) h.h⟩
def fM (w:World) (b:Nat):Nat:=match w.heap[b]?with
 |some (.cells cs _ _)=>(match cs[1]?with|some (Value.int _ z)=>z.toNat|_=>0)
 |_=>0
theorem St.p {w:World} {b p:Nat} {s:ByteArray}(h:St w b s p):fM w b=p:=by unfold fM;rw[h.h];simp
theorem Aj.VT {W W':World} {B:Nat}(h:Aj W) (hb:Below B W W') (hB:Tryz.prog.globals.size<=B) (hs:W.heap.size<=W'.heap.size):Aj W':=by
 obtain⟨W0,h1,h2,h3,h4⟩:=h;exact⟨W0,h1,h2,fun g hg=>(hb.block g (by omega)).trans (h3 g hg),by omega⟩
theorem Aj.drewN {W:World}(h:Aj W) (n:Nat):Aj (W.drewN n):=by
 obtain⟨W0,h1,h2,h3,h4⟩:=h;exact⟨W0,h1,h2,h3,h4⟩
theorem Aj.maxLen {W:World}(h:Aj W):∃m,W.cell? ⟨5,0,none⟩=some (.int .i64 m):=by
 obtain⟨W0,_,h2,h3,_⟩:=h;obtain⟨m,hm⟩:=V8.s1_3 W0 h2;have hg:5<Tryz.prog.globals.size:=Nat.le_of_ble_eq_true (by kernel_rfl);exact⟨m,(World.cell?_of_block (a:=⟨5,0,none⟩) (h3 5 hg)).trans hm⟩
structure YZ (s:ByteArray) (b K E:Nat) (w:World) (e:Ending) (w':World):Prop where
 ok:E=0->e= .returned (.tuple #[.int .i64 0,.int .i64 0])/\St w' b s K
 er:E≠0->e= .returned (.tuple #[.int .i64 K,.int .i64 E])
 Ad:Below b w w'
 sz:w.heap.size<=w'.heap.size
theorem KV {s:ByteArray} {b K E k n:Nat} {w w':World}(hk:k=K) (hn:n=E) (h0:n≠0) (hb:Below b w w') (hs:w.heap.size<=w'.heap.size):YZ s b K E w (.returned (.tuple #[.int .i64 k,.int .i64 n])) w':=by
 subst hk hn;exact⟨fun h=>absurd h h0,fun _=>rfl,hb,hs⟩
theorem Rk {s:ByteArray} {b K E k:Nat} {w w':World}(hk:k=K) (hn:0=E) (h:St w' b s k) (hb:Below b w w') (hs:w.heap.size<=w'.heap.size):YZ s b K E w (.returned (.tuple #[.int .i64 0,.int .i64 0])) w':=by
 subst hk hn;exact⟨fun _=>⟨rfl,h⟩,fun h=>absurd rfl h,hb,hs⟩
theorem UI {s:ByteArray} {p:Nat}(h:p<s.size) (hb:AE s p<128):Az (s.extract 0 (p+1)) p (-1):=by
 have hz:(s.extract 0 (p+1)).size=p+1:=by rw[Of];omega
 have e:AE (s.extract 0 (p+1)) p=AE s p:=by
  unfold AE;rw[Lib.extract_data,gU,SM,SM,List.getElem?_take,if_pos (by omega)]
 have hc:=FV (s:=s.extract 0 (p+1)) (p:=p) (by omega) (by rw[e];exact hb);exact .step (m:=1) hc (.done (by omega))
theorem Ym {s:ByteArray} {p q:Nat}(hq:p+q<=s.size):(s.extract p s.size).extract q (s.extract p s.size).size=s.extract (p+q) s.size:=by
 apply ByteArray.ext;apply Array.toList_inj.1;have hz:(s.extract p s.size).size=s.size-p:=by rw[Of];omega
 have hl:s.data.toList.length=s.size:=by simp
 rw[Lib.extract_data,EI,EI,List.drop_drop,hz,List.take_of_length_le (by rw[List.length_drop];omega)]
theorem Vg {s:ByteArray} {p n:Nat}(_hn:p+n<=s.size):(s.extract p s.size).extract 0 n=s.extract p (p+n):=by
 apply ByteArray.ext;apply Array.toList_inj.1;rw[Lib.extract_data,EI,gU,V7,show n-0=n by omega,show p+n-p=n by omega]
theorem ZJ (b:Nat) (s:ByteArray) (a K E:Nat) (w:World) (hs:s.size<=100000000) (ha:a<=s.size) (hL:Hid (Lay s a K E)) (hst:St w b s a) (hLd:Aj w) (hgb:Tryz.prog.globals.size<=b):
 Calls Tryz.prog 31 #[.pointer (some ⟨b,0,none⟩)] w (YZ s b K E w):=by
 have HL0:=Hi hLd;have HST0:=Hi hst;have HGB:=Hi hgb;clear hLd hst hgb;go_enter Tryz.func31,Tryz.ntmps31;go_wp2
 go_loopw [4,5,6] (fun _ _ _ wr=>∃p:Nat,St wr b s p/\p<=s.size/\Lay s p K E/\Below b w wr/\w.heap.size<=wr.heap.size) (fun _ _ _ wr=>s.size-fM wr b)
 case atStart=>exact⟨a,HST0.out,ha,hL.out,AH _ _,nR _⟩
 case round=>
  obtain⟨p,st,hp,hl,hbw,hsw⟩:=hrel;have c0:=st.c0;have c1:=st.c1;have cf:=st.f 1;have HL:=Hi hl;have HPP:Hid (fM wr b=p):=Hi st.p;have LD:Aj wr:=HL0.out.VT hbw HGB.out hsw;have HLQ:Hid (∀n,Aj (wr.drewN n)):=Hi (fun n=>LD.drewN n);have HSTN:Hid (∀n,St (wr.drewN n) b s p):=Hi (fun n=>⟨st.h⟩);have HBN:Hid (∀n,Below b w (wr.drewN n)):=Hi (fun n=>⟨hbw.os,hbw.tape,hbw.output,hbw.size,hbw.block⟩);have HSN:Hid (∀n,w.heap.size<=(wr.drewN n).heap.size):=Hi (fun n=>hsw);clear hl LD hbw hsw st;by_cases hlt:p<s.size
  ·obtain⟨c,hc⟩:∃c,c=s[p].toNat:=⟨_,rfl⟩;have hb:AE s p=(c:Int):=by rw[AO s p hlt,hc]
   have hbn:(AE s p).toNat=c:=by rw[hb];exact IT c
   have pi:(p:Int)<s.size:=by omega
   have pd:decide ((p:Int)<s.size)=true:=AN pi;obtain⟨u,hu⟩:∃u,u=s.extract p s.size:=⟨_,rfl⟩;have eu:s.extract p s.size=u:=hu.symm;have zu:u.size=s.size-p:=by rw[hu,Of];omega
   have u0:0<u.size:=by omega
   have eu0:u[0].toNat=c:=by
    have h1:AE u 0=AE s p:=by
     unfold AE;rw[hu,EI,SM,SM,List.getElem?_drop,gZ]
    rw[hb,AO u 0 u0]at h1;omega
   have ul:u.data.toList=s.data.toList.drop p:=by rw[hu,EI]
   have bu:u.size<=100000000:=by omega
   have TAIL:Hid (∀t:Nat,BP s p= .F8 t->p<t/\t<=s.size/\∃r:Int,(∀w,Aj w->Calls Tryz.prog 70 #[.string (s.extract p t)] w (NH r w))/\((r= -1/\Lay s t K E)\/∃M:Nat,r=M/\M<=t/\p+M=K/\30=E)):=Hi (fun t ht=>by
    have h3:=Ea hlt ht;obtain⟨r,hr⟩:=Az.ex (s.extract 0 t) _ p (nR _);have hr2:=VX h3.2 (Nat.le_of_lt h3.1) hr 0 rfl;refine⟨h3.1,h3.2,_,fun w hw=>aZ _ _ w (by rw[Of];omega) (Hi hr2) hw,?_⟩;rcases Az.Ky hr with rfl|⟨m,rfl⟩
    ·exact .inl ⟨rfl,HL.out.Fp hlt ht hr⟩
    ·right;have h4:=HL.out.JN hlt ht hr;have h5:p<=m/\m<t:=by
      have hz0:(s.extract 0 t).size=t:=by rw[Of];omega
      have key:∀{q:Nat} {r:Int},Az (s.extract 0 t) q r->∀m:Nat,r=m->q<=m/\m<t:=by
       intro q r h
       induction h with
       |done _=>intro m hm;omega
       |bad h1 _=>intro m hm;rw[hz0]at h1;omega
       |step hc _ ih=>intro m hm;have:=ih m hm;omega
      exact key hr m rfl
     refine⟨m-p,?_,by omega,by omega,h4.2.symm⟩;rw[if_neg (by omega)];omega)
   have PB:∀w,Calls Tryz.prog 66 #[.int .u8 c] w (AD (F5 c) w):=fun w=>Rd c w;by_cases hbl:F5 c=true
   ·rw[hbl]at PB;have PB:=Hi PB;have hto:BP s p= .F8 (p+1):=by unfold BP;rw[hbn,if_pos hbl]
    have c128:AE s p<128:=by rw[hb];simp[F5]at hbl;omega
    have H2:=Hi (HL.out.Fp hlt hto (UI hlt c128));obtain⟨t,htt⟩:∃t,t=p+1:=⟨_,rfl⟩;rw[<-htt]at H2;have et:(p:Int)+1=t:=by omega
    have bt:t<=s.size:=by omega
    have HTT:=Hi htt;clear zu hto hbl hb hbn hc htt TAIL ul hu c128;go_wp2
    go_quiet (fail)
    go_wp2
    go_quiet (fail)
    go_wp2_with (go_at_call 66;(with_reducible refine(PB.out _).mono ?_);rintro e w' ⟨rfl,rfl⟩)
    go_roundw
    case rel=>exact⟨t,(HSTN.out _).set t,bt,H2.out,(HBN.out _).setCell (p:=⟨b,1,none⟩) (nR _) _,by have:=HSN.out 0;simpa using this⟩
    case measure=>rw[((HSTN.out _).set t).p,HPP.out];have:=HTT.out;omega
   ·rw[gh]at hbl;rw[hbl]at PB;have PB:=Hi PB;by_cases h37:c=37
    ·have b37:((c:Int)==37)=true:=by rw[h37];rfl
     obtain⟨f,hf⟩:∃f,f=AF (Ni 10) s p:=⟨_,rfl⟩;have hto:BP s p= .F8 (min (f+1) s.size):=by
      unfold BP;rw[hbn,hbl,if_neg (by decide),if_pos (by rw[hb,h37];rfl),hf]
     have hfg:p<=f:=by rw[hf];exact Ae _ _ _
     have hix:=Xw s _ p (nR _) hp;rw[<-hf,<-ul]at hix;have CI:=fun w=>Tryz.strings_IndexByte u 10 w;rw[show(10:Int).toNat.toUInt8=10 from rfl,hix]at CI;obtain⟨t,htt⟩:∃t,t=min (f+1) s.size:=⟨_,rfl⟩;rw[<-htt]at hto;obtain⟨t1,bt,r,hcall,hr⟩:=TAIL.out t hto;have CO:=Hi hcall;have HTL:=Hi hr;clear hcall hr;obtain⟨N,hN⟩:∃N,N=t-p:=⟨_,rfl⟩;have eN:(p:Int)+N=t:=by omega
     have hv:u.extract 0 N=s.extract p t:=by rw[hu,Vg (by omega),show p+N=t by rw[hN];exact Nat.add_sub_of_le (Nat.le_of_lt t1)]
     have bN:N<=u.size:=by omega
     have bN2:(N:Int)<=u.size:=by omega
     have HST:=Hi (HSTN.out);by_cases hfs:f<s.size
     ·rw[if_pos hfs]at CI;have e1:((f-p:Nat):Int)+1=N:=by omega
      obtain⟨i,hi⟩:∃i,i=f-p:=⟨_,rfl⟩;rw[<-hi]at CI e1;have CI:=Hi CI;have n0:((N:Int)==0)=false:=AA (by omega);clear zu hto hbl hb hbn hc htt TAIL ul hu hN hix hf hfg h37 hfs hi;go_wp2
      go_quiet (fail)
      go_wp2
      go_quiet (fail)
      rcases HTL.out with⟨rfl,hl2⟩|⟨M,rfl,hM,hk,he⟩
      ·have H2:=Hi hl2;clear hl2
       go_wp2_with (first
        | (go_at_call 66;(with_reducible refine(PB.out _).mono ?_);rintro e w' ⟨rfl,rfl⟩)
        | (go_at_call 67;(with_reducible refine(CI.out _).mono ?_);rintro e w' ⟨rfl,rfl⟩))
       refine(CO.out _ (HLQ.out _)).mono ?_;rintro e w5 ⟨rfl,hb5⟩;have st5:=(HST.out _).below hb5;have hb6:=(HBN.out _).trans (hb5.mono (Nat.le_of_lt (HST.out _).lt));have sz6:=To (HSN.out _) hb5.size;have s0:=st5.c0;have s1:=st5.c1;have sf:=st5.f 1;have ST5:=Hi (st5.set t);have HB6:=Hi (hb6.setCell (p:=⟨b,1,none⟩) (nR _) (.int .i64 t));have SZ6:Hid (w.heap.size<=(w5.setCell ⟨b,1,none⟩ (.int .i64 t)).heap.size):=Hi (by simpa using sz6);clear hb5 hb6 sz6 st5;go_wp2;go_roundw
       case rel=>exact⟨t,ST5.out,bt,H2.out,HB6.out,SZ6.out⟩
       case measure=>rw[ST5.out.p,HPP.out];omega
      ·obtain⟨Q,hQ⟩:∃Q,Q=p+M:=⟨_,rfl⟩;have eM:(p:Int)+M=Q:=by omega
       have bQ:Q<=300000000:=by omega
       rw[<-hQ]at hk;have HK:=Hi hk;have HE:=Hi he;clear hk he;have m0:decide ((0:Int)<=(M:Int))=true:=A5;clear hQ
       go_wp2_with (first
        | (go_at_call 66;(with_reducible refine(PB.out _).mono ?_);rintro e w' ⟨rfl,rfl⟩)
        | (go_at_call 67;(with_reducible refine(CI.out _).mono ?_);rintro e w' ⟨rfl,rfl⟩))
       refine(CO.out _ (HLQ.out _)).mono ?_;rintro e w5 ⟨rfl,hb5⟩;have st5:=(HST.out _).below hb5;have HB6:=Hi ((HBN.out _).trans (hb5.mono (Nat.le_of_lt (HST.out _).lt)));have SZ6:=Hi (To (HSN.out _) hb5.size);have s0:=st5.c0;have s1:=st5.c1;clear hb5 st5;go_wp2;go_ret2;exact KV HK.out HE.out (by decide) HB6.out SZ6.out
     ·rw[if_neg hfs]at CI;have CI:=Hi CI;have n0:((N:Int)==0)=false:=AA (by omega);have eul:u.size=N:=by omega
      clear zu hto hbl hb hbn hc htt TAIL ul hu hN hix hf hfg h37 hfs;go_wp2
      go_quiet (fail)
      go_wp2
      go_quiet (fail)
      rcases HTL.out with⟨rfl,hl2⟩|⟨M,rfl,hM,hk,he⟩
      ·have H2:=Hi hl2;clear hl2
       go_wp2_with (first
        | (go_at_call 66;(with_reducible refine(PB.out _).mono ?_);rintro e w' ⟨rfl,rfl⟩)
        | (go_at_call 67;(with_reducible refine(CI.out _).mono ?_);rintro e w' ⟨rfl,rfl⟩))
       refine(CO.out _ (HLQ.out _)).mono ?_;rintro e w5 ⟨rfl,hb5⟩;have st5:=(HST.out _).below hb5;have hb6:=(HBN.out _).trans (hb5.mono (Nat.le_of_lt (HST.out _).lt));have sz6:=To (HSN.out _) hb5.size;have s0:=st5.c0;have s1:=st5.c1;have sf:=st5.f 1;have ST5:=Hi (st5.set t);have HB6:=Hi (hb6.setCell (p:=⟨b,1,none⟩) (nR _) (.int .i64 t));have SZ6:Hid (w.heap.size<=(w5.setCell ⟨b,1,none⟩ (.int .i64 t)).heap.size):=Hi (by simpa using sz6);clear hb5 hb6 sz6 st5;go_wp2;go_roundw
       case rel=>exact⟨t,ST5.out,bt,H2.out,HB6.out,SZ6.out⟩
       case measure=>rw[ST5.out.p,HPP.out];omega
      ·obtain⟨Q,hQ⟩:∃Q,Q=p+M:=⟨_,rfl⟩;have eM:(p:Int)+M=Q:=by omega
       have bQ:Q<=300000000:=by omega
       rw[<-hQ]at hk;have HK:=Hi hk;have HE:=Hi he;clear hk he;have m0:decide ((0:Int)<=(M:Int))=true:=A5;clear hQ
       go_wp2_with (first
        | (go_at_call 66;(with_reducible refine(PB.out _).mono ?_);rintro e w' ⟨rfl,rfl⟩)
        | (go_at_call 67;(with_reducible refine(CI.out _).mono ?_);rintro e w' ⟨rfl,rfl⟩))
       refine(CO.out _ (HLQ.out _)).mono ?_;rintro e w5 ⟨rfl,hb5⟩;have st5:=(HST.out _).below hb5;have HB6:=Hi ((HBN.out _).trans (hb5.mono (Nat.le_of_lt (HST.out _).lt)));have SZ6:=Hi (To (HSN.out _) hb5.size);have s0:=st5.c0;have s1:=st5.c1;clear hb5 st5;go_wp2;go_ret2;exact KV HK.out HE.out (by decide) HB6.out SZ6.out
    ·have b37:((c:Int)==37)=false:=Bn h37;have CP:=fun w=>Tryz.strings_HasPrefix u ⟨#[47,42]⟩ w;rw[show(⟨#[47,42]⟩:ByteArray).data.toList= [47,42]from rfl,ul,ZH hlt]at CP;by_cases h47:AE s p=47/\AE s (p+1)=42
     ·rw[AN h47]at CP;have CP:=Hi CP;have hp2:p+1<s.size:=by
       rcases BY (p+1) s.size with h|h
       ·exact h
       ·have:=Am s (p+1) h;omega
      obtain⟨q,hq⟩:∃q,q=p+2:=⟨_,rfl⟩;have LT:BP s p=if C7 s q+1<s.size then .F8 (C7 s q+2)else .QB:=by
       unfold BP;rw[hbn,hbl,if_neg (by decide),if_neg (by rw[hb];omega),if_pos h47,hq]
      obtain⟨x,hx⟩:∃x,x=s.extract q s.size:=⟨_,rfl⟩;have ex:u.extract 2 u.size=x:=by rw[hu,Ym (by omega),hx,hq]
      have u2:(2:Int)<=u.size:=by omega
      have hix:=Yn s _ q (nR _);have xl:x.data.toList=s.data.toList.drop q:=by rw[hx,EI]
      rw[<-xl]at hix;have CI:=fun(w:World) (hw:Aj w)=>(by
       obtain⟨m,hm⟩:=hw.maxLen;have h:=Tryz.strings_Index x ⟨#[42,47]⟩ m w (by rw[hx,Of];omega) hm;rw[show(⟨#[42,47]⟩:ByteArray).data.toList= [42,47]from rfl,hix]at h;exact h:Calls Tryz.prog 69 #[.string x,.string ⟨#[42,47]⟩] w fun e w'=>e= .returned (.int .i64 (if C7 s q+1<s.size then((C7 s q-q:Nat):Int)else-1))/\w'=w)
      have hge:=M5 s q;by_cases hcs:C7 s q+1<s.size
      ·rw[if_pos hcs]at LT;simp only[if_pos hcs]at CI;obtain⟨i,hi⟩:∃i,i=C7 s q-q:=⟨_,rfl⟩;rw[<-hi]at CI;have CI:=Hi CI;obtain⟨t,htt⟩:∃t,t=C7 s q+2:=⟨_,rfl⟩;rw[<-htt]at LT;obtain⟨t1,bt,r,hcall,hr⟩:=TAIL.out t LT;have CO:=Hi hcall;have HTL:=Hi hr;clear hcall hr;obtain⟨N,hN⟩:∃N,N=t-p:=⟨_,rfl⟩;have eN:(p:Int)+N=t:=by omega
       have e1:(i:Int)+4=N:=by omega
       have i0:decide ((i:Int)<0)=false:=BC;have bi:i<=100000000:=by omega
       have hv:u.extract 0 N=s.extract p t:=by rw[hu,Vg (by omega),show p+N=t by rw[hN];exact Nat.add_sub_of_le (Nat.le_of_lt t1)]
       have bN:N<=u.size:=by omega
       have bN2:(N:Int)<=u.size:=by omega
       have HST:=Hi (HSTN.out);clear zu LT hbl hb hbn hc htt TAIL ul hu hN hix xl hx h37 h47 hcs hi hge hq hp2;go_wp2
       go_quiet (fail)
       go_wp2
       go_quiet (fail)
       rcases HTL.out with⟨rfl,hl2⟩|⟨M,rfl,hM,hk,he⟩
       ·have H2:=Hi hl2;clear hl2
        go_wp2_with (first
         | (go_at_call 66;(with_reducible refine(PB.out _).mono ?_);rintro e w' ⟨rfl,rfl⟩)
         | (go_at_call 68;(with_reducible refine(CP.out _).mono ?_);rintro e w' ⟨rfl,rfl⟩)
         | (go_at_call 69;(with_reducible refine(CI.out _ (HLQ.out _)).mono ?_);rintro e w' ⟨rfl,rfl⟩))
        refine(CO.out _ (HLQ.out _)).mono ?_;rintro e w5 ⟨rfl,hb5⟩;have st5:=(HST.out _).below hb5;have hb6:=(HBN.out _).trans (hb5.mono (Nat.le_of_lt (HST.out _).lt));have sz6:=To (HSN.out _) hb5.size;have s0:=st5.c0;have s1:=st5.c1;have sf:=st5.f 1;have ST5:=Hi (st5.set t);have HB6:=Hi (hb6.setCell (p:=⟨b,1,none⟩) (nR _) (.int .i64 t));have SZ6:Hid (w.heap.size<=(w5.setCell ⟨b,1,none⟩ (.int .i64 t)).heap.size):=Hi (by simpa using sz6);clear hb5 hb6 sz6 st5;go_wp2;go_roundw
        case rel=>exact⟨t,ST5.out,bt,H2.out,HB6.out,SZ6.out⟩
        case measure=>rw[ST5.out.p,HPP.out];omega
       ·obtain⟨Q,hQ⟩:∃Q,Q=p+M:=⟨_,rfl⟩;have eM:(p:Int)+M=Q:=by omega
        have bQ:Q<=300000000:=by omega
        rw[<-hQ]at hk;have HK:=Hi hk;have HE:=Hi he;clear hk he;have m0:decide ((0:Int)<=(M:Int))=true:=A5;clear hQ
        go_wp2_with (first
         | (go_at_call 66;(with_reducible refine(PB.out _).mono ?_);rintro e w' ⟨rfl,rfl⟩)
         | (go_at_call 68;(with_reducible refine(CP.out _).mono ?_);rintro e w' ⟨rfl,rfl⟩)
         | (go_at_call 69;(with_reducible refine(CI.out _ (HLQ.out _)).mono ?_);rintro e w' ⟨rfl,rfl⟩))
        refine(CO.out _ (HLQ.out _)).mono ?_;rintro e w5 ⟨rfl,hb5⟩;have st5:=(HST.out _).below hb5;have HB6:=Hi ((HBN.out _).trans (hb5.mono (Nat.le_of_lt (HST.out _).lt)));have SZ6:=Hi (To (HSN.out _) hb5.size);have s0:=st5.c0;have s1:=st5.c1;clear hb5 st5;go_wp2;go_ret2;exact KV HK.out HE.out (by decide) HB6.out SZ6.out
      ·rw[if_neg hcs]at LT;simp only[if_neg hcs]at CI;have CI:=Hi CI;obtain⟨hk,he⟩:=HL.out.V9 hlt LT;have HK:=Hi hk;have HE:=Hi he;clear zu LT hbl hb hbn hc TAIL ul hu hix xl hx h37 h47 hcs hge hq hp2 hk he;go_wp2
       go_quiet (fail)
       go_wp2
       go_quiet (fail)
       go_wp2_with (first
        | (go_at_call 66;(with_reducible refine(PB.out _).mono ?_);rintro e w' ⟨rfl,rfl⟩)
        | (go_at_call 68;(with_reducible refine(CP.out _).mono ?_);rintro e w' ⟨rfl,rfl⟩)
        | (go_at_call 69;(with_reducible refine(CI.out _ (HLQ.out _)).mono ?_);rintro e w' ⟨rfl,rfl⟩))
       go_ret2;exact KV HK.out.symm HE.out.symm (by decide) (HBN.out _) (HSN.out _)
     ·rw[AS h47]at CP;have CP:=Hi CP;have hto:BP s p= .stop:=by
       unfold BP;rw[hbn,hbl,if_neg (by decide),if_neg (by rw[hb];omega),if_neg h47]
      obtain⟨hk,he⟩:=HL.out.Sk hlt hto;have HK:=Hi hk;have HE:=Hi he;clear zu hto hbl hb hbn hc TAIL ul hu h37 h47 hk he;go_wp2
      go_quiet (fail)
      go_wp2
      go_quiet (fail)
      go_wp2_with (first
       | (go_at_call 66;(with_reducible refine(PB.out _).mono ?_);rintro e w' ⟨rfl,rfl⟩)
       | (go_at_call 68;(with_reducible refine(CP.out _).mono ?_);rintro e w' ⟨rfl,rfl⟩))
      go_ret2;exact Rk HK.out.symm HE.out.symm (HSTN.out _) (HBN.out _) (HSN.out _)
  ·obtain⟨hk,he⟩:=HL.out.Gr (by omega);have HK:=Hi hk;have HE:=Hi he;have pd:decide ((p:Int)<s.size)=false:=BC;clear hk he;go_wp2
   go_quiet (fail)
   go_wp2;go_ret2;exact Rk HK.out.symm HE.out.symm (HSTN.out _) (HBN.out _) (HSN.out _)
end Go.Proofs
end
