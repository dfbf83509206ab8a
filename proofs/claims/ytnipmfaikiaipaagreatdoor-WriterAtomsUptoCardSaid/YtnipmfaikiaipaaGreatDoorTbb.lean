import Derived.Test.YtnipmfaikiaipaaGreatDoorTaj
import Derived.Test.YtnipmfaikiaipaaGreatDoorTba
set_option linter.unusedSimpArgs false
set_option maxRecDepth 1000000
set_option maxHeartbeats 40000000
section
namespace Go.Proofs
open Go.RowKit Go.Pf Go.Lx Go.Hb Go.Rb
theorem aB (c:Nat) (h1:65<=c) (h2:c<=70) (w:World):Calls Tryz.prog 229 #[.int .u8 c] w fun e w'=>e= .returned (.int .u8 (c+32:Nat))/\w=w':=by
 have:c=65\/c=66\/c=67\/c=68\/c=69\/c=70:=by omega
 clear h1 h2;rcases this with rfl|rfl|rfl|rfl|rfl|rfl
 all_goals
  go_enter Tryz.func229,Tryz.ntmps229;go_wp2;go_ret;exact⟨rfl,rfl⟩
def KS (X:Nat) (w:World) (e:Ending) (w':World):Prop:=
 (X<4294967296->e= .returned (.tuple #[.int .u64 X,.nilIface]))/\(¬X<4294967296->e= .returned (.tuple #[.int .u64 4294967295,.iface 197 (.int .i64 1)]))/\Below w.heap.size w w'
theorem Ui {X n:Nat} {w w':World}(h:n=X) (hl:n<4294967296) (hb:Below w.heap.size w w'):KS X w (.returned (.tuple #[.int .u64 n,.nilIface])) w':=by
 subst h;exact⟨fun _=>rfl,fun h=>absurd hl h,hb⟩
theorem Ms {X:Nat} {w w':World}(h:¬X<4294967296) (hb:Below w.heap.size w w'):KS X w (.returned (.tuple #[.int .u64 4294967295,.iface 197 (.int .i64 1)])) w':=⟨fun h2=>absurd h2 h,fun _=>rfl,hb⟩
theorem eQ (s:ByteArray) (w:World) (hpos:0<s.size) (hs:s.size<=100000000) (hd:Hid (∀k (h:k<s.size),Ah s[k].toNat=true)):
 Calls Tryz.prog 201 #[.string s,.int .i64 16,.int .i64 32] w (KS (vN 16 s s.size) w):=by
 have hne:s.toList.isEmpty=false:=by
  rw[gT];have h1:s.data.toList.length=s.size:=by simp
  cases h:s.data.toList with
  |nil=>rw[h]at h1;simp at h1;omega
  |cons a b=>rfl
 obtain⟨X,hX⟩:∃X,X=vN 16 s s.size:=⟨_,rfl⟩;have HM0:∀k,k<=s.size->vN 16 s k<=X:=fun k hk=>by rw[hX];exact Ii (by decide) s hk
 rw[<-hX];have HX:=Hi hX;have HMA:=Hi HM0;clear hX HM0;have hcv:=Lib.run_convert_string_bytes (P:=Tryz.prog) w 9 104 5 s Tryz.underlying9 Tryz.underlying104 Tryz.underlying5;go_enter Tryz.func201,Tryz.ntmps201;go_wp2;generalize hW:Lib.bytesWorld w 5 s=W;have HW:=Hi hW;clear hW
 go_loop [12,13,101] (fun u n i=>∃(k n':Nat),k<=s.size/\i= .int .i64 k/\u= .bool false/\n= .int .u64 n'/\n'=vN 16 s k/\n'<4294967296) (fun _ _ i=>s.size-(intOf i).toNat)
 case atStart=>exact⟨0,0,by omega,rfl,rfl,rfl,rfl,by omega⟩
 case round=>
  obtain⟨k,n,hk,rfl,rfl,rfl,hn,hn2⟩:=hrel;by_cases hlt:k<s.size
  ·obtain⟨c,hc⟩:∃c,c=s[k].toNat:=⟨_,rfl⟩;have hpx:=hd.out k hlt;rw[<-hc]at hpx;obtain⟨d,hdd⟩:∃d,d=CK c:=⟨_,rfl⟩;have hcell:W.cell? ⟨w.heap.size,k,none⟩=some (.int .u8 (c:Nat)):=by
    have h5:=Cf hlt;unfold byte at h5;rw[<-HW.out,Lib.bytesWorld_cell w 5 s k hlt,h5,hc]
   have hdlt:d<16:=by rw[hdd];exact Nc hpx
   have hv1:vN 16 s (k+1)=n*16+d:=by rw[vN,<-hn,Cf hlt,<-hc,hdd]
   have HV:=Hi hv1;have HM:=Hi (HMA.out (k+1) (by omega));have b1:decide ((1152921504606846976:Int)<=(n:Int))=false:=BC;have b3:decide ((n:Int)*16+(d:Int)<(n:Int)*16)=false:=BC;have b4:(n:Int)<=4294967295:=by omega
   have b5:(d:Int)<=15:=by omega
   have b6:decide ((16:Int)<=(d:Int))=false:=BC;have hcc:(c<=57/\c=48+d)\/(97<=c/\c<=102/\c=87+d)\/(65<=c/\c<=70/\c=55+d):=by
    have h7:=hpx;simp[Ah,AM]at h7;rw[hdd];unfold CK;split
    ·left;omega
    ·split
     ·right;left;omega
     ·split
      ·right;right;omega
      ·omega
   clear hpx hdd hv1 hn hn2 hc;have hk2:=hk;rcases hcc with⟨h9,hcd⟩|⟨h8,h9,hcd⟩|⟨h8,h9,hcd⟩
   ·have C1:(c:Int)-48=d:=by omega
    have c2:decide ((48:Int)<=(c:Int))=true:=A5;have c3:decide ((c:Int)<=57)=true:=A5;have c4:((c:Int)==95)=false:=AA (by omega);clear hcd h9;by_cases hov:n*16+d<4294967296
    ·have b2:decide ((4294967295:Int)<(n:Int)*16+(d:Int))=false:=BC;clear hk2;go_wp2;go_round
     case rel=>exact⟨k+1,n*16+d,by omega,by go_num,rfl,by go_num,HV.out.symm,by omega⟩
     case measure=>simp[intOf];omega
    ·have b2:decide ((4294967295:Int)<(n:Int)*16+(d:Int))=true:=A5;have HOV:Hid (¬X<4294967296):=Hi (by
      have h8:=HM.out;have h9:=HV.out;omega)
     clear hk2 hov;go_wp2;go_ret2;exact Ms HOV.out (HW.out▸Cr w s)
   ·have CLO:Hid (∀w,Calls Tryz.prog 229 #[.int .u8 c] w fun e w'=>e= .returned (.int .u8 c)/\w=w'):=Hi (fun w=>Tryz.lower c h8 h9 w);have C1:(c:Int)-97+10=d:=by omega
    have c1:(97:Int)<=(c:Int):=by omega
    have c2:(c:Int)<=102:=by omega
    have c3:decide ((48:Int)<=(c:Int))=true:=A5;have c4:decide ((c:Int)<=57)=false:=BC;have c5:decide ((97:Int)<=(c:Int))=true:=A5;have c6:decide ((c:Int)<=122)=true:=A5;have c7:((c:Int)==95)=false:=AA (by omega);clear hcd h8 h9;by_cases hov:n*16+d<4294967296
    ·have b2:decide ((4294967295:Int)<(n:Int)*16+(d:Int))=false:=BC;clear hk2
     go_wp2_with (go_at_call 229;(with_reducible refine(CLO.out _).mono ?_);rintro e w' ⟨rfl,rfl⟩)
     go_round
     case rel=>exact⟨k+1,n*16+d,by omega,by go_num,rfl,by go_num,HV.out.symm,by omega⟩
     case measure=>simp[intOf];omega
    ·have b2:decide ((4294967295:Int)<(n:Int)*16+(d:Int))=true:=A5;have HOV:Hid (¬X<4294967296):=Hi (by
      have h8:=HM.out;have h9:=HV.out;omega)
     clear hk2 hov
     go_wp2_with (go_at_call 229;(with_reducible refine(CLO.out _).mono ?_);rintro e w' ⟨rfl,rfl⟩)
     go_ret2;exact Ms HOV.out (HW.out▸Cr w s)
   ·obtain⟨c',hc'⟩:∃c',c'=c+32:=⟨_,rfl⟩;have CLO:Hid (∀w,Calls Tryz.prog 229 #[.int .u8 c] w fun e w'=>e= .returned (.int .u8 c')/\w=w'):=Hi (fun w=>by rw[hc'];exact aB c h8 h9 w);have C1:(c':Int)-97+10=d:=by omega
    have c1:(97:Int)<=(c':Int):=by omega
    have c2:(c':Int)<=102:=by omega
    have c3:decide ((48:Int)<=(c:Int))=true:=A5;have c4:decide ((c:Int)<=57)=false:=BC;have c5:decide ((97:Int)<=(c':Int))=true:=A5;have c6:decide ((c':Int)<=122)=true:=A5;have c7:((c:Int)==95)=false:=AA (by omega);clear hcd h8 h9 hc';by_cases hov:n*16+d<4294967296
    ·have b2:decide ((4294967295:Int)<(n:Int)*16+(d:Int))=false:=BC;clear hk2
     go_wp2_with (go_at_call 229;(with_reducible refine(CLO.out _).mono ?_);rintro e w' ⟨rfl,rfl⟩)
     go_round
     case rel=>exact⟨k+1,n*16+d,by omega,by go_num,rfl,by go_num,HV.out.symm,by omega⟩
     case measure=>simp[intOf];omega
    ·have b2:decide ((4294967295:Int)<(n:Int)*16+(d:Int))=true:=A5;have HOV:Hid (¬X<4294967296):=Hi (by
      have h8:=HM.out;have h9:=HV.out;omega)
     clear hk2 hov
     go_wp2_with (go_at_call 229;(with_reducible refine(CLO.out _).mono ?_);rintro e w' ⟨rfl,rfl⟩)
     go_ret2;exact Ms HOV.out (HW.out▸Cr w s)
  ·obtain rfl:k=s.size:=by omega
   have HN:=Hi (show n=X by rw[hn,HX.out]);have HN2:=Hi hn2;clear hn hn2;go_wp2;go_ret2;exact Ui HN.out HN2.out (HW.out▸Cr w s)
theorem fV (s:ByteArray) (w:World) (hpos:0<s.size) (hs:s.size<=100000000) (hd:Hid (∀k (h:k<s.size),A6 s[k].toNat=true)):
 Calls Tryz.prog 201 #[.string s,.int .i64 8,.int .i64 32] w (KS (vN 8 s s.size) w):=by
 have hne:s.toList.isEmpty=false:=by
  rw[gT];have h1:s.data.toList.length=s.size:=by simp
  cases h:s.data.toList with
  |nil=>rw[h]at h1;simp at h1;omega
  |cons a b=>rfl
 obtain⟨X,hX⟩:∃X,X=vN 8 s s.size:=⟨_,rfl⟩;have HM0:∀k,k<=s.size->vN 8 s k<=X:=fun k hk=>by rw[hX];exact Ii (by decide) s hk
 rw[<-hX];have HX:=Hi hX;have HMA:=Hi HM0;clear hX HM0;have hcv:=Lib.run_convert_string_bytes (P:=Tryz.prog) w 9 104 5 s Tryz.underlying9 Tryz.underlying104 Tryz.underlying5;go_enter Tryz.func201,Tryz.ntmps201;go_wp2;generalize hW:Lib.bytesWorld w 5 s=W;have HW:=Hi hW;clear hW
 go_loop [12,13,101] (fun u n i=>∃(k n':Nat),k<=s.size/\i= .int .i64 k/\u= .bool false/\n= .int .u64 n'/\n'=vN 8 s k/\n'<4294967296) (fun _ _ i=>s.size-(intOf i).toNat)
 case atStart=>exact⟨0,0,by omega,rfl,rfl,rfl,rfl,by omega⟩
 case round=>
  obtain⟨k,n,hk,rfl,rfl,rfl,hn,hn2⟩:=hrel;by_cases hlt:k<s.size
  ·obtain⟨c,hc⟩:∃c,c=s[k].toNat:=⟨_,rfl⟩;have hpx:=hd.out k hlt;rw[<-hc]at hpx;obtain⟨d,hdd⟩:∃d,d=CK c:=⟨_,rfl⟩;have hcell:W.cell? ⟨w.heap.size,k,none⟩=some (.int .u8 (c:Nat)):=by
    have h5:=Cf hlt;unfold byte at h5;rw[<-HW.out,Lib.bytesWorld_cell w 5 s k hlt,h5,hc]
   have hdlt:d<8:=by rw[hdd];exact Mk hpx
   have hv1:vN 8 s (k+1)=n*8+d:=by rw[vN,<-hn,Cf hlt,<-hc,hdd]
   have HV:=Hi hv1;have HM:=Hi (HMA.out (k+1) (by omega));have b1:decide ((2305843009213693952:Int)<=(n:Int))=false:=BC;have b3:decide ((n:Int)*8+(d:Int)<(n:Int)*8)=false:=BC;have b4:(n:Int)<=4294967295:=by omega
   have b5:(d:Int)<=15:=by omega
   have b6:decide ((8:Int)<=(d:Int))=false:=BC;have hcc:48<=c/\c<=57/\c=48+d:=by
    have h7:=hpx;simp[A6]at h7;rw[hdd];unfold CK;split
    ·omega
    ·omega
   clear hpx hdd hv1 hn hn2 hc;have hk2:=hk;obtain⟨h8,h9,hcd⟩:=hcc;have C1:(c:Int)-48=d:=by omega
   have c2:decide ((48:Int)<=(c:Int))=true:=A5;have c3:decide ((c:Int)<=57)=true:=A5;have c4:((c:Int)==95)=false:=AA (by omega);clear hcd h8 h9;by_cases hov:n*8+d<4294967296
   ·have b2:decide ((4294967295:Int)<(n:Int)*8+(d:Int))=false:=BC;clear hk2;go_wp2;go_round
    case rel=>exact⟨k+1,n*8+d,by omega,by go_num,rfl,by go_num,HV.out.symm,by omega⟩
    case measure=>simp[intOf];omega
   ·have b2:decide ((4294967295:Int)<(n:Int)*8+(d:Int))=true:=A5;have HOV:Hid (¬X<4294967296):=Hi (by
     have h8:=HM.out;have h9:=HV.out;omega)
    clear hk2 hov;go_wp2;go_ret2;exact Ms HOV.out (HW.out▸Cr w s)
  ·obtain rfl:k=s.size:=by omega
   have HN:=Hi (show n=X by rw[hn,HX.out]);have HN2:=Hi hn2;clear hn hn2;go_wp2;go_ret2;exact Ui HN.out HN2.out (HW.out▸Cr w s)
theorem Jo (fn s:ByteArray) (a b:Int) (te:TypeId) (pe:Value) (w:World) (hlim:s.size<=281474976710656) (hv:w.cell? ⟨8,0,none⟩=some (.iface te pe)):
 Calls Tryz.prog 99 #[.string fn,.string s,.int .i64 a,.int .i64 b,.iface 197 (.int .i64 1)] w fun e w'=>∃T N,e= .returned (.iface T (.pointer (some ⟨N,0,none⟩)))/\Below w.heap.size w w':=by
 have h1:∀w,(binOp .eql 44 (.iface 197 (.int .i64 1)) (.iface 197 (.int .i64 2))).run Tryz.prog w= .ok (.bool false) w:=fun _=>by kernel_rfl
 have h2:∀w,(binOp .eql 44 (.iface 197 (.int .i64 1)) (.iface 197 (.int .i64 1))).run Tryz.prog w= .ok (.bool true) w:=fun _=>by kernel_rfl
 go_enter Tryz.func99,Tryz.ntmps99
 go_wp2_with (go_at_call 146;(with_reducible refine(Ph _ _ te pe _ hlim hv).mono ?_);rintro e w' ⟨N,rfl,hb⟩)
 go_ret;exact⟨_,_,rfl,hb⟩
def OS (X:Nat) (w:World) (e:Ending) (w':World):Prop:=
 (X<4294967296->e= .returned (.tuple #[.int .u64 X,.nilIface]))/\(¬X<4294967296->∃T N,e= .returned (.tuple #[.int .u64 4294967295,.iface T (.pointer (some ⟨N,0,none⟩))]))/\Below w.heap.size w w'
theorem ah (s:ByteArray) (w:World) (hpos:0<s.size) (hs:s.size<=100000000) (hd:Hid (∀k (h:k<s.size),Ah s[k].toNat=true)) (te:TypeId) (pe:Value) (hv:w.cell? ⟨8,0,none⟩=some (.iface te pe)):
 Calls Tryz.prog 173 #[.string s,.int .i64 16,.int .i64 32] w (OS (vN 16 s s.size) w):=by
 have HC:=eQ s w hpos hs hd;obtain⟨n,hn⟩:∃n,n=vN 16 s s.size:=⟨_,rfl⟩;rw[<-hn]at HC⊢;have h6:8<w.heap.size:=Lib.lt_of_cell hv;have n1:∀w,(binOp .neq 44 (.iface 197 (.int .i64 1)) .nilIface).run Tryz.prog w= .ok (.bool true) w:=fun _=>by kernel_rfl
 clear hn;by_cases hX:n<4294967296
 ·have HC:Hid (Calls Tryz.prog 201 #[.string s,.int .i64 16,.int .i64 32] w fun e w'=>e= .returned (.tuple #[.int .u64 n,.nilIface])/\Below w.heap.size w w'):=Hi (HC.mono fun e w' h=>⟨h.1 hX,h.2.2⟩);have HX:=Hi hX;clear hX;go_enter Tryz.func173,Tryz.ntmps173
  go_wp2_with (go_at_call 201;(with_reducible refine HC.out.mono ?_);rintro e w' ⟨rfl,hb⟩)
  go_ret2;exact⟨fun _=>rfl,fun h=>absurd HX.out h,by assumption⟩
 ·have HC:Hid (Calls Tryz.prog 201 #[.string s,.int .i64 16,.int .i64 32] w fun e w'=>e= .returned (.tuple #[.int .u64 4294967295,.iface 197 (.int .i64 1)])/\Below w.heap.size w w'):=Hi (HC.mono fun e w' h=>⟨h.2.1 hX,h.2.2⟩);have HX:=Hi hX;clear hX;go_enter Tryz.func173,Tryz.ntmps173
  go_wp2_with fail
  refine HC.out.mono ?_;rintro e w1 ⟨rfl,hb⟩;have hv1:w1.cell? ⟨8,0,none⟩=some (.iface te pe):=(hb.cell (p:=⟨8,0,none⟩) h6).trans hv
  go_wp2_with fail
  refine(Jo _ s _ _ te pe w1 (by omega) hv1).mono ?_;rintro e w2 ⟨T,N,rfl,hb2⟩;go_wp2;go_ret2;exact⟨fun h=>absurd h HX.out,fun _=>⟨T,N,rfl⟩,hb.trans (hb2.mono hb.size)⟩
theorem ey (s:ByteArray) (w:World) (hpos:0<s.size) (hs:s.size<=100000000) (hd:Hid (∀k (h:k<s.size),A6 s[k].toNat=true)) (te:TypeId) (pe:Value) (hv:w.cell? ⟨8,0,none⟩=some (.iface te pe)):
 Calls Tryz.prog 173 #[.string s,.int .i64 8,.int .i64 32] w (OS (vN 8 s s.size) w):=by
 have HC:=fV s w hpos hs hd;obtain⟨n,hn⟩:∃n,n=vN 8 s s.size:=⟨_,rfl⟩;rw[<-hn]at HC⊢;have h6:8<w.heap.size:=Lib.lt_of_cell hv;have n1:∀w,(binOp .neq 44 (.iface 197 (.int .i64 1)) .nilIface).run Tryz.prog w= .ok (.bool true) w:=fun _=>by kernel_rfl
 clear hn;by_cases hX:n<4294967296
 ·have HC:Hid (Calls Tryz.prog 201 #[.string s,.int .i64 8,.int .i64 32] w fun e w'=>e= .returned (.tuple #[.int .u64 n,.nilIface])/\Below w.heap.size w w'):=Hi (HC.mono fun e w' h=>⟨h.1 hX,h.2.2⟩);have HX:=Hi hX;clear hX;go_enter Tryz.func173,Tryz.ntmps173
  go_wp2_with (go_at_call 201;(with_reducible refine HC.out.mono ?_);rintro e w' ⟨rfl,hb⟩)
  go_ret2;exact⟨fun _=>rfl,fun h=>absurd HX.out h,by assumption⟩
 ·have HC:Hid (Calls Tryz.prog 201 #[.string s,.int .i64 8,.int .i64 32] w fun e w'=>e= .returned (.tuple #[.int .u64 4294967295,.iface 197 (.int .i64 1)])/\Below w.heap.size w w'):=Hi (HC.mono fun e w' h=>⟨h.2.1 hX,h.2.2⟩);have HX:=Hi hX;clear hX;go_enter Tryz.func173,Tryz.ntmps173
  go_wp2_with fail
  refine HC.out.mono ?_;rintro e w1 ⟨rfl,hb⟩;have hv1:w1.cell? ⟨8,0,none⟩=some (.iface te pe):=(hb.cell (p:=⟨8,0,none⟩) h6).trans hv
  go_wp2_with fail
  refine(Jo _ s _ _ te pe w1 (by omega) hv1).mono ?_;rintro e w2 ⟨T,N,rfl,hb2⟩;go_wp2;go_ret2;exact⟨fun h=>absurd h HX.out,fun _=>⟨T,N,rfl⟩,hb.trans (hb2.mono hb.size)⟩
end Go.Proofs
end
section
namespace Go.Lx
open Go.Hb Go.Rb
theorem Va {r:Nat} {s:ByteArray} {f t:Nat}(ht:t<=s.size):∀k,f+k<=t->vN r (s.extract f t) k=At r s f k
 |0,_=>rfl
 |k+1,h=>by rw[vN,At,Va ht k (by omega),BM (by omega) ht,IJ]
theorem K1 {r:Nat} {s:ByteArray} {f t:Nat}(hf:f<=t) (ht:t<=s.size):vN r (s.extract f t) (s.extract f t).size=At r s f (t-f):=by
 rw[show(s.extract f t).size=t-f by rw[Of];omega,Va ht _ (by omega)]
end Go.Lx
namespace Go.Proofs
open Go.RowKit Go.Pf Go.Lx Go.Hb Go.Rb
def aK (o:Option Nat) (w:World) (e:Ending) (w':World):Prop:=
 e= .returned (.tuple #[.int .i32 (match o with|none=>(0:Nat)|some v=>v:Nat),.bool o.isSome])/\w=w'
theorem Uj (w:World):Calls Tryz.prog 172 #[.int .u8 97] w fun e w'=>e= .returned (.tuple #[.int .i32 7,.bool true])/\w=w':=by
 go_enter Tryz.func172,Tryz.ntmps172;go_wp2;go_ret2;exact⟨rfl,rfl⟩
theorem Vh (w:World):Calls Tryz.prog 172 #[.int .u8 98] w fun e w'=>e= .returned (.tuple #[.int .i32 8,.bool true])/\w=w':=by
 go_enter Tryz.func172,Tryz.ntmps172;go_wp2;go_ret2;exact⟨rfl,rfl⟩
theorem TM (w:World):Calls Tryz.prog 172 #[.int .u8 102] w fun e w'=>e= .returned (.tuple #[.int .i32 12,.bool true])/\w=w':=by
 go_enter Tryz.func172,Tryz.ntmps172;go_wp2;go_ret2;exact⟨rfl,rfl⟩
theorem UQ (w:World):Calls Tryz.prog 172 #[.int .u8 110] w fun e w'=>e= .returned (.tuple #[.int .i32 10,.bool true])/\w=w':=by
 go_enter Tryz.func172,Tryz.ntmps172;go_wp2;go_ret2;exact⟨rfl,rfl⟩
theorem Sz (w:World):Calls Tryz.prog 172 #[.int .u8 114] w fun e w'=>e= .returned (.tuple #[.int .i32 13,.bool true])/\w=w':=by
 go_enter Tryz.func172,Tryz.ntmps172;go_wp2;go_ret2;exact⟨rfl,rfl⟩
theorem Tb (w:World):Calls Tryz.prog 172 #[.int .u8 116] w fun e w'=>e= .returned (.tuple #[.int .i32 9,.bool true])/\w=w':=by
 go_enter Tryz.func172,Tryz.ntmps172;go_wp2;go_ret2;exact⟨rfl,rfl⟩
theorem TF (w:World):Calls Tryz.prog 172 #[.int .u8 118] w fun e w'=>e= .returned (.tuple #[.int .i32 11,.bool true])/\w=w':=by
 go_enter Tryz.func172,Tryz.ntmps172;go_wp2;go_ret2;exact⟨rfl,rfl⟩
theorem Uh (w:World):Calls Tryz.prog 172 #[.int .u8 92] w fun e w'=>e= .returned (.tuple #[.int .i32 92,.bool true])/\w=w':=by
 go_enter Tryz.func172,Tryz.ntmps172;go_wp2;go_ret2;exact⟨rfl,rfl⟩
theorem Wy (w:World):Calls Tryz.prog 172 #[.int .u8 39] w fun e w'=>e= .returned (.tuple #[.int .i32 39,.bool true])/\w=w':=by
 go_enter Tryz.func172,Tryz.ntmps172;go_wp2;go_ret2;exact⟨rfl,rfl⟩
theorem VE (w:World):Calls Tryz.prog 172 #[.int .u8 34] w fun e w'=>e= .returned (.tuple #[.int .i32 34,.bool true])/\w=w':=by
 go_enter Tryz.func172,Tryz.ntmps172;go_wp2;go_ret2;exact⟨rfl,rfl⟩
theorem Wk (w:World):Calls Tryz.prog 172 #[.int .u8 96] w fun e w'=>e= .returned (.tuple #[.int .i32 96,.bool true])/\w=w':=by
 go_enter Tryz.func172,Tryz.ntmps172;go_wp2;go_ret2;exact⟨rfl,rfl⟩
theorem Ts (c:Nat) (h:Hid (He c=none)) (w:World):Calls Tryz.prog 172 #[.int .u8 c] w fun e w'=>e= .returned (.tuple #[.int .i32 0,.bool false])/\w=w':=by
 have h0:((c:Int)==97)=false:=by
  refine AA fun h2=> ?_;obtain rfl:c=97:=by omega
  exact absurd h.out (by decide)
 have h1:((c:Int)==98)=false:=by
  refine AA fun h2=> ?_;obtain rfl:c=98:=by omega
  exact absurd h.out (by decide)
 have h2:((c:Int)==102)=false:=by
  refine AA fun h2=> ?_;obtain rfl:c=102:=by omega
  exact absurd h.out (by decide)
 have h3:((c:Int)==110)=false:=by
  refine AA fun h2=> ?_;obtain rfl:c=110:=by omega
  exact absurd h.out (by decide)
 have h4:((c:Int)==114)=false:=by
  refine AA fun h2=> ?_;obtain rfl:c=114:=by omega
  exact absurd h.out (by decide)
 have h5:((c:Int)==116)=false:=by
  refine AA fun h2=> ?_;obtain rfl:c=116:=by omega
  exact absurd h.out (by decide)
 have h6:((c:Int)==118)=false:=by
  refine AA fun h2=> ?_;obtain rfl:c=118:=by omega
  exact absurd h.out (by decide)
 have h7:((c:Int)==92)=false:=by
  refine AA fun h2=> ?_;obtain rfl:c=92:=by omega
  exact absurd h.out (by decide)
 have h8:((c:Int)==39)=false:=by
  refine AA fun h2=> ?_;obtain rfl:c=39:=by omega
  exact absurd h.out (by decide)
 have h9:((c:Int)==34)=false:=by
  refine AA fun h2=> ?_;obtain rfl:c=34:=by omega
  exact absurd h.out (by decide)
 have h10:((c:Int)==96)=false:=by
  refine AA fun h2=> ?_;obtain rfl:c=96:=by omega
  exact absurd h.out (by decide)
 go_enter Tryz.func172,Tryz.ntmps172;go_wp2;go_ret2;exact⟨rfl,rfl⟩
theorem Z9 (c:Nat) (w:World):Calls Tryz.prog 172 #[.int .u8 c] w (aK (He c) w):=by
 by_cases h97:c=97
 ·subst h97;exact Uj w
 by_cases h98:c=98
 ·subst h98;exact Vh w
 by_cases h102:c=102
 ·subst h102;exact TM w
 by_cases h110:c=110
 ·subst h110;exact UQ w
 by_cases h114:c=114
 ·subst h114;exact Sz w
 by_cases h116:c=116
 ·subst h116;exact Tb w
 by_cases h118:c=118
 ·subst h118;exact TF w
 by_cases h92:c=92
 ·subst h92;exact Uh w
 by_cases h39:c=39
 ·subst h39;exact Wy w
 by_cases h34:c=34
 ·subst h34;exact VE w
 by_cases h96:c=96
 ·subst h96;exact Wk w
 have hn:He c=none:=by
  unfold He;rw[if_neg h97,if_neg h98,if_neg h102,if_neg h110,if_neg h114,if_neg h116,if_neg h118,if_neg h92,if_neg h39,if_neg h34,if_neg h96]
 rw[hn];exact Ts c (Hi hn) w
def BK (o:Option (Nat×Nat)) (w:World) (e:Ending) (w':World):Prop:=
 (match o with
  |none=>e= .returned (.tuple #[.int .i32 0,.int .i64 0,.bool false])
  |some (v,t)=>e= .returned (.tuple #[.int .i32 v,.int .i64 t,.bool true]))/\Below w.heap.size w w'
theorem BK.no {o:Option (Nat×Nat)} {w w':World}(h:o=none) (hb:Below w.heap.size w w'):BK o w (.returned (.tuple #[.int .i32 0,.int .i64 0,.bool false])) w':=by
 subst h;exact⟨rfl,hb⟩
theorem BK.yes {o:Option (Nat×Nat)} {w w':World} {v t:Nat} {a b:Int}(h:o=some (v,t)) (ha:a=v) (hbb:b=t) (hb:Below w.heap.size w w'):BK o w (.returned (.tuple #[.int .i32 a,.int .i64 b,.bool true])) w':=by
 subst h ha hbb;exact⟨rfl,hb⟩
theorem O2 {v:Nat}(h:¬AR v) (h2:v<=1114111):Lib.validRune v=false:=by
 unfold Lib.validRune AR at*;exact AS (by omega)
theorem Sj (s:ByteArray) (p a:Nat) (w:World) (hs:s.size<=100000000) (ha:Hid (a=p+1)) (hal:a<=s.size) (te:TypeId) (pe:Value) (hv:Hid (w.cell? ⟨8,0,none⟩=some (.iface te pe))):
 Calls Tryz.prog 120 #[.string s,.int .i64 a] w (BK (Dp s p) w):=by
 obtain⟨R,hR⟩:∃R,R=Dp s p:=⟨_,rfl⟩;rw[<-hR];unfold Dp at hR;rw[<-ha.out,show p+2=a+1 by rw[ha.out]]at hR;by_cases hlt:a<s.size
 ·have li:(a:Int)<s.size:=by omega
  have eb:AE s a=s[a].toNat:=AO s a hlt;rw[if_pos hlt,eb,IT]at hR;obtain⟨c,hc⟩:∃c,c=s[a].toNat:=⟨_,rfl⟩;rw[<-hc]at hR eb;have CP:=fun w=>Z9 c w;rw[hc]at CP;cases ho:He c with
  |some v=>
   rw[ho]at hR;rw[<-hc,ho]at CP;rw[hc]at CP
   replace CP:Hid (∀w,Calls Tryz.prog 172 #[.int .u8 s[a].toNat] w fun e w'=>e= .returned (.tuple #[.int .i32 v,.bool true])/\w=w'):=Hi CP
   have HR:=Hi hR;clear hR ho eb hc;go_enter Tryz.func120,Tryz.ntmps120
   go_wp2_with (first
    | (go_at_call 172;(with_reducible refine(CP.out _).mono ?_);rintro e w' ⟨rfl,rfl⟩))
   go_ret3;exact BK.yes HR.out (by first|rfl|omega) (by first|rfl|omega) (AH _ _)
  |none=>
   rw[ho]at hR;rw[<-hc,ho]at CP;rw[hc]at CP
   replace CP:Hid (∀w,Calls Tryz.prog 172 #[.int .u8 s[a].toNat] w fun e w'=>e= .returned (.tuple #[.int .i32 0,.bool false])/\w=w'):=Hi CP
   have HR2:R=if c=120 then GR 16 Ah s (a+1)else GR 8 A6 s a:=by
    rw[hR];by_cases h:c=120
    ·rw[if_pos h,if_pos (by omega)]
    ·rw[if_neg h,if_neg (by omega)]
   clear hR ho eb;by_cases h120:c=120
   ·rw[if_pos h120]at HR2;have m1:((s[a].toNat:Int)==120)=true:=beq_of_eq (by omega);clear hc h120;obtain⟨f,hf⟩:∃f,f=a+1:=⟨_,rfl⟩;rw[<-hf]at HR2;have ef:(a:Int)+1=f:=by omega
    have f1:f<=s.size:=by omega
    clear hf;obtain⟨T,hT⟩:∃T,T=AF Ah s f:=⟨_,rfl⟩;have CR:Hid (∀w,Calls Tryz.prog 75 #[.string s,.int .i64 f,.func (.func 114) #[] #[]] w (Ag T w)):=Hi (fun w=>by rw[hT];exact Nh s f w (by omega) (by omega));have tge:=Ae Ah s f;have tle:=Ai Ah s f (by omega);have tall:= @Bv Ah s f;rw[<-hT]at tge tle tall;rw[GR,<-hT]at HR2;clear hT;by_cases q1:T=f
    ·have HN:Hid (R=none):=Hi (by rw[HR2,if_pos (.inl q1)]);have m2:((T:Int)==f)=true:=by rw[q1];exact beq_self_eq_true _
     clear HR2 q1 tall;go_enter Tryz.func120,Tryz.ntmps120
     go_wp2_with (first
      | (go_at_call 172;(with_reducible refine(CP.out _).mono ?_);rintro e w' ⟨rfl,rfl⟩)
      | (go_at_call 75;(with_reducible refine(CR.out _).mono ?_);rintro e w' ⟨rfl,rfl⟩))
     go_ret3;exact BK.no HN.out (AH _ _)
    have m2:((T:Int)==f)=false:=Bn q1;by_cases q2:¬(T<s.size)
    ·have HN:Hid (R=none):=Hi (by rw[HR2,if_pos (.inr (by rw[Am s T (by omega)];decide))]);have m3:(s.size:Int)<=T:=by omega
     clear HR2 q1 tall tle;go_enter Tryz.func120,Tryz.ntmps120
     go_wp2_with (first
      | (go_at_call 172;(with_reducible refine(CP.out _).mono ?_);rintro e w' ⟨rfl,rfl⟩)
      | (go_at_call 75;(with_reducible refine(CR.out _).mono ?_);rintro e w' ⟨rfl,rfl⟩))
     go_ret3;exact BK.no HN.out (AH _ _)
    replace q2:T<s.size:=Classical.not_not.1 q2
    have m3:¬((s.size:Int)<=T):=by omega
    have eT:AE s T=s[T].toNat:=AO s T q2;by_cases q3:¬(s[T].toNat=92)
    ·have HN:Hid (R=none):=Hi (by rw[HR2,if_pos (.inr (by rw[eT];omega))]);have m4:((s[T].toNat:Int) !=92)=true:=Cd (by omega);clear HR2 q1 tall tle eT;go_enter Tryz.func120,Tryz.ntmps120
     go_wp2_with (first
      | (go_at_call 172;(with_reducible refine(CP.out _).mono ?_);rintro e w' ⟨rfl,rfl⟩)
      | (go_at_call 75;(with_reducible refine(CR.out _).mono ?_);rintro e w' ⟨rfl,rfl⟩))
     go_ret3;exact BK.no HN.out (AH _ _)
    have m4:((s[T].toNat:Int) !=92)=false:=BI (by omega);rw[if_neg (by rw[eT];omega)]at HR2;obtain⟨U,hU⟩:∃U,U=s.extract f T:=⟨_,rfl⟩;have zU:U.size=T-f:=by rw[hU,Of];omega
    have hX:vN 16 U U.size=At 16 s f (T-f):=by rw[hU];exact K1 tge tle
    have m5:(f:Int)<=T:=by omega
    have w9:∀w,(Instr.slice 9 (.string s) (some (.int .i64 (f:Int))) (some (.int .i64 (T:Int))) none).run Tryz.prog w= .ok (.string U) w:=fun w=>by
     have:=eE (P:=Tryz.prog) (w:=w) 9 s .i64 .i64 (f:Int) (T:Int) Tryz.underlying9 (by omega) (by omega) (by omega);rw[show((f:Int)).toNat=f by omega,show((T:Int)).toNat=T by omega,<-hU]at this;exact this
    have hdU:Hid (∀k (h:k<U.size),Ah U[k].toNat=true):=Hi (by
     intro k hk;have h1:=tall (f+k) (by omega) (by omega) (by omega);rw[<-Cf hk,hU,BM (by omega) tle,Cf (by omega)];exact h1)
    have CU0:=ah U w (by omega) (by omega) hdU te pe hv.out;rw[hX]at CU0;obtain⟨X,hXX⟩:∃X,X=At 16 s f (T-f):=⟨_,rfl⟩;rw[<-hXX]at CU0 HR2;clear hX hXX hdU zU hU tall eT tle q1;by_cases q4:¬(X<4294967296)
    ·have CU:Hid (Calls Tryz.prog 173 #[.string U,.int .i64 16,.int .i64 32] w fun e w'=>∃T N,e= .returned (.tuple #[.int .u64 4294967295,.iface T (.pointer (some ⟨N,0,none⟩))])/\Below w.heap.size w w'):=Hi (CU0.mono fun e w' h=>(by obtain⟨T,N,he⟩:=h.2.1 q4;exact⟨T,N,he,h.2.2⟩));have HN:Hid (R=none):=Hi (by rw[HR2,if_neg];unfold AR;omega);have w7:∀T N w,(binOp .neq 44 (.iface T (.pointer (some ⟨N,0,none⟩))) .nilIface).run Tryz.prog w= .ok (.bool true) w:=fun _ _ _=>rfl;clear HR2 CU0 q4;go_enter Tryz.func120,Tryz.ntmps120
     go_wp2_with (first
      | (go_at_call 172;(with_reducible refine(CP.out _).mono ?_);rintro e w' ⟨rfl,rfl⟩)
      | (go_at_call 75;(with_reducible refine(CR.out _).mono ?_);rintro e w' ⟨rfl,rfl⟩)
      | (go_at_call 173;(with_reducible refine CU.out.mono ?_);rintro e w' ⟨T9,N9,rfl,hb⟩))
     go_ret3;exact BK.no HN.out hb
    replace q4:X<4294967296:=Classical.not_not.1 q4
    have CU:Hid (Calls Tryz.prog 173 #[.string U,.int .i64 16,.int .i64 32] w fun e w'=>e= .returned (.tuple #[.int .u64 X,.nilIface])/\Below w.heap.size w w'):=Hi (CU0.mono fun e w' h=>⟨h.1 q4,h.2.2⟩);clear CU0;by_cases q5:¬(X<=1114111)
    ·have HN:Hid (R=none):=Hi (by rw[HR2,if_neg];unfold AR;omega);have m6:(1114111:Int)<X:=by omega
     clear HR2;go_enter Tryz.func120,Tryz.ntmps120
     go_wp2_with (first
      | (go_at_call 172;(with_reducible refine(CP.out _).mono ?_);rintro e w' ⟨rfl,rfl⟩)
      | (go_at_call 75;(with_reducible refine(CR.out _).mono ?_);rintro e w' ⟨rfl,rfl⟩)
      | (go_at_call 173;(with_reducible refine CU.out.mono ?_);rintro e w' ⟨rfl,hb⟩))
     go_ret3;exact BK.no HN.out hb
    replace q5:X<=1114111:=Classical.not_not.1 q5
    have m6:¬((1114111:Int)<X):=by omega
    have CV:Hid (∀w,Calls Tryz.prog 174 #[.int .i32 X] w fun e w'=>e= .returned (.bool (Lib.validRune X))/\w=w'):=Hi (fun w=>(Tryz.utf8_ValidRune X w).mono fun _ _ ⟨h1,h2⟩=>⟨h1,h2.symm⟩);by_cases q6:AR X
    ·have HN:Hid (R=some (X,T+1)):=Hi (by rw[HR2,if_pos q6]);rw[Od q6]at CV;clear HR2 q6;go_enter Tryz.func120,Tryz.ntmps120
     go_wp2_with (first
      | (go_at_call 172;(with_reducible refine(CP.out _).mono ?_);rintro e w' ⟨rfl,rfl⟩)
      | (go_at_call 75;(with_reducible refine(CR.out _).mono ?_);rintro e w' ⟨rfl,rfl⟩)
      | (go_at_call 173;(with_reducible refine CU.out.mono ?_);rintro e w' ⟨rfl,hb⟩)
      | (go_at_call 174;(with_reducible refine(CV.out _).mono ?_);rintro e w' ⟨rfl,rfl⟩))
     go_ret3;exact BK.yes HN.out (by first|rfl|omega) (by first|rfl|omega) hb
    ·have HN:Hid (R=none):=Hi (by rw[HR2,if_neg q6]);rw[O2 q6 q5]at CV;clear HR2 q6;go_enter Tryz.func120,Tryz.ntmps120
     go_wp2_with (first
      | (go_at_call 172;(with_reducible refine(CP.out _).mono ?_);rintro e w' ⟨rfl,rfl⟩)
      | (go_at_call 75;(with_reducible refine(CR.out _).mono ?_);rintro e w' ⟨rfl,rfl⟩)
      | (go_at_call 173;(with_reducible refine CU.out.mono ?_);rintro e w' ⟨rfl,hb⟩)
      | (go_at_call 174;(with_reducible refine(CV.out _).mono ?_);rintro e w' ⟨rfl,rfl⟩))
     go_ret3;exact BK.no HN.out hb
   ·rw[if_neg h120]at HR2;have m1:((s[a].toNat:Int)==120)=false:=AA (by omega);clear hc h120;obtain⟨f,hf⟩:∃f,f=a:=⟨_,rfl⟩;subst hf;obtain⟨T,hT⟩:∃T,T=AF A6 s f:=⟨_,rfl⟩;have CR:Hid (∀w,Calls Tryz.prog 75 #[.string s,.int .i64 f,.func (.func 116) #[] #[]] w (Ag T w)):=Hi (fun w=>by rw[hT];exact Rm s f w (by omega) (by omega));have tge:=Ae A6 s f;have tle:=Ai A6 s f (by omega);have tall:= @Bv A6 s f;rw[<-hT]at tge tle tall;rw[GR,<-hT]at HR2;clear hT;by_cases q1:T=f
    ·have HN:Hid (R=none):=Hi (by rw[HR2,if_pos (.inl q1)]);have m2:((T:Int)==f)=true:=by rw[q1];exact beq_self_eq_true _
     clear HR2 q1 tall;go_enter Tryz.func120,Tryz.ntmps120
     go_wp2_with (first
      | (go_at_call 172;(with_reducible refine(CP.out _).mono ?_);rintro e w' ⟨rfl,rfl⟩)
      | (go_at_call 75;(with_reducible refine(CR.out _).mono ?_);rintro e w' ⟨rfl,rfl⟩))
     go_ret3;exact BK.no HN.out (AH _ _)
    have m2:((T:Int)==f)=false:=Bn q1;by_cases q2:¬(T<s.size)
    ·have HN:Hid (R=none):=Hi (by rw[HR2,if_pos (.inr (by rw[Am s T (by omega)];decide))]);have m3:(s.size:Int)<=T:=by omega
     clear HR2 q1 tall tle;go_enter Tryz.func120,Tryz.ntmps120
     go_wp2_with (first
      | (go_at_call 172;(with_reducible refine(CP.out _).mono ?_);rintro e w' ⟨rfl,rfl⟩)
      | (go_at_call 75;(with_reducible refine(CR.out _).mono ?_);rintro e w' ⟨rfl,rfl⟩))
     go_ret3;exact BK.no HN.out (AH _ _)
    replace q2:T<s.size:=Classical.not_not.1 q2
    have m3:¬((s.size:Int)<=T):=by omega
    have eT:AE s T=s[T].toNat:=AO s T q2;by_cases q3:¬(s[T].toNat=92)
    ·have HN:Hid (R=none):=Hi (by rw[HR2,if_pos (.inr (by rw[eT];omega))]);have m4:((s[T].toNat:Int) !=92)=true:=Cd (by omega);clear HR2 q1 tall tle eT;go_enter Tryz.func120,Tryz.ntmps120
     go_wp2_with (first
      | (go_at_call 172;(with_reducible refine(CP.out _).mono ?_);rintro e w' ⟨rfl,rfl⟩)
      | (go_at_call 75;(with_reducible refine(CR.out _).mono ?_);rintro e w' ⟨rfl,rfl⟩))
     go_ret3;exact BK.no HN.out (AH _ _)
    have m4:((s[T].toNat:Int) !=92)=false:=BI (by omega);rw[if_neg (by rw[eT];omega)]at HR2;obtain⟨U,hU⟩:∃U,U=s.extract f T:=⟨_,rfl⟩;have zU:U.size=T-f:=by rw[hU,Of];omega
    have hX:vN 8 U U.size=At 8 s f (T-f):=by rw[hU];exact K1 tge tle
    have m5:(f:Int)<=T:=by omega
    have w9:∀w,(Instr.slice 9 (.string s) (some (.int .i64 (f:Int))) (some (.int .i64 (T:Int))) none).run Tryz.prog w= .ok (.string U) w:=fun w=>by
     have:=eE (P:=Tryz.prog) (w:=w) 9 s .i64 .i64 (f:Int) (T:Int) Tryz.underlying9 (by omega) (by omega) (by omega);rw[show((f:Int)).toNat=f by omega,show((T:Int)).toNat=T by omega,<-hU]at this;exact this
    have hdU:Hid (∀k (h:k<U.size),A6 U[k].toNat=true):=Hi (by
     intro k hk;have h1:=tall (f+k) (by omega) (by omega) (by omega);rw[<-Cf hk,hU,BM (by omega) tle,Cf (by omega)];exact h1)
    have CU0:=ey U w (by omega) (by omega) hdU te pe hv.out;rw[hX]at CU0;obtain⟨X,hXX⟩:∃X,X=At 8 s f (T-f):=⟨_,rfl⟩;rw[<-hXX]at CU0 HR2;clear hX hXX hdU zU hU tall eT tle q1;by_cases q4:¬(X<4294967296)
    ·have CU:Hid (Calls Tryz.prog 173 #[.string U,.int .i64 8,.int .i64 32] w fun e w'=>∃T N,e= .returned (.tuple #[.int .u64 4294967295,.iface T (.pointer (some ⟨N,0,none⟩))])/\Below w.heap.size w w'):=Hi (CU0.mono fun e w' h=>(by obtain⟨T,N,he⟩:=h.2.1 q4;exact⟨T,N,he,h.2.2⟩));have HN:Hid (R=none):=Hi (by rw[HR2,if_neg];unfold AR;omega);have w7:∀T N w,(binOp .neq 44 (.iface T (.pointer (some ⟨N,0,none⟩))) .nilIface).run Tryz.prog w= .ok (.bool true) w:=fun _ _ _=>rfl;clear HR2 CU0 q4;go_enter Tryz.func120,Tryz.ntmps120
     go_wp2_with (first
      | (go_at_call 172;(with_reducible refine(CP.out _).mono ?_);rintro e w' ⟨rfl,rfl⟩)
      | (go_at_call 75;(with_reducible refine(CR.out _).mono ?_);rintro e w' ⟨rfl,rfl⟩)
      | (go_at_call 173;(with_reducible refine CU.out.mono ?_);rintro e w' ⟨T9,N9,rfl,hb⟩))
     go_ret3;exact BK.no HN.out hb
    replace q4:X<4294967296:=Classical.not_not.1 q4
    have CU:Hid (Calls Tryz.prog 173 #[.string U,.int .i64 8,.int .i64 32] w fun e w'=>e= .returned (.tuple #[.int .u64 X,.nilIface])/\Below w.heap.size w w'):=Hi (CU0.mono fun e w' h=>⟨h.1 q4,h.2.2⟩);clear CU0;by_cases q5:¬(X<=1114111)
    ·have HN:Hid (R=none):=Hi (by rw[HR2,if_neg];unfold AR;omega);have m6:(1114111:Int)<X:=by omega
     clear HR2;go_enter Tryz.func120,Tryz.ntmps120
     go_wp2_with (first
      | (go_at_call 172;(with_reducible refine(CP.out _).mono ?_);rintro e w' ⟨rfl,rfl⟩)
      | (go_at_call 75;(with_reducible refine(CR.out _).mono ?_);rintro e w' ⟨rfl,rfl⟩)
      | (go_at_call 173;(with_reducible refine CU.out.mono ?_);rintro e w' ⟨rfl,hb⟩))
     go_ret3;exact BK.no HN.out hb
    replace q5:X<=1114111:=Classical.not_not.1 q5
    have m6:¬((1114111:Int)<X):=by omega
    have CV:Hid (∀w,Calls Tryz.prog 174 #[.int .i32 X] w fun e w'=>e= .returned (.bool (Lib.validRune X))/\w=w'):=Hi (fun w=>(Tryz.utf8_ValidRune X w).mono fun _ _ ⟨h1,h2⟩=>⟨h1,h2.symm⟩);by_cases q6:AR X
    ·have HN:Hid (R=some (X,T+1)):=Hi (by rw[HR2,if_pos q6]);rw[Od q6]at CV;clear HR2 q6;go_enter Tryz.func120,Tryz.ntmps120
     go_wp2_with (first
      | (go_at_call 172;(with_reducible refine(CP.out _).mono ?_);rintro e w' ⟨rfl,rfl⟩)
      | (go_at_call 75;(with_reducible refine(CR.out _).mono ?_);rintro e w' ⟨rfl,rfl⟩)
      | (go_at_call 173;(with_reducible refine CU.out.mono ?_);rintro e w' ⟨rfl,hb⟩)
      | (go_at_call 174;(with_reducible refine(CV.out _).mono ?_);rintro e w' ⟨rfl,rfl⟩))
     go_ret3;exact BK.yes HN.out (by first|rfl|omega) (by first|rfl|omega) hb
    ·have HN:Hid (R=none):=Hi (by rw[HR2,if_neg q6]);rw[O2 q6 q5]at CV;clear HR2 q6;go_enter Tryz.func120,Tryz.ntmps120
     go_wp2_with (first
      | (go_at_call 172;(with_reducible refine(CP.out _).mono ?_);rintro e w' ⟨rfl,rfl⟩)
      | (go_at_call 75;(with_reducible refine(CR.out _).mono ?_);rintro e w' ⟨rfl,rfl⟩)
      | (go_at_call 173;(with_reducible refine CU.out.mono ?_);rintro e w' ⟨rfl,hb⟩)
      | (go_at_call 174;(with_reducible refine(CV.out _).mono ?_);rintro e w' ⟨rfl,rfl⟩))
     go_ret3;exact BK.no HN.out hb
 ·have hN:R=none:=by
   rw[hR,if_neg hlt];have b0:=Am s a (by omega);simp only[];rw[if_neg (by rw[b0];decide),GR,if_pos (.inl (Ac (by omega)))]
  have HN:=Hi hN;have li:(s.size:Int)<=a:=by omega
  clear hR hN hlt;go_enter Tryz.func120,Tryz.ntmps120;go_wp2;go_ret3;exact BK.no HN.out (AH _ _)
end Go.Proofs
end
