import Derived.Test.YtpocgkiamgipdaaGreatDoorTaj
import Derived.Test.YtpocgkiamgipdaaGreatDoorTba
set_option maxRecDepth 1000000
set_option maxHeartbeats 0
set_option linter.unusedVariables false
set_option linter.unusedSimpArgs false
open Go.Proofs.Tryz
section
namespace Go.Proofs
open Go.RowKit Go.Pf Go.Lx Go.Hb Go.Rb
theorem fR (c:Nat) (h1:65<=c) (h2:c<=70) (w:World):Calls prog 149 #[.int .u8 c] w fun e w'=>e= .returned (.int .u8 (c+32:Nat))/\w=w':=by
 have:c=65\/c=66\/c=67\/c=68\/c=69\/c=70:=by omega
 clear h1 h2;rcases this with rfl|rfl|rfl|rfl|rfl|rfl
 all_goals
  go_enter func149,ntmps149;go_wp2;go_ret;exact⟨rfl,rfl⟩
def J8 (X:Nat) (w:World) (e:Ending) (w':World):Prop:=
 (X<4294967296->e= .returned (.tuple #[.int .u64 X,.nilIface]))/\(¬X<4294967296->e= .returned (.tuple #[.int .u64 4294967295,.iface 218 (.int .i64 1)]))/\Below w.heap.size w w'
theorem VR {X n:Nat} {w w':World}(h:n=X) (hl:n<4294967296) (hb:Below w.heap.size w w'):J8 X w (.returned (.tuple #[.int .u64 n,.nilIface])) w':=by
 subst h;exact⟨fun _=>rfl,fun h=>absurd hl h,hb⟩
theorem M6 {X:Nat} {w w':World}(h:¬X<4294967296) (hb:Below w.heap.size w w'):J8 X w (.returned (.tuple #[.int .u64 4294967295,.iface 218 (.int .i64 1)])) w':=⟨fun h2=>absurd h2 h,fun _=>rfl,hb⟩
theorem iU (s:ByteArray) (w:World) (qT:0<s.size) (hs:s.size<=100000000) (hd:Hid (∀k (h:k<s.size),A9 s[k].toNat=true)):
 Calls prog 140 #[.string s,.int .i64 16,.int .i64 32] w (J8 (vN 16 s s.size) w):=by
 have qP:s.toList.isEmpty=false:=by
  rw[ph];have h1:s.data.toList.length=s.size:=by simp
  cases h:s.data.toList with
  |nil=>rw[h]at h1;simp at h1;omega
  |cons a b=>rfl
 obtain⟨X,hX⟩:∃X,X=vN 16 s s.size:=⟨_,rfl⟩;have HM0:∀k,k<=s.size->vN 16 s k<=X:=fun k hk=>by rw[hX];exact Ep (by decide) s hk
 rw[<-hX];have HX:=Hi hX;have HMA:=Hi HM0;clear hX HM0;have sX:=Lib.run_convert_string_bytes (P:=prog) w 9 143 5 s mS my nV;go_enter func140,ntmps140;go_wp2;generalize hW:Lib.bytesWorld w 5 s=W;have HW:=Hi hW;clear hW
 go_loop [12,13,101] (fun u n i=>∃(k n':Nat),k<=s.size/\i= .int .i64 k/\u= .bool false/\n= .int .u64 n'/\n'=vN 16 s k/\n'<4294967296) (fun _ _ i=>s.size-(intOf i).toNat)
 case atStart=>exact⟨0,0,by omega,rfl,rfl,rfl,rfl,by omega⟩
 case round=>
  obtain⟨k,n,hk,rfl,rfl,rfl,hn,sy⟩:=hrel;by_cases qE:k<s.size
  ·obtain⟨c,hc⟩:∃c,c=s[k].toNat:=⟨_,rfl⟩;have zd:=hd.o k qE;rw[<-hc]at zd;obtain⟨d,rr⟩:∃d,d=Cv c:=⟨_,rfl⟩;have qW:W.cell? ⟨w.heap.size,k,none⟩=some (.int .u8 (c:Nat)):=by
    have h5:=Dw qE;unfold byte at h5;rw[<-HW.o,Lib.bytesWorld_cell w 5 s k qE,h5,hc]
   have hdlt:d<16:=by rw[rr];exact SQ zd
   have sj:vN 16 s (k+1)=n*16+d:=by rw[vN,<-hn,Dw qE,<-hc,rr]
   have HV:=Hi sj;have HM:=Hi (HMA.o (k+1) (by omega));have b1:decide ((1152921504606846976:Int)<=(n:Int))=false:=Ej;have b3:decide ((n:Int)*16+(d:Int)<(n:Int)*16)=false:=Ej;have b4:(n:Int)<=4294967295:=by omega
   have b5:(d:Int)<=15:=by omega
   have b6:decide ((16:Int)<=(d:Int))=false:=Ej;have uY:(c<=57/\c=48+d)\/(97<=c/\c<=102/\c=87+d)\/(65<=c/\c<=70/\c=55+d):=by
    have h7:=zd;simp[A9,AQ]at h7;rw[rr];unfold Cv;split
    ·left;omega
    ·split
     ·right;left;omega
     ·split
      ·right;right;omega
      ·omega
   clear zd rr sj hn sy hc;have sW:=hk;rcases uY with⟨h9,uh⟩|⟨h8,h9,uh⟩|⟨h8,h9,uh⟩
   ·have C1:(c:Int)-48=d:=by omega
    have c2:decide ((48:Int)<=(c:Int))=true:=Dq;have c3:decide ((c:Int)<=57)=true:=Dq;have c4:((c:Int)==95)=false:=AD (by omega);clear uh h9;by_cases wB:n*16+d<4294967296
    ·have b2:decide ((4294967295:Int)<(n:Int)*16+(d:Int))=false:=Ej;clear sW;go_wp2;go_round
     case rel=>exact⟨k+1,n*16+d,by omega,by go_num,rfl,by go_num,HV.o.symm,by omega⟩
     case measure=>simp[intOf];omega
    ·have b2:decide ((4294967295:Int)<(n:Int)*16+(d:Int))=true:=Dq;have vm:Hid (¬X<4294967296):=Hi (by
      have h8:=HM.o;have h9:=HV.o;omega)
     clear sW wB;go_wp2;go_ret2;exact M6 vm.o (HW.o▸DP w s)
   ·have CLO:Hid (∀w,Calls prog 149 #[.int .u8 c] w fun e w'=>e= .returned (.int .u8 c)/\w=w'):=Hi (fun w=>Tryz.lower c h8 h9 w);have C1:(c:Int)-97+10=d:=by omega
    have c1:(97:Int)<=(c:Int):=by omega
    have c2:(c:Int)<=102:=by omega
    have c3:decide ((48:Int)<=(c:Int))=true:=Dq;have c4:decide ((c:Int)<=57)=false:=Ej;have c5:decide ((97:Int)<=(c:Int))=true:=Dq;have c6:decide ((c:Int)<=122)=true:=Dq;have c7:((c:Int)==95)=false:=AD (by omega);clear uh h8 h9;by_cases wB:n*16+d<4294967296
    ·have b2:decide ((4294967295:Int)<(n:Int)*16+(d:Int))=false:=Ej;clear sW
     go_wp2_with (go_at_call 149;(with_reducible refine(CLO.o _).mono ?_);rintro e w' ⟨rfl,rfl⟩)
     go_round
     case rel=>exact⟨k+1,n*16+d,by omega,by go_num,rfl,by go_num,HV.o.symm,by omega⟩
     case measure=>simp[intOf];omega
    ·have b2:decide ((4294967295:Int)<(n:Int)*16+(d:Int))=true:=Dq;have vm:Hid (¬X<4294967296):=Hi (by
      have h8:=HM.o;have h9:=HV.o;omega)
     clear sW wB
     go_wp2_with (go_at_call 149;(with_reducible refine(CLO.o _).mono ?_);rintro e w' ⟨rfl,rfl⟩)
     go_ret2;exact M6 vm.o (HW.o▸DP w s)
   ·obtain⟨c',hc'⟩:∃c',c'=c+32:=⟨_,rfl⟩;have CLO:Hid (∀w,Calls prog 149 #[.int .u8 c] w fun e w'=>e= .returned (.int .u8 c')/\w=w'):=Hi (fun w=>by rw[hc'];exact fR c h8 h9 w);have C1:(c':Int)-97+10=d:=by omega
    have c1:(97:Int)<=(c':Int):=by omega
    have c2:(c':Int)<=102:=by omega
    have c3:decide ((48:Int)<=(c:Int))=true:=Dq;have c4:decide ((c:Int)<=57)=false:=Ej;have c5:decide ((97:Int)<=(c':Int))=true:=Dq;have c6:decide ((c':Int)<=122)=true:=Dq;have c7:((c:Int)==95)=false:=AD (by omega);clear uh h8 h9 hc';by_cases wB:n*16+d<4294967296
    ·have b2:decide ((4294967295:Int)<(n:Int)*16+(d:Int))=false:=Ej;clear sW
     go_wp2_with (go_at_call 149;(with_reducible refine(CLO.o _).mono ?_);rintro e w' ⟨rfl,rfl⟩)
     go_round
     case rel=>exact⟨k+1,n*16+d,by omega,by go_num,rfl,by go_num,HV.o.symm,by omega⟩
     case measure=>simp[intOf];omega
    ·have b2:decide ((4294967295:Int)<(n:Int)*16+(d:Int))=true:=Dq;have vm:Hid (¬X<4294967296):=Hi (by
      have h8:=HM.o;have h9:=HV.o;omega)
     clear sW wB
     go_wp2_with (go_at_call 149;(with_reducible refine(CLO.o _).mono ?_);rintro e w' ⟨rfl,rfl⟩)
     go_ret2;exact M6 vm.o (HW.o▸DP w s)
  ·obtain rfl:k=s.size:=by omega
   have HN:=Hi (show n=X by rw[hn,HX.o]);have sO:=Hi sy;clear hn sy;go_wp2;go_ret2;exact VR HN.o sO.o (HW.o▸DP w s)
theorem j9 (s:ByteArray) (w:World) (qT:0<s.size) (hs:s.size<=100000000) (hd:Hid (∀k (h:k<s.size),Cr s[k].toNat=true)):
 Calls prog 140 #[.string s,.int .i64 8,.int .i64 32] w (J8 (vN 8 s s.size) w):=by
 have qP:s.toList.isEmpty=false:=by
  rw[ph];have h1:s.data.toList.length=s.size:=by simp
  cases h:s.data.toList with
  |nil=>rw[h]at h1;simp at h1;omega
  |cons a b=>rfl
 obtain⟨X,hX⟩:∃X,X=vN 8 s s.size:=⟨_,rfl⟩;have HM0:∀k,k<=s.size->vN 8 s k<=X:=fun k hk=>by rw[hX];exact Ep (by decide) s hk
 rw[<-hX];have HX:=Hi hX;have HMA:=Hi HM0;clear hX HM0;have sX:=Lib.run_convert_string_bytes (P:=prog) w 9 143 5 s mS my nV;go_enter func140,ntmps140;go_wp2;generalize hW:Lib.bytesWorld w 5 s=W;have HW:=Hi hW;clear hW
 go_loop [12,13,101] (fun u n i=>∃(k n':Nat),k<=s.size/\i= .int .i64 k/\u= .bool false/\n= .int .u64 n'/\n'=vN 8 s k/\n'<4294967296) (fun _ _ i=>s.size-(intOf i).toNat)
 case atStart=>exact⟨0,0,by omega,rfl,rfl,rfl,rfl,by omega⟩
 case round=>
  obtain⟨k,n,hk,rfl,rfl,rfl,hn,sy⟩:=hrel;by_cases qE:k<s.size
  ·obtain⟨c,hc⟩:∃c,c=s[k].toNat:=⟨_,rfl⟩;have zd:=hd.o k qE;rw[<-hc]at zd;obtain⟨d,rr⟩:∃d,d=Cv c:=⟨_,rfl⟩;have qW:W.cell? ⟨w.heap.size,k,none⟩=some (.int .u8 (c:Nat)):=by
    have h5:=Dw qE;unfold byte at h5;rw[<-HW.o,Lib.bytesWorld_cell w 5 s k qE,h5,hc]
   have hdlt:d<8:=by rw[rr];exact SH zd
   have sj:vN 8 s (k+1)=n*8+d:=by rw[vN,<-hn,Dw qE,<-hc,rr]
   have HV:=Hi sj;have HM:=Hi (HMA.o (k+1) (by omega));have b1:decide ((2305843009213693952:Int)<=(n:Int))=false:=Ej;have b3:decide ((n:Int)*8+(d:Int)<(n:Int)*8)=false:=Ej;have b4:(n:Int)<=4294967295:=by omega
   have b5:(d:Int)<=15:=by omega
   have b6:decide ((8:Int)<=(d:Int))=false:=Ej;have uY:48<=c/\c<=57/\c=48+d:=by
    have h7:=zd;simp[Cr]at h7;rw[rr];unfold Cv;split
    ·omega
    ·omega
   clear zd rr sj hn sy hc;have sW:=hk;obtain⟨h8,h9,uh⟩:=uY;have C1:(c:Int)-48=d:=by omega
   have c2:decide ((48:Int)<=(c:Int))=true:=Dq;have c3:decide ((c:Int)<=57)=true:=Dq;have c4:((c:Int)==95)=false:=AD (by omega);clear uh h8 h9;by_cases wB:n*8+d<4294967296
   ·have b2:decide ((4294967295:Int)<(n:Int)*8+(d:Int))=false:=Ej;clear sW;go_wp2;go_round
    case rel=>exact⟨k+1,n*8+d,by omega,by go_num,rfl,by go_num,HV.o.symm,by omega⟩
    case measure=>simp[intOf];omega
   ·have b2:decide ((4294967295:Int)<(n:Int)*8+(d:Int))=true:=Dq;have vm:Hid (¬X<4294967296):=Hi (by
     have h8:=HM.o;have h9:=HV.o;omega)
    clear sW wB;go_wp2;go_ret2;exact M6 vm.o (HW.o▸DP w s)
  ·obtain rfl:k=s.size:=by omega
   have HN:=Hi (show n=X by rw[hn,HX.o]);have sO:=Hi sy;clear hn sy;go_wp2;go_ret2;exact VR HN.o sO.o (HW.o▸DP w s)
theorem JV (fn s:ByteArray) (a b:Int) (te:TypeId) (pe:Value) (w:World) (u7:s.size<=281474976710656) (hv:w.cell? ⟨8,0,none⟩=some (.iface te pe)):
 Calls prog 138 #[.string fn,.string s,.int .i64 a,.int .i64 b,.iface 218 (.int .i64 1)] w fun e w'=>∃T N,e= .returned (.iface T (.pointer (some ⟨N,0,none⟩)))/\Below w.heap.size w w':=by
 have h1:∀w,(binOp .eql 37 (.iface 218 (.int .i64 1)) (.iface 218 (.int .i64 2))).run prog w= .ok (.bool false) w:=fun _=>by kernel_rfl
 have h2:∀w,(binOp .eql 37 (.iface 218 (.int .i64 1)) (.iface 218 (.int .i64 1))).run prog w= .ok (.bool true) w:=fun _=>by kernel_rfl
 go_enter func138,ntmps138
 go_wp2_with (go_at_call 146;(with_reducible refine(Pr _ _ te pe _ u7 hv).mono ?_);rintro e w' ⟨N,rfl,hb⟩)
 go_ret;exact⟨_,_,rfl,hb⟩
def O3 (X:Nat) (w:World) (e:Ending) (w':World):Prop:=
 (X<4294967296->e= .returned (.tuple #[.int .u64 X,.nilIface]))/\(¬X<4294967296->∃T N,e= .returned (.tuple #[.int .u64 4294967295,.iface T (.pointer (some ⟨N,0,none⟩))]))/\Below w.heap.size w w'
theorem du (s:ByteArray) (w:World) (qT:0<s.size) (hs:s.size<=100000000) (hd:Hid (∀k (h:k<s.size),A9 s[k].toNat=true)) (te:TypeId) (pe:Value) (hv:w.cell? ⟨8,0,none⟩=some (.iface te pe)):
 Calls prog 118 #[.string s,.int .i64 16,.int .i64 32] w (O3 (vN 16 s s.size) w):=by
 have HC:=iU s w qT hs hd;obtain⟨n,hn⟩:∃n,n=vN 16 s s.size:=⟨_,rfl⟩;rw[<-hn]at HC⊢;have h6:8<w.heap.size:=Lib.lt_of_cell hv;have n1:∀w,(binOp .neq 37 (.iface 218 (.int .i64 1)) .nilIface).run prog w= .ok (.bool true) w:=fun _=>by kernel_rfl
 clear hn;by_cases hX:n<4294967296
 ·have HC:Hid (Calls prog 140 #[.string s,.int .i64 16,.int .i64 32] w fun e w'=>e= .returned (.tuple #[.int .u64 n,.nilIface])/\Below w.heap.size w w'):=Hi (HC.mono fun e w' h=>⟨h.1 hX,h.2.2⟩);have HX:=Hi hX;clear hX;go_enter func118,ntmps118
  go_wp2_with (go_at_call 140;(with_reducible refine HC.o.mono ?_);rintro e w' ⟨rfl,hb⟩)
  go_ret2;exact⟨fun _=>rfl,fun h=>absurd HX.o h,by assumption⟩
 ·have HC:Hid (Calls prog 140 #[.string s,.int .i64 16,.int .i64 32] w fun e w'=>e= .returned (.tuple #[.int .u64 4294967295,.iface 218 (.int .i64 1)])/\Below w.heap.size w w'):=Hi (HC.mono fun e w' h=>⟨h.2.1 hX,h.2.2⟩);have HX:=Hi hX;clear hX;go_enter func118,ntmps118
  go_wp2_with fail
  refine HC.o.mono ?_;rintro e w1 ⟨rfl,hb⟩;have sj:w1.cell? ⟨8,0,none⟩=some (.iface te pe):=(hb.cell (p:=⟨8,0,none⟩) h6).trans hv
  go_wp2_with fail
  refine(JV _ s _ _ te pe w1 (by omega) sj).mono ?_;rintro e w2 ⟨T,N,rfl,qM⟩;go_wp2;go_ret2;exact⟨fun h=>absurd h HX.o,fun _=>⟨T,N,rfl⟩,hb.trans (qM.mono hb.size)⟩
theorem gw (s:ByteArray) (w:World) (qT:0<s.size) (hs:s.size<=100000000) (hd:Hid (∀k (h:k<s.size),Cr s[k].toNat=true)) (te:TypeId) (pe:Value) (hv:w.cell? ⟨8,0,none⟩=some (.iface te pe)):
 Calls prog 118 #[.string s,.int .i64 8,.int .i64 32] w (O3 (vN 8 s s.size) w):=by
 have HC:=j9 s w qT hs hd;obtain⟨n,hn⟩:∃n,n=vN 8 s s.size:=⟨_,rfl⟩;rw[<-hn]at HC⊢;have h6:8<w.heap.size:=Lib.lt_of_cell hv;have n1:∀w,(binOp .neq 37 (.iface 218 (.int .i64 1)) .nilIface).run prog w= .ok (.bool true) w:=fun _=>by kernel_rfl
 clear hn;by_cases hX:n<4294967296
 ·have HC:Hid (Calls prog 140 #[.string s,.int .i64 8,.int .i64 32] w fun e w'=>e= .returned (.tuple #[.int .u64 n,.nilIface])/\Below w.heap.size w w'):=Hi (HC.mono fun e w' h=>⟨h.1 hX,h.2.2⟩);have HX:=Hi hX;clear hX;go_enter func118,ntmps118
  go_wp2_with (go_at_call 140;(with_reducible refine HC.o.mono ?_);rintro e w' ⟨rfl,hb⟩)
  go_ret2;exact⟨fun _=>rfl,fun h=>absurd HX.o h,by assumption⟩
 ·have HC:Hid (Calls prog 140 #[.string s,.int .i64 8,.int .i64 32] w fun e w'=>e= .returned (.tuple #[.int .u64 4294967295,.iface 218 (.int .i64 1)])/\Below w.heap.size w w'):=Hi (HC.mono fun e w' h=>⟨h.2.1 hX,h.2.2⟩);have HX:=Hi hX;clear hX;go_enter func118,ntmps118
  go_wp2_with fail
  refine HC.o.mono ?_;rintro e w1 ⟨rfl,hb⟩;have sj:w1.cell? ⟨8,0,none⟩=some (.iface te pe):=(hb.cell (p:=⟨8,0,none⟩) h6).trans hv
  go_wp2_with fail
  refine(JV _ s _ _ te pe w1 (by omega) sj).mono ?_;rintro e w2 ⟨T,N,rfl,qM⟩;go_wp2;go_ret2;exact⟨fun h=>absurd h HX.o,fun _=>⟨T,N,rfl⟩,hb.trans (qM.mono hb.size)⟩
end Go.Proofs
end
section
namespace Go.Lx
open Go.Hb Go.Rb
theorem Vt {r:Nat} {s:ByteArray} {f t:Nat}(ht:t<=s.size):∀k,f+k<=t->vN r (s.extract f t) k=Fx r s f k
 |0,_=>rfl
 |k+1,h=>by rw[vN,Fx,Vt ht k (by omega),BP (by omega) ht,F9]
theorem K4 {r:Nat} {s:ByteArray} {f t:Nat}(hf:f<=t) (ht:t<=s.size):vN r (s.extract f t) (s.extract f t).size=Fx r s f (t-f):=by
 rw[show(s.extract f t).size=t-f by rw[l8];omega,Vt ht _ (by omega)]
end Go.Lx
namespace Go.Proofs
open Go.RowKit Go.Pf Go.Lx Go.Hb Go.Rb
def fK (o:Option Nat) (w:World) (e:Ending) (w':World):Prop:=
 e= .returned (.tuple #[.int .i32 (match o with|none=>(0:Nat)|some v=>v:Nat),.bool o.isSome])/\w=w'
theorem Wm (w:World):Calls prog 117 #[.int .u8 97] w fun e w'=>e= .returned (.tuple #[.int .i32 7,.bool true])/\w=w':=by
 go_enter pG,oq;go_wp2;go_ret2;exact⟨rfl,rfl⟩
theorem Xb (w:World):Calls prog 117 #[.int .u8 98] w fun e w'=>e= .returned (.tuple #[.int .i32 8,.bool true])/\w=w':=by
 go_enter pG,oq;go_wp2;go_ret2;exact⟨rfl,rfl⟩
theorem Ua (w:World):Calls prog 117 #[.int .u8 102] w fun e w'=>e= .returned (.tuple #[.int .i32 12,.bool true])/\w=w':=by
 go_enter pG,oq;go_wp2;go_ret2;exact⟨rfl,rfl⟩
theorem Uc (w:World):Calls prog 117 #[.int .u8 110] w fun e w'=>e= .returned (.tuple #[.int .i32 10,.bool true])/\w=w':=by
 go_enter pG,oq;go_wp2;go_ret2;exact⟨rfl,rfl⟩
theorem UP (w:World):Calls prog 117 #[.int .u8 114] w fun e w'=>e= .returned (.tuple #[.int .i32 13,.bool true])/\w=w':=by
 go_enter pG,oq;go_wp2;go_ret2;exact⟨rfl,rfl⟩
theorem Tf (w:World):Calls prog 117 #[.int .u8 116] w fun e w'=>e= .returned (.tuple #[.int .i32 9,.bool true])/\w=w':=by
 go_enter pG,oq;go_wp2;go_ret2;exact⟨rfl,rfl⟩
theorem UA (w:World):Calls prog 117 #[.int .u8 118] w fun e w'=>e= .returned (.tuple #[.int .i32 11,.bool true])/\w=w':=by
 go_enter pG,oq;go_wp2;go_ret2;exact⟨rfl,rfl⟩
theorem Xp (w:World):Calls prog 117 #[.int .u8 92] w fun e w'=>e= .returned (.tuple #[.int .i32 92,.bool true])/\w=w':=by
 go_enter pG,oq;go_wp2;go_ret2;exact⟨rfl,rfl⟩
theorem VX (w:World):Calls prog 117 #[.int .u8 39] w fun e w'=>e= .returned (.tuple #[.int .i32 39,.bool true])/\w=w':=by
 go_enter pG,oq;go_wp2;go_ret2;exact⟨rfl,rfl⟩
theorem XX (w:World):Calls prog 117 #[.int .u8 34] w fun e w'=>e= .returned (.tuple #[.int .i32 34,.bool true])/\w=w':=by
 go_enter pG,oq;go_wp2;go_ret2;exact⟨rfl,rfl⟩
theorem U6 (w:World):Calls prog 117 #[.int .u8 96] w fun e w'=>e= .returned (.tuple #[.int .i32 96,.bool true])/\w=w':=by
 go_enter pG,oq;go_wp2;go_ret2;exact⟨rfl,rfl⟩
theorem UL (c:Nat) (h:Hid (Ls c=none)) (w:World):Calls prog 117 #[.int .u8 c] w fun e w'=>e= .returned (.tuple #[.int .i32 0,.bool false])/\w=w':=by
 have h0:((c:Int)==97)=false:=by
  refine AD fun h2=> ?_;obtain rfl:c=97:=by omega
  exact absurd h.o (by decide)
 have h1:((c:Int)==98)=false:=by
  refine AD fun h2=> ?_;obtain rfl:c=98:=by omega
  exact absurd h.o (by decide)
 have h2:((c:Int)==102)=false:=by
  refine AD fun h2=> ?_;obtain rfl:c=102:=by omega
  exact absurd h.o (by decide)
 have h3:((c:Int)==110)=false:=by
  refine AD fun h2=> ?_;obtain rfl:c=110:=by omega
  exact absurd h.o (by decide)
 have h4:((c:Int)==114)=false:=by
  refine AD fun h2=> ?_;obtain rfl:c=114:=by omega
  exact absurd h.o (by decide)
 have h5:((c:Int)==116)=false:=by
  refine AD fun h2=> ?_;obtain rfl:c=116:=by omega
  exact absurd h.o (by decide)
 have h6:((c:Int)==118)=false:=by
  refine AD fun h2=> ?_;obtain rfl:c=118:=by omega
  exact absurd h.o (by decide)
 have h7:((c:Int)==92)=false:=by
  refine AD fun h2=> ?_;obtain rfl:c=92:=by omega
  exact absurd h.o (by decide)
 have h8:((c:Int)==39)=false:=by
  refine AD fun h2=> ?_;obtain rfl:c=39:=by omega
  exact absurd h.o (by decide)
 have h9:((c:Int)==34)=false:=by
  refine AD fun h2=> ?_;obtain rfl:c=34:=by omega
  exact absurd h.o (by decide)
 have sD:((c:Int)==96)=false:=by
  refine AD fun h2=> ?_;obtain rfl:c=96:=by omega
  exact absurd h.o (by decide)
 go_enter pG,oq;go_wp2;go_ret2;exact⟨rfl,rfl⟩
theorem dK (c:Nat) (w:World):Calls prog 117 #[.int .u8 c] w (fK (Ls c) w):=by
 by_cases h97:c=97
 ·subst h97;exact Wm w
 by_cases h98:c=98
 ·subst h98;exact Xb w
 by_cases h102:c=102
 ·subst h102;exact Ua w
 by_cases h110:c=110
 ·subst h110;exact Uc w
 by_cases h114:c=114
 ·subst h114;exact UP w
 by_cases h116:c=116
 ·subst h116;exact Tf w
 by_cases h118:c=118
 ·subst h118;exact UA w
 by_cases h92:c=92
 ·subst h92;exact Xp w
 by_cases h39:c=39
 ·subst h39;exact VX w
 by_cases h34:c=34
 ·subst h34;exact XX w
 by_cases h96:c=96
 ·subst h96;exact U6 w
 have hn:Ls c=none:=by
  unfold Ls;rw[lL h97,lL h98,lL h102,lL h110,lL h114,lL h116,lL h118,lL h92,lL h39,lL h34,lL h96]
 rw[hn];exact UL c (Hi hn) w
def Br (o:Option (Nat×Nat)) (w:World) (e:Ending) (w':World):Prop:=
 (match o with
  |none=>e= .returned (.tuple #[.int .i32 0,.int .i64 0,.bool false])
  |some (v,t)=>e= .returned (.tuple #[.int .i32 v,.int .i64 t,.bool true]))/\Below w.heap.size w w'
theorem Br.no {o:Option (Nat×Nat)} {w w':World}(h:o=none) (hb:Below w.heap.size w w'):Br o w (.returned (.tuple #[.int .i32 0,.int .i64 0,.bool false])) w':=by
 subst h;exact⟨rfl,hb⟩
theorem Br.yes {o:Option (Nat×Nat)} {w w':World} {v t:Nat} {a b:Int}(h:o=some (v,t)) (ha:a=v) (hbb:b=t) (hb:Below w.heap.size w w'):Br o w (.returned (.tuple #[.int .i32 a,.int .i64 b,.bool true])) w':=by
 subst h ha hbb;exact⟨rfl,hb⟩
theorem OV {v:Nat}(h:¬Ah v) (h2:v<=1114111):Lib.validRune v=false:=by
 unfold Lib.validRune Ah at*;exact lO (by omega)
theorem Sr (s:ByteArray) (p a:Nat) (w:World) (hs:s.size<=100000000) (ha:Hid (a=p+1)) (hal:a<=s.size) (te:TypeId) (pe:Value) (hv:Hid (w.cell? ⟨8,0,none⟩=some (.iface te pe))):
 Calls prog 92 #[.string s,.int .i64 a] w (Br (FQ s p) w):=by
 obtain⟨R,hR⟩:∃R,R=FQ s p:=⟨_,rfl⟩;rw[<-hR];unfold FQ at hR;rw[<-ha.o,show p+2=a+1 by rw[ha.o]]at hR;by_cases qE:a<s.size
 ·have li:(a:Int)<s.size:=by omega
  have eb:AI s a=s[a].toNat:=AP s a qE;rw[lQ qE,eb,mB]at hR;obtain⟨c,hc⟩:∃c,c=s[a].toNat:=⟨_,rfl⟩;rw[<-hc]at hR eb;have CP:=fun w=>dK c w;rw[hc]at CP;cases ho:Ls c with
  |some v=>
   rw[ho]at hR;rw[<-hc,ho]at CP;rw[hc]at CP
   replace CP:Hid (∀w,Calls prog 117 #[.int .u8 s[a].toNat] w fun e w'=>e= .returned (.tuple #[.int .i32 v,.bool true])/\w=w'):=Hi CP
   have HR:=Hi hR;clear hR ho eb hc;go_enter oU,oI
   go_wp2_with (first
    | (go_at_call 117;(with_reducible refine(CP.o _).mono ?_);rintro e w' ⟨rfl,rfl⟩))
   go_ret3;exact Br.yes HR.o (by first|rfl|omega) (by first|rfl|omega) (Below.refl _ _)
  |none=>
   rw[ho]at hR;rw[<-hc,ho]at CP;rw[hc]at CP
   replace CP:Hid (∀w,Calls prog 117 #[.int .u8 s[a].toNat] w fun e w'=>e= .returned (.tuple #[.int .i32 0,.bool false])/\w=w'):=Hi CP
   have qZ:R=if c=120 then I7 16 A9 s (a+1)else I7 8 Cr s a:=by
    rw[hR];by_cases h:c=120
    ·rw[lQ h,lQ (by omega)]
    ·rw[lL h,lL (by omega)]
   clear hR ho eb;by_cases h120:c=120
   ·rw[lQ h120]at qZ;have m1:((s[a].toNat:Int)==120)=true:=beq_of_eq (by omega);clear hc h120;obtain⟨f,hf⟩:∃f,f=a+1:=⟨_,rfl⟩;rw[<-hf]at qZ;have ef:(a:Int)+1=f:=by omega
    have f1:f<=s.size:=by omega
    clear hf;obtain⟨T,hT⟩:∃T,T=AF A9 s f:=⟨_,rfl⟩;have CR:Hid (∀w,Calls prog 60 #[.string s,.int .i64 f,.func (.func 84) #[] #[]] w (Cf T w)):=Hi (fun w=>by rw[hT];exact M8 s f w (by omega) (by omega));have tge:=BN A9 s f;have xC:=Bx A9 s f (by omega);have tK:= @FP A9 s f;rw[<-hT]at tge xC tK;rw[I7,<-hT]at qZ;clear hT;by_cases q1:T=f
    ·have HN:Hid (R=none):=Hi (by rw[qZ,lQ (.inl q1)]);have m2:((T:Int)==f)=true:=by rw[q1];exact beq_self_eq_true _
     clear qZ q1 tK;go_enter oU,oI
     go_wp2_with (first
      | (go_at_call 117;(with_reducible refine(CP.o _).mono ?_);rintro e w' ⟨rfl,rfl⟩)
      | (go_at_call 60;(with_reducible refine(CR.o _).mono ?_);rintro e w' ⟨rfl,rfl⟩))
     go_ret3;exact Br.no HN.o (Below.refl _ _)
    have m2:((T:Int)==f)=false:=DC q1;by_cases q2:¬(T<s.size)
    ·have HN:Hid (R=none):=Hi (by rw[qZ,lQ (.inr (by rw[Ax s T (by omega)];decide))]);have m3:(s.size:Int)<=T:=by omega
     clear qZ q1 tK xC;go_enter oU,oI
     go_wp2_with (first
      | (go_at_call 117;(with_reducible refine(CP.o _).mono ?_);rintro e w' ⟨rfl,rfl⟩)
      | (go_at_call 60;(with_reducible refine(CR.o _).mono ?_);rintro e w' ⟨rfl,rfl⟩))
     go_ret3;exact Br.no HN.o (Below.refl _ _)
    replace q2:T<s.size:=Classical.not_not.1 q2
    have m3:¬((s.size:Int)<=T):=by omega
    have eT:AI s T=s[T].toNat:=AP s T q2;by_cases q3:¬(s[T].toNat=92)
    ·have HN:Hid (R=none):=Hi (by rw[qZ,lQ (.inr (by rw[eT];omega))]);have m4:((s[T].toNat:Int) !=92)=true:=FZ (by omega);clear qZ q1 tK xC eT;go_enter oU,oI
     go_wp2_with (first
      | (go_at_call 117;(with_reducible refine(CP.o _).mono ?_);rintro e w' ⟨rfl,rfl⟩)
      | (go_at_call 60;(with_reducible refine(CR.o _).mono ?_);rintro e w' ⟨rfl,rfl⟩))
     go_ret3;exact Br.no HN.o (Below.refl _ _)
    have m4:((s[T].toNat:Int) !=92)=false:=JL (by omega);rw[lL (by rw[eT];omega)]at qZ;obtain⟨U,hU⟩:∃U,U=s.extract f T:=⟨_,rfl⟩;have zU:U.size=T-f:=by rw[hU,l8];omega
    have hX:vN 16 U U.size=Fx 16 s f (T-f):=by rw[hU];exact K4 tge xC
    have m5:(f:Int)<=T:=by omega
    have w9:∀w,(Instr.slice 9 (.string s) (some (.int .i64 (f:Int))) (some (.int .i64 (T:Int))) none).run prog w= .ok (.string U) w:=fun w=>by
     have:=pW (P:=prog) (w:=w) 9 s .i64 .i64 (f:Int) (T:Int) mS (by omega) (by omega) (by omega);rw[show((f:Int)).toNat=f by omega,show((T:Int)).toNat=T by omega,<-hU]at this;exact this
    have hdU:Hid (∀k (h:k<U.size),A9 U[k].toNat=true):=Hi (by
     intro k hk;have h1:=tK (f+k) (by omega) (by omega) (by omega);rw[<-Dw hk,hU,BP (by omega) xC,Dw (by omega)];exact h1)
    have xD:=du U w (by omega) (by omega) hdU te pe hv.o;rw[hX]at xD;obtain⟨X,hXX⟩:∃X,X=Fx 16 s f (T-f):=⟨_,rfl⟩;rw[<-hXX]at xD qZ;clear hX hXX hdU zU hU tK eT xC q1;by_cases q4:¬(X<4294967296)
    ·have CU:Hid (Calls prog 118 #[.string U,.int .i64 16,.int .i64 32] w fun e w'=>∃T N,e= .returned (.tuple #[.int .u64 4294967295,.iface T (.pointer (some ⟨N,0,none⟩))])/\Below w.heap.size w w'):=Hi (xD.mono fun e w' h=>(by obtain⟨T,N,he⟩:=h.2.1 q4;exact⟨T,N,he,h.2.2⟩));have HN:Hid (R=none):=Hi (by rw[qZ,lL];unfold Ah;omega);have w7:∀T N w,(binOp .neq 37 (.iface T (.pointer (some ⟨N,0,none⟩))) .nilIface).run prog w= .ok (.bool true) w:=fun _ _ _=>rfl;clear qZ xD q4;go_enter oU,oI
     go_wp2_with (first
      | (go_at_call 117;(with_reducible refine(CP.o _).mono ?_);rintro e w' ⟨rfl,rfl⟩)
      | (go_at_call 60;(with_reducible refine(CR.o _).mono ?_);rintro e w' ⟨rfl,rfl⟩)
      | (go_at_call 118;(with_reducible refine CU.o.mono ?_);rintro e w' ⟨T9,N9,rfl,hb⟩))
     go_ret3;exact Br.no HN.o hb
    replace q4:X<4294967296:=Classical.not_not.1 q4
    have CU:Hid (Calls prog 118 #[.string U,.int .i64 16,.int .i64 32] w fun e w'=>e= .returned (.tuple #[.int .u64 X,.nilIface])/\Below w.heap.size w w'):=Hi (xD.mono fun e w' h=>⟨h.1 q4,h.2.2⟩);clear xD;by_cases q5:¬(X<=1114111)
    ·have HN:Hid (R=none):=Hi (by rw[qZ,lL];unfold Ah;omega);have m6:(1114111:Int)<X:=by omega
     clear qZ;go_enter oU,oI
     go_wp2_with (first
      | (go_at_call 117;(with_reducible refine(CP.o _).mono ?_);rintro e w' ⟨rfl,rfl⟩)
      | (go_at_call 60;(with_reducible refine(CR.o _).mono ?_);rintro e w' ⟨rfl,rfl⟩)
      | (go_at_call 118;(with_reducible refine CU.o.mono ?_);rintro e w' ⟨rfl,hb⟩))
     go_ret3;exact Br.no HN.o hb
    replace q5:X<=1114111:=Classical.not_not.1 q5
    have m6:¬((1114111:Int)<X):=by omega
    have CV:Hid (∀w,Calls prog 119 #[.int .i32 X] w fun e w'=>e= .returned (.bool (Lib.validRune X))/\w=w'):=Hi (fun w=>(Tryz.utf8_ValidRune X w).mono fun _ _ ⟨h1,h2⟩=>⟨h1,h2.symm⟩);by_cases q6:Ah X
    ·have HN:Hid (R=some (X,T+1)):=Hi (by rw[qZ,lQ q6]);rw[OU q6]at CV;clear qZ q6;go_enter oU,oI
     go_wp2_with (first
      | (go_at_call 117;(with_reducible refine(CP.o _).mono ?_);rintro e w' ⟨rfl,rfl⟩)
      | (go_at_call 60;(with_reducible refine(CR.o _).mono ?_);rintro e w' ⟨rfl,rfl⟩)
      | (go_at_call 118;(with_reducible refine CU.o.mono ?_);rintro e w' ⟨rfl,hb⟩)
      | (go_at_call 119;(with_reducible refine(CV.o _).mono ?_);rintro e w' ⟨rfl,rfl⟩))
     go_ret3;exact Br.yes HN.o (by first|rfl|omega) (by first|rfl|omega) hb
    ·have HN:Hid (R=none):=Hi (by rw[qZ,lL q6]);rw[OV q6 q5]at CV;clear qZ q6;go_enter oU,oI
     go_wp2_with (first
      | (go_at_call 117;(with_reducible refine(CP.o _).mono ?_);rintro e w' ⟨rfl,rfl⟩)
      | (go_at_call 60;(with_reducible refine(CR.o _).mono ?_);rintro e w' ⟨rfl,rfl⟩)
      | (go_at_call 118;(with_reducible refine CU.o.mono ?_);rintro e w' ⟨rfl,hb⟩)
      | (go_at_call 119;(with_reducible refine(CV.o _).mono ?_);rintro e w' ⟨rfl,rfl⟩))
     go_ret3;exact Br.no HN.o hb
   ·rw[lL h120]at qZ;have m1:((s[a].toNat:Int)==120)=false:=AD (by omega);clear hc h120;obtain⟨f,hf⟩:∃f,f=a:=⟨_,rfl⟩;subst hf;obtain⟨T,hT⟩:∃T,T=AF Cr s f:=⟨_,rfl⟩;have CR:Hid (∀w,Calls prog 60 #[.string s,.int .i64 f,.func (.func 86) #[] #[]] w (Cf T w)):=Hi (fun w=>by rw[hT];exact Sk s f w (by omega) (by omega));have tge:=BN Cr s f;have xC:=Bx Cr s f (by omega);have tK:= @FP Cr s f;rw[<-hT]at tge xC tK;rw[I7,<-hT]at qZ;clear hT;by_cases q1:T=f
    ·have HN:Hid (R=none):=Hi (by rw[qZ,lQ (.inl q1)]);have m2:((T:Int)==f)=true:=by rw[q1];exact beq_self_eq_true _
     clear qZ q1 tK;go_enter oU,oI
     go_wp2_with (first
      | (go_at_call 117;(with_reducible refine(CP.o _).mono ?_);rintro e w' ⟨rfl,rfl⟩)
      | (go_at_call 60;(with_reducible refine(CR.o _).mono ?_);rintro e w' ⟨rfl,rfl⟩))
     go_ret3;exact Br.no HN.o (Below.refl _ _)
    have m2:((T:Int)==f)=false:=DC q1;by_cases q2:¬(T<s.size)
    ·have HN:Hid (R=none):=Hi (by rw[qZ,lQ (.inr (by rw[Ax s T (by omega)];decide))]);have m3:(s.size:Int)<=T:=by omega
     clear qZ q1 tK xC;go_enter oU,oI
     go_wp2_with (first
      | (go_at_call 117;(with_reducible refine(CP.o _).mono ?_);rintro e w' ⟨rfl,rfl⟩)
      | (go_at_call 60;(with_reducible refine(CR.o _).mono ?_);rintro e w' ⟨rfl,rfl⟩))
     go_ret3;exact Br.no HN.o (Below.refl _ _)
    replace q2:T<s.size:=Classical.not_not.1 q2
    have m3:¬((s.size:Int)<=T):=by omega
    have eT:AI s T=s[T].toNat:=AP s T q2;by_cases q3:¬(s[T].toNat=92)
    ·have HN:Hid (R=none):=Hi (by rw[qZ,lQ (.inr (by rw[eT];omega))]);have m4:((s[T].toNat:Int) !=92)=true:=FZ (by omega);clear qZ q1 tK xC eT;go_enter oU,oI
     go_wp2_with (first
      | (go_at_call 117;(with_reducible refine(CP.o _).mono ?_);rintro e w' ⟨rfl,rfl⟩)
      | (go_at_call 60;(with_reducible refine(CR.o _).mono ?_);rintro e w' ⟨rfl,rfl⟩))
     go_ret3;exact Br.no HN.o (Below.refl _ _)
    have m4:((s[T].toNat:Int) !=92)=false:=JL (by omega);rw[lL (by rw[eT];omega)]at qZ;obtain⟨U,hU⟩:∃U,U=s.extract f T:=⟨_,rfl⟩;have zU:U.size=T-f:=by rw[hU,l8];omega
    have hX:vN 8 U U.size=Fx 8 s f (T-f):=by rw[hU];exact K4 tge xC
    have m5:(f:Int)<=T:=by omega
    have w9:∀w,(Instr.slice 9 (.string s) (some (.int .i64 (f:Int))) (some (.int .i64 (T:Int))) none).run prog w= .ok (.string U) w:=fun w=>by
     have:=pW (P:=prog) (w:=w) 9 s .i64 .i64 (f:Int) (T:Int) mS (by omega) (by omega) (by omega);rw[show((f:Int)).toNat=f by omega,show((T:Int)).toNat=T by omega,<-hU]at this;exact this
    have hdU:Hid (∀k (h:k<U.size),Cr U[k].toNat=true):=Hi (by
     intro k hk;have h1:=tK (f+k) (by omega) (by omega) (by omega);rw[<-Dw hk,hU,BP (by omega) xC,Dw (by omega)];exact h1)
    have xD:=gw U w (by omega) (by omega) hdU te pe hv.o;rw[hX]at xD;obtain⟨X,hXX⟩:∃X,X=Fx 8 s f (T-f):=⟨_,rfl⟩;rw[<-hXX]at xD qZ;clear hX hXX hdU zU hU tK eT xC q1;by_cases q4:¬(X<4294967296)
    ·have CU:Hid (Calls prog 118 #[.string U,.int .i64 8,.int .i64 32] w fun e w'=>∃T N,e= .returned (.tuple #[.int .u64 4294967295,.iface T (.pointer (some ⟨N,0,none⟩))])/\Below w.heap.size w w'):=Hi (xD.mono fun e w' h=>(by obtain⟨T,N,he⟩:=h.2.1 q4;exact⟨T,N,he,h.2.2⟩));have HN:Hid (R=none):=Hi (by rw[qZ,lL];unfold Ah;omega);have w7:∀T N w,(binOp .neq 37 (.iface T (.pointer (some ⟨N,0,none⟩))) .nilIface).run prog w= .ok (.bool true) w:=fun _ _ _=>rfl;clear qZ xD q4;go_enter oU,oI
     go_wp2_with (first
      | (go_at_call 117;(with_reducible refine(CP.o _).mono ?_);rintro e w' ⟨rfl,rfl⟩)
      | (go_at_call 60;(with_reducible refine(CR.o _).mono ?_);rintro e w' ⟨rfl,rfl⟩)
      | (go_at_call 118;(with_reducible refine CU.o.mono ?_);rintro e w' ⟨T9,N9,rfl,hb⟩))
     go_ret3;exact Br.no HN.o hb
    replace q4:X<4294967296:=Classical.not_not.1 q4
    have CU:Hid (Calls prog 118 #[.string U,.int .i64 8,.int .i64 32] w fun e w'=>e= .returned (.tuple #[.int .u64 X,.nilIface])/\Below w.heap.size w w'):=Hi (xD.mono fun e w' h=>⟨h.1 q4,h.2.2⟩);clear xD;by_cases q5:¬(X<=1114111)
    ·have HN:Hid (R=none):=Hi (by rw[qZ,lL];unfold Ah;omega);have m6:(1114111:Int)<X:=by omega
     clear qZ;go_enter oU,oI
     go_wp2_with (first
      | (go_at_call 117;(with_reducible refine(CP.o _).mono ?_);rintro e w' ⟨rfl,rfl⟩)
      | (go_at_call 60;(with_reducible refine(CR.o _).mono ?_);rintro e w' ⟨rfl,rfl⟩)
      | (go_at_call 118;(with_reducible refine CU.o.mono ?_);rintro e w' ⟨rfl,hb⟩))
     go_ret3;exact Br.no HN.o hb
    replace q5:X<=1114111:=Classical.not_not.1 q5
    have m6:¬((1114111:Int)<X):=by omega
    have CV:Hid (∀w,Calls prog 119 #[.int .i32 X] w fun e w'=>e= .returned (.bool (Lib.validRune X))/\w=w'):=Hi (fun w=>(Tryz.utf8_ValidRune X w).mono fun _ _ ⟨h1,h2⟩=>⟨h1,h2.symm⟩);by_cases q6:Ah X
    ·have HN:Hid (R=some (X,T+1)):=Hi (by rw[qZ,lQ q6]);rw[OU q6]at CV;clear qZ q6;go_enter oU,oI
     go_wp2_with (first
      | (go_at_call 117;(with_reducible refine(CP.o _).mono ?_);rintro e w' ⟨rfl,rfl⟩)
      | (go_at_call 60;(with_reducible refine(CR.o _).mono ?_);rintro e w' ⟨rfl,rfl⟩)
      | (go_at_call 118;(with_reducible refine CU.o.mono ?_);rintro e w' ⟨rfl,hb⟩)
      | (go_at_call 119;(with_reducible refine(CV.o _).mono ?_);rintro e w' ⟨rfl,rfl⟩))
     go_ret3;exact Br.yes HN.o (by first|rfl|omega) (by first|rfl|omega) hb
    ·have HN:Hid (R=none):=Hi (by rw[qZ,lL q6]);rw[OV q6 q5]at CV;clear qZ q6;go_enter oU,oI
     go_wp2_with (first
      | (go_at_call 117;(with_reducible refine(CP.o _).mono ?_);rintro e w' ⟨rfl,rfl⟩)
      | (go_at_call 60;(with_reducible refine(CR.o _).mono ?_);rintro e w' ⟨rfl,rfl⟩)
      | (go_at_call 118;(with_reducible refine CU.o.mono ?_);rintro e w' ⟨rfl,hb⟩)
      | (go_at_call 119;(with_reducible refine(CV.o _).mono ?_);rintro e w' ⟨rfl,rfl⟩))
     go_ret3;exact Br.no HN.o hb
 ·have hN:R=none:=by
   rw[hR,lL qE];have b0:=Ax s a (by omega);simp only[];rw[lL (by rw[b0];decide),I7,lQ (.inl (Bl (by omega)))]
  have HN:=Hi hN;have li:(s.size:Int)<=a:=by omega
  clear hR hN qE;go_enter oU,oI;go_wp2;go_ret3;exact Br.no HN.o (Below.refl _ _)
end Go.Proofs
end
namespace Go.Lx
open Go.Hb Go.Rb
theorem Nk {s:ByteArray} {a p:Nat} :Utf8.decode (s.extract a s.size) p=Utf8.decode s (a+p):=by
 have e:(s.extract a s.size).data.toList.drop p=s.data.toList.drop (a+p):=by rw[Dt,List.drop_drop]
 rw[Ew _ p _ rfl,Ew s (a+p) _ rfl,e]
theorem ET {s:ByteArray} {t k:Nat}(_ht:t<=s.size) (hk:k<t):AI (s.extract 0 t) k=AI s k:=by
 unfold AI;rw[oG,nI,lZ,lZ,pF,lQ (by omega)]
theorem JN {s:ByteArray} {t k:Nat}(_ht:t<=s.size) (hk:t<=k):AI (s.extract 0 t) k=0:=Ax _ _ (by rw[l8];omega)
theorem Xm {s:ByteArray} {p t:Nat} {v n:Int}(ht:t<=s.size) (h:D4 (s.extract 0 t) p v n):D4 s p v n:=by
 have hz:(s.extract 0 t).size=t:=by rw[l8];omega
 have h0:p<t:=by have:=h.size.1;omega
 have e0:=ET ht h0;have e1:AI (s.extract 0 t) (p+1)=AI s (p+1)\/AI (s.extract 0 t) (p+1)=0:=by
  rcases ls (p+1) t with h1|h1
  ·exact .inl (ET ht h1)
  ·exact .inr (JN ht h1)
 have e2:AI (s.extract 0 t) (p+2)=AI s (p+2)\/AI (s.extract 0 t) (p+2)=0:=by
  rcases ls (p+2) t with h1|h1
  ·exact .inl (ET ht h1)
  ·exact .inr (JN ht h1)
 have e3:AI (s.extract 0 t) (p+3)=AI s (p+3)\/AI (s.extract 0 t) (p+3)=0:=by
  rcases ls (p+3) t with h1|h1
  ·exact .inl (ET ht h1)
  ·exact .inr (JN ht h1)
 unfold D4 cont at h⊢;rw[e0]at h;rcases h with⟨h1,h2,h3⟩|⟨h1,h2,h3,h4⟩|⟨h1,h2,h3,h4,h5⟩|⟨h1,h2,h3,h4,h5,h6⟩
 ·exact .inl ⟨h1,by omega,h3⟩
 ·have e1:AI (s.extract 0 t) (p+1)=AI s (p+1):=by rcases e1 with e|e<;>omega
  rw[e1]at h3 h4;exact .inr (.inl ⟨h1,h2,h3,h4⟩)
 ·have e1:AI (s.extract 0 t) (p+1)=AI s (p+1):=by rcases e1 with e|e<;>omega
  have e2:AI (s.extract 0 t) (p+2)=AI s (p+2):=by rcases e2 with e|e<;>omega
  rw[e1]at h3 h5;rw[e2]at h4 h5;exact .inr (.inr (.inl ⟨h1,h2,h3,h4,h5⟩))
 ·have e1:AI (s.extract 0 t) (p+1)=AI s (p+1):=by rcases e1 with e|e<;>omega
  have e2:AI (s.extract 0 t) (p+2)=AI s (p+2):=by rcases e2 with e|e<;>omega
  have e3:AI (s.extract 0 t) (p+3)=AI s (p+3):=by rcases e3 with e|e<;>omega
  rw[e1]at h3 h6;rw[e2]at h4 h6;rw[e3]at h5 h6;exact .inr (.inr (.inr ⟨h1,h2,h3,h4,h5,h6⟩))
theorem fI {s:ByteArray} {p:Nat}(h:Le s p) (hp:p<s.size):Bc (s.extract p (min s.size (p+3))) 0 0:=by
 refine .bad (by rw[l8];omega) fun v n hc=> ?_;rw[GC (Nat.min_le_left _ _) (by omega)]at hc;exact h v n (Xm (Nat.min_le_left _ _) hc)
theorem ae {s:ByteArray} {p v:Nat}(h:D4 s p v (3:Nat)):Bc (s.extract p (min s.size (p+3))) 0 (-1):=by
 have hl:=h.last;have hz:(s.extract p (min s.size (p+3))).size=3:=by rw[l8];omega
 have hc:D4 (s.extract p (min s.size (p+3))) 0 v (3:Nat):=by
  rw[GC (Nat.min_le_left _ _) (by omega)];unfold D4 at h⊢;rw[nK,ET (Nat.min_le_left _ _) (by omega),ET (Nat.min_le_left _ _) (by omega),ET (Nat.min_le_left _ _) (by omega)];rcases h with h|h|h|h
  ·omega
  ·omega
  ·exact .inr (.inr (.inl h))
  ·omega
 exact .step (m:=3) hc (.done (by omega))
theorem Yn {c v:Nat}(h:Ls c=some v):c<128:=by
 unfold Ls at h
 repeat' split at h
 all_goals first|omega|cases h
theorem Xy {s:ByteArray} {p v t:Nat}(h:FQ s p=some (v,t)):∀j,p<j->j<t->AI s j<128:=by
 have hD:∀{r:Nat} {pr:Nat->Bool} {f:Nat}(hp:∀c,pr c=true->c<128),I7 r pr s f=some (v,t)->∀j,f<=j->j<t->AI s j<128:=by
  intro r pr f hp hd j h1 h2;unfold I7 at hd;split at hd
  ·cases hd
  ·rename_i hn;split at hd
   ·simp only[mD,nQ]at hd;have h3:AI s (AF pr s f)=92:=by apply mM;intro h;exact hn (.inr h)
    rcases ls j (AF pr s f)with h4|h4
    ·have h5:j<s.size:=by
      have:AF pr s f<s.size:=by
       rcases ls (AF pr s f) s.size with h6|h6
       ·exact h6
       ·rw[Ax s _ h6]at h3;omega
      omega
     have:=hp _ (FP j h5 h1 h4);rw[AP s j h5];omega
    ·obtain rfl:j=AF pr s f:=by omega
     omega
   ·cases hd
 have hh:∀c,A9 c=true->c<128:=by intro c h;simp[A9,AQ]at h;omega
 have ho:∀c,Cr c=true->c<128:=by intro c h;simp[Cr]at h;omega
 intro j h1 h2;unfold FQ at h;split at h
 ·rename_i x hx;split at hx
  ·rename_i qE;simp only[mD,nQ]at h;obtain rfl:j=p+1:=by omega
   have hb:=Yn hx;omega
  ·cases hx
 ·split at h
  ·rename_i h120;rcases ls j (p+2)with h3|h3
   ·obtain rfl:j=p+1:=by omega
    omega
   ·exact hD hh h j h3 h2
  ·exact hD ho h j h1 h2
end Go.Lx
namespace Go.Proofs
open Go.RowKit Go.Pf Go.Lx Go.Hb Go.Rb Go.Bg
def AK (R:TR) (w:World) (e:Ending) (w':World):Prop:=
 (match R with
  | .ok k tx nu bits a en=>e= .returned (.tuple #[Ai k tx nu bits a en false,.int .i64 0,.int .i64 0])
  | .err p n=>∃(k:Int) (tx nu:ByteArray) (bits at_ en:Int) (ly:Bool),e= .returned (.tuple #[Ai k tx nu bits at_ en ly,.int .i64 p,.int .i64 n]))/\Below w.heap.size w w'
theorem AK.er {R:TR} {w w':World} {p n:Nat} {k bits at_ en:Int} {tx nu:ByteArray} {ly:Bool}(h:R= .err p n) (hb:Below w.heap.size w w'):AK R w (.returned (.tuple #[Ai k tx nu bits at_ en ly,.int .i64 p,.int .i64 n])) w':=by subst h;exact⟨⟨_,_,_,_,_,_,_,rfl⟩,hb⟩
theorem AK.ok {R:TR} {w w':World} {k bits a E:Nat} {tx nu:ByteArray}(h:R= .ok k tx nu bits a E) (hb:Below w.heap.size w w'):AK R w (.returned (.tuple #[Ai k tx nu bits a E false,.int .i64 0,.int .i64 0])) w':=by subst h;exact⟨rfl,hb⟩
structure Hd (w:World) (b:Nat) (k:Int) (tx nu:ByteArray) (bits a en:Int) (ly:Bool):Prop where
 h:w.heap[b]? =some (.cells #[.int .i64 k,.string tx,.string nu,.int .u64 bits,.int .i64 a,.int .i64 en,.bool ly] 71 (0,0))
section
variable {w:World} {b:Nat} {k bits a en:Int} {tx nu:ByteArray} {ly:Bool}
theorem Hd.cs (h:Hd w b k tx nu bits a en ly):w.cell? ⟨b,0,none⟩=some (.int .i64 k)/\w.cell? ⟨b,1,none⟩=some (.string tx)/\w.cell? ⟨b,2,none⟩=some (.string nu)/\w.cell? ⟨b,3,none⟩=some (.int .u64 bits)/\w.cell? ⟨b,4,none⟩=some (.int .i64 a)/\w.cell? ⟨b,5,none⟩=some (.int .i64 en)/\w.cell? ⟨b,6,none⟩=some (.bool ly):=by
 refine⟨?_,?_,?_,?_,?_,?_,?_⟩<;>(rw[Lib.cell_of_heap h.h];rfl)
theorem Hd.f (h:Hd w b k tx nu bits a en ly) (i:Nat):w.frozen? ⟨b,i,none⟩=false:=Lib.frozen_of_heap h.h i
theorem Hd.fs (h:Hd w b k tx nu bits a en ly):w.frozen? ⟨b,0,none⟩=false/\w.frozen? ⟨b,1,none⟩=false/\w.frozen? ⟨b,2,none⟩=false/\w.frozen? ⟨b,3,none⟩=false/\w.frozen? ⟨b,4,none⟩=false/\w.frozen? ⟨b,5,none⟩=false/\w.frozen? ⟨b,6,none⟩=false:=⟨h.f 0,h.f 1,h.f 2,h.f 3,h.f 4,h.f 5,h.f 6⟩
theorem Hd.gr (h:Hd w b k tx nu bits a en ly) (x:Int):Hd (w.setCell ⟨b,0,none⟩ (.int .i64 x)) b x tx nu bits a en ly:=⟨heap_setCell_same w b 0 _ 71 (.int .i64 x) h.h⟩
theorem Hd.il (h:Hd w b k tx nu bits a en ly) (x:ByteArray):Hd (w.setCell ⟨b,1,none⟩ (.string x)) b k x nu bits a en ly:=⟨heap_setCell_same w b 1 _ 71 (.string x) h.h⟩
theorem Hd.iF (h:Hd w b k tx nu bits a en ly) (x:Int):Hd (w.setCell ⟨b,5,none⟩ (.int .i64 x)) b k tx nu bits a x ly:=⟨heap_setCell_same w b 5 _ 71 (.int .i64 x) h.h⟩
end
structure QW (w:World) (b:Nat) (s:ByteArray) (a K:Nat) (te:TypeId) (pe:Value) (W:World):Prop where
 t0:Gf W w.heap.size
 t1:Hd W (w.heap.size+1) K ⟨#[]⟩ ⟨#[]⟩ 0 a 0 false
 st:St W b s a
 Ac:Below w.heap.size w W
 ld:Ag W
 e6:W.cell? ⟨8,0,none⟩=some (.iface te pe)
 Tt:8<w.heap.size
 gl:Tryz.prog.globals.size<=w.heap.size
 sz:w.heap.size+2<=W.heap.size
theorem QW.call {w:World} {b:Nat} {s:ByteArray} {a K:Nat} {te:TypeId} {pe:Value} {W W':World}(h:QW w b s a K te pe W) (qq:b<w.heap.size) (hb:Below (w.heap.size+2) W W'):QW w b s a K te pe W':=by
 have h6:=h.Tt;have hz:=h.sz;have hs:=hb.size;exact⟨⟨(hb.block _ (by omega)).trans h.t0.h⟩,⟨(hb.block _ (by omega)).trans h.t1.h⟩,⟨(hb.block _ (by omega)).trans h.st.h⟩,h.Ac.trans (hb.mono (by omega)),h.ld.WB hb (by have:=h.gl;omega) hs,(hb.cell (p:=⟨8,0,none⟩) (by show 8<_;omega)).trans h.e6,h6,h.gl,by omega⟩
theorem QW.drewN {w:World} {b:Nat} {s:ByteArray} {a K:Nat} {te:TypeId} {pe:Value} {W:World}(h:QW w b s a K te pe W) (n:Nat):QW w b s a K te pe (W.drewN n):=
 ⟨⟨h.t0.h⟩,⟨h.t1.h⟩,⟨h.st.h⟩,⟨h.Ac.os,h.Ac.tape,h.Ac.output,h.Ac.size,h.Ac.block⟩,h.ld.drewN n,h.e6,h.Tt,h.gl,h.sz⟩
theorem QR.zero {t:ByteArray} {B:Nat} {W3:World} {acc:List UInt8} {pos:Nat} {wn W1:World}(h:QR t B W3 acc pos wn) (hb:Below wn.heap.size wn W1):QR t B W3 acc pos W1:=by
 have qE:B+3<wn.heap.size:=(lN.1 h.it).1;exact⟨Md h.ZI hb,(hb.block _ qE).trans h.it,h.Ac.trans (hb.mono (by omega))⟩
theorem QR.XW {t:ByteArray} {B:Nat} {W3:World} {acc:List UInt8} {pos n:Nat} {wn W1:World}(h:QR t B W3 acc pos wn) (hb:Below (wn.drewN n).heap.size (wn.drewN n) W1):QR t B W3 acc pos W1:=h.zero ⟨hb.os,hb.tape,hb.output,hb.size,hb.block⟩
theorem QR.drewN {t:ByteArray} {B:Nat} {W3:World} {acc:List UInt8} {pos:Nat} {wn:World}(h:QR t B W3 acc pos wn) (n:Nat):QR t B W3 acc pos (wn.drewN n):=
 ⟨h.ZI,h.it,⟨h.Ac.os,h.Ac.tape,h.Ac.output,h.Ac.size,h.Ac.block⟩⟩
theorem QW.drew {w:World} {b:Nat} {s:ByteArray} {a K:Nat} {te:TypeId} {pe:Value} {W:World}(h:QW w b s a K te pe W):QW w b s a K te pe W.drew:=
 ⟨⟨h.t0.h⟩,⟨h.t1.h⟩,⟨h.st.h⟩,⟨h.Ac.os,h.Ac.tape,h.Ac.output,h.Ac.size,h.Ac.block⟩,h.ld.below (Below.refl _ _).drew,h.e6,h.Tt,h.gl,h.sz⟩
theorem Hd.jI {w:World} {b:Nat} {k bits a en:Int} {tx nu:ByteArray} {ly:Bool}(h:Hd w b k tx nu bits a en ly) (x:Int) (y:ByteArray):Hd ((w.setCell ⟨b,5,none⟩ (.int .i64 x)).setCell ⟨b,1,none⟩ (.string y)) b k y nu bits a x ly:=(h.iF x).il y
theorem AE {B b:Nat} {w W:World}(h:Below B w W) (hb:B<=b) (v0 v1 v2 v3 v4 v5 v6:Value):Below B w (((((((W.setCell ⟨b,0,none⟩ v0).setCell ⟨b,1,none⟩ v1).setCell ⟨b,2,none⟩ v2).setCell ⟨b,3,none⟩ v3).setCell ⟨b,4,none⟩ v4).setCell ⟨b,5,none⟩ v5).setCell ⟨b,6,none⟩ v6):=
 ((((((h.setCell (p:=⟨b,0,none⟩) hb v0).setCell (p:=⟨b,1,none⟩) hb v1).setCell (p:=⟨b,2,none⟩) hb v2).setCell (p:=⟨b,3,none⟩) hb v3).setCell (p:=⟨b,4,none⟩) hb v4).setCell (p:=⟨b,5,none⟩) hb v5).setCell (p:=⟨b,6,none⟩) hb v6
theorem MJ {B b:Nat} {w W:World}(h:Below B w W) (hb:B<=b) (v5 v1:Value):Below B w ((W.setCell ⟨b,5,none⟩ v5).setCell ⟨b,1,none⟩ v1):=
 (h.setCell (p:=⟨b,5,none⟩) hb v5).setCell (p:=⟨b,1,none⟩) hb v1
theorem Qn {v n:Nat} {s:ByteArray} {p:Nat}(h:D4 s p v n):Lib.runeLen v=n:=by rw[KY h.pos.2,S6 h]
end Go.Proofs
namespace Go.Proofs
open Go.RowKit Go.Bg Go.Hb
theorem Qu (u:Nat):Lib.decDigits u=Ar 10 u:=by
 induction u using Nat.strongRecOn with
 |_ u ih=>
  rw[Lib.decDigits];by_cases h:u<10
  ·rw[dif_pos h];have key:∀k:Fin 10,[UInt8.ofNat (48+k.val)]=Ar 10 k.val:=by decide
   exact key ⟨u,h⟩
  ·rw[dif_neg h,ih (u/10) (by omega)];unfold Ar;rw[lL (by omega),lL (by omega),DB (by omega) (show u≠0 by omega),List.map_cons,List.reverse_cons];have key:∀k:Fin 10,UInt8.ofNat (48+k.val)=Fc k.val:=by decide
   rw[key ⟨u %10,by omega⟩]
theorem Wl (v:Nat):Lib.itoa (v:Int)=Ar 10 v:=by
 unfold Lib.itoa;rw[lL (by omega),mB,Qu]
theorem Tryz.itoa (v:Nat) (w:World) (hv:v<=1114111) (hL:Ag w):Calls prog 94 #[.int .i64 v] w fun e w'=>e= .returned (.string ⟨(Ar 10 v).toArray⟩)/\Below w.heap.size w w':=by
 refine(Tryz.strconv_Itoa v (by omega) (by omega) w hL.jM).mono fun e w' ⟨h1,k,os,h2⟩=>⟨by rw[h1,Wl],?_⟩;rw[h2];refine⟨rfl,rfl,rfl,by simp[Go.Sort.grow,World.drewN],fun j hj=> ?_⟩;show(w.heap++os)[j]? =_;rw[Array.getElem?_append_left hj]
theorem SO (v:Value) (x m:Nat) (w:World) (hm:m<=70368744177664) (hv:Hid (CH w v x m)) (rH:Hid (∀m',Bh x m'->sz x m'<=4096)):
 Calls prog 113 #[.agg #[.bool false,v],.int .i64 10] w fun e w'=>e= .returned (.tuple #[.string ⟨(Ar 10 x).toArray⟩,.int .i64 0])/\Below w.heap.size w w':=by
 refine(Tryz.text v x m 10 w hm (by omega) (by omega) hv rH).mono fun e w' ⟨t,h1,h2,h3⟩=>⟨?_,h3⟩;have:t=⟨(Ar 10 x).toArray⟩:=by
  apply pH;apply po.1;rw[h2]
 rw[h1,this]
end Go.Proofs
