import Derived.Test.YtpjcdbjablijkaaGreatDoorTax
import Derived.Test.YtpjcdbjablijkaaGreatDoorTaj
import Derived.Test.YtpjcdbjablijkaaGreatDoorTaa
set_option maxRecDepth 1000000
set_option maxHeartbeats 40000000
section
namespace Go.Lx
open Go.Hb Go.Rb Go.Bg Go.Pf
theorem digB_iff {c:Nat} :digB c=true↔48≤c∧c≤57:=by simp[digB]
theorem dgv_of {c:Nat}(h:48≤c∧c≤57):dgv c=c-48:=by unfold dgv;rw[if_pos h]
theorem row_dig {s:ByteArray} {f j:Nat}(hf:f≤s.size) (h1:f≤j) (h2:j<rowE digB s f):48≤byte s j∧byte s j≤57:=by
 have h3:=rowE_le digB s f hf
 rw[byte_in (by omega)]
 exact digB_iff.1 (rowE_all (a:=f) j (by omega) h1 h2)
structure FlP (s:ByteArray) (a p e:Nat):Prop where
 ap:a<p
 ps:p<s.size
 dot:byte s p=46
 d1:∀j,a≤j→j<p→48≤byte s j∧byte s j≤57
 d2:∀j,p+1≤j→j<e→48≤byte s j∧byte s j≤57
 pe:p+1<e
 es:e≤s.size
theorem flp_of {s:ByteArray} {a p:Nat}(ha:a<s.size) (hp:p=rowE digB s a) (hd:digB (byt s a).toNat=true) (h46:byt s p=46) (hd1:digB (byt s (p+1)).toNat=true):FlP s a p (rowE digB s (p+1)):=by
 have hps:p<s.size:=by
  rcases Nat.lt_or_ge p s.size with h|h
  ·exact h
  ·rw[byt_out s p h]at h46;omega
 have hap:a<p:=by
  have h1:=rowE_ge digB s a
  have h2:rowE digB s a≠a:=by
   intro h
   rw[←hp]at h
   subst h
   rw[h46]at hd
   exact absurd hd (by decide)
  omega
 have hp1:p+1<s.size:=by
  rcases Nat.lt_or_ge (p+1) s.size with h|h
  ·exact h
  ·rw[byt_out s _ h]at hd1;exact absurd hd1 (by decide)
 have h3:p+1<rowE digB s (p+1):=by
  rw[byt_in s _ hp1,Int.toNat_natCast]at hd1
  rw[rowE_step hp1 hd1]
  exact rowE_ge digB s (p+1+1)
 refine⟨hap,hps,?_,fun j h1 h2=>row_dig (by omega) h1 (by omega),fun j h1 h2=>row_dig (by omega) h1 h2,h3,rowE_le digB s _ (by omega)⟩
 have:=byte_byt s p
 rw[h46]at this
 omega
theorem dgN_low {s:ByteArray} {a p e t:Nat}(h:FlP s a p e) (het:e≤t) (ht:t≤s.size):∀k,k≤p-a→dgN (s.extract a t) k=vN 10 (s.extract a p++s.extract (p+1) e) k
 |0,_=>rfl
 |k+1,hk=>by
  have ih:=dgN_low h het ht k (by omega)
  have h1:=h.d1 (a+k) (by omega) (by omega)
  have hz:(s.extract a p).size=p-a:=by rw[ByteArray.size_extract];have:=h.ps;omega
  have hpe:=h.pe
  rw[dgN,vN,ih,byte_ext (by omega) ht,if_neg (by omega),byte_app,hz,if_pos (by omega),byte_ext (by omega) (by have:=h.ps;omega),dgv_of h1]
theorem dgN_high {s:ByteArray} {a p e t:Nat}(h:FlP s a p e) (het:e≤t) (ht:t≤s.size):∀j,j≤e-(p+1)→dgN (s.extract a t) (p-a+1+j)=vN 10 (s.extract a p++s.extract (p+1) e) (p-a+j)
 |0,_=>by
  have hap:=h.ap
  have hpe:=h.pe
  rw[Nat.add_zero,Nat.add_zero,dgN,byte_ext (by omega) ht,show a+(p-a)=p by omega,if_pos h.dot]
  exact dgN_low h het ht _ (nR _)
 |j+1,hj=>by
  have ih:=dgN_high h het ht j (by omega)
  have hap:=h.ap
  have h1:=h.d2 (p+1+j) (by omega) (by omega)
  have hz:(s.extract a p).size=p-a:=by rw[ByteArray.size_extract];have:=h.ps;omega
  rw[show p-a+1+(j+1)=(p-a+1+j)+1 by omega,show p-a+(j+1)=(p-a+j)+1 by omega,dgN,vN,ih,byte_ext (by omega) ht,show a+(p-a+1+j)=p+1+j by omega,if_neg (by omega),byte_app,hz,if_neg (by omega),byte_ext (by omega) h.es,
   show p+1+(p-a+j-(p-a))=p+1+j by omega,dgv_of h1]
theorem dgN_fltD {s:ByteArray} {a p t:Nat}(h:FlP s a p (rowE digB s (p+1))) (het:rowE digB s (p+1)≤t) (ht:t≤s.size):dgN (s.extract a t) (rowE digB s (p+1)-a)=vN 10 (fltD s a p) (fltD s a p).size:=by
 have hap:=h.ap
 have hpe:=h.pe
 rw[fltD_size (by omega) h.ps,show rowE digB s (p+1)-a=p-a+1+(rowE digB s (p+1)-(p+1)) by omega]
 exact dgN_high h het ht _ (nR _)
theorem ef_ext {s:ByteArray} {a f t:Nat}(haf:a≤f) (ht:t≤s.size):∀j,f+j≤t→(∀i,i<j→48≤byte s (f+i)∧byte s (f+i)≤57)→ef (s.extract a t) (f-a) j=valN 10 s f j
 |0,_,_=>rfl
 |j+1,h,hd=>by
  have h1:=hd j (by omega)
  rw[ef,valN,ef_ext haf ht j (by omega) (fun i hi=>hd i (by omega)),byte_ext (by omega) ht,show a+(f-a+j)=f+j by omega,byte_byt,dgv_of h1]
theorem flt_plain {s:ByteArray} {a p e:Nat}(h:FlP s a p e):FTxt (s.extract a e) (p-a) (e-a) (e-a) 1:=by
 have hap:=h.ap
 have hpe:=h.pe
 have hes:=h.es
 have hz:(s.extract a e).size=e-a:=by rw[ByteArray.size_extract];omega
 refine⟨by omega,by omega,by omega,fun j hj hjp=> ?_,?_,.inl ⟨by omega,by omega,rfl⟩⟩
 ·rw[byte_ext (by omega) hes]
  rcases Nat.lt_or_ge (a+j) p with h1|h1
  ·exact h.d1 _ (by omega) h1
  ·exact h.d2 _ (by omega) (by omega)
 ·rw[byte_ext (by omega) hes,show a+(p-a)=p by omega];exact h.dot
theorem flt_exp {s:ByteArray} {a p e f t:Nat} {sg:Int}(h:FlP s a p e) (he:byt s e=101∨byt s e=69) (hf:(f=e+1∧sg=1)∨(f=e+2∧sg=1∧byt s (e+1)=43)∨(f=e+2∧sg= -1∧byt s (e+1)=45)) (hft:f<t) (ht4:t≤f+4) (ht:t≤s.size) (hd:∀j,f≤j→j<t→48≤byte s j∧byte s j≤57):
 FTxt (s.extract a t) (p-a) (e-a) (f-a) sg:=by
 have hap:=h.ap
 have hpe:=h.pe
 have hef:e<f:=by omega
 have hz:(s.extract a t).size=t-a:=by rw[ByteArray.size_extract];omega
 have bb:∀k c:Nat,byt s k=c→byte s k=c:=fun k c hk=>by have:=byte_byt s k;rw[hk]at this;omega
 refine⟨by omega,by omega,by omega,fun j hj hjp=> ?_,?_,.inr ⟨by omega,?_,?_,by omega,by omega,fun j h1 h2=> ?_⟩⟩
 ·rw[byte_ext (by omega) ht]
  rcases Nat.lt_or_ge (a+j) p with h1|h1
  ·exact h.d1 _ (by omega) h1
  ·exact h.d2 _ (by omega) (by omega)
 ·rw[byte_ext (by omega) ht,show a+(p-a)=p by omega];exact h.dot
 ·rw[byte_ext (by omega) ht,show a+(e-a)=e by omega]
  rcases he with he|he
  ·exact .inl (bb e 101 he)
  ·exact .inr (bb e 69 he)
 ·rcases hf with⟨h1,h2⟩|⟨h1,h2,h3⟩|⟨h1,h2,h3⟩
  ·exact .inl ⟨by omega,h2⟩
  ·refine .inr (.inl ⟨by omega,h2,?_⟩)
   rw[byte_ext (by omega) ht,show a+(e-a+1)=e+1 by omega]
   exact bb _ 43 h3
  ·refine .inr (.inr ⟨by omega,h2,?_⟩)
   rw[byte_ext (by omega) ht,show a+(e-a+1)=e+1 by omega]
   exact bb _ 45 h3
 ·rw[byte_ext (by omega) ht]
  exact hd _ (by omega) (by omega)
theorem flt_bits {s:ByteArray} {a p f t:Nat} {sg x:Int} {b:Nat}(h:FlP s a p (rowE digB s (p+1))) (het:rowE digB s (p+1)≤t) (ht:t≤s.size) (hx:ef (s.extract a t) (f-a) ((s.extract a t).size-(f-a))*sg=x)
 (hb:FlT (s.extract a t) (p-a) (rowE digB s (p+1)-a) (f-a) sg b):b=fltB (vN 10 (fltD s a p) (fltD s a p).size) (x-((rowE digB s (p+1):Int)-p-1)):=by
 have hap:=h.ap
 have hpe:=h.pe
 unfold FlT at hb
 rw[dgN_fltD h het ht]at hb
 have e:fx (s.extract a t) (p-a) (rowE digB s (p+1)-a) (f-a) sg=x-((rowE digB s (p+1):Int)-p-1):=by
  unfold fx
  rw[hx]
  omega
 rw[e]at hb
 exact(fltB_eq hb).symm
theorem ef_none {m:ByteArray} {f:Nat}(h:m.size=f) (sg:Int):(ef m f (m.size-f):Int)*sg=0:=by
 rw[h,Nat.sub_self];simp[ef]
theorem ef_some {s:ByteArray} {a f t:Nat}(haf:a≤f) (hft:f≤t) (ht:t≤s.size) (hd:∀j,f≤j→j<t→48≤byte s j∧byte s j≤57):ef (s.extract a t) (f-a) ((s.extract a t).size-(f-a))=valN 10 s f (t-f):=by
 have hz:(s.extract a t).size=t-a:=by rw[ByteArray.size_extract];omega
 rw[hz,show t-a-(f-a)=t-f by omega]
 exact ef_ext haf ht _ (by omega) (fun i hi=>hd _ (by omega) (by omega))
end Go.Lx
end
section
namespace Go.Proofs
open Go.RowKit Go.Pf
theorem tobits_run (b:Nat) (w:World):(callFunc 81 #[.float .f64 b]).run Tryz.prog w= .ok (.value (.int .u64 (b:Int))) w:=by
 rw[run_callFunc_extern Tryz.func81 (by kernel_rfl) (by kernel_rfl) (by kernel_rfl) (e:=Extern.MathFloatBits.float64bits) (by kernel_rfl)]
 rfl
theorem frombits2_run (n:Nat) (w:World):(callFunc 14 #[.int .u64 (n:Int)]).run Tryz.prog w= .ok (.value (.float .f64 n)) w:=by
 rw[run_callFunc_extern Tryz.func14 (by kernel_rfl) (by kernel_rfl) (by kernel_rfl) (e:=Extern.MathFloatBits.float64frombits) (by kernel_rfl)]
 rfl
theorem Tryz.abs (b:Nat) (hb:b≤infB) (w:World):Calls Tryz.prog 41 #[.float .f64 b] w fun e w'=>e= .returned (.float .f64 b)∧w=w':=by
 have hb2:b<9223372036854775808:=by unfold infB at hb;omega
 have f2:bits .andNot .u64 (b:Int) 9223372036854775808=(b:Int):=by
  have h1:=u64_andNot_nat b 9223372036854775808 (by omega) (by decide)
  have e:18446744073709551615-9223372036854775808=2^63-1:=by decide
  rw[e,Nat.and_two_pow_sub_one_eq_mod,Nat.mod_eq_of_lt (show b<2^63 from hb2)]at h1
  exact h1
 have hm:b<18446744073709551616:=by omega
 clear hb hb2
 go_enter Tryz.func41,Tryz.ntmps41
 go_wp2
 rw[tobits_run,Oper.upon_value]
 go_wp2
 rw[frombits2_run,Oper.upon_value]
 go_wp2
 go_ret
 exact⟨rfl,rfl⟩
theorem inf_gt {b:Nat}(h:b≤infB):(FloatKind.f64.format.order b 9218868437227405311==some Ordering.gt)=decide (b=infB):=by
 show(Ieee.double.order b 9218868437227405311==some Ordering.gt)=_
 by_cases h1:b<infB
 ·rw[order_fin h1 (by decide),decide_eq_false (by omega)]
  have h2:compare b 9218868437227405311≠ .gt:=by
   rw[Ne,Nat.compare_eq_gt]
   unfold infB at h1
   omega
  cases hc:compare b 9218868437227405311 with
  |lt=>rfl
  |eq=>rfl
  |gt=>exact absurd hc h2
 ·obtain rfl:b=infB:=by omega
  rw[decide_eq_true rfl]
  kernel_rfl
theorem Tryz.isInf (b:Nat) (hb:Hid (b≤infB)) (w:World):Calls Tryz.prog 16 #[.float .f64 b,.int .i64 0] w fun e w'=>e= .returned (.bool (decide (b=infB)))∧w=w':=by
 have H:=Hi (inf_gt hb.out)
 go_enter Tryz.func16,Tryz.ntmps16
 go_wp2_with (go_at_call 41;(with_reducible refine(Tryz.abs b hb.out _).mono ?_);rintro e w' ⟨rfl,rfl⟩)
 rw[H.out]
 go_ret
 exact⟨rfl,rfl⟩
end Go.Proofs
end
