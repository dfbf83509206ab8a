import Derived.Test.YtnipmfaikiaipaaGreatDoorTax
import Derived.Test.YtnipmfaikiaipaaGreatDoorTaj
set_option linter.unusedVariables false
set_option linter.unusedSimpArgs false
set_option maxRecDepth 1000000
set_option maxHeartbeats 40000000
section
namespace Go.Lx
open Go.Hb Go.Rb Go.Bg Go.Pf
theorem Wg {c:Nat} :AM c=true↔48<=c/\c<=57:=by simp[AM]
theorem M8 {s:ByteArray} {f j:Nat}(hf:f<=s.size) (h1:f<=j) (h2:j<AF AM s f):48<=byte s j/\byte s j<=57:=by
 have h3:=Ai AM s f hf;rw[Cf (by omega)];exact Wg.1 (Bv (a:=f) j (by omega) h1 h2)
structure ar (s:ByteArray) (a p e:Nat):Prop where
 ap:a<p
 ps:p<s.size
 dot:byte s p=46
 d1:∀j,a<=j->j<p->48<=byte s j/\byte s j<=57
 d2:∀j,p+1<=j->j<e->48<=byte s j/\byte s j<=57
 pe:p+1<e
 es:e<=s.size
theorem WZ {s:ByteArray} {a p:Nat}(ha:a<s.size) (hp:p=AF AM s a) (hd:AM (AE s a).toNat=true) (h46:AE s p=46) (hd1:AM (AE s (p+1)).toNat=true):ar s a p (AF AM s (p+1)):=by
 have hps:p<s.size:=by
  rcases BY p s.size with h|h
  ·exact h
  ·rw[Am s p h]at h46;omega
 have hap:a<p:=by
  have h1:=Ae AM s a;have h2:AF AM s a≠a:=by
   intro h;rw[<-hp]at h;subst h;rw[h46]at hd;exact absurd hd (by decide)
  omega
 have hp1:p+1<s.size:=by
  rcases BY (p+1) s.size with h|h
  ·exact h
  ·rw[Am s _ h]at hd1;exact absurd hd1 (by decide)
 have h3:p+1<AF AM s (p+1):=by
  rw[AO s _ hp1,IT]at hd1;rw[Af hp1 hd1];exact Ae AM s (p+1+1)
 refine⟨hap,hps,?_,fun j h1 h2=>M8 (by omega) h1 (by omega),fun j h1 h2=>M8 (by omega) h1 h2,h3,Ai AM s _ (by omega)⟩;have:=IJ s p;rw[h46]at this;omega
theorem T8 {s:ByteArray} {a p e:Nat}(h:ar s a p e):Fc (s.extract a e) (p-a) (e-a) (e-a) 1:=by
 have hap:=h.ap;have hpe:=h.pe;have hes:=h.es;have hz:(s.extract a e).size=e-a:=by rw[Of];omega
 refine⟨by omega,by omega,by omega,fun j hj hjp=> ?_,?_,.inl ⟨by omega,by omega,rfl⟩⟩
 ·rw[BM (by omega) hes];rcases BY (a+j) p with h1|h1
  ·exact h.d1 _ (by omega) h1
  ·exact h.d2 _ (by omega) (by omega)
 ·rw[BM (by omega) hes,show a+(p-a)=p by omega];exact h.dot
theorem Yj {s:ByteArray} {a p e f t:Nat} {sg:Int}(h:ar s a p e) (he:AE s e=101\/AE s e=69) (hf:(f=e+1/\sg=1)\/(f=e+2/\sg=1/\AE s (e+1)=43)\/(f=e+2/\sg= -1/\AE s (e+1)=45)) (hft:f<t) (ht4:t<=f+4) (ht:t<=s.size) (hd:∀j,f<=j->j<t->48<=byte s j/\byte s j<=57):
 Fc (s.extract a t) (p-a) (e-a) (f-a) sg:=by
 have hap:=h.ap;have hpe:=h.pe;have hef:e<f:=by omega
 have hz:(s.extract a t).size=t-a:=by rw[Of];omega
 have bb:∀k c:Nat,AE s k=c->byte s k=c:=fun k c hk=>by have:=IJ s k;rw[hk]at this;omega
 refine⟨by omega,by omega,by omega,fun j hj hjp=> ?_,?_,.inr ⟨by omega,?_,?_,by omega,by omega,fun j h1 h2=> ?_⟩⟩
 ·rw[BM (by omega) ht];rcases BY (a+j) p with h1|h1
  ·exact h.d1 _ (by omega) h1
  ·exact h.d2 _ (by omega) (by omega)
 ·rw[BM (by omega) ht,show a+(p-a)=p by omega];exact h.dot
 ·rw[BM (by omega) ht,show a+(e-a)=e by omega];rcases he with he|he
  ·exact .inl (bb e 101 he)
  ·exact .inr (bb e 69 he)
 ·rcases hf with⟨h1,h2⟩|⟨h1,h2,h3⟩|⟨h1,h2,h3⟩
  ·exact .inl ⟨by omega,h2⟩
  ·refine .inr (.inl ⟨by omega,h2,?_⟩);rw[BM (by omega) ht,show a+(e-a+1)=e+1 by omega];exact bb _ 43 h3
  ·refine .inr (.inr ⟨by omega,h2,?_⟩);rw[BM (by omega) ht,show a+(e-a+1)=e+1 by omega];exact bb _ 45 h3
 ·rw[BM (by omega) ht];exact hd _ (by omega) (by omega)
end Go.Lx
end
section
namespace Go.Proofs
open Go.RowKit Go.Pf
theorem K6 (b:Nat) (w:World):(callFunc 138 #[.float .f64 b]).run Tryz.prog w= .ok (.value (.int .u64 (b:Int))) w:=by
 rw[run_callFunc_extern Tryz.func138 (by kernel_rfl) (by kernel_rfl) (by kernel_rfl) (e:=Extern.MathFloatBits.float64bits) (by kernel_rfl)];rfl
theorem Lz (n:Nat) (w:World):(callFunc 48 #[.int .u64 (n:Int)]).run Tryz.prog w= .ok (.value (.float .f64 n)) w:=by
 rw[run_callFunc_extern Tryz.func48 (by kernel_rfl) (by kernel_rfl) (by kernel_rfl) (e:=Extern.MathFloatBits.float64frombits) (by kernel_rfl)];rfl
def iW (b:Nat):Nat:=(bits .andNot .u64 (b:Int) 9223372036854775808).toNat
def iV (b:Nat):Bool:=FloatKind.f64.format.order (iW b) 9218868437227405311==some Ordering.gt
theorem Tryz.abs (b:Nat) (w:World):Calls Tryz.prog 93 #[.float .f64 b] w fun e w'=>e= .returned (.float .f64 (iW b))/\w=w':=by
 have f2:bits .andNot .u64 (b:Int) 9223372036854775808=(iW b:Int):=(Int.toNat_of_nonneg (wrap_u64_nonneg _)).symm;obtain⟨c,hc⟩:∃c,c=iW b:=⟨_,rfl⟩;rw[<-hc]at f2⊢;clear hc;go_enter Tryz.func93,Tryz.ntmps93;go_wp2;rw[K6,Oper.upon_value];go_wp2;rw[Lz,Oper.upon_value];go_wp2;go_ret;exact⟨rfl,rfl⟩
theorem Tryz.isInf (b:Nat) (w:World):Calls Tryz.prog 50 #[.float .f64 b,.int .i64 0] w fun e w'=>e= .returned (.bool (iV b))/\w=w':=by
 have h1:=Tryz.abs b w;obtain⟨c,hc⟩:∃c,c=iW b:=⟨_,rfl⟩;have h2:(FloatKind.f64.format.order c 9218868437227405311==some Ordering.gt)=iV b:=by unfold iV;rw[hc]
 rw[<-hc]at h1;generalize iV b=r at*;have H:=Hi h2;have C:=Hi h1;clear h1 h2 hc;go_enter Tryz.func50,Tryz.ntmps50
 go_wp2_with (go_at_call 93;(with_reducible refine C.out.mono ?_);rintro e w' ⟨rfl,rfl⟩)
 rw[H.out];go_ret;exact⟨rfl,rfl⟩
end Go.Proofs
end
