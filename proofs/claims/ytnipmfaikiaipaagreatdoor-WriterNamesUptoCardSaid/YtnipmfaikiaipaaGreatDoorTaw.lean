import Derived.Test.YtnipmfaikiaipaaGreatDoorTav
import Derived.Test.YtnipmfaikiaipaaGreatDoorTal
import Derived.Test.YtnipmfaikiaipaaGreatDoorTaa
set_option maxRecDepth 1000000
set_option maxHeartbeats 40000000
namespace Go.Lx
open Go.Hb Go.Rb Go.Bg Go.Pf
section
variable {s:ByteArray} {a q p:Nat} {out:List UInt8}
theorem quo_out (h:s.size≤p):quoE s a q p out= .err a 31:=quoE_end (by unfold quoS;rw[if_pos h]) (fun _=>rfl)
theorem quo_bad (h:p<s.size) (hc:chD s p=none):quoE s a q p out= .err p 30:=quoE_end (by unfold quoS;rw[if_neg (by omega),hc]) (fun h2=>by omega)
theorem quo_nl {v n:Nat}(_h:p<s.size) (hc:chD s p=some (v,n)) (hv:v=10):quoE s a q p out= .err a 31:=
 quoE_end (by unfold quoS;rw[if_neg (by omega),hc];simp only;rw[if_pos hv]) (fun _=>rfl)
theorem quo_dbl {v n:Nat}(_h:p<s.size) (hc:chD s p=some (v,n)) (h10:v≠10) (hv:v=q) (hd:byt s (p+1)=q∧p+1<s.size):quoE s a q p out=quoE s a q (p+2) (out++ [q.toUInt8]):=
 quoE_step (by unfold quoS;rw[if_neg (by omega),hc];simp only;rw[if_neg h10,if_pos hv,if_pos hd])
theorem quo_long {v n:Nat}(h:p<s.size) (hc:chD s p=some (v,n)) (h10:v≠10) (hv:v=q) (hd:¬(byt s (p+1)=q∧p+1<s.size)) (hl:q=39∧1000<out.length):quoE s a q p out= .err a 35:=
 quoE_end (by unfold quoS;rw[if_neg (by omega),hc];simp only;rw[if_neg h10,if_pos hv,if_neg hd,if_pos hl]) (fun _=>by omega)
theorem quo_fin {v n:Nat}(h:p<s.size) (hc:chD s p=some (v,n)) (h10:v≠10) (hv:v=q) (hd:¬(byt s (p+1)=q∧p+1<s.size)) (hl:¬(q=39∧1000<out.length)):quoE s a q p out= .ok (quoK q) ⟨out.toArray⟩ ⟨#[]⟩ 0 a (p+1):=
 quoE_end (by unfold quoS;rw[if_neg (by omega),hc];simp only;rw[if_neg h10,if_pos hv,if_neg hd,if_neg hl]) (fun _=>by omega)
theorem quo_cont {v n:Nat}(_h:p<s.size) (hc:chD s p=some (v,n)) (hq:v≠q) (hv:v=92) (hd:byt s (p+1)=10):quoE s a q p out=quoE s a q (p+2) out:=
 quoE_step (by unfold quoS;rw[if_neg (by omega),hc];simp only;rw[if_neg (by omega),if_neg hq,if_pos hv,if_pos hd])
theorem quo_no {v n:Nat}(h:p<s.size) (hc:chD s p=some (v,n)) (hq:v≠q) (hv:v=92) (hd:byt s (p+1)≠10) (he:escV s p=none):quoE s a q p out= .err p 32:=
 quoE_end (by unfold quoS;rw[if_neg (by omega),hc];simp only;rw[if_neg (by omega),if_neg hq,if_pos hv,if_neg hd,he]) (fun _=>by omega)
theorem quo_esc {v n x t:Nat}(_h:p<s.size) (hc:chD s p=some (v,n)) (hq:v≠q) (hv:v=92) (hd:byt s (p+1)≠10) (he:escV s p=some (x,t)):quoE s a q p out=quoE s a q t (out++Lib.encodeRune x):=
 quoE_step (by unfold quoS;rw[if_neg (by omega),hc];simp only;rw[if_neg (by omega),if_neg hq,if_pos hv,if_neg hd,he])
theorem quo_chr {v n:Nat}(_h:p<s.size) (hc:chD s p=some (v,n)) (h10:v≠10) (hq:v≠q) (hv:v≠92):quoE s a q p out=quoE s a q (p+n) (out++Lib.encodeRune v):=
 quoE_step (by unfold quoS;rw[if_neg (by omega),hc];simp only;rw[if_neg h10,if_neg hq,if_neg hv])
end
theorem enc_low {v:Nat}(h:v<128):(Lib.encodeRune v).length=1:=by
 have hz:Lib.encodeRuneZ (v:Int)= [(v:Int)]:=Lib.encodeRuneZ_one (by omega) (by omega)
 rw[enc_bytes,hz];rfl
theorem valN_lt {r:Nat} {s:ByteArray} {f:Nat} :∀k,(∀j,j<k→dgv (byt s (f+j)).toNat<r)→valN r s f k<r^k
 |0,_=>by simp[valN]
 |k+1,h=>by
  have h1:=valN_lt (r:=r) (s:=s) (f:=f) k (fun j hj=>h j (by omega))
  have h2:=h k (by omega)
  rw[valN,Nat.pow_succ]
  have:(valN r s f k+1)*r≤r^k*r:=Nat.mul_le_mul_right _ h1
  rw[Nat.add_mul,Nat.one_mul]at this
  omega
theorem escV_len {s:ByteArray} {p v t:Nat}(h:escV s p=some (v,t)):p+(Lib.encodeRune v).length≤t:=by
 have h0:=escV_gt h
 have hl:=enc_len v
 have hD:∀{r:Nat} {pr:Nat→Bool} {f:Nat},p+1≤f→(∀c,pr c=true→hexB c=true)→r≤16→(∀c,pr c=true→dgv c<r)→escD r pr s f=some (v,t)→p+(Lib.encodeRune v).length≤t:=by
  intro r pr f hpf hpr hr hdg hd
  unfold escD at hd
  split at hd
  ·cases hd
  ·rename_i hn
   split at hd
   ·have hge:=rowE_ge pr s f
    have h4:rowE pr s f≠f:=fun h=>hn (.inl h)
    simp only[Option.some.injEq,Prod.mk.injEq]at hd
    obtain⟨h1,h2⟩:=hd
    by_cases hk:rowE pr s f=f+1
    ·have hs:f<s.size:=by
      rcases Nat.lt_or_ge f s.size with h5|h5
      ·exact h5
      ·exact absurd (rowE_end h5) h4
     have hx:=rowE_all (p:=pr) (s:=s) (a:=f) f hs (nR _) (by omega)
     have hv:valN r s f 1<r^1:=valN_lt 1 (fun j hj=>by
      obtain rfl:j=0:=by omega
      rw[Nat.add_zero,byt_in s f hs,Int.toNat_natCast]
      exact hdg _ hx)
     rw[hk,show f+1-f=1 by omega]at h1
     rw[h1,Nat.pow_one]at hv
     have:=enc_low (v:=v) (by omega)
     omega
    ·omega
   ·cases hd
 unfold escV at h
 split at h
 ·rename_i x hx
  split at hx
  ·simp only[Option.some.injEq,Prod.mk.injEq]at h
   have h5:v<128:=by
    rw[←h.1]
    unfold escL at hx
    repeat' split at hx
    all_goals first|(simp only[Option.some.injEq]at hx;omega)|cases hx
   have:=enc_low h5
   omega
  ·cases hx
 ·split at h
  ·exact hD (by omega) (fun _ h=>h) (by omega) (fun c hc=>by have:=Go.Proofs.hexB_lt hc;omega) h
  ·exact hD (by omega) (fun _ h=>Go.Proofs.octB_hex h) (by omega) (fun c hc=>by
    simp[octB]at hc
    unfold dgv
    rw[if_pos (by omega)]
    omega) h
theorem chv_len {s:ByteArray} {p v n:Nat}(h:ChV s p v n):(Lib.encodeRune v).length=n:=by
 have h0:=h.pos.2
 unfold ChV at h
 have hr:=runeLen_ok h0
 have h2:(Lib.encodeRune v).length=if v<128 then 1 else if v<2048 then 2 else if v<65536 then 3 else 4:=by
  rcases h0.cases with c|c|c|c
  ·rw[enc_bytes,Lib.encodeRuneZ_one c.1 c.2,if_pos (by omega)];rfl
  ·rw[enc_bytes,Lib.encodeRuneZ_two c.1 c.2,if_neg (by omega),if_pos (by omega)];rfl
  ·rw[enc_bytes,Lib.encodeRuneZ_three c,if_neg (by omega),if_neg (by omega),if_pos (by omega)];rfl
  ·rw[enc_bytes,Lib.encodeRuneZ_four c.1 c.2,if_neg (by omega),if_neg (by omega),if_neg (by omega)];rfl
 rw[h2]
 unfold cont at h
 have:=byt_lo s p
 split
 ·omega
 ·split
  ·omega
  ·split<;>omega
end Go.Lx
namespace Go.Proofs
open Go.RowKit Go.Pf Go.Lx Go.Hb Go.Rb Go.Bg
theorem TokEnd.ok {R:TR} {w w':World} {k bits a E:Nat} {tx nu:ByteArray}(h:R= .ok k tx nu bits a E) (hb:Below w.heap.size w w'):TokEnd R w (.returned (.tuple #[tokV k tx nu bits a E false,.int .i64 0])) w':=by subst h;exact⟨rfl,hb⟩
end Go.Proofs
