import Derived.Test.YteegpmimbbgdlaaGreatDoorTav
import Derived.Test.YteegpmimbbgdlaaGreatDoorTal
import Derived.Test.YteegpmimbbgdlaaGreatDoorTaa
set_option maxRecDepth 1000000
set_option maxHeartbeats 40000000
namespace Go.Lx
open Go.Hb Go.Rb Go.Bg Go.Pf
section
variable {s:ByteArray} {a q p:Nat} {out:List UInt8}
theorem quo_out (h:s.size≤p):quoE s a q p out= .err a 31:=quoE_end (by unfold quoS;rw[if_pos h]) (fun _=>rfl)
theorem quo_bad (h:p<s.size) (hc:chD s p=none):quoE s a q p out= .err p 30:=quoE_end (by unfold quoS;rw[if_neg (by omega),hc]) (fun h2=>by omega)
theorem quo_nl {v n:Nat}(_h:p<s.size) (hc:chD s p=some (v,n)) (hv:v=10):quoE s a q p out= .err a 31:=
 quoE_end (by unfold quoS;rw[if_neg (by omega),hc];simp only;rw[if_pos hv]) (fun _=>rfl)
theorem quo_dbl {v n:Nat}(_h:p<s.size) (hc:chD s p=some (v,n)) (h10:v≠10) (hv:v=q) (hd:byt s (p+1)=q∧p+1<s.size):quoE s a q p out=quoE s a q (p+2) (out++ [q.toUInt8]):=
 quoE_step (by unfold quoS;rw[if_neg (by omega),hc];simp only;rw[if_neg h10,if_pos hv,if_pos hd])
theorem quo_long {v n:Nat}(h:p<s.size) (hc:chD s p=some (v,n)) (h10:v≠10) (hv:v=q) (hd:¬(byt s (p+1)=q∧p+1<s.size)) (hl:q=39∧1000<out.length):quoE s a q p out= .err a 35:=
 quoE_end (by unfold quoS;rw[if_neg (by omega),hc];simp only;rw[if_neg h10,if_pos hv,if_neg hd,if_pos hl]) (fun _=>by omega)
theorem quo_fin {v n:Nat}(h:p<s.size) (hc:chD s p=some (v,n)) (h10:v≠10) (hv:v=q) (hd:¬(byt s (p+1)=q∧p+1<s.size)) (hl:¬(q=39∧1000<out.length)):quoE s a q p out= .ok (quoK q) ⟨out.toArray⟩ ⟨#[]⟩ 0 a (p+1):=
 quoE_end (by unfold quoS;rw[if_neg (by omega),hc];simp only;rw[if_neg h10,if_pos hv,if_neg hd,if_neg hl]) (fun _=>by omega)
theorem quo_cont {v n:Nat}(_h:p<s.size) (hc:chD s p=some (v,n)) (hq:v≠q) (hv:v=92) (hd:byt s (p+1)=10):quoE s a q p out=quoE s a q (p+2) out:=
 quoE_step (by unfold quoS;rw[if_neg (by omega),hc];simp only;rw[if_neg (by omega),if_neg hq,if_pos hv,if_pos hd])
theorem quo_no {v n:Nat}(h:p<s.size) (hc:chD s p=some (v,n)) (hq:v≠q) (hv:v=92) (hd:byt s (p+1)≠10) (he:escV s p=none):quoE s a q p out= .err p 32:=
 quoE_end (by unfold quoS;rw[if_neg (by omega),hc];simp only;rw[if_neg (by omega),if_neg hq,if_pos hv,if_neg hd,he]) (fun _=>by omega)
theorem quo_esc {v n x t:Nat}(_h:p<s.size) (hc:chD s p=some (v,n)) (hq:v≠q) (hv:v=92) (hd:byt s (p+1)≠10) (he:escV s p=some (x,t)):quoE s a q p out=quoE s a q t (out++Lib.encodeRune x):=
 quoE_step (by unfold quoS;rw[if_neg (by omega),hc];simp only;rw[if_neg (by omega),if_neg hq,if_pos hv,if_neg hd,he])
theorem quo_chr {v n:Nat}(_h:p<s.size) (hc:chD s p=some (v,n)) (h10:v≠10) (hq:v≠q) (hv:v≠92):quoE s a q p out=quoE s a q (p+n) (out++Lib.encodeRune v):=
 quoE_step (by unfold quoS;rw[if_neg (by omega),hc];simp only;rw[if_neg h10,if_neg hq,if_neg hv])
end
theorem enc_low {v:Nat}(h:v<128):(Lib.encodeRune v).length=1:=by
 have hz:Lib.encodeRuneZ (v:Int)= [(v:Int)]:=Lib.encodeRuneZ_one (by omega) (by omega)
 rw[enc_bytes,hz];rfl
theorem valN_lt {r:Nat} {s:ByteArray} {f:Nat} :∀k,(∀j,j<k→dgv (byt s (f+j)).toNat<r)→valN r s f k<r^k
 |0,_=>by simp[valN]
 |k+1,h=>by
  have h1:=valN_lt (r:=r) (s:=s) (f:=f) k (fun j hj=>h j (by omega))
  have h2:=h k (by omega)
  rw[valN,Nat.pow_succ]
  have:(valN r s f k+1)*r≤r^k*r:=Nat.mul_le_mul_right _ h1
  rw[Nat.add_mul,Nat.one_mul]at this
  omega
theorem escV_len {s:ByteArray} {p v t:Nat}(h:escV s p=some (v,t)):p+(Lib.encodeRune v).length≤t:=by
 have h0:=escV_gt h
 have hl:=enc_len v
 have hD:∀{r:Nat} {pr:Nat→Bool} {f:Nat},p+1≤f→(∀c,pr c=true→hexB c=true)→r≤16→(∀c,pr c=true→dgv c<r)→escD r pr s f=some (v,t)→p+(Lib.encodeRune v).length≤t:=by
  intro r pr f hpf hpr hr hdg hd
  unfold escD at hd
  split at hd
  ·cases hd
  ·rename_i hn
   split at hd
   ·have hge:=rowE_ge pr s f
    have h4:rowE pr s f≠f:=fun h=>hn (.inl h)
    simp only[Option.some.injEq,Prod.mk.injEq]at hd
    obtain⟨h1,h2⟩:=hd
    by_cases hk:rowE pr s f=f+1
    ·have hs:f<s.size:=by
      rcases Nat.lt_or_ge f s.size with h5|h5
      ·exact h5
      ·exact absurd (rowE_end h5) h4
     have hx:=rowE_all (p:=pr) (s:=s) (a:=f) f hs (nR _) (by omega)
     have hv:valN r s f 1<r^1:=valN_lt 1 (fun j hj=>by
      obtain rfl:j=0:=by omega
      rw[Nat.add_zero,byt_in s f hs,Int.toNat_natCast]
      exact hdg _ hx)
     rw[hk,show f+1-f=1 by omega]at h1
     rw[h1,Nat.pow_one]at hv
     have:=enc_low (v:=v) (by omega)
     omega
    ·omega
   ·cases hd
 unfold escV at h
 split at h
 ·rename_i x hx
  split at hx
  ·simp only[Option.some.injEq,Prod.mk.injEq]at h
   have h5:v<128:=by
    rw[←h.1]
    unfold escL at hx
    repeat' split at hx
    all_goals first|(simp only[Option.some.injEq]at hx;omega)|cases hx
   have:=enc_low h5
   omega
  ·cases hx
 ·split at h
  ·exact hD (by omega) (fun _ h=>h) (by omega) (fun c hc=>by have:=Go.Proofs.hexB_lt hc;omega) h
  ·exact hD (by omega) (fun _ h=>Go.Proofs.octB_hex h) (by omega) (fun c hc=>by
    simp[octB]at hc
    unfold dgv
    rw[if_pos (by omega)]
    omega) h
theorem chv_len {s:ByteArray} {p v n:Nat}(h:ChV s p v n):(Lib.encodeRune v).length=n:=by
 have h0:=h.pos.2
 unfold ChV at h
 have hr:=runeLen_ok h0
 have h2:(Lib.encodeRune v).length=if v<128 then 1 else if v<2048 then 2 else if v<65536 then 3 else 4:=by
  rcases h0.cases with c|c|c|c
  ·rw[enc_bytes,Lib.encodeRuneZ_one c.1 c.2,if_pos (by omega)];rfl
  ·rw[enc_bytes,Lib.encodeRuneZ_two c.1 c.2,if_neg (by omega),if_pos (by omega)];rfl
  ·rw[enc_bytes,Lib.encodeRuneZ_three c,if_neg (by omega),if_neg (by omega),if_pos (by omega)];rfl
  ·rw[enc_bytes,Lib.encodeRuneZ_four c.1 c.2,if_neg (by omega),if_neg (by omega),if_neg (by omega)];rfl
 rw[h2]
 unfold cont at h
 have:=byt_lo s p
 split
 ·omega
 ·split
  ·omega
  ·split<;>omega
end Go.Lx
namespace Go.Proofs
open Go.RowKit Go.Pf Go.Lx Go.Hb Go.Rb Go.Bg
theorem own_b {w w':World} {B:Nat} {v:Value} {n:Nat} {xs:List Value}(h:w.ownsRow B 5 1 v n xs) (hb:Below w.heap.size w w'):w'.ownsRow B 5 1 v n xs:=
 h.kept (row:=none) ⟨hb.os,hb.tape,hb.output,hb.size,fun j hj _=>hb.block j hj⟩ (by cases hv:v.ownBlock<;>simp)
theorem TokEnd.er {R:TR} {w w':World} {p n:Nat}(h:R= .err p n) (hb:Below w.heap.size w w'):TokEnd R w (.returned (.tuple #[badV p,.int .i64 n])) w':=by subst h;exact⟨rfl,hb⟩
theorem TokEnd.ok {R:TR} {w w':World} {k bits a E:Nat} {tx nu:ByteArray}(h:R= .ok k tx nu bits a E) (hb:Below w.heap.size w w'):TokEnd R w (.returned (.tuple #[tokV k tx nu bits a E false,.int .i64 0])) w':=by subst h;exact⟨rfl,hb⟩
theorem own_text0 {w:World} {B n tc:Nat} {ta:Option Addr} {l:List UInt8}(h:w.ownsRow B 5 1 (.slice ta n tc) n (Lib.byteCells l)):
 (convert 48 9 (.slice ta n tc)).run Tryz.prog w= .ok (.string ⟨l.toArray⟩) w:=by
 rcases Nat.eq_zero_or_pos n with h0|h0
 ·have hl:l.length=0:=by have:=h.1;rw[Lib.byteCells_length]at this;omega
  obtain rfl:l= []:=List.eq_nil_of_length_eq_zero hl
  subst h0
  rcases h.2 with⟨h1,h2⟩|⟨g,cap,cur,h1,h2,h3,h4,h5,h6,h7⟩
  ·simp only[Value.slice.injEq]at h1
   obtain⟨rfl,_,rfl⟩:=h1
   show _=_
   kernel_rfl
  ·simp only[Value.slice.injEq]at h1
   obtain⟨rfl,_,rfl⟩:=h1
   rw[run_convert_bytes_arg w 48 5 Tryz.underlying48 Tryz.underlying5 g 0 0 tc [] rfl (fun i hi=>by omega) 9 Tryz.underlying9]
   rfl
 ·obtain⟨t,ht,hc⟩:=own_text h h0
  rw[hc]
  congr 2
  apply ByteArray.ext
  apply Array.toList_inj.1
  rw[ht]
theorem Tryz.rquoted (s:ByteArray) (a:Nat) (w:World) (hs:s.size≤140737488355000) (ha:a<s.size) (hq:byt s a=39∨byt s a=34∨byt s a=96):
 Calls Tryz.prog 58 #[.string s,.int .i64 a] w (TokEnd (quoE s a (byt s a).toNat (a+1) []) w):=by
 obtain⟨i0,hi,hz0,hz1,hz2⟩:=info_parts Tryz.infoU8
 obtain⟨q,hqq⟩:∃q,q=(byt s a).toNat:=⟨_,rfl⟩
 have eq6:s[a].toNat=q:=by rw[hqq,byt_in s a ha,Int.toNat_natCast]
 have hq3:q=39∨q=34∨q=96:=by omega
 rw[←hqq]
 obtain⟨R,hR⟩:∃R,R=quoE s a q (a+1) []:=⟨_,rfl⟩
 rw[←hR]
 have HR:=Hi hR
 have HQ:=Hi hq3
 obtain⟨K,hK⟩:∃K,K=quoK q:=⟨_,rfl⟩
 have HK0:=Hi hK
 have q96:q≤96:=by omega
 clear hR hqq hq hq3 hK
 go_enter Tryz.func58,Tryz.ntmps58
 go_upto_if 20 with fail
 generalize hW:w.alloc _=W1
 have bl:Below w.heap.size w W1:=by subst hW;exact(Below.refl _ _).alloc (nR _) _
 have hk:Tk7 W1 w.heap.size:=by subst hW;exact Tk7.new w
 clear hW eq6
 have BL:=Hi bl
 have HK1:=Hi hk
 clear bl hk
 go_cut [7] (fun v wx=>W1=wx∧v= .int .i64 (if q=34 then 6 else 2:Nat))
 case first=>
  rcases HQ.out with rfl|rfl|rfl
  ·have t:(((39:Nat):Int)==34)=false:=rfl
   go_wp2
   go_meet
   exact⟨rfl,rfl⟩
  ·have t:(((34:Nat):Int)==34)=true:=rfl
   go_wp2
   go_meet
   exact⟨rfl,rfl⟩
  ·have t:(((96:Nat):Int)==34)=false:=rfl
   go_wp2
   go_meet
   exact⟨rfl,rfl⟩
 case rest=>
 obtain⟨rfl,rfl⟩:=hcut
 go_upto_if 22 with fail
 go_cut [7] (fun v wx=>W1=wx∧v= .int .i64 K)
 case first=>
  rcases HQ.out with rfl|rfl|rfl
  ·have t:(((39:Nat):Int)==96)=false:=rfl
   go_wp2
   go_meet
   exact⟨rfl,by rw[HK0.out];rfl⟩
  ·have t:(((34:Nat):Int)==96)=false:=rfl
   go_wp2
   go_meet
   exact⟨rfl,by rw[HK0.out];rfl⟩
  ·have t:(((96:Nat):Int)==96)=true:=rfl
   go_wp2
   go_meet
   exact⟨rfl,by rw[HK0.out];rfl⟩
 case rest=>
 obtain⟨rfl,rfl⟩:=hcut
 obtain⟨B1,hB1⟩:∃B1,B1=W1.heap.size:=⟨_,rfl⟩
 have hwB:w.heap.size<B1:=by rw[hB1];exact HK1.out.lt
 have HB1:=Hi hB1
 clear hB1
 go_wp2
 go_loopw [8,9,10,11,12,13,14,15] (fun out i _ _ _ _ _ _ wr=>∃(p:Nat) (acc:List UInt8),i= .int .i64 p∧p≤s.size∧acc.length≤p∧wr.ownsRow B1 5 1 out acc.length (Lib.byteCells acc)∧Below B1 W1 wr∧B1≤wr.heap.size∧R=quoE s a q p acc) (fun _ i _ _ _ _ _ _ _=>s.size-(intOf i).toNat)
 case atStart=>exact⟨a+1,[],by go_num,by omega,by simp,World.ownsRow_nil _ _ _ _,Below.refl _ _,by rw[HB1.out];exact nR _,HR.out⟩
 case round=>
  obtain⟨p,acc,rfl,hps,hal,hown,hbw,hsw,hinv⟩:=hrel
  obtain⟨oa,oc,ho⟩:=own_slice hown
  subst ho
  have HBL:Hid (Below w.heap.size w wr):=Hi (BL.out.trans (hbw.mono (by omega)))
  have HK:Hid (Tk7 wr w.heap.size):=Hi (HK1.out.below (by rw[←HB1.out];exact hbw))
  by_cases hlt:p<s.size
  ·obtain⟨c,hc⟩:∃c,c=s[p].toNat:=⟨_,rfl⟩
   have e12:s[p].toNat=c:=hc.symm
   have hbp:byt s p=(c:Int):=by rw[byt_in s p hlt,hc]
   obtain⟨d,hd⟩:∃d,d=byt s (p+1):=⟨_,rfl⟩
   have CD:Hid (∀w,Calls Tryz.prog 55 #[.string s,.int .i64 ((p:Int)+1)] w fun e w'=>e= .returned (.int .u8 d)∧w=w'):=Hi (fun w=>by rw[hd];exact Tryz.byteA s (p+1) w)
   have CC0:∀w,Calls Tryz.prog 32 #[.string s,.int .i64 p] w fun e w'=>e= .returned (.tuple #[.int .i64 (chP s p).1,.int .i64 (chP s p).2])∧w=w':=fun w=>Tryz.charD s p w (by omega)
   unfold chP at CC0
   have HD:=Hi hd
   rcases chD_cases s p with⟨v,n,hcv,hcd⟩|⟨hno,hcd⟩
   ·rw[hcd]at CC0
    have CC:Hid (∀w,Calls Tryz.prog 32 #[.string s,.int .i64 p] w fun e w'=>e= .returned (.tuple #[.int .i64 v,.int .i64 n])∧w=w'):=Hi CC0
    have h1:=hcv.size
    have h2:=hcv.last
    have hok:=hcv.pos.2
    have hlen:=chv_len hcv
    have hvc:(v=c∧n=1)∨(128≤c∧128≤v):=by
     by_cases h:c<128
     ·have:=hcv.unique (chv_one hlt (by omega))
      omega
     ·right
      unfold ChV at hcv
      omega
    have n0:((n:Int)==0)=false:=beq_of_ne (by omega)
    have hc255:c≤255:=by have:=byt_hi s p;omega
    have HINV:=Hi hinv
    have HCD:=Hi hcd
    have HV:=Hi hvc
    clear hcv CC0 hinv hcd hvc hc hbp hd h1
    by_cases c10:c=10
    ·have t1:((c:Int)==10)=true:=beq_of_eq (by omega)
     have HF:Hid (R= .err a 31):=Hi (by rw[HINV.out];exact quo_nl hlt HCD.out (by have:=HV.out;omega))
     clear hok hlen c10 hbw hown
     go_wp2_with (first
      | (go_at_call 32;(with_reducible refine(CC.out _).mono ?_);rintro e w' ⟨rfl,rfl⟩)
      | (go_at_call 55;(with_reducible refine(CD.out _).mono ?_);rintro e w' ⟨rfl,rfl⟩))
     refine(Tryz.rbad a 31 _).mono ?_
     rintro e W4 ⟨rfl,b4⟩
     unfold badV tokV
     have hk4:=HK.out.below b4
     obtain⟨k0,k1,k2,k3,k4,k5,k6⟩:=hk4.cs
     obtain⟨f0,f1,f2,f3,f4,f5,f6⟩:=hk4.fs
     have HB:=Hi (HBL.out.trans (b4.mono HBL.out.size))
     clear b4 hk4
     go_wp2
     refine bodyPost_ret (v:= .tuple #[badV a,.int .i64 31]) ?_ rfl (TokEnd.er HF.out ?_)
     ·simp only[results,Tryz.results58]
      go_simp
      rfl
     ·iterate 7 refine Below.setCell ?_ (by first|omega|(simp only;omega)) _
      exact HB.out
    have t1:((c:Int)==10)=false:=beq_of_ne (by omega)
    by_cases cq:c=q
    ·have t2:((c:Int)==(q:Int))=true:=beq_of_eq (by omega)
     have hv10:v≠10:=by have:=HV.out;omega
     have hvq:v=q:=by have:=HV.out;omega
     by_cases hdd:d=q∧p+1<s.size
     ·have t3:(d==(q:Int))=true:=beq_of_eq hdd.1
      have t4:(p:Int)+1<s.size:=by omega
      have hp2:p+2≤s.size:=by omega
      have HF:Hid (R=quoE s a q (p+2) (acc++ [q.toUInt8])):=Hi (by rw[HINV.out];exact quo_dbl hlt HCD.out hv10 hvq ⟨by rw[←HD.out];exact hdd.1,hdd.2⟩)
      have hoa:=fun b hb=>(hown.lt b hb).1
      have HOA:=Hi hoa
      clear hok hlen c10 cq hv10 hvq hdd hoa
      go_wp2_with (first
       | (go_at_call 32;(with_reducible refine(CC.out _).mono ?_);rintro e w' ⟨rfl,rfl⟩)
       | (go_at_call 55;(with_reducible refine(CD.out _).mono ?_);rintro e w' ⟨rfl,rfl⟩)
       | (at_builtin;refine wpList_append_own _ rfl _ _ 48 rfl B1 5 i0 (.int .u8 0) 1 1 Tryz.underlying48 hi hz0 hz1 hz2 rfl (by decide) _ _ _ rfl (hown.alloc _) ⟨wr.heap.size,0,none⟩ 1 1 [.int .u8 (q:Nat)] rfl rfl ?c1 ?c2 ?c3 ?c4 ?c5 ?_))
      case c1=>
       intro j u hj
       match j,hj with
       |0,hj=>simp at hj;subst hj;simp[Addr.add]
      case c2=>intro u hu;simp at hu;subst hu;rfl
      case c3=>unfold maxLen;omega
      case c4=>omega
      case c5=>simp;omega
      intro v' w3 hown' hgrow _
      have hb3:=(hbw.alloc hsw (.cells #[.int .u8 (q:Nat)] 5)).grown hgrow (by simp;omega) (fun b hb=>HOA.out b hb)
      have hs3:B1≤w3.heap.size:=by have:=hgrow.size;simp at this;omega
      have hcell:Lib.byteCells (acc++ [q.toUInt8])=Lib.byteCells acc++ [.int .u8 (q:Nat)]:=by
       have:q.toUInt8.toNat=q:=toU q (by omega)
       simp[Lib.byteCells,this]
      have HO:=Hi (show w3.ownsRow B1 5 1 v' (acc++ [q.toUInt8]).length (Lib.byteCells (acc++ [q.toUInt8])) by rw[List.length_append,hcell];exact hown')
      have HB3:=Hi hb3
      have HL2:Hid ((acc++ [q.toUInt8]).length≤p+2):=Hi (by rw[List.length_append,List.length_singleton];omega)
      clear hown' hgrow hb3 hown hbw hcell
      go_wp2
      go_roundw
      case rel=>exact⟨p+2,acc++ [q.toUInt8],by go_num,by omega,HL2.out,HO.out,HB3.out,hs3,HF.out⟩
      case measure=>simp[intOf];omega
     ·have q2:((d==(q:Int))=false)∨((d==(q:Int))=true∧¬(p:Int)+1<s.size):=by
       by_cases h:d=q
       ·exact .inr ⟨beq_of_eq h,fun h2=>hdd ⟨h,by omega⟩⟩
       ·exact .inl (beq_of_ne h)
      have hdd2:¬(byt s (p+1)=q∧p+1<s.size):=by rw[←HD.out];exact hdd
      by_cases hlong:q=39∧1000<acc.length
      ·have HF:Hid (R= .err a 35):=Hi (by rw[HINV.out];exact quo_long hlt HCD.out hv10 hvq hdd2 hlong)
       have k2:((K:Int)==2)=true:=by rw[HK0.out,hlong.1];rfl
       have k3:decide (1000<acc.length)=true:=decide_eq_true hlong.2
       have k4:(1000:Int)<acc.length:=by omega
       clear hok hlen c10 cq hv10 hvq hdd hdd2 hlong hbw hown
       rcases q2 with q3|⟨q3,q4⟩
       all_goals
        go_wp2_with (first
         | (go_at_call 32;(with_reducible refine(CC.out _).mono ?_);rintro e w' ⟨rfl,rfl⟩)
         | (go_at_call 55;(with_reducible refine(CD.out _).mono ?_);rintro e w' ⟨rfl,rfl⟩))
        refine(Tryz.rbad a 35 _).mono ?_
        rintro e W4 ⟨rfl,b4⟩
        unfold badV tokV
        have hk4:=HK.out.below b4
        obtain⟨k0,k1,k2,k3,k4,k5,k6⟩:=hk4.cs
        obtain⟨f0,f1,f2,f3,f4,f5,f6⟩:=hk4.fs
        have HB:=Hi (HBL.out.trans (b4.mono HBL.out.size))
        clear b4 hk4
        go_wp2
        refine bodyPost_ret (v:= .tuple #[badV a,.int .i64 35]) ?_ rfl (TokEnd.er HF.out ?_)
        ·simp only[results,Tryz.results58]
         go_simp
         rfl
        ·iterate 7 refine Below.setCell ?_ (by first|omega|(simp only;omega)) _
         exact HB.out
      ·have HF:Hid (R= .ok K ⟨acc.toArray⟩ ⟨#[]⟩ 0 a (p+1)):=Hi (by rw[HINV.out,HK0.out];exact quo_fin hlt HCD.out hv10 hvq hdd2 hlong)
       have k2:((K:Int)==2)=false∨(((K:Int)==2)=true∧¬(1000:Int)<acc.length):=by
        rcases HQ.out with rfl|rfl|rfl
        ·right
         exact⟨by rw[HK0.out];rfl,fun h=>hlong ⟨rfl,by omega⟩⟩
        ·left;rw[HK0.out];rfl
        ·left;rw[HK0.out];rfl
       have hcv:=own_text0 hown
       obtain⟨E,hE⟩:∃E,E=p+1:=⟨_,rfl⟩
       have ee:(p:Int)+1=E:=by omega
       rw[←hE]at HF
       clear hok hlen c10 cq hv10 hvq hdd hdd2 hlong hbw hE hown
       obtain⟨k0',k1',k2',k3',k4',k5',k6'⟩:=HK.out.cs
       obtain⟨f0,f1,f2,f3,f4,f5,f6⟩:=HK.out.fs
       rw[ee]at CD
       rcases q2 with q3|⟨q3,q4⟩
       all_goals
        try rw[ee]at q4
        rcases k2 with k2|⟨k2,k3⟩
       all_goals
        go_wp2_with (first
         | (go_at_call 32;(with_reducible refine(CC.out _).mono ?_);rintro e w' ⟨rfl,rfl⟩)
         | (go_at_call 55;(with_reducible refine(CD.out _).mono ?_);rintro e w' ⟨rfl,rfl⟩))
        refine bodyPost_ret (v:= .tuple #[tokV K ⟨acc.toArray⟩ ⟨#[]⟩ 0 a E false,.int .i64 0]) ?_ rfl (TokEnd.ok HF.out ?_)
        ·simp only[results,Tryz.results58]
         go_simp
         rfl
        ·iterate 7 refine Below.setCell ?_ (by first|omega|(simp only;omega)) _
         exact HBL.out
    have t2:((c:Int)==(q:Int))=false:=beq_of_ne (by omega)
    have hv10:v≠10:=by have:=HV.out;omega
    have hvq:v≠q:=by have:=HV.out;omega
    by_cases c92:c=92
    ·have t3:((c:Int)==92)=true:=beq_of_eq (by omega)
     have hv92:v=92:=by have:=HV.out;omega
     by_cases hd10:d=10
     ·have t4:(d==10)=true:=beq_of_eq hd10
      have HF:Hid (R=quoE s a q (p+2) acc):=Hi (by rw[HINV.out];exact quo_cont hlt HCD.out hvq hv92 (by rw[←HD.out];exact hd10))
      have hp2:p+2≤s.size:=by
       rcases Nat.lt_or_ge (p+1) s.size with h|h
       ·omega
       ·have h3:=HD.out
        rw[byt_out s (p+1) h]at h3
        omega
      have HO:=Hi hown
      have HB3:=Hi hbw
      clear hok hlen c10 cq hv10 hvq c92 hv92 hd10 hown hbw
      go_wp2_with (first
       | (go_at_call 32;(with_reducible refine(CC.out _).mono ?_);rintro e w' ⟨rfl,rfl⟩)
       | (go_at_call 55;(with_reducible refine(CD.out _).mono ?_);rintro e w' ⟨rfl,rfl⟩))
      go_roundw
      case rel=>exact⟨p+2,acc,by go_num,hp2,by omega,HO.out,HB3.out,hsw,HF.out⟩
      case measure=>simp[intOf];omega
     ·have t4:(d==10)=false:=beq_of_ne hd10
      have hd2:byt s (p+1)≠10:=by rw[←HD.out];exact hd10
      have CE:=fun w=>Tryz.rescape s p w (by omega) (by omega)
      cases he:escV s p with
      |none=>
       rw[he]at CE
       have CE2:Hid (∀w,Calls Tryz.prog 85 #[.string s,.int .i64 p] w fun e w'=>∃x t:Int,e= .returned (.tuple #[.int .i64 x,.int .i64 t,.bool false])∧Below w.heap.size w w'):=Hi (fun w=>(CE w).mono fun _ _ ⟨⟨x,t,h⟩,hb⟩=>⟨x,t,h,hb⟩)
       have HF:Hid (R= .err p 32):=Hi (by rw[HINV.out];exact quo_no hlt HCD.out hvq hv92 hd2 he)
       clear hok hlen c10 cq hv10 hvq c92 hv92 hd10 hd2 CE he hown hbw
       go_wp2_with (first
        | (go_at_call 32;(with_reducible refine(CC.out _).mono ?_);rintro e w' ⟨rfl,rfl⟩)
        | (go_at_call 55;(with_reducible refine(CD.out _).mono ?_);rintro e w' ⟨rfl,rfl⟩))
       refine(CE2.out _).mono ?_
       rintro e W2 ⟨x,t,rfl,b2⟩
       have hk2:=Hi (HK.out.below b2)
       have hbl2:=Hi (HBL.out.trans (b2.mono HBL.out.size))
       clear b2 HK HBL
       have HK:=hk2
       have HBL:=hbl2
       clear hk2 hbl2
       go_wp2_with fail
       refine(Tryz.rbad p 32 _).mono ?_
       rintro e W4 ⟨rfl,b4⟩
       unfold badV tokV
       have hk4:=HK.out.below b4
       obtain⟨k0,k1,k2,k3,k4,k5,k6⟩:=hk4.cs
       obtain⟨f0,f1,f2,f3,f4,f5,f6⟩:=hk4.fs
       have HB:=Hi (HBL.out.trans (b4.mono HBL.out.size))
       clear b4 hk4
       go_wp2
       refine bodyPost_ret (v:= .tuple #[badV p,.int .i64 32]) ?_ rfl (TokEnd.er HF.out ?_)
       ·simp only[results,Tryz.results58]
        go_simp
        rfl
       ·iterate 7 refine Below.setCell ?_ (by first|omega|(simp only;omega)) _
        exact HB.out
      |some xt=>
       obtain⟨x,t⟩:=xt
       rw[he]at CE
       have CE2:Hid (∀w,Calls Tryz.prog 85 #[.string s,.int .i64 p] w fun e w'=>e= .returned (.tuple #[.int .i64 x,.int .i64 t,.bool true])∧Below w.heap.size w w'):=Hi (fun w=>(CE w).mono fun _ _ ⟨h,hb⟩=>⟨h,hb⟩)
       have HF:Hid (R=quoE s a q t (acc++Lib.encodeRune x)):=Hi (by rw[HINV.out];exact quo_esc hlt HCD.out hvq hv92 hd2 he)
       have hx:=escV_gt he
       have hx2:=escV_len he
       have CU:Hid (∀w,Calls Tryz.prog 23 #[.int .i64 x] w (UtfSays x w)):=Hi (fun w=>Tryz.utf x w hx.2.2)
       obtain⟨L,hL⟩:∃L,L=(Lib.encodeRune x).length:=⟨_,rfl⟩
       have HL:Hid ((Lib.encodeRune x).length=L):=Hi hL.symm
       have CU:Hid (∀w,Calls Tryz.prog 23 #[.int .i64 x] w fun e w'=>e= .returned (.slice (some ⟨w.heap.size,0,none⟩) L L)∧RowIs w' w.heap.size L 5 (fun j=> .int .u8 (((Lib.encodeRune x).getD j 0).toNat:Nat))∧Below w.heap.size w w'):=Hi (fun w=>by rw[hL];exact CU.out w)
       have hL4:=(enc_len x).2
       rw[←hL]at hx2 hL4
       have ht1:=hx.1
       have ht2:=hx.2.1
       have x2:x≤1114111:=by have:=hx.2.2;unfold okRune at this;omega
       clear hok hlen c10 cq hv10 hvq c92 hv92 hd10 hd2 CE he hx hL
       go_wp2_with (first
        | (go_at_call 32;(with_reducible refine(CC.out _).mono ?_);rintro e w' ⟨rfl,rfl⟩)
        | (go_at_call 55;(with_reducible refine(CD.out _).mono ?_);rintro e w' ⟨rfl,rfl⟩))
       refine(CE2.out _).mono ?_
       rintro e W2 ⟨rfl,b2⟩
       obtain⟨wr,rfl⟩:∃wr:World,wr=W2:=⟨_,rfl⟩
       have hown:=own_b hown b2
       have hbw:=hbw.trans (b2.mono hsw)
       have hsw:=Nat.le_trans hsw b2.size
       clear b2
       go_wp2_with fail
       refine(CU.out _).mono ?_
       rintro e w2 ⟨rfl,hrow,hb2⟩
       have hown2:=own_b hown hb2
       have hbw2:=hbw.trans (hb2.mono hsw)
       have HRW:=Hi hrow
       have hsz2:=hb2.size
       have hoa:=fun b hb=>(hown2.lt b hb).1
       have HOA:=Hi hoa
       clear hrow hoa hb2 hown hbw
       go_wp2_with (at_builtin;refine wpList_append_own _ rfl _ _ 48 rfl B1 5 i0 (.int .u8 0) 1 1 Tryz.underlying48 hi hz0 hz1 hz2 rfl (by decide) _ _ _ rfl hown2 ⟨wr.heap.size,0,none⟩ L L (Lib.byteCells (Lib.encodeRune x)) rfl (by rw[Lib.byteCells_length,Nat.mul_one,HL.out]) ?d1 ?d2 ?d3 ?d4 ?d5 ?_)
       case d1=>
        intro j u hj
        have hjl:j<L:=by
         have:=(List.getElem?_eq_some_iff.1 hj).1
         rw[Lib.byteCells_length]at this
         have:=HL.out
         omega
        have e:(⟨wr.heap.size,0,none⟩:Addr).add j=⟨wr.heap.size,j,none⟩:=by unfold Addr.add;split<;>simp_all
        rw[e,HRW.out.cell hjl]
        unfold Lib.byteCells at hj
        rw[List.getElem?_map]at hj
        rw[←hj,List.getD_eq_getElem?_getD]
        rw[List.getElem?_eq_getElem (by have:=HL.out;omega)]
        rfl
       case d2=>
        intro u hu
        unfold Lib.byteCells at hu
        obtain⟨x,-,rfl⟩:=List.mem_map.1 hu
        rfl
       case d3=>unfold maxLen;omega
       case d4=>omega
       case d5=>omega
       intro v' w3 hown' hgrow _
       have hb3:=hbw2.grown hgrow (by omega) (fun b hb=>HOA.out b hb)
       have hs3:=hgrow.size
       rw[←Lib.byteCells_append,←HL.out]at hown'
       have HO:=Hi (show w3.ownsRow B1 5 1 v' (acc++Lib.encodeRune x).length (Lib.byteCells (acc++Lib.encodeRune x)) by rw[List.length_append];exact hown')
       have HB3:=Hi hb3
       have HL2:Hid ((acc++Lib.encodeRune x).length≤t):=Hi (by rw[List.length_append,HL.out];omega)
       clear hown' hgrow hb3 hown2 hbw2
       go_wp2
       go_roundw
       case rel=>exact⟨t,acc++Lib.encodeRune x,by go_num,by omega,HL2.out,HO.out,HB3.out,by omega,HF.out⟩
       case measure=>simp[intOf];omega
    ·have t3:((c:Int)==92)=false:=beq_of_ne (by omega)
     have hv92:v≠92:=by have:=HV.out;omega
     have HF:Hid (R=quoE s a q (p+n) (acc++Lib.encodeRune v)):=Hi (by rw[HINV.out];exact quo_chr hlt HCD.out hv10 hvq hv92)
     have CU0:Hid (∀w,Calls Tryz.prog 23 #[.int .i64 v] w (UtfSays v w)):=Hi (fun w=>Tryz.utf v w hok)
     have v2:v≤1114111:=by unfold okRune at hok;omega
     have HL:Hid ((Lib.encodeRune v).length=n):=Hi hlen
     have CU:Hid (∀w,Calls Tryz.prog 23 #[.int .i64 v] w fun e w'=>e= .returned (.slice (some ⟨w.heap.size,0,none⟩) n n)∧RowIs w' w.heap.size n 5 (fun j=> .int .u8 (((Lib.encodeRune v).getD j 0).toNat:Nat))∧Below w.heap.size w w'):=Hi (fun w=>by rw[←hlen];exact CU0.out w)
     have hn1:1≤n:=by have:=enc_len v;omega
     have hn4:n≤4:=by have:=enc_len v;omega
     obtain⟨L,hL⟩:∃L,L=n:=⟨_,rfl⟩
     obtain rfl:=hL
     clear hok hlen c10 cq hv10 hvq c92 hv92 CU0
     go_wp2_with (first
      | (go_at_call 32;(with_reducible refine(CC.out _).mono ?_);rintro e w' ⟨rfl,rfl⟩)
      | (go_at_call 55;(with_reducible refine(CD.out _).mono ?_);rintro e w' ⟨rfl,rfl⟩))
     refine(CU.out _).mono ?_
     rintro e w2 ⟨rfl,hrow,hb2⟩
     have hown2:=own_b hown hb2
     have hbw2:=hbw.trans (hb2.mono hsw)
     have HRW:=Hi hrow
     have hsz2:=hb2.size
     have hoa:=fun b hb=>(hown2.lt b hb).1
     have HOA:=Hi hoa
     clear hrow hoa hb2 hown hbw
     go_wp2_with (at_builtin;refine wpList_append_own _ rfl _ _ 48 rfl B1 5 i0 (.int .u8 0) 1 1 Tryz.underlying48 hi hz0 hz1 hz2 rfl (by decide) _ _ _ rfl hown2 ⟨wr.heap.size,0,none⟩ L L (Lib.byteCells (Lib.encodeRune v)) rfl (by rw[Lib.byteCells_length,Nat.mul_one,HL.out]) ?g1 ?g2 ?g3 ?g4 ?g5 ?_)
     case g1=>
      intro j u hj
      have hjl:j<L:=by
       have:=(List.getElem?_eq_some_iff.1 hj).1
       rw[Lib.byteCells_length]at this
       have:=HL.out
       omega
      have e:(⟨wr.heap.size,0,none⟩:Addr).add j=⟨wr.heap.size,j,none⟩:=by unfold Addr.add;split<;>simp_all
      rw[e,HRW.out.cell hjl]
      unfold Lib.byteCells at hj
      rw[List.getElem?_map]at hj
      rw[←hj,List.getD_eq_getElem?_getD]
      rw[List.getElem?_eq_getElem (by have:=HL.out;omega)]
      rfl
     case g2=>
      intro u hu
      unfold Lib.byteCells at hu
      obtain⟨x,-,rfl⟩:=List.mem_map.1 hu
      rfl
     case g3=>unfold maxLen;omega
     case g4=>omega
     case g5=>omega
     intro v' w3 hown' hgrow _
     have hb3:=hbw2.grown hgrow (by omega) (fun b hb=>HOA.out b hb)
     have hs3:=hgrow.size
     rw[←Lib.byteCells_append,←HL.out]at hown'
     have HO:=Hi (show w3.ownsRow B1 5 1 v' (acc++Lib.encodeRune v).length (Lib.byteCells (acc++Lib.encodeRune v)) by rw[List.length_append];exact hown')
     have HB3:=Hi hb3
     have HL2:Hid ((acc++Lib.encodeRune v).length≤(p+L)):=Hi (by rw[List.length_append,HL.out];omega)
     clear hown' hgrow hb3 hown2 hbw2
     go_wp2
     go_roundw
     case rel=>exact⟨(p+L),acc++Lib.encodeRune v,by go_num,by omega,HL2.out,HO.out,HB3.out,by omega,HF.out⟩
     case measure=>simp[intOf];omega
   ·rw[hcd]at CC0
    have CC:Hid (∀w,Calls Tryz.prog 32 #[.string s,.int .i64 p] w fun e w'=>e= .returned (.tuple #[.int .i64 (0:Nat),.int .i64 (0:Nat)])∧w=w'):=Hi CC0
    have HF:Hid (R= .err p 30):=Hi (by rw[hinv];exact quo_bad hlt hcd)
    have n0:(((0:Nat):Int)==0)=true:=rfl
    clear hno CC0 hinv hcd hc hbp hd hbw hown
    go_wp2_with (first
     | (go_at_call 32;(with_reducible refine(CC.out _).mono ?_);rintro e w' ⟨rfl,rfl⟩)
     | (go_at_call 55;(with_reducible refine(CD.out _).mono ?_);rintro e w' ⟨rfl,rfl⟩))
    refine(Tryz.rbad p 30 _).mono ?_
    rintro e W4 ⟨rfl,b4⟩
    unfold badV tokV
    have hk4:=HK.out.below b4
    obtain⟨k0,k1,k2,k3,k4,k5,k6⟩:=hk4.cs
    obtain⟨f0,f1,f2,f3,f4,f5,f6⟩:=hk4.fs
    have HB:=Hi (HBL.out.trans (b4.mono HBL.out.size))
    clear b4 hk4
    go_wp2
    refine bodyPost_ret (v:= .tuple #[badV p,.int .i64 30]) ?_ rfl (TokEnd.er HF.out ?_)
    ·simp only[results,Tryz.results58]
     go_simp
     rfl
    ·iterate 7 refine Below.setCell ?_ (by first|omega|(simp only;omega)) _
     exact HB.out
  ·have HF:Hid (R= .err a 31):=Hi (by rw[hinv];exact quo_out (by omega))
   clear hinv hbw hown
   go_wp2_with fail
   refine(Tryz.rbad a 31 _).mono ?_
   rintro e W4 ⟨rfl,b4⟩
   unfold badV tokV
   have hk4:=HK.out.below b4
   obtain⟨k0,k1,k2,k3,k4,k5,k6⟩:=hk4.cs
   obtain⟨f0,f1,f2,f3,f4,f5,f6⟩:=hk4.fs
   have HB:=Hi (HBL.out.trans (b4.mono HBL.out.size))
   clear b4 hk4
   go_wp2
   refine bodyPost_ret (v:= .tuple #[badV a,.int .i64 31]) ?_ rfl (TokEnd.er HF.out ?_)
   ·simp only[results,Tryz.results58]
    go_simp
    rfl
   ·iterate 7 refine Below.setCell ?_ (by first|omega|(simp only;omega)) _
    exact HB.out
end Go.Proofs
