import Derived.Test.YtnipmfaikiaipaaGreatDoorTbf
import Derived.Test.YtnipmfaikiaipaaGreatDoorTbg
import Derived.Test.YtnipmfaikiaipaaGreatDoorTbi
import Derived.Test.YtnipmfaikiaipaaGreatDoorTaa
set_option maxRecDepth 1000000
set_option maxHeartbeats 40000000
namespace Go.Proofs
open Go.RowKit Go.Pf Go.Lx Go.Hb Go.Rb Go.Bg
theorem TokpEnd.open' {R:TR} {W W':World} {e:Ending}(h:TokpEnd R W e W'):∃(k:Int) (tx nu:ByteArray) (bits at_ en:Int) (ly:Bool) (p n:Int),e= .returned (.tuple #[tokV k tx nu bits at_ en ly,.int .i64 p,.int .i64 n])∧(∀w w',Below w.heap.size w w'→TokpEnd R w (.returned (.tuple #[tokV k tx nu bits at_ en ly,.int .i64 p,.int .i64 n])) w')∧Below W.heap.size W W':=by
 obtain⟨h1,h2⟩:=h
 cases R with
 |ok k tx nu bits a en=>exact⟨_,_,_,_,_,_,_,_,_,h1,fun w w' hb=>⟨rfl,hb⟩,h2⟩
 |err p n=>
  obtain⟨k,tx,nu,bits,at_,en,ly,h1⟩:=h1
  exact⟨_,_,_,_,_,_,_,_,_,h1,fun w w' hb=>⟨⟨_,_,_,_,_,_,_,rfl⟩,hb⟩,h2⟩
theorem ChpEnd.open' {R:TR} {W W':World} {e:Ending}(h:ChpEnd (some R) W e W'):∃(k:Int) (tx nu:ByteArray) (bits at_ en:Int) (ly:Bool) (p n:Int),e= .returned (.tuple #[tokV k tx nu bits at_ en ly,.int .i64 p,.int .i64 n,.bool true])∧(∀w w',Below w.heap.size w w'→TokpEnd R w (.returned (.tuple #[tokV k tx nu bits at_ en ly,.int .i64 p,.int .i64 n])) w')∧Below W.heap.size W W':=by
 obtain⟨h1,h2⟩:=h
 cases R with
 |ok k tx nu bits a en=>exact⟨_,_,_,_,_,_,_,_,_,h1,fun w w' hb=>⟨rfl,hb⟩,h2⟩
 |err p n=>
  obtain⟨k,tx,nu,bits,at_,en,ly,h1⟩:=h1
  exact⟨_,_,_,_,_,_,_,_,_,h1,fun w w' hb=>⟨⟨_,_,_,_,_,_,_,rfl⟩,hb⟩,h2⟩
theorem ChpEnd.none' {W W':World} {e:Ending}(h:ChpEnd none W e W'):∃(k:Int) (tx nu:ByteArray) (bits at_ en:Int) (ly:Bool),e= .returned (.tuple #[tokV k tx nu bits at_ en ly,.int .i64 0,.int .i64 0,.bool false])∧Below W.heap.size W W':=by
 obtain⟨⟨k,tx,nu,bits,at_,en,ly,h1⟩,h2⟩:=h
 exact⟨_,_,_,_,_,_,_,h1,h2⟩
structure NW (w:World) (b:Nat) (s:ByteArray) (a:Nat) (W:World):Prop where
 f:FW w b s a W
 ld:Laid0 W
theorem NW.call {w:World} {b:Nat} {s:ByteArray} {a:Nat} {W W':World}(h:NW w b s a W) (hbw:b<w.heap.size) (hb:Below W.heap.size W W'):NW w b s a W':=⟨h.f.call hbw hb,h.ld.below hb⟩
theorem NW.drewN {w:World} {b:Nat} {s:ByteArray} {a:Nat} {W:World}(h:NW w b s a W) (n:Nat):NW w b s a (W.drewN n):=⟨h.f.drewN n,h.ld.drewN n⟩
theorem hex_of_dig {c:Nat}(h:digB c=true):hexB c=true:=by simp[hexB,h]
theorem hex_of_oct {c:Nat}(h:octB c=true):hexB c=true:=by simp[octB]at h;simp[hexB,digB];omega
theorem hex_of_bin {c:Nat}(h:binB c=true):hexB c=true:=by simp[binB]at h;simp[hexB,digB];omega
theorem row_dgv {p:Nat→Bool} {s:ByteArray} {f r t:Nat}(hp:∀c,p c=true→dgv c<r) (hx:∀c,p c=true→hexB c=true) (hf:f≤s.size) (ht:t=rowE p s f):∀k,f≤k→k<t→hexB (byt s k).toNat=true∧dgv (byt s k).toNat<r:=by
 intro k h1 h2
 have h3:=rowE_le p s f hf
 have h4:p (byt s k).toNat=true:=by
  rw[byt_in s k (by omega),Int.toNat_natCast]
  exact rowE_all (a:=f) k (by omega) h1 (by omega)
 exact⟨hx _ h4,hp _ h4⟩
theorem chr_fit {s:ByteArray} {a:Nat}(h:¬(byt s a=48∧byt s (a+1)=39)):chrR s a=none:=by
 unfold chrR
 by_cases h1:byt s a=48
 ·rw[if_pos (.inr (.inl (fun h2=>h ⟨h1,h2⟩)))]
 ·rw[if_pos (.inl h1)]
theorem num_chr {s:ByteArray} {a:Nat} {R:TR}(h:chrR s a=some R):numR s a=R:=by unfold numR;rw[h]
def numD (s:ByteArray) (a:Nat):Prop:=byt s (rowE digB s a)=46∧digB (byt s (rowE digB s a+1)).toNat=true
instance (s:ByteArray) (a:Nat):Decidable (numD s a):=by unfold numD;exact inferInstance
theorem num_rad {s:ByteArray} {a:Nat}(h0:byt s a=48){c r:Nat} {p:Nat→Bool}(hc:(c=98∧r=2∧p=binB)∨(c=111∧r=8∧p=octB)∨(c=120∧r=16∧p=hexB)) (h1:byt s (a+1)=c):
 numR s a=if a+2<rowE p s (a+2)then intR s a (a+2) (rowE p s (a+2)) r else if numD s a then fltR s a (rowE digB s a)else intR s a a (rowE digB s a) 10:=by
 unfold numR
 rw[chr_fit (by omega)]
 simp only
 unfold numD
 rcases hc with⟨rfl,rfl,rfl⟩|⟨rfl,rfl,rfl⟩|⟨rfl,rfl,rfl⟩
 ·by_cases h:a+2<rowE binB s (a+2)
  ·rw[if_pos ⟨h0,h1,h⟩,if_pos h]
  ·rw[if_neg (fun k=>h k.2.2),if_neg h,if_neg (fun k=>by have:=k.2.1;omega),if_neg (fun k=>by have:=k.2.1;omega)]
 ·rw[if_neg (fun k=>by have:=k.2.1;omega)]
  by_cases h:a+2<rowE octB s (a+2)
  ·rw[if_pos ⟨h0,h1,h⟩,if_pos h]
  ·rw[if_neg (fun k=>h k.2.2),if_neg h,if_neg (fun k=>by have:=k.2.1;omega)]
 ·rw[if_neg (fun k=>by have:=k.2.1;omega),if_neg (fun k=>by have:=k.2.1;omega)]
  by_cases h:a+2<rowE hexB s (a+2)
  ·rw[if_pos ⟨h0,h1,h⟩,if_pos h]
  ·rw[if_neg (fun k=>h k.2.2),if_neg h]
theorem num_dec {s:ByteArray} {a:Nat}(h:chrR s a=none) (h2:¬(byt s a=48∧(byt s (a+1)=98∨byt s (a+1)=111∨byt s (a+1)=120))):
 numR s a=if numD s a then fltR s a (rowE digB s a)else intR s a a (rowE digB s a) 10:=by
 unfold numR
 rw[h]
 simp only
 unfold numD
 rw[if_neg (fun k=>h2 ⟨k.1,.inl k.2.1⟩),if_neg (fun k=>h2 ⟨k.1,.inr (.inl k.2.1)⟩),if_neg (fun k=>h2 ⟨k.1,.inr (.inr k.2.1)⟩)]
theorem num_key {s:ByteArray} {a P P1:Nat}(h1:P1=P+1) (hP:P=rowE digB s a) (h:¬numD s a):
 (∃(l2:P1<s.size) (l3:P<s.size),(P1:Int)<s.size∧(P:Int)<s.size∧((s[P].toNat:Int)==46)=true∧Hid (∀w,Calls Tryz.prog 71 #[.int .u8 s[P1].toNat] w (PredSays false w)))∨(∃(_:P1<s.size) (l3:P<s.size),(P1:Int)<s.size∧(P:Int)<s.size∧((s[P].toNat:Int)==46)=false)∨¬(P1:Int)<s.size:=by
 unfold numD at h
 rw[←hP,←h1]at h
 by_cases hl:P1<s.size
 ·have l3:P<s.size:=by omega
  rw[byt_in s P l3,byt_in s P1 hl,Int.toNat_natCast]at h
  by_cases h46:(s[P].toNat:Int)=46
  ·have hd:digB s[P1].toNat=false:=by
    cases hx:digB s[P1].toNat with
    |false=>rfl
    |true=>exact absurd ⟨h46,hx⟩ h
   exact .inl ⟨hl,l3,by omega,by omega,beq_of_eq h46,Hi (fun w=>by rw[←hd];exact Tryz.pdigit _ w)⟩
  ·exact .inr (.inl ⟨hl,l3,by omega,by omega,beq_of_ne h46⟩)
 ·exact .inr (.inr (by omega))
theorem num_key2 {s:ByteArray} {P P1:Nat}(h1:P1=P+1) (h:¬byt s P=46):(∃(_:P1<s.size) (l3:P<s.size),(P1:Int)<s.size∧(P:Int)<s.size∧((s[P].toNat:Int)==46)=false)∨¬(P1:Int)<s.size:=by
 by_cases hl:P1<s.size
 ·have l3:P<s.size:=by omega
  rw[byt_in s P l3]at h
  exact .inl ⟨hl,l3,by omega,by omega,beq_of_ne h⟩
 ·exact .inr (by omega)
theorem row_one {s:ByteArray} {a:Nat}(ha:a<s.size) (h1:digB (byt s a).toNat=true) (h2:digB (byt s (a+1)).toNat=false):rowE digB s a=a+1:=by
 rw[byt_in s a ha,Int.toNat_natCast]at h1
 rw[rowE_step ha h1]
 exact(row_none rfl).2 h2
structure NmH (b:Nat) (s:ByteArray) (a:Nat) (w:World) (R:TR) (P P1 a1 a2:Nat) (d:ByteArray):Prop where
 hs:s.size≤100000000
 ha:a<s.size
 hdig:Hid (digB (byt s a).toNat=true)
 hb:b<w.heap.size
 HR:Hid (R=numR s a)
 HPE:Hid (P=rowE digB s a)
 hPs:P≤s.size
 hPa:a<P
 HP:Hid (∀k,a≤k→k<P→hexB (byt s k).toNat=true∧dgv (byt s k).toNat<10)
 HP1:Hid (P1=P+1)
 eP1:(P:Int)+1=P1
 HA1:Hid (a1=a+1)
 ea1:(a:Int)+1=a1
 HA2:Hid (a2=a+2)
 ea2:(a:Int)+2=a2
 bP1:P1≤100000001
 ba2:a2≤100000001
 ai:(a:Int)<s.size
 CP1:Hid (∀w,Calls Tryz.prog 75 #[.string s,.int .i64 a,.func (.func 71) #[] #[]] w (RowEnd P w))
 HSL:Hid (∀w:World,(Instr.slice 9 (.string s) (some (.int .i64 (a:Int))) (some (.int .i64 (P:Int))) none).run Tryz.prog w= .ok (.string d) w)
 HCT:Hid (∀W,NW w b s a W→R=intR s a a P 10→∀n,Calls Tryz.prog 117 #[.pointer (some ⟨b,0,none⟩),.string d,.int .i64 10,.int .i64 P] (W.drewN n) (TokpEnd R (W.drewN n)))
 HW0:Hid (∀W1,W1=w.alloc (.cells #[.int .i64 0,.string ⟨#[]⟩,.string ⟨#[]⟩,.int .u64 0,.int .i64 0,.int .i64 0,.bool false] 30)→NW w b s a W1)
 hgl:Hid (Tryz.prog.globals.size≤w.heap.size)
theorem NmH.of {b:Nat} {s:ByteArray} {a:Nat} {w:World}(hs:s.size≤100000000) (ha:a<s.size) (hdig:Hid (digB (byt s a).toNat=true)) (hst:Hid (St w b s a)) (hL:Hid (Laid0 w)) (hT:Hid (TabP w w.heap.size)) (hgl:Hid (Tryz.prog.globals.size≤w.heap.size)):
 ∃P P1 a1 a2 d,NmH b s a w (numR s a) P P1 a1 a2 d:=by
 obtain⟨P,hP⟩:∃P,P=rowE digB s a:=⟨_,rfl⟩
 have hPs:P≤s.size:=by rw[hP];exact rowE_le digB s a (by omega)
 have hPa:a<P:=by
  have h1:=hdig.out
  rw[byt_in s a ha,Int.toNat_natCast]at h1
  rw[hP,rowE_step ha h1]
  exact rowE_ge digB s (a+1)
 have HP:=row_dgv (r:=10) (fun c h=>dgv_dig h) (fun c h=>hex_of_dig h) (by omega) hP
 refine⟨P,P+1,a+1,a+2,s.extract a P,hs,ha,hdig,hst.out.lt,Hi rfl,Hi hP,hPs,hPa,Hi HP,Hi rfl,by omega,Hi rfl,by omega,Hi rfl,by omega,by omega,by omega,by omega,Hi (fun w=>by rw[hP];exact Tryz.prowDig s a w (by omega) (by omega)),Hi ?_,Hi ?_,Hi ?_,hgl⟩
 ·intro w
  have:=run_slice_string (P:=Tryz.prog) (w:=w) 9 s .i64 .i64 (a:Int) (P:Int) Tryz.underlying9 (by omega) (by omega) (by omega)
  rw[show((a:Int)).toNat=a by omega,show((P:Int)).toNat=P by omega]at this
  exact this
 ·intro W hQ hF n
  rw[hF]
  exact Tryz.pinteger b a a P 10 s _ _ (Hi (hQ.drewN n).f.st) hs (by omega) hPa hPs (by omega) (by omega) (Hi HP) (Hi rfl)
 ·rintro W1 rfl
  have bl:Below w.heap.size w (w.alloc (.cells #[.int .i64 0,.string ⟨#[]⟩,.string ⟨#[]⟩,.int .u64 0,.int .i64 0,.int .i64 0,.bool false] 30)):=(Below.refl _ _).alloc (nR _) _
  exact⟨⟨Tk7.new w,hst.out.below bl,bl,hT.out.next bl,by simp⟩,hL.out.below bl⟩
theorem Tryz.pnumA {b:Nat} {s:ByteArray} {a:Nat} {w:World} {R:TR} {P P1 a1 a2:Nat} {d:ByteArray}(H:NmH b s a w R P P1 a1 a2 d) (h48:byt s a=48) (hl1:a1<s.size) (q39:(s[a1].toNat:Int)=39):
 Calls Tryz.prog 72 #[.pointer (some ⟨b,0,none⟩)] w (TokpEnd R w):=by
 obtain⟨hs,ha,hdig,hb,HR,HPE,hPs,hPa,HP,HP1,eP1,HA1,ea1,HA2,ea2,bP1,ba2,ai,CP1,HSL,HCT,HW0,hgl⟩:=H
 have g48:((s[a].toNat:Int)==48)=true:=beq_of_eq (by rw[byt_in s a ha]at h48;exact h48)
 have H48:=Hi h48
 have li1:(a1:Int)<s.size:=by omega
 have hc1:byt s (a+1)=(s[a1].toNat:Int):=by rw[←HA1.out];exact byt_in s a1 hl1
 have HC1:=Hi hc1
 clear h48 hc1
 have k1:b<w.heap.size+1:=by omega
 go_enter Tryz.func72,Tryz.ntmps72
 go_wp2
 generalize hW1:w.alloc _=W1
 have Q1:Hid (NW w b s a W1):=Hi (HW0.out W1 hW1.symm)
 clear hW1
 have HQN:Hid (∀n,NW w b s a (W1.drewN n)):=Hi (fun n=>Q1.out.drewN n)
 have C0:=Q1.out.f.st.c0
 have C1:=Q1.out.f.st.c1
 refine wp_region_still_tail 8 (by kernel_rfl) (by kernel_rfl) ?_
 simp only[List.take_succ_cons,List.take_zero,List.drop_succ_cons,List.drop_zero]
 change wpStill _ _ W1.drew _ _ _
 repeat still_step
 refine wpStill_nil ?_
 change wpList _ _ _ _ _ W1.drew
 go_wp2_with (go_at_call 75;(with_reducible refine(CP1.out _).mono ?_);rintro e' w' ⟨rfl,rfl⟩)
 go_quiet (fail)
 go_wp2
 go_quiet (fail)
 have g39:((s[a1].toNat:Int)==39)=true:=beq_of_eq (by omega)
 have g98:((s[a1].toNat:Int)==98)=false:=beq_of_ne (by omega)
 have g111:((s[a1].toNat:Int)==111)=false:=beq_of_ne (by omega)
 have g120:((s[a1].toNat:Int)==120)=false:=beq_of_ne (by omega)
 have gn:((s[a1].toNat:Int) !=39)=false:=bne_of_eq q39
 have h4839:Hid (byt s a=48∧byt s (a+1)=39):=Hi ⟨H48.out,by rw[HC1.out];exact q39⟩
 have E6:=Q1.out.f.tab.e6
 obtain⟨te,pe,e6⟩:=E6
 have CC:Hid (∀n,Calls Tryz.prog 113 #[.pointer (some ⟨b,0,none⟩)] (W1.drewN n) (ChpEnd (chrR s a) (W1.drewN n))):=Hi (fun n=>Tryz.pcharacter b s a _ hs (by have:=HA1.out;omega) h4839 (Hi (HQN.out n).f.st) (Hi (HQN.out n).ld) te pe (Hi e6) (Hi (Nat.le_trans hgl.out (Nat.le_trans (Nat.le_succ _) Q1.out.f.sz))))
 clear e6 q39
 cases hcr:chrR s a with
 |some R2=>
  have HRR:Hid (R=R2):=Hi (by rw[HR.out];exact num_chr hcr)
  rw[hcr]at CC
  clear hcr
  go_upto_if 74 with(go_at_call 113;(with_reducible refine(CC.out _).mono ?_);rintro e W2 h;obtain⟨k,tx,nu,bits,at_,en,ly,pp,nn,rfl,he,b2⟩:=ChpEnd.open' h;unfold tokV;have HE:=Hi he;have Q2:=Hi ((HQN.out _).call hb b2);clear h he b2)
  generalize hW3:W2.alloc _=W3
  have Q3:Hid (NW w b s a W3):=Hi (by subst hW3;exact Q2.out.call hb ((Below.refl _ _).alloc (nR _) _))
  have p3:W3.heap[W2.heap.size]? =some (.cells #[.int .i64 k,.string tx,.string nu,.int .u64 bits,.int .i64 at_,.int .i64 en,.bool ly] 30 (0,0)):=by subst hW3;exact heap_alloc_new W2 _
  have TB:Hid (TkA W3 W2.heap.size k tx nu bits at_ en ly):=Hi ⟨p3⟩
  have lt2:w.heap.size<W2.heap.size:=Q2.out.f.sz
  have QE:=Q3
  clear hW3 p3
  obtain⟨x10,x11,x12,x13,x14,x15,x16⟩:=TB.out.cs
  obtain⟨x00,x01,x02,x03,x04,x05,x06⟩:=Q3.out.f.t0.cs
  obtain⟨y00,y01,y02,y03,y04,y05,y06⟩:=Q3.out.f.t0.fs
  go_wp2
  refine bodyPost_ret (v:= .tuple #[tokV k tx nu bits at_ en ly,.int .i64 pp,.int .i64 nn]) ?_ rfl (HRR.out▸HE.out _ _ (below_tok7 QE.out.f.bel (nR _) _ _ _ _ _ _ _))
  ·simp only[results,Tryz.results72]
   go_simp
   try rfl
 |none=>
  rw[hcr]at CC
  have PP:Hid (P=a1):=Hi (by rw[HPE.out,HA1.out];refine row_one ha hdig.out ?_;rw[h4839.out.2];decide)
  have HR2:Hid (R=if numD s a then fltR s a P else intR s a a P 10):=Hi (by rw[HR.out,HPE.out];exact num_dec hcr (by rintro⟨_,h|h|h⟩<;>(have:=h4839.out.2;omega)))
  have h46n:¬byt s P=46:=by rw[PP.out,HA1.out,h4839.out.2];decide
  clear hcr
  go_upto_if 74 with(go_at_call 113;(with_reducible refine(CC.out _).mono ?_);rintro e W2 h;obtain⟨k,tx,nu,bits,at_,en,ly,rfl,b2⟩:=ChpEnd.none' h;unfold tokV;have Q2:=Hi ((HQN.out _).call hb b2);clear h b2)
  generalize hW3:W2.alloc _=W3
  have Q3:Hid (NW w b s a W3):=Hi (by subst hW3;exact Q2.out.call hb ((Below.refl _ _).alloc (nR _) _))
  clear hW3 C0 C1 Q1 HQN
  have HQN:Hid (∀n,NW w b s a (W3.drewN n)):=Hi (fun n=>Q3.out.drewN n)
  have C0:=Q3.out.f.st.c0
  have C1:=Q3.out.f.st.c1
  obtain⟨TH,hTH⟩:∃T,T=rowE hexB s a2:=⟨_,rfl⟩
  have CPh:Hid (∀w,Calls Tryz.prog 75 #[.string s,.int .i64 a2,.func (.func 114) #[] #[]] w (RowEnd TH w)):=Hi (fun w=>by rw[hTH];exact Tryz.prowHex s a2 w (by omega) (by omega))
  have bTH:TH≤100000001:=by
   rcases Nat.lt_or_ge s.size a2 with h|h
   ·rw[hTH,rowE_end (by omega)];omega
   ·have:=rowE_le hexB s a2 h;omega
  have hge:a2≤TH:=by rw[hTH];exact rowE_ge _ _ _
  clear hTH CC
  go_wp2
  go_quiet (fail)
  go_wp2
  refine wp_region_still_tail 10 (by kernel_rfl) (by kernel_rfl) ?_
  simp only[List.take_succ_cons,List.take_zero,List.drop_succ_cons,List.drop_zero]
  change wpStill _ _ (World.drew _) _ _ _
  repeat still_step
  refine wpStill_nil ?_
  change wpList _ _ _ _ _ (World.drew _)
  go_wp2_with (go_at_call 75;(with_reducible refine(CPh.out _).mono ?_);rintro e' w' ⟨rfl,rfl⟩)
  clear CPh
  have KEY:(((a2:Int)<TH)∧decide (a2<TH)=true∧decide ((a2:Int)<TH)=true)∨((¬(a2:Int)<TH)∧decide (a2<TH)=false∧decide ((a2:Int)<TH)=false):=by
   by_cases h:a2<TH
   ·exact .inl ⟨by omega,decide_eq_true h,decide_eq_true (by omega)⟩
   ·exact .inr ⟨by omega,decide_eq_false h,decide_eq_false (by omega)⟩
  rcases KEY with⟨v1,v2,v3⟩|⟨v1,v2,v3⟩
  all_goals
   go_quiet (fail)
   by_cases hD:numD s a
   ·exact absurd (by rw[HPE.out];exact hD.1) h46n
   have HF:Hid (R=intR s a a P 10):=Hi (by rw[HR2.out];exact if_neg hD)
   have KEY:=num_key2 HP1.out h46n
   clear hD
   have hsl:=HSL.out
   have HC:=Hi (HCT.out _ Q3.out HF.out)
   rcases KEY with⟨l2,l3,l1,l4,t46⟩|l1
   all_goals
    go_wp2_with fail
    go_region_with (go_at_call 117;(with_reducible refine(HC.out _).mono ?_);rintro e W9 h;obtain⟨k,tx,nu,bits,at_,en,ly,pp,nn,rfl,he,b3⟩:=TokpEnd.open' h;unfold tokV;have HE:=Hi he;have QE:=Hi ((HQN.out _).call hb b3);obtain⟨x00,x01,x02,x03,x04,x05,x06⟩:=QE.out.f.t0.cs;obtain⟨y00,y01,y02,y03,y04,y05,y06⟩:=QE.out.f.t0.fs;clear h b3 he)
    all_goals
     go_wp2
     refine bodyPost_ret (v:= .tuple #[tokV k tx nu bits at_ en ly,.int .i64 pp,.int .i64 nn]) ?_ rfl (HE.out _ _ (below_tok7 QE.out.f.bel (nR _) _ _ _ _ _ _ _))
     ·simp only[results,Tryz.results72]
      go_simp
      try rfl
theorem Tryz.pnumB {b:Nat} {s:ByteArray} {a:Nat} {w:World} {R:TR} {P P1 a1 a2:Nat} {d:ByteArray}(H:NmH b s a w R P P1 a1 a2 d) (h48:byt s a=48) (hl1:a1<s.size) (q39:¬(s[a1].toNat:Int)=39) (hL:(s[a1].toNat:Int)=98∨(s[a1].toNat:Int)=111∨(s[a1].toNat:Int)=120):
 Calls Tryz.prog 72 #[.pointer (some ⟨b,0,none⟩)] w (TokpEnd R w):=by
 obtain⟨hs,ha,hdig,hb,HR,HPE,hPs,hPa,HP,HP1,eP1,HA1,ea1,HA2,ea2,bP1,ba2,ai,CP1,HSL,HCT,HW0,hgl⟩:=H
 have g48:((s[a].toNat:Int)==48)=true:=beq_of_eq (by rw[byt_in s a ha]at h48;exact h48)
 have H48:=Hi h48
 have li1:(a1:Int)<s.size:=by omega
 have hc1:byt s (a+1)=(s[a1].toNat:Int):=by rw[←HA1.out];exact byt_in s a1 hl1
 have HC1:=Hi hc1
 clear h48 hc1
 have PP:Hid (P=a1):=Hi (by rw[HPE.out,HA1.out];refine row_one ha hdig.out ?_;rw[HC1.out];rcases hL with h|h|h<;>rw[h]<;>rfl)
 have h46n:¬byt s P=46:=by rw[PP.out,HA1.out,HC1.out];omega
 obtain⟨r,TO,ri,hri,bTO,hge,HT,hL⟩:∃(r TO:Nat) (ri:Int),(r:Int)=ri∧TO≤s.size∧a2≤TO∧Hid (2≤r∧r≤16∧(∀k,a2≤k→k<TO→hexB (byt s k).toNat=true∧dgv (byt s k).toNat<r)∧(R=if a2<TO then intR s a a2 TO r else if numD s a then fltR s a P else intR s a a P 10))∧
  ((ri=2∧((s[a1].toNat:Int)==98)=true∧Hid (∀w,Calls Tryz.prog 75 #[.string s,.int .i64 a2,.func (.func 115) #[] #[]] w (RowEnd TO w)))∨(ri=8∧((s[a1].toNat:Int)==98)=false∧((s[a1].toNat:Int)==111)=true∧Hid (∀w,Calls Tryz.prog 75 #[.string s,.int .i64 a2,.func (.func 116) #[] #[]] w (RowEnd TO w)))∨(ri=16∧((s[a1].toNat:Int)==98)=false∧((s[a1].toNat:Int)==111)=false∧((s[a1].toNat:Int)==120)=true∧Hid (∀w,Calls Tryz.prog 75 #[.string s,.int .i64 a2,.func (.func 114) #[] #[]] w (RowEnd TO w)))):=by
  have e1:=HA1.out
  have e2:=HA2.out
  have ha2s:a2≤s.size:=by omega
  have A1:∀(r:Nat) (p:Nat→Bool),(byt s (a+1)=(98:Nat)∧r=2∧p=binB)∨(byt s (a+1)=(111:Nat)∧r=8∧p=octB)∨(byt s (a+1)=(120:Nat)∧r=16∧p=hexB)→rowE p s a2≤s.size∧a2≤rowE p s a2∧Hid (2≤r∧r≤16∧(∀k,a2≤k→k<rowE p s a2→hexB (byt s k).toNat=true∧dgv (byt s k).toNat<r)∧(R=if a2<rowE p s a2 then intR s a a2 (rowE p s a2) r else if numD s a then fltR s a P else intR s a a P 10)):=by
   intro r p h
   refine⟨rowE_le p s a2 ha2s,rowE_ge _ _ _,Hi ⟨by omega,by omega,?_,?_⟩⟩
   ·rcases h with⟨_,rfl,rfl⟩|⟨_,rfl,rfl⟩|⟨_,rfl,rfl⟩
    ·exact row_dgv (fun c h=>dgv_bin h) (fun c h=>hex_of_bin h) ha2s rfl
    ·exact row_dgv (fun c h=>dgv_oct h) (fun c h=>hex_of_oct h) ha2s rfl
    ·exact row_dgv (fun c h=>dgv_hex h) (fun c h=>h) ha2s rfl
   ·rw[HR.out,HPE.out,e2]
    rcases h with⟨h,rfl,rfl⟩|⟨h,rfl,rfl⟩|⟨h,rfl,rfl⟩<;>exact num_rad H48.out (by simp) h
  rw[HC1.out]at A1
  rcases hL with h|h|h
  ·exact⟨2,_,_,rfl,(A1 2 binB (.inl ⟨h,rfl,rfl⟩)).1,(A1 2 binB (.inl ⟨h,rfl,rfl⟩)).2.1,(A1 2 binB (.inl ⟨h,rfl,rfl⟩)).2.2,.inl ⟨rfl,beq_of_eq h,Hi (fun w=>Tryz.prowBin s a2 w (by omega) (by omega))⟩⟩
  ·exact⟨8,_,_,rfl,(A1 8 octB (.inr (.inl ⟨h,rfl,rfl⟩))).1,(A1 8 octB (.inr (.inl ⟨h,rfl,rfl⟩))).2.1,(A1 8 octB (.inr (.inl ⟨h,rfl,rfl⟩))).2.2,.inr (.inl ⟨rfl,beq_of_ne (by omega),beq_of_eq h,Hi (fun w=>Tryz.prowOct s a2 w (by omega) (by omega))⟩)⟩
  ·exact⟨16,_,_,rfl,(A1 16 hexB (.inr (.inr ⟨h,rfl,rfl⟩))).1,(A1 16 hexB (.inr (.inr ⟨h,rfl,rfl⟩))).2.1,(A1 16 hexB (.inr (.inr ⟨h,rfl,rfl⟩))).2.2,.inr (.inr ⟨rfl,beq_of_ne (by omega),beq_of_ne (by omega),beq_of_eq h,Hi (fun w=>Tryz.prowHex s a2 w (by omega) (by omega))⟩)⟩
 have g39:((s[a1].toNat:Int)==39)=false:=beq_of_ne q39
 have gn:((s[a1].toNat:Int) !=39)=true:=bne_of_ne q39
 clear q39
 obtain⟨d2,HSL2,HC2⟩:∃d2,Hid (∀w:World,(Instr.slice 9 (.string s) (some (.int .i64 (a2:Int))) (some (.int .i64 (TO:Int))) none).run Tryz.prog w= .ok (.string d2) w)∧Hid (∀W1 n,NW w b s a W1→a2<TO→Calls Tryz.prog 117 #[.pointer (some ⟨b,0,none⟩),.string d2,.int .i64 ri,.int .i64 TO] (W1.drewN n) (TokpEnd R (W1.drewN n))):=by
  refine⟨s.extract a2 TO,Hi (fun w=> ?_),Hi (fun W1 n hQ hlt=> ?_)⟩
  ·have:=run_slice_string (P:=Tryz.prog) (w:=w) 9 s .i64 .i64 (a2:Int) (TO:Int) Tryz.underlying9 (by omega) (by omega) (by omega)
   rw[show((a2:Int)).toNat=a2 by omega,show((TO:Int)).toNat=TO by omega]at this
   exact this
  ·rw[HT.out.2.2.2,if_pos hlt,←hri]
   exact Tryz.pinteger b a a2 TO r s _ _ (Hi (hQ.drewN n).f.st) hs (by omega) hlt bTO HT.out.1 HT.out.2.1 (Hi HT.out.2.2.1) (Hi rfl)
 clear hri
 have hw2:IntKind.i64.wrap (a2:Int)=(a2:Int):=IntWalk.i64_in _ (by omega)
 have k1:b<w.heap.size+1:=by omega
 go_enter Tryz.func72,Tryz.ntmps72
 go_wp2
 generalize hW1:w.alloc _=W1
 have Q1:Hid (NW w b s a W1):=Hi (HW0.out W1 hW1.symm)
 clear hW1
 have HQN:Hid (∀n,NW w b s a (W1.drewN n)):=Hi (fun n=>Q1.out.drewN n)
 have C0:=Q1.out.f.st.c0
 have C1:=Q1.out.f.st.c1
 refine wp_region_still_tail 8 (by kernel_rfl) (by kernel_rfl) ?_
 simp only[List.take_succ_cons,List.take_zero,List.drop_succ_cons,List.drop_zero]
 change wpStill _ _ W1.drew _ _ _
 repeat still_step
 refine wpStill_nil ?_
 change wpList _ _ _ _ _ W1.drew
 go_wp2_with (go_at_call 75;(with_reducible refine(CP1.out _).mono ?_);rintro e' w' ⟨rfl,rfl⟩)
 have HC2:Hid (∀n,a2<TO→Calls Tryz.prog 117 #[.pointer (some ⟨b,0,none⟩),.string d2,.int .i64 ri,.int .i64 TO] (W1.drewN n) (TokpEnd R (W1.drewN n))):=Hi (fun n=>HC2.out W1 n Q1.out)
 rcases hL with⟨rfl,g98,CPr⟩|⟨rfl,g98,g111,CPr⟩|⟨rfl,g98,g111,g120,CPr⟩
 all_goals
  go_quiet (fail)
  go_wp2
  go_quiet (fail)
  go_wp2
  go_quiet (fail)
  go_wp2
  refine wp_region_still_tail 10 (by kernel_rfl) (by kernel_rfl) ?_
  simp only[List.take_succ_cons,List.take_zero,List.drop_succ_cons,List.drop_zero]
  change wpStill _ _ (World.drew _) _ _ _
  repeat still_step
  refine wpStill_nil ?_
  change wpList _ _ _ _ _ (World.drew _)
  go_wp2_with (go_at_call 75;(with_reducible refine(CPr.out _).mono ?_);rintro e' w' ⟨rfl,rfl⟩)
  clear CPr
  by_cases hlt:a2<TO
  ·have v1:(a2:Int)<TO:=by omega
   have v2:decide (a2<TO)=true:=decide_eq_true hlt
   have v3:decide ((a2:Int)<TO)=true:=dTo
   have HC:=Hi (fun n=>HC2.out n hlt)
   have hsl:=HSL2.out
   clear hlt
   go_quiet (fail)
   go_wp2_with fail
   go_region_with (go_at_call 117;(with_reducible refine(HC.out _).mono ?_);rintro e W3 h;obtain⟨k,tx,nu,bits,at_,en,ly,pp,nn,rfl,he,b3⟩:=TokpEnd.open' h;unfold tokV;have HE:=Hi he;have QE:=Hi ((HQN.out _).call hb b3);obtain⟨x00,x01,x02,x03,x04,x05,x06⟩:=QE.out.f.t0.cs;obtain⟨y00,y01,y02,y03,y04,y05,y06⟩:=QE.out.f.t0.fs;clear h b3 he)
   all_goals
    go_wp2
    refine bodyPost_ret (v:= .tuple #[tokV k tx nu bits at_ en ly,.int .i64 pp,.int .i64 nn]) ?_ rfl (HE.out _ _ (below_tok7 QE.out.f.bel (nR _) _ _ _ _ _ _ _))
    ·simp only[results,Tryz.results72]
     go_simp
     try rfl
  ·have v1:¬(a2:Int)<TO:=by omega
   have v2:decide (a2<TO)=false:=decide_eq_false hlt
   have v3:decide ((a2:Int)<TO)=false:=dFo
   have HR2:Hid (R=if numD s a then fltR s a P else intR s a a P 10):=Hi (by rw[HT.out.2.2.2,if_neg hlt])
   clear hlt
   go_quiet (fail)
   by_cases hD:numD s a
   ·exact absurd (by rw[HPE.out];exact hD.1) h46n
   have HF:Hid (R=intR s a a P 10):=Hi (by rw[HR2.out];exact if_neg hD)
   have KEY:=num_key2 HP1.out h46n
   clear hD
   have hsl:=HSL.out
   have HC:=Hi (HCT.out _ Q1.out HF.out)
   rcases KEY with⟨l2,l3,l1,l4,t46⟩|l1
   all_goals
    go_wp2_with fail
    go_region_with (go_at_call 117;(with_reducible refine(HC.out _).mono ?_);rintro e W3 h;obtain⟨k,tx,nu,bits,at_,en,ly,pp,nn,rfl,he,b3⟩:=TokpEnd.open' h;unfold tokV;have HE:=Hi he;have QE:=Hi ((HQN.out _).call hb b3);obtain⟨x00,x01,x02,x03,x04,x05,x06⟩:=QE.out.f.t0.cs;obtain⟨y00,y01,y02,y03,y04,y05,y06⟩:=QE.out.f.t0.fs;clear h b3 he)
    all_goals
     go_wp2
     refine bodyPost_ret (v:= .tuple #[tokV k tx nu bits at_ en ly,.int .i64 pp,.int .i64 nn]) ?_ rfl (HE.out _ _ (below_tok7 QE.out.f.bel (nR _) _ _ _ _ _ _ _))
     ·simp only[results,Tryz.results72]
      go_simp
      try rfl
theorem Tryz.pnumC {b:Nat} {s:ByteArray} {a:Nat} {w:World} {R:TR} {P P1 a1 a2:Nat} {d:ByteArray}(H:NmH b s a w R P P1 a1 a2 d) (h48:byt s a=48) (hl1:a1<s.size) (q39:¬(s[a1].toNat:Int)=39) (hL:¬((s[a1].toNat:Int)=98∨(s[a1].toNat:Int)=111∨(s[a1].toNat:Int)=120)):
 Calls Tryz.prog 72 #[.pointer (some ⟨b,0,none⟩)] w (TokpEnd R w):=by
 obtain⟨hs,ha,hdig,hb,HR,HPE,hPs,hPa,HP,HP1,eP1,HA1,ea1,HA2,ea2,bP1,ba2,ai,CP1,HSL,HCT,HW0,hgl⟩:=H
 have g48:((s[a].toNat:Int)==48)=true:=beq_of_eq (by rw[byt_in s a ha]at h48;exact h48)
 have H48:=Hi h48
 have li1:(a1:Int)<s.size:=by omega
 have hc1:byt s (a+1)=(s[a1].toNat:Int):=by rw[←HA1.out];exact byt_in s a1 hl1
 have HC1:=Hi hc1
 clear h48 hc1
 have g39:((s[a1].toNat:Int)==39)=false:=beq_of_ne (by omega)
 have g98:((s[a1].toNat:Int)==98)=false:=beq_of_ne (by omega)
 have g111:((s[a1].toNat:Int)==111)=false:=beq_of_ne (by omega)
 have g120:((s[a1].toNat:Int)==120)=false:=beq_of_ne (by omega)
 have HR2:Hid (R=if numD s a then fltR s a P else intR s a a P 10):=Hi (by rw[HR.out,HPE.out];refine num_dec (chr_fit (by have:=HC1.out;omega)) ?_;rintro⟨_,h|h|h⟩<;>(have:=HC1.out;omega))
 clear q39 hL
 have k1:b<w.heap.size+1:=by omega
 go_enter Tryz.func72,Tryz.ntmps72
 go_wp2
 generalize hW1:w.alloc _=W1
 have Q1:Hid (NW w b s a W1):=Hi (HW0.out W1 hW1.symm)
 clear hW1
 have HQN:Hid (∀n,NW w b s a (W1.drewN n)):=Hi (fun n=>Q1.out.drewN n)
 have C0:=Q1.out.f.st.c0
 have C1:=Q1.out.f.st.c1
 refine wp_region_still_tail 8 (by kernel_rfl) (by kernel_rfl) ?_
 simp only[List.take_succ_cons,List.take_zero,List.drop_succ_cons,List.drop_zero]
 change wpStill _ _ W1.drew _ _ _
 repeat still_step
 refine wpStill_nil ?_
 change wpList _ _ _ _ _ W1.drew
 go_wp2_with (go_at_call 75;(with_reducible refine(CP1.out _).mono ?_);rintro e' w' ⟨rfl,rfl⟩)
 go_quiet (fail)
 go_wp2
 go_quiet (fail)
 by_cases hD:numD s a
 ·have h46:byt s P=46:=by rw[HPE.out];exact hD.1
  have hd2:digB (byt s P1).toNat=true:=by rw[HP1.out,HPE.out];exact hD.2
  have l2:P1<s.size:=by
   rcases Nat.lt_or_ge P1 s.size with h|h
   ·exact h
   ·rw[byt_out s P1 h]at hd2;exact absurd hd2 (by decide)
  have l3:P<s.size:=by omega
  have l1:(P1:Int)<s.size:=by omega
  have l4:(P:Int)<s.size:=by omega
  have t46:((s[P].toNat:Int)==46)=true:=beq_of_eq (by rw[byt_in s P l3]at h46;exact h46)
  have C45:Hid (∀w,Calls Tryz.prog 71 #[.int .u8 s[P1].toNat] w (PredSays true w)):=Hi (fun w=>by
   rw[byt_in s P1 l2,Int.toNat_natCast]at hd2
   rw[←hd2];exact Tryz.pdigit _ w)
  have HF:Hid (R=fltR s a P):=Hi (by rw[HR2.out];exact if_pos hD)
  have HFP:Hid (FlP s a P (rowE digB s (P+1))):=Hi (flp_of (by omega) HPE.out hdig.out h46 (by rw[←HP1.out];exact hd2))
  have HC:Hid (∀n,Calls Tryz.prog 118 #[.pointer (some ⟨b,0,none⟩),.int .i64 P] (W1.drewN n) (TokpEnd R (W1.drewN n))):=Hi (fun n=>by
   rw[HF.out]
   exact Tryz.pfloat b s a P _ hs (Hi (HQN.out n).f.st) (Hi (HQN.out n).f.tab) HFP)
  clear hD hd2 h46
  go_wp2_with (first
   | (go_at_call 71;(with_reducible refine(C45.out _).mono ?_);rintro e w' ⟨rfl,rfl⟩)
   | (go_at_call 118;(with_reducible refine(HC.out _).mono ?_)))
  rintro e W3 h
  obtain⟨k,tx,nu,bits,at_,en,ly,pp,nn,rfl,he,b3⟩:=TokpEnd.open' h
  unfold tokV
  have HE:=Hi he
  have QE:=Hi ((HQN.out _).call hb b3)
  obtain⟨x00,x01,x02,x03,x04,x05,x06⟩:=QE.out.f.t0.cs
  obtain⟨y00,y01,y02,y03,y04,y05,y06⟩:=QE.out.f.t0.fs
  clear h b3 he
  go_wp2
  refine bodyPost_ret (v:= .tuple #[tokV k tx nu bits at_ en ly,.int .i64 pp,.int .i64 nn]) ?_ rfl (HE.out _ _ (below_tok7 QE.out.f.bel (nR _) _ _ _ _ _ _ _))
  ·simp only[results,Tryz.results72]
   go_simp
   try rfl
 have HF:Hid (R=intR s a a P 10):=Hi (by rw[HR2.out];exact if_neg hD)
 have KEY:=num_key HP1.out HPE.out hD
 clear hD
 have hsl:=HSL.out
 have HC:=Hi (HCT.out _ Q1.out HF.out)
 rcases KEY with⟨l2,l3,l1,l4,t46,C45⟩|⟨l2,l3,l1,l4,t46⟩|l1
 all_goals
  go_wp2_with (go_at_call 71;(with_reducible refine(C45.out _).mono ?_);rintro e w' ⟨rfl,rfl⟩)
  go_region_with (go_at_call 117;(with_reducible refine(HC.out _).mono ?_);rintro e W3 h;obtain⟨k,tx,nu,bits,at_,en,ly,pp,nn,rfl,he,b3⟩:=TokpEnd.open' h;unfold tokV;have HE:=Hi he;have QE:=Hi ((HQN.out _).call hb b3);obtain⟨x00,x01,x02,x03,x04,x05,x06⟩:=QE.out.f.t0.cs;obtain⟨y00,y01,y02,y03,y04,y05,y06⟩:=QE.out.f.t0.fs;clear h b3 he)
  all_goals
   go_wp2
   refine bodyPost_ret (v:= .tuple #[tokV k tx nu bits at_ en ly,.int .i64 pp,.int .i64 nn]) ?_ rfl (HE.out _ _ (below_tok7 QE.out.f.bel (nR _) _ _ _ _ _ _ _))
   ·simp only[results,Tryz.results72]
    go_simp
    try rfl
theorem Tryz.pnumD {b:Nat} {s:ByteArray} {a:Nat} {w:World} {R:TR} {P P1 a1 a2:Nat} {d:ByteArray}(H:NmH b s a w R P P1 a1 a2 d) (h48:byt s a=48) (hl1:¬a1<s.size):
 Calls Tryz.prog 72 #[.pointer (some ⟨b,0,none⟩)] w (TokpEnd R w):=by
 obtain⟨hs,ha,hdig,hb,HR,HPE,hPs,hPa,HP,HP1,eP1,HA1,ea1,HA2,ea2,bP1,ba2,ai,CP1,HSL,HCT,HW0,hgl⟩:=H
 have g48:((s[a].toNat:Int)==48)=true:=beq_of_eq (by rw[byt_in s a ha]at h48;exact h48)
 have H48:=Hi h48
 have li1:¬(a1:Int)<s.size:=by omega
 have HR2:Hid (R=if numD s a then fltR s a P else intR s a a P 10):=Hi (by rw[HR.out,HPE.out];refine num_dec (chr_fit ?_) ?_<;>(have h0:=byt_out s (a+1) (by have:=HA1.out;omega);omega))
 clear h48
 have h46n:¬byt s P=46:=by
  have h0:=HA1.out
  rw[byt_out s P (by omega)];decide
 have k1:b<w.heap.size+1:=by omega
 go_enter Tryz.func72,Tryz.ntmps72
 go_wp2
 generalize hW1:w.alloc _=W1
 have Q1:Hid (NW w b s a W1):=Hi (HW0.out W1 hW1.symm)
 clear hW1
 have HQN:Hid (∀n,NW w b s a (W1.drewN n)):=Hi (fun n=>Q1.out.drewN n)
 have C0:=Q1.out.f.st.c0
 have C1:=Q1.out.f.st.c1
 refine wp_region_still_tail 8 (by kernel_rfl) (by kernel_rfl) ?_
 simp only[List.take_succ_cons,List.take_zero,List.drop_succ_cons,List.drop_zero]
 change wpStill _ _ W1.drew _ _ _
 repeat still_step
 refine wpStill_nil ?_
 change wpList _ _ _ _ _ W1.drew
 go_wp2_with (go_at_call 75;(with_reducible refine(CP1.out _).mono ?_);rintro e' w' ⟨rfl,rfl⟩)
 go_quiet (fail)
 by_cases hD:numD s a
 ·exact absurd (by rw[HPE.out];exact hD.1) h46n
 have HF:Hid (R=intR s a a P 10):=Hi (by rw[HR2.out];exact if_neg hD)
 have l1:¬(P1:Int)<s.size:=by have h5:=HA1.out;have h6:=HP1.out;omega
 clear hD
 have hsl:=HSL.out
 have HC:=Hi (HCT.out _ Q1.out HF.out)
 go_wp2_with fail
 go_region_with (go_at_call 117;(with_reducible refine(HC.out _).mono ?_);rintro e W3 h;obtain⟨k,tx,nu,bits,at_,en,ly,pp,nn,rfl,he,b3⟩:=TokpEnd.open' h;unfold tokV;have HE:=Hi he;have QE:=Hi ((HQN.out _).call hb b3);obtain⟨x00,x01,x02,x03,x04,x05,x06⟩:=QE.out.f.t0.cs;obtain⟨y00,y01,y02,y03,y04,y05,y06⟩:=QE.out.f.t0.fs;clear h b3 he)
 all_goals
  go_wp2
  refine bodyPost_ret (v:= .tuple #[tokV k tx nu bits at_ en ly,.int .i64 pp,.int .i64 nn]) ?_ rfl (HE.out _ _ (below_tok7 QE.out.f.bel (nR _) _ _ _ _ _ _ _))
  ·simp only[results,Tryz.results72]
   go_simp
   try rfl
theorem Tryz.pnumE {b:Nat} {s:ByteArray} {a:Nat} {w:World} {R:TR} {P P1 a1 a2:Nat} {d:ByteArray}(H:NmH b s a w R P P1 a1 a2 d) (h48:¬byt s a=48):
 Calls Tryz.prog 72 #[.pointer (some ⟨b,0,none⟩)] w (TokpEnd R w):=by
 obtain⟨hs,ha,hdig,hb,HR,HPE,hPs,hPa,HP,HP1,eP1,HA1,ea1,HA2,ea2,bP1,ba2,ai,CP1,HSL,HCT,HW0,hgl⟩:=H
 have g48:((s[a].toNat:Int)==48)=false:=beq_of_ne (by rw[byt_in s a ha]at h48;exact h48)
 have HR2:Hid (R=if numD s a then fltR s a P else intR s a a P 10):=Hi (by rw[HR.out,HPE.out];exact num_dec (chr_fit (fun h=>h48 h.1)) (fun h=>h48 h.1))
 clear h48
 have k1:b<w.heap.size+1:=by omega
 go_enter Tryz.func72,Tryz.ntmps72
 go_wp2
 generalize hW1:w.alloc _=W1
 have Q1:Hid (NW w b s a W1):=Hi (HW0.out W1 hW1.symm)
 clear hW1
 have HQN:Hid (∀n,NW w b s a (W1.drewN n)):=Hi (fun n=>Q1.out.drewN n)
 have C0:=Q1.out.f.st.c0
 have C1:=Q1.out.f.st.c1
 refine wp_region_still_tail 8 (by kernel_rfl) (by kernel_rfl) ?_
 simp only[List.take_succ_cons,List.take_zero,List.drop_succ_cons,List.drop_zero]
 change wpStill _ _ W1.drew _ _ _
 repeat still_step
 refine wpStill_nil ?_
 change wpList _ _ _ _ _ W1.drew
 go_wp2_with (go_at_call 75;(with_reducible refine(CP1.out _).mono ?_);rintro e' w' ⟨rfl,rfl⟩)
 go_quiet (fail)
 by_cases hD:numD s a
 ·have h46:byt s P=46:=by rw[HPE.out];exact hD.1
  have hd2:digB (byt s P1).toNat=true:=by rw[HP1.out,HPE.out];exact hD.2
  have l2:P1<s.size:=by
   rcases Nat.lt_or_ge P1 s.size with h|h
   ·exact h
   ·rw[byt_out s P1 h]at hd2;exact absurd hd2 (by decide)
  have l3:P<s.size:=by omega
  have l1:(P1:Int)<s.size:=by omega
  have l4:(P:Int)<s.size:=by omega
  have t46:((s[P].toNat:Int)==46)=true:=beq_of_eq (by rw[byt_in s P l3]at h46;exact h46)
  have C45:Hid (∀w,Calls Tryz.prog 71 #[.int .u8 s[P1].toNat] w (PredSays true w)):=Hi (fun w=>by
   rw[byt_in s P1 l2,Int.toNat_natCast]at hd2
   rw[←hd2];exact Tryz.pdigit _ w)
  have HF:Hid (R=fltR s a P):=Hi (by rw[HR2.out];exact if_pos hD)
  have HFP:Hid (FlP s a P (rowE digB s (P+1))):=Hi (flp_of (by omega) HPE.out hdig.out h46 (by rw[←HP1.out];exact hd2))
  have HC:Hid (∀n,Calls Tryz.prog 118 #[.pointer (some ⟨b,0,none⟩),.int .i64 P] (W1.drewN n) (TokpEnd R (W1.drewN n))):=Hi (fun n=>by
   rw[HF.out]
   exact Tryz.pfloat b s a P _ hs (Hi (HQN.out n).f.st) (Hi (HQN.out n).f.tab) HFP)
  clear hD hd2 h46
  go_wp2_with (first
   | (go_at_call 71;(with_reducible refine(C45.out _).mono ?_);rintro e w' ⟨rfl,rfl⟩)
   | (go_at_call 118;(with_reducible refine(HC.out _).mono ?_)))
  rintro e W3 h
  obtain⟨k,tx,nu,bits,at_,en,ly,pp,nn,rfl,he,b3⟩:=TokpEnd.open' h
  unfold tokV
  have HE:=Hi he
  have QE:=Hi ((HQN.out _).call hb b3)
  obtain⟨x00,x01,x02,x03,x04,x05,x06⟩:=QE.out.f.t0.cs
  obtain⟨y00,y01,y02,y03,y04,y05,y06⟩:=QE.out.f.t0.fs
  clear h b3 he
  go_wp2
  refine bodyPost_ret (v:= .tuple #[tokV k tx nu bits at_ en ly,.int .i64 pp,.int .i64 nn]) ?_ rfl (HE.out _ _ (below_tok7 QE.out.f.bel (nR _) _ _ _ _ _ _ _))
  ·simp only[results,Tryz.results72]
   go_simp
   try rfl
 have HF:Hid (R=intR s a a P 10):=Hi (by rw[HR2.out];exact if_neg hD)
 have KEY:=num_key HP1.out HPE.out hD
 clear hD
 have hsl:=HSL.out
 have HC:=Hi (HCT.out _ Q1.out HF.out)
 rcases KEY with⟨l2,l3,l1,l4,t46,C45⟩|⟨l2,l3,l1,l4,t46⟩|l1
 all_goals
  go_wp2_with (go_at_call 71;(with_reducible refine(C45.out _).mono ?_);rintro e w' ⟨rfl,rfl⟩)
  go_region_with (go_at_call 117;(with_reducible refine(HC.out _).mono ?_);rintro e W3 h;obtain⟨k,tx,nu,bits,at_,en,ly,pp,nn,rfl,he,b3⟩:=TokpEnd.open' h;unfold tokV;have HE:=Hi he;have QE:=Hi ((HQN.out _).call hb b3);obtain⟨x00,x01,x02,x03,x04,x05,x06⟩:=QE.out.f.t0.cs;obtain⟨y00,y01,y02,y03,y04,y05,y06⟩:=QE.out.f.t0.fs;clear h b3 he)
  all_goals
   go_wp2
   refine bodyPost_ret (v:= .tuple #[tokV k tx nu bits at_ en ly,.int .i64 pp,.int .i64 nn]) ?_ rfl (HE.out _ _ (below_tok7 QE.out.f.bel (nR _) _ _ _ _ _ _ _))
   ·simp only[results,Tryz.results72]
    go_simp
    try rfl
theorem Tryz.pnumber (b:Nat) (s:ByteArray) (a:Nat) (w:World) (hs:s.size≤100000000) (ha:a<s.size) (hdig:Hid (digB (byt s a).toNat=true)) (hst:Hid (St w b s a)) (hL:Hid (Laid0 w)) (hT:Hid (TabP w w.heap.size)) (hgl:Hid (Tryz.prog.globals.size≤w.heap.size)):
 Calls Tryz.prog 72 #[.pointer (some ⟨b,0,none⟩)] w (TokpEnd (numR s a) w):=by
 obtain⟨P,P1,a1,a2,d,H⟩:=NmH.of hs ha hdig hst hL hT hgl
 by_cases h48:byt s a=48
 ·by_cases hl1:a1<s.size
  ·by_cases q39:(s[a1].toNat:Int)=39
   ·exact Tryz.pnumA H h48 hl1 q39
   ·by_cases hL:(s[a1].toNat:Int)=98∨(s[a1].toNat:Int)=111∨(s[a1].toNat:Int)=120
    ·exact Tryz.pnumB H h48 hl1 q39 hL
    ·exact Tryz.pnumC H h48 hl1 q39 hL
  ·exact Tryz.pnumD H h48 hl1
 ·exact Tryz.pnumE H h48
end Go.Proofs
