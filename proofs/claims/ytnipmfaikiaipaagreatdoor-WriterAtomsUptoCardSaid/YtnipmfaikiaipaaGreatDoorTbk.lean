import Derived.Test.YtnipmfaikiaipaaGreatDoorTbf
import Derived.Test.YtnipmfaikiaipaaGreatDoorTbg
import Derived.Test.YtnipmfaikiaipaaGreatDoorTbi
set_option linter.unusedVariables false
set_option linter.unusedSimpArgs false
set_option maxRecDepth 1000000
set_option maxHeartbeats 40000000
namespace Go.Proofs
open Go.RowKit Go.Pf Go.Lx Go.Hb Go.Rb Go.Bg
theorem AL.ET {R:TR} {W W':World} {e:Ending}(h:AL R W e W'):∃(k:Int) (tx nu:ByteArray) (bits at_ en:Int) (ly:Bool) (p n:Int),e= .returned (.tuple #[AK k tx nu bits at_ en ly,.int .i64 p,.int .i64 n])/\(∀w w',Below w.heap.size w w'->AL R w (.returned (.tuple #[AK k tx nu bits at_ en ly,.int .i64 p,.int .i64 n])) w')/\Below W.heap.size W W':=by
 obtain⟨R',hs,h1,h2⟩:=h;cases R' with
 |ok k tx nu bits a en=>exact⟨_,_,_,_,_,_,_,_,_,h1,fun w w' hb=>⟨_,hs,rfl,hb⟩,h2⟩
 |err p n=>
  obtain⟨k,tx,nu,bits,at_,en,ly,h1⟩:=h1;exact⟨_,_,_,_,_,_,_,_,_,h1,fun w w' hb=>⟨_,hs,⟨_,_,_,_,_,_,_,rfl⟩,hb⟩,h2⟩
theorem BN.ET {R:TR} {W W':World} {e:Ending}(h:BN (some R) W e W'):∃(k:Int) (tx nu:ByteArray) (bits at_ en:Int) (ly:Bool) (p n:Int),e= .returned (.tuple #[AK k tx nu bits at_ en ly,.int .i64 p,.int .i64 n,.bool true])/\(∀w w',Below w.heap.size w w'->AL R w (.returned (.tuple #[AK k tx nu bits at_ en ly,.int .i64 p,.int .i64 n])) w')/\Below W.heap.size W W':=by
 obtain⟨h1,h2⟩:=h;cases R with
 |ok k tx nu bits a en=>exact⟨_,_,_,_,_,_,_,_,_,h1,fun w w' hb=>⟨_,.inl rfl,rfl,hb⟩,h2⟩
 |err p n=>
  obtain⟨k,tx,nu,bits,at_,en,ly,h1⟩:=h1;exact⟨_,_,_,_,_,_,_,_,_,h1,fun w w' hb=>⟨_,.inl rfl,⟨_,_,_,_,_,_,_,rfl⟩,hb⟩,h2⟩
theorem BN.cd {W W':World} {e:Ending}(h:BN none W e W'):∃(k:Int) (tx nu:ByteArray) (bits at_ en:Int) (ly:Bool),e= .returned (.tuple #[AK k tx nu bits at_ en ly,.int .i64 0,.int .i64 0,.bool false])/\Below W.heap.size W W':=by
 obtain⟨⟨k,tx,nu,bits,at_,en,ly,h1⟩,h2⟩:=h;exact⟨_,_,_,_,_,_,_,h1,h2⟩
structure NW (w:World) (b:Nat) (s:ByteArray) (a:Nat) (W:World):Prop where
 f:FW w b s a W
 ld:Aj W
theorem NW.call {w:World} {b:Nat} {s:ByteArray} {a:Nat} {W W':World}(h:NW w b s a W) (hbw:b<w.heap.size) (hb:Below W.heap.size W W'):NW w b s a W':=⟨h.f.call hbw hb,h.ld.below hb⟩
theorem NW.drewN {w:World} {b:Nat} {s:ByteArray} {a:Nat} {W:World}(h:NW w b s a W) (n:Nat):NW w b s a (W.drewN n):=⟨h.f.drewN n,h.ld.drewN n⟩
theorem Qr {c:Nat}(h:AM c=true):Ah c=true:=by simp[Ah,h]
theorem QM {c:Nat}(h:A6 c=true):Ah c=true:=by simp[A6]at h;simp[Ah,AM];omega
theorem QH {c:Nat}(h:DO c=true):Ah c=true:=by simp[DO]at h;simp[Ah,AM];omega
theorem KD {p:Nat->Bool} {s:ByteArray} {f r t:Nat}(hp:∀c,p c=true->CK c<r) (hx:∀c,p c=true->Ah c=true) (hf:f<=s.size) (ht:t=AF p s f):∀k,f<=k->k<t->Ah (AE s k).toNat=true/\CK (AE s k).toNat<r:=by
 intro k h1 h2;have h3:=Ai p s f hf;have h4:p (AE s k).toNat=true:=by
  rw[AO s k (by omega),IT];exact Bv (a:=f) k (by omega) h1 (by omega)
 exact⟨hx _ h4,hp _ h4⟩
theorem KN {s:ByteArray} {a:Nat}(h:¬(AE s a=48/\AE s (a+1)=39)):DU s a=none:=by
 unfold DU;by_cases h1:AE s a=48
 ·rw[if_pos (.inr (.inl (fun h2=>h ⟨h1,h2⟩)))]
 ·rw[if_pos (.inl h1)]
theorem XU {s:ByteArray} {a:Nat} {R:TR}(h:DU s a=some R):F7 s a=R:=by unfold F7;rw[h]
def FG (s:ByteArray) (a:Nat):Prop:=AE s (AF AM s a)=46/\AM (AE s (AF AM s a+1)).toNat=true
instance (s:ByteArray) (a:Nat):Decidable (FG s a):=by unfold FG;exact inferInstance
theorem Yf {s:ByteArray} {a:Nat}(h0:AE s a=48){c r:Nat} {p:Nat->Bool}(hc:(c=98/\r=2/\p=DO)\/(c=111/\r=8/\p=A6)\/(c=120/\r=16/\p=Ah)) (h1:AE s (a+1)=c):
 F7 s a=if a+2<AF p s (a+2)then B5 s a (a+2) (AF p s (a+2)) r else if FG s a then E4 s a (AF AM s a)else B5 s a a (AF AM s a) 10:=by
 unfold F7;rw[KN (by omega)];simp only;unfold FG;rcases hc with⟨rfl,rfl,rfl⟩|⟨rfl,rfl,rfl⟩|⟨rfl,rfl,rfl⟩
 ·by_cases h:a+2<AF DO s (a+2)
  ·rw[if_pos ⟨h0,h1,h⟩,if_pos h]
  ·rw[if_neg (fun k=>h k.2.2),if_neg h,if_neg (fun k=>by have:=k.2.1;omega),if_neg (fun k=>by have:=k.2.1;omega)]
 ·rw[if_neg (fun k=>by have:=k.2.1;omega)];by_cases h:a+2<AF A6 s (a+2)
  ·rw[if_pos ⟨h0,h1,h⟩,if_pos h]
  ·rw[if_neg (fun k=>h k.2.2),if_neg h,if_neg (fun k=>by have:=k.2.1;omega)]
 ·rw[if_neg (fun k=>by have:=k.2.1;omega),if_neg (fun k=>by have:=k.2.1;omega)];by_cases h:a+2<AF Ah s (a+2)
  ·rw[if_pos ⟨h0,h1,h⟩,if_pos h]
  ·rw[if_neg (fun k=>h k.2.2),if_neg h]
theorem KM {s:ByteArray} {a:Nat}(h:DU s a=none) (h2:¬(AE s a=48/\(AE s (a+1)=98\/AE s (a+1)=111\/AE s (a+1)=120))):
 F7 s a=if FG s a then E4 s a (AF AM s a)else B5 s a a (AF AM s a) 10:=by
 unfold F7;rw[h];simp only;unfold FG;rw[if_neg (fun k=>h2 ⟨k.1,.inl k.2.1⟩),if_neg (fun k=>h2 ⟨k.1,.inr (.inl k.2.1)⟩),if_neg (fun k=>h2 ⟨k.1,.inr (.inr k.2.1)⟩)]
theorem Rl {s:ByteArray} {a P P1:Nat}(h1:P1=P+1) (hP:P=AF AM s a) (h:¬FG s a):
 (∃(l2:P1<s.size) (l3:P<s.size),(P1:Int)<s.size/\(P:Int)<s.size/\((s[P].toNat:Int)==46)=true/\Hid (∀w,Calls Tryz.prog 71 #[.int .u8 s[P1].toNat] w (AD false w)))\/(∃(_:P1<s.size) (l3:P<s.size),(P1:Int)<s.size/\(P:Int)<s.size/\((s[P].toNat:Int)==46)=false)\/¬(P1:Int)<s.size:=by
 unfold FG at h;rw[<-hP,<-h1]at h;by_cases hl:P1<s.size
 ·have l3:P<s.size:=by omega
  rw[AO s P l3,AO s P1 hl,IT]at h;by_cases h46:(s[P].toNat:Int)=46
  ·have hd:AM s[P1].toNat=false:=by
    cases hx:AM s[P1].toNat with
    |false=>rfl
    |true=>exact absurd ⟨h46,hx⟩ h
   exact .inl ⟨hl,l3,by omega,by omega,beq_of_eq h46,Hi (fun w=>by rw[<-hd];exact FQ _ w)⟩
  ·exact .inr (.inl ⟨hl,l3,by omega,by omega,AA h46⟩)
 ·exact .inr (.inr (by omega))
theorem PG {s:ByteArray} {P P1:Nat}(h1:P1=P+1) (h:¬AE s P=46):(∃(_:P1<s.size) (l3:P<s.size),(P1:Int)<s.size/\(P:Int)<s.size/\((s[P].toNat:Int)==46)=false)\/¬(P1:Int)<s.size:=by
 by_cases hl:P1<s.size
 ·have l3:P<s.size:=by omega
  rw[AO s P l3]at h;exact .inl ⟨hl,l3,by omega,by omega,AA h⟩
 ·exact .inr (by omega)
theorem row_one {s:ByteArray} {a:Nat}(ha:a<s.size) (h1:AM (AE s a).toNat=true) (h2:AM (AE s (a+1)).toNat=false):AF AM s a=a+1:=by
 rw[AO s a ha,IT]at h1;rw[Af ha h1];exact(Lk rfl).2 h2
structure Zw (b:Nat) (s:ByteArray) (a:Nat) (w:World) (R:TR) (P P1 a1 a2:Nat) (d:ByteArray):Prop where
 hs:s.size<=100000000
 ha:a<s.size
 Db:Hid (AM (AE s a).toNat=true)
 hb:b<w.heap.size
 HR:Hid (R=F7 s a)
 LO:Hid (P=AF AM s a)
 Zv:P<=s.size
 Zf:a<P
 HP:Hid (∀k,a<=k->k<P->Ah (AE s k).toNat=true/\CK (AE s k).toNat<10)
 Nw:Hid (P1=P+1)
 fC:(P:Int)+1=P1
 F0:Hid (a1=a+1)
 XM:(a:Int)+1=a1
 Iz:Hid (a2=a+2)
 dY:(a:Int)+2=a2
 eO:P1<=100000001
 dB:a2<=100000001
 ai:(a:Int)<s.size
 P9:Hid (∀w,Calls Tryz.prog 75 #[.string s,.int .i64 a,.func (.func 71) #[] #[]] w (Ag P w))
 Ud:Hid (∀w:World,(Instr.slice 9 (.string s) (some (.int .i64 (a:Int))) (some (.int .i64 (P:Int))) none).run Tryz.prog w= .ok (.string d) w)
 XL:Hid (∀W,NW w b s a W->R=B5 s a a P 10->∀n,Calls Tryz.prog 117 #[.pointer (some ⟨b,0,none⟩),.string d,.int .i64 10,.int .i64 P] (W.drewN n) (AL R (W.drewN n)))
 Uc:Hid (∀W1,W1=w.alloc (.cells #[.int .i64 0,.string ⟨#[]⟩,.string ⟨#[]⟩,.int .u64 0,.int .i64 0,.int .i64 0,.bool false] 30)->NW w b s a W1)
 Gx:Hid (Tryz.prog.globals.size<=w.heap.size)
theorem Zw.of {b:Nat} {s:ByteArray} {a:Nat} {w:World}(hs:s.size<=100000000) (ha:a<s.size) (Db:Hid (AM (AE s a).toNat=true)) (hst:Hid (St w b s a)) (hL:Hid (Aj w)) (hT:Hid (Dl w w.heap.size)) (Gx:Hid (Tryz.prog.globals.size<=w.heap.size)):
 ∃P P1 a1 a2 d,Zw b s a w (F7 s a) P P1 a1 a2 d:=by
 obtain⟨P,hP⟩:∃P,P=AF AM s a:=⟨_,rfl⟩;have Zv:P<=s.size:=by rw[hP];exact Ai AM s a (by omega)
 have Zf:a<P:=by
  have h1:=Db.out;rw[AO s a ha,IT]at h1;rw[hP,Af ha h1];exact Ae AM s (a+1)
 have HP:=KD (r:=10) (fun c h=>Ed h) (fun c h=>Qr h) (by omega) hP;refine⟨P,P+1,a+1,a+2,s.extract a P,hs,ha,Db,hst.out.lt,Hi rfl,Hi hP,Zv,Zf,Hi HP,Hi rfl,by omega,Hi rfl,by omega,Hi rfl,by omega,by omega,by omega,by omega,Hi (fun w=>by rw[hP];exact Mn s a w (by omega) (by omega)),Hi ?_,Hi ?_,Hi ?_,Gx⟩
 ·intro w;have:=eE (P:=Tryz.prog) (w:=w) 9 s .i64 .i64 (a:Int) (P:Int) Tryz.underlying9 (by omega) (by omega) (by omega);rw[show((a:Int)).toNat=a by omega,show((P:Int)).toNat=P by omega]at this;exact this
 ·intro W hQ hF n;rw[hF];exact Pk b a a P 10 s _ _ (Hi (hQ.drewN n).f.st) hs (by omega) Zf Zv (by omega) (by omega) (Hi HP) (Hi rfl)
 ·rintro W1 rfl;have bl:Below w.heap.size w (w.alloc (.cells #[.int .i64 0,.string ⟨#[]⟩,.string ⟨#[]⟩,.int .u64 0,.int .i64 0,.int .i64 0,.bool false] 30)):=(AH _ _).alloc (nR _) _;exact⟨⟨A8.new w,hst.out.below bl,bl,hT.out.next bl,by simp⟩,hL.out.below bl⟩
theorem df {b:Nat} {s:ByteArray} {a:Nat} {w:World} {R:TR} {P P1 a1 a2:Nat} {d:ByteArray}(H:Zw b s a w R P P1 a1 a2 d) (h48:AE s a=48) (hl1:a1<s.size) (q39:(s[a1].toNat:Int)=39):
 Calls Tryz.prog 72 #[.pointer (some ⟨b,0,none⟩)] w (AL R w):=by
 obtain⟨hs,ha,Db,hb,HR,LO,Zv,Zf,HP,Nw,fC,F0,XM,Iz,dY,eO,dB,ai,P9,Ud,XL,Uc,Gx⟩:=H;have g48:((s[a].toNat:Int)==48)=true:=beq_of_eq (by rw[AO s a ha]at h48;exact h48);have H48:=Hi h48;have li1:(a1:Int)<s.size:=by omega
 have hc1:AE s (a+1)=(s[a1].toNat:Int):=by rw[<-F0.out];exact AO s a1 hl1
 have HC1:=Hi hc1;clear h48 hc1;have k1:b<w.heap.size+1:=by omega
 go_enter Tryz.func72,Tryz.ntmps72;go_wp2;generalize hW1:w.alloc _=W1;have Q1:Hid (NW w b s a W1):=Hi (Uc.out W1 hW1.symm);clear hW1;have HQN:Hid (∀n,NW w b s a (W1.drewN n)):=Hi (fun n=>Q1.out.drewN n);have C0:=Q1.out.f.st.c0;have C1:=Q1.out.f.st.c1;refine wp_region_still_tail 8 (by kernel_rfl) (by kernel_rfl) ?_;simp only[List.take_succ_cons,List.take_zero,List.drop_succ_cons,gU];change wpStill _ _ W1.drew _ _ _
 repeat still_step
 refine wpStill_nil ?_;change wpList _ _ _ _ _ W1.drew
 go_wp2_with (go_at_call 75;(with_reducible refine(P9.out _).mono ?_);rintro e' w' ⟨rfl,rfl⟩)
 go_quiet (fail)
 go_wp2
 go_quiet (fail)
 have g39:((s[a1].toNat:Int)==39)=true:=beq_of_eq (by omega);have g98:((s[a1].toNat:Int)==98)=false:=AA (by omega);have g111:((s[a1].toNat:Int)==111)=false:=AA (by omega);have g120:((s[a1].toNat:Int)==120)=false:=AA (by omega);have gn:((s[a1].toNat:Int) !=39)=false:=BI q39;have h4839:Hid (AE s a=48/\AE s (a+1)=39):=Hi ⟨H48.out,by rw[HC1.out];exact q39⟩;have E6:=Q1.out.f.SD.e6;obtain⟨te,pe,e6⟩:=E6;have CC:Hid (∀n,Calls Tryz.prog 113 #[.pointer (some ⟨b,0,none⟩)] (W1.drewN n) (BN (DU s a) (W1.drewN n))):=Hi (fun n=>Qc b s a _ hs (by have:=F0.out;omega) h4839 (Hi (HQN.out n).f.st) (Hi (HQN.out n).ld) te pe (Hi e6) (Hi (To Gx.out (To (Nat.le_succ _) Q1.out.f.sz))));clear e6 q39;cases hcr:DU s a with
 |some R2=>
  have HRR:Hid (R=R2):=Hi (by rw[HR.out];exact XU hcr);rw[hcr]at CC;clear hcr
  go_upto_if 74 with(go_at_call 113;(with_reducible refine(CC.out _).mono ?_);rintro e W2 h;obtain⟨k,tx,nu,bits,at_,en,ly,pp,nn,rfl,he,b2⟩:=BN.ET h;unfold AK;have HE:=Hi he;have Q2:=Hi ((HQN.out _).call hb b2);clear h he b2)
  generalize hW3:W2.alloc _=W3;have Q3:Hid (NW w b s a W3):=Hi (by subst hW3;exact Q2.out.call hb ((AH _ _).alloc (nR _) _));have p3:W3.heap[W2.heap.size]? =some (.cells #[.int .i64 k,.string tx,.string nu,.int .u64 bits,.int .i64 at_,.int .i64 en,.bool ly] 30 (0,0)):=by subst hW3;exact dk W2 _
  have TB:Hid (F9 W3 W2.heap.size k tx nu bits at_ en ly):=Hi ⟨p3⟩;have lt2:w.heap.size<W2.heap.size:=Q2.out.f.sz;have QE:=Q3;clear hW3 p3;obtain⟨x10,x11,x12,x13,x14,x15,x16⟩:=TB.out.cs;obtain⟨x00,x01,x02,x03,x04,x05,x06⟩:=Q3.out.f.t0.cs;obtain⟨y00,y01,y02,y03,y04,y05,y06⟩:=Q3.out.f.t0.fs;go_wp2;refine AI (v:= .tuple #[AK k tx nu bits at_ en ly,.int .i64 pp,.int .i64 nn]) ?_ rfl (HRR.out▸HE.out _ _ (AJ QE.out.f.Ad (nR _) _ _ _ _ _ _ _))
  ·simp only[results,Tryz.results72];go_simp
   try rfl
 |none=>
  rw[hcr]at CC;have PP:Hid (P=a1):=Hi (by rw[LO.out,F0.out];refine row_one ha Db.out ?_;rw[h4839.out.2];decide);have HR2:Hid (R=if FG s a then E4 s a P else B5 s a a P 10):=Hi (by rw[HR.out,LO.out];exact KM hcr (by rintro⟨_,h|h|h⟩<;>(have:=h4839.out.2;omega)));have h46n:¬AE s P=46:=by rw[PP.out,F0.out,h4839.out.2];decide
  clear hcr
  go_upto_if 74 with(go_at_call 113;(with_reducible refine(CC.out _).mono ?_);rintro e W2 h;obtain⟨k,tx,nu,bits,at_,en,ly,rfl,b2⟩:=BN.cd h;unfold AK;have Q2:=Hi ((HQN.out _).call hb b2);clear h b2)
  generalize hW3:W2.alloc _=W3;have Q3:Hid (NW w b s a W3):=Hi (by subst hW3;exact Q2.out.call hb ((AH _ _).alloc (nR _) _));clear hW3 C0 C1 Q1 HQN;have HQN:Hid (∀n,NW w b s a (W3.drewN n)):=Hi (fun n=>Q3.out.drewN n);have C0:=Q3.out.f.st.c0;have C1:=Q3.out.f.st.c1;obtain⟨TH,hTH⟩:∃T,T=AF Ah s a2:=⟨_,rfl⟩;have CPh:Hid (∀w,Calls Tryz.prog 75 #[.string s,.int .i64 a2,.func (.func 114) #[] #[]] w (Ag TH w)):=Hi (fun w=>by rw[hTH];exact Nh s a2 w (by omega) (by omega));have bTH:TH<=100000001:=by
   rcases BY s.size a2 with h|h
   ·rw[hTH,Ac (by omega)];omega
   ·have:=Ai Ah s a2 h;omega
  have hge:a2<=TH:=by rw[hTH];exact Ae _ _ _
  clear hTH CC;go_wp2
  go_quiet (fail)
  go_wp2;refine wp_region_still_tail 10 (by kernel_rfl) (by kernel_rfl) ?_;simp only[List.take_succ_cons,List.take_zero,List.drop_succ_cons,gU];change wpStill _ _ (World.drew _) _ _ _
  repeat still_step
  refine wpStill_nil ?_;change wpList _ _ _ _ _ (World.drew _)
  go_wp2_with (go_at_call 75;(with_reducible refine(CPh.out _).mono ?_);rintro e' w' ⟨rfl,rfl⟩)
  clear CPh;have KEY:(((a2:Int)<TH)/\decide (a2<TH)=true/\decide ((a2:Int)<TH)=true)\/((¬(a2:Int)<TH)/\decide (a2<TH)=false/\decide ((a2:Int)<TH)=false):=by
   by_cases h:a2<TH
   ·exact .inl ⟨by omega,AN h,AN (by omega)⟩
   ·exact .inr ⟨by omega,AS h,AS (by omega)⟩
  rcases KEY with⟨v1,v2,v3⟩|⟨v1,v2,v3⟩
  all_goals
   go_quiet (fail)
   by_cases hD:FG s a
   ·exact absurd (by rw[LO.out];exact hD.1) h46n
   have HF:Hid (R=B5 s a a P 10):=Hi (by rw[HR2.out];exact if_neg hD);have KEY:=PG Nw.out h46n;clear hD;have hsl:=Ud.out;have HC:=Hi (XL.out _ Q3.out HF.out);rcases KEY with⟨l2,l3,l1,l4,t46⟩|l1
   all_goals
    go_wp2_with fail
    go_region_with (go_at_call 117;(with_reducible refine(HC.out _).mono ?_);rintro e W9 h;obtain⟨k,tx,nu,bits,at_,en,ly,pp,nn,rfl,he,b3⟩:=AL.ET h;unfold AK;have HE:=Hi he;have QE:=Hi ((HQN.out _).call hb b3);obtain⟨x00,x01,x02,x03,x04,x05,x06⟩:=QE.out.f.t0.cs;obtain⟨y00,y01,y02,y03,y04,y05,y06⟩:=QE.out.f.t0.fs;clear h b3 he)
    all_goals
     go_wp2;refine AI (v:= .tuple #[AK k tx nu bits at_ en ly,.int .i64 pp,.int .i64 nn]) ?_ rfl (HE.out _ _ (AJ QE.out.f.Ad (nR _) _ _ _ _ _ _ _))
     ·simp only[results,Tryz.results72];go_simp
      try rfl
theorem eZ {b:Nat} {s:ByteArray} {a:Nat} {w:World} {R:TR} {P P1 a1 a2:Nat} {d:ByteArray}(H:Zw b s a w R P P1 a1 a2 d) (h48:AE s a=48) (hl1:a1<s.size) (q39:¬(s[a1].toNat:Int)=39) (hL:(s[a1].toNat:Int)=98\/(s[a1].toNat:Int)=111\/(s[a1].toNat:Int)=120):
 Calls Tryz.prog 72 #[.pointer (some ⟨b,0,none⟩)] w (AL R w):=by
 obtain⟨hs,ha,Db,hb,HR,LO,Zv,Zf,HP,Nw,fC,F0,XM,Iz,dY,eO,dB,ai,P9,Ud,XL,Uc,Gx⟩:=H;have g48:((s[a].toNat:Int)==48)=true:=beq_of_eq (by rw[AO s a ha]at h48;exact h48);have H48:=Hi h48;have li1:(a1:Int)<s.size:=by omega
 have hc1:AE s (a+1)=(s[a1].toNat:Int):=by rw[<-F0.out];exact AO s a1 hl1
 have HC1:=Hi hc1;clear h48 hc1;have PP:Hid (P=a1):=Hi (by rw[LO.out,F0.out];refine row_one ha Db.out ?_;rw[HC1.out];rcases hL with h|h|h<;>rw[h]<;>rfl);have h46n:¬AE s P=46:=by rw[PP.out,F0.out,HC1.out];omega
 obtain⟨r,TO,ri,hri,bTO,hge,HT,hL⟩:∃(r TO:Nat) (ri:Int),(r:Int)=ri/\TO<=s.size/\a2<=TO/\Hid (2<=r/\r<=16/\(∀k,a2<=k->k<TO->Ah (AE s k).toNat=true/\CK (AE s k).toNat<r)/\(R=if a2<TO then B5 s a a2 TO r else if FG s a then E4 s a P else B5 s a a P 10))/\
  ((ri=2/\((s[a1].toNat:Int)==98)=true/\Hid (∀w,Calls Tryz.prog 75 #[.string s,.int .i64 a2,.func (.func 115) #[] #[]] w (Ag TO w)))\/(ri=8/\((s[a1].toNat:Int)==98)=false/\((s[a1].toNat:Int)==111)=true/\Hid (∀w,Calls Tryz.prog 75 #[.string s,.int .i64 a2,.func (.func 116) #[] #[]] w (Ag TO w)))\/(ri=16/\((s[a1].toNat:Int)==98)=false/\((s[a1].toNat:Int)==111)=false/\((s[a1].toNat:Int)==120)=true/\Hid (∀w,Calls Tryz.prog 75 #[.string s,.int .i64 a2,.func (.func 114) #[] #[]] w (Ag TO w)))):=by
  have e1:=F0.out;have e2:=Iz.out;have ha2s:a2<=s.size:=by omega
  have A1:∀(r:Nat) (p:Nat->Bool),(AE s (a+1)=(98:Nat)/\r=2/\p=DO)\/(AE s (a+1)=(111:Nat)/\r=8/\p=A6)\/(AE s (a+1)=(120:Nat)/\r=16/\p=Ah)->AF p s a2<=s.size/\a2<=AF p s a2/\Hid (2<=r/\r<=16/\(∀k,a2<=k->k<AF p s a2->Ah (AE s k).toNat=true/\CK (AE s k).toNat<r)/\(R=if a2<AF p s a2 then B5 s a a2 (AF p s a2) r else if FG s a then E4 s a P else B5 s a a P 10)):=by
   intro r p h;refine⟨Ai p s a2 ha2s,Ae _ _ _,Hi ⟨by omega,by omega,?_,?_⟩⟩
   ·rcases h with⟨_,rfl,rfl⟩|⟨_,rfl,rfl⟩|⟨_,rfl,rfl⟩
    ·exact KD (fun c h=>SS h) (fun c h=>QH h) ha2s rfl
    ·exact KD (fun c h=>Mk h) (fun c h=>QM h) ha2s rfl
    ·exact KD (fun c h=>Nc h) (fun c h=>h) ha2s rfl
   ·rw[HR.out,LO.out,e2];rcases h with⟨h,rfl,rfl⟩|⟨h,rfl,rfl⟩|⟨h,rfl,rfl⟩<;>exact Yf H48.out (by simp) h
  rw[HC1.out]at A1;rcases hL with h|h|h
  ·exact⟨2,_,_,rfl,(A1 2 DO (.inl ⟨h,rfl,rfl⟩)).1,(A1 2 DO (.inl ⟨h,rfl,rfl⟩)).2.1,(A1 2 DO (.inl ⟨h,rfl,rfl⟩)).2.2,.inl ⟨rfl,beq_of_eq h,Hi (fun w=>YL s a2 w (by omega) (by omega))⟩⟩
  ·exact⟨8,_,_,rfl,(A1 8 A6 (.inr (.inl ⟨h,rfl,rfl⟩))).1,(A1 8 A6 (.inr (.inl ⟨h,rfl,rfl⟩))).2.1,(A1 8 A6 (.inr (.inl ⟨h,rfl,rfl⟩))).2.2,.inr (.inl ⟨rfl,AA (by omega),beq_of_eq h,Hi (fun w=>Rm s a2 w (by omega) (by omega))⟩)⟩
  ·exact⟨16,_,_,rfl,(A1 16 Ah (.inr (.inr ⟨h,rfl,rfl⟩))).1,(A1 16 Ah (.inr (.inr ⟨h,rfl,rfl⟩))).2.1,(A1 16 Ah (.inr (.inr ⟨h,rfl,rfl⟩))).2.2,.inr (.inr ⟨rfl,AA (by omega),AA (by omega),beq_of_eq h,Hi (fun w=>Nh s a2 w (by omega) (by omega))⟩)⟩
 have g39:((s[a1].toNat:Int)==39)=false:=AA q39;have gn:((s[a1].toNat:Int) !=39)=true:=Cd q39;clear q39;obtain⟨d2,HSL2,HC2⟩:∃d2,Hid (∀w:World,(Instr.slice 9 (.string s) (some (.int .i64 (a2:Int))) (some (.int .i64 (TO:Int))) none).run Tryz.prog w= .ok (.string d2) w)/\Hid (∀W1 n,NW w b s a W1->a2<TO->Calls Tryz.prog 117 #[.pointer (some ⟨b,0,none⟩),.string d2,.int .i64 ri,.int .i64 TO] (W1.drewN n) (AL R (W1.drewN n))):=by
  refine⟨s.extract a2 TO,Hi (fun w=> ?_),Hi (fun W1 n hQ hlt=> ?_)⟩
  ·have:=eE (P:=Tryz.prog) (w:=w) 9 s .i64 .i64 (a2:Int) (TO:Int) Tryz.underlying9 (by omega) (by omega) (by omega);rw[show((a2:Int)).toNat=a2 by omega,show((TO:Int)).toNat=TO by omega]at this;exact this
  ·rw[HT.out.2.2.2,if_pos hlt,<-hri];exact Pk b a a2 TO r s _ _ (Hi (hQ.drewN n).f.st) hs (by omega) hlt bTO HT.out.1 HT.out.2.1 (Hi HT.out.2.2.1) (Hi rfl)
 clear hri;have hw2:IntKind.i64.wrap (a2:Int)=(a2:Int):=gV _ (by omega);have k1:b<w.heap.size+1:=by omega
 go_enter Tryz.func72,Tryz.ntmps72;go_wp2;generalize hW1:w.alloc _=W1;have Q1:Hid (NW w b s a W1):=Hi (Uc.out W1 hW1.symm);clear hW1;have HQN:Hid (∀n,NW w b s a (W1.drewN n)):=Hi (fun n=>Q1.out.drewN n);have C0:=Q1.out.f.st.c0;have C1:=Q1.out.f.st.c1;refine wp_region_still_tail 8 (by kernel_rfl) (by kernel_rfl) ?_;simp only[List.take_succ_cons,List.take_zero,List.drop_succ_cons,gU];change wpStill _ _ W1.drew _ _ _
 repeat still_step
 refine wpStill_nil ?_;change wpList _ _ _ _ _ W1.drew
 go_wp2_with (go_at_call 75;(with_reducible refine(P9.out _).mono ?_);rintro e' w' ⟨rfl,rfl⟩)
 have HC2:Hid (∀n,a2<TO->Calls Tryz.prog 117 #[.pointer (some ⟨b,0,none⟩),.string d2,.int .i64 ri,.int .i64 TO] (W1.drewN n) (AL R (W1.drewN n))):=Hi (fun n=>HC2.out W1 n Q1.out);rcases hL with⟨rfl,g98,CPr⟩|⟨rfl,g98,g111,CPr⟩|⟨rfl,g98,g111,g120,CPr⟩
 all_goals
  go_quiet (fail)
  go_wp2
  go_quiet (fail)
  go_wp2
  go_quiet (fail)
  go_wp2;refine wp_region_still_tail 10 (by kernel_rfl) (by kernel_rfl) ?_;simp only[List.take_succ_cons,List.take_zero,List.drop_succ_cons,gU];change wpStill _ _ (World.drew _) _ _ _
  repeat still_step
  refine wpStill_nil ?_;change wpList _ _ _ _ _ (World.drew _)
  go_wp2_with (go_at_call 75;(with_reducible refine(CPr.out _).mono ?_);rintro e' w' ⟨rfl,rfl⟩)
  clear CPr;by_cases hlt:a2<TO
  ·have v1:(a2:Int)<TO:=by omega
   have v2:decide (a2<TO)=true:=AN hlt;have v3:decide ((a2:Int)<TO)=true:=A5;have HC:=Hi (fun n=>HC2.out n hlt);have hsl:=HSL2.out;clear hlt
   go_quiet (fail)
   go_wp2_with fail
   go_region_with (go_at_call 117;(with_reducible refine(HC.out _).mono ?_);rintro e W3 h;obtain⟨k,tx,nu,bits,at_,en,ly,pp,nn,rfl,he,b3⟩:=AL.ET h;unfold AK;have HE:=Hi he;have QE:=Hi ((HQN.out _).call hb b3);obtain⟨x00,x01,x02,x03,x04,x05,x06⟩:=QE.out.f.t0.cs;obtain⟨y00,y01,y02,y03,y04,y05,y06⟩:=QE.out.f.t0.fs;clear h b3 he)
   all_goals
    go_wp2;refine AI (v:= .tuple #[AK k tx nu bits at_ en ly,.int .i64 pp,.int .i64 nn]) ?_ rfl (HE.out _ _ (AJ QE.out.f.Ad (nR _) _ _ _ _ _ _ _))
    ·simp only[results,Tryz.results72];go_simp
     try rfl
  ·have v1:¬(a2:Int)<TO:=by omega
   have v2:decide (a2<TO)=false:=AS hlt;have v3:decide ((a2:Int)<TO)=false:=BC;have HR2:Hid (R=if FG s a then E4 s a P else B5 s a a P 10):=Hi (by rw[HT.out.2.2.2,if_neg hlt]);clear hlt
   go_quiet (fail)
   by_cases hD:FG s a
   ·exact absurd (by rw[LO.out];exact hD.1) h46n
   have HF:Hid (R=B5 s a a P 10):=Hi (by rw[HR2.out];exact if_neg hD);have KEY:=PG Nw.out h46n;clear hD;have hsl:=Ud.out;have HC:=Hi (XL.out _ Q1.out HF.out);rcases KEY with⟨l2,l3,l1,l4,t46⟩|l1
   all_goals
    go_wp2_with fail
    go_region_with (go_at_call 117;(with_reducible refine(HC.out _).mono ?_);rintro e W3 h;obtain⟨k,tx,nu,bits,at_,en,ly,pp,nn,rfl,he,b3⟩:=AL.ET h;unfold AK;have HE:=Hi he;have QE:=Hi ((HQN.out _).call hb b3);obtain⟨x00,x01,x02,x03,x04,x05,x06⟩:=QE.out.f.t0.cs;obtain⟨y00,y01,y02,y03,y04,y05,y06⟩:=QE.out.f.t0.fs;clear h b3 he)
    all_goals
     go_wp2;refine AI (v:= .tuple #[AK k tx nu bits at_ en ly,.int .i64 pp,.int .i64 nn]) ?_ rfl (HE.out _ _ (AJ QE.out.f.Ad (nR _) _ _ _ _ _ _ _))
     ·simp only[results,Tryz.results72];go_simp
      try rfl
theorem eD {b:Nat} {s:ByteArray} {a:Nat} {w:World} {R:TR} {P P1 a1 a2:Nat} {d:ByteArray}(H:Zw b s a w R P P1 a1 a2 d) (h48:AE s a=48) (hl1:a1<s.size) (q39:¬(s[a1].toNat:Int)=39) (hL:¬((s[a1].toNat:Int)=98\/(s[a1].toNat:Int)=111\/(s[a1].toNat:Int)=120)):
 Calls Tryz.prog 72 #[.pointer (some ⟨b,0,none⟩)] w (AL R w):=by
 obtain⟨hs,ha,Db,hb,HR,LO,Zv,Zf,HP,Nw,fC,F0,XM,Iz,dY,eO,dB,ai,P9,Ud,XL,Uc,Gx⟩:=H;have g48:((s[a].toNat:Int)==48)=true:=beq_of_eq (by rw[AO s a ha]at h48;exact h48);have H48:=Hi h48;have li1:(a1:Int)<s.size:=by omega
 have hc1:AE s (a+1)=(s[a1].toNat:Int):=by rw[<-F0.out];exact AO s a1 hl1
 have HC1:=Hi hc1;clear h48 hc1;have g39:((s[a1].toNat:Int)==39)=false:=AA (by omega);have g98:((s[a1].toNat:Int)==98)=false:=AA (by omega);have g111:((s[a1].toNat:Int)==111)=false:=AA (by omega);have g120:((s[a1].toNat:Int)==120)=false:=AA (by omega);have HR2:Hid (R=if FG s a then E4 s a P else B5 s a a P 10):=Hi (by rw[HR.out,LO.out];refine KM (KN (by have:=HC1.out;omega)) ?_;rintro⟨_,h|h|h⟩<;>(have:=HC1.out;omega));clear q39 hL;have k1:b<w.heap.size+1:=by omega
 go_enter Tryz.func72,Tryz.ntmps72;go_wp2;generalize hW1:w.alloc _=W1;have Q1:Hid (NW w b s a W1):=Hi (Uc.out W1 hW1.symm);clear hW1;have HQN:Hid (∀n,NW w b s a (W1.drewN n)):=Hi (fun n=>Q1.out.drewN n);have C0:=Q1.out.f.st.c0;have C1:=Q1.out.f.st.c1;refine wp_region_still_tail 8 (by kernel_rfl) (by kernel_rfl) ?_;simp only[List.take_succ_cons,List.take_zero,List.drop_succ_cons,gU];change wpStill _ _ W1.drew _ _ _
 repeat still_step
 refine wpStill_nil ?_;change wpList _ _ _ _ _ W1.drew
 go_wp2_with (go_at_call 75;(with_reducible refine(P9.out _).mono ?_);rintro e' w' ⟨rfl,rfl⟩)
 go_quiet (fail)
 go_wp2
 go_quiet (fail)
 by_cases hD:FG s a
 ·have h46:AE s P=46:=by rw[LO.out];exact hD.1
  have hd2:AM (AE s P1).toNat=true:=by rw[Nw.out,LO.out];exact hD.2
  have l2:P1<s.size:=by
   rcases BY P1 s.size with h|h
   ·exact h
   ·rw[Am s P1 h]at hd2;exact absurd hd2 (by decide)
  have l3:P<s.size:=by omega
  have l1:(P1:Int)<s.size:=by omega
  have l4:(P:Int)<s.size:=by omega
  have t46:((s[P].toNat:Int)==46)=true:=beq_of_eq (by rw[AO s P l3]at h46;exact h46);have C45:Hid (∀w,Calls Tryz.prog 71 #[.int .u8 s[P1].toNat] w (AD true w)):=Hi (fun w=>by
   rw[AO s P1 l2,IT]at hd2;rw[<-hd2];exact FQ _ w)
  have HF:Hid (R=E4 s a P):=Hi (by rw[HR2.out];exact if_pos hD);have HFP:Hid (ar s a P (AF AM s (P+1))):=Hi (WZ (by omega) LO.out Db.out h46 (by rw[<-Nw.out];exact hd2));have HC:Hid (∀n,Calls Tryz.prog 118 #[.pointer (some ⟨b,0,none⟩),.int .i64 P] (W1.drewN n) (AL R (W1.drewN n))):=Hi (fun n=>by
   rw[HF.out];exact WS b s a P _ hs (Hi (HQN.out n).f.st) (Hi (HQN.out n).f.SD) HFP)
  clear hD hd2 h46
  go_wp2_with (first
   | (go_at_call 71;(with_reducible refine(C45.out _).mono ?_);rintro e w' ⟨rfl,rfl⟩)
   | (go_at_call 118;(with_reducible refine(HC.out _).mono ?_)))
  rintro e W3 h;obtain⟨k,tx,nu,bits,at_,en,ly,pp,nn,rfl,he,b3⟩:=AL.ET h;unfold AK;have HE:=Hi he;have QE:=Hi ((HQN.out _).call hb b3);obtain⟨x00,x01,x02,x03,x04,x05,x06⟩:=QE.out.f.t0.cs;obtain⟨y00,y01,y02,y03,y04,y05,y06⟩:=QE.out.f.t0.fs;clear h b3 he;go_wp2;refine AI (v:= .tuple #[AK k tx nu bits at_ en ly,.int .i64 pp,.int .i64 nn]) ?_ rfl (HE.out _ _ (AJ QE.out.f.Ad (nR _) _ _ _ _ _ _ _))
  ·simp only[results,Tryz.results72];go_simp
   try rfl
 have HF:Hid (R=B5 s a a P 10):=Hi (by rw[HR2.out];exact if_neg hD);have KEY:=Rl Nw.out LO.out hD;clear hD;have hsl:=Ud.out;have HC:=Hi (XL.out _ Q1.out HF.out);rcases KEY with⟨l2,l3,l1,l4,t46,C45⟩|⟨l2,l3,l1,l4,t46⟩|l1
 all_goals
  go_wp2_with (go_at_call 71;(with_reducible refine(C45.out _).mono ?_);rintro e w' ⟨rfl,rfl⟩)
  go_region_with (go_at_call 117;(with_reducible refine(HC.out _).mono ?_);rintro e W3 h;obtain⟨k,tx,nu,bits,at_,en,ly,pp,nn,rfl,he,b3⟩:=AL.ET h;unfold AK;have HE:=Hi he;have QE:=Hi ((HQN.out _).call hb b3);obtain⟨x00,x01,x02,x03,x04,x05,x06⟩:=QE.out.f.t0.cs;obtain⟨y00,y01,y02,y03,y04,y05,y06⟩:=QE.out.f.t0.fs;clear h b3 he)
  all_goals
   go_wp2;refine AI (v:= .tuple #[AK k tx nu bits at_ en ly,.int .i64 pp,.int .i64 nn]) ?_ rfl (HE.out _ _ (AJ QE.out.f.Ad (nR _) _ _ _ _ _ _ _))
   ·simp only[results,Tryz.results72];go_simp
    try rfl
theorem dx {b:Nat} {s:ByteArray} {a:Nat} {w:World} {R:TR} {P P1 a1 a2:Nat} {d:ByteArray}(H:Zw b s a w R P P1 a1 a2 d) (h48:AE s a=48) (hl1:¬a1<s.size):
 Calls Tryz.prog 72 #[.pointer (some ⟨b,0,none⟩)] w (AL R w):=by
 obtain⟨hs,ha,Db,hb,HR,LO,Zv,Zf,HP,Nw,fC,F0,XM,Iz,dY,eO,dB,ai,P9,Ud,XL,Uc,Gx⟩:=H;have g48:((s[a].toNat:Int)==48)=true:=beq_of_eq (by rw[AO s a ha]at h48;exact h48);have H48:=Hi h48;have li1:¬(a1:Int)<s.size:=by omega
 have HR2:Hid (R=if FG s a then E4 s a P else B5 s a a P 10):=Hi (by rw[HR.out,LO.out];refine KM (KN ?_) ?_<;>(have h0:=Am s (a+1) (by have:=F0.out;omega);omega));clear h48;have h46n:¬AE s P=46:=by
  have h0:=F0.out;rw[Am s P (by omega)];decide
 have k1:b<w.heap.size+1:=by omega
 go_enter Tryz.func72,Tryz.ntmps72;go_wp2;generalize hW1:w.alloc _=W1;have Q1:Hid (NW w b s a W1):=Hi (Uc.out W1 hW1.symm);clear hW1;have HQN:Hid (∀n,NW w b s a (W1.drewN n)):=Hi (fun n=>Q1.out.drewN n);have C0:=Q1.out.f.st.c0;have C1:=Q1.out.f.st.c1;refine wp_region_still_tail 8 (by kernel_rfl) (by kernel_rfl) ?_;simp only[List.take_succ_cons,List.take_zero,List.drop_succ_cons,gU];change wpStill _ _ W1.drew _ _ _
 repeat still_step
 refine wpStill_nil ?_;change wpList _ _ _ _ _ W1.drew
 go_wp2_with (go_at_call 75;(with_reducible refine(P9.out _).mono ?_);rintro e' w' ⟨rfl,rfl⟩)
 go_quiet (fail)
 by_cases hD:FG s a
 ·exact absurd (by rw[LO.out];exact hD.1) h46n
 have HF:Hid (R=B5 s a a P 10):=Hi (by rw[HR2.out];exact if_neg hD);have l1:¬(P1:Int)<s.size:=by have h5:=F0.out;have h6:=Nw.out;omega
 clear hD;have hsl:=Ud.out;have HC:=Hi (XL.out _ Q1.out HF.out)
 go_wp2_with fail
 go_region_with (go_at_call 117;(with_reducible refine(HC.out _).mono ?_);rintro e W3 h;obtain⟨k,tx,nu,bits,at_,en,ly,pp,nn,rfl,he,b3⟩:=AL.ET h;unfold AK;have HE:=Hi he;have QE:=Hi ((HQN.out _).call hb b3);obtain⟨x00,x01,x02,x03,x04,x05,x06⟩:=QE.out.f.t0.cs;obtain⟨y00,y01,y02,y03,y04,y05,y06⟩:=QE.out.f.t0.fs;clear h b3 he)
 all_goals
  go_wp2;refine AI (v:= .tuple #[AK k tx nu bits at_ en ly,.int .i64 pp,.int .i64 nn]) ?_ rfl (HE.out _ _ (AJ QE.out.f.Ad (nR _) _ _ _ _ _ _ _))
  ·simp only[results,Tryz.results72];go_simp
   try rfl
theorem fE {b:Nat} {s:ByteArray} {a:Nat} {w:World} {R:TR} {P P1 a1 a2:Nat} {d:ByteArray}(H:Zw b s a w R P P1 a1 a2 d) (h48:¬AE s a=48):
 Calls Tryz.prog 72 #[.pointer (some ⟨b,0,none⟩)] w (AL R w):=by
 obtain⟨hs,ha,Db,hb,HR,LO,Zv,Zf,HP,Nw,fC,F0,XM,Iz,dY,eO,dB,ai,P9,Ud,XL,Uc,Gx⟩:=H;have g48:((s[a].toNat:Int)==48)=false:=AA (by rw[AO s a ha]at h48;exact h48);have HR2:Hid (R=if FG s a then E4 s a P else B5 s a a P 10):=Hi (by rw[HR.out,LO.out];exact KM (KN (fun h=>h48 h.1)) (fun h=>h48 h.1));clear h48;have k1:b<w.heap.size+1:=by omega
 go_enter Tryz.func72,Tryz.ntmps72;go_wp2;generalize hW1:w.alloc _=W1;have Q1:Hid (NW w b s a W1):=Hi (Uc.out W1 hW1.symm);clear hW1;have HQN:Hid (∀n,NW w b s a (W1.drewN n)):=Hi (fun n=>Q1.out.drewN n);have C0:=Q1.out.f.st.c0;have C1:=Q1.out.f.st.c1;refine wp_region_still_tail 8 (by kernel_rfl) (by kernel_rfl) ?_;simp only[List.take_succ_cons,List.take_zero,List.drop_succ_cons,gU];change wpStill _ _ W1.drew _ _ _
 repeat still_step
 refine wpStill_nil ?_;change wpList _ _ _ _ _ W1.drew
 go_wp2_with (go_at_call 75;(with_reducible refine(P9.out _).mono ?_);rintro e' w' ⟨rfl,rfl⟩)
 go_quiet (fail)
 by_cases hD:FG s a
 ·have h46:AE s P=46:=by rw[LO.out];exact hD.1
  have hd2:AM (AE s P1).toNat=true:=by rw[Nw.out,LO.out];exact hD.2
  have l2:P1<s.size:=by
   rcases BY P1 s.size with h|h
   ·exact h
   ·rw[Am s P1 h]at hd2;exact absurd hd2 (by decide)
  have l3:P<s.size:=by omega
  have l1:(P1:Int)<s.size:=by omega
  have l4:(P:Int)<s.size:=by omega
  have t46:((s[P].toNat:Int)==46)=true:=beq_of_eq (by rw[AO s P l3]at h46;exact h46);have C45:Hid (∀w,Calls Tryz.prog 71 #[.int .u8 s[P1].toNat] w (AD true w)):=Hi (fun w=>by
   rw[AO s P1 l2,IT]at hd2;rw[<-hd2];exact FQ _ w)
  have HF:Hid (R=E4 s a P):=Hi (by rw[HR2.out];exact if_pos hD);have HFP:Hid (ar s a P (AF AM s (P+1))):=Hi (WZ (by omega) LO.out Db.out h46 (by rw[<-Nw.out];exact hd2));have HC:Hid (∀n,Calls Tryz.prog 118 #[.pointer (some ⟨b,0,none⟩),.int .i64 P] (W1.drewN n) (AL R (W1.drewN n))):=Hi (fun n=>by
   rw[HF.out];exact WS b s a P _ hs (Hi (HQN.out n).f.st) (Hi (HQN.out n).f.SD) HFP)
  clear hD hd2 h46
  go_wp2_with (first
   | (go_at_call 71;(with_reducible refine(C45.out _).mono ?_);rintro e w' ⟨rfl,rfl⟩)
   | (go_at_call 118;(with_reducible refine(HC.out _).mono ?_)))
  rintro e W3 h;obtain⟨k,tx,nu,bits,at_,en,ly,pp,nn,rfl,he,b3⟩:=AL.ET h;unfold AK;have HE:=Hi he;have QE:=Hi ((HQN.out _).call hb b3);obtain⟨x00,x01,x02,x03,x04,x05,x06⟩:=QE.out.f.t0.cs;obtain⟨y00,y01,y02,y03,y04,y05,y06⟩:=QE.out.f.t0.fs;clear h b3 he;go_wp2;refine AI (v:= .tuple #[AK k tx nu bits at_ en ly,.int .i64 pp,.int .i64 nn]) ?_ rfl (HE.out _ _ (AJ QE.out.f.Ad (nR _) _ _ _ _ _ _ _))
  ·simp only[results,Tryz.results72];go_simp
   try rfl
 have HF:Hid (R=B5 s a a P 10):=Hi (by rw[HR2.out];exact if_neg hD);have KEY:=Rl Nw.out LO.out hD;clear hD;have hsl:=Ud.out;have HC:=Hi (XL.out _ Q1.out HF.out);rcases KEY with⟨l2,l3,l1,l4,t46,C45⟩|⟨l2,l3,l1,l4,t46⟩|l1
 all_goals
  go_wp2_with (go_at_call 71;(with_reducible refine(C45.out _).mono ?_);rintro e w' ⟨rfl,rfl⟩)
  go_region_with (go_at_call 117;(with_reducible refine(HC.out _).mono ?_);rintro e W3 h;obtain⟨k,tx,nu,bits,at_,en,ly,pp,nn,rfl,he,b3⟩:=AL.ET h;unfold AK;have HE:=Hi he;have QE:=Hi ((HQN.out _).call hb b3);obtain⟨x00,x01,x02,x03,x04,x05,x06⟩:=QE.out.f.t0.cs;obtain⟨y00,y01,y02,y03,y04,y05,y06⟩:=QE.out.f.t0.fs;clear h b3 he)
  all_goals
   go_wp2;refine AI (v:= .tuple #[AK k tx nu bits at_ en ly,.int .i64 pp,.int .i64 nn]) ?_ rfl (HE.out _ _ (AJ QE.out.f.Ad (nR _) _ _ _ _ _ _ _))
   ·simp only[results,Tryz.results72];go_simp
    try rfl
theorem Yd (b:Nat) (s:ByteArray) (a:Nat) (w:World) (hs:s.size<=100000000) (ha:a<s.size) (Db:Hid (AM (AE s a).toNat=true)) (hst:Hid (St w b s a)) (hL:Hid (Aj w)) (hT:Hid (Dl w w.heap.size)) (Gx:Hid (Tryz.prog.globals.size<=w.heap.size)):
 Calls Tryz.prog 72 #[.pointer (some ⟨b,0,none⟩)] w (AL (F7 s a) w):=by
 obtain⟨P,P1,a1,a2,d,H⟩:=Zw.of hs ha Db hst hL hT Gx;by_cases h48:AE s a=48
 ·by_cases hl1:a1<s.size
  ·by_cases q39:(s[a1].toNat:Int)=39
   ·exact df H h48 hl1 q39
   ·by_cases hL:(s[a1].toNat:Int)=98\/(s[a1].toNat:Int)=111\/(s[a1].toNat:Int)=120
    ·exact eZ H h48 hl1 q39 hL
    ·exact eD H h48 hl1 q39 hL
  ·exact dx H h48 hl1
 ·exact fE H h48
end Go.Proofs
