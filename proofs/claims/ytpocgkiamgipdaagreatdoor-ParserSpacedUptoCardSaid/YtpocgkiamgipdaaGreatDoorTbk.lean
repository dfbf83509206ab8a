import Derived.Test.YtpocgkiamgipdaaGreatDoorTbi
set_option maxRecDepth 1000000
set_option maxHeartbeats 0
set_option linter.unusedVariables false
set_option linter.unusedSimpArgs false
open Go.Proofs.Tryz
namespace Go.Proofs
open Go.RowKit Go.Pf Go.Lx Go.Hb Go.Rb Go.Bg
theorem AK.Eo {R:TR} {W W':World} {e:Ending}(h:AK R W e W'):∃(k:Int) (tx nu:ByteArray) (bits at_ en:Int) (ly:Bool) (p n:Int),e= .returned (.tuple #[Ai k tx nu bits at_ en ly,.int .i64 p,.int .i64 n])/\(∀w w',Below w.heap.size w w'->AK R w (.returned (.tuple #[Ai k tx nu bits at_ en ly,.int .i64 p,.int .i64 n])) w')/\Below W.heap.size W W':=by
 obtain⟨h1,h2⟩:=h;cases R with
 |ok k tx nu bits a en=>exact⟨_,_,_,_,_,_,_,_,_,h1,fun w w' hb=>⟨rfl,hb⟩,h2⟩
 |err p n=>
  obtain⟨k,tx,nu,bits,at_,en,ly,h1⟩:=h1;exact⟨_,_,_,_,_,_,_,_,_,h1,fun w w' hb=>⟨⟨_,_,_,_,_,_,_,rfl⟩,hb⟩,h2⟩
theorem Bp.Eo {R:TR} {W W':World} {e:Ending}(h:Bp (some R) W e W'):∃(k:Int) (tx nu:ByteArray) (bits at_ en:Int) (ly:Bool) (p n:Int),e= .returned (.tuple #[Ai k tx nu bits at_ en ly,.int .i64 p,.int .i64 n,.bool true])/\(∀w w',Below w.heap.size w w'->AK R w (.returned (.tuple #[Ai k tx nu bits at_ en ly,.int .i64 p,.int .i64 n])) w')/\Below W.heap.size W W':=by
 obtain⟨h1,h2⟩:=h;cases R with
 |ok k tx nu bits a en=>exact⟨_,_,_,_,_,_,_,_,_,h1,fun w w' hb=>⟨rfl,hb⟩,h2⟩
 |err p n=>
  obtain⟨k,tx,nu,bits,at_,en,ly,h1⟩:=h1;exact⟨_,_,_,_,_,_,_,_,_,h1,fun w w' hb=>⟨⟨_,_,_,_,_,_,_,rfl⟩,hb⟩,h2⟩
theorem Bp.i7 {W W':World} {e:Ending}(h:Bp none W e W'):∃(k:Int) (tx nu:ByteArray) (bits at_ en:Int) (ly:Bool),e= .returned (.tuple #[Ai k tx nu bits at_ en ly,.int .i64 0,.int .i64 0,.bool false])/\Below W.heap.size W W':=by
 obtain⟨⟨k,tx,nu,bits,at_,en,ly,h1⟩,h2⟩:=h;exact⟨_,_,_,_,_,_,_,h1,h2⟩
structure NW (w:World) (b:Nat) (s:ByteArray) (a:Nat) (W:World):Prop where
 f:FW w b s a W
 ld:Ag W
theorem NW.call {w:World} {b:Nat} {s:ByteArray} {a:Nat} {W W':World}(h:NW w b s a W) (qq:b<w.heap.size) (hb:Below W.heap.size W W'):NW w b s a W':=⟨h.f.call qq hb,h.ld.below hb⟩
theorem NW.drewN {w:World} {b:Nat} {s:ByteArray} {a:Nat} {W:World}(h:NW w b s a W) (n:Nat):NW w b s a (W.drewN n):=⟨h.f.drewN n,h.ld.drewN n⟩
theorem Qh {c:Nat}(h:AQ c=true):A9 c=true:=by simp[A9,h]
theorem QC {c:Nat}(h:Cr c=true):A9 c=true:=by simp[Cr]at h;simp[A9,AQ];omega
theorem RY {c:Nat}(h:Fh c=true):A9 c=true:=by simp[Fh]at h;simp[A9,AQ];omega
theorem KP {p:Nat->Bool} {s:ByteArray} {f r t:Nat}(hp:∀c,p c=true->Cv c<r) (hx:∀c,p c=true->A9 c=true) (hf:f<=s.size) (ht:t=AF p s f):∀k,f<=k->k<t->A9 (AI s k).toNat=true/\Cv (AI s k).toNat<r:=by
 intro k h1 h2;have h3:=Bx p s f hf;have h4:p (AI s k).toNat=true:=by
  rw[AP s k (by omega),mB];exact FP (a:=f) k (by omega) h1 (by omega)
 exact⟨hx _ h4,hp _ h4⟩
theorem Jz {s:ByteArray} {a:Nat}(h:¬(AI s a=48/\AI s (a+1)=39)):De s a=none:=by
 unfold De;by_cases h1:AI s a=48
 ·rw[lQ (.inr (.inl (fun h2=>h ⟨h1,h2⟩)))]
 ·rw[lQ (.inl h1)]
theorem SM {s:ByteArray} {a:Nat} {R:TR}(h:De s a=some R):GL s a=R:=by unfold GL;rw[h]
def E4 (s:ByteArray) (a:Nat):Prop:=AI s (AF AQ s a)=46/\AQ (AI s (AF AQ s a+1)).toNat=true
instance (s:ByteArray) (a:Nat):Decidable (E4 s a):=by unfold E4;exact inferInstance
theorem J7 {s:ByteArray} {a:Nat}(h0:AI s a=48){c r:Nat} {p:Nat->Bool}(hc:(c=98/\r=2/\p=Fh)\/(c=111/\r=8/\p=Cr)\/(c=120/\r=16/\p=A9)) (h1:AI s (a+1)=c):
 GL s a=if a+2<AF p s (a+2)then Cy s a (a+2) (AF p s (a+2)) r else if E4 s a then Ek s a (AF AQ s a)else Cy s a a (AF AQ s a) 10:=by
 unfold GL;rw[Jz (by omega)];simp only;unfold E4;rcases hc with⟨rfl,rfl,rfl⟩|⟨rfl,rfl,rfl⟩|⟨rfl,rfl,rfl⟩
 ·by_cases h:a+2<AF Fh s (a+2)
  ·rw[lQ ⟨h0,h1,h⟩,lQ h]
  ·rw[lL (fun k=>h k.2.2),lL h,lL (fun k=>by have:=k.2.1;omega),lL (fun k=>by have:=k.2.1;omega)]
 ·rw[lL (fun k=>by have:=k.2.1;omega)];by_cases h:a+2<AF Cr s (a+2)
  ·rw[lQ ⟨h0,h1,h⟩,lQ h]
  ·rw[lL (fun k=>h k.2.2),lL h,lL (fun k=>by have:=k.2.1;omega)]
 ·rw[lL (fun k=>by have:=k.2.1;omega),lL (fun k=>by have:=k.2.1;omega)];by_cases h:a+2<AF A9 s (a+2)
  ·rw[lQ ⟨h0,h1,h⟩,lQ h]
  ·rw[lL (fun k=>h k.2.2),lL h]
theorem IF {s:ByteArray} {a:Nat}(h:De s a=none) (h2:¬(AI s a=48/\(AI s (a+1)=98\/AI s (a+1)=111\/AI s (a+1)=120))):
 GL s a=if E4 s a then Ek s a (AF AQ s a)else Cy s a a (AF AQ s a) 10:=by
 unfold GL;rw[h];simp only;unfold E4;rw[lL (fun k=>h2 ⟨k.1,.inl k.2.1⟩),lL (fun k=>h2 ⟨k.1,.inr (.inl k.2.1)⟩),lL (fun k=>h2 ⟨k.1,.inr (.inr k.2.1)⟩)]
theorem Rw {s:ByteArray} {a P P1:Nat}(h1:P1=P+1) (hP:P=AF AQ s a) (h:¬E4 s a):
 (∃(l2:P1<s.size) (l3:P<s.size),(P1:Int)<s.size/\(P:Int)<s.size/\((s[P].toNat:Int)==46)=true/\Hid (∀w,Calls prog 56 #[.int .u8 s[P1].toNat] w (AR false w)))\/(∃(_:P1<s.size) (l3:P<s.size),(P1:Int)<s.size/\(P:Int)<s.size/\((s[P].toNat:Int)==46)=false)\/¬(P1:Int)<s.size:=by
 unfold E4 at h;rw[<-hP,<-h1]at h;by_cases hl:P1<s.size
 ·have l3:P<s.size:=by omega
  rw[AP s P l3,AP s P1 hl,mB]at h;by_cases rZ:(s[P].toNat:Int)=46
  ·have hd:AQ s[P1].toNat=false:=by
    cases hx:AQ s[P1].toNat with
    |false=>rfl
    |true=>exact absurd ⟨rZ,hx⟩ h
   exact .inl ⟨hl,l3,by omega,by omega,beq_of_eq rZ,Hi (fun w=>by rw[<-hd];exact Ff _ w)⟩
  ·exact .inr (.inl ⟨hl,l3,by omega,by omega,AD rZ⟩)
 ·exact .inr (.inr (by omega))
theorem PK {s:ByteArray} {P P1:Nat}(h1:P1=P+1) (h:¬AI s P=46):(∃(_:P1<s.size) (l3:P<s.size),(P1:Int)<s.size/\(P:Int)<s.size/\((s[P].toNat:Int)==46)=false)\/¬(P1:Int)<s.size:=by
 by_cases hl:P1<s.size
 ·have l3:P<s.size:=by omega
  rw[AP s P l3]at h;exact .inl ⟨hl,l3,by omega,by omega,AD h⟩
 ·exact .inr (by omega)
theorem row_one {s:ByteArray} {a:Nat}(ha:a<s.size) (h1:AQ (AI s a).toNat=true) (h2:AQ (AI s (a+1)).toNat=false):AF AQ s a=a+1:=by
 rw[AP s a ha,mB]at h1;rw[Bb ha h1];exact(YL rfl).2 h2
structure dA (b:Nat) (s:ByteArray) (a:Nat) (w:World) (R:TR) (P P1 a1 a2:Nat) (d:ByteArray):Prop where
 hs:s.size<=100000000
 ha:a<s.size
 EM:Hid (AQ (AI s a).toNat=true)
 hb:b<w.heap.size
 HR:Hid (R=GL s a)
 Kl:Hid (P=AF AQ s a)
 cz:P<=s.size
 ct:a<P
 HP:Hid (∀k,a<=k->k<P->A9 (AI s k).toNat=true/\Cv (AI s k).toNat<10)
 Pu:Hid (P1=P+1)
 jO:(P:Int)+1=P1
 JY:Hid (a1=a+1)
 ay:(a:Int)+1=a1
 Is:Hid (a2=a+2)
 iR:(a:Int)+2=a2
 jK:P1<=100000001
 iJ:a2<=100000001
 ai:(a:Int)<s.size
 U3:Hid (∀w,Calls prog 60 #[.string s,.int .i64 a,.func (.func 56) #[] #[]] w (Cf P w))
 SC:Hid (∀w:World,(Instr.slice 9 (.string s) (some (.int .i64 (a:Int))) (some (.int .i64 (P:Int))) none).run prog w= .ok (.string d) w)
 P6:Hid (∀W,NW w b s a W->R=Cy s a a P 10->∀n,Calls prog 87 #[.pointer (some ⟨b,0,none⟩),.string d,.int .i64 10,.int .i64 P] (W.drewN n) (AK R (W.drewN n)))
 OR:Hid (∀W1,W1=w.alloc (.cells #[.int .i64 0,.string ⟨#[]⟩,.string ⟨#[]⟩,.int .u64 0,.int .i64 0,.int .i64 0,.bool false] 71)->NW w b s a W1)
 J5:Hid (Tryz.prog.globals.size<=w.heap.size)
theorem dA.of {b:Nat} {s:ByteArray} {a:Nat} {w:World}(hs:s.size<=100000000) (ha:a<s.size) (EM:Hid (AQ (AI s a).toNat=true)) (qk:Hid (St w b s a)) (hL:Hid (Ag w)) (hT:Hid (D3 w w.heap.size)) (J5:Hid (Tryz.prog.globals.size<=w.heap.size)):
 ∃P P1 a1 a2 d,dA b s a w (GL s a) P P1 a1 a2 d:=by
 obtain⟨P,hP⟩:∃P,P=AF AQ s a:=⟨_,rfl⟩;have cz:P<=s.size:=by rw[hP];exact Bx AQ s a (by omega)
 have ct:a<P:=by
  have h1:=EM.o;rw[AP s a ha,mB]at h1;rw[hP,Bb ha h1];exact BN AQ s (a+1)
 have HP:=KP (r:=10) (fun c h=>bA h) (fun c h=>Qh h) (by omega) hP;refine⟨P,P+1,a+1,a+2,s.extract a P,hs,ha,EM,qk.o.lt,Hi rfl,Hi hP,cz,ct,Hi HP,Hi rfl,by omega,Hi rfl,by omega,Hi rfl,by omega,by omega,by omega,by omega,Hi (fun w=>by rw[hP];exact OE s a w (by omega) (by omega)),Hi ?_,Hi ?_,Hi ?_,J5⟩
 ·intro w;have:=pW (P:=prog) (w:=w) 9 s .i64 .i64 (a:Int) (P:Int) mS (by omega) (by omega) (by omega);rw[show((a:Int)).toNat=a by omega,show((P:Int)).toNat=P by omega]at this;exact this
 ·intro W hQ hF n;rw[hF];exact PH b a a P 10 s _ _ (Hi (hQ.drewN n).f.st) hs (by omega) ct cz (by omega) (by omega) (Hi HP) (Hi rfl)
 ·rintro W1 rfl;have bl:Below w.heap.size w (w.alloc (.cells #[.int .i64 0,.string ⟨#[]⟩,.string ⟨#[]⟩,.int .u64 0,.int .i64 0,.int .i64 0,.bool false] 71)):=Bzz _;exact⟨⟨Gf.new w,qk.o.below bl,bl,hT.o.next bl,by simp⟩,hL.o.below bl⟩
theorem iZ {b:Nat} {s:ByteArray} {a:Nat} {w:World} {R:TR} {P P1 a1 a2:Nat} {d:ByteArray}(H:dA b s a w R P P1 a1 a2 d) (h48:AI s a=48) (tX:a1<s.size) (q39:(s[a1].toNat:Int)=39):
 Calls prog 57 #[.pointer (some ⟨b,0,none⟩)] w (AK R w):=by
 obtain⟨hs,ha,EM,hb,HR,Kl,cz,ct,HP,Pu,jO,JY,ay,Is,iR,jK,iJ,ai,U3,SC,P6,OR,J5⟩:=H;have g48:((s[a].toNat:Int)==48)=true:=beq_of_eq (by rw[AP s a ha]at h48;exact h48);have zY:=Hi h48;have li1:(a1:Int)<s.size:=by omega
 have uQ:AI s (a+1)=(s[a1].toNat:Int):=by rw[<-JY.o];exact AP s a1 tX
 have xP:=Hi uQ;clear h48 uQ;have k1:b<w.heap.size+1:=by omega
 go_enter func57,ntmps57;go_wp2;generalize hW1:w.alloc _=W1;have Q1:Hid (NW w b s a W1):=Hi (OR.o W1 hW1.symm);clear hW1;have tI:Hid (∀n,NW w b s a (W1.drewN n)):=Hi (fun n=>Q1.o.drewN n);have C0:=Q1.o.f.st.c0;have C1:=Q1.o.f.st.c1;refine nr 8 (by kernel_rfl) (by kernel_rfl) ?_;simp only[nL,ny,nZ,nI];change wpStill _ _ W1.drew _ _ _
 repeat still_step
 refine pS ?_;change wpList _ _ _ _ _ W1.drew
 go_wp2_with (go_at_call 60;(with_reducible refine(U3.o _).mono ?_);rintro e' w' ⟨rfl,rfl⟩)
 go_quiet (fail)
 go_wp2
 go_quiet (fail)
 have g39:((s[a1].toNat:Int)==39)=true:=beq_of_eq (by omega);have g98:((s[a1].toNat:Int)==98)=false:=AD (by omega);have g111:((s[a1].toNat:Int)==111)=false:=AD (by omega);have g120:((s[a1].toNat:Int)==120)=false:=AD (by omega);have gn:((s[a1].toNat:Int) !=39)=false:=JL q39;have h4839:Hid (AI s a=48/\AI s (a+1)=39):=Hi ⟨zY.o,by rw[xP.o];exact q39⟩;have E6:=Q1.o.f.Fm.e6;obtain⟨te,pe,e6⟩:=E6;have CC:Hid (∀n,Calls prog 83 #[.pointer (some ⟨b,0,none⟩)] (W1.drewN n) (Bp (De s a) (W1.drewN n))):=Hi (fun n=>QB b s a _ hs (by have:=JY.o;omega) h4839 (Hi (tI.o n).f.st) (Hi (tI.o n).ld) te pe (Hi e6) (Hi (lg J5.o (lg (mO _) Q1.o.f.sz))));clear e6 q39;cases hcr:De s a with
 |some R2=>
  have HRR:Hid (R=R2):=Hi (by rw[HR.o];exact SM hcr);rw[hcr]at CC;clear hcr
  go_upto_if 74 with(go_at_call 83;(with_reducible refine(CC.o _).mono ?_);rintro e W2 h;obtain⟨k,tx,nu,bits,at_,en,ly,pp,nn,rfl,he,b2⟩:=Bp.Eo h;unfold Ai;have HE:=Hi he;have Q2:=Hi ((tI.o _).call hb b2);clear h he b2)
  generalize hW3:W2.alloc _=W3;have Q3:Hid (NW w b s a W3):=Hi (by subst hW3;exact Q2.o.call hb (Bzz _));have p3:W3.heap[W2.heap.size]? =some (.cells #[.int .i64 k,.string tx,.string nu,.int .u64 bits,.int .i64 at_,.int .i64 en,.bool ly] 71 (0,0)):=by subst hW3;exact lT W2 _
  have TB:Hid (Hd W3 W2.heap.size k tx nu bits at_ en ly):=Hi ⟨p3⟩;have lt2:w.heap.size<W2.heap.size:=Q2.o.f.sz;have QE:=Q3;clear hW3 p3;obtain⟨rq,qo,rA,rB,rI,rC,qx⟩:=TB.o.cs;obtain⟨rO,rX,rT,re,rP,rh,rj⟩:=Q3.o.f.t0.cs;obtain⟨rW,rV,rY,rQ,rM,rN,rS⟩:=Q3.o.f.t0.fs;go_wp2;refine lS (v:= .tuple #[Ai k tx nu bits at_ en ly,.int .i64 pp,.int .i64 nn]) ?_ rfl (HRR.o▸HE.o _ _ (AE QE.o.f.Ac (nR _) _ _ _ _ _ _ _))
  ·simp only[results,results57];go_simp
   try rfl
 |none=>
  rw[hcr]at CC;have PP:Hid (P=a1):=Hi (by rw[Kl.o,JY.o];refine row_one ha EM.o ?_;rw[h4839.o.2];decide);have qZ:Hid (R=if E4 s a then Ek s a P else Cy s a a P 10):=Hi (by rw[HR.o,Kl.o];exact IF hcr (by rintro⟨_,h|h|h⟩<;>(have:=h4839.o.2;omega)));have h46n:¬AI s P=46:=by rw[PP.o,JY.o,h4839.o.2];decide
  clear hcr
  go_upto_if 74 with(go_at_call 83;(with_reducible refine(CC.o _).mono ?_);rintro e W2 h;obtain⟨k,tx,nu,bits,at_,en,ly,rfl,b2⟩:=Bp.i7 h;unfold Ai;have Q2:=Hi ((tI.o _).call hb b2);clear h b2)
  generalize hW3:W2.alloc _=W3;have Q3:Hid (NW w b s a W3):=Hi (by subst hW3;exact Q2.o.call hb (Bzz _));clear hW3 C0 C1 Q1 tI;have tI:Hid (∀n,NW w b s a (W3.drewN n)):=Hi (fun n=>Q3.o.drewN n);have C0:=Q3.o.f.st.c0;have C1:=Q3.o.f.st.c1;obtain⟨TH,hTH⟩:∃T,T=AF A9 s a2:=⟨_,rfl⟩;have CPh:Hid (∀w,Calls prog 60 #[.string s,.int .i64 a2,.func (.func 84) #[] #[]] w (Cf TH w)):=Hi (fun w=>by rw[hTH];exact M8 s a2 w (by omega) (by omega));have bTH:TH<=100000001:=by
   rcases ls s.size a2 with h|h
   ·rw[hTH,Bl (by omega)];omega
   ·have:=Bx A9 s a2 h;omega
  have uj:a2<=TH:=by rw[hTH];exact BN _ _ _
  clear hTH CC;go_wp2
  go_quiet (fail)
  go_wp2;refine nr 10 (by kernel_rfl) (by kernel_rfl) ?_;simp only[nL,ny,nZ,nI];change wpStill _ _ (World.drew _) _ _ _
  repeat still_step
  refine pS ?_;change wpList _ _ _ _ _ (World.drew _)
  go_wp2_with (go_at_call 60;(with_reducible refine(CPh.o _).mono ?_);rintro e' w' ⟨rfl,rfl⟩)
  clear CPh;have qU:(((a2:Int)<TH)/\decide (a2<TH)=true/\decide ((a2:Int)<TH)=true)\/((¬(a2:Int)<TH)/\decide (a2<TH)=false/\decide ((a2:Int)<TH)=false):=by
   by_cases h:a2<TH
   ·exact .inl ⟨by omega,lU h,lU (by omega)⟩
   ·exact .inr ⟨by omega,lO h,lO (by omega)⟩
  rcases qU with⟨v1,v2,v3⟩|⟨v1,v2,v3⟩
  all_goals
   go_quiet (fail)
   by_cases hD:E4 s a
   ·exact absurd (by rw[Kl.o];exact hD.1) h46n
   have HF:Hid (R=Cy s a a P 10):=Hi (by rw[qZ.o];exact lL hD);have qU:=PK Pu.o h46n;clear hD;have tU:=SC.o;have HC:=Hi (P6.o _ Q3.o HF.o);rcases qU with⟨l2,l3,l1,l4,t46⟩|l1
   all_goals
    go_wp2_with fail
    go_region_with (go_at_call 87;(with_reducible refine(HC.o _).mono ?_);rintro e W9 h;obtain⟨k,tx,nu,bits,at_,en,ly,pp,nn,rfl,he,b3⟩:=AK.Eo h;unfold Ai;have HE:=Hi he;have QE:=Hi ((tI.o _).call hb b3);obtain⟨rO,rX,rT,re,rP,rh,rj⟩:=QE.o.f.t0.cs;obtain⟨rW,rV,rY,rQ,rM,rN,rS⟩:=QE.o.f.t0.fs;clear h b3 he)
    all_goals
     go_wp2;refine lS (v:= .tuple #[Ai k tx nu bits at_ en ly,.int .i64 pp,.int .i64 nn]) ?_ rfl (HE.o _ _ (AE QE.o.f.Ac (nR _) _ _ _ _ _ _ _))
     ·simp only[results,results57];go_simp
      try rfl
theorem jJ {b:Nat} {s:ByteArray} {a:Nat} {w:World} {R:TR} {P P1 a1 a2:Nat} {d:ByteArray}(H:dA b s a w R P P1 a1 a2 d) (h48:AI s a=48) (tX:a1<s.size) (q39:¬(s[a1].toNat:Int)=39) (hL:(s[a1].toNat:Int)=98\/(s[a1].toNat:Int)=111\/(s[a1].toNat:Int)=120):
 Calls prog 57 #[.pointer (some ⟨b,0,none⟩)] w (AK R w):=by
 obtain⟨hs,ha,EM,hb,HR,Kl,cz,ct,HP,Pu,jO,JY,ay,Is,iR,jK,iJ,ai,U3,SC,P6,OR,J5⟩:=H;have g48:((s[a].toNat:Int)==48)=true:=beq_of_eq (by rw[AP s a ha]at h48;exact h48);have zY:=Hi h48;have li1:(a1:Int)<s.size:=by omega
 have uQ:AI s (a+1)=(s[a1].toNat:Int):=by rw[<-JY.o];exact AP s a1 tX
 have xP:=Hi uQ;clear h48 uQ;have PP:Hid (P=a1):=Hi (by rw[Kl.o,JY.o];refine row_one ha EM.o ?_;rw[xP.o];rcases hL with h|h|h<;>rw[h]<;>rfl);have h46n:¬AI s P=46:=by rw[PP.o,JY.o,xP.o];omega
 obtain⟨r,TO,ri,zg,bTO,uj,HT,hL⟩:∃(r TO:Nat) (ri:Int),(r:Int)=ri/\TO<=s.size/\a2<=TO/\Hid (2<=r/\r<=16/\(∀k,a2<=k->k<TO->A9 (AI s k).toNat=true/\Cv (AI s k).toNat<r)/\(R=if a2<TO then Cy s a a2 TO r else if E4 s a then Ek s a P else Cy s a a P 10))/\
  ((ri=2/\((s[a1].toNat:Int)==98)=true/\Hid (∀w,Calls prog 60 #[.string s,.int .i64 a2,.func (.func 85) #[] #[]] w (Cf TO w)))\/(ri=8/\((s[a1].toNat:Int)==98)=false/\((s[a1].toNat:Int)==111)=true/\Hid (∀w,Calls prog 60 #[.string s,.int .i64 a2,.func (.func 86) #[] #[]] w (Cf TO w)))\/(ri=16/\((s[a1].toNat:Int)==98)=false/\((s[a1].toNat:Int)==111)=false/\((s[a1].toNat:Int)==120)=true/\Hid (∀w,Calls prog 60 #[.string s,.int .i64 a2,.func (.func 84) #[] #[]] w (Cf TO w)))):=by
  have e1:=JY.o;have e2:=Is.o;have ha2s:a2<=s.size:=by omega
  have A1:∀(r:Nat) (p:Nat->Bool),(AI s (a+1)=(98:Nat)/\r=2/\p=Fh)\/(AI s (a+1)=(111:Nat)/\r=8/\p=Cr)\/(AI s (a+1)=(120:Nat)/\r=16/\p=A9)->AF p s a2<=s.size/\a2<=AF p s a2/\Hid (2<=r/\r<=16/\(∀k,a2<=k->k<AF p s a2->A9 (AI s k).toNat=true/\Cv (AI s k).toNat<r)/\(R=if a2<AF p s a2 then Cy s a a2 (AF p s a2) r else if E4 s a then Ek s a P else Cy s a a P 10)):=by
   intro r p h;refine⟨Bx p s a2 ha2s,BN _ _ _,Hi ⟨by omega,by omega,?_,?_⟩⟩
   ·rcases h with⟨_,rfl,rfl⟩|⟨_,rfl,rfl⟩|⟨_,rfl,rfl⟩
    ·exact KP (fun c h=>cJ h) (fun c h=>RY h) ha2s rfl
    ·exact KP (fun c h=>SH h) (fun c h=>QC h) ha2s rfl
    ·exact KP (fun c h=>SQ h) (fun c h=>h) ha2s rfl
   ·rw[HR.o,Kl.o,e2];rcases h with⟨h,rfl,rfl⟩|⟨h,rfl,rfl⟩|⟨h,rfl,rfl⟩<;>exact J7 zY.o (by simp) h
  rw[xP.o]at A1;rcases hL with h|h|h
  ·exact⟨2,_,_,rfl,(A1 2 Fh (.inl ⟨h,rfl,rfl⟩)).1,(A1 2 Fh (.inl ⟨h,rfl,rfl⟩)).2.1,(A1 2 Fh (.inl ⟨h,rfl,rfl⟩)).2.2,.inl ⟨rfl,beq_of_eq h,Hi (fun w=>Yk s a2 w (by omega) (by omega))⟩⟩
  ·exact⟨8,_,_,rfl,(A1 8 Cr (.inr (.inl ⟨h,rfl,rfl⟩))).1,(A1 8 Cr (.inr (.inl ⟨h,rfl,rfl⟩))).2.1,(A1 8 Cr (.inr (.inl ⟨h,rfl,rfl⟩))).2.2,.inr (.inl ⟨rfl,AD (by omega),beq_of_eq h,Hi (fun w=>Sk s a2 w (by omega) (by omega))⟩)⟩
  ·exact⟨16,_,_,rfl,(A1 16 A9 (.inr (.inr ⟨h,rfl,rfl⟩))).1,(A1 16 A9 (.inr (.inr ⟨h,rfl,rfl⟩))).2.1,(A1 16 A9 (.inr (.inr ⟨h,rfl,rfl⟩))).2.2,.inr (.inr ⟨rfl,AD (by omega),AD (by omega),beq_of_eq h,Hi (fun w=>M8 s a2 w (by omega) (by omega))⟩)⟩
 have g39:((s[a1].toNat:Int)==39)=false:=AD q39;have gn:((s[a1].toNat:Int) !=39)=true:=FZ q39;clear q39;obtain⟨d2,HSL2,HC2⟩:∃d2,Hid (∀w:World,(Instr.slice 9 (.string s) (some (.int .i64 (a2:Int))) (some (.int .i64 (TO:Int))) none).run prog w= .ok (.string d2) w)/\Hid (∀W1 n,NW w b s a W1->a2<TO->Calls prog 87 #[.pointer (some ⟨b,0,none⟩),.string d2,.int .i64 ri,.int .i64 TO] (W1.drewN n) (AK R (W1.drewN n))):=by
  refine⟨s.extract a2 TO,Hi (fun w=> ?_),Hi (fun W1 n hQ qE=> ?_)⟩
  ·have:=pW (P:=prog) (w:=w) 9 s .i64 .i64 (a2:Int) (TO:Int) mS (by omega) (by omega) (by omega);rw[show((a2:Int)).toNat=a2 by omega,show((TO:Int)).toNat=TO by omega]at this;exact this
  ·rw[HT.o.2.2.2,lQ qE,<-zg];exact PH b a a2 TO r s _ _ (Hi (hQ.drewN n).f.st) hs (by omega) qE bTO HT.o.1 HT.o.2.1 (Hi HT.o.2.2.1) (Hi rfl)
 clear zg;have xh:IntKind.i64.wrap (a2:Int)=(a2:Int):=pt _ (by omega);have k1:b<w.heap.size+1:=by omega
 go_enter func57,ntmps57;go_wp2;generalize hW1:w.alloc _=W1;have Q1:Hid (NW w b s a W1):=Hi (OR.o W1 hW1.symm);clear hW1;have tI:Hid (∀n,NW w b s a (W1.drewN n)):=Hi (fun n=>Q1.o.drewN n);have C0:=Q1.o.f.st.c0;have C1:=Q1.o.f.st.c1;refine nr 8 (by kernel_rfl) (by kernel_rfl) ?_;simp only[nL,ny,nZ,nI];change wpStill _ _ W1.drew _ _ _
 repeat still_step
 refine pS ?_;change wpList _ _ _ _ _ W1.drew
 go_wp2_with (go_at_call 60;(with_reducible refine(U3.o _).mono ?_);rintro e' w' ⟨rfl,rfl⟩)
 have HC2:Hid (∀n,a2<TO->Calls prog 87 #[.pointer (some ⟨b,0,none⟩),.string d2,.int .i64 ri,.int .i64 TO] (W1.drewN n) (AK R (W1.drewN n))):=Hi (fun n=>HC2.o W1 n Q1.o);rcases hL with⟨rfl,g98,zs⟩|⟨rfl,g98,g111,zs⟩|⟨rfl,g98,g111,g120,zs⟩
 all_goals
  go_quiet (fail)
  go_wp2
  go_quiet (fail)
  go_wp2
  go_quiet (fail)
  go_wp2;refine nr 10 (by kernel_rfl) (by kernel_rfl) ?_;simp only[nL,ny,nZ,nI];change wpStill _ _ (World.drew _) _ _ _
  repeat still_step
  refine pS ?_;change wpList _ _ _ _ _ (World.drew _)
  go_wp2_with (go_at_call 60;(with_reducible refine(zs.o _).mono ?_);rintro e' w' ⟨rfl,rfl⟩)
  clear zs;by_cases qE:a2<TO
  ·have v1:(a2:Int)<TO:=by omega
   have v2:decide (a2<TO)=true:=lU qE;have v3:decide ((a2:Int)<TO)=true:=Dq;have HC:=Hi (fun n=>HC2.o n qE);have tU:=HSL2.o;clear qE
   go_quiet (fail)
   go_wp2_with fail
   go_region_with (go_at_call 87;(with_reducible refine(HC.o _).mono ?_);rintro e W3 h;obtain⟨k,tx,nu,bits,at_,en,ly,pp,nn,rfl,he,b3⟩:=AK.Eo h;unfold Ai;have HE:=Hi he;have QE:=Hi ((tI.o _).call hb b3);obtain⟨rO,rX,rT,re,rP,rh,rj⟩:=QE.o.f.t0.cs;obtain⟨rW,rV,rY,rQ,rM,rN,rS⟩:=QE.o.f.t0.fs;clear h b3 he)
   all_goals
    go_wp2;refine lS (v:= .tuple #[Ai k tx nu bits at_ en ly,.int .i64 pp,.int .i64 nn]) ?_ rfl (HE.o _ _ (AE QE.o.f.Ac (nR _) _ _ _ _ _ _ _))
    ·simp only[results,results57];go_simp
     try rfl
  ·have v1:¬(a2:Int)<TO:=by omega
   have v2:decide (a2<TO)=false:=lO qE;have v3:decide ((a2:Int)<TO)=false:=Ej;have qZ:Hid (R=if E4 s a then Ek s a P else Cy s a a P 10):=Hi (by rw[HT.o.2.2.2,lL qE]);clear qE
   go_quiet (fail)
   by_cases hD:E4 s a
   ·exact absurd (by rw[Kl.o];exact hD.1) h46n
   have HF:Hid (R=Cy s a a P 10):=Hi (by rw[qZ.o];exact lL hD);have qU:=PK Pu.o h46n;clear hD;have tU:=SC.o;have HC:=Hi (P6.o _ Q1.o HF.o);rcases qU with⟨l2,l3,l1,l4,t46⟩|l1
   all_goals
    go_wp2_with fail
    go_region_with (go_at_call 87;(with_reducible refine(HC.o _).mono ?_);rintro e W3 h;obtain⟨k,tx,nu,bits,at_,en,ly,pp,nn,rfl,he,b3⟩:=AK.Eo h;unfold Ai;have HE:=Hi he;have QE:=Hi ((tI.o _).call hb b3);obtain⟨rO,rX,rT,re,rP,rh,rj⟩:=QE.o.f.t0.cs;obtain⟨rW,rV,rY,rQ,rM,rN,rS⟩:=QE.o.f.t0.fs;clear h b3 he)
    all_goals
     go_wp2;refine lS (v:= .tuple #[Ai k tx nu bits at_ en ly,.int .i64 pp,.int .i64 nn]) ?_ rfl (HE.o _ _ (AE QE.o.f.Ac (nR _) _ _ _ _ _ _ _))
     ·simp only[results,results57];go_simp
      try rfl
theorem im {b:Nat} {s:ByteArray} {a:Nat} {w:World} {R:TR} {P P1 a1 a2:Nat} {d:ByteArray}(H:dA b s a w R P P1 a1 a2 d) (h48:AI s a=48) (tX:a1<s.size) (q39:¬(s[a1].toNat:Int)=39) (hL:¬((s[a1].toNat:Int)=98\/(s[a1].toNat:Int)=111\/(s[a1].toNat:Int)=120)):
 Calls prog 57 #[.pointer (some ⟨b,0,none⟩)] w (AK R w):=by
 obtain⟨hs,ha,EM,hb,HR,Kl,cz,ct,HP,Pu,jO,JY,ay,Is,iR,jK,iJ,ai,U3,SC,P6,OR,J5⟩:=H;have g48:((s[a].toNat:Int)==48)=true:=beq_of_eq (by rw[AP s a ha]at h48;exact h48);have zY:=Hi h48;have li1:(a1:Int)<s.size:=by omega
 have uQ:AI s (a+1)=(s[a1].toNat:Int):=by rw[<-JY.o];exact AP s a1 tX
 have xP:=Hi uQ;clear h48 uQ;have g39:((s[a1].toNat:Int)==39)=false:=AD (by omega);have g98:((s[a1].toNat:Int)==98)=false:=AD (by omega);have g111:((s[a1].toNat:Int)==111)=false:=AD (by omega);have g120:((s[a1].toNat:Int)==120)=false:=AD (by omega);have qZ:Hid (R=if E4 s a then Ek s a P else Cy s a a P 10):=Hi (by rw[HR.o,Kl.o];refine IF (Jz (by have:=xP.o;omega)) ?_;rintro⟨_,h|h|h⟩<;>(have:=xP.o;omega));clear q39 hL;have k1:b<w.heap.size+1:=by omega
 go_enter func57,ntmps57;go_wp2;generalize hW1:w.alloc _=W1;have Q1:Hid (NW w b s a W1):=Hi (OR.o W1 hW1.symm);clear hW1;have tI:Hid (∀n,NW w b s a (W1.drewN n)):=Hi (fun n=>Q1.o.drewN n);have C0:=Q1.o.f.st.c0;have C1:=Q1.o.f.st.c1;refine nr 8 (by kernel_rfl) (by kernel_rfl) ?_;simp only[nL,ny,nZ,nI];change wpStill _ _ W1.drew _ _ _
 repeat still_step
 refine pS ?_;change wpList _ _ _ _ _ W1.drew
 go_wp2_with (go_at_call 60;(with_reducible refine(U3.o _).mono ?_);rintro e' w' ⟨rfl,rfl⟩)
 go_quiet (fail)
 go_wp2
 go_quiet (fail)
 by_cases hD:E4 s a
 ·have rZ:AI s P=46:=by rw[Kl.o];exact hD.1
  have qR:AQ (AI s P1).toNat=true:=by rw[Pu.o,Kl.o];exact hD.2
  have l2:P1<s.size:=by
   rcases ls P1 s.size with h|h
   ·exact h
   ·rw[Ax s P1 h]at qR;exact absurd qR (by decide)
  have l3:P<s.size:=by omega
  have l1:(P1:Int)<s.size:=by omega
  have l4:(P:Int)<s.size:=by omega
  have t46:((s[P].toNat:Int)==46)=true:=beq_of_eq (by rw[AP s P l3]at rZ;exact rZ);have uI:Hid (∀w,Calls prog 56 #[.int .u8 s[P1].toNat] w (AR true w)):=Hi (fun w=>by
   rw[AP s P1 l2,mB]at qR;rw[<-qR];exact Ff _ w)
  have HF:Hid (R=Ek s a P):=Hi (by rw[qZ.o];exact lQ hD);have HFP:Hid (XE s a P (AF AQ s (P+1))):=Hi (XU (by omega) Kl.o EM.o rZ (by rw[<-Pu.o];exact qR));have HC:Hid (∀n,Calls prog 88 #[.pointer (some ⟨b,0,none⟩),.int .i64 P] (W1.drewN n) (AK R (W1.drewN n))):=Hi (fun n=>by
   rw[HF.o];exact YF b s a P _ hs (Hi (tI.o n).f.st) (Hi (tI.o n).f.Fm) HFP)
  clear hD qR rZ
  go_wp2_with (first
   | (go_at_call 56;(with_reducible refine(uI.o _).mono ?_);rintro e w' ⟨rfl,rfl⟩)
   | (go_at_call 88;(with_reducible refine(HC.o _).mono ?_)))
  rintro e W3 h;obtain⟨k,tx,nu,bits,at_,en,ly,pp,nn,rfl,he,b3⟩:=AK.Eo h;unfold Ai;have HE:=Hi he;have QE:=Hi ((tI.o _).call hb b3);obtain⟨rO,rX,rT,re,rP,rh,rj⟩:=QE.o.f.t0.cs;obtain⟨rW,rV,rY,rQ,rM,rN,rS⟩:=QE.o.f.t0.fs;clear h b3 he;go_wp2;refine lS (v:= .tuple #[Ai k tx nu bits at_ en ly,.int .i64 pp,.int .i64 nn]) ?_ rfl (HE.o _ _ (AE QE.o.f.Ac (nR _) _ _ _ _ _ _ _))
  ·simp only[results,results57];go_simp
   try rfl
 have HF:Hid (R=Cy s a a P 10):=Hi (by rw[qZ.o];exact lL hD);have qU:=Rw Pu.o Kl.o hD;clear hD;have tU:=SC.o;have HC:=Hi (P6.o _ Q1.o HF.o);rcases qU with⟨l2,l3,l1,l4,t46,uI⟩|⟨l2,l3,l1,l4,t46⟩|l1
 all_goals
  go_wp2_with (go_at_call 56;(with_reducible refine(uI.o _).mono ?_);rintro e w' ⟨rfl,rfl⟩)
  go_region_with (go_at_call 87;(with_reducible refine(HC.o _).mono ?_);rintro e W3 h;obtain⟨k,tx,nu,bits,at_,en,ly,pp,nn,rfl,he,b3⟩:=AK.Eo h;unfold Ai;have HE:=Hi he;have QE:=Hi ((tI.o _).call hb b3);obtain⟨rO,rX,rT,re,rP,rh,rj⟩:=QE.o.f.t0.cs;obtain⟨rW,rV,rY,rQ,rM,rN,rS⟩:=QE.o.f.t0.fs;clear h b3 he)
  all_goals
   go_wp2;refine lS (v:= .tuple #[Ai k tx nu bits at_ en ly,.int .i64 pp,.int .i64 nn]) ?_ rfl (HE.o _ _ (AE QE.o.f.Ac (nR _) _ _ _ _ _ _ _))
   ·simp only[results,results57];go_simp
    try rfl
theorem jL {b:Nat} {s:ByteArray} {a:Nat} {w:World} {R:TR} {P P1 a1 a2:Nat} {d:ByteArray}(H:dA b s a w R P P1 a1 a2 d) (h48:AI s a=48) (tX:¬a1<s.size):
 Calls prog 57 #[.pointer (some ⟨b,0,none⟩)] w (AK R w):=by
 obtain⟨hs,ha,EM,hb,HR,Kl,cz,ct,HP,Pu,jO,JY,ay,Is,iR,jK,iJ,ai,U3,SC,P6,OR,J5⟩:=H;have g48:((s[a].toNat:Int)==48)=true:=beq_of_eq (by rw[AP s a ha]at h48;exact h48);have zY:=Hi h48;have li1:¬(a1:Int)<s.size:=by omega
 have qZ:Hid (R=if E4 s a then Ek s a P else Cy s a a P 10):=Hi (by rw[HR.o,Kl.o];refine IF (Jz ?_) ?_<;>(have h0:=Ax s (a+1) (by have:=JY.o;omega);omega));clear h48;have h46n:¬AI s P=46:=by
  have h0:=JY.o;rw[Ax s P (by omega)];decide
 have k1:b<w.heap.size+1:=by omega
 go_enter func57,ntmps57;go_wp2;generalize hW1:w.alloc _=W1;have Q1:Hid (NW w b s a W1):=Hi (OR.o W1 hW1.symm);clear hW1;have tI:Hid (∀n,NW w b s a (W1.drewN n)):=Hi (fun n=>Q1.o.drewN n);have C0:=Q1.o.f.st.c0;have C1:=Q1.o.f.st.c1;refine nr 8 (by kernel_rfl) (by kernel_rfl) ?_;simp only[nL,ny,nZ,nI];change wpStill _ _ W1.drew _ _ _
 repeat still_step
 refine pS ?_;change wpList _ _ _ _ _ W1.drew
 go_wp2_with (go_at_call 60;(with_reducible refine(U3.o _).mono ?_);rintro e' w' ⟨rfl,rfl⟩)
 go_quiet (fail)
 by_cases hD:E4 s a
 ·exact absurd (by rw[Kl.o];exact hD.1) h46n
 have HF:Hid (R=Cy s a a P 10):=Hi (by rw[qZ.o];exact lL hD);have l1:¬(P1:Int)<s.size:=by have h5:=JY.o;have h6:=Pu.o;omega
 clear hD;have tU:=SC.o;have HC:=Hi (P6.o _ Q1.o HF.o)
 go_wp2_with fail
 go_region_with (go_at_call 87;(with_reducible refine(HC.o _).mono ?_);rintro e W3 h;obtain⟨k,tx,nu,bits,at_,en,ly,pp,nn,rfl,he,b3⟩:=AK.Eo h;unfold Ai;have HE:=Hi he;have QE:=Hi ((tI.o _).call hb b3);obtain⟨rO,rX,rT,re,rP,rh,rj⟩:=QE.o.f.t0.cs;obtain⟨rW,rV,rY,rQ,rM,rN,rS⟩:=QE.o.f.t0.fs;clear h b3 he)
 all_goals
  go_wp2;refine lS (v:= .tuple #[Ai k tx nu bits at_ en ly,.int .i64 pp,.int .i64 nn]) ?_ rfl (HE.o _ _ (AE QE.o.f.Ac (nR _) _ _ _ _ _ _ _))
  ·simp only[results,results57];go_simp
   try rfl
theorem ic {b:Nat} {s:ByteArray} {a:Nat} {w:World} {R:TR} {P P1 a1 a2:Nat} {d:ByteArray}(H:dA b s a w R P P1 a1 a2 d) (h48:¬AI s a=48):
 Calls prog 57 #[.pointer (some ⟨b,0,none⟩)] w (AK R w):=by
 obtain⟨hs,ha,EM,hb,HR,Kl,cz,ct,HP,Pu,jO,JY,ay,Is,iR,jK,iJ,ai,U3,SC,P6,OR,J5⟩:=H;have g48:((s[a].toNat:Int)==48)=false:=AD (by rw[AP s a ha]at h48;exact h48);have qZ:Hid (R=if E4 s a then Ek s a P else Cy s a a P 10):=Hi (by rw[HR.o,Kl.o];exact IF (Jz (fun h=>h48 h.1)) (fun h=>h48 h.1));clear h48;have k1:b<w.heap.size+1:=by omega
 go_enter func57,ntmps57;go_wp2;generalize hW1:w.alloc _=W1;have Q1:Hid (NW w b s a W1):=Hi (OR.o W1 hW1.symm);clear hW1;have tI:Hid (∀n,NW w b s a (W1.drewN n)):=Hi (fun n=>Q1.o.drewN n);have C0:=Q1.o.f.st.c0;have C1:=Q1.o.f.st.c1;refine nr 8 (by kernel_rfl) (by kernel_rfl) ?_;simp only[nL,ny,nZ,nI];change wpStill _ _ W1.drew _ _ _
 repeat still_step
 refine pS ?_;change wpList _ _ _ _ _ W1.drew
 go_wp2_with (go_at_call 60;(with_reducible refine(U3.o _).mono ?_);rintro e' w' ⟨rfl,rfl⟩)
 go_quiet (fail)
 by_cases hD:E4 s a
 ·have rZ:AI s P=46:=by rw[Kl.o];exact hD.1
  have qR:AQ (AI s P1).toNat=true:=by rw[Pu.o,Kl.o];exact hD.2
  have l2:P1<s.size:=by
   rcases ls P1 s.size with h|h
   ·exact h
   ·rw[Ax s P1 h]at qR;exact absurd qR (by decide)
  have l3:P<s.size:=by omega
  have l1:(P1:Int)<s.size:=by omega
  have l4:(P:Int)<s.size:=by omega
  have t46:((s[P].toNat:Int)==46)=true:=beq_of_eq (by rw[AP s P l3]at rZ;exact rZ);have uI:Hid (∀w,Calls prog 56 #[.int .u8 s[P1].toNat] w (AR true w)):=Hi (fun w=>by
   rw[AP s P1 l2,mB]at qR;rw[<-qR];exact Ff _ w)
  have HF:Hid (R=Ek s a P):=Hi (by rw[qZ.o];exact lQ hD);have HFP:Hid (XE s a P (AF AQ s (P+1))):=Hi (XU (by omega) Kl.o EM.o rZ (by rw[<-Pu.o];exact qR));have HC:Hid (∀n,Calls prog 88 #[.pointer (some ⟨b,0,none⟩),.int .i64 P] (W1.drewN n) (AK R (W1.drewN n))):=Hi (fun n=>by
   rw[HF.o];exact YF b s a P _ hs (Hi (tI.o n).f.st) (Hi (tI.o n).f.Fm) HFP)
  clear hD qR rZ
  go_wp2_with (first
   | (go_at_call 56;(with_reducible refine(uI.o _).mono ?_);rintro e w' ⟨rfl,rfl⟩)
   | (go_at_call 88;(with_reducible refine(HC.o _).mono ?_)))
  rintro e W3 h;obtain⟨k,tx,nu,bits,at_,en,ly,pp,nn,rfl,he,b3⟩:=AK.Eo h;unfold Ai;have HE:=Hi he;have QE:=Hi ((tI.o _).call hb b3);obtain⟨rO,rX,rT,re,rP,rh,rj⟩:=QE.o.f.t0.cs;obtain⟨rW,rV,rY,rQ,rM,rN,rS⟩:=QE.o.f.t0.fs;clear h b3 he;go_wp2;refine lS (v:= .tuple #[Ai k tx nu bits at_ en ly,.int .i64 pp,.int .i64 nn]) ?_ rfl (HE.o _ _ (AE QE.o.f.Ac (nR _) _ _ _ _ _ _ _))
  ·simp only[results,results57];go_simp
   try rfl
 have HF:Hid (R=Cy s a a P 10):=Hi (by rw[qZ.o];exact lL hD);have qU:=Rw Pu.o Kl.o hD;clear hD;have tU:=SC.o;have HC:=Hi (P6.o _ Q1.o HF.o);rcases qU with⟨l2,l3,l1,l4,t46,uI⟩|⟨l2,l3,l1,l4,t46⟩|l1
 all_goals
  go_wp2_with (go_at_call 56;(with_reducible refine(uI.o _).mono ?_);rintro e w' ⟨rfl,rfl⟩)
  go_region_with (go_at_call 87;(with_reducible refine(HC.o _).mono ?_);rintro e W3 h;obtain⟨k,tx,nu,bits,at_,en,ly,pp,nn,rfl,he,b3⟩:=AK.Eo h;unfold Ai;have HE:=Hi he;have QE:=Hi ((tI.o _).call hb b3);obtain⟨rO,rX,rT,re,rP,rh,rj⟩:=QE.o.f.t0.cs;obtain⟨rW,rV,rY,rQ,rM,rN,rS⟩:=QE.o.f.t0.fs;clear h b3 he)
  all_goals
   go_wp2;refine lS (v:= .tuple #[Ai k tx nu bits at_ en ly,.int .i64 pp,.int .i64 nn]) ?_ rfl (HE.o _ _ (AE QE.o.f.Ac (nR _) _ _ _ _ _ _ _))
   ·simp only[results,results57];go_simp
    try rfl
theorem Yp (b:Nat) (s:ByteArray) (a:Nat) (w:World) (hs:s.size<=100000000) (ha:a<s.size) (EM:Hid (AQ (AI s a).toNat=true)) (qk:Hid (St w b s a)) (hL:Hid (Ag w)) (hT:Hid (D3 w w.heap.size)) (J5:Hid (Tryz.prog.globals.size<=w.heap.size)):
 Calls prog 57 #[.pointer (some ⟨b,0,none⟩)] w (AK (GL s a) w):=by
 obtain⟨P,P1,a1,a2,d,H⟩:=dA.of hs ha EM qk hL hT J5;by_cases h48:AI s a=48
 ·by_cases tX:a1<s.size
  ·by_cases q39:(s[a1].toNat:Int)=39
   ·exact iZ H h48 tX q39
   ·by_cases hL:(s[a1].toNat:Int)=98\/(s[a1].toNat:Int)=111\/(s[a1].toNat:Int)=120
    ·exact jJ H h48 tX q39 hL
    ·exact im H h48 tX q39 hL
  ·exact jL H h48 tX
 ·exact ic H h48
end Go.Proofs
