import Derived.Test.YtnipmfaikiaipaaGreatDoorTax
import Derived.Test.YtnipmfaikiaipaaGreatDoorTau
set_option linter.unusedSimpArgs false
set_option maxRecDepth 1000000
set_option maxHeartbeats 40000000
namespace Go.Lx
open Go.Hb Go.Rb Go.Bg Go.Pf
theorem FI {s:ByteArray} {k a t:Nat}(h:1000<t-a):Dc s k a t= .err a 35:=by unfold Dc;rw[if_pos h]
theorem Dy {s:ByteArray} {k a t:Nat}(h:¬1000<t-a):Dc s k a t= .ok k (s.extract a t) ⟨#[]⟩ 0 a t:=by unfold Dc;rw[if_neg h]
end Go.Lx
namespace Go.Proofs
open Go.RowKit Go.Pf Go.Lx Go.Hb Go.Rb Go.Bg
theorem bO (s:ByteArray) (a:Nat) (w:World) (hs:s.size<=140737488355000) (ha:a<=s.size):
 Calls Tryz.prog 107 #[.string s,.int .i64 a] w (AX (Dr s a) w):=by
 obtain⟨R,hR⟩:∃R,R=Dr s a:=⟨_,rfl⟩;rw[<-hR];unfold Dr at hR;by_cases hz:a=s.size
 ·rw[if_pos hz]at hR;have HF:=Hi hR;have t0:((a:Int)==s.size)=true:=beq_of_eq (by omega);clear hR;go_enter Tryz.func107,Tryz.ntmps107
  go_upto_region 2 with fail
  generalize hW:w.alloc _=W1;have HBL:Hid (Below w.heap.size w W1):=Hi (by subst hW;exact(AH _ _).alloc (nR _) _);have HK:Hid (A8 W1 w.heap.size):=Hi (by subst hW;exact A8.new w);clear hW;have HKX:=HK.out;obtain⟨k0,k1,k2,k3,k4,k5,k6⟩:=HKX.cs;obtain⟨f0,f1,f2,f3,f4,f5,f6⟩:=HKX.fs;have HB:=HBL;clear HKX;go_wp2;refine AI (v:= .tuple #[AK 10 ⟨#[]⟩ ⟨#[]⟩ 0 a a false,.int .i64 0]) ?_ rfl (AX.ok HF.out ?_)
  ·simp only[results,Tryz.results107];go_simp;rfl
  ·iterate 7 refine By ?_ (by first|omega|(simp only;omega)) _
   exact HB.out
 rw[if_neg hz]at hR;have hlt:a<s.size:=by omega
 have t0:((a:Int)==s.size)=false:=AA (by omega);obtain⟨c,hc⟩:∃c,c=s[a].toNat:=⟨_,rfl⟩;have ec:s[a].toNat=c:=hc.symm;have hb:AE s a=(c:Int):=by rw[AO s a hlt,hc]
 have hbn:(AE s a).toNat=c:=by rw[hb,IT]
 have c255:c<256:=by have:=C6 s a;omega
 have CNUM:=fun h w=>YH s a w hs hlt h;have CQUO:=fun h w=>Za s a w hs hlt h;rw[hbn]at CNUM CQUO;rw[hbn,hb]at hR;rw[hb]at CQUO;clear hz hc hb hbn;by_cases h1:AM c=true
 ·rw[if_pos h1]at hR;obtain⟨RR,hRR⟩:∃RR,RR=F7 s a:=⟨_,rfl⟩;have CW:=CNUM h1;rw[<-hRR]at hR CW;have HF:=Hi hR;have CWX:=Hi CW;have P56:Hid (∀w,Calls Tryz.prog 157 #[.int .u8 c] w (AD true w)):=Hi (fun w=>by have h:=EN c w;rwa [h1]at h);clear hR hRR CW CNUM CQUO h1;go_enter Tryz.func107,Tryz.ntmps107
  go_wp2_with (first
   | (go_at_call 157;(with_reducible refine(P56.out _).mono ?_);rintro e w' ⟨rfl,rfl⟩))
  generalize hW:w.alloc _=W1;have HBL:Hid (Below w.heap.size w W1):=Hi (by subst hW;exact(AH _ _).alloc (nR _) _);have HK:Hid (A8 W1 w.heap.size):=Hi (by subst hW;exact A8.new w);clear hW;refine(CWX.out _).mono ?_;rintro e W4 ⟨rfl,b4⟩;have HKX:=HK.out.below b4;obtain⟨k0,k1,k2,k3,k4,k5,k6⟩:=HKX.cs;obtain⟨f0,f1,f2,f3,f4,f5,f6⟩:=HKX.fs;have HB:=Hi (HBL.out.trans (b4.mono HBL.out.size));obtain⟨tk,ttx,tnu,tbits,tat,ten,htok⟩:=TR.EP RR;rw[htok];have HTOK:=Hi htok;obtain⟨ter,hter⟩:∃ter:Int,ter=(TR.er RR:Nat):=⟨_,rfl⟩;rw[<-hter];have HTER:=Hi hter;clear b4 HKX htok hter;unfold AK;go_wp2;refine AI (v:= .tuple #[AK tk ttx tnu tbits tat ten false,.int .i64 ter]) ?_ rfl (AX.of (by rw[HF.out];exact HTOK.out) (by rw[HF.out];exact HTER.out) ?_)
  ·simp only[results,Tryz.results107];go_simp;rfl
  ·iterate 7 refine By ?_ (by first|omega|(simp only;omega)) _
   exact HB.out
 rw[if_neg h1]at hR;rw[gh]at h1;have P56:Hid (∀w,Calls Tryz.prog 157 #[.int .u8 c] w (AD false w)):=Hi (fun w=>by have h:=EN c w;rwa [h1]at h);clear CNUM h1;by_cases h2:(c:Int)=39\/(c:Int)=34\/(c:Int)=96
 ·rw[if_pos h2]at hR;obtain⟨RR,hRR⟩:∃RR,RR=Br s a c (a+1) []:=⟨_,rfl⟩;have CW:=CQUO h2;rw[<-hRR]at hR CW;have HF:=Hi hR;have CWX:=Hi CW;have hq:(((c:Int)==39)=true)\/(((c:Int)==39)=false/\((c:Int)==34)=true)\/(((c:Int)==39)=false/\((c:Int)==34)=false/\((c:Int)==96)=true):=by
   by_cases q1:(c:Int)=39
   ·exact .inl (beq_of_eq q1)
   ·by_cases q2:(c:Int)=34
    ·exact .inr (.inl ⟨AA q1,beq_of_eq q2⟩)
    ·exact .inr (.inr ⟨AA q1,AA q2,beq_of_eq (by omega)⟩)
  clear hR hRR CW CQUO h2;rcases hq with q1|⟨q1,q2⟩|⟨q1,q2,q3⟩
  all_goals
   go_enter Tryz.func107,Tryz.ntmps107
   go_wp2_with (first
    | (go_at_call 157;(with_reducible refine(P56.out _).mono ?_);rintro e w' ⟨rfl,rfl⟩))
   generalize hW:w.alloc _=W1;have HBL:Hid (Below w.heap.size w W1):=Hi (by subst hW;exact(AH _ _).alloc (nR _) _);have HK:Hid (A8 W1 w.heap.size):=Hi (by subst hW;exact A8.new w);clear hW;refine(CWX.out _).mono ?_;rintro e W4 ⟨rfl,b4⟩;have HKX:=HK.out.below b4;obtain⟨k0,k1,k2,k3,k4,k5,k6⟩:=HKX.cs;obtain⟨f0,f1,f2,f3,f4,f5,f6⟩:=HKX.fs;have HB:=Hi (HBL.out.trans (b4.mono HBL.out.size));obtain⟨tk,ttx,tnu,tbits,tat,ten,htok⟩:=TR.EP RR;rw[htok];have HTOK:=Hi htok;obtain⟨ter,hter⟩:∃ter:Int,ter=(TR.er RR:Nat):=⟨_,rfl⟩;rw[<-hter];have HTER:=Hi hter;clear b4 HKX htok hter;unfold AK;go_wp2;refine AI (v:= .tuple #[AK tk ttx tnu tbits tat ten false,.int .i64 ter]) ?_ rfl (AX.of (by rw[HF.out];exact HTOK.out) (by rw[HF.out];exact HTER.out) ?_)
   ·simp only[results,Tryz.results107];go_simp;rfl
   ·iterate 7 refine By ?_ (by first|omega|(simp only;omega)) _
    exact HB.out
 rw[if_neg h2]at hR;have q1:((c:Int)==39)=false:=AA (by omega);have q2:((c:Int)==34)=false:=AA (by omega);have q3:((c:Int)==96)=false:=AA (by omega);clear CQUO h2;by_cases h3:GS c=true
 ·rw[if_pos h3]at hR;obtain⟨t,ht⟩:∃t,t=AF DP s a:=⟨_,rfl⟩;have tge:a<=t:=by rw[ht];exact Ae _ _ _
  have tle:t<=s.size:=by rw[ht];exact Ai _ _ _ (by omega)
  have CR:Hid (∀w,Calls Tryz.prog 161 #[.string s,.int .i64 a,.int .i64 1] w (Ag t w)):=Hi (fun w=>by rw[ht];exact SR s a w (by omega) (by omega));rw[<-ht]at hR;have HR:=Hi hR;have P59:Hid (∀w,Calls Tryz.prog 160 #[.int .u8 c] w (AD true w)):=Hi (fun w=>by have h:=Ml c w;rwa [h3]at h);clear hR ht h3;have hM:∃M,M=t-a:=⟨_,rfl⟩;obtain⟨M,hM⟩:=hM;have eM:(t:Int)-a=M:=by omega
  have bM:M<=140737488355328:=by omega
  have w9:∀W,(Instr.slice 9 (.string s) (some (.int .i64 (a:Int))) (some (.int .i64 (t:Int))) none).run Tryz.prog W= .ok (.string (s.extract a t)) W:=fun W=>by
   have:=eE (P:=Tryz.prog) (w:=W) 9 s .i64 .i64 (a:Int) (t:Int) Tryz.underlying9 (by omega) (by omega) (by omega);rw[show((a:Int)).toNat=a by omega,show((t:Int)).toNat=t by omega]at this;exact this
  by_cases hl:1000<M
  ·have HF:Hid (R= .err a 35):=Hi (by rw[HR.out];exact FI (by omega));have l1:decide ((1000:Int)<M)=true:=A5;have l2:(1000:Int)<M:=by omega
   clear hM hl w9;go_enter Tryz.func107,Tryz.ntmps107
   go_wp2_with (first
    | (go_at_call 157;(with_reducible refine(P56.out _).mono ?_);rintro e w' ⟨rfl,rfl⟩)
    | (go_at_call 160;(with_reducible refine(P59.out _).mono ?_);rintro e w' ⟨rfl,rfl⟩)
    | (go_at_call 161;(with_reducible refine(CR.out _).mono ?_);rintro e w' ⟨rfl,rfl⟩))
   generalize hW:w.alloc _=W1;have HBL:Hid (Below w.heap.size w W1):=Hi (by subst hW;exact(AH _ _).alloc (nR _) _);have HK:Hid (A8 W1 w.heap.size):=Hi (by subst hW;exact A8.new w);clear hW;refine(Ew a 35 _).mono ?_;rintro e W4 ⟨rfl,b4⟩;unfold As AK;have HKX:=HK.out.below b4;obtain⟨k0,k1,k2,k3,k4,k5,k6⟩:=HKX.cs;obtain⟨f0,f1,f2,f3,f4,f5,f6⟩:=HKX.fs;have HB:=Hi (HBL.out.trans (b4.mono HBL.out.size));clear b4 HKX;go_wp2;refine AI (v:= .tuple #[As a,.int .i64 35]) ?_ rfl (AX.er HF.out ?_)
   ·simp only[results,Tryz.results107];go_simp;rfl
   ·iterate 7 refine By ?_ (by first|omega|(simp only;omega)) _
    exact HB.out
  ·have HF:Hid (R= .ok 1 (s.extract a t) ⟨#[]⟩ 0 a t):=Hi (by rw[HR.out];exact Dy (by omega));have l1:decide ((1000:Int)<M)=false:=BC;have l2:¬(1000:Int)<M:=by omega
   have t1:(a:Int)<=t:=by omega
   have t2:(t:Int)<=s.size:=by omega
   clear hM hl;go_enter Tryz.func107,Tryz.ntmps107;have W9:=w9;clear w9
   go_upto_region 30 with(first
    | (go_at_call 157;(with_reducible refine(P56.out _).mono ?_);rintro e w' ⟨rfl,rfl⟩)
    | (go_at_call 160;(with_reducible refine(P59.out _).mono ?_);rintro e w' ⟨rfl,rfl⟩)
    | (go_at_call 161;(with_reducible refine(CR.out _).mono ?_);rintro e w' ⟨rfl,rfl⟩))
   generalize hW:w.alloc _=W1;have HBL:Hid (Below w.heap.size w W1):=Hi (by subst hW;exact(AH _ _).alloc (nR _) _);have HK:Hid (A8 W1 w.heap.size):=Hi (by subst hW;exact A8.new w);clear hW;have w9:=W9 W1;clear W9;have HKX:=HK.out;obtain⟨k0,k1,k2,k3,k4,k5,k6⟩:=HKX.cs;obtain⟨f0,f1,f2,f3,f4,f5,f6⟩:=HKX.fs;have HB:=HBL;clear HKX;go_wp2;refine AI (v:= .tuple #[AK 1 (s.extract a t) ⟨#[]⟩ 0 a t false,.int .i64 0]) ?_ rfl (AX.ok HF.out ?_)
   ·simp only[results,Tryz.results107];go_simp;rfl
   ·iterate 7 refine By ?_ (by first|omega|(simp only;omega)) _
    exact HB.out
 rw[if_neg h3]at hR;rw[gh]at h3;have P59:Hid (∀w,Calls Tryz.prog 160 #[.int .u8 c] w (AD false w)):=Hi (fun w=>by have h:=Ml c w;rwa [h3]at h);clear h3;by_cases h4:Gw c=true
 ·rw[if_pos h4]at hR;obtain⟨t,ht⟩:∃t,t=AF DP s a:=⟨_,rfl⟩;have tge:a<=t:=by rw[ht];exact Ae _ _ _
  have tle:t<=s.size:=by rw[ht];exact Ai _ _ _ (by omega)
  have CR:Hid (∀w,Calls Tryz.prog 161 #[.string s,.int .i64 a,.int .i64 1] w (Ag t w)):=Hi (fun w=>by rw[ht];exact SR s a w (by omega) (by omega));rw[<-ht]at hR;have HR:=Hi hR;have P61:Hid (∀w,Calls Tryz.prog 162 #[.int .u8 c] w (AD true w)):=Hi (fun w=>by have h:=Mr c w;rwa [h4]at h);clear hR ht h4;have hM:∃M,M=t-a:=⟨_,rfl⟩;obtain⟨M,hM⟩:=hM;have eM:(t:Int)-a=M:=by omega
  have bM:M<=140737488355328:=by omega
  have w9:∀W,(Instr.slice 9 (.string s) (some (.int .i64 (a:Int))) (some (.int .i64 (t:Int))) none).run Tryz.prog W= .ok (.string (s.extract a t)) W:=fun W=>by
   have:=eE (P:=Tryz.prog) (w:=W) 9 s .i64 .i64 (a:Int) (t:Int) Tryz.underlying9 (by omega) (by omega) (by omega);rw[show((a:Int)).toNat=a by omega,show((t:Int)).toNat=t by omega]at this;exact this
  by_cases hl:1000<M
  ·have HF:Hid (R= .err a 35):=Hi (by rw[HR.out];exact FI (by omega));have l1:decide ((1000:Int)<M)=true:=A5;have l2:(1000:Int)<M:=by omega
   clear hM hl w9;go_enter Tryz.func107,Tryz.ntmps107
   go_wp2_with (first
    | (go_at_call 157;(with_reducible refine(P56.out _).mono ?_);rintro e w' ⟨rfl,rfl⟩)
    | (go_at_call 160;(with_reducible refine(P59.out _).mono ?_);rintro e w' ⟨rfl,rfl⟩)
    | (go_at_call 162;(with_reducible refine(P61.out _).mono ?_);rintro e w' ⟨rfl,rfl⟩)
    | (go_at_call 161;(with_reducible refine(CR.out _).mono ?_);rintro e w' ⟨rfl,rfl⟩))
   generalize hW:w.alloc _=W1;have HBL:Hid (Below w.heap.size w W1):=Hi (by subst hW;exact(AH _ _).alloc (nR _) _);have HK:Hid (A8 W1 w.heap.size):=Hi (by subst hW;exact A8.new w);clear hW;refine(Ew a 35 _).mono ?_;rintro e W4 ⟨rfl,b4⟩;unfold As AK;have HKX:=HK.out.below b4;obtain⟨k0,k1,k2,k3,k4,k5,k6⟩:=HKX.cs;obtain⟨f0,f1,f2,f3,f4,f5,f6⟩:=HKX.fs;have HB:=Hi (HBL.out.trans (b4.mono HBL.out.size));clear b4 HKX;go_wp2;refine AI (v:= .tuple #[As a,.int .i64 35]) ?_ rfl (AX.er HF.out ?_)
   ·simp only[results,Tryz.results107];go_simp;rfl
   ·iterate 7 refine By ?_ (by first|omega|(simp only;omega)) _
    exact HB.out
  ·have HF:Hid (R= .ok 3 (s.extract a t) ⟨#[]⟩ 0 a t):=Hi (by rw[HR.out];exact Dy (by omega));have l1:decide ((1000:Int)<M)=false:=BC;have l2:¬(1000:Int)<M:=by omega
   have t1:(a:Int)<=t:=by omega
   have t2:(t:Int)<=s.size:=by omega
   clear hM hl;go_enter Tryz.func107,Tryz.ntmps107;have W9:=w9;clear w9
   go_upto_region 30 with(first
    | (go_at_call 157;(with_reducible refine(P56.out _).mono ?_);rintro e w' ⟨rfl,rfl⟩)
    | (go_at_call 160;(with_reducible refine(P59.out _).mono ?_);rintro e w' ⟨rfl,rfl⟩)
    | (go_at_call 162;(with_reducible refine(P61.out _).mono ?_);rintro e w' ⟨rfl,rfl⟩)
    | (go_at_call 161;(with_reducible refine(CR.out _).mono ?_);rintro e w' ⟨rfl,rfl⟩))
   generalize hW:w.alloc _=W1;have HBL:Hid (Below w.heap.size w W1):=Hi (by subst hW;exact(AH _ _).alloc (nR _) _);have HK:Hid (A8 W1 w.heap.size):=Hi (by subst hW;exact A8.new w);clear hW;have w9:=W9 W1;clear W9;have HKX:=HK.out;obtain⟨k0,k1,k2,k3,k4,k5,k6⟩:=HKX.cs;obtain⟨f0,f1,f2,f3,f4,f5,f6⟩:=HKX.fs;have HB:=HBL;clear HKX;go_wp2;refine AI (v:= .tuple #[AK 3 (s.extract a t) ⟨#[]⟩ 0 a t false,.int .i64 0]) ?_ rfl (AX.ok HF.out ?_)
   ·simp only[results,Tryz.results107];go_simp;rfl
   ·iterate 7 refine By ?_ (by first|omega|(simp only;omega)) _
    exact HB.out
 rw[if_neg h4]at hR;rw[gh]at h4;have P61:Hid (∀w,Calls Tryz.prog 162 #[.int .u8 c] w (AD false w)):=Hi (fun w=>by have h:=Mr c w;rwa [h4]at h);clear h4;by_cases h5:C5 c=true
 ·rw[if_pos h5]at hR;obtain⟨t,ht⟩:∃t,t=AF C5 s a:=⟨_,rfl⟩;have tge:a<=t:=by rw[ht];exact Ae _ _ _
  have tle:t<=s.size:=by rw[ht];exact Ai _ _ _ (by omega)
  have CR:Hid (∀w,Calls Tryz.prog 161 #[.string s,.int .i64 a,.int .i64 2] w (Ag t w)):=Hi (fun w=>by rw[ht];exact Yi s a w (by omega) (by omega));rw[<-ht]at hR;have P62:Hid (∀w,Calls Tryz.prog 163 #[.int .u8 c] w (AD true w)):=Hi (fun w=>by have h:=NY c w;rwa [h5]at h);obtain⟨nx,hnx⟩:∃n,n=(AE s t).toNat:=⟨_,rfl⟩;have hnx2:AE s t=(nx:Int):=by have:=DF s t;omega
  have CN:Hid (∀w,Calls Tryz.prog 64 #[.string s,.int .i64 t] w fun e w'=>e= .returned (.int .u8 nx)/\w=w'):=Hi (fun w=>by rw[<-hnx2];exact E8 s t w);obtain⟨bk,hbk⟩:∃b,b=F5 nx:=⟨_,rfl⟩;have P53:Hid (∀w,Calls Tryz.prog 19 #[.int .u8 nx] w (AD bk w)):=Hi (fun w=>by rw[hbk];exact Nu nx w);obtain⟨a1,ha1⟩:∃x,x=a+1:=⟨_,rfl⟩;have XM:(a:Int)+1=a1:=by omega
  have ba1:a1<=140737488355100:=by omega
  by_cases h6:t=a+1/\(c:Int)=46/\(a+1=s.size\/F5 (AE s (a+1)).toNat\/AE s (a+1)=37)
  ·rw[if_pos h6]at hR;obtain⟨h61,h62,h63⟩:=h6;have ta:t=a1:=by omega
   have e1:((t:Int)==a1)=true:=beq_of_eq (by omega);have e2:((c:Int)==46)=true:=beq_of_eq h62;rw[<-ha1,<-ta,<-hnx,<-hbk,hnx2]at h63;rw[<-ha1,<-ta]at hR;have HF:=Hi hR;have hq:(((t:Int)==s.size)=true)\/(((t:Int)==s.size)=false/\bk=true)\/(((t:Int)==s.size)=false/\bk=false/\((nx:Int)==37)=true):=by
    by_cases r1:t=s.size
    ·exact .inl (beq_of_eq (by omega))
    ·right;have r2:((t:Int)==s.size)=false:=AA (by omega);cases hbb:bk with
     |true=>exact .inl ⟨r2,rfl⟩
     |false=>
      right;refine⟨r2,rfl,beq_of_eq ?_⟩;rcases h63 with h|h|h
      ·exact absurd h r1
      ·rw[hbb]at h;cases h
      ·exact h
   clear hR h61 h62 h63 ht h5 hnx hnx2 hbk ha1 ta;rcases hq with r1|⟨r1,r2⟩|⟨r1,r2,r3⟩
   ·go_enter Tryz.func107,Tryz.ntmps107
    go_upto_region 23 with(first
     | (go_at_call 157;(with_reducible refine(P56.out _).mono ?_);rintro e w' ⟨rfl,rfl⟩)
     | (go_at_call 160;(with_reducible refine(P59.out _).mono ?_);rintro e w' ⟨rfl,rfl⟩)
     | (go_at_call 162;(with_reducible refine(P61.out _).mono ?_);rintro e w' ⟨rfl,rfl⟩)
     | (go_at_call 163;(with_reducible refine(P62.out _).mono ?_);rintro e w' ⟨rfl,rfl⟩)
     | (go_at_call 161;(with_reducible refine(CR.out _).mono ?_);rintro e w' ⟨rfl,rfl⟩)
     | (go_at_call 64;(with_reducible refine(CN.out _).mono ?_);rintro e w' ⟨rfl,rfl⟩)
     | (go_at_call 19;(with_reducible refine(P53.out _).mono ?_);rintro e w' ⟨rfl,rfl⟩))
    generalize hW:w.alloc _=W1;have HBL:Hid (Below w.heap.size w W1):=Hi (by subst hW;exact(AH _ _).alloc (nR _) _);have HK:Hid (A8 W1 w.heap.size):=Hi (by subst hW;exact A8.new w);clear hW;have HKX:=HK.out;obtain⟨k0,k1,k2,k3,k4,k5,k6⟩:=HKX.cs;obtain⟨f0,f1,f2,f3,f4,f5,f6⟩:=HKX.fs;have HB:=HBL;clear HKX;go_wp2;refine AI (v:= .tuple #[AK 9 ⟨#[]⟩ ⟨#[]⟩ 0 a t false,.int .i64 0]) ?_ rfl (AX.ok HF.out ?_)
    ·simp only[results,Tryz.results107];go_simp;rfl
    ·iterate 7 refine By ?_ (by first|omega|(simp only;omega)) _
     exact HB.out
   ·subst r2;go_enter Tryz.func107,Tryz.ntmps107
    go_upto_region 23 with(first
     | (go_at_call 157;(with_reducible refine(P56.out _).mono ?_);rintro e w' ⟨rfl,rfl⟩)
     | (go_at_call 160;(with_reducible refine(P59.out _).mono ?_);rintro e w' ⟨rfl,rfl⟩)
     | (go_at_call 162;(with_reducible refine(P61.out _).mono ?_);rintro e w' ⟨rfl,rfl⟩)
     | (go_at_call 163;(with_reducible refine(P62.out _).mono ?_);rintro e w' ⟨rfl,rfl⟩)
     | (go_at_call 161;(with_reducible refine(CR.out _).mono ?_);rintro e w' ⟨rfl,rfl⟩)
     | (go_at_call 64;(with_reducible refine(CN.out _).mono ?_);rintro e w' ⟨rfl,rfl⟩)
     | (go_at_call 19;(with_reducible refine(P53.out _).mono ?_);rintro e w' ⟨rfl,rfl⟩))
    generalize hW:w.alloc _=W1;have HBL:Hid (Below w.heap.size w W1):=Hi (by subst hW;exact(AH _ _).alloc (nR _) _);have HK:Hid (A8 W1 w.heap.size):=Hi (by subst hW;exact A8.new w);clear hW;have HKX:=HK.out;obtain⟨k0,k1,k2,k3,k4,k5,k6⟩:=HKX.cs;obtain⟨f0,f1,f2,f3,f4,f5,f6⟩:=HKX.fs;have HB:=HBL;clear HKX;go_wp2;refine AI (v:= .tuple #[AK 9 ⟨#[]⟩ ⟨#[]⟩ 0 a t false,.int .i64 0]) ?_ rfl (AX.ok HF.out ?_)
    ·simp only[results,Tryz.results107];go_simp;rfl
    ·iterate 7 refine By ?_ (by first|omega|(simp only;omega)) _
     exact HB.out
   ·subst r2;go_enter Tryz.func107,Tryz.ntmps107
    go_upto_region 23 with(first
     | (go_at_call 157;(with_reducible refine(P56.out _).mono ?_);rintro e w' ⟨rfl,rfl⟩)
     | (go_at_call 160;(with_reducible refine(P59.out _).mono ?_);rintro e w' ⟨rfl,rfl⟩)
     | (go_at_call 162;(with_reducible refine(P61.out _).mono ?_);rintro e w' ⟨rfl,rfl⟩)
     | (go_at_call 163;(with_reducible refine(P62.out _).mono ?_);rintro e w' ⟨rfl,rfl⟩)
     | (go_at_call 161;(with_reducible refine(CR.out _).mono ?_);rintro e w' ⟨rfl,rfl⟩)
     | (go_at_call 64;(with_reducible refine(CN.out _).mono ?_);rintro e w' ⟨rfl,rfl⟩)
     | (go_at_call 19;(with_reducible refine(P53.out _).mono ?_);rintro e w' ⟨rfl,rfl⟩))
    generalize hW:w.alloc _=W1;have HBL:Hid (Below w.heap.size w W1):=Hi (by subst hW;exact(AH _ _).alloc (nR _) _);have HK:Hid (A8 W1 w.heap.size):=Hi (by subst hW;exact A8.new w);clear hW;have HKX:=HK.out;obtain⟨k0,k1,k2,k3,k4,k5,k6⟩:=HKX.cs;obtain⟨f0,f1,f2,f3,f4,f5,f6⟩:=HKX.fs;have HB:=HBL;clear HKX;go_wp2;refine AI (v:= .tuple #[AK 9 ⟨#[]⟩ ⟨#[]⟩ 0 a t false,.int .i64 0]) ?_ rfl (AX.ok HF.out ?_)
    ·simp only[results,Tryz.results107];go_simp;rfl
    ·iterate 7 refine By ?_ (by first|omega|(simp only;omega)) _
     exact HB.out
  ·rw[if_neg h6]at hR;have HR:=Hi hR;have hq:(((t:Int)==a1)=false)\/(((t:Int)==a1)=true/\((c:Int)==46)=false)\/(((t:Int)==a1)=true/\((c:Int)==46)=true/\((t:Int)==s.size)=false/\bk=false/\((nx:Int)==37)=false):=by
    by_cases r1:t=a1
    ·right;have r2:((t:Int)==a1)=true:=beq_of_eq (by omega);by_cases r3:(c:Int)=46
     ·right;rw[<-ha1,<-r1,<-hnx,<-hbk,hnx2]at h6;refine⟨r2,beq_of_eq r3,AA (fun h=>h6 ⟨rfl,r3,.inl (by omega)⟩),?_,AA (fun h=>h6 ⟨rfl,r3,.inr (.inr h)⟩)⟩;cases hbb:bk with
      |false=>rfl
      |true=>exact absurd ⟨rfl,r3,.inr (.inl hbb)⟩ h6
     ·exact .inl ⟨r2,AA r3⟩
    ·exact .inl (AA (by omega))
   clear hR h6 ht h5 hnx hnx2 hbk ha1;rcases hq with r1|⟨r1,r2⟩|⟨r1,r2,r3,r4,r5⟩
   ·have hM:∃M,M=t-a:=⟨_,rfl⟩;obtain⟨M,hM⟩:=hM;have eM:(t:Int)-a=M:=by omega
    have bM:M<=140737488355328:=by omega
    have w9:∀W,(Instr.slice 9 (.string s) (some (.int .i64 (a:Int))) (some (.int .i64 (t:Int))) none).run Tryz.prog W= .ok (.string (s.extract a t)) W:=fun W=>by
     have:=eE (P:=Tryz.prog) (w:=W) 9 s .i64 .i64 (a:Int) (t:Int) Tryz.underlying9 (by omega) (by omega) (by omega);rw[show((a:Int)).toNat=a by omega,show((t:Int)).toNat=t by omega]at this;exact this
    by_cases hl:1000<M
    ·have HF:Hid (R= .err a 35):=Hi (by rw[HR.out];exact FI (by omega));have l1:decide ((1000:Int)<M)=true:=A5;have l2:(1000:Int)<M:=by omega
     clear hM hl w9;go_enter Tryz.func107,Tryz.ntmps107
     go_wp2_with (first
      | (go_at_call 157;(with_reducible refine(P56.out _).mono ?_);rintro e w' ⟨rfl,rfl⟩)
      | (go_at_call 160;(with_reducible refine(P59.out _).mono ?_);rintro e w' ⟨rfl,rfl⟩)
      | (go_at_call 162;(with_reducible refine(P61.out _).mono ?_);rintro e w' ⟨rfl,rfl⟩)
      | (go_at_call 163;(with_reducible refine(P62.out _).mono ?_);rintro e w' ⟨rfl,rfl⟩)
      | (go_at_call 161;(with_reducible refine(CR.out _).mono ?_);rintro e w' ⟨rfl,rfl⟩)
      | (go_at_call 64;(with_reducible refine(CN.out _).mono ?_);rintro e w' ⟨rfl,rfl⟩)
      | (go_at_call 19;(with_reducible refine(P53.out _).mono ?_);rintro e w' ⟨rfl,rfl⟩))
     generalize hW:w.alloc _=W1;have HBL:Hid (Below w.heap.size w W1):=Hi (by subst hW;exact(AH _ _).alloc (nR _) _);have HK:Hid (A8 W1 w.heap.size):=Hi (by subst hW;exact A8.new w);clear hW;refine(Ew a 35 _).mono ?_;rintro e W4 ⟨rfl,b4⟩;unfold As AK;have HKX:=HK.out.below b4;obtain⟨k0,k1,k2,k3,k4,k5,k6⟩:=HKX.cs;obtain⟨f0,f1,f2,f3,f4,f5,f6⟩:=HKX.fs;have HB:=Hi (HBL.out.trans (b4.mono HBL.out.size));clear b4 HKX;go_wp2;refine AI (v:= .tuple #[As a,.int .i64 35]) ?_ rfl (AX.er HF.out ?_)
     ·simp only[results,Tryz.results107];go_simp;rfl
     ·iterate 7 refine By ?_ (by first|omega|(simp only;omega)) _
      exact HB.out
    ·have HF:Hid (R= .ok 1 (s.extract a t) ⟨#[]⟩ 0 a t):=Hi (by rw[HR.out];exact Dy (by omega));have l1:decide ((1000:Int)<M)=false:=BC;have l2:¬(1000:Int)<M:=by omega
     have t1:(a:Int)<=t:=by omega
     have t2:(t:Int)<=s.size:=by omega
     clear hM hl;go_enter Tryz.func107,Tryz.ntmps107;have W9:=w9;clear w9
     go_upto_region 30 with(first
      | (go_at_call 157;(with_reducible refine(P56.out _).mono ?_);rintro e w' ⟨rfl,rfl⟩)
      | (go_at_call 160;(with_reducible refine(P59.out _).mono ?_);rintro e w' ⟨rfl,rfl⟩)
      | (go_at_call 162;(with_reducible refine(P61.out _).mono ?_);rintro e w' ⟨rfl,rfl⟩)
      | (go_at_call 163;(with_reducible refine(P62.out _).mono ?_);rintro e w' ⟨rfl,rfl⟩)
      | (go_at_call 161;(with_reducible refine(CR.out _).mono ?_);rintro e w' ⟨rfl,rfl⟩)
      | (go_at_call 64;(with_reducible refine(CN.out _).mono ?_);rintro e w' ⟨rfl,rfl⟩)
      | (go_at_call 19;(with_reducible refine(P53.out _).mono ?_);rintro e w' ⟨rfl,rfl⟩))
     generalize hW:w.alloc _=W1;have HBL:Hid (Below w.heap.size w W1):=Hi (by subst hW;exact(AH _ _).alloc (nR _) _);have HK:Hid (A8 W1 w.heap.size):=Hi (by subst hW;exact A8.new w);clear hW;have w9:=W9 W1;clear W9;have HKX:=HK.out;obtain⟨k0,k1,k2,k3,k4,k5,k6⟩:=HKX.cs;obtain⟨f0,f1,f2,f3,f4,f5,f6⟩:=HKX.fs;have HB:=HBL;clear HKX;go_wp2;refine AI (v:= .tuple #[AK 1 (s.extract a t) ⟨#[]⟩ 0 a t false,.int .i64 0]) ?_ rfl (AX.ok HF.out ?_)
     ·simp only[results,Tryz.results107];go_simp;rfl
     ·iterate 7 refine By ?_ (by first|omega|(simp only;omega)) _
      exact HB.out
   ·have hM:∃M,M=t-a:=⟨_,rfl⟩;obtain⟨M,hM⟩:=hM;have eM:(t:Int)-a=M:=by omega
    have bM:M<=140737488355328:=by omega
    have w9:∀W,(Instr.slice 9 (.string s) (some (.int .i64 (a:Int))) (some (.int .i64 (t:Int))) none).run Tryz.prog W= .ok (.string (s.extract a t)) W:=fun W=>by
     have:=eE (P:=Tryz.prog) (w:=W) 9 s .i64 .i64 (a:Int) (t:Int) Tryz.underlying9 (by omega) (by omega) (by omega);rw[show((a:Int)).toNat=a by omega,show((t:Int)).toNat=t by omega]at this;exact this
    by_cases hl:1000<M
    ·have HF:Hid (R= .err a 35):=Hi (by rw[HR.out];exact FI (by omega));have l1:decide ((1000:Int)<M)=true:=A5;have l2:(1000:Int)<M:=by omega
     clear hM hl w9;go_enter Tryz.func107,Tryz.ntmps107
     go_wp2_with (first
      | (go_at_call 157;(with_reducible refine(P56.out _).mono ?_);rintro e w' ⟨rfl,rfl⟩)
      | (go_at_call 160;(with_reducible refine(P59.out _).mono ?_);rintro e w' ⟨rfl,rfl⟩)
      | (go_at_call 162;(with_reducible refine(P61.out _).mono ?_);rintro e w' ⟨rfl,rfl⟩)
      | (go_at_call 163;(with_reducible refine(P62.out _).mono ?_);rintro e w' ⟨rfl,rfl⟩)
      | (go_at_call 161;(with_reducible refine(CR.out _).mono ?_);rintro e w' ⟨rfl,rfl⟩)
      | (go_at_call 64;(with_reducible refine(CN.out _).mono ?_);rintro e w' ⟨rfl,rfl⟩)
      | (go_at_call 19;(with_reducible refine(P53.out _).mono ?_);rintro e w' ⟨rfl,rfl⟩))
     generalize hW:w.alloc _=W1;have HBL:Hid (Below w.heap.size w W1):=Hi (by subst hW;exact(AH _ _).alloc (nR _) _);have HK:Hid (A8 W1 w.heap.size):=Hi (by subst hW;exact A8.new w);clear hW;refine(Ew a 35 _).mono ?_;rintro e W4 ⟨rfl,b4⟩;unfold As AK;have HKX:=HK.out.below b4;obtain⟨k0,k1,k2,k3,k4,k5,k6⟩:=HKX.cs;obtain⟨f0,f1,f2,f3,f4,f5,f6⟩:=HKX.fs;have HB:=Hi (HBL.out.trans (b4.mono HBL.out.size));clear b4 HKX;go_wp2;refine AI (v:= .tuple #[As a,.int .i64 35]) ?_ rfl (AX.er HF.out ?_)
     ·simp only[results,Tryz.results107];go_simp;rfl
     ·iterate 7 refine By ?_ (by first|omega|(simp only;omega)) _
      exact HB.out
    ·have HF:Hid (R= .ok 1 (s.extract a t) ⟨#[]⟩ 0 a t):=Hi (by rw[HR.out];exact Dy (by omega));have l1:decide ((1000:Int)<M)=false:=BC;have l2:¬(1000:Int)<M:=by omega
     have t1:(a:Int)<=t:=by omega
     have t2:(t:Int)<=s.size:=by omega
     clear hM hl;go_enter Tryz.func107,Tryz.ntmps107;have W9:=w9;clear w9
     go_upto_region 30 with(first
      | (go_at_call 157;(with_reducible refine(P56.out _).mono ?_);rintro e w' ⟨rfl,rfl⟩)
      | (go_at_call 160;(with_reducible refine(P59.out _).mono ?_);rintro e w' ⟨rfl,rfl⟩)
      | (go_at_call 162;(with_reducible refine(P61.out _).mono ?_);rintro e w' ⟨rfl,rfl⟩)
      | (go_at_call 163;(with_reducible refine(P62.out _).mono ?_);rintro e w' ⟨rfl,rfl⟩)
      | (go_at_call 161;(with_reducible refine(CR.out _).mono ?_);rintro e w' ⟨rfl,rfl⟩)
      | (go_at_call 64;(with_reducible refine(CN.out _).mono ?_);rintro e w' ⟨rfl,rfl⟩)
      | (go_at_call 19;(with_reducible refine(P53.out _).mono ?_);rintro e w' ⟨rfl,rfl⟩))
     generalize hW:w.alloc _=W1;have HBL:Hid (Below w.heap.size w W1):=Hi (by subst hW;exact(AH _ _).alloc (nR _) _);have HK:Hid (A8 W1 w.heap.size):=Hi (by subst hW;exact A8.new w);clear hW;have w9:=W9 W1;clear W9;have HKX:=HK.out;obtain⟨k0,k1,k2,k3,k4,k5,k6⟩:=HKX.cs;obtain⟨f0,f1,f2,f3,f4,f5,f6⟩:=HKX.fs;have HB:=HBL;clear HKX;go_wp2;refine AI (v:= .tuple #[AK 1 (s.extract a t) ⟨#[]⟩ 0 a t false,.int .i64 0]) ?_ rfl (AX.ok HF.out ?_)
     ·simp only[results,Tryz.results107];go_simp;rfl
     ·iterate 7 refine By ?_ (by first|omega|(simp only;omega)) _
      exact HB.out
   ·subst r4;have hM:∃M,M=t-a:=⟨_,rfl⟩;obtain⟨M,hM⟩:=hM;have eM:(t:Int)-a=M:=by omega
    have bM:M<=140737488355328:=by omega
    have w9:∀W,(Instr.slice 9 (.string s) (some (.int .i64 (a:Int))) (some (.int .i64 (t:Int))) none).run Tryz.prog W= .ok (.string (s.extract a t)) W:=fun W=>by
     have:=eE (P:=Tryz.prog) (w:=W) 9 s .i64 .i64 (a:Int) (t:Int) Tryz.underlying9 (by omega) (by omega) (by omega);rw[show((a:Int)).toNat=a by omega,show((t:Int)).toNat=t by omega]at this;exact this
    by_cases hl:1000<M
    ·have HF:Hid (R= .err a 35):=Hi (by rw[HR.out];exact FI (by omega));have l1:decide ((1000:Int)<M)=true:=A5;have l2:(1000:Int)<M:=by omega
     clear hM hl w9;go_enter Tryz.func107,Tryz.ntmps107
     go_wp2_with (first
      | (go_at_call 157;(with_reducible refine(P56.out _).mono ?_);rintro e w' ⟨rfl,rfl⟩)
      | (go_at_call 160;(with_reducible refine(P59.out _).mono ?_);rintro e w' ⟨rfl,rfl⟩)
      | (go_at_call 162;(with_reducible refine(P61.out _).mono ?_);rintro e w' ⟨rfl,rfl⟩)
      | (go_at_call 163;(with_reducible refine(P62.out _).mono ?_);rintro e w' ⟨rfl,rfl⟩)
      | (go_at_call 161;(with_reducible refine(CR.out _).mono ?_);rintro e w' ⟨rfl,rfl⟩)
      | (go_at_call 64;(with_reducible refine(CN.out _).mono ?_);rintro e w' ⟨rfl,rfl⟩)
      | (go_at_call 19;(with_reducible refine(P53.out _).mono ?_);rintro e w' ⟨rfl,rfl⟩))
     generalize hW:w.alloc _=W1;have HBL:Hid (Below w.heap.size w W1):=Hi (by subst hW;exact(AH _ _).alloc (nR _) _);have HK:Hid (A8 W1 w.heap.size):=Hi (by subst hW;exact A8.new w);clear hW;refine(Ew a 35 _).mono ?_;rintro e W4 ⟨rfl,b4⟩;unfold As AK;have HKX:=HK.out.below b4;obtain⟨k0,k1,k2,k3,k4,k5,k6⟩:=HKX.cs;obtain⟨f0,f1,f2,f3,f4,f5,f6⟩:=HKX.fs;have HB:=Hi (HBL.out.trans (b4.mono HBL.out.size));clear b4 HKX;go_wp2;refine AI (v:= .tuple #[As a,.int .i64 35]) ?_ rfl (AX.er HF.out ?_)
     ·simp only[results,Tryz.results107];go_simp;rfl
     ·iterate 7 refine By ?_ (by first|omega|(simp only;omega)) _
      exact HB.out
    ·have HF:Hid (R= .ok 1 (s.extract a t) ⟨#[]⟩ 0 a t):=Hi (by rw[HR.out];exact Dy (by omega));have l1:decide ((1000:Int)<M)=false:=BC;have l2:¬(1000:Int)<M:=by omega
     have t1:(a:Int)<=t:=by omega
     have t2:(t:Int)<=s.size:=by omega
     clear hM hl;go_enter Tryz.func107,Tryz.ntmps107;have W9:=w9;clear w9
     go_upto_region 30 with(first
      | (go_at_call 157;(with_reducible refine(P56.out _).mono ?_);rintro e w' ⟨rfl,rfl⟩)
      | (go_at_call 160;(with_reducible refine(P59.out _).mono ?_);rintro e w' ⟨rfl,rfl⟩)
      | (go_at_call 162;(with_reducible refine(P61.out _).mono ?_);rintro e w' ⟨rfl,rfl⟩)
      | (go_at_call 163;(with_reducible refine(P62.out _).mono ?_);rintro e w' ⟨rfl,rfl⟩)
      | (go_at_call 161;(with_reducible refine(CR.out _).mono ?_);rintro e w' ⟨rfl,rfl⟩)
      | (go_at_call 64;(with_reducible refine(CN.out _).mono ?_);rintro e w' ⟨rfl,rfl⟩)
      | (go_at_call 19;(with_reducible refine(P53.out _).mono ?_);rintro e w' ⟨rfl,rfl⟩))
     generalize hW:w.alloc _=W1;have HBL:Hid (Below w.heap.size w W1):=Hi (by subst hW;exact(AH _ _).alloc (nR _) _);have HK:Hid (A8 W1 w.heap.size):=Hi (by subst hW;exact A8.new w);clear hW;have w9:=W9 W1;clear W9;have HKX:=HK.out;obtain⟨k0,k1,k2,k3,k4,k5,k6⟩:=HKX.cs;obtain⟨f0,f1,f2,f3,f4,f5,f6⟩:=HKX.fs;have HB:=HBL;clear HKX;go_wp2;refine AI (v:= .tuple #[AK 1 (s.extract a t) ⟨#[]⟩ 0 a t false,.int .i64 0]) ?_ rfl (AX.ok HF.out ?_)
     ·simp only[results,Tryz.results107];go_simp;rfl
     ·iterate 7 refine By ?_ (by first|omega|(simp only;omega)) _
      exact HB.out
 rw[if_neg h5]at hR;rw[gh]at h5;have P62:Hid (∀w,Calls Tryz.prog 163 #[.int .u8 c] w (AD false w)):=Hi (fun w=>by have h:=NY c w;rwa [h5]at h);clear h5;obtain⟨t,ht⟩:∃t,t=a+1:=⟨_,rfl⟩;have et:(a:Int)+1=t:=by omega
 have tge:a<=t:=by omega
 have tle:t<=s.size:=by omega
 rw[<-ht]at hR;by_cases h7:(c:Int)=33\/(c:Int)=59
 ·rw[if_pos h7]at hR;have HR:=Hi hR;have hq:(((c:Int)==33)=true)\/(((c:Int)==33)=false/\((c:Int)==59)=true):=by
   by_cases r1:(c:Int)=33
   ·exact .inl (beq_of_eq r1)
   ·exact .inr ⟨AA r1,beq_of_eq (by omega)⟩
  clear hR h7;rcases hq with r1|⟨r1,r2⟩
  ·have w9:∀W,(Instr.slice 9 (.string s) (some (.int .i64 (a:Int))) (some (.int .i64 (t:Int))) none).run Tryz.prog W= .ok (.string (s.extract a t)) W:=fun W=>by
    have:=eE (P:=Tryz.prog) (w:=W) 9 s .i64 .i64 (a:Int) (t:Int) Tryz.underlying9 (by omega) (by omega) (by omega);rw[show((a:Int)).toNat=a by omega,show((t:Int)).toNat=t by omega]at this;exact this
   have HF:Hid (R= .ok 1 (s.extract a t) ⟨#[]⟩ 0 a t):=Hi (by rw[HR.out];exact Dy (by omega));clear ht;have eM:(t:Int)-a=1:=by omega
   have t1:(a:Int)<=t:=by omega
   have t2:(t:Int)<=s.size:=by omega
   have bt:t<=140737488355328:=by omega
   go_enter Tryz.func107,Tryz.ntmps107;have W9:=w9;clear w9
   go_upto_region 30 with(first
    | (go_at_call 157;(with_reducible refine(P56.out _).mono ?_);rintro e w' ⟨rfl,rfl⟩)
    | (go_at_call 160;(with_reducible refine(P59.out _).mono ?_);rintro e w' ⟨rfl,rfl⟩)
    | (go_at_call 162;(with_reducible refine(P61.out _).mono ?_);rintro e w' ⟨rfl,rfl⟩)
    | (go_at_call 163;(with_reducible refine(P62.out _).mono ?_);rintro e w' ⟨rfl,rfl⟩))
   generalize hW:w.alloc _=W1;have HBL:Hid (Below w.heap.size w W1):=Hi (by subst hW;exact(AH _ _).alloc (nR _) _);have HK:Hid (A8 W1 w.heap.size):=Hi (by subst hW;exact A8.new w);clear hW;have w9:=W9 W1;clear W9;have HKX:=HK.out;obtain⟨k0,k1,k2,k3,k4,k5,k6⟩:=HKX.cs;obtain⟨f0,f1,f2,f3,f4,f5,f6⟩:=HKX.fs;have HB:=HBL;clear HKX;go_wp2;refine AI (v:= .tuple #[AK 1 (s.extract a t) ⟨#[]⟩ 0 a t false,.int .i64 0]) ?_ rfl (AX.ok HF.out ?_)
   ·simp only[results,Tryz.results107];go_simp;rfl
   ·iterate 7 refine By ?_ (by first|omega|(simp only;omega)) _
    exact HB.out
  ·have w9:∀W,(Instr.slice 9 (.string s) (some (.int .i64 (a:Int))) (some (.int .i64 (t:Int))) none).run Tryz.prog W= .ok (.string (s.extract a t)) W:=fun W=>by
    have:=eE (P:=Tryz.prog) (w:=W) 9 s .i64 .i64 (a:Int) (t:Int) Tryz.underlying9 (by omega) (by omega) (by omega);rw[show((a:Int)).toNat=a by omega,show((t:Int)).toNat=t by omega]at this;exact this
   have HF:Hid (R= .ok 1 (s.extract a t) ⟨#[]⟩ 0 a t):=Hi (by rw[HR.out];exact Dy (by omega));clear ht;have eM:(t:Int)-a=1:=by omega
   have t1:(a:Int)<=t:=by omega
   have t2:(t:Int)<=s.size:=by omega
   have bt:t<=140737488355328:=by omega
   go_enter Tryz.func107,Tryz.ntmps107;have W9:=w9;clear w9
   go_upto_region 30 with(first
    | (go_at_call 157;(with_reducible refine(P56.out _).mono ?_);rintro e w' ⟨rfl,rfl⟩)
    | (go_at_call 160;(with_reducible refine(P59.out _).mono ?_);rintro e w' ⟨rfl,rfl⟩)
    | (go_at_call 162;(with_reducible refine(P61.out _).mono ?_);rintro e w' ⟨rfl,rfl⟩)
    | (go_at_call 163;(with_reducible refine(P62.out _).mono ?_);rintro e w' ⟨rfl,rfl⟩))
   generalize hW:w.alloc _=W1;have HBL:Hid (Below w.heap.size w W1):=Hi (by subst hW;exact(AH _ _).alloc (nR _) _);have HK:Hid (A8 W1 w.heap.size):=Hi (by subst hW;exact A8.new w);clear hW;have w9:=W9 W1;clear W9;have HKX:=HK.out;obtain⟨k0,k1,k2,k3,k4,k5,k6⟩:=HKX.cs;obtain⟨f0,f1,f2,f3,f4,f5,f6⟩:=HKX.fs;have HB:=HBL;clear HKX;go_wp2;refine AI (v:= .tuple #[AK 1 (s.extract a t) ⟨#[]⟩ 0 a t false,.int .i64 0]) ?_ rfl (AX.ok HF.out ?_)
   ·simp only[results,Tryz.results107];go_simp;rfl
   ·iterate 7 refine By ?_ (by first|omega|(simp only;omega)) _
    exact HB.out
 rw[if_neg h7]at hR;have r1:((c:Int)==33)=false:=AA (by omega);have r2:((c:Int)==59)=false:=AA (by omega);clear h7;by_cases h8:LC c=true
 ·rw[if_pos h8]at hR;have HR:=Hi hR;have P63:Hid (∀w,Calls Tryz.prog 164 #[.int .u8 c,.string ⟨#[40,41,91,93,123,125,44,124]⟩] w (AD true w)):=Hi (fun w=>by have h:=cu OE c w (by decide);unfold LC at h8;rwa [h8]at h);clear hR h8;have w9:∀W,(Instr.slice 9 (.string s) (some (.int .i64 (a:Int))) (some (.int .i64 (t:Int))) none).run Tryz.prog W= .ok (.string (s.extract a t)) W:=fun W=>by
   have:=eE (P:=Tryz.prog) (w:=W) 9 s .i64 .i64 (a:Int) (t:Int) Tryz.underlying9 (by omega) (by omega) (by omega);rw[show((a:Int)).toNat=a by omega,show((t:Int)).toNat=t by omega]at this;exact this
  have HF:Hid (R= .ok 8 (s.extract a t) ⟨#[]⟩ 0 a t):=Hi (by rw[HR.out];exact Dy (by omega));clear ht;have eM:(t:Int)-a=1:=by omega
  have t1:(a:Int)<=t:=by omega
  have t2:(t:Int)<=s.size:=by omega
  have bt:t<=140737488355328:=by omega
  go_enter Tryz.func107,Tryz.ntmps107;have W9:=w9;clear w9
  go_upto_region 30 with(first
   | (go_at_call 157;(with_reducible refine(P56.out _).mono ?_);rintro e w' ⟨rfl,rfl⟩)
   | (go_at_call 160;(with_reducible refine(P59.out _).mono ?_);rintro e w' ⟨rfl,rfl⟩)
   | (go_at_call 162;(with_reducible refine(P61.out _).mono ?_);rintro e w' ⟨rfl,rfl⟩)
   | (go_at_call 163;(with_reducible refine(P62.out _).mono ?_);rintro e w' ⟨rfl,rfl⟩)
   | (go_at_call 164;(with_reducible refine(P63.out _).mono ?_);rintro e w' ⟨rfl,rfl⟩))
  generalize hW:w.alloc _=W1;have HBL:Hid (Below w.heap.size w W1):=Hi (by subst hW;exact(AH _ _).alloc (nR _) _);have HK:Hid (A8 W1 w.heap.size):=Hi (by subst hW;exact A8.new w);clear hW;have w9:=W9 W1;clear W9;have HKX:=HK.out;obtain⟨k0,k1,k2,k3,k4,k5,k6⟩:=HKX.cs;obtain⟨f0,f1,f2,f3,f4,f5,f6⟩:=HKX.fs;have HB:=HBL;clear HKX;go_wp2;refine AI (v:= .tuple #[AK 8 (s.extract a t) ⟨#[]⟩ 0 a t false,.int .i64 0]) ?_ rfl (AX.ok HF.out ?_)
  ·simp only[results,Tryz.results107];go_simp;rfl
  ·iterate 7 refine By ?_ (by first|omega|(simp only;omega)) _
   exact HB.out
 rw[if_neg h8]at hR;rw[gh]at h8;have HF:=Hi hR;have P63:Hid (∀w,Calls Tryz.prog 164 #[.int .u8 c,.string ⟨#[40,41,91,93,123,125,44,124]⟩] w (AD false w)):=Hi (fun w=>by have h:=cu OE c w (by decide);unfold LC at h8;rwa [h8]at h);clear hR ht h8;go_enter Tryz.func107,Tryz.ntmps107
 go_wp2_with (first
  | (go_at_call 157;(with_reducible refine(P56.out _).mono ?_);rintro e w' ⟨rfl,rfl⟩)
  | (go_at_call 160;(with_reducible refine(P59.out _).mono ?_);rintro e w' ⟨rfl,rfl⟩)
  | (go_at_call 162;(with_reducible refine(P61.out _).mono ?_);rintro e w' ⟨rfl,rfl⟩)
  | (go_at_call 163;(with_reducible refine(P62.out _).mono ?_);rintro e w' ⟨rfl,rfl⟩)
  | (go_at_call 164;(with_reducible refine(P63.out _).mono ?_);rintro e w' ⟨rfl,rfl⟩))
 generalize hW:w.alloc _=W1;have HBL:Hid (Below w.heap.size w W1):=Hi (by subst hW;exact(AH _ _).alloc (nR _) _);have HK:Hid (A8 W1 w.heap.size):=Hi (by subst hW;exact A8.new w);clear hW;refine(Ew a 30 _).mono ?_;rintro e W4 ⟨rfl,b4⟩;unfold As AK;have HKX:=HK.out.below b4;obtain⟨k0,k1,k2,k3,k4,k5,k6⟩:=HKX.cs;obtain⟨f0,f1,f2,f3,f4,f5,f6⟩:=HKX.fs;have HB:=Hi (HBL.out.trans (b4.mono HBL.out.size));clear b4 HKX;go_wp2;refine AI (v:= .tuple #[As a,.int .i64 30]) ?_ rfl (AX.er HF.out ?_)
 ·simp only[results,Tryz.results107];go_simp;rfl
 ·iterate 7 refine By ?_ (by first|omega|(simp only;omega)) _
  exact HB.out
end Go.Proofs
