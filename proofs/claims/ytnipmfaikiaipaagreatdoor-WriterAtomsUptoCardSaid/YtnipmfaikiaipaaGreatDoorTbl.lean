import Derived.Test.YtnipmfaikiaipaaGreatDoorTbk
import Derived.Test.YtnipmfaikiaipaaGreatDoorTbj
set_option linter.unusedSimpArgs false
set_option maxRecDepth 1000000
set_option maxHeartbeats 40000000
namespace Go.Proofs
open Go.RowKit Go.Pf Go.Lx Go.Hb Go.Rb Go.Bg
structure TW (w:World) (b:Nat) (s:ByteArray) (a k en:Nat) (W:World):Prop where
 t0:A8 W w.heap.size
 t1:F9 W (w.heap.size+1) k ⟨#[]⟩ ⟨#[]⟩ 0 a en false
 st:St W b s a
 Ad:Below w.heap.size w W
 ld:Aj W
 SD:Dl W W.heap.size
 sz:w.heap.size+2<=W.heap.size
theorem TW.drewN {w:World} {b:Nat} {s:ByteArray} {a k en:Nat} {W:World}(h:TW w b s a k en W) (n:Nat):TW w b s a k en (W.drewN n):=
 ⟨⟨h.t0.h⟩,⟨h.t1.h⟩,⟨h.st.h⟩,Lb h.Ad n,h.ld.drewN n,h.SD.drewN n,h.sz⟩
theorem TW.drew {w:World} {b:Nat} {s:ByteArray} {a k en:Nat} {W:World}(h:TW w b s a k en W):TW w b s a k en W.drew:=h.drewN 1
theorem TW.Qi {w:World} {b:Nat} {s:ByteArray} {a k en:Nat} {W:World}(h:TW w b s a k en W) (hb:b<w.heap.size) (hL:Aj w) (hT:Dl w w.heap.size) (k' en':Nat):TW w b s a k' en' ((W.setCell ⟨w.heap.size+1,0,none⟩ (.int .i64 k')).setCell ⟨w.heap.size+1,5,none⟩ (.int .i64 en')):=by
 have n1:w.heap.size≠w.heap.size+1:=by omega
 have n2:b≠w.heap.size+1:=by omega
 have hb2:Below w.heap.size w ((W.setCell ⟨w.heap.size+1,0,none⟩ (.int .i64 k')).setCell ⟨w.heap.size+1,5,none⟩ (.int .i64 en')):=Ez h.Ad (Nat.le_succ _) _ _;refine⟨⟨(gW _ _ _ _ n1).trans ((gW _ _ _ _ n1).trans h.t0.h)⟩,(h.t1.eY k').fA en',⟨(gW _ _ _ _ n2).trans ((gW _ _ _ _ n2).trans h.st.h)⟩,hb2,?_,?_,by simpa using h.sz⟩
 ·exact hL.below hb2
 ·exact hT.next hb2
theorem ZB {c:Nat}(h:GS c=true):DP c=true:=by simp[DP,h]
theorem X8 {c:Nat}(h:Gw c=true):DP c=true:=by simp[DP,h]
theorem aj {c:Nat}(h:c<256){z:Int}(hz:z=Lib.indexByte OE.data.toList c.toUInt8):decide (0<=z)=LC c:=by rw[hz];exact ew h
theorem ER {s:ByteArray} {a:Nat}(ha:a<s.size):(AE s a).toNat=s[a].toNat:=by rw[AO s a ha,IT]
section
variable {s:ByteArray} {a:Nat}(ha:a<s.size)
theorem YR (h:AM s[a].toNat=true):Dr s a=F7 s a:=by unfold Dr;rw[if_neg (by omega),ER ha,if_pos h]
theorem Y5 (h:AM s[a].toNat=false) (h2:(s[a].toNat:Int)=39\/(s[a].toNat:Int)=34\/(s[a].toNat:Int)=96):Dr s a=Br s a s[a].toNat (a+1) []:=by
 unfold Dr;rw[if_neg (by omega),ER ha,if_neg (by rw[h];decide),AO s a ha,if_pos h2]
theorem ZV (h:AM s[a].toNat=false) (h2:¬((s[a].toNat:Int)=39\/(s[a].toNat:Int)=34\/(s[a].toNat:Int)=96)) (h3:GS s[a].toNat=true):Dr s a=Dc s 1 a (AF DP s a):=by
 unfold Dr;rw[if_neg (by omega),ER ha,if_neg (by rw[h];decide),AO s a ha,if_neg h2,if_pos h3]
theorem Xv (h:AM s[a].toNat=false) (h2:¬((s[a].toNat:Int)=39\/(s[a].toNat:Int)=34\/(s[a].toNat:Int)=96)) (h3:GS s[a].toNat=false) (h4:Gw s[a].toNat=true):Dr s a=Dc s 3 a (AF DP s a):=by
 unfold Dr;rw[if_neg (by omega),ER ha,if_neg (by rw[h];decide),AO s a ha,if_neg h2,if_neg (by rw[h3];decide),if_pos h4]
theorem Xc (h:AM s[a].toNat=false) (h2:¬((s[a].toNat:Int)=39\/(s[a].toNat:Int)=34\/(s[a].toNat:Int)=96)) (h3:GS s[a].toNat=false) (h4:Gw s[a].toNat=false) (h5:C5 s[a].toNat=true):
 Dr s a=if AF C5 s a=a+1/\(s[a].toNat:Int)=46/\(a+1=s.size\/F5 (AE s (a+1)).toNat\/AE s (a+1)=37)then .ok 9 ⟨#[]⟩ ⟨#[]⟩ 0 a (a+1)else Dc s 1 a (AF C5 s a):=by
 unfold Dr;rw[if_neg (by omega),ER ha,if_neg (by rw[h];decide),AO s a ha,if_neg h2,if_neg (by rw[h3];decide),if_neg (by rw[h4];decide),if_pos h5]
theorem Xs (h:AM s[a].toNat=false) (h2:¬((s[a].toNat:Int)=39\/(s[a].toNat:Int)=34\/(s[a].toNat:Int)=96)) (h3:GS s[a].toNat=false) (h4:Gw s[a].toNat=false) (h5:C5 s[a].toNat=false) (h6:(s[a].toNat:Int)=33\/(s[a].toNat:Int)=59):Dr s a=Dc s 1 a (a+1):=by
 unfold Dr;rw[if_neg (by omega),ER ha,if_neg (by rw[h];decide),AO s a ha,if_neg h2,if_neg (by rw[h3];decide),if_neg (by rw[h4];decide),if_neg (by rw[h5];decide),if_pos h6]
theorem YS (h:AM s[a].toNat=false) (h2:¬((s[a].toNat:Int)=39\/(s[a].toNat:Int)=34\/(s[a].toNat:Int)=96)) (h3:GS s[a].toNat=false) (h4:Gw s[a].toNat=false) (h5:C5 s[a].toNat=false) (h6:¬((s[a].toNat:Int)=33\/(s[a].toNat:Int)=59)):
 Dr s a=if LC s[a].toNat=true then Dc s 8 a (a+1)else .err a 30:=by
 unfold Dr;rw[if_neg (by omega),ER ha,if_neg (by rw[h];decide),AO s a ha,if_neg h2,if_neg (by rw[h3];decide),if_neg (by rw[h4];decide),if_neg (by rw[h5];decide),if_neg h6]
end
theorem Z3 (b:Nat) (s:ByteArray) (a:Nat) (w:World) (hs:s.size<=100000000) (ha:a<=s.size) (hst:Hid (St w b s a)) (hL:Hid (Aj w)) (hT:Hid (Dl w w.heap.size)) (Gx:Hid (Tryz.prog.globals.size<=w.heap.size)):
 Calls Tryz.prog 32 #[.pointer (some ⟨b,0,none⟩)] w (AL (Dr s a) w):=by
 have hb:=hst.out.lt;have k1:b<w.heap.size+1:=by omega
 have k2:b<w.heap.size+1+1:=by omega
 obtain⟨R,hR⟩:∃R,R=Dr s a:=⟨_,rfl⟩;rw[<-hR];have HR:=Hi hR;have HTK:Hid (∀W2,W2=((w.alloc (.cells #[.int .i64 0,.string ⟨#[]⟩,.string ⟨#[]⟩,.int .u64 0,.int .i64 0,.int .i64 0,.bool false] 30)).alloc (.cells #[.int .i64 10,.string ⟨#[]⟩,.string ⟨#[]⟩,.int .u64 0,.int .i64 a,.int .i64 a,.bool false] 30)).drew->TW w b s a 10 a W2):=Hi (by
  intro W2 hW2;have key:∀W2,W2=(w.alloc (.cells #[.int .i64 0,.string ⟨#[]⟩,.string ⟨#[]⟩,.int .u64 0,.int .i64 0,.int .i64 0,.bool false] 30)).alloc (.cells #[.int .i64 10,.string ⟨#[]⟩,.string ⟨#[]⟩,.int .u64 0,.int .i64 a,.int .i64 a,.bool false] 30)->TW w b s a 10 a W2:=by
   intro W2 hW2;have sz2:W2.heap.size=w.heap.size+2:=by subst hW2;simp
   have bl2:Below w.heap.size w W2:=by subst hW2;exact((AH _ _).alloc (nR _) _).alloc (by simp) _
   have tk0:A8 W2 w.heap.size:=by
    refine⟨?_⟩;subst hW2;rw[Lib.alloc_old _ _ _ (by simp)];exact dk w _
   have tk1:F9 W2 (w.heap.size+1) (10:Nat) ⟨#[]⟩ ⟨#[]⟩ 0 a a false:=by
    refine⟨?_⟩;subst hW2;have:=dk (w.alloc (.cells (Ck 0) 30)) (.cells #[.int .i64 10,.string ⟨#[]⟩,.string ⟨#[]⟩,.int .u64 0,.int .i64 a,.int .i64 a,.bool false] 30);rw[show(w.alloc (.cells (Ck 0) 30)).heap.size=w.heap.size+1 by simp]at this;exact this
   exact⟨tk0,tk1,hst.out.below bl2,bl2,hL.out.below bl2,hT.out.next bl2,by omega⟩
  subst hW2;exact(key _ rfl).drew)
 have c0:=hst.out.c0;have c1:=hst.out.c1;clear hR;go_enter Tryz.func32,Tryz.ntmps32;go_wp2
 go_region
 generalize hW2:World.drew _=W2;have Q2:Hid (TW w b s a 10 a W2):=Hi (HTK.out W2 hW2.symm);clear hW2 c0 c1;have c0:=Q2.out.st.c0;have c1:=Q2.out.st.c1;by_cases hsz:a=s.size
 ·have t1:((a:Int)==(s.size:Int))=true:=beq_of_eq (by omega);have HF:Hid (R= .ok 10 ⟨#[]⟩ ⟨#[]⟩ 0 a a):=Hi (by rw[HR.out];unfold Dr;rw[if_pos hsz]);clear hsz;go_wp2
  go_quiet (fail)
  generalize hW3:W2.drewN _=W;have Q:Hid (TW w b s a 10 a W):=Hi (by rw[<-hW3];exact Q2.out.drewN _);clear hW3 c0 c1;obtain⟨x00,x01,x02,x03,x04,x05,x06⟩:=Q.out.t0.cs;obtain⟨y00,y01,y02,y03,y04,y05,y06⟩:=Q.out.t0.fs;obtain⟨x10,x11,x12,x13,x14,x15,x16⟩:=Q.out.t1.cs;obtain⟨y10,y11,y12,y13,y14,y15,y16⟩:=Q.out.t1.fs;go_wp2;refine AI (v:= .tuple #[AK 10 ⟨#[]⟩ ⟨#[]⟩ 0 a a false,.int .i64 0,.int .i64 0]) ?_ rfl (AL.ok (k:=10) (bits:=0) HF.out (AJ Q.out.Ad (nR _) _ _ _ _ _ _ _));simp only[results,Tryz.results32];go_simp
  try rfl
 have t1:((a:Int)==(s.size:Int))=false:=AA (by omega);have hlt:a<s.size:=by omega
 have li:(a:Int)<s.size:=by omega
 obtain⟨a1,ha1⟩:∃a1,a1=a+1:=⟨_,rfl⟩;have XM:(a:Int)+1=a1:=by omega
 have F0:=Hi ha1;have ba1:a1<=s.size:=by omega
 clear hsz ha1;go_wp2
 go_quiet (fail)
 generalize hWa:W2.drewN _=Wa;have QA:Hid (TW w b s a 10 a Wa):=Hi (by rw[<-hWa];exact Q2.out.drewN _);clear hWa c0 c1 Q2 HTK;have c0:=QA.out.st.c0;have c1:=QA.out.st.c1;go_wp2
 go_quiet (fail)
 generalize hW3:Wa.drewN _=W;have Q:Hid (TW w b s a 10 a W):=Hi (by rw[<-hW3];exact QA.out.drewN _);clear hW3 c0 c1 QA;have c0:=Q.out.st.c0;have c1:=Q.out.st.c1
 go_upto_block 0 with fail
 go_cut []from 7 (fun wx=>∃k en:Nat,TW w b s a k en wx/\R=Dc s k a en/\a<en/\en<=s.size)
 case first=>
  have c256:s[a].toNat<256:=s[a].toNat_lt;by_cases hdg:AM s[a].toNat=true
  ·have C45:Hid (∀w,Calls Tryz.prog 71 #[.int .u8 s[a].toNat] w (AD true w)):=Hi (fun w=>by rw[<-hdg];exact FQ _ w);have HF:Hid (R=F7 s a):=Hi (by rw[HR.out];exact YR hlt hdg);have CN:Hid (Calls Tryz.prog 72 #[.pointer (some ⟨b,0,none⟩)] W (AL R W)):=Hi (by
    rw[HF.out];exact Yd b s a W hs hlt (Hi (by rw[ER hlt];exact hdg)) (Hi Q.out.st) (Hi Q.out.ld) (Hi Q.out.SD) (Hi (by have:=Gx.out;have:=Q.out.sz;omega)))
   clear hdg
   go_wp2_with (first|(go_at_call 71;(with_reducible refine(C45.out _).mono ?_);rintro e w' ⟨rfl,rfl⟩)|(go_at_call 72;(with_reducible refine CN.out.mono ?_)))
   rintro e W3 h;obtain⟨k,tx,nu,bits,at_,en,ly,pp,nn,rfl,he,b3⟩:=AL.ET h;unfold AK;have HE:=Hi he;have BE:Hid (Below w.heap.size w W3):=Hi (Q.out.Ad.trans (b3.mono (by have:=Q.out.sz;omega)));have TE:Hid (A8 W3 w.heap.size):=Hi (Q.out.t0.below b3);clear h he b3;obtain⟨x00,x01,x02,x03,x04,x05,x06⟩:=TE.out.cs;obtain⟨y00,y01,y02,y03,y04,y05,y06⟩:=TE.out.fs;go_wp2;refine AI (v:= .tuple #[AK k tx nu bits at_ en ly,.int .i64 pp,.int .i64 nn]) ?_ rfl (HE.out _ _ (AJ BE.out (nR _) _ _ _ _ _ _ _));simp only[results,Tryz.results32];go_simp
   try rfl
  have hdg:AM s[a].toNat=false:=by simpa using hdg
  have HDG:=Hi hdg;have C45:Hid (∀w,Calls Tryz.prog 71 #[.int .u8 s[a].toNat] w (AD false w)):=Hi (fun w=>by rw[<-hdg];exact FQ _ w);clear hdg;by_cases hq:(s[a].toNat:Int)=39\/(s[a].toNat:Int)=34\/(s[a].toNat:Int)=96
  ·have HF:Hid (R=Br s a s[a].toNat (a+1) []):=Hi (by rw[HR.out];exact Y5 hlt HDG.out hq);obtain⟨te,pe,e6⟩:=Q.out.SD.e6;have CN:Hid (Calls Tryz.prog 73 #[.pointer (some ⟨b,0,none⟩),.int .u8 s[a].toNat] W (AL R W)):=Hi (by
    rw[HF.out];exact Yz b s a s[a].toNat W hs hlt (Hi (by omega)) (Hi Q.out.st) (Hi Q.out.ld) te pe (Hi e6) (Hi (by have:=Gx.out;have:=Q.out.sz;omega)))
   have KEY:((s[a].toNat:Int)==39)=true\/(((s[a].toNat:Int)==39)=false/\((s[a].toNat:Int)==34)=true)\/(((s[a].toNat:Int)==39)=false/\((s[a].toNat:Int)==34)=false/\((s[a].toNat:Int)==96)=true):=by
    rcases hq with h|h|h
    ·exact .inl (beq_of_eq h)
    ·exact .inr (.inl ⟨AA (by omega),beq_of_eq h⟩)
    ·exact .inr (.inr ⟨AA (by omega),AA (by omega),beq_of_eq h⟩)
   clear hq e6;rcases KEY with t39|⟨t39,t34⟩|⟨t39,t34,t96⟩
   ·go_wp2_with (first|(go_at_call 71;(with_reducible refine(C45.out _).mono ?_);rintro e w' ⟨rfl,rfl⟩)|(go_at_call 73;(with_reducible refine CN.out.mono ?_)))
    rintro e W3 h;obtain⟨k,tx,nu,bits,at_,en,ly,pp,nn,rfl,he,b3⟩:=AL.ET h;unfold AK;have HE:=Hi he;have BE:Hid (Below w.heap.size w W3):=Hi (Q.out.Ad.trans (b3.mono (by have:=Q.out.sz;omega)));have TE:Hid (A8 W3 w.heap.size):=Hi (Q.out.t0.below b3);clear h he b3;obtain⟨x00,x01,x02,x03,x04,x05,x06⟩:=TE.out.cs;obtain⟨y00,y01,y02,y03,y04,y05,y06⟩:=TE.out.fs;go_wp2;refine AI (v:= .tuple #[AK k tx nu bits at_ en ly,.int .i64 pp,.int .i64 nn]) ?_ rfl (HE.out _ _ (AJ BE.out (nR _) _ _ _ _ _ _ _));simp only[results,Tryz.results32];go_simp
    try rfl
   ·go_wp2_with (first|(go_at_call 71;(with_reducible refine(C45.out _).mono ?_);rintro e w' ⟨rfl,rfl⟩)|(go_at_call 73;(with_reducible refine CN.out.mono ?_)))
    rintro e W3 h;obtain⟨k,tx,nu,bits,at_,en,ly,pp,nn,rfl,he,b3⟩:=AL.ET h;unfold AK;have HE:=Hi he;have BE:Hid (Below w.heap.size w W3):=Hi (Q.out.Ad.trans (b3.mono (by have:=Q.out.sz;omega)));have TE:Hid (A8 W3 w.heap.size):=Hi (Q.out.t0.below b3);clear h he b3;obtain⟨x00,x01,x02,x03,x04,x05,x06⟩:=TE.out.cs;obtain⟨y00,y01,y02,y03,y04,y05,y06⟩:=TE.out.fs;go_wp2;refine AI (v:= .tuple #[AK k tx nu bits at_ en ly,.int .i64 pp,.int .i64 nn]) ?_ rfl (HE.out _ _ (AJ BE.out (nR _) _ _ _ _ _ _ _));simp only[results,Tryz.results32];go_simp
    try rfl
   ·go_wp2_with (first|(go_at_call 71;(with_reducible refine(C45.out _).mono ?_);rintro e w' ⟨rfl,rfl⟩)|(go_at_call 73;(with_reducible refine CN.out.mono ?_)))
    rintro e W3 h;obtain⟨k,tx,nu,bits,at_,en,ly,pp,nn,rfl,he,b3⟩:=AL.ET h;unfold AK;have HE:=Hi he;have BE:Hid (Below w.heap.size w W3):=Hi (Q.out.Ad.trans (b3.mono (by have:=Q.out.sz;omega)));have TE:Hid (A8 W3 w.heap.size):=Hi (Q.out.t0.below b3);clear h he b3;obtain⟨x00,x01,x02,x03,x04,x05,x06⟩:=TE.out.cs;obtain⟨y00,y01,y02,y03,y04,y05,y06⟩:=TE.out.fs;go_wp2;refine AI (v:= .tuple #[AK k tx nu bits at_ en ly,.int .i64 pp,.int .i64 nn]) ?_ rfl (HE.out _ _ (AJ BE.out (nR _) _ _ _ _ _ _ _));simp only[results,Tryz.results32];go_simp
    try rfl
  have t39:((s[a].toNat:Int)==39)=false:=AA (fun h=>hq (.inl h));have t34:((s[a].toNat:Int)==34)=false:=AA (fun h=>hq (.inr (.inl h)));have t96:((s[a].toNat:Int)==96)=false:=AA (fun h=>hq (.inr (.inr h)));have HQ:=Hi hq;clear hq;by_cases hsm:GS s[a].toNat=true
  ·have C48:Hid (∀w,Calls Tryz.prog 74 #[.int .u8 s[a].toNat] w (AD true w)):=Hi (fun w=>by rw[<-hsm];exact Qf _ w);obtain⟨L,hL⟩:∃L,L=AF DP s a:=⟨_,rfl⟩;have HL:=Hi hL;have CPL:Hid (∀w,Calls Tryz.prog 75 #[.string s,.int .i64 a,.func (.func 76) #[] #[]] w (Ag L w)):=Hi (fun w=>by rw[HL.out];exact SE s a w (by omega) (by omega));have bL:L<=s.size:=by rw[hL];exact Ai DP s a (by omega)
   have HF:Hid (R=Dc s 1 a L/\a<L):=Hi ⟨by rw[HR.out,HL.out];exact ZV hlt HDG.out HQ.out hsm,by rw[hL,Af hlt (ZB hsm)];exact Ae _ s (a+1)⟩;clear hL;obtain⟨x10,x11,x12,x13,x14,x15,x16⟩:=Q.out.t1.cs;obtain⟨y10,y11,y12,y13,y14,y15,y16⟩:=Q.out.t1.fs
   go_wp2_with (first|(go_at_call 71;(with_reducible refine(C45.out _).mono ?_);rintro e w' ⟨rfl,rfl⟩)|(go_at_call 74;(with_reducible refine(C48.out _).mono ?_);rintro e w' ⟨rfl,rfl⟩))
   go_region_with (go_at_call 75;(with_reducible refine(CPL.out _).mono ?_);rintro e w' ⟨rfl,rfl⟩)
   all_goals
    go_wp2;go_meet;exact⟨1,L,(Q.out.Qi hb hL.out hT.out 1 L).drew,HF.out.1,HF.out.2,bL⟩
  have hsm:GS s[a].toNat=false:=by simpa using hsm
  have HSM:=Hi hsm;have C48:Hid (∀w,Calls Tryz.prog 74 #[.int .u8 s[a].toNat] w (AD false w)):=Hi (fun w=>by rw[<-hsm];exact Qf _ w);clear hsm;by_cases hgr:Gw s[a].toNat=true
  ·have C51:Hid (∀w,Calls Tryz.prog 77 #[.int .u8 s[a].toNat] w (AD true w)):=Hi (fun w=>by rw[<-hgr];exact RU _ w);obtain⟨L,hL⟩:∃L,L=AF DP s a:=⟨_,rfl⟩;have HL:=Hi hL;have CPL:Hid (∀w,Calls Tryz.prog 75 #[.string s,.int .i64 a,.func (.func 76) #[] #[]] w (Ag L w)):=Hi (fun w=>by rw[HL.out];exact SE s a w (by omega) (by omega));have bL:L<=s.size:=by rw[hL];exact Ai DP s a (by omega)
   have HF:Hid (R=Dc s 3 a L/\a<L):=Hi ⟨by rw[HR.out,HL.out];exact Xv hlt HDG.out HQ.out HSM.out hgr,by rw[hL,Af hlt (X8 hgr)];exact Ae _ s (a+1)⟩;clear hL;obtain⟨x10,x11,x12,x13,x14,x15,x16⟩:=Q.out.t1.cs;obtain⟨y10,y11,y12,y13,y14,y15,y16⟩:=Q.out.t1.fs
   go_wp2_with (first|(go_at_call 71;(with_reducible refine(C45.out _).mono ?_);rintro e w' ⟨rfl,rfl⟩)|(go_at_call 74;(with_reducible refine(C48.out _).mono ?_);rintro e w' ⟨rfl,rfl⟩)|(go_at_call 77;(with_reducible refine(C51.out _).mono ?_);rintro e w' ⟨rfl,rfl⟩))
   go_region_with (go_at_call 75;(with_reducible refine(CPL.out _).mono ?_);rintro e w' ⟨rfl,rfl⟩)
   all_goals
    go_wp2;go_meet;exact⟨3,L,(Q.out.Qi hb hL.out hT.out 3 L).drew,HF.out.1,HF.out.2,bL⟩
  have hgr:Gw s[a].toNat=false:=by simpa using hgr
  have HGR:=Hi hgr;have C51:Hid (∀w,Calls Tryz.prog 77 #[.int .u8 s[a].toNat] w (AD false w)):=Hi (fun w=>by rw[<-hgr];exact RU _ w);clear hgr;by_cases hsg:C5 s[a].toNat=true
  ·have C52:Hid (∀w,Calls Tryz.prog 78 #[.int .u8 s[a].toNat] w (AD true w)):=Hi (fun w=>by rw[<-hsg];exact R6 _ c256 w);obtain⟨L,hL⟩:∃L,L=AF C5 s a:=⟨_,rfl⟩;have HL:=Hi hL;have CP0:∀w,Calls Tryz.prog 75 #[.string s,.int .i64 a,.func (.func 78) #[] #[]] w (Ag L w):=fun w=>by rw[HL.out];exact X0 s a w (by omega) (by omega)
   have bL:L<=s.size:=by rw[hL];exact Ai C5 s a (by omega)
   have aL:a<L:=by rw[hL,Af hlt hsg];exact Ae _ s (a+1)
   have HT:Hid (R=if L=a+1/\(s[a].toNat:Int)=46/\(a+1=s.size\/F5 (AE s (a+1)).toNat\/AE s (a+1)=37)then .ok 9 ⟨#[]⟩ ⟨#[]⟩ 0 a (a+1)else Dc s 1 a L):=Hi (by rw[HR.out,HL.out];exact Xc hlt HDG.out HQ.out HSM.out HGR.out hsg);obtain⟨x10,x11,x12,x13,x14,x15,x16⟩:=Q.out.t1.cs;obtain⟨y10,y11,y12,y13,y14,y15,y16⟩:=Q.out.t1.fs;by_cases hLa:L=a1
   ·have hL1:L=a+1:=by have:=F0.out;omega
    have CPL:Hid (∀w,Calls Tryz.prog 75 #[.string s,.int .i64 a,.func (.func 78) #[] #[]] w (Ag a1 w)):=Hi (fun w=>by rw[<-hLa];exact CP0 w);have HT2:Hid (R=if(s[a].toNat:Int)=46/\(a1=s.size\/F5 (AE s a1).toNat\/AE s a1=37)then .ok 9 ⟨#[]⟩ ⟨#[]⟩ 0 a a1 else Dc s 1 a a1):=Hi (by
     rw[HT.out,hLa,F0.out];by_cases h:(s[a].toNat:Int)=46/\(a+1=s.size\/F5 (AE s (a+1)).toNat\/AE s (a+1)=37)
     ·rw[if_pos ⟨rfl,h⟩,if_pos h]
     ·rw[if_neg (fun k=>h k.2),if_neg h])
    have aL1:a<a1:=by omega
    clear hL hLa CP0 hL1 aL bL HT
    go_upto_region 15 with(first|(go_at_call 71;(with_reducible refine(C45.out _).mono ?_);rintro e w' ⟨rfl,rfl⟩)|(go_at_call 74;(with_reducible refine(C48.out _).mono ?_);rintro e w' ⟨rfl,rfl⟩)|(go_at_call 77;(with_reducible refine(C51.out _).mono ?_);rintro e w' ⟨rfl,rfl⟩)|(go_at_call 78;(with_reducible refine(C52.out _).mono ?_);rintro e w' ⟨rfl,rfl⟩))
    go_cut []from 97 to 108 (fun wx=>TW w b s a 1 a1 wx)
    case first=>
     go_region_with (go_at_call 75;(with_reducible refine(CPL.out _).mono ?_);rintro e w' ⟨rfl,rfl⟩)
     all_goals
      go_wp2;go_meet;exact(Q.out.Qi hb hL.out hT.out 1 a1).drew
    case rest=>
    generalize hW5:wc=W5;rw[hW5]at hcut;have Q5:=Hi hcut;clear hW5 hcut c0 c1 x10 x11 x12 x13 x14 x15 x16 y10 y11 y12 y13 y14 y15 y16;have c0:=Q5.out.st.c0;have c1:=Q5.out.st.c1;obtain⟨x10,x11,x12,x13,x14,x15,x16⟩:=Q5.out.t1.cs;obtain⟨y10,y11,y12,y13,y14,y15,y16⟩:=Q5.out.t1.fs;by_cases h46:(s[a].toNat:Int)=46
    ·have t46:((s[a].toNat:Int)==46)=true:=beq_of_eq h46;by_cases hsz1:a1=s.size
     ·have tz:((a1:Int)==(s.size:Int))=true:=beq_of_eq (by omega);have HF:Hid (R= .ok 9 ⟨#[]⟩ ⟨#[]⟩ 0 a a1):=Hi (by rw[HT2.out];exact if_pos ⟨h46,.inl hsz1⟩);clear hsz1 h46;go_wp2
      go_quiet (fail)
      generalize hW6:W5.drewN _=W6;have Q6:Hid (TW w b s a 1 a1 W6):=Hi (by rw[<-hW6];exact Q5.out.drewN _);clear hW6 c0 c1 x10 x11 x12 x13 x14 x15 x16 y10 y11 y12 y13 y14 y15 y16;obtain⟨x00,x01,x02,x03,x04,x05,x06⟩:=Q6.out.t0.cs;obtain⟨y00,y01,y02,y03,y04,y05,y06⟩:=Q6.out.t0.fs;obtain⟨x10,x11,x12,x13,x14,x15,x16⟩:=Q6.out.t1.cs;obtain⟨y10,y11,y12,y13,y14,y15,y16⟩:=Q6.out.t1.fs;go_wp2;refine AI (v:= .tuple #[AK 9 ⟨#[]⟩ ⟨#[]⟩ 0 a a1 false,.int .i64 0,.int .i64 0]) ?_ rfl (AL.ok (k:=9) (bits:=0) HF.out (AJ (Q6.out.Ad.setCell (p:=⟨w.heap.size+1,0,none⟩) (Nat.le_succ _) _) (nR _) _ _ _ _ _ _ _));simp only[results,Tryz.results32];go_simp
      try rfl
     have tz:((a1:Int)==(s.size:Int))=false:=AA (by omega);have l1:a1<s.size:=by omega
     have l1i:(a1:Int)<s.size:=by omega
     have hb1:AE s a1=(s[a1].toNat:Int):=AO s a1 l1;have HN:Hid (a1≠s.size):=Hi hsz1;have HB1:=Hi hb1;clear hsz1 hb1;by_cases hbk:F5 s[a1].toNat=true
     ·have C40:Hid (∀w,Calls Tryz.prog 66 #[.int .u8 s[a1].toNat] w (AD true w)):=Hi (fun w=>by rw[<-hbk];exact Rd _ w);have HF:Hid (R= .ok 9 ⟨#[]⟩ ⟨#[]⟩ 0 a a1):=Hi (by rw[HT2.out];exact if_pos ⟨h46,.inr (.inl (by rw[HB1.out,IT];exact hbk))⟩);clear h46 hbk;have C40Q:Hid (∀m,Calls Tryz.prog 66 #[.int .u8 s[a1].toNat] (W5.drewN m) fun e w'=>e= .returned (.bool true)/\w'=W5.drewN m):=Hi (fun m=>(C40.out _).mono fun _ _ ⟨h1,h2⟩=>⟨h1,h2.symm⟩);go_wp2
      go_quiet ((go_at_call 66;exact cX (C40Q.out _)))
      generalize hW6:W5.drewN _=W6;have Q6:Hid (TW w b s a 1 a1 W6):=Hi (by rw[<-hW6];exact Q5.out.drewN _);clear hW6 c0 c1 x10 x11 x12 x13 x14 x15 x16 y10 y11 y12 y13 y14 y15 y16;obtain⟨x00,x01,x02,x03,x04,x05,x06⟩:=Q6.out.t0.cs;obtain⟨y00,y01,y02,y03,y04,y05,y06⟩:=Q6.out.t0.fs;obtain⟨x10,x11,x12,x13,x14,x15,x16⟩:=Q6.out.t1.cs;obtain⟨y10,y11,y12,y13,y14,y15,y16⟩:=Q6.out.t1.fs;go_wp2;refine AI (v:= .tuple #[AK 9 ⟨#[]⟩ ⟨#[]⟩ 0 a a1 false,.int .i64 0,.int .i64 0]) ?_ rfl (AL.ok (k:=9) (bits:=0) HF.out (AJ (Q6.out.Ad.setCell (p:=⟨w.heap.size+1,0,none⟩) (Nat.le_succ _) _) (nR _) _ _ _ _ _ _ _));simp only[results,Tryz.results32];go_simp
      try rfl
     have hbk:F5 s[a1].toNat=false:=by simpa using hbk
     have C40:Hid (∀w,Calls Tryz.prog 66 #[.int .u8 s[a1].toNat] w (AD false w)):=Hi (fun w=>by rw[<-hbk];exact Rd _ w);have HBK:=Hi hbk;clear hbk;by_cases h37:(s[a1].toNat:Int)=37
     ·have t37:((s[a1].toNat:Int)==37)=true:=beq_of_eq h37;have HF:Hid (R= .ok 9 ⟨#[]⟩ ⟨#[]⟩ 0 a a1):=Hi (by rw[HT2.out];exact if_pos ⟨h46,.inr (.inr (by rw[HB1.out];exact h37))⟩);clear h46 h37;have C40Q:Hid (∀m,Calls Tryz.prog 66 #[.int .u8 s[a1].toNat] (W5.drewN m) fun e w'=>e= .returned (.bool false)/\w'=W5.drewN m):=Hi (fun m=>(C40.out _).mono fun _ _ ⟨h1,h2⟩=>⟨h1,h2.symm⟩);go_wp2
      go_quiet ((go_at_call 66;exact cX (C40Q.out _)))
      generalize hW6:W5.drewN _=W6;have Q6:Hid (TW w b s a 1 a1 W6):=Hi (by rw[<-hW6];exact Q5.out.drewN _);clear hW6 c0 c1 x10 x11 x12 x13 x14 x15 x16 y10 y11 y12 y13 y14 y15 y16;obtain⟨x00,x01,x02,x03,x04,x05,x06⟩:=Q6.out.t0.cs;obtain⟨y00,y01,y02,y03,y04,y05,y06⟩:=Q6.out.t0.fs;obtain⟨x10,x11,x12,x13,x14,x15,x16⟩:=Q6.out.t1.cs;obtain⟨y10,y11,y12,y13,y14,y15,y16⟩:=Q6.out.t1.fs;go_wp2;refine AI (v:= .tuple #[AK 9 ⟨#[]⟩ ⟨#[]⟩ 0 a a1 false,.int .i64 0,.int .i64 0]) ?_ rfl (AL.ok (k:=9) (bits:=0) HF.out (AJ (Q6.out.Ad.setCell (p:=⟨w.heap.size+1,0,none⟩) (Nat.le_succ _) _) (nR _) _ _ _ _ _ _ _));simp only[results,Tryz.results32];go_simp
      try rfl
     ·have t37:((s[a1].toNat:Int)==37)=false:=AA h37;have HF:Hid (R=Dc s 1 a a1):=Hi (by
       rw[HT2.out];refine if_neg ?_;rintro⟨_,h|h|h⟩
       ·exact HN.out h
       ·rw[HB1.out,IT,HBK.out]at h;cases h
       ·rw[HB1.out]at h;exact h37 h)
      clear h46 h37;have C40Q:Hid (∀m,Calls Tryz.prog 66 #[.int .u8 s[a1].toNat] (W5.drewN m) fun e w'=>e= .returned (.bool false)/\w'=W5.drewN m):=Hi (fun m=>(C40.out _).mono fun _ _ ⟨h1,h2⟩=>⟨h1,h2.symm⟩);go_wp2
      go_quiet ((go_at_call 66;exact cX (C40Q.out _)))
      go_wp2;go_meet;exact⟨1,a1,Q5.out.drewN _,HF.out,aL1,ba1⟩
    ·have t46:((s[a].toNat:Int)==46)=false:=AA h46;have HF:Hid (R=Dc s 1 a a1):=Hi (by rw[HT2.out];exact if_neg (fun h=>h46 h.1));clear h46;go_wp2
     go_quiet (fail)
     go_wp2;go_meet;exact⟨1,a1,Q5.out.drewN _,HF.out,aL1,ba1⟩
   ·have CPL:=Hi CP0;have tL:((L:Int)==(a1:Int))=false:=AA (by omega);have HF:Hid (R=Dc s 1 a L):=Hi (by rw[HT.out];exact if_neg (fun h=>hLa (by have:=F0.out;omega)));clear hL hLa CP0
    go_upto_region 15 with(first|(go_at_call 71;(with_reducible refine(C45.out _).mono ?_);rintro e w' ⟨rfl,rfl⟩)|(go_at_call 74;(with_reducible refine(C48.out _).mono ?_);rintro e w' ⟨rfl,rfl⟩)|(go_at_call 77;(with_reducible refine(C51.out _).mono ?_);rintro e w' ⟨rfl,rfl⟩)|(go_at_call 78;(with_reducible refine(C52.out _).mono ?_);rintro e w' ⟨rfl,rfl⟩))
    go_cut []from 97 to 108 (fun wx=>TW w b s a 1 L wx)
    case first=>
     go_region_with (go_at_call 75;(with_reducible refine(CPL.out _).mono ?_);rintro e w' ⟨rfl,rfl⟩)
     all_goals
      go_wp2;go_meet;exact(Q.out.Qi hb hL.out hT.out 1 L).drew
    case rest=>
    generalize hW5:wc=W5;rw[hW5]at hcut;have Q5:=Hi hcut;clear hW5 hcut c0 c1 x10 x11 x12 x13 x14 x15 x16 y10 y11 y12 y13 y14 y15 y16;have c0:=Q5.out.st.c0;have c1:=Q5.out.st.c1;obtain⟨x10,x11,x12,x13,x14,x15,x16⟩:=Q5.out.t1.cs;obtain⟨y10,y11,y12,y13,y14,y15,y16⟩:=Q5.out.t1.fs;go_wp2
    go_quiet (fail)
    go_wp2;go_meet;exact⟨1,L,Q5.out.drewN _,HF.out,aL,bL⟩
  have hsg:C5 s[a].toNat=false:=by simpa using hsg
  have HSG:=Hi hsg;have C52:Hid (∀w,Calls Tryz.prog 78 #[.int .u8 s[a].toNat] w (AD false w)):=Hi (fun w=>by rw[<-hsg];exact R6 _ c256 w);clear hsg;by_cases hso:(s[a].toNat:Int)=33\/(s[a].toNat:Int)=59
  ·have HF:Hid (R=Dc s 1 a a1/\a<a1):=Hi ⟨by rw[HR.out,F0.out];exact Xs hlt HDG.out HQ.out HSM.out HGR.out HSG.out hso,by have:=F0.out;omega⟩;have KEY:((s[a].toNat:Int)==33)=true\/(((s[a].toNat:Int)==33)=false/\((s[a].toNat:Int)==59)=true):=by
    rcases hso with h|h
    ·exact .inl (beq_of_eq h)
    ·exact .inr ⟨AA (by omega),beq_of_eq h⟩
   clear hso;rcases KEY with t33|⟨t33,t59⟩
   ·obtain⟨x10,x11,x12,x13,x14,x15,x16⟩:=Q.out.t1.cs;obtain⟨y10,y11,y12,y13,y14,y15,y16⟩:=Q.out.t1.fs;have hw:IntKind.i64.wrap (a1:Int)=(a1:Int):=gV _ (by omega);have hwe:IntKind.i64.wrap ((a:Int)+1)=(a1:Int):=by rw[XM];exact hw
    go_wp2_with (first|(go_at_call 71;(with_reducible refine(C45.out _).mono ?_);rintro e w' ⟨rfl,rfl⟩)|(go_at_call 74;(with_reducible refine(C48.out _).mono ?_);rintro e w' ⟨rfl,rfl⟩)|(go_at_call 77;(with_reducible refine(C51.out _).mono ?_);rintro e w' ⟨rfl,rfl⟩)|(go_at_call 78;(with_reducible refine(C52.out _).mono ?_);rintro e w' ⟨rfl,rfl⟩))
    go_region
    go_wp2;go_meet;exact⟨1,a1,(Q.out.Qi hb hL.out hT.out 1 a1).drew,HF.out.1,HF.out.2,ba1⟩
   ·obtain⟨x10,x11,x12,x13,x14,x15,x16⟩:=Q.out.t1.cs;obtain⟨y10,y11,y12,y13,y14,y15,y16⟩:=Q.out.t1.fs;have hw:IntKind.i64.wrap (a1:Int)=(a1:Int):=gV _ (by omega);have hwe:IntKind.i64.wrap ((a:Int)+1)=(a1:Int):=by rw[XM];exact hw
    go_wp2_with (first|(go_at_call 71;(with_reducible refine(C45.out _).mono ?_);rintro e w' ⟨rfl,rfl⟩)|(go_at_call 74;(with_reducible refine(C48.out _).mono ?_);rintro e w' ⟨rfl,rfl⟩)|(go_at_call 77;(with_reducible refine(C51.out _).mono ?_);rintro e w' ⟨rfl,rfl⟩)|(go_at_call 78;(with_reducible refine(C52.out _).mono ?_);rintro e w' ⟨rfl,rfl⟩))
    go_region
    go_wp2;go_meet;exact⟨1,a1,(Q.out.Qi hb hL.out hT.out 1 a1).drew,HF.out.1,HF.out.2,ba1⟩
  have t33:((s[a].toNat:Int)==33)=false:=AA (fun h=>hso (.inl h));have t59:((s[a].toNat:Int)==59)=false:=AA (fun h=>hso (.inr h));have HSO:=Hi hso;clear hso;have HPU:Hid (R=if LC s[a].toNat=true then Dc s 8 a (a+1)else .err a 30):=Hi (by rw[HR.out];exact YS hlt HDG.out HQ.out HSM.out HGR.out HSG.out HSO.out);obtain⟨z,hz⟩:∃z,z=Lib.indexByte OE.data.toList s[a].toNat.toUInt8:=⟨_,rfl⟩;have C41:Hid (∀w,Calls Tryz.prog 67 #[.string OE,.int .u8 s[a].toNat] w fun e w'=>e= .returned (.int .i64 z)/\w'=w):=Hi (fun w=>by rw[hz];exact Tryz.strings_IndexByte OE s[a].toNat w);have hzp:=aj c256 hz;clear hz;by_cases hpu:LC s[a].toNat=true
  ·rw[hpu]at hzp;have hz0:(0:Int)<=z:=of_decide_eq_true hzp;have HF:Hid (R=Dc s 8 a a1/\a<a1):=Hi ⟨by rw[HPU.out,F0.out,if_pos hpu],by have:=F0.out;omega⟩;clear hpu;obtain⟨x10,x11,x12,x13,x14,x15,x16⟩:=Q.out.t1.cs;obtain⟨y10,y11,y12,y13,y14,y15,y16⟩:=Q.out.t1.fs;have hw:IntKind.i64.wrap (a1:Int)=(a1:Int):=gV _ (by omega);have hwe:IntKind.i64.wrap ((a:Int)+1)=(a1:Int):=by rw[XM];exact hw
   go_wp2_with (first|(go_at_call 71;(with_reducible refine(C45.out _).mono ?_);rintro e w' ⟨rfl,rfl⟩)|(go_at_call 74;(with_reducible refine(C48.out _).mono ?_);rintro e w' ⟨rfl,rfl⟩)|(go_at_call 77;(with_reducible refine(C51.out _).mono ?_);rintro e w' ⟨rfl,rfl⟩)|(go_at_call 78;(with_reducible refine(C52.out _).mono ?_);rintro e w' ⟨rfl,rfl⟩)|(go_at_call 67;(refine(C41.out _).mono ?_);rintro e w' ⟨rfl,rfl⟩))
   go_region
   go_wp2;go_meet;exact⟨8,a1,(Q.out.Qi hb hL.out hT.out 8 a1).drew,HF.out.1,HF.out.2,ba1⟩
  ·have hpu:LC s[a].toNat=false:=by simpa using hpu
   rw[hpu]at hzp;have hz0:¬(0:Int)<=z:=of_decide_eq_false hzp;have HF:Hid (R= .err a 30):=Hi (by rw[HPU.out,hpu];rfl);clear hpu;obtain⟨x00,x01,x02,x03,x04,x05,x06⟩:=Q.out.t0.cs;obtain⟨y00,y01,y02,y03,y04,y05,y06⟩:=Q.out.t0.fs;obtain⟨x10,x11,x12,x13,x14,x15,x16⟩:=Q.out.t1.cs;obtain⟨y10,y11,y12,y13,y14,y15,y16⟩:=Q.out.t1.fs
   go_wp2_with (first|(go_at_call 71;(with_reducible refine(C45.out _).mono ?_);rintro e w' ⟨rfl,rfl⟩)|(go_at_call 74;(with_reducible refine(C48.out _).mono ?_);rintro e w' ⟨rfl,rfl⟩)|(go_at_call 77;(with_reducible refine(C51.out _).mono ?_);rintro e w' ⟨rfl,rfl⟩)|(go_at_call 78;(with_reducible refine(C52.out _).mono ?_);rintro e w' ⟨rfl,rfl⟩)|(go_at_call 67;(refine(C41.out _).mono ?_);rintro e w' ⟨rfl,rfl⟩))
   go_region
   go_wp2_with fail
   refine AI (v:= .tuple #[AK 10 ⟨#[]⟩ ⟨#[]⟩ 0 a a false,.int .i64 a,.int .i64 30]) ?_ rfl (AL.er HF.out (AJ Q.out.Ad (nR _) _ _ _ _ _ _ _).drew);simp only[results,Tryz.results32];go_simp
   try rfl
 case rest=>
 obtain⟨k,en,hq,hRl,hae,hen⟩:=hcut;have Q3:=Hi hq;obtain⟨d,hd⟩:∃d,d=s.extract a en:=⟨_,rfl⟩;have HD:=Hi hd;have hsl:∀w:World,(Instr.slice 9 (.string s) (some (.int .i64 (a:Int))) (some (.int .i64 (en:Int))) none).run Tryz.prog w= .ok (.string d) w:=by
  intro w;have:=eE (P:=Tryz.prog) (w:=w) 9 s .i64 .i64 (a:Int) (en:Int) Tryz.underlying9 (by omega) (by omega) (by omega);rw[show((en:Int)).toNat=en by omega,show((a:Int)).toNat=a by omega,<-HD.out]at this;exact this
 have dz:d.size=en-a:=by rw[hd,Of];omega
 have DZ:=Hi dz;have HRL:=Hi hRl;have d0:=hq.st.c0;have d1:=hq.st.c1;clear hd dz hRl hq;obtain⟨x10,x11,x12,x13,x14,x15,x16⟩:=Q3.out.t1.cs;obtain⟨y10,y11,y12,y13,y14,y15,y16⟩:=Q3.out.t1.fs;go_wp2
 go_region
 generalize hW4:World.drew _=W4;have B4:Hid (Below w.heap.size w W4):=Hi (by rw[<-hW4];exact(Q3.out.Ad.setCell (p:=⟨w.heap.size+1,1,none⟩) (Nat.le_succ _) _).drew);have T1:Hid (F9 W4 (w.heap.size+1) k d ⟨#[]⟩ 0 a en false):=Hi (by rw[<-hW4];exact⟨(Q3.out.t1.eS d).h⟩);have T0:Hid (A8 W4 w.heap.size):=Hi (by rw[<-hW4];exact⟨(gW _ _ _ _ (by show w.heap.size≠w.heap.size+1;omega)).trans Q3.out.t0.h⟩);have S4:Hid (St W4 b s a):=Hi (by rw[<-hW4];exact⟨(gW _ _ _ _ (by show b≠w.heap.size+1;omega)).trans Q3.out.st.h⟩);clear hW4 d0 d1 x10 x11 x12 x13 x14 x15 x16 y10 y11 y12 y13 y14 y15 y16;obtain⟨x00,x01,x02,x03,x04,x05,x06⟩:=T0.out.cs;obtain⟨y00,y01,y02,y03,y04,y05,y06⟩:=T0.out.fs;obtain⟨x10,x11,x12,x13,x14,x15,x16⟩:=T1.out.cs;obtain⟨y10,y11,y12,y13,y14,y15,y16⟩:=T1.out.fs;have c1:=S4.out.c1;by_cases hlong:1000<d.size
 ·have v1:(1000:Int)<d.size:=by omega
  have HF:Hid (R= .err a 35):=Hi (by rw[HRL.out];exact FI (by rw[<-DZ.out];exact hlong));clear hlong;go_wp2
  go_region
  go_wp2_with fail
  refine AI (v:= .tuple #[AK k d ⟨#[]⟩ 0 a en false,.int .i64 a,.int .i64 35]) ?_ rfl (AL.er HF.out (AJ B4.out (nR _) _ _ _ _ _ _ _).drew);simp only[results,Tryz.results32];go_simp
  try rfl
 ·have v1:¬(1000:Int)<d.size:=by omega
  have HF:Hid (R= .ok k d ⟨#[]⟩ 0 a en):=Hi (by rw[HRL.out,HD.out];exact Dy (by rw[<-DZ.out];exact hlong));clear hlong;go_wp2;refine AI (v:= .tuple #[AK k d ⟨#[]⟩ 0 a en false,.int .i64 0,.int .i64 0]) ?_ rfl (AL.ok (bits:=0) HF.out (AJ B4.out (nR _) _ _ _ _ _ _ _));simp only[results,Tryz.results32];go_simp
  try rfl
end Go.Proofs
