import Derived.Test.YtpocgkiamgipdaaGreatDoorTbk
import Derived.Test.YtpocgkiamgipdaaGreatDoorTbj
set_option maxRecDepth 1000000
set_option maxHeartbeats 0
set_option linter.unusedVariables false
set_option linter.unusedSimpArgs false
open Go.Proofs.Tryz
namespace Go.Proofs
open Go.RowKit Go.Pf Go.Lx Go.Hb Go.Rb Go.Bg
structure TW (w:World) (b:Nat) (s:ByteArray) (a k en:Nat) (W:World):Prop where
 t0:Gf W w.heap.size
 t1:Hd W (w.heap.size+1) k ⟨#[]⟩ ⟨#[]⟩ 0 a en false
 st:St W b s a
 Ac:Below w.heap.size w W
 ld:Ag W
 Fm:D3 W W.heap.size
 sz:w.heap.size+2<=W.heap.size
theorem TW.drewN {w:World} {b:Nat} {s:ByteArray} {a k en:Nat} {W:World}(h:TW w b s a k en W) (n:Nat):TW w b s a k en (W.drewN n):=
 ⟨⟨h.t0.h⟩,⟨h.t1.h⟩,⟨h.st.h⟩,Lh h.Ac n,h.ld.drewN n,h.Fm.drewN n,h.sz⟩
theorem TW.drew {w:World} {b:Nat} {s:ByteArray} {a k en:Nat} {W:World}(h:TW w b s a k en W):TW w b s a k en W.drew:=h.drewN 1
theorem TW.RU {w:World} {b:Nat} {s:ByteArray} {a k en:Nat} {W:World}(h:TW w b s a k en W) (hb:b<w.heap.size) (hL:Ag w) (hT:D3 w w.heap.size) (k' en':Nat):TW w b s a k' en' ((W.setCell ⟨w.heap.size+1,0,none⟩ (.int .i64 k')).setCell ⟨w.heap.size+1,5,none⟩ (.int .i64 en')):=by
 have n1:w.heap.size≠w.heap.size+1:=by omega
 have n2:b≠w.heap.size+1:=by omega
 have qM:Below w.heap.size w ((W.setCell ⟨w.heap.size+1,0,none⟩ (.int .i64 k')).setCell ⟨w.heap.size+1,5,none⟩ (.int .i64 en')):=FH h.Ac (mO _) _ _;refine⟨⟨(oB _ _ _ _ n1).trans ((oB _ _ _ _ n1).trans h.t0.h)⟩,(h.t1.gr k').iF en',⟨(oB _ _ _ _ n2).trans ((oB _ _ _ _ n2).trans h.st.h)⟩,qM,?_,?_,by simpa using h.sz⟩
 ·exact hL.below qM
 ·exact hT.next qM
theorem SD {c:Nat}(h:JF c=true):FE c=true:=by simp[FE,h]
theorem Rk {c:Nat}(h:Jr c=true):FE c=true:=by simp[FE,h]
theorem gK {c:Nat}(h:c<256){z:Int}(hz:z=Lib.indexByte RM.data.toList c.toUInt8):decide (0<=z)=Kh c:=by rw[hz];exact iP h
theorem Er {s:ByteArray} {a:Nat}(ha:a<s.size):(AI s a).toNat=s[a].toNat:=by rw[AP s a ha,mB]
section
variable {s:ByteArray} {a:Nat}(ha:a<s.size)
theorem bY (h:AQ s[a].toNat=true):Dy s a=GL s a:=by unfold Dy;rw[lL (by omega),Er ha,lQ h]
theorem Zq (h:AQ s[a].toNat=false) (h2:(s[a].toNat:Int)=39\/(s[a].toNat:Int)=34\/(s[a].toNat:Int)=96):Dy s a=Cz s a s[a].toNat (a+1) []:=by
 unfold Dy;rw[lL (by omega),Er ha,lL (by rw[h];decide),AP s a ha,lQ h2]
theorem ZK (h:AQ s[a].toNat=false) (h2:¬((s[a].toNat:Int)=39\/(s[a].toNat:Int)=34\/(s[a].toNat:Int)=96)) (h3:JF s[a].toNat=true):Dy s a=Cw s 1 a (AF FE s a):=by
 unfold Dy;rw[lL (by omega),Er ha,lL (by rw[h];decide),AP s a ha,lL h2,lQ h3]
theorem Zo (h:AQ s[a].toNat=false) (h2:¬((s[a].toNat:Int)=39\/(s[a].toNat:Int)=34\/(s[a].toNat:Int)=96)) (h3:JF s[a].toNat=false) (h4:Jr s[a].toNat=true):Dy s a=Cw s 3 a (AF FE s a):=by
 unfold Dy;rw[lL (by omega),Er ha,lL (by rw[h];decide),AP s a ha,lL h2,lL (by rw[h3];decide),lQ h4]
theorem cI (h:AQ s[a].toNat=false) (h2:¬((s[a].toNat:Int)=39\/(s[a].toNat:Int)=34\/(s[a].toNat:Int)=96)) (h3:JF s[a].toNat=false) (h4:Jr s[a].toNat=false) (h5:Ez s[a].toNat=true):
 Dy s a=if AF Ez s a=a+1/\(s[a].toNat:Int)=46/\(a+1=s.size\/JO (AI s (a+1)).toNat\/AI s (a+1)=37)then .ok 9 ⟨#[]⟩ ⟨#[]⟩ 0 a (a+1)else Cw s 1 a (AF Ez s a):=by
 unfold Dy;rw[lL (by omega),Er ha,lL (by rw[h];decide),AP s a ha,lL h2,lL (by rw[h3];decide),lL (by rw[h4];decide),lQ h5]
theorem Zs (h:AQ s[a].toNat=false) (h2:¬((s[a].toNat:Int)=39\/(s[a].toNat:Int)=34\/(s[a].toNat:Int)=96)) (h3:JF s[a].toNat=false) (h4:Jr s[a].toNat=false) (h5:Ez s[a].toNat=false) (h6:(s[a].toNat:Int)=33\/(s[a].toNat:Int)=59):Dy s a=Cw s 1 a (a+1):=by
 unfold Dy;rw[lL (by omega),Er ha,lL (by rw[h];decide),AP s a ha,lL h2,lL (by rw[h3];decide),lL (by rw[h4];decide),lL (by rw[h5];decide),lQ h6]
theorem bU (h:AQ s[a].toNat=false) (h2:¬((s[a].toNat:Int)=39\/(s[a].toNat:Int)=34\/(s[a].toNat:Int)=96)) (h3:JF s[a].toNat=false) (h4:Jr s[a].toNat=false) (h5:Ez s[a].toNat=false) (h6:¬((s[a].toNat:Int)=33\/(s[a].toNat:Int)=59)):
 Dy s a=if Kh s[a].toNat=true then Cw s 8 a (a+1)else .err a 30:=by
 unfold Dy;rw[lL (by omega),Er ha,lL (by rw[h];decide),AP s a ha,lL h2,lL (by rw[h3];decide),lL (by rw[h4];decide),lL (by rw[h5];decide),lL h6]
end
theorem eO (b:Nat) (s:ByteArray) (a:Nat) (w:World) (hs:s.size<=100000000) (ha:a<=s.size) (qk:Hid (St w b s a)) (hL:Hid (Ag w)) (hT:Hid (D3 w w.heap.size)) (J5:Hid (Tryz.prog.globals.size<=w.heap.size)):
 Calls prog 38 #[.pointer (some ⟨b,0,none⟩)] w (AK (Dy s a) w):=by
 have hb:=qk.o.lt;have k1:b<w.heap.size+1:=by omega
 have k2:b<w.heap.size+1+1:=by omega
 obtain⟨R,hR⟩:∃R,R=Dy s a:=⟨_,rfl⟩;rw[<-hR];have HR:=Hi hR;have ug:Hid (∀W2,W2=((w.alloc (.cells #[.int .i64 0,.string ⟨#[]⟩,.string ⟨#[]⟩,.int .u64 0,.int .i64 0,.int .i64 0,.bool false] 71)).alloc (.cells #[.int .i64 10,.string ⟨#[]⟩,.string ⟨#[]⟩,.int .u64 0,.int .i64 a,.int .i64 a,.bool false] 71)).drew->TW w b s a 10 a W2):=Hi (by
  intro W2 hW2;have key:∀W2,W2=(w.alloc (.cells #[.int .i64 0,.string ⟨#[]⟩,.string ⟨#[]⟩,.int .u64 0,.int .i64 0,.int .i64 0,.bool false] 71)).alloc (.cells #[.int .i64 10,.string ⟨#[]⟩,.string ⟨#[]⟩,.int .u64 0,.int .i64 a,.int .i64 a,.bool false] 71)->TW w b s a 10 a W2:=by
   intro W2 hW2;have sz2:W2.heap.size=w.heap.size+2:=by subst hW2;simp
   have sY:Below w.heap.size w W2:=by subst hW2;exact(Bzz _).alloc (by simp) _
   have tk0:Gf W2 w.heap.size:=by
    refine⟨?_⟩;subst hW2;rw[Lib.alloc_old _ _ _ (by simp)];exact lT w _
   have zL:Hd W2 (w.heap.size+1) (10:Nat) ⟨#[]⟩ ⟨#[]⟩ 0 a a false:=by
    refine⟨?_⟩;subst hW2;have:=lT (w.alloc (.cells (DF 0) 71)) (.cells #[.int .i64 10,.string ⟨#[]⟩,.string ⟨#[]⟩,.int .u64 0,.int .i64 a,.int .i64 a,.bool false] 71);rw[show(w.alloc (.cells (DF 0) 71)).heap.size=w.heap.size+1 by simp]at this;exact this
   exact⟨tk0,zL,qk.o.below sY,sY,hL.o.below sY,hT.o.next sY,by omega⟩
  subst hW2;exact(key _ rfl).drew)
 have c0:=qk.o.c0;have c1:=qk.o.c1;clear hR;go_enter func38,ntmps38;go_wp2
 go_region
 generalize hW2:World.drew _=W2;have Q2:Hid (TW w b s a 10 a W2):=Hi (ug.o W2 hW2.symm);clear hW2 c0 c1;have c0:=Q2.o.st.c0;have c1:=Q2.o.st.c1;by_cases rH:a=s.size
 ·have t1:((a:Int)==(s.size:Int))=true:=beq_of_eq (by omega);have HF:Hid (R= .ok 10 ⟨#[]⟩ ⟨#[]⟩ 0 a a):=Hi (by rw[HR.o];unfold Dy;rw[lQ rH]);clear rH;go_wp2
  go_quiet (fail)
  generalize hW3:W2.drewN _=W;have Q:Hid (TW w b s a 10 a W):=Hi (by rw[<-hW3];exact Q2.o.drewN _);clear hW3 c0 c1;obtain⟨rO,rX,rT,re,rP,rh,rj⟩:=Q.o.t0.cs;obtain⟨rW,rV,rY,rQ,rM,rN,rS⟩:=Q.o.t0.fs;obtain⟨rq,qo,rA,rB,rI,rC,qx⟩:=Q.o.t1.cs;obtain⟨ru,sL,sM,sI,sN,sG,sF⟩:=Q.o.t1.fs;go_wp2;refine lS (v:= .tuple #[Ai 10 ⟨#[]⟩ ⟨#[]⟩ 0 a a false,.int .i64 0,.int .i64 0]) ?_ rfl (AK.ok (k:=10) (bits:=0) HF.o (AE Q.o.Ac (nR _) _ _ _ _ _ _ _));simp only[results,oy];go_simp
  try rfl
 have t1:((a:Int)==(s.size:Int))=false:=AD (by omega);have qE:a<s.size:=by omega
 have li:(a:Int)<s.size:=by omega
 obtain⟨a1,ha1⟩:∃a1,a1=a+1:=⟨_,rfl⟩;have ay:(a:Int)+1=a1:=by omega
 have JY:=Hi ha1;have ba1:a1<=s.size:=by omega
 clear rH ha1;go_wp2
 go_quiet (fail)
 generalize hWa:W2.drewN _=Wa;have QA:Hid (TW w b s a 10 a Wa):=Hi (by rw[<-hWa];exact Q2.o.drewN _);clear hWa c0 c1 Q2 ug;have c0:=QA.o.st.c0;have c1:=QA.o.st.c1;go_wp2
 go_quiet (fail)
 generalize hW3:Wa.drewN _=W;have Q:Hid (TW w b s a 10 a W):=Hi (by rw[<-hW3];exact QA.o.drewN _);clear hW3 c0 c1 QA;have c0:=Q.o.st.c0;have c1:=Q.o.st.c1
 go_upto_block 0 with fail
 go_cut []from 7 (fun wx=>∃k en:Nat,TW w b s a k en wx/\R=Cw s k a en/\a<en/\en<=s.size)
 case first=>
  have c256:s[a].toNat<256:=s[a].toNat_lt;by_cases xa:AQ s[a].toNat=true
  ·have uI:Hid (∀w,Calls prog 56 #[.int .u8 s[a].toNat] w (AR true w)):=Hi (fun w=>by rw[<-xa];exact Ff _ w);have HF:Hid (R=GL s a):=Hi (by rw[HR.o];exact bY qE xa);have CN:Hid (Calls prog 57 #[.pointer (some ⟨b,0,none⟩)] W (AK R W)):=Hi (by
    rw[HF.o];exact Yp b s a W hs qE (Hi (by rw[Er qE];exact xa)) (Hi Q.o.st) (Hi Q.o.ld) (Hi Q.o.Fm) (Hi (by have:=J5.o;have:=Q.o.sz;omega)))
   clear xa
   go_wp2_with (first|(go_at_call 56;(with_reducible refine(uI.o _).mono ?_);rintro e w' ⟨rfl,rfl⟩)|(go_at_call 57;(with_reducible refine CN.o.mono ?_)))
   rintro e W3 h;obtain⟨k,tx,nu,bits,at_,en,ly,pp,nn,rfl,he,b3⟩:=AK.Eo h;unfold Ai;have HE:=Hi he;have BE:Hid (Below w.heap.size w W3):=Hi (Q.o.Ac.trans (b3.mono (by have:=Q.o.sz;omega)));have TE:Hid (Gf W3 w.heap.size):=Hi (Q.o.t0.below b3);clear h he b3;obtain⟨rO,rX,rT,re,rP,rh,rj⟩:=TE.o.cs;obtain⟨rW,rV,rY,rQ,rM,rN,rS⟩:=TE.o.fs;go_wp2;refine lS (v:= .tuple #[Ai k tx nu bits at_ en ly,.int .i64 pp,.int .i64 nn]) ?_ rfl (HE.o _ _ (AE BE.o (nR _) _ _ _ _ _ _ _));simp only[results,oy];go_simp
   try rfl
  have xa:AQ s[a].toNat=false:=by simpa using xa
  have HDG:=Hi xa;have uI:Hid (∀w,Calls prog 56 #[.int .u8 s[a].toNat] w (AR false w)):=Hi (fun w=>by rw[<-xa];exact Ff _ w);clear xa;by_cases hq:(s[a].toNat:Int)=39\/(s[a].toNat:Int)=34\/(s[a].toNat:Int)=96
  ·have HF:Hid (R=Cz s a s[a].toNat (a+1) []):=Hi (by rw[HR.o];exact Zq qE HDG.o hq);obtain⟨te,pe,e6⟩:=Q.o.Fm.e6;have CN:Hid (Calls prog 58 #[.pointer (some ⟨b,0,none⟩),.int .u8 s[a].toNat] W (AK R W)):=Hi (by
    rw[HF.o];exact Y4 b s a s[a].toNat W hs qE (Hi (by omega)) (Hi Q.o.st) (Hi Q.o.ld) te pe (Hi e6) (Hi (by have:=J5.o;have:=Q.o.sz;omega)))
   have qU:((s[a].toNat:Int)==39)=true\/(((s[a].toNat:Int)==39)=false/\((s[a].toNat:Int)==34)=true)\/(((s[a].toNat:Int)==39)=false/\((s[a].toNat:Int)==34)=false/\((s[a].toNat:Int)==96)=true):=by
    rcases hq with h|h|h
    ·exact .inl (beq_of_eq h)
    ·exact .inr (.inl ⟨AD (by omega),beq_of_eq h⟩)
    ·exact .inr (.inr ⟨AD (by omega),AD (by omega),beq_of_eq h⟩)
   clear hq e6;rcases qU with t39|⟨t39,t34⟩|⟨t39,t34,t96⟩
   ·go_wp2_with (first|(go_at_call 56;(with_reducible refine(uI.o _).mono ?_);rintro e w' ⟨rfl,rfl⟩)|(go_at_call 58;(with_reducible refine CN.o.mono ?_)))
    rintro e W3 h;obtain⟨k,tx,nu,bits,at_,en,ly,pp,nn,rfl,he,b3⟩:=AK.Eo h;unfold Ai;have HE:=Hi he;have BE:Hid (Below w.heap.size w W3):=Hi (Q.o.Ac.trans (b3.mono (by have:=Q.o.sz;omega)));have TE:Hid (Gf W3 w.heap.size):=Hi (Q.o.t0.below b3);clear h he b3;obtain⟨rO,rX,rT,re,rP,rh,rj⟩:=TE.o.cs;obtain⟨rW,rV,rY,rQ,rM,rN,rS⟩:=TE.o.fs;go_wp2;refine lS (v:= .tuple #[Ai k tx nu bits at_ en ly,.int .i64 pp,.int .i64 nn]) ?_ rfl (HE.o _ _ (AE BE.o (nR _) _ _ _ _ _ _ _));simp only[results,oy];go_simp
    try rfl
   ·go_wp2_with (first|(go_at_call 56;(with_reducible refine(uI.o _).mono ?_);rintro e w' ⟨rfl,rfl⟩)|(go_at_call 58;(with_reducible refine CN.o.mono ?_)))
    rintro e W3 h;obtain⟨k,tx,nu,bits,at_,en,ly,pp,nn,rfl,he,b3⟩:=AK.Eo h;unfold Ai;have HE:=Hi he;have BE:Hid (Below w.heap.size w W3):=Hi (Q.o.Ac.trans (b3.mono (by have:=Q.o.sz;omega)));have TE:Hid (Gf W3 w.heap.size):=Hi (Q.o.t0.below b3);clear h he b3;obtain⟨rO,rX,rT,re,rP,rh,rj⟩:=TE.o.cs;obtain⟨rW,rV,rY,rQ,rM,rN,rS⟩:=TE.o.fs;go_wp2;refine lS (v:= .tuple #[Ai k tx nu bits at_ en ly,.int .i64 pp,.int .i64 nn]) ?_ rfl (HE.o _ _ (AE BE.o (nR _) _ _ _ _ _ _ _));simp only[results,oy];go_simp
    try rfl
   ·go_wp2_with (first|(go_at_call 56;(with_reducible refine(uI.o _).mono ?_);rintro e w' ⟨rfl,rfl⟩)|(go_at_call 58;(with_reducible refine CN.o.mono ?_)))
    rintro e W3 h;obtain⟨k,tx,nu,bits,at_,en,ly,pp,nn,rfl,he,b3⟩:=AK.Eo h;unfold Ai;have HE:=Hi he;have BE:Hid (Below w.heap.size w W3):=Hi (Q.o.Ac.trans (b3.mono (by have:=Q.o.sz;omega)));have TE:Hid (Gf W3 w.heap.size):=Hi (Q.o.t0.below b3);clear h he b3;obtain⟨rO,rX,rT,re,rP,rh,rj⟩:=TE.o.cs;obtain⟨rW,rV,rY,rQ,rM,rN,rS⟩:=TE.o.fs;go_wp2;refine lS (v:= .tuple #[Ai k tx nu bits at_ en ly,.int .i64 pp,.int .i64 nn]) ?_ rfl (HE.o _ _ (AE BE.o (nR _) _ _ _ _ _ _ _));simp only[results,oy];go_simp
    try rfl
  have t39:((s[a].toNat:Int)==39)=false:=AD (fun h=>hq (.inl h));have t34:((s[a].toNat:Int)==34)=false:=AD (fun h=>hq (.inr (.inl h)));have t96:((s[a].toNat:Int)==96)=false:=AD (fun h=>hq (.inr (.inr h)));have HQ:=Hi hq;clear hq;by_cases hsm:JF s[a].toNat=true
  ·have yj:Hid (∀w,Calls prog 59 #[.int .u8 s[a].toNat] w (AR true w)):=Hi (fun w=>by rw[<-hsm];exact QV _ w);obtain⟨L,hL⟩:∃L,L=AF FE s a:=⟨_,rfl⟩;have HL:=Hi hL;have xZ:Hid (∀w,Calls prog 60 #[.string s,.int .i64 a,.func (.func 61) #[] #[]] w (Cf L w)):=Hi (fun w=>by rw[HL.o];exact SK s a w (by omega) (by omega));have bL:L<=s.size:=by rw[hL];exact Bx FE s a (by omega)
   have HF:Hid (R=Cw s 1 a L/\a<L):=Hi ⟨by rw[HR.o,HL.o];exact ZK qE HDG.o HQ.o hsm,by rw[hL,Bb qE (SD hsm)];exact BN _ s (a+1)⟩;clear hL;obtain⟨rq,qo,rA,rB,rI,rC,qx⟩:=Q.o.t1.cs;obtain⟨ru,sL,sM,sI,sN,sG,sF⟩:=Q.o.t1.fs
   go_wp2_with (first|(go_at_call 56;(with_reducible refine(uI.o _).mono ?_);rintro e w' ⟨rfl,rfl⟩)|(go_at_call 59;(with_reducible refine(yj.o _).mono ?_);rintro e w' ⟨rfl,rfl⟩))
   go_region_with (go_at_call 60;(with_reducible refine(xZ.o _).mono ?_);rintro e w' ⟨rfl,rfl⟩)
   all_goals
    go_wp2;go_meet;exact⟨1,L,(Q.o.RU hb hL.o hT.o 1 L).drew,HF.o.1,HF.o.2,bL⟩
  have hsm:JF s[a].toNat=false:=by simpa using hsm
  have HSM:=Hi hsm;have yj:Hid (∀w,Calls prog 59 #[.int .u8 s[a].toNat] w (AR false w)):=Hi (fun w=>by rw[<-hsm];exact QV _ w);clear hsm;by_cases hgr:Jr s[a].toNat=true
  ·have C51:Hid (∀w,Calls prog 62 #[.int .u8 s[a].toNat] w (AR true w)):=Hi (fun w=>by rw[<-hgr];exact Rd _ w);obtain⟨L,hL⟩:∃L,L=AF FE s a:=⟨_,rfl⟩;have HL:=Hi hL;have xZ:Hid (∀w,Calls prog 60 #[.string s,.int .i64 a,.func (.func 61) #[] #[]] w (Cf L w)):=Hi (fun w=>by rw[HL.o];exact SK s a w (by omega) (by omega));have bL:L<=s.size:=by rw[hL];exact Bx FE s a (by omega)
   have HF:Hid (R=Cw s 3 a L/\a<L):=Hi ⟨by rw[HR.o,HL.o];exact Zo qE HDG.o HQ.o HSM.o hgr,by rw[hL,Bb qE (Rk hgr)];exact BN _ s (a+1)⟩;clear hL;obtain⟨rq,qo,rA,rB,rI,rC,qx⟩:=Q.o.t1.cs;obtain⟨ru,sL,sM,sI,sN,sG,sF⟩:=Q.o.t1.fs
   go_wp2_with (first|(go_at_call 56;(with_reducible refine(uI.o _).mono ?_);rintro e w' ⟨rfl,rfl⟩)|(go_at_call 59;(with_reducible refine(yj.o _).mono ?_);rintro e w' ⟨rfl,rfl⟩)|(go_at_call 62;(with_reducible refine(C51.o _).mono ?_);rintro e w' ⟨rfl,rfl⟩))
   go_region_with (go_at_call 60;(with_reducible refine(xZ.o _).mono ?_);rintro e w' ⟨rfl,rfl⟩)
   all_goals
    go_wp2;go_meet;exact⟨3,L,(Q.o.RU hb hL.o hT.o 3 L).drew,HF.o.1,HF.o.2,bL⟩
  have hgr:Jr s[a].toNat=false:=by simpa using hgr
  have HGR:=Hi hgr;have C51:Hid (∀w,Calls prog 62 #[.int .u8 s[a].toNat] w (AR false w)):=Hi (fun w=>by rw[<-hgr];exact Rd _ w);clear hgr;by_cases vj:Ez s[a].toNat=true
  ·have C52:Hid (∀w,Calls prog 63 #[.int .u8 s[a].toNat] w (AR true w)):=Hi (fun w=>by rw[<-vj];exact Ro _ c256 w);obtain⟨L,hL⟩:∃L,L=AF Ez s a:=⟨_,rfl⟩;have HL:=Hi hL;have CP0:∀w,Calls prog 60 #[.string s,.int .i64 a,.func (.func 63) #[] #[]] w (Cf L w):=fun w=>by rw[HL.o];exact Z8 s a w (by omega) (by omega)
   have bL:L<=s.size:=by rw[hL];exact Bx Ez s a (by omega)
   have aL:a<L:=by rw[hL,Bb qE vj];exact BN _ s (a+1)
   have HT:Hid (R=if L=a+1/\(s[a].toNat:Int)=46/\(a+1=s.size\/JO (AI s (a+1)).toNat\/AI s (a+1)=37)then .ok 9 ⟨#[]⟩ ⟨#[]⟩ 0 a (a+1)else Cw s 1 a L):=Hi (by rw[HR.o,HL.o];exact cI qE HDG.o HQ.o HSM.o HGR.o vj);obtain⟨rq,qo,rA,rB,rI,rC,qx⟩:=Q.o.t1.cs;obtain⟨ru,sL,sM,sI,sN,sG,sF⟩:=Q.o.t1.fs;by_cases hLa:L=a1
   ·have hL1:L=a+1:=by have:=JY.o;omega
    have xZ:Hid (∀w,Calls prog 60 #[.string s,.int .i64 a,.func (.func 63) #[] #[]] w (Cf a1 w)):=Hi (fun w=>by rw[<-hLa];exact CP0 w);have wO:Hid (R=if(s[a].toNat:Int)=46/\(a1=s.size\/JO (AI s a1).toNat\/AI s a1=37)then .ok 9 ⟨#[]⟩ ⟨#[]⟩ 0 a a1 else Cw s 1 a a1):=Hi (by
     rw[HT.o,hLa,JY.o];by_cases h:(s[a].toNat:Int)=46/\(a+1=s.size\/JO (AI s (a+1)).toNat\/AI s (a+1)=37)
     ·rw[lQ ⟨rfl,h⟩,lQ h]
     ·rw[lL (fun k=>h k.2),lL h])
    have aL1:a<a1:=by omega
    clear hL hLa CP0 hL1 aL bL HT
    go_upto_region 15 with(first|(go_at_call 56;(with_reducible refine(uI.o _).mono ?_);rintro e w' ⟨rfl,rfl⟩)|(go_at_call 59;(with_reducible refine(yj.o _).mono ?_);rintro e w' ⟨rfl,rfl⟩)|(go_at_call 62;(with_reducible refine(C51.o _).mono ?_);rintro e w' ⟨rfl,rfl⟩)|(go_at_call 63;(with_reducible refine(C52.o _).mono ?_);rintro e w' ⟨rfl,rfl⟩))
    go_cut []from 97 to 108 (fun wx=>TW w b s a 1 a1 wx)
    case first=>
     go_region_with (go_at_call 60;(with_reducible refine(xZ.o _).mono ?_);rintro e w' ⟨rfl,rfl⟩)
     all_goals
      go_wp2;go_meet;exact(Q.o.RU hb hL.o hT.o 1 a1).drew
    case rest=>
    generalize hW5:wc=W5;rw[hW5]at hcut;have Q5:=Hi hcut;clear hW5 hcut c0 c1 rq qo rA rB rI rC qx ru sL sM sI sN sG sF;have c0:=Q5.o.st.c0;have c1:=Q5.o.st.c1;obtain⟨rq,qo,rA,rB,rI,rC,qx⟩:=Q5.o.t1.cs;obtain⟨ru,sL,sM,sI,sN,sG,sF⟩:=Q5.o.t1.fs;by_cases rZ:(s[a].toNat:Int)=46
    ·have t46:((s[a].toNat:Int)==46)=true:=beq_of_eq rZ;by_cases hsz1:a1=s.size
     ·have tz:((a1:Int)==(s.size:Int))=true:=beq_of_eq (by omega);have HF:Hid (R= .ok 9 ⟨#[]⟩ ⟨#[]⟩ 0 a a1):=Hi (by rw[wO.o];exact lQ ⟨rZ,.inl hsz1⟩);clear hsz1 rZ;go_wp2
      go_quiet (fail)
      generalize hW6:W5.drewN _=W6;have Q6:Hid (TW w b s a 1 a1 W6):=Hi (by rw[<-hW6];exact Q5.o.drewN _);clear hW6 c0 c1 rq qo rA rB rI rC qx ru sL sM sI sN sG sF;obtain⟨rO,rX,rT,re,rP,rh,rj⟩:=Q6.o.t0.cs;obtain⟨rW,rV,rY,rQ,rM,rN,rS⟩:=Q6.o.t0.fs;obtain⟨rq,qo,rA,rB,rI,rC,qx⟩:=Q6.o.t1.cs;obtain⟨ru,sL,sM,sI,sN,sG,sF⟩:=Q6.o.t1.fs;go_wp2;refine lS (v:= .tuple #[Ai 9 ⟨#[]⟩ ⟨#[]⟩ 0 a a1 false,.int .i64 0,.int .i64 0]) ?_ rfl (AK.ok (k:=9) (bits:=0) HF.o (AE (Q6.o.Ac.setCell (p:=⟨w.heap.size+1,0,none⟩) (mO _) _) (nR _) _ _ _ _ _ _ _));simp only[results,oy];go_simp
      try rfl
     have tz:((a1:Int)==(s.size:Int))=false:=AD (by omega);have l1:a1<s.size:=by omega
     have l1i:(a1:Int)<s.size:=by omega
     have ql:AI s a1=(s[a1].toNat:Int):=AP s a1 l1;have HN:Hid (a1≠s.size):=Hi hsz1;have vE:=Hi ql;clear hsz1 ql;by_cases um:JO s[a1].toNat=true
     ·have C40:Hid (∀w,Calls prog 51 #[.int .u8 s[a1].toNat] w (AR true w)):=Hi (fun w=>by rw[<-um];exact Q9 _ w);have HF:Hid (R= .ok 9 ⟨#[]⟩ ⟨#[]⟩ 0 a a1):=Hi (by rw[wO.o];exact lQ ⟨rZ,.inr (.inl (by rw[vE.o,mB];exact um))⟩);clear rZ um;have C40Q:Hid (∀m,Calls prog 51 #[.int .u8 s[a1].toNat] (W5.drewN m) fun e w'=>e= .returned (.bool true)/\w'=W5.drewN m):=Hi (fun m=>(C40.o _).mono fun _ _ ⟨h1,h2⟩=>⟨h1,h2.symm⟩);go_wp2
      go_quiet ((go_at_call 51;exact Calls.quiet_of_same (C40Q.o _)))
      generalize hW6:W5.drewN _=W6;have Q6:Hid (TW w b s a 1 a1 W6):=Hi (by rw[<-hW6];exact Q5.o.drewN _);clear hW6 c0 c1 rq qo rA rB rI rC qx ru sL sM sI sN sG sF;obtain⟨rO,rX,rT,re,rP,rh,rj⟩:=Q6.o.t0.cs;obtain⟨rW,rV,rY,rQ,rM,rN,rS⟩:=Q6.o.t0.fs;obtain⟨rq,qo,rA,rB,rI,rC,qx⟩:=Q6.o.t1.cs;obtain⟨ru,sL,sM,sI,sN,sG,sF⟩:=Q6.o.t1.fs;go_wp2;refine lS (v:= .tuple #[Ai 9 ⟨#[]⟩ ⟨#[]⟩ 0 a a1 false,.int .i64 0,.int .i64 0]) ?_ rfl (AK.ok (k:=9) (bits:=0) HF.o (AE (Q6.o.Ac.setCell (p:=⟨w.heap.size+1,0,none⟩) (mO _) _) (nR _) _ _ _ _ _ _ _));simp only[results,oy];go_simp
      try rfl
     have um:JO s[a1].toNat=false:=by simpa using um
     have C40:Hid (∀w,Calls prog 51 #[.int .u8 s[a1].toNat] w (AR false w)):=Hi (fun w=>by rw[<-um];exact Q9 _ w);have HBK:=Hi um;clear um;by_cases h37:(s[a1].toNat:Int)=37
     ·have t37:((s[a1].toNat:Int)==37)=true:=beq_of_eq h37;have HF:Hid (R= .ok 9 ⟨#[]⟩ ⟨#[]⟩ 0 a a1):=Hi (by rw[wO.o];exact lQ ⟨rZ,.inr (.inr (by rw[vE.o];exact h37))⟩);clear rZ h37;have C40Q:Hid (∀m,Calls prog 51 #[.int .u8 s[a1].toNat] (W5.drewN m) fun e w'=>e= .returned (.bool false)/\w'=W5.drewN m):=Hi (fun m=>(C40.o _).mono fun _ _ ⟨h1,h2⟩=>⟨h1,h2.symm⟩);go_wp2
      go_quiet ((go_at_call 51;exact Calls.quiet_of_same (C40Q.o _)))
      generalize hW6:W5.drewN _=W6;have Q6:Hid (TW w b s a 1 a1 W6):=Hi (by rw[<-hW6];exact Q5.o.drewN _);clear hW6 c0 c1 rq qo rA rB rI rC qx ru sL sM sI sN sG sF;obtain⟨rO,rX,rT,re,rP,rh,rj⟩:=Q6.o.t0.cs;obtain⟨rW,rV,rY,rQ,rM,rN,rS⟩:=Q6.o.t0.fs;obtain⟨rq,qo,rA,rB,rI,rC,qx⟩:=Q6.o.t1.cs;obtain⟨ru,sL,sM,sI,sN,sG,sF⟩:=Q6.o.t1.fs;go_wp2;refine lS (v:= .tuple #[Ai 9 ⟨#[]⟩ ⟨#[]⟩ 0 a a1 false,.int .i64 0,.int .i64 0]) ?_ rfl (AK.ok (k:=9) (bits:=0) HF.o (AE (Q6.o.Ac.setCell (p:=⟨w.heap.size+1,0,none⟩) (mO _) _) (nR _) _ _ _ _ _ _ _));simp only[results,oy];go_simp
      try rfl
     ·have t37:((s[a1].toNat:Int)==37)=false:=AD h37;have HF:Hid (R=Cw s 1 a a1):=Hi (by
       rw[wO.o];refine lL ?_;rintro⟨_,h|h|h⟩
       ·exact HN.o h
       ·rw[vE.o,mB,HBK.o]at h;cases h
       ·rw[vE.o]at h;exact h37 h)
      clear rZ h37;have C40Q:Hid (∀m,Calls prog 51 #[.int .u8 s[a1].toNat] (W5.drewN m) fun e w'=>e= .returned (.bool false)/\w'=W5.drewN m):=Hi (fun m=>(C40.o _).mono fun _ _ ⟨h1,h2⟩=>⟨h1,h2.symm⟩);go_wp2
      go_quiet ((go_at_call 51;exact Calls.quiet_of_same (C40Q.o _)))
      go_wp2;go_meet;exact⟨1,a1,Q5.o.drewN _,HF.o,aL1,ba1⟩
    ·have t46:((s[a].toNat:Int)==46)=false:=AD rZ;have HF:Hid (R=Cw s 1 a a1):=Hi (by rw[wO.o];exact lL (fun h=>rZ h.1));clear rZ;go_wp2
     go_quiet (fail)
     go_wp2;go_meet;exact⟨1,a1,Q5.o.drewN _,HF.o,aL1,ba1⟩
   ·have xZ:=Hi CP0;have tL:((L:Int)==(a1:Int))=false:=AD (by omega);have HF:Hid (R=Cw s 1 a L):=Hi (by rw[HT.o];exact lL (fun h=>hLa (by have:=JY.o;omega)));clear hL hLa CP0
    go_upto_region 15 with(first|(go_at_call 56;(with_reducible refine(uI.o _).mono ?_);rintro e w' ⟨rfl,rfl⟩)|(go_at_call 59;(with_reducible refine(yj.o _).mono ?_);rintro e w' ⟨rfl,rfl⟩)|(go_at_call 62;(with_reducible refine(C51.o _).mono ?_);rintro e w' ⟨rfl,rfl⟩)|(go_at_call 63;(with_reducible refine(C52.o _).mono ?_);rintro e w' ⟨rfl,rfl⟩))
    go_cut []from 97 to 108 (fun wx=>TW w b s a 1 L wx)
    case first=>
     go_region_with (go_at_call 60;(with_reducible refine(xZ.o _).mono ?_);rintro e w' ⟨rfl,rfl⟩)
     all_goals
      go_wp2;go_meet;exact(Q.o.RU hb hL.o hT.o 1 L).drew
    case rest=>
    generalize hW5:wc=W5;rw[hW5]at hcut;have Q5:=Hi hcut;clear hW5 hcut c0 c1 rq qo rA rB rI rC qx ru sL sM sI sN sG sF;have c0:=Q5.o.st.c0;have c1:=Q5.o.st.c1;obtain⟨rq,qo,rA,rB,rI,rC,qx⟩:=Q5.o.t1.cs;obtain⟨ru,sL,sM,sI,sN,sG,sF⟩:=Q5.o.t1.fs;go_wp2
    go_quiet (fail)
    go_wp2;go_meet;exact⟨1,L,Q5.o.drewN _,HF.o,aL,bL⟩
  have vj:Ez s[a].toNat=false:=by simpa using vj
  have HSG:=Hi vj;have C52:Hid (∀w,Calls prog 63 #[.int .u8 s[a].toNat] w (AR false w)):=Hi (fun w=>by rw[<-vj];exact Ro _ c256 w);clear vj;by_cases hso:(s[a].toNat:Int)=33\/(s[a].toNat:Int)=59
  ·have HF:Hid (R=Cw s 1 a a1/\a<a1):=Hi ⟨by rw[HR.o,JY.o];exact Zs qE HDG.o HQ.o HSM.o HGR.o HSG.o hso,by have:=JY.o;omega⟩;have qU:((s[a].toNat:Int)==33)=true\/(((s[a].toNat:Int)==33)=false/\((s[a].toNat:Int)==59)=true):=by
    rcases hso with h|h
    ·exact .inl (beq_of_eq h)
    ·exact .inr ⟨AD (by omega),beq_of_eq h⟩
   clear hso;rcases qU with t33|⟨t33,t59⟩
   ·obtain⟨rq,qo,rA,rB,rI,rC,qx⟩:=Q.o.t1.cs;obtain⟨ru,sL,sM,sI,sN,sG,sF⟩:=Q.o.t1.fs;have hw:IntKind.i64.wrap (a1:Int)=(a1:Int):=pt _ (by omega);have hwe:IntKind.i64.wrap ((a:Int)+1)=(a1:Int):=by rw[ay];exact hw
    go_wp2_with (first|(go_at_call 56;(with_reducible refine(uI.o _).mono ?_);rintro e w' ⟨rfl,rfl⟩)|(go_at_call 59;(with_reducible refine(yj.o _).mono ?_);rintro e w' ⟨rfl,rfl⟩)|(go_at_call 62;(with_reducible refine(C51.o _).mono ?_);rintro e w' ⟨rfl,rfl⟩)|(go_at_call 63;(with_reducible refine(C52.o _).mono ?_);rintro e w' ⟨rfl,rfl⟩))
    go_region
    go_wp2;go_meet;exact⟨1,a1,(Q.o.RU hb hL.o hT.o 1 a1).drew,HF.o.1,HF.o.2,ba1⟩
   ·obtain⟨rq,qo,rA,rB,rI,rC,qx⟩:=Q.o.t1.cs;obtain⟨ru,sL,sM,sI,sN,sG,sF⟩:=Q.o.t1.fs;have hw:IntKind.i64.wrap (a1:Int)=(a1:Int):=pt _ (by omega);have hwe:IntKind.i64.wrap ((a:Int)+1)=(a1:Int):=by rw[ay];exact hw
    go_wp2_with (first|(go_at_call 56;(with_reducible refine(uI.o _).mono ?_);rintro e w' ⟨rfl,rfl⟩)|(go_at_call 59;(with_reducible refine(yj.o _).mono ?_);rintro e w' ⟨rfl,rfl⟩)|(go_at_call 62;(with_reducible refine(C51.o _).mono ?_);rintro e w' ⟨rfl,rfl⟩)|(go_at_call 63;(with_reducible refine(C52.o _).mono ?_);rintro e w' ⟨rfl,rfl⟩))
    go_region
    go_wp2;go_meet;exact⟨1,a1,(Q.o.RU hb hL.o hT.o 1 a1).drew,HF.o.1,HF.o.2,ba1⟩
  have t33:((s[a].toNat:Int)==33)=false:=AD (fun h=>hso (.inl h));have t59:((s[a].toNat:Int)==59)=false:=AD (fun h=>hso (.inr h));have HSO:=Hi hso;clear hso;have HPU:Hid (R=if Kh s[a].toNat=true then Cw s 8 a (a+1)else .err a 30):=Hi (by rw[HR.o];exact bU qE HDG.o HQ.o HSM.o HGR.o HSG.o HSO.o);obtain⟨z,hz⟩:∃z,z=Lib.indexByte RM.data.toList s[a].toNat.toUInt8:=⟨_,rfl⟩;have C41:Hid (∀w,Calls prog 52 #[.string RM,.int .u8 s[a].toNat] w fun e w'=>e= .returned (.int .i64 z)/\w'=w):=Hi (fun w=>by rw[hz];exact Tryz.strings_IndexByte RM s[a].toNat w);have hzp:=gK c256 hz;clear hz;by_cases zo:Kh s[a].toNat=true
  ·rw[zo]at hzp;have qX:(0:Int)<=z:=lh hzp;have HF:Hid (R=Cw s 8 a a1/\a<a1):=Hi ⟨by rw[HPU.o,JY.o,lQ zo],by have:=JY.o;omega⟩;clear zo;obtain⟨rq,qo,rA,rB,rI,rC,qx⟩:=Q.o.t1.cs;obtain⟨ru,sL,sM,sI,sN,sG,sF⟩:=Q.o.t1.fs;have hw:IntKind.i64.wrap (a1:Int)=(a1:Int):=pt _ (by omega);have hwe:IntKind.i64.wrap ((a:Int)+1)=(a1:Int):=by rw[ay];exact hw
   go_wp2_with (first|(go_at_call 56;(with_reducible refine(uI.o _).mono ?_);rintro e w' ⟨rfl,rfl⟩)|(go_at_call 59;(with_reducible refine(yj.o _).mono ?_);rintro e w' ⟨rfl,rfl⟩)|(go_at_call 62;(with_reducible refine(C51.o _).mono ?_);rintro e w' ⟨rfl,rfl⟩)|(go_at_call 63;(with_reducible refine(C52.o _).mono ?_);rintro e w' ⟨rfl,rfl⟩)|(go_at_call 52;(refine(C41.o _).mono ?_);rintro e w' ⟨rfl,rfl⟩))
   go_region
   go_wp2;go_meet;exact⟨8,a1,(Q.o.RU hb hL.o hT.o 8 a1).drew,HF.o.1,HF.o.2,ba1⟩
  ·have zo:Kh s[a].toNat=false:=by simpa using zo
   rw[zo]at hzp;have qX:¬(0:Int)<=z:=of_decide_eq_false hzp;have HF:Hid (R= .err a 30):=Hi (by rw[HPU.o,zo];rfl);clear zo;obtain⟨rO,rX,rT,re,rP,rh,rj⟩:=Q.o.t0.cs;obtain⟨rW,rV,rY,rQ,rM,rN,rS⟩:=Q.o.t0.fs;obtain⟨rq,qo,rA,rB,rI,rC,qx⟩:=Q.o.t1.cs;obtain⟨ru,sL,sM,sI,sN,sG,sF⟩:=Q.o.t1.fs
   go_wp2_with (first|(go_at_call 56;(with_reducible refine(uI.o _).mono ?_);rintro e w' ⟨rfl,rfl⟩)|(go_at_call 59;(with_reducible refine(yj.o _).mono ?_);rintro e w' ⟨rfl,rfl⟩)|(go_at_call 62;(with_reducible refine(C51.o _).mono ?_);rintro e w' ⟨rfl,rfl⟩)|(go_at_call 63;(with_reducible refine(C52.o _).mono ?_);rintro e w' ⟨rfl,rfl⟩)|(go_at_call 52;(refine(C41.o _).mono ?_);rintro e w' ⟨rfl,rfl⟩))
   go_region
   go_wp2_with fail
   refine lS (v:= .tuple #[Ai 10 ⟨#[]⟩ ⟨#[]⟩ 0 a a false,.int .i64 a,.int .i64 30]) ?_ rfl (AK.er HF.o (AE Q.o.Ac (nR _) _ _ _ _ _ _ _).drew);simp only[results,oy];go_simp
   try rfl
 case rest=>
 obtain⟨k,en,hq,hRl,hae,hen⟩:=hcut;have Q3:=Hi hq;obtain⟨d,hd⟩:∃d,d=s.extract a en:=⟨_,rfl⟩;have HD:=Hi hd;have tU:∀w:World,(Instr.slice 9 (.string s) (some (.int .i64 (a:Int))) (some (.int .i64 (en:Int))) none).run prog w= .ok (.string d) w:=by
  intro w;have:=pW (P:=prog) (w:=w) 9 s .i64 .i64 (a:Int) (en:Int) mS (by omega) (by omega) (by omega);rw[show((en:Int)).toNat=en by omega,show((a:Int)).toNat=a by omega,<-HD.o]at this;exact this
 have dz:d.size=en-a:=by rw[hd,l8];omega
 have DZ:=Hi dz;have HRL:=Hi hRl;have d0:=hq.st.c0;have d1:=hq.st.c1;clear hd dz hRl hq;obtain⟨rq,qo,rA,rB,rI,rC,qx⟩:=Q3.o.t1.cs;obtain⟨ru,sL,sM,sI,sN,sG,sF⟩:=Q3.o.t1.fs;go_wp2
 go_region
 generalize hW4:World.drew _=W4;have B4:Hid (Below w.heap.size w W4):=Hi (by rw[<-hW4];exact(Q3.o.Ac.setCell (p:=⟨w.heap.size+1,1,none⟩) (mO _) _).drew);have T1:Hid (Hd W4 (w.heap.size+1) k d ⟨#[]⟩ 0 a en false):=Hi (by rw[<-hW4];exact⟨(Q3.o.t1.il d).h⟩);have T0:Hid (Gf W4 w.heap.size):=Hi (by rw[<-hW4];exact⟨(oB _ _ _ _ (by show w.heap.size≠w.heap.size+1;omega)).trans Q3.o.t0.h⟩);have S4:Hid (St W4 b s a):=Hi (by rw[<-hW4];exact⟨(oB _ _ _ _ (by show b≠w.heap.size+1;omega)).trans Q3.o.st.h⟩);clear hW4 d0 d1 rq qo rA rB rI rC qx ru sL sM sI sN sG sF;obtain⟨rO,rX,rT,re,rP,rh,rj⟩:=T0.o.cs;obtain⟨rW,rV,rY,rQ,rM,rN,rS⟩:=T0.o.fs;obtain⟨rq,qo,rA,rB,rI,rC,qx⟩:=T1.o.cs;obtain⟨ru,sL,sM,sI,sN,sG,sF⟩:=T1.o.fs;have c1:=S4.o.c1;by_cases hlong:1000<d.size
 ·have v1:(1000:Int)<d.size:=by omega
  have HF:Hid (R= .err a 35):=Hi (by rw[HRL.o];exact VU (by rw[<-DZ.o];exact hlong));clear hlong;go_wp2
  go_region
  go_wp2_with fail
  refine lS (v:= .tuple #[Ai k d ⟨#[]⟩ 0 a en false,.int .i64 a,.int .i64 35]) ?_ rfl (AK.er HF.o (AE B4.o (nR _) _ _ _ _ _ _ _).drew);simp only[results,oy];go_simp
  try rfl
 ·have v1:¬(1000:Int)<d.size:=by omega
  have HF:Hid (R= .ok k d ⟨#[]⟩ 0 a en):=Hi (by rw[HRL.o,HD.o];exact Yb (by rw[<-DZ.o];exact hlong));clear hlong;go_wp2;refine lS (v:= .tuple #[Ai k d ⟨#[]⟩ 0 a en false,.int .i64 0,.int .i64 0]) ?_ rfl (AK.ok (bits:=0) HF.o (AE B4.o (nR _) _ _ _ _ _ _ _));simp only[results,oy];go_simp
  try rfl
end Go.Proofs
section
namespace Go.Proofs
open Go.RowKit Go.Pf Go.Lib
open Go.Proofs.YtpocgkiamgipdaaGreatDoor
section
variable {H:Type} {enc:TypeId×Value->H} {P:Program} {w:World} {base:Nat} {sp:Nat->Bool} {held:Bool} {fuel:Nat} {t:TypeId} {cs:List Value}
theorem Re {k:FloatKind} {x:DataW H×List MemPlace}(ht:P.underlying t=some (.float k)) (h:DataW.trod enc P w base sp held fuel t cs=some x):∃b,cs= [.float k b]/\x=(.lit (.float k b),[]):=by
 cases fuel with
 |zero=>simp[DataW.trod]at h
 |succ n=>
  unfold DataW.trod at h;rw[ht]at h;split at h<;>simp_all
theorem Rf {n:String} {d:DataW H} {p:List MemPlace}(ht:∃y,P.underlying t=some (.interface y)) (h:DataW.trod enc P w base sp held fuel t cs=some (.iface n d,p)):∃u v,cs= [.iface u v]:=by
 obtain⟨y,ht⟩:=ht;cases fuel with
 |zero=>simp[DataW.trod]at h
 |succ n=>
  unfold DataW.trod at h;rw[ht]at h;split at h<;>simp_all
theorem Wx {e:TypeId} {l r:List (DataW H)} {p:List MemPlace}(ht:P.underlying t=some (.slice e)) (h:DataW.trod enc P w base sp held fuel t cs=some (.slice l r,p)):
 ∃(a:Addr) (cap n:Nat),cs= [.slice (some a) l.length cap]/\∀(i:Nat) (d:DataW H),l[i]? =some d->∃es q,w.cells? base (a.add (i*P.cellsOf e)) (P.cellsOf e)=some es/\DataW.trod enc P w base sp held n e es=some (d,q):=by
 rcases DataW.trod_slice ht h with⟨_,hx⟩|⟨a,len,cap,elems,rest,n,_,qy,hx,_,_,_,hl,wJ,_⟩
 ·cases hx
 ·have h1:l=elems.map (·.1):=by have:=mQ Prod.fst hx;simp at this;exact this.1
  have h2:l.length=len:=by rw[h1,nN,hl]
  refine⟨a,cap,n,by rw[h2];exact qy,fun i d hi=> ?_⟩;have qN:i<len:=by
   rcases ls i l.length with h3|h3
   ·omega
   ·rw[mr h3]at hi;cases hi
  have h4:=wJ i qN;rw[h1,mj]at hi;cases he:elems[i]?with
  |none=>rw[he]at hi;cases hi
  |some y=>
   rw[he]at hi h4;simp only[Option.map_some,mD]at hi;obtain⟨es,h5,h6⟩:=Option.bind_eq_some_iff.1 h4;exact⟨es,y.2,h5,by rw[h6,<-hi]⟩
theorem JM {fs:Array Field} {l:List (DataW H)} {p:List MemPlace}(ht:P.underlying t=some (.struct fs)) (h:DataW.trod enc P w base sp held fuel t cs=some (.agg l,p)):
 ∃n,∀(i:Nat) (f:Field) (d:DataW H),fs[i]? =some f->l[i]? =some d->∃q,DataW.trod enc P w base sp held n f.type ((cs.drop f.offset).take (P.cellsOf f.type))=some (d,q):=by
 obtain⟨xs,n,_,hx,_,_,hf⟩:=DataW.trod_struct ht h;have h1:l=xs.map (·.1):=by have:=mQ Prod.fst hx;simpa using this
 refine⟨n,fun i f d h2 h3=> ?_⟩;have h4:=hf i f h2;rw[h1,mj]at h3;cases he:xs[i]?with
 |none=>rw[he]at h3;cases h3
 |some y=>
  rw[he]at h3 h4;simp only[Option.map_some,mD]at h3;exact⟨y.2,by rw[h4,<-h3]⟩
theorem Vy {m:Nat} {e:TypeId} {l:List (DataW H)} {p:List MemPlace}(ht:P.underlying t=some (.array m e)) (h:DataW.trod enc P w base sp held fuel t cs=some (.agg l,p)):
 ∃n,∀(i:Nat) (d:DataW H),i<m->l[i]? =some d->∃q,DataW.trod enc P w base sp held n e ((cs.drop (i*P.cellsOf e)).take (P.cellsOf e))=some (d,q):=by
 obtain⟨xs,n,_,hx,_,_,hf⟩:=DataW.trod_array ht h;have h1:l=xs.map (·.1):=by have:=mQ Prod.fst hx;simpa using this
 refine⟨n,fun i d h2 h3=> ?_⟩;have h4:=hf i h2;rw[h1,mj]at h3;cases he:xs[i]?with
 |none=>rw[he]at h3;cases h3
 |some y=>
  rw[he]at h3 h4;simp only[Option.map_some,mD]at h3;exact⟨y.2,by rw[h4,<-h3]⟩
end
theorem Ii {w:World} {g o n:Nat} {es:List Value} {i:Nat} {v:Value}(h:w.cells? 0 ⟨g,o,none⟩ n=some es) (hv:es[i]? =some v):w.cell? ⟨g,o+i,none⟩=some v:=by
 obtain⟨_,hl,hc⟩:=World.cells?_some h;have hi:i<n:=by
  rcases ls i es.length with h3|h3
  ·omega
  ·rw[mr h3]at hv;cases hv
 rw[<-hv,<-hc i hi];unfold Addr.add;split
 ·rename_i h0;subst h0;rfl
 ·rfl
theorem take_one {cs:List Value} {k:Nat} {v:Value}(h:(cs.drop k).take 1= [v]):cs[k]? =some v:=by
 have:=mQ (·[0]?) h;simpa[pF,qA]using this
section
variable {P:Program} {W0:World}
def Nb (P:Program) (n:String) (g t:Nat):Bool:=match P.globalNamed n with|some g'=>Nat.beq g' g&&(match(P.globals[g]?).map (·.type)with|some t'=>Nat.beq t' t|none=>false)|none=>false
theorem Uw {L:List (String×DataW Unit)}(h1:laidMet P L W0){i:Nat} {n:String} {d:DataW Unit} {g t:Nat}(hl:L[i]? =some (n,d)) (hg:Nb P n g t=true):
 ∃(cs:Array Value) (fuel:Nat) (p:List MemPlace),(∀off,W0.cell? ⟨g,off,none⟩=cs[off]?)/\DataW.trod (fun _=>()) P W0 0 (fun _=>true) false fuel t cs.toList=some (d,p):=by
 obtain⟨g',t',cs,fuel,p,hgn,u9,ti,hd⟩:=Lib.laidMet.reads h1 (mP hl);unfold Nb at hg;rw[hgn]at hg;simp only[mJ]at hg;obtain⟨e1,e2⟩:=hg;obtain rfl:=Nat.eq_of_beq_eq_true e1;rw[u9]at e2;obtain rfl:=Nat.eq_of_beq_eq_true e2;exact⟨cs,fuel,p,fun off=>World.var?_cell hgn ti off,hd⟩
def rowIs (P:Program) (g t:Nat):Bool:=Nat.ble (g+1) P.globals.size&&P.buildable t&&(match((begin P (fun _ _=>0) default).world.heap[g]?).bind Obj.row? with|some (z,t')=>Nat.beq t' t&&Nat.beq z.size 1|none=>false)
theorem XV (h:W0.ShapedOpen P){g t e:Nat}(hr:rowIs P g t=true) (hc:P.cellTypes P.depth t=some [t]) (hu:P.underlying t=some (.slice e)){a:Addr} {len cap:Nat}(ha:W0.cell? ⟨g,0,none⟩=some (.slice (some a) len cap)):a.spot=none:=by
 unfold rowIs at hr;simp only[mJ]at hr;obtain⟨⟨hg,hb⟩,h0⟩:=hr;split at h0
 ·rename_i z t' hz;simp only[mJ]at h0;obtain rfl:=Nat.eq_of_beq_eq_true h0.1;obtain⟨cs,hh,hs,qK⟩:=h.1 g z _ (n7 hg) hz;obtain⟨ts,tW,_,hall⟩:=qK hb;rw[hc]at tW;cases tW;have hv:cs[0]? =some (.slice (some a) len cap):=by
   rw[<-ha];simp[World.cell?,hh]
  obtain⟨u,hu',vJ⟩:=hall 0 _ hv;simp only[nF,pf,me,Nat.zero_mod,nX,mD]at hu';subst hu';unfold Cell.ok at vJ;rw[hu]at vJ;exact vJ.2.2.2.1
 ·cases h0
end
theorem Xz (b o n:Nat):(⟨b,o,none⟩:Addr).add n=⟨b,o+n,none⟩:=by
 unfold Addr.add;split
 ·rename_i h0;subst h0;rfl
 ·rfl
theorem FJ {W0:World}(h1:laidMet prog Rows.parserSoundRow.laid W0){i:Nat} {n:String} {d:DataW Unit} {g t:Nat}(hl:Rows.parserSoundRow.laid[i]? =some (n,d)) (hg:Nb prog n g t=true):
 ∃(cs:Array Value) (fuel:Nat) (p:List MemPlace),(∀off,W0.cell? ⟨g,off,none⟩=cs[off]?)/\DataW.trod (fun _=>()) prog W0 0 (fun _=>true) false fuel t cs.toList=some (d,p):=Uw h1 hl hg
def DK (W:World):Prop:=∃W0:World,laidMet prog Rows.parserSoundRow.laid W0/\W0.ShapedOpen prog/\Below W0.heap.size W0 W
theorem DK.below {W W':World}(h:DK W) (hb:Below W.heap.size W W'):DK W':=by
 obtain⟨W0,h1,h2,h3⟩:=h;exact⟨W0,h1,h2,h3.trans (hb.mono h3.size)⟩
theorem DK.of {W:World}(h1:laidMet prog Rows.parserSoundRow.laid W) (h2:W.ShapedOpen prog):DK W:=⟨W,h1,h2,Below.refl _ _⟩
theorem DK.zero {W:World}(h:DK W):Ag W:=by
 obtain⟨W0,h1,h2,h3⟩:=h;exact(Ag.of h1 h2).below h3
theorem dG:Rows.parserSoundRow.laid[3]? =some ("internal/strconv.float64info",.agg [.lit (.int .u64 52),.lit (.int .u64 11),.lit (.int .i64 (-1023))]):=by kernel_rfl
theorem fa:Rows.parserSoundRow.laid[4]? =some ("internal/strconv.optimize",.lit (.bool true)):=by kernel_rfl
theorem dh:Rows.parserSoundRow.laid[5]? =some ("internal/strconv.powtab",.slice ((List.range 9).map fun i=> .lit (.int .i64 (U5.getD i 1:Nat))) []):=by kernel_rfl
theorem eA:Rows.parserSoundRow.laid[6]? =some ("internal/strconv.float64pow10",.slice ((List.range 23).map fun i=> .lit (.float .f64 (Gu i))) []):=by kernel_rfl
theorem Y8:∃n d,Rows.parserSoundRow.laid[10]? =some ("strconv.ErrRange",.iface n d):=by
 have h:(match Rows.parserSoundRow.laid[10]?with|some (s,.iface _ _)=>s== "strconv.ErrRange" |_=>false)=true:=by kernel_rfl
 split at h
 ·rename_i s n d hl;exact⟨n,d,by rw[hl,eq_of_beq h]⟩
 ·cases h
theorem ZU:Rows.parserSoundRow.laid[14]? =some ("internal/strconv.leftcheats",.slice ((List.range 61).map fun i=> .agg [.lit (.int .i64 (FO i:Nat)),.lit (.string (OS i))]) []):=by kernel_rfl
theorem af:Rows.parserSoundRow.laid[15]? =some ("internal/strconv.pow10Tab",.agg ((List.range 696).map fun i=> .agg [.lit (.int .u64 (FG i:Nat)),.lit (.int .u64 (FY i:Nat))])):=by kernel_rfl
theorem gN {W0:World}(h1:laidMet prog Rows.parserSoundRow.laid W0):W0.cell? ⟨11,0,none⟩=some (.bool true):=by
 obtain⟨cs,fuel,p,hc,hd⟩:=FJ h1 fa (g:=11) (t:=4) (by kernel_rfl);obtain⟨b,hb,hx⟩:=DataW.trod_bool oF hd;simp only[nQ,DataW.lit.injEq,Lit.bool.injEq]at hx;rw[hc 0,<-mV,hb,<-hx.1];rfl
theorem ah {W0:World}(h1:laidMet prog Rows.parserSoundRow.laid W0):∃te pe,W0.cell? ⟨8,0,none⟩=some (.iface te pe):=by
 obtain⟨n,d,hl⟩:=Y8;obtain⟨cs,fuel,p,hc,hd⟩:=FJ h1 hl (g:=8) (t:=37) (by kernel_rfl);obtain⟨u,v,hb⟩:=Rf ⟨_,underlying37⟩ hd;exact⟨u,v,by rw[hc 0,<-mV,hb];rfl⟩
theorem kh:Tryz.prog.cellsOf 164=1:=by kernel_rfl
theorem c3:Tryz.prog.cellsOf 3=1:=by kernel_rfl
theorem Ul:∃f0 f1 f2:Field,Tryz.prog.underlying 247=some (.struct #[f0,f1,f2])/\(f0.type=164/\f0.offset=0)/\(f1.type=164/\f1.offset=1)/\(f2.type=3/\f2.offset=2):=⟨_,_,_,underlying247,⟨rfl,rfl⟩,⟨rfl,rfl⟩,⟨rfl,rfl⟩⟩
theorem Gi {w:World} {fuel k:Nat} {t:TypeId} {kd:IntKind} {z:Int} {cs:List Value} {q:List MemPlace}(ht:Tryz.prog.underlying t=some (.int kd)) (hc:Tryz.prog.cellsOf t=1)
 (h:DataW.trod (fun _=>()) prog w 0 (fun _=>true) false fuel t ((cs.drop k).take (Tryz.prog.cellsOf t))=some (.lit (.int kd z),q)):cs[k]? =some (.int kd z):=by
 obtain⟨n,h1,h2,_⟩:=DataW.trod_int ht h;simp only[nQ,DataW.lit.injEq,Lit.int.injEq,true_and]at h2;rw[hc]at h1;rw[take_one h1,<-h2.1]
theorem fk {W0:World}(h1:laidMet prog Rows.parserSoundRow.laid W0):W0.cell? ⟨12,0,none⟩=some (.int .u64 52)/\W0.cell? ⟨12,1,none⟩=some (.int .u64 11)/\W0.cell? ⟨12,2,none⟩=some (.int .i64 (-1023)):=by
 obtain⟨cs,fuel,p,hc,hd⟩:=FJ h1 dG (g:=12) (t:=247) (by kernel_rfl);obtain⟨f0,f1,f2,hu,⟨t0,o0⟩,⟨t1,o1⟩,⟨t2,o2⟩⟩:=Ul;obtain⟨n,hf⟩:=JM hu hd;obtain⟨_,e0⟩:=hf 0 f0 _ rfl rfl;obtain⟨_,e1⟩:=hf 1 f1 _ rfl rfl;obtain⟨_,e2⟩:=hf 2 f2 _ rfl rfl;rw[t0,o0]at e0;rw[t1,o1]at e1;rw[t2,o2]at e2;refine⟨?_,?_,?_⟩
 ·rw[hc 0,<-mV];exact Gi oO kh e0
 ·rw[hc 1,<-mV];exact Gi oO kh e1
 ·rw[hc 2,<-mV];exact Gi nU c3 e2
theorem Gp {H:Type} {n i:Nat}(f:Nat->DataW H) (h:i<n):((List.range n).map f)[i]? =some (f i):=by
 rw[mj,List.getElem?_range h];rfl
theorem Kp {W0:World}(h1:laidMet prog Rows.parserSoundRow.laid W0) (h2:W0.ShapedOpen prog){i g t e:Nat} {n:String} {l r:List (DataW Unit)}(hl:Rows.parserSoundRow.laid[i]? =some (n,.slice l r)) (hg:Nb prog n g t=true) (hr:rowIs prog g t=true) (hc:Tryz.prog.cellTypes Tryz.prog.depth t=some [t]) (hu:Tryz.prog.underlying t=some (.slice e)):
 ∃(b o cap fuel:Nat),W0.cell? ⟨g,0,none⟩=some (.slice (some ⟨b,o,none⟩) l.length cap)/\∀i d,l[i]? =some d->∃es q,W0.cells? 0 ⟨b,o+i*Tryz.prog.cellsOf e,none⟩ (Tryz.prog.cellsOf e)=some es/\DataW.trod (fun _=>()) prog W0 0 (fun _=>true) false fuel e es=some (d,q):=by
 obtain⟨cs,fuel,p,hcl,hd⟩:=FJ h1 hl hg;obtain⟨a,cap,m,qy,wJ⟩:=Wx hu hd;have h0:W0.cell? ⟨g,0,none⟩=some (.slice (some a) l.length cap):=by rw[hcl 0,<-mV,qy];rfl
 have hs:=XV h2 hr hc hu h0;obtain⟨b,o,sp⟩:=a;simp only at hs;subst hs;refine⟨b,o,cap,m,h0,fun i d hi=> ?_⟩;obtain⟨es,q,k1,k2⟩:=wJ i d hi;rw[Xz]at k1;exact⟨es,q,k1,k2⟩
theorem j7:Tryz.prog.cellsOf 155=1:=by kernel_rfl
theorem Uv {W0:World}(h1:laidMet prog Rows.parserSoundRow.laid W0) (h2:W0.ShapedOpen prog):∃g o c,g<W0.heap.size/\W0.cell? ⟨14,0,none⟩=some (.slice (some ⟨g,o,none⟩) 9 c)/\∀i,i<9->W0.cell? ⟨g,o+i,none⟩=some (.int .i64 (U5.getD i 1:Nat)):=by
 obtain⟨b,o,cap,fuel,h0,wJ⟩:=Kp h1 h2 dh (g:=14) (t:=44) (by kernel_rfl) (by kernel_rfl) (by kernel_rfl) underlying44;rw[c3]at wJ;have key:∀i,i<9->W0.cell? ⟨b,o+i,none⟩=some (.int .i64 (U5.getD i 1:Nat)):=fun i hi=>by
  obtain⟨es,q,e1,e2⟩:=wJ i _ (Gp _ hi);obtain⟨n,e3,e4,_⟩:=DataW.trod_int nU e2;simp only[nQ,DataW.lit.injEq,Lit.int.injEq,true_and]at e4;have e5:=Ii (i:=0) e1 (v:= .int .i64 (U5.getD i 1:Nat)) (by rw[e3,e4.1];rfl);rw[nf,nK]at e5;exact e5
 exact⟨b,o,cap,Lib.lt_of_cell (key 0 (by omega)),h0,key⟩
theorem fC {W0:World}(h1:laidMet prog Rows.parserSoundRow.laid W0) (h2:W0.ShapedOpen prog):Il W0 W0.heap.size:=by
 obtain⟨b,o,cap,fuel,h0,wJ⟩:=Kp h1 h2 eA (g:=15) (t:=280) (by kernel_rfl) (by kernel_rfl) (by kernel_rfl) underlying280;rw[j7]at wJ;have key:∀i,i<23->W0.cell? ⟨b,o+i,none⟩=some (.float .f64 (Gu i)):=fun i hi=>by
  obtain⟨es,q,e1,e2⟩:=wJ i _ (Gp _ hi);obtain⟨n,e3,e4⟩:=Re underlying155 e2;simp only[nQ,DataW.lit.injEq,Lit.float.injEq,true_and]at e4;have e5:=Ii (i:=0) e1 (v:= .float .f64 (Gu i)) (by rw[e3,e4.1];rfl);rw[nf,nK]at e5;exact e5
 exact⟨b,o,cap,Lib.lt_of_cell (key 0 (by omega)),Lib.lt_of_cell h0,h0,key⟩
theorem kL:Tryz.prog.cellsOf 292=2:=by kernel_rfl
theorem c9:Tryz.prog.cellsOf 9=1:=by kernel_rfl
theorem Uf:∃f0 f1:Field,Tryz.prog.underlying 292=some (.struct #[f0,f1])/\(f0.type=3/\f0.offset=0)/\(f1.type=9/\f1.offset=1):=⟨_,_,underlying292,⟨rfl,rfl⟩,⟨rfl,rfl⟩⟩
theorem Uh {W0:World}(h1:laidMet prog Rows.parserSoundRow.laid W0) (h2:W0.ShapedOpen prog):LO W0 W0.heap.size:=by
 obtain⟨b,o,cap,fuel,h0,wJ⟩:=Kp h1 h2 ZU (g:=19) (t:=293) (by kernel_rfl) (by kernel_rfl) (by kernel_rfl) underlying293;rw[kL]at wJ;have key:∀i,i<61->W0.cell? ⟨b,o+i*2,none⟩=some (.int .i64 (FO i:Nat))/\W0.cell? ⟨b,o+i*2+1,none⟩=some (.string ⟨(OS i).toArray⟩):=fun i hi=>by
  obtain⟨es,q,e1,e2⟩:=wJ i _ (Gp _ hi);obtain⟨f0,f1,hu,⟨t0,o0⟩,⟨t1,o1⟩⟩:=Uf;obtain⟨n,hf⟩:=JM hu e2;obtain⟨_,k0⟩:=hf 0 f0 _ rfl rfl;obtain⟨_,k1⟩:=hf 1 f1 _ rfl rfl;rw[t0,o0]at k0;rw[t1,o1]at k1;have v0:=Ii e1 (Gi nU c3 k0);rw[c9]at k1;obtain⟨sx,e3,e4,_⟩:=DataW.trod_string mS k1;simp only[nQ,DataW.lit.injEq,Lit.string.injEq]at e4;have v1:=Ii e1 (take_one e3);refine⟨v0,?_⟩;rw[v1,show(⟨(OS i).toArray⟩:ByteArray)=sx from by apply pH;apply po.1;rw[<-e4.1]]
 exact⟨b,o,cap,Lib.lt_of_cell (key 0 (by omega)).1,Lib.lt_of_cell h0,h0,key⟩
theorem kJ:Tryz.prog.cellsOf 285=2:=by kernel_rfl
theorem kY:Tryz.prog.cellsOf 28=1:=by kernel_rfl
theorem Ui:∃f0 f1:Field,Tryz.prog.underlying 285=some (.struct #[f0,f1])/\(f0.type=28/\f0.offset=0)/\(f1.type=28/\f1.offset=1):=⟨_,_,underlying285,⟨rfl,rfl⟩,⟨rfl,rfl⟩⟩
theorem cN {W0:World}(h1:laidMet prog Rows.parserSoundRow.laid W0):KT W0:=by
 obtain⟨cs,fuel,p,hc,hd⟩:=FJ h1 af (g:=18) (t:=286) (by kernel_rfl);obtain⟨n,ha⟩:=Vy underlying286 hd;intro i hi;obtain⟨_,e⟩:=ha i _ hi (Gp _ hi);rw[kJ]at e;obtain⟨f0,f1,hu,⟨t0,o0⟩,⟨t1,o1⟩⟩:=Ui;obtain⟨n,hf⟩:=JM hu e;obtain⟨_,k0⟩:=hf 0 f0 _ rfl rfl;obtain⟨_,k1⟩:=hf 1 f1 _ rfl rfl;rw[t0,o0]at k0;rw[t1,o1]at k1;have v0:=Gi underlying28 kY k0;have v1:=Gi underlying28 kY k1;rw[pF,qA]at v0 v1;simp only[Nat.zero_lt_succ,if_true,nK,Nat.lt_add_one]at v0 v1;exact⟨by rw[hc,<-mV];exact v0,by rw[hc,<-mV];exact v1⟩
theorem DK.Fm {W:World}(h:DK W):∃B,B<=W.heap.size/\D3 W B:=by
 obtain⟨W0,h1,h2,h3⟩:=h;obtain⟨te,pe,h6⟩:=ah h1;obtain⟨i0,i1,i2⟩:=fk h1;have zP:=Uh h1 h2;have h18:21<W0.heap.size:=MO h2 (k:=21) (by kernel_rfl) (by kernel_rfl);have t0:D3 W0 W0.heap.size:=⟨⟨⟨h18,zP,Uv h1 h2,i0,i1,i2⟩,fC h1 h2,cN h1,gN h1⟩,te,pe,h6⟩;exact⟨W0.heap.size,h3.size,t0.below h3⟩
end Go.Proofs
end
section
namespace Go.Lx
open Go.Hb Go.Rb Go.Bg Go.Pf Go.Proofs
def TR.at' (a:Nat):TR->Prop
 | .ok _ _ _ _ p _=>p=a
 | .err _ _=>True
theorem MY (k:Nat) (tx nu:ByteArray) (bits a en:Nat):TR.at' a (.ok k tx nu bits a en):=rfl
theorem Fj (a p n:Nat):TR.at' a (.err p n):=True.intro
theorem Z4 {s:ByteArray} {a:Nat} {R:TR}(h:De s a=some R):TR.at' a R:=by
 unfold De at h
 repeat' split at h
 all_goals first|(cases h;done)|(cases h;with_reducible exact MY _ _ _ _ _ _)|(cases h;with_reducible exact Fj _ _ _)
theorem Zi (s:ByteArray) (a f t r:Nat):TR.at' a (Cy s a f t r):=by
 have key:∀(A B:TR),TR.at' a A->TR.at' a B->∀(c:Prop) [Decidable c],TR.at' a (if c then A else B):=fun A B hA hB c _=>by
  split
  ·exact hA
  ·exact hB
 unfold Cy;refine key _ _ ?_ ?_ _
 ·with_reducible exact MY _ _ _ _ _ _
 ·with_reducible exact Fj _ _ _
theorem Rn (s:ByteArray) (a p:Nat) (x:Int) (t:Nat):TR.at' a (Hr s a p x t):=by
 unfold Hr;split
 ·with_reducible exact Fj _ _ _
 ·split
  ·with_reducible exact MY _ _ _ _ _ _
  ·with_reducible exact Fj _ _ _
theorem bC (s:ByteArray) (a p:Nat):TR.at' a (Ek s a p):=by
 unfold Ek;split
 ·split
  ·with_reducible exact Fj _ _ _
  ·exact Rn _ _ _ _ _
 ·exact Rn _ _ _ _ _
theorem bk (s:ByteArray) (a:Nat):TR.at' a (GL s a):=by
 unfold GL;split
 ·exact Z4 (by assumption)
 ·repeat' split
  all_goals first
   | (with_reducible exact Zi _ _ _ _ _)
   | (with_reducible exact bC _ _ _)
theorem Y6 {s:ByteArray} {a q p:Nat} {out:List UInt8} {R:TR}(h:Dd s a q p out= .inl R):TR.at' a R:=by
 unfold Dd at h
 repeat' split at h
 all_goals first|(cases h;done)|(cases h;with_reducible exact MY _ _ _ _ _ _)|(cases h;with_reducible exact Fj _ _ _)
theorem Rj (s:ByteArray) (a q:Nat):∀(f p:Nat) (out:List UInt8),TR.at' a (Gv s a q f p out)
 |0,_,_=>Fj _ _ _
 |f+1,p,out=>by
  unfold Gv;split
  ·exact Y6 (by assumption)
  ·exact Rj s a q f _ _
theorem Yv (s:ByteArray) (a q p:Nat) (out:List UInt8):TR.at' a (Cz s a q p out):=Rj _ _ _ _ _ _
theorem aP (s:ByteArray) (k a t:Nat):TR.at' a (Cw s k a t):=by
 unfold Cw;split
 ·with_reducible exact Fj _ _ _
 ·with_reducible exact MY _ _ _ _ _ _
theorem Yx (s:ByteArray) (a:Nat):TR.at' a (Dy s a):=by
 unfold Dy
 repeat' split
 all_goals first
  | (with_reducible exact bk _ _)
  | (with_reducible exact Yv _ _ _ _ _)
  | (with_reducible exact aP _ _ _ _)
  | (with_reducible exact MY _ _ _ _ _ _)
  | (with_reducible exact Fj _ _ _)
end Go.Lx
namespace Go.Proofs
open Go.RowKit Go.Pf Go.Lx Go.Hb Go.Rb Go.Bg
theorem DK.kN {w:World}(h:DK w):D3 w w.heap.size:=by
 obtain⟨B,h1,h2⟩:=h.Fm;exact h2.mono h1
theorem Ag.gl {w:World}(h:Ag w):Tryz.prog.globals.size<=w.heap.size:=by
 obtain⟨_,_,_,_,h4⟩:=h;exact h4
theorem Hd.dE (w:World) (k:Int) (tx nu:ByteArray) (bits a en:Int) (ly:Bool):Hd (w.alloc (.cells #[.int .i64 k,.string tx,.string nu,.int .u64 bits,.int .i64 a,.int .i64 en,.bool ly] 71)) w.heap.size k tx nu bits a en ly:=⟨lT w _⟩
theorem jS (s:ByteArray) (p K E:Nat) (w:World) (hs:s.size<=100000000) (hp:p<=s.size) (hL:Hid (Lay s p K E)) (hM:Hid (DK w)):
 Calls prog 22 #[.string s,.int .i64 p] w (Dv (Pp s K E) (decide (p<K)) w):=by
 obtain⟨R,hR⟩:∃R,R=Pp s K E:=⟨_,rfl⟩;obtain⟨ly,wE⟩:∃ly,ly=decide (p<K):=⟨_,rfl⟩;rw[<-hR,<-wE];have HR:=Hi hR;have zm:=Hi wE;have L0:=Hi hM.o.zero;have T0:=Hi hM.o.kN;have q1:decide ((p:Int)<0)=false:=Ej;have q2:decide ((s.size:Int)<p)=false:=Ej;have q2b:decide (s.size<p)=false:=Ej;have q3:¬(s.size:Int)<p:=by omega
 have hle:=hL.o.le hp;have HW:Hid (∀W1,W1=(w.alloc (.cells #[.int .i64 0,.string ⟨#[]⟩,.string ⟨#[]⟩,.int .u64 0,.int .i64 0,.int .i64 0,.bool false] 71)).alloc (.cells #[.string s,.int .i64 p] 99)->Gf W1 w.heap.size/\St W1 (w.heap.size+1) s p/\Below w.heap.size w W1/\W1.heap.size=w.heap.size+2):=Hi (by
  intro W1 hW;refine⟨⟨?_⟩,⟨?_⟩,?_,?_⟩
  ·subst hW;rw[Lib.alloc_old _ _ _ (by simp)];exact lT w _
  ·subst hW;have:=lT (w.alloc (.cells (DF 0) 71)) (.cells #[.string s,.int .i64 p] 99);rw[show(w.alloc (.cells (DF 0) 71)).heap.size=w.heap.size+1 by simp]at this;exact this
  ·subst hW;exact(Bzz _).alloc (by simp) _
  ·subst hW;simp)
 clear hR wE;go_enter func22,ntmps22
 go_wp2_with fail
 generalize hW1:(w.alloc _).alloc _=W1;obtain⟨tk,st,bl,sz⟩:=HW.o W1 hW1.symm;have CL:Hid (Calls prog 37 #[.pointer (some ⟨w.heap.size+1,0,none⟩)] W1 (bX s (w.heap.size+1) K E W1)):=Hi (aj (w.heap.size+1) s p K E W1 hs hp hL st (L0.o.below bl) (by have:=L0.o.gl;omega));have TK:=Hi tk;have BL:=Hi bl;have SZ:=Hi sz;clear hW1 tk st bl sz HW
 go_wp2_with (go_at_call 37;(with_reducible refine CL.o.mono ?_))
 rintro e W2 ⟨vJ,her,qF,rH⟩;have TK2:Hid (Gf W2 w.heap.size):=Hi ⟨(qF.block _ (by omega)).trans TK.o.h⟩;have uM:Hid (Below w.heap.size w W2):=Hi (BL.o.trans (qF.mono (by omega)));have lt2:w.heap.size+1<W2.heap.size:=by have:=SZ.o;omega
 clear qF rH CL;by_cases hE:E=0
 ·obtain⟨rfl,st2⟩:=vJ hE;have yX:R=Dy s K:=by rw[HR.o];unfold Pp;rw[lQ hE]
  have qZ:=Hi yX;have kle:=hle hE;have qh:=Yx s K;rw[<-yX]at qh;have CT:Hid (Calls prog 38 #[.pointer (some ⟨w.heap.size+1,0,none⟩)] W2 (AK R W2)):=Hi (by
   rw[qZ.o];exact eO (w.heap.size+1) s K W2 hs kle (Hi st2) (Hi (L0.o.below uM.o)) (Hi (T0.o.next uM.o)) (Hi (by have:=L0.o.gl;omega)))
  clear vJ her hle hE st2 yX;cases R with
  |ok k tx nu bits a en=>
   have haK:a=K:=qh;have CT2:Hid (Calls prog 38 #[.pointer (some ⟨w.heap.size+1,0,none⟩)] W2 fun e w'=>e= .returned (.tuple #[Ai k tx nu bits a en false,.int .i64 0,.int .i64 0])/\Below W2.heap.size W2 w'):=Hi CT.o;have hlk:decide (p<a)=ly:=by rw[zm.o,haK]
   have hlk2:decide ((p:Int)<a)=ly:=by rw[zm.o,haK];exact mZ.2 (by omega)
   clear qh haK CT
   go_upto_region 8 with(go_at_call 38;(with_reducible refine CT2.o.mono ?_);rintro e W3 ⟨rfl,b3⟩;unfold Ai;have B3:=Hi b3;clear b3)
   generalize hW4:W3.alloc _=W4;have T1:Hid (Hd W4 W3.heap.size k tx nu bits a en false):=Hi (by rw[<-hW4];exact Hd.dE W3 _ _ _ _ _ _ _);have b4:Below W3.heap.size W3 W4:=by rw[<-hW4];exact Bzz _
   have TK4:Hid (Gf W4 w.heap.size):=Hi ((TK2.o.below B3.o).below b4);have BL4:Hid (Below w.heap.size w W4):=Hi ((uM.o.trans (B3.o.mono uM.o.size)).trans (b4.mono (by have:=B3.o.size;omega)));have lt3:w.heap.size<W3.heap.size:=by have:=B3.o.size;omega
   clear hW4 b4;obtain⟨rO,rX,rT,re,rP,rh,rj⟩:=TK4.o.cs;obtain⟨rW,rV,rY,rQ,rM,rN,rS⟩:=TK4.o.fs;obtain⟨rq,qo,rA,rB,rI,rC,qx⟩:=T1.o.cs;obtain⟨ru,sL,sM,sI,sN,sG,sF⟩:=T1.o.fs
   go_wp2_with fail
   refine lS (v:= .tuple #[Ai k tx nu bits a en ly,.int .i64 0]) ?_ rfl (Dv.ok rfl (AE (BL4.o.setCell (p:=⟨W3.heap.size,6,none⟩) (by show w.heap.size<=W3.heap.size;omega) _) (nR _) _ _ _ _ _ _ _));simp only[results,results22];go_simp
   try rfl
  |err rp rn=>
   have hrn:rn≠0:=SS qZ.o.symm;have e1:((rn:Int) !=0)=true:=FZ (by omega);have CT2:Hid (Calls prog 38 #[.pointer (some ⟨w.heap.size+1,0,none⟩)] W2 fun e w'=>(∃(k:Int) (tx nu:ByteArray) (bits at_ en:Int) (ly:Bool),e= .returned (.tuple #[Ai k tx nu bits at_ en ly,.int .i64 rp,.int .i64 rn]))/\Below W2.heap.size W2 w'):=Hi CT.o;clear qh hrn CT
   go_upto_region 8 with(go_at_call 38;(with_reducible refine CT2.o.mono ?_);rintro e W3 ⟨⟨k,tx,nu,bits,at_,en,lz,rfl⟩,b3⟩;unfold Ai;have B3:=Hi b3;clear b3)
   generalize hW4:W3.alloc _=W4;have b4:Below W3.heap.size W3 W4:=by rw[<-hW4];exact Bzz _
   have TK4:Hid (Gf W4 w.heap.size):=Hi ((TK2.o.below B3.o).below b4);have BL4:Hid (Below w.heap.size w W4):=Hi ((uM.o.trans (B3.o.mono uM.o.size)).trans (b4.mono (by have:=B3.o.size;omega)));clear hW4 b4
   go_wp2_with (go_at_call 36;(with_reducible refine(Xd rp rn _).mono ?_))
   rintro e W5 ⟨rfl,b5⟩;have TK5:Hid (Gf W5 w.heap.size):=Hi (TK4.o.below b5);have BL5:Hid (Below w.heap.size w W5):=Hi (BL4.o.trans (b5.mono BL4.o.size));clear b5;unfold Nw Ai;obtain⟨rO,rX,rT,re,rP,rh,rj⟩:=TK5.o.cs;obtain⟨rW,rV,rY,rQ,rM,rN,rS⟩:=TK5.o.fs;go_wp2;refine lS (v:= .tuple #[Nw rp,.int .i64 rn]) ?_ rfl (Dv.er rfl (AE BL5.o (nR _) _ _ _ _ _ _ _));simp only[results,results22];go_simp
   try rfl
 ·obtain rfl:=her hE;have HF:Hid (R= .err K E):=Hi (by rw[HR.o];unfold Pp;rw[lL hE]);have e1:((E:Int) !=0)=true:=FZ (by omega);clear vJ her hle hE
  go_wp2_with (go_at_call 36;(with_reducible refine(Xd K E _).mono ?_))
  rintro e W5 ⟨rfl,b5⟩;have TK5:Hid (Gf W5 w.heap.size):=Hi (TK2.o.below b5);have BL5:Hid (Below w.heap.size w W5):=Hi (uM.o.trans (b5.mono uM.o.size));clear b5;unfold Nw Ai;obtain⟨rO,rX,rT,re,rP,rh,rj⟩:=TK5.o.cs;obtain⟨rW,rV,rY,rQ,rM,rN,rS⟩:=TK5.o.fs;go_wp2;refine lS (v:= .tuple #[Nw K,.int .i64 E]) ?_ rfl (Dv.er HF.o (AE BL5.o (nR _) _ _ _ _ _ _ _));simp only[results,results22];go_simp
  try rfl
end Go.Proofs
end
section
namespace Go.Proofs
open Go.RowKit Go.Pf Go.Lx Go.Hb Go.Rb Go.Bg
end Go.Proofs
end
