import Derived.Test.YtnipmfaikiaipaaGreatDoorTbc
import Derived.Test.YtnipmfaikiaipaaGreatDoorTbd
set_option linter.unusedSimpArgs false
set_option maxRecDepth 1000000
set_option maxHeartbeats 40000000
namespace Go.Lx
open Go.Hb Go.Rb
theorem ay {s:ByteArray} {p:Nat}(h:p<s.size):Lib.hasPrefix (s.data.toList.drop p) [39,39]=decide (AE s p=39/\AE s (p+1)=39):=by
 rw[drop_cons h];rcases BY (p+1) s.size with h2|h2
 ·rw[drop_cons h2,AO s p h,AO s (p+1) h2];have e0:(s[p]=39)↔((s[p].toNat:Int)=39):=⟨fun h=>by rw[h];rfl,fun h=>UInt8.toNat_inj.1 (by show s[p].toNat=39;omega)⟩;have e1:(s[p+1]=39)↔((s[p+1].toNat:Int)=39):=⟨fun h=>by rw[h];rfl,fun h=>UInt8.toNat_inj.1 (by show s[p+1].toNat=39;omega)⟩;have key:Lib.hasPrefix (s[p]::s[p+1]::s.data.toList.drop (p+1+1)) [39,39]=decide (s[p]=39/\s[p+1]=39):=by
   unfold Lib.hasPrefix;simp only[List.isPrefixOf,Bool.and_true];rw[Bool.eq_iff_iff];simp only[Bool.and_eq_true,beq_iff_eq,decide_eq_true_eq];exact⟨fun⟨h1,h2⟩=>⟨h1.symm,h2.symm⟩,fun⟨h1,h2⟩=>⟨h1.symm,h2.symm⟩⟩
  rw[key];exact NO.2 (by rw[e0,e1])
 ·rw[DV h2,Am s (p+1) h2];simp[Lib.hasPrefix,List.isPrefixOf]
theorem KH {s:ByteArray} {p v n:Nat}(h:B8 s p v n) (hv:v<128):AE s p=v/\n=1:=by
 have h2:=C6 s p;unfold B8 cont at h;omega
theorem Vu {s:ByteArray} {p v n:Nat}(h:B8 s p v n) (hv:128<=v):128<=AE s p:=by
 have h2:=DF s p;unfold B8 cont at h;omega
theorem UZ {s:ByteArray} {p:Nat}(h:EG s p) (hp:p<s.size):128<=AE s p:=by
 apply No;intro h1;exact h (AE s p) 1 (.inl ⟨rfl,hp,by omega,by omega⟩)
theorem Yy {s:ByteArray} {a:Nat}(_:AE s a=48/\AE s (a+1)=39) (h:s.size<=a+2):DU s a=none:=by unfold DU;rw[if_pos (.inr (.inr (.inl h)))]
theorem bj {s:ByteArray} {a:Nat}(_:AE s a=48/\AE s (a+1)=39) (h:AE s (a+2)=10):DU s a=none:=by unfold DU;rw[if_pos (.inr (.inr (.inr h)))]
theorem JI {s:ByteArray} {a:Nat}(h1:AE s a=48/\AE s (a+1)=39) (hl:a+2<s.size) (h:AE s (a+2)≠10):DU s a=if AE s (a+2)=39 then(if AE s (a+3)=39 then some (.ok 4 ⟨#[]⟩ (JL 39) 0 a (a+4))else none)
 else if AE s (a+2)=92 then(match Dp s (a+2)with
  |none=>some (.err (a+2) 32)
  |some (x,t)=>some (.ok 4 ⟨#[]⟩ (JL x) 0 a t))
 else match Et s (a+2)with
  |none=>some (.err (a+2) 30)
  |some (v,n)=>some (.ok 4 ⟨#[]⟩ (JL v) 0 a (a+2+n)):=by
 unfold DU;rw[if_neg (by omega)];rfl
theorem aI {s:ByteArray} {a:Nat}(h1:AE s a=48/\AE s (a+1)=39) (hl:a+2<s.size) (h:AE s (a+2)=39) (h2:¬AE s (a+3)=39):DU s a=none:=by rw[JI h1 hl (by omega),if_pos h,if_neg h2]
theorem bS {s:ByteArray} {a:Nat}(h1:AE s a=48/\AE s (a+1)=39) (hl:a+2<s.size) (h:AE s (a+2)=39) (h2:AE s (a+3)=39):DU s a=some (.ok 4 ⟨#[]⟩ (JL 39) 0 a (a+4)):=by rw[JI h1 hl (by omega),if_pos h,if_pos h2]
theorem bC {s:ByteArray} {a:Nat}(h1:AE s a=48/\AE s (a+1)=39) (hl:a+2<s.size) (h:AE s (a+2)=92) (h2:Dp s (a+2)=none):DU s a=some (.err (a+2) 32):=by rw[JI h1 hl (by omega),if_neg (by omega),if_pos h,h2]
theorem aT {s:ByteArray} {a:Nat}(h1:AE s a=48/\AE s (a+1)=39){x t:Nat}(hl:a+2<s.size) (h:AE s (a+2)=92) (h2:Dp s (a+2)=some (x,t)):DU s a=some (.ok 4 ⟨#[]⟩ (JL x) 0 a t):=by rw[JI h1 hl (by omega),if_neg (by omega),if_pos h,h2]
theorem Z6 {s:ByteArray} {a:Nat}(h1:AE s a=48/\AE s (a+1)=39) (hl:a+2<s.size) (h:EG s (a+2)):DU s a=some (.err (a+2) 30):=by
 have:=UZ h hl;rw[JI h1 hl (by omega),if_neg (by omega),if_neg (by omega),K0 h]
theorem aw {s:ByteArray} {a:Nat}(h1:AE s a=48/\AE s (a+1)=39){v n:Nat}(hl:a+2<s.size) (h:B8 s (a+2) v n) (h2:v≠10) (h3:v≠39) (h4:v≠92):DU s a=some (.ok 4 ⟨#[]⟩ (JL v) 0 a (a+2+n)):=by
 have k:AE s (a+2)≠10/\AE s (a+2)≠39/\AE s (a+2)≠92:=by
  rcases BY v 128 with h5|h5
  ·have:=KH h h5;omega
  ·have:=Vu h h5;omega
 rw[JI h1 hl k.1,if_neg k.2.1,if_neg k.2.2,Ku h]
end Go.Lx
namespace Go.Proofs
open Go.RowKit Go.Pf Go.Lx Go.Hb Go.Rb Go.Bg
def BN (R:Option TR) (w:World) (e:Ending) (w':World):Prop:=
 (match R with
  |none=>∃(k:Int) (tx nu:ByteArray) (bits at_ en:Int) (ly:Bool),e= .returned (.tuple #[AK k tx nu bits at_ en ly,.int .i64 0,.int .i64 0,.bool false])
  |some (.ok k tx nu bits a en)=>e= .returned (.tuple #[AK k tx nu bits a en false,.int .i64 0,.int .i64 0,.bool true])
  |some (.err p n)=>∃(k:Int) (tx nu:ByteArray) (bits at_ en:Int) (ly:Bool),e= .returned (.tuple #[AK k tx nu bits at_ en ly,.int .i64 p,.int .i64 n,.bool true]))/\Below w.heap.size w w'
theorem BN.no {R:Option TR} {w w':World} {k bits at_ en:Int} {tx nu:ByteArray} {ly:Bool}(h:R=none) (hb:Below w.heap.size w w'):BN R w (.returned (.tuple #[AK k tx nu bits at_ en ly,.int .i64 0,.int .i64 0,.bool false])) w':=by subst h;exact⟨⟨_,_,_,_,_,_,_,rfl⟩,hb⟩
theorem BN.er {R:Option TR} {w w':World} {p n:Nat} {k bits at_ en:Int} {tx nu:ByteArray} {ly:Bool}(h:R=some (.err p n)) (hb:Below w.heap.size w w'):BN R w (.returned (.tuple #[AK k tx nu bits at_ en ly,.int .i64 p,.int .i64 n,.bool true])) w':=by subst h;exact⟨⟨_,_,_,_,_,_,_,rfl⟩,hb⟩
theorem BN.ok {R:Option TR} {w w':World} {k bits a E:Nat} {tx nu:ByteArray}(h:R=some (.ok k tx nu bits a E)) (hb:Below w.heap.size w w'):BN R w (.returned (.tuple #[AK k tx nu bits a E false,.int .i64 0,.int .i64 0,.bool true])) w':=by subst h;exact⟨rfl,hb⟩
theorem Ez {B b i j:Nat} {w W:World}(h:Below B w W) (hb:B<=b) (u v:Value):Below B w ((W.setCell ⟨b,i,none⟩ u).setCell ⟨b,j,none⟩ v):=
 (h.setCell (p:=⟨b,i,none⟩) hb u).setCell (p:=⟨b,j,none⟩) hb v
theorem Qc (b:Nat) (s:ByteArray) (a:Nat) (w:World) (hs:s.size<=100000000) (ha:a+1<s.size) (h48:Hid (AE s a=48/\AE s (a+1)=39)) (hst:Hid (St w b s a)) (hL:Hid (Aj w)) (te:TypeId) (pe:Value) (h6:Hid (w.cell? ⟨8,0,none⟩=some (.iface te pe))) (Gx:Hid (Tryz.prog.globals.size<=w.heap.size)):
 Calls Tryz.prog 113 #[.pointer (some ⟨b,0,none⟩)] w (BN (DU s a) w):=by
 have hb:=hst.out.lt;have h6l:8<w.heap.size:=Lib.lt_of_cell h6.out;have k1:b<w.heap.size+1:=by omega
 have k2:b<w.heap.size+1+1:=by omega
 obtain⟨R,hR⟩:∃R,R=DU s a:=⟨_,rfl⟩;rw[<-hR];obtain⟨a2,ha2⟩:∃a2,a2=a+2:=⟨_,rfl⟩;have ea:(a:Int)+2=a2:=by omega
 have Iz:=Hi ha2;obtain⟨u,hu⟩:∃u,u=s.extract a2 s.size:=⟨_,rfl⟩;have HU:=Hi hu;have HR:=Hi hR;have c0:=hst.out.c0;have c1:=hst.out.c1;have TKW:∀W2,W2=(w.alloc (.cells #[.int .i64 0,.string ⟨#[]⟩,.string ⟨#[]⟩,.int .u64 0,.int .i64 0,.int .i64 0,.bool false] 30)).alloc (.cells #[.int .i64 4,.string ⟨#[]⟩,.string ⟨#[]⟩,.int .u64 0,.int .i64 a,.int .i64 0,.bool false] 30)->QW w b s a 4 te pe W2:=by
  intro W2 hW2;have sz2:W2.heap.size=w.heap.size+2:=by subst hW2;simp
  have bl2:Below w.heap.size w W2:=by subst hW2;exact((AH _ _).alloc (nR _) _).alloc (by simp) _
  have tk0:A8 W2 w.heap.size:=by
   refine⟨?_⟩;subst hW2;rw[Lib.alloc_old _ _ _ (by simp)];exact dk w _
  have tk1:F9 W2 (w.heap.size+1) (4:Nat) ⟨#[]⟩ ⟨#[]⟩ 0 a 0 false:=by
   refine⟨?_⟩;subst hW2;have:=dk (w.alloc (.cells (Ck 0) 30)) (.cells #[.int .i64 4,.string ⟨#[]⟩,.string ⟨#[]⟩,.int .u64 0,.int .i64 a,.int .i64 0,.bool false] 30);rw[show(w.alloc (.cells (Ck 0) 30)).heap.size=w.heap.size+1 by simp]at this;exact this
  exact⟨tk0,tk1,hst.out.below bl2,bl2,hL.out.below bl2,(bl2.cell (p:=⟨8,0,none⟩) h6l).trans h6.out,h6l,Gx.out,by omega⟩
 have HTK:=Hi TKW;clear hR ha2 hu TKW;by_cases hlt:a2<s.size
 ·have li:((s.size:Int)<=(a2:Int))=False:=by simp;omega
  have hb0:(Lib.decodeGo u)=Utf8.decode s a2:=by rw[HU.out];exact Gi s a2 hlt
  rcases E5 s a2 hlt with⟨v,n,hc,hd⟩|⟨hno,hd⟩
  ·have HCV:=Hi hc;have hv0:=hc.pos;have hn:=hc.size;have hlast:=hc.last;have n4:n<=4:=by omega
   have v11:v<=1114111:=by have:=hv0.2;unfold AR at this;omega
   clear hv0 hn hc;have C68:Hid (∀W,Aj W->Calls Tryz.prog 60 #[.string u] W fun e w'=>e= .returned (.tuple #[.int .i32 v,.int .i64 n])/\Below W.heap.size W w'):=Hi (fun W hW=>(Tryz.utf8_DecodeRuneInString u W hW.utf8).mono fun e w' ⟨h1,h2⟩=>⟨by rw[h1,hb0,hd];try rfl,h2⟩);clear hb0 hd;have HLT:=Hi hlt;obtain⟨en,hen⟩:∃en,en=a2+n:=⟨_,rfl⟩;have HEN:=Hi hen;have ee:(a2:Int)+n=en:=by omega
   clear hen;go_enter Tryz.func113,Tryz.ntmps113
   go_wp2_with fail
   rw[<-HU.out];generalize hW2:(w.alloc _).alloc _=W2;have Q2:Hid (QW w b s a 4 te pe W2):=Hi (HTK.out W2 hW2.symm);clear hW2;have cb0:=Q2.out.st.c0;have cb1:=Q2.out.st.c1
   go_wp2_with (go_at_call 60;(with_reducible refine(C68.out _ Q2.out.ld).mono ?_))
   rintro e W3 ⟨rfl,b3⟩;have Q3:Hid (QW w b s a 4 te pe W3):=Hi (Q2.out.call hb (b3.mono Q2.out.sz));clear b3 cb0 cb1;have cc0:=Q3.out.st.c0;have cc1:=Q3.out.st.c1;by_cases c10:v=10
   ·have t1:((v:Int)==10)=true:=beq_of_eq (by omega);have HF:Hid (R=none):=Hi (by rw[HR.out];refine bj h48.out ?_;have:=(KH HCV.out (by omega)).1;rw[Iz.out]at this;omega);clear c10;obtain⟨x00,x01,x02,x03,x04,x05,x06⟩:=Q3.out.t0.cs;obtain⟨y00,y01,y02,y03,y04,y05,y06⟩:=Q3.out.t0.fs;obtain⟨x10,x11,x12,x13,x14,x15,x16⟩:=Q3.out.t1.cs;obtain⟨y10,y11,y12,y13,y14,y15,y16⟩:=Q3.out.t1.fs;go_wp2;refine AI (v:= .tuple #[AK 4 ⟨#[]⟩ ⟨#[]⟩ 0 a 0 false,.int .i64 0,.int .i64 0,.bool false]) ?_ rfl (BN.no HF.out (AJ (Q3.out.Ad) (nR _) _ _ _ _ _ _ _));simp only[results,Tryz.results113];go_simp
    try rfl
   have t1:((v:Int)==10)=false:=AA (by omega);by_cases c39:v=39
   ·have t2:((v:Int)==39)=true:=beq_of_eq (by omega);have hb39:AE s (a+2)=39:=by have:=(KH HCV.out (by omega)).1;rw[Iz.out]at this;omega
    have CP:=fun w=>Tryz.strings_HasPrefix (s.extract a2 s.size) ⟨#[39,39]⟩ w;rw[show(⟨#[39,39]⟩:ByteArray).data.toList= [39,39]from rfl,EI,ay HLT.out]at CP;have hbb:AE s a2=39:=by rw[Iz.out];exact hb39
    by_cases hq:AE s (a+3)=39
    ·rw[show decide (AE s a2=39/\AE s (a2+1)=39)=true from AN ⟨hbb,by rw[Iz.out];exact hq⟩]at CP;have C42:=Hi CP;have HF:Hid (R=some (.ok 4 ⟨#[]⟩ ⟨(Ca 10 v).toArray⟩ 0 a (a+4))):=Hi (by rw[HR.out,c39];exact bS h48.out (by have:=HLT.out;have:=Iz.out;omega) hb39 hq);obtain⟨e4,he4⟩:∃e4,e4=a+4:=⟨_,rfl⟩;rw[<-he4]at HF;have ee4:(a2:Int)+2=e4:=by have:=Iz.out;omega
     have t3:((v:Int)==65533)=false:=AA (by omega);clear CP hq hb39 hbb c39 he4
     go_wp2_with (first|(go_at_call 68;(with_reducible refine(C42.out _).mono ?_);rintro e w' ⟨rfl,rfl⟩)|(go_at_call 55;(with_reducible refine(Tryz.itoa v _ (by omega) Q3.out.ld).mono ?_)))
     rintro e W5 ⟨rfl,b5⟩;have Q5:Hid (QW w b s a 4 te pe W5):=Hi (Q3.out.call hb (b5.mono Q3.out.sz));clear b5;obtain⟨x00,x01,x02,x03,x04,x05,x06⟩:=Q5.out.t0.cs;obtain⟨y00,y01,y02,y03,y04,y05,y06⟩:=Q5.out.t0.fs;obtain⟨x10,x11,x12,x13,x14,x15,x16⟩:=Q5.out.t1.cs;obtain⟨y10,y11,y12,y13,y14,y15,y16⟩:=Q5.out.t1.fs
     go_wp2_with fail
     refine AI (v:= .tuple #[AK 4 ⟨#[]⟩ ⟨(Ca 10 v).toArray⟩ 0 a e4 false,.int .i64 0,.int .i64 0,.bool true]) ?_ rfl (BN.ok HF.out (AJ (Ez Q5.out.Ad (Nat.le_succ _) _ _) (nR _) _ _ _ _ _ _ _));simp only[results,Tryz.results113];go_simp
     try rfl
    ·rw[show decide (AE s a2=39/\AE s (a2+1)=39)=false from AS (fun h=>hq (by have h2:=h.2;rw[Iz.out]at h2;exact h2))]at CP;have C42:=Hi CP;have HF:Hid (R=none):=Hi (by rw[HR.out];exact aI h48.out (by have:=HLT.out;have:=Iz.out;omega) hb39 hq);clear CP hq hb39 hbb c39;obtain⟨x00,x01,x02,x03,x04,x05,x06⟩:=Q3.out.t0.cs;obtain⟨y00,y01,y02,y03,y04,y05,y06⟩:=Q3.out.t0.fs;obtain⟨x10,x11,x12,x13,x14,x15,x16⟩:=Q3.out.t1.cs;obtain⟨y10,y11,y12,y13,y14,y15,y16⟩:=Q3.out.t1.fs
     go_wp2_with (go_at_call 68;(with_reducible refine(C42.out _).mono ?_);rintro e w' ⟨rfl,rfl⟩)
     refine AI (v:= .tuple #[AK 4 ⟨#[]⟩ ⟨#[]⟩ 0 a 0 false,.int .i64 0,.int .i64 0,.bool false]) ?_ rfl (BN.no HF.out (AJ (Q3.out.Ad) (nR _) _ _ _ _ _ _ _));simp only[results,Tryz.results113];go_simp
     try rfl
   have t2:((v:Int)==39)=false:=AA (by omega);have f4:((v:Int)==65533)=false\/(((v:Int)==65533)=true/\((n:Int)==1)=false):=by
    by_cases h:v=65533
    ·refine .inr ⟨by rw[h];rfl,AA ?_⟩;have h1:=HCV.out;unfold B8 cont at h1;omega
    ·exact .inl (AA (by omega))
   by_cases c92:v=92
   ·have t3:((v:Int)==65533)=false:=AA (by omega);have t4:((v:Int)==92)=true:=beq_of_eq (by omega);have hb92:AE s (a+2)=92:=by have:=(KH HCV.out (by omega)).1;rw[Iz.out]at this;omega
    obtain⟨a3,ha3⟩:∃a3,a3=a2+1:=⟨_,rfl⟩;have ea3:(a2:Int)+1=a3:=by omega
    have CE0:∀W,W.cell? ⟨8,0,none⟩=some (.iface te pe)->Calls Tryz.prog 120 #[.string s,.int .i64 a3] W (BK (Dp s a2) W):=fun W hW=>Sj s a2 a3 W hs (Hi ha3) (by omega) te pe (Hi hW);have E6:=Hi Q3.out.e6;cases hes:Dp s a2 with
    |none=>
     rw[hes]at CE0;have CE:Hid (∀W,W.cell? ⟨8,0,none⟩=some (.iface te pe)->Calls Tryz.prog 120 #[.string s,.int .i64 a3] W fun e w'=>e= .returned (.tuple #[.int .i32 0,.int .i64 0,.bool false])/\Below W.heap.size W w'):=Hi CE0;have HF:Hid (R=some (.err a2 32)):=Hi (by rw[HR.out,Iz.out];exact bC h48.out (by have:=HLT.out;have:=Iz.out;omega) hb92 (by rw[<-Iz.out];exact hes));clear CE0 hes hb92 c92 ha3 f4
     go_wp2_with (go_at_call 120;(with_reducible refine(CE.out _ E6.out).mono ?_))
     rintro e' W4 ⟨rfl,b4⟩;have Q4:Hid (QW w b s a 4 te pe W4):=Hi (Q3.out.call hb (b4.mono Q3.out.sz));clear b4 cc0 cc1;have cd0:=Q4.out.st.c0;have cd1:=Q4.out.st.c1;obtain⟨x00,x01,x02,x03,x04,x05,x06⟩:=Q4.out.t0.cs;obtain⟨y00,y01,y02,y03,y04,y05,y06⟩:=Q4.out.t0.fs;obtain⟨x10,x11,x12,x13,x14,x15,x16⟩:=Q4.out.t1.cs;obtain⟨y10,y11,y12,y13,y14,y15,y16⟩:=Q4.out.t1.fs
     go_wp2_with fail
     refine AI (v:= .tuple #[AK 4 ⟨#[]⟩ ⟨#[]⟩ 0 a 0 false,.int .i64 a2,.int .i64 32,.bool true]) ?_ rfl (BN.er HF.out (AJ (Q4.out.Ad) (nR _) _ _ _ _ _ _ _));simp only[results,Tryz.results113];go_simp
     try rfl
    |some xt=>
     obtain⟨x,t⟩:=xt;rw[hes]at CE0;have CE:Hid (∀W,W.cell? ⟨8,0,none⟩=some (.iface te pe)->Calls Tryz.prog 120 #[.string s,.int .i64 a3] W fun e w'=>e= .returned (.tuple #[.int .i32 x,.int .i64 t,.bool true])/\Below W.heap.size W w'):=Hi CE0;have HF:Hid (R=some (.ok 4 ⟨#[]⟩ ⟨(Ca 10 x).toArray⟩ 0 a t)):=Hi (by rw[HR.out];exact aT h48.out (by have:=HLT.out;have:=Iz.out;omega) hb92 (by rw[<-Iz.out];exact hes));have g1:=Gp hes;have hx:=g1.2.2;unfold AR at hx;have x11:x<=1114111:=by omega
     have ts:t<=s.size:=g1.2.1;obtain⟨m,hm⟩:∃m,m=t-a2:=⟨_,rfl⟩;have em:(t:Int)-a2=m:=by have:=g1.1;omega
     have em2:(a2:Int)+m=t:=by omega
     have mb:m<=100000000:=by omega
     clear CE0 hes hb92 c92 ha3 f4 g1 hx hm
     go_wp2_with (go_at_call 120;(with_reducible refine(CE.out _ E6.out).mono ?_))
     rintro e' W4 ⟨rfl,b4⟩;have Q4:Hid (QW w b s a 4 te pe W4):=Hi (Q3.out.call hb (b4.mono Q3.out.sz));clear b4 cc0 cc1;have cd0:=Q4.out.st.c0;have cd1:=Q4.out.st.c1
     go_wp2_with (go_at_call 55;(with_reducible refine(Tryz.itoa x _ (by omega) Q4.out.ld).mono ?_))
     rintro e W5 ⟨rfl,b5⟩;have Q5:Hid (QW w b s a 4 te pe W5):=Hi (Q4.out.call hb (b5.mono Q4.out.sz));clear b5;obtain⟨x00,x01,x02,x03,x04,x05,x06⟩:=Q5.out.t0.cs;obtain⟨y00,y01,y02,y03,y04,y05,y06⟩:=Q5.out.t0.fs;obtain⟨x10,x11,x12,x13,x14,x15,x16⟩:=Q5.out.t1.cs;obtain⟨y10,y11,y12,y13,y14,y15,y16⟩:=Q5.out.t1.fs
     go_wp2_with fail
     refine AI (v:= .tuple #[AK 4 ⟨#[]⟩ ⟨(Ca 10 x).toArray⟩ 0 a t false,.int .i64 0,.int .i64 0,.bool true]) ?_ rfl (BN.ok HF.out (AJ (Ez Q5.out.Ad (Nat.le_succ _) _ _) (nR _) _ _ _ _ _ _ _));simp only[results,Tryz.results113];go_simp
     try rfl
   have t4:((v:Int)==92)=false:=AA (by omega);have HF:Hid (R=some (.ok 4 ⟨#[]⟩ ⟨(Ca 10 v).toArray⟩ 0 a en)):=Hi (by rw[HR.out,HEN.out,Iz.out];exact aw h48.out (by have:=HLT.out;have:=Iz.out;omega) (by rw[<-Iz.out];exact HCV.out) c10 c39 c92);clear c10 c39 c92;rcases f4 with t3|⟨t3,t5⟩
   ·go_wp2_with (go_at_call 55;(with_reducible refine(Tryz.itoa v _ (by omega) Q3.out.ld).mono ?_))
    rintro e W5 ⟨rfl,b5⟩;have Q5:Hid (QW w b s a 4 te pe W5):=Hi (Q3.out.call hb (b5.mono Q3.out.sz));clear b5;obtain⟨x00,x01,x02,x03,x04,x05,x06⟩:=Q5.out.t0.cs;obtain⟨y00,y01,y02,y03,y04,y05,y06⟩:=Q5.out.t0.fs;obtain⟨x10,x11,x12,x13,x14,x15,x16⟩:=Q5.out.t1.cs;obtain⟨y10,y11,y12,y13,y14,y15,y16⟩:=Q5.out.t1.fs
    go_wp2_with fail
    refine AI (v:= .tuple #[AK 4 ⟨#[]⟩ ⟨(Ca 10 v).toArray⟩ 0 a en false,.int .i64 0,.int .i64 0,.bool true]) ?_ rfl (BN.ok HF.out (AJ (Ez Q5.out.Ad (Nat.le_succ _) _ _) (nR _) _ _ _ _ _ _ _));simp only[results,Tryz.results113];go_simp
    try rfl
   ·go_wp2_with (go_at_call 55;(with_reducible refine(Tryz.itoa v _ (by omega) Q3.out.ld).mono ?_))
    rintro e W5 ⟨rfl,b5⟩;have Q5:Hid (QW w b s a 4 te pe W5):=Hi (Q3.out.call hb (b5.mono Q3.out.sz));clear b5;obtain⟨x00,x01,x02,x03,x04,x05,x06⟩:=Q5.out.t0.cs;obtain⟨y00,y01,y02,y03,y04,y05,y06⟩:=Q5.out.t0.fs;obtain⟨x10,x11,x12,x13,x14,x15,x16⟩:=Q5.out.t1.cs;obtain⟨y10,y11,y12,y13,y14,y15,y16⟩:=Q5.out.t1.fs
    go_wp2_with fail
    refine AI (v:= .tuple #[AK 4 ⟨#[]⟩ ⟨(Ca 10 v).toArray⟩ 0 a en false,.int .i64 0,.int .i64 0,.bool true]) ?_ rfl (BN.ok HF.out (AJ (Ez Q5.out.Ad (Nat.le_succ _) _ _) (nR _) _ _ _ _ _ _ _));simp only[results,Tryz.results113];go_simp
    try rfl
  ·have HF:Hid (R=some (.err a2 30)):=Hi (by rw[HR.out,Iz.out];exact Z6 h48.out (by have:=Iz.out;omega) (by rw[<-Iz.out];exact hno));clear hno;have C68:Hid (∀W,Aj W->Calls Tryz.prog 60 #[.string u] W fun e w'=>e= .returned (.tuple #[.int .i32 65533,.int .i64 1])/\Below W.heap.size W w'):=Hi (fun W hW=>(Tryz.utf8_DecodeRuneInString u W hW.utf8).mono fun e w' ⟨h1,h2⟩=>⟨by rw[h1,hb0,hd];try rfl,h2⟩);clear hb0 hd;have HLT:=Hi hlt;go_enter Tryz.func113,Tryz.ntmps113
   go_wp2_with fail
   rw[<-HU.out];generalize hW2:(w.alloc _).alloc _=W2;have Q2:Hid (QW w b s a 4 te pe W2):=Hi (HTK.out W2 hW2.symm);clear hW2;have cb0:=Q2.out.st.c0;have cb1:=Q2.out.st.c1
   go_wp2_with (go_at_call 60;(with_reducible refine(C68.out _ Q2.out.ld).mono ?_))
   rintro e W3 ⟨rfl,b3⟩;have Q3:Hid (QW w b s a 4 te pe W3):=Hi (Q2.out.call hb (b3.mono Q2.out.sz));clear b3 cb0 cb1;have cc0:=Q3.out.st.c0;have cc1:=Q3.out.st.c1;obtain⟨x00,x01,x02,x03,x04,x05,x06⟩:=Q3.out.t0.cs;obtain⟨y00,y01,y02,y03,y04,y05,y06⟩:=Q3.out.t0.fs;obtain⟨x10,x11,x12,x13,x14,x15,x16⟩:=Q3.out.t1.cs;obtain⟨y10,y11,y12,y13,y14,y15,y16⟩:=Q3.out.t1.fs
   go_wp2_with fail
   refine AI (v:= .tuple #[AK 4 ⟨#[]⟩ ⟨#[]⟩ 0 a 0 false,.int .i64 a2,.int .i64 30,.bool true]) ?_ rfl (BN.er HF.out (AJ (Q3.out.Ad) (nR _) _ _ _ _ _ _ _));simp only[results,Tryz.results113];go_simp
   try rfl
 ·have li:(s.size:Int)<=(a2:Int):=by omega
  have HF:Hid (R=none):=Hi (by rw[HR.out];exact Yy h48.out (by have:=Iz.out;omega));go_enter Tryz.func113,Tryz.ntmps113;go_wp2;refine AI (v:= .tuple #[AK 4 ⟨#[]⟩ ⟨#[]⟩ 0 a 0 false,.int .i64 0,.int .i64 0,.bool false]) ?_ rfl (BN.no HF.out ?_)
  ·simp only[results,Tryz.results113];go_simp
   try rfl
  ·exact((AH _ _).alloc (nR _) _).alloc (by simp) _
end Go.Proofs
