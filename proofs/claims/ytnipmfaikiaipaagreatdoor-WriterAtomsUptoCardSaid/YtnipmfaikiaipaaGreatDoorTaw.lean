import Derived.Test.YtnipmfaikiaipaaGreatDoorTav
set_option linter.unusedSimpArgs false
set_option maxRecDepth 1000000
set_option maxHeartbeats 40000000
namespace Go.Lx
open Go.Hb Go.Rb Go.Bg Go.Pf
section
variable {s:ByteArray} {a q p:Nat} {out:List UInt8}
theorem Rp (h:s.size<=p):Br s a q p out= .err a 31:=Ey (by unfold Ei;rw[if_pos h]) (fun _=>rfl)
theorem Su (h:p<s.size) (hc:Et s p=none):Br s a q p out= .err p 30:=Ey (by unfold Ei;rw[if_neg (by omega),hc]) (fun h2=>by omega)
theorem WN {v n:Nat}(_h:p<s.size) (hc:Et s p=some (v,n)) (hv:v=10):Br s a q p out= .err a 31:=
 Ey (by unfold Ei;rw[if_neg (by omega),hc];simp only;rw[if_pos hv]) (fun _=>rfl)
theorem SI {v n:Nat}(_h:p<s.size) (hc:Et s p=some (v,n)) (h10:v≠10) (hv:v=q) (hd:AE s (p+1)=q/\p+1<s.size):Br s a q p out=Br s a q (p+2) (out++ [q.toUInt8]):=
 Gb (by unfold Ei;rw[if_neg (by omega),hc];simp only;rw[if_neg h10,if_pos hv,if_pos hd])
theorem PD {v n:Nat}(h:p<s.size) (hc:Et s p=some (v,n)) (h10:v≠10) (hv:v=q) (hd:¬(AE s (p+1)=q/\p+1<s.size)) (hl:q=39/\1000<out.length):Br s a q p out= .err a 35:=
 Ey (by unfold Ei;rw[if_neg (by omega),hc];simp only;rw[if_neg h10,if_pos hv,if_neg hd,if_pos hl]) (fun _=>by omega)
theorem Sv {v n:Nat}(h:p<s.size) (hc:Et s p=some (v,n)) (h10:v≠10) (hv:v=q) (hd:¬(AE s (p+1)=q/\p+1<s.size)) (hl:¬(q=39/\1000<out.length)):Br s a q p out= .ok (XE q) ⟨out.toArray⟩ ⟨#[]⟩ 0 a (p+1):=
 Ey (by unfold Ei;rw[if_neg (by omega),hc];simp only;rw[if_neg h10,if_pos hv,if_neg hd,if_neg hl]) (fun _=>by omega)
theorem On {v n:Nat}(_h:p<s.size) (hc:Et s p=some (v,n)) (hq:v≠q) (hv:v=92) (hd:AE s (p+1)=10):Br s a q p out=Br s a q (p+2) out:=
 Gb (by unfold Ei;rw[if_neg (by omega),hc];simp only;rw[if_neg (by omega),if_neg hq,if_pos hv,if_pos hd])
theorem WQ {v n:Nat}(h:p<s.size) (hc:Et s p=some (v,n)) (hq:v≠q) (hv:v=92) (hd:AE s (p+1)≠10) (he:Dp s p=none):Br s a q p out= .err p 32:=
 Ey (by unfold Ei;rw[if_neg (by omega),hc];simp only;rw[if_neg (by omega),if_neg hq,if_pos hv,if_neg hd,he]) (fun _=>by omega)
theorem Ss {v n x t:Nat}(_h:p<s.size) (hc:Et s p=some (v,n)) (hq:v≠q) (hv:v=92) (hd:AE s (p+1)≠10) (he:Dp s p=some (x,t)):Br s a q p out=Br s a q t (out++Lib.encodeRune x):=
 Gb (by unfold Ei;rw[if_neg (by omega),hc];simp only;rw[if_neg (by omega),if_neg hq,if_pos hv,if_neg hd,he])
theorem Nn {v n:Nat}(_h:p<s.size) (hc:Et s p=some (v,n)) (h10:v≠10) (hq:v≠q) (hv:v≠92):Br s a q p out=Br s a q (p+n) (out++Lib.encodeRune v):=
 Gb (by unfold Ei;rw[if_neg (by omega),hc];simp only;rw[if_neg h10,if_neg hq,if_neg hv])
end
theorem Ru {v:Nat}(h:v<128):(Lib.encodeRune v).length=1:=by
 have hz:Lib.encodeRuneZ (v:Int)= [(v:Int)]:=Lib.encodeRuneZ_one (by omega) (by omega);rw[Ar,hz];rfl
theorem Nl {r:Nat} {s:ByteArray} {f:Nat} :∀k,(∀j,j<k->CK (AE s (f+j)).toNat<r)->At r s f k<r^k
 |0,_=>by simp[At]
 |k+1,h=>by
  have h1:=Nl (r:=r) (s:=s) (f:=f) k (fun j hj=>h j (by omega));have h2:=h k (by omega);rw[At,gj];have:(At r s f k+1)*r<=r^k*r:=FF _ h1;rw[UP,Nat.one_mul]at this;omega
theorem O4 {s:ByteArray} {p v t:Nat}(h:Dp s p=some (v,t)):p+(Lib.encodeRune v).length<=t:=by
 have h0:=Gp h;have hl:=KT v;have hD:∀{r:Nat} {pr:Nat->Bool} {f:Nat},p+1<=f->(∀c,pr c=true->Ah c=true)->r<=16->(∀c,pr c=true->CK c<r)->GR r pr s f=some (v,t)->p+(Lib.encodeRune v).length<=t:=by
  intro r pr f hpf hpr hr hdg hd;unfold GR at hd;split at hd
  ·cases hd
  ·rename_i hn;split at hd
   ·have hge:=Ae pr s f;have h4:AF pr s f≠f:=fun h=>hn (.inl h);simp only[Option.some.injEq,Prod.mk.injEq]at hd;obtain⟨h1,h2⟩:=hd;by_cases hk:AF pr s f=f+1
    ·have hs:f<s.size:=by
      rcases BY f s.size with h5|h5
      ·exact h5
      ·exact absurd (Ac h5) h4
     have hx:=Bv (p:=pr) (s:=s) (a:=f) f hs (nR _) (by omega);have hv:At r s f 1<r^1:=Nl 1 (fun j hj=>by
      obtain rfl:j=0:=by omega
      rw[gZ,AO s f hs,IT];exact hdg _ hx)
     rw[hk,show f+1-f=1 by omega]at h1;rw[h1,Nat.pow_one]at hv;have:=Ru (v:=v) (by omega);omega
    ·omega
   ·cases hd
 unfold Dp at h;split at h
 ·rename_i x hx;split at hx
  ·simp only[Option.some.injEq,Prod.mk.injEq]at h;have h5:v<128:=by
    rw[<-h.1];unfold He at hx
    repeat' split at hx
    all_goals first|(simp only[Option.some.injEq]at hx;omega)|cases hx
   have:=Ru h5;omega
  ·cases hx
 ·split at h
  ·exact hD (by omega) (fun _ h=>h) (by omega) (fun c hc=>by have:=Go.Proofs.KJ hc;omega) h
  ·exact hD (by omega) (fun _ h=>Go.Proofs.O9 h) (by omega) (fun c hc=>by
    simp[A6]at hc;unfold CK;rw[if_pos (by omega)];omega) h
theorem Iw {s:ByteArray} {p v n:Nat}(h:B8 s p v n):(Lib.encodeRune v).length=n:=by
 have h0:=h.pos.2;unfold B8 at h;have hr:=LI h0;have h2:(Lib.encodeRune v).length=if v<128 then 1 else if v<2048 then 2 else if v<65536 then 3 else 4:=by
  rcases h0.cases with c|c|c|c
  ·rw[Ar,Lib.encodeRuneZ_one c.1 c.2,if_pos (by omega)];rfl
  ·rw[Ar,Lib.encodeRuneZ_two c.1 c.2,if_neg (by omega),if_pos (by omega)];rfl
  ·rw[Ar,Lib.encodeRuneZ_three c,if_neg (by omega),if_neg (by omega),if_pos (by omega)];rfl
  ·rw[Ar,Lib.encodeRuneZ_four c.1 c.2,if_neg (by omega),if_neg (by omega),if_neg (by omega)];rfl
 rw[h2];unfold cont at h;have:=DF s p;split
 ·omega
 ·split
  ·omega
  ·split<;>omega
end Go.Lx
namespace Go.Proofs
open Go.RowKit Go.Pf Go.Lx Go.Hb Go.Rb Go.Bg
theorem Wb {w w':World} {B:Nat} {v:Value} {n:Nat} {xs:List Value}(h:w.ownsRow B 5 1 v n xs) (hb:Below w.heap.size w w'):w'.ownsRow B 5 1 v n xs:=
 h.kept (row:=none) ⟨hb.os,hb.tape,hb.output,hb.size,fun j hj _=>hb.block j hj⟩ (by cases hv:v.ownBlock<;>simp)
theorem AX.er {R:TR} {w w':World} {p n:Nat}(h:R= .err p n) (hb:Below w.heap.size w w'):AX R w (.returned (.tuple #[As p,.int .i64 n])) w':=by subst h;exact⟨rfl,hb⟩
theorem AX.ok {R:TR} {w w':World} {k bits a E:Nat} {tx nu:ByteArray}(h:R= .ok k tx nu bits a E) (hb:Below w.heap.size w w'):AX R w (.returned (.tuple #[AK k tx nu bits a E false,.int .i64 0])) w':=by subst h;exact⟨rfl,hb⟩
theorem Tf {w:World} {B n tc:Nat} {ta:Option Addr} {l:List UInt8}(h:w.ownsRow B 5 1 (.slice ta n tc) n (Lib.byteCells l)):
 (convert 104 9 (.slice ta n tc)).run Tryz.prog w= .ok (.string ⟨l.toArray⟩) w:=by
 rcases dT n with h0|h0
 ·have hl:l.length=0:=by have:=h.1;rw[Lib.byteCells_length]at this;omega
  obtain rfl:l= []:=List.eq_nil_of_length_eq_zero hl;subst h0;rcases h.2 with⟨h1,h2⟩|⟨g,cap,cur,h1,h2,h3,h4,h5,h6,h7⟩
  ·simp only[Value.slice.injEq]at h1;obtain⟨rfl,_,rfl⟩:=h1;show _=_;kernel_rfl
  ·simp only[Value.slice.injEq]at h1;obtain⟨rfl,_,rfl⟩:=h1;rw[run_convert_bytes_arg w 104 5 Tryz.underlying104 Tryz.underlying5 g 0 0 tc [] rfl (fun i hi=>by omega) 9 Tryz.underlying9];rfl
 ·obtain⟨t,ht,hc⟩:=OW h h0;rw[hc];congr 2;apply ByteArray.ext;apply Array.toList_inj.1;rw[ht]
theorem Za (s:ByteArray) (a:Nat) (w:World) (hs:s.size<=140737488355000) (ha:a<s.size) (hq:AE s a=39\/AE s a=34\/AE s a=96):
 Calls Tryz.prog 159 #[.string s,.int .i64 a] w (AX (Br s a (AE s a).toNat (a+1) []) w):=by
 obtain⟨i0,hi,hz0,hz1,hz2⟩:=info_parts RA;obtain⟨q,hqq⟩:∃q,q=(AE s a).toNat:=⟨_,rfl⟩;have eq6:s[a].toNat=q:=by rw[hqq,AO s a ha,IT]
 have hq3:q=39\/q=34\/q=96:=by omega
 rw[<-hqq];obtain⟨R,hR⟩:∃R,R=Br s a q (a+1) []:=⟨_,rfl⟩;rw[<-hR];have HR:=Hi hR;have HQ:=Hi hq3;obtain⟨K,hK⟩:∃K,K=XE q:=⟨_,rfl⟩;have HK0:=Hi hK;have q96:q<=96:=by omega
 clear hR hqq hq hq3 hK;go_enter Tryz.func159,Tryz.ntmps159
 go_upto_if 20 with fail
 generalize hW:w.alloc _=W1;have bl:Below w.heap.size w W1:=by subst hW;exact(AH _ _).alloc (nR _) _
 have hk:A8 W1 w.heap.size:=by subst hW;exact A8.new w
 clear hW eq6;have BL:=Hi bl;have HK1:=Hi hk;clear bl hk
 go_cut [7] (fun v wx=>W1=wx/\v= .int .i64 (if q=34 then 6 else 2:Nat))
 case first=>
  rcases HQ.out with rfl|rfl|rfl
  ·have t:(((39:Nat):Int)==34)=false:=rfl;go_wp2;go_meet;exact⟨rfl,rfl⟩
  ·have t:(((34:Nat):Int)==34)=true:=rfl;go_wp2;go_meet;exact⟨rfl,rfl⟩
  ·have t:(((96:Nat):Int)==34)=false:=rfl;go_wp2;go_meet;exact⟨rfl,rfl⟩
 case rest=>
 obtain⟨rfl,rfl⟩:=hcut
 go_upto_if 22 with fail
 go_cut [7] (fun v wx=>W1=wx/\v= .int .i64 K)
 case first=>
  rcases HQ.out with rfl|rfl|rfl
  ·have t:(((39:Nat):Int)==96)=false:=rfl;go_wp2;go_meet;exact⟨rfl,by rw[HK0.out];rfl⟩
  ·have t:(((34:Nat):Int)==96)=false:=rfl;go_wp2;go_meet;exact⟨rfl,by rw[HK0.out];rfl⟩
  ·have t:(((96:Nat):Int)==96)=true:=rfl;go_wp2;go_meet;exact⟨rfl,by rw[HK0.out];rfl⟩
 case rest=>
 obtain⟨rfl,rfl⟩:=hcut;obtain⟨B1,hB1⟩:∃B1,B1=W1.heap.size:=⟨_,rfl⟩;have hwB:w.heap.size<B1:=by rw[hB1];exact HK1.out.lt
 have HB1:=Hi hB1;clear hB1;go_wp2
 go_loopw [8,9,10,11,12,13,14,15] (fun out i _ _ _ _ _ _ wr=>∃(p:Nat) (acc:List UInt8),i= .int .i64 p/\p<=s.size/\acc.length<=p/\wr.ownsRow B1 5 1 out acc.length (Lib.byteCells acc)/\Below B1 W1 wr/\B1<=wr.heap.size/\R=Br s a q p acc) (fun _ i _ _ _ _ _ _ _=>s.size-(intOf i).toNat)
 case atStart=>exact⟨a+1,[],by go_num,by omega,by simp,World.ownsRow_nil _ _ _ _,AH _ _,by rw[HB1.out];exact nR _,HR.out⟩
 case round=>
  obtain⟨p,acc,rfl,hps,hal,hown,hbw,hsw,hinv⟩:=hrel;obtain⟨oa,oc,ho⟩:=Dz hown;subst ho;have HBL:Hid (Below w.heap.size w wr):=Hi (BL.out.trans (hbw.mono (by omega)));have HK:Hid (A8 wr w.heap.size):=Hi (HK1.out.below (by rw[<-HB1.out];exact hbw));by_cases hlt:p<s.size
  ·obtain⟨c,hc⟩:∃c,c=s[p].toNat:=⟨_,rfl⟩;have e12:s[p].toNat=c:=hc.symm;have hbp:AE s p=(c:Int):=by rw[AO s p hlt,hc]
   obtain⟨d,hd⟩:∃d,d=AE s (p+1):=⟨_,rfl⟩;have CD:Hid (∀w,Calls Tryz.prog 64 #[.string s,.int .i64 ((p:Int)+1)] w fun e w'=>e= .returned (.int .u8 d)/\w=w'):=Hi (fun w=>by rw[hd];exact E8 s (p+1) w);have CC0:∀w,Calls Tryz.prog 29 #[.string s,.int .i64 p] w fun e w'=>e= .returned (.tuple #[.int .i64 (cO s p).1,.int .i64 (cO s p).2])/\w=w':=fun w=>Zt s p w (by omega);unfold cO at CC0;have HD:=Hi hd;rcases FH s p with⟨v,n,hcv,hcd⟩|⟨hno,hcd⟩
   ·rw[hcd]at CC0;have CC:Hid (∀w,Calls Tryz.prog 29 #[.string s,.int .i64 p] w fun e w'=>e= .returned (.tuple #[.int .i64 v,.int .i64 n])/\w=w'):=Hi CC0;have h1:=hcv.size;have h2:=hcv.last;have hok:=hcv.pos.2;have hlen:=Iw hcv;have hvc:(v=c/\n=1)\/(128<=c/\128<=v):=by
     by_cases h:c<128
     ·have:=hcv.unique (FV hlt (by omega));omega
     ·right;unfold B8 at hcv;omega
    have n0:((n:Int)==0)=false:=AA (by omega);have hc255:c<=255:=by have:=C6 s p;omega
    have HINV:=Hi hinv;have HCD:=Hi hcd;have HV:=Hi hvc;clear hcv CC0 hinv hcd hvc hc hbp hd h1;by_cases c10:c=10
    ·have t1:((c:Int)==10)=true:=beq_of_eq (by omega);have HF:Hid (R= .err a 31):=Hi (by rw[HINV.out];exact WN hlt HCD.out (by have:=HV.out;omega));clear hok hlen c10 hbw hown
     go_wp2_with (first
      | (go_at_call 29;(with_reducible refine(CC.out _).mono ?_);rintro e w' ⟨rfl,rfl⟩)
      | (go_at_call 64;(with_reducible refine(CD.out _).mono ?_);rintro e w' ⟨rfl,rfl⟩))
     refine(Ew a 31 _).mono ?_;rintro e W4 ⟨rfl,b4⟩;unfold As AK;have hk4:=HK.out.below b4;obtain⟨k0,k1,k2,k3,k4,k5,k6⟩:=hk4.cs;obtain⟨f0,f1,f2,f3,f4,f5,f6⟩:=hk4.fs;have HB:=Hi (HBL.out.trans (b4.mono HBL.out.size));clear b4 hk4;go_wp2;refine AI (v:= .tuple #[As a,.int .i64 31]) ?_ rfl (AX.er HF.out ?_)
     ·simp only[results,Tryz.results159];go_simp;rfl
     ·iterate 7 refine By ?_ (by first|omega|(simp only;omega)) _
      exact HB.out
    have t1:((c:Int)==10)=false:=AA (by omega);by_cases cq:c=q
    ·have t2:((c:Int)==(q:Int))=true:=beq_of_eq (by omega);have hv10:v≠10:=by have:=HV.out;omega
     have hvq:v=q:=by have:=HV.out;omega
     by_cases hdd:d=q/\p+1<s.size
     ·have t3:(d==(q:Int))=true:=beq_of_eq hdd.1;have t4:(p:Int)+1<s.size:=by omega
      have hp2:p+2<=s.size:=by omega
      have HF:Hid (R=Br s a q (p+2) (acc++ [q.toUInt8])):=Hi (by rw[HINV.out];exact SI hlt HCD.out hv10 hvq ⟨by rw[<-HD.out];exact hdd.1,hdd.2⟩);have hoa:=fun b hb=>(hown.lt b hb).1;have HOA:=Hi hoa;clear hok hlen c10 cq hv10 hvq hdd hoa
      go_wp2_with (first
       | (go_at_call 29;(with_reducible refine(CC.out _).mono ?_);rintro e w' ⟨rfl,rfl⟩)
       | (go_at_call 64;(with_reducible refine(CD.out _).mono ?_);rintro e w' ⟨rfl,rfl⟩)
       | (at_builtin;refine wpList_append_own _ rfl _ _ 104 rfl B1 5 i0 (.int .u8 0) 1 1 Tryz.underlying104 hi hz0 hz1 hz2 rfl (by decide) _ _ _ rfl (hown.alloc _) ⟨wr.heap.size,0,none⟩ 1 1 [.int .u8 (q:Nat)] rfl rfl ?c1 ?c2 ?c3 ?c4 ?c5 ?_))
      case c1=>
       intro j u hj
       match j,hj with
       |0,hj=>simp at hj;subst hj;simp[Addr.add]
      case c2=>intro u hu;simp at hu;subst hu;rfl
      case c3=>unfold maxLen;omega
      case c4=>omega
      case c5=>simp;omega
      intro v' w3 hown' hgrow _;have hb3:=(hbw.alloc hsw (.cells #[.int .u8 (q:Nat)] 5)).grown hgrow (by simp;omega) (fun b hb=>HOA.out b hb);have hs3:B1<=w3.heap.size:=by have:=hgrow.size;simp at this;omega
      have hcell:Lib.byteCells (acc++ [q.toUInt8])=Lib.byteCells acc++ [.int .u8 (q:Nat)]:=by
       have:q.toUInt8.toNat=q:=aQ q (by omega);simp[Lib.byteCells,this]
      have HO:=Hi (show w3.ownsRow B1 5 1 v' (acc++ [q.toUInt8]).length (Lib.byteCells (acc++ [q.toUInt8])) by rw[eR,hcell];exact hown');have HB3:=Hi hb3;have HL2:Hid ((acc++ [q.toUInt8]).length<=p+2):=Hi (by rw[eR,List.length_singleton];omega);clear hown' hgrow hb3 hown hbw hcell;go_wp2;go_roundw
      case rel=>exact⟨p+2,acc++ [q.toUInt8],by go_num,by omega,HL2.out,HO.out,HB3.out,hs3,HF.out⟩
      case measure=>simp[intOf];omega
     ·have q2:((d==(q:Int))=false)\/((d==(q:Int))=true/\¬(p:Int)+1<s.size):=by
       by_cases h:d=q
       ·exact .inr ⟨beq_of_eq h,fun h2=>hdd ⟨h,by omega⟩⟩
       ·exact .inl (AA h)
      have hdd2:¬(AE s (p+1)=q/\p+1<s.size):=by rw[<-HD.out];exact hdd
      by_cases hlong:q=39/\1000<acc.length
      ·have HF:Hid (R= .err a 35):=Hi (by rw[HINV.out];exact PD hlt HCD.out hv10 hvq hdd2 hlong);have k2:((K:Int)==2)=true:=by rw[HK0.out,hlong.1];rfl
       have k3:decide (1000<acc.length)=true:=AN hlong.2;have k4:(1000:Int)<acc.length:=by omega
       clear hok hlen c10 cq hv10 hvq hdd hdd2 hlong hbw hown;rcases q2 with q3|⟨q3,q4⟩
       all_goals
        go_wp2_with (first
         | (go_at_call 29;(with_reducible refine(CC.out _).mono ?_);rintro e w' ⟨rfl,rfl⟩)
         | (go_at_call 64;(with_reducible refine(CD.out _).mono ?_);rintro e w' ⟨rfl,rfl⟩))
        refine(Ew a 35 _).mono ?_;rintro e W4 ⟨rfl,b4⟩;unfold As AK;have hk4:=HK.out.below b4;obtain⟨k0,k1,k2,k3,k4,k5,k6⟩:=hk4.cs;obtain⟨f0,f1,f2,f3,f4,f5,f6⟩:=hk4.fs;have HB:=Hi (HBL.out.trans (b4.mono HBL.out.size));clear b4 hk4;go_wp2;refine AI (v:= .tuple #[As a,.int .i64 35]) ?_ rfl (AX.er HF.out ?_)
        ·simp only[results,Tryz.results159];go_simp;rfl
        ·iterate 7 refine By ?_ (by first|omega|(simp only;omega)) _
         exact HB.out
      ·have HF:Hid (R= .ok K ⟨acc.toArray⟩ ⟨#[]⟩ 0 a (p+1)):=Hi (by rw[HINV.out,HK0.out];exact Sv hlt HCD.out hv10 hvq hdd2 hlong);have k2:((K:Int)==2)=false\/(((K:Int)==2)=true/\¬(1000:Int)<acc.length):=by
        rcases HQ.out with rfl|rfl|rfl
        ·right;exact⟨by rw[HK0.out];rfl,fun h=>hlong ⟨rfl,by omega⟩⟩
        ·left;rw[HK0.out];rfl
        ·left;rw[HK0.out];rfl
       have hcv:=Tf hown;obtain⟨E,hE⟩:∃E,E=p+1:=⟨_,rfl⟩;have ee:(p:Int)+1=E:=by omega
       rw[<-hE]at HF;clear hok hlen c10 cq hv10 hvq hdd hdd2 hlong hbw hE hown;obtain⟨k0',k1',k2',k3',k4',k5',k6'⟩:=HK.out.cs;obtain⟨f0,f1,f2,f3,f4,f5,f6⟩:=HK.out.fs;rw[ee]at CD;rcases q2 with q3|⟨q3,q4⟩
       all_goals
        try rw[ee]at q4
        rcases k2 with k2|⟨k2,k3⟩
       all_goals
        go_wp2_with (first
         | (go_at_call 29;(with_reducible refine(CC.out _).mono ?_);rintro e w' ⟨rfl,rfl⟩)
         | (go_at_call 64;(with_reducible refine(CD.out _).mono ?_);rintro e w' ⟨rfl,rfl⟩))
        refine AI (v:= .tuple #[AK K ⟨acc.toArray⟩ ⟨#[]⟩ 0 a E false,.int .i64 0]) ?_ rfl (AX.ok HF.out ?_)
        ·simp only[results,Tryz.results159];go_simp;rfl
        ·iterate 7 refine By ?_ (by first|omega|(simp only;omega)) _
         exact HBL.out
    have t2:((c:Int)==(q:Int))=false:=AA (by omega);have hv10:v≠10:=by have:=HV.out;omega
    have hvq:v≠q:=by have:=HV.out;omega
    by_cases c92:c=92
    ·have t3:((c:Int)==92)=true:=beq_of_eq (by omega);have hv92:v=92:=by have:=HV.out;omega
     by_cases hd10:d=10
     ·have t4:(d==10)=true:=beq_of_eq hd10;have HF:Hid (R=Br s a q (p+2) acc):=Hi (by rw[HINV.out];exact On hlt HCD.out hvq hv92 (by rw[<-HD.out];exact hd10));have hp2:p+2<=s.size:=by
       rcases BY (p+1) s.size with h|h
       ·omega
       ·have h3:=HD.out;rw[Am s (p+1) h]at h3;omega
      have HO:=Hi hown;have HB3:=Hi hbw;clear hok hlen c10 cq hv10 hvq c92 hv92 hd10 hown hbw
      go_wp2_with (first
       | (go_at_call 29;(with_reducible refine(CC.out _).mono ?_);rintro e w' ⟨rfl,rfl⟩)
       | (go_at_call 64;(with_reducible refine(CD.out _).mono ?_);rintro e w' ⟨rfl,rfl⟩))
      go_roundw
      case rel=>exact⟨p+2,acc,by go_num,hp2,by omega,HO.out,HB3.out,hsw,HF.out⟩
      case measure=>simp[intOf];omega
     ·have t4:(d==10)=false:=AA hd10;have hd2:AE s (p+1)≠10:=by rw[<-HD.out];exact hd10
      have CE:=fun w=>Sl s p w (by omega) (by omega);cases he:Dp s p with
      |none=>
       rw[he]at CE;have CE2:Hid (∀w,Calls Tryz.prog 212 #[.string s,.int .i64 p] w fun e w'=>∃x t:Int,e= .returned (.tuple #[.int .i64 x,.int .i64 t,.bool false])/\Below w.heap.size w w'):=Hi (fun w=>(CE w).mono fun _ _ ⟨⟨x,t,h⟩,hb⟩=>⟨x,t,h,hb⟩);have HF:Hid (R= .err p 32):=Hi (by rw[HINV.out];exact WQ hlt HCD.out hvq hv92 hd2 he);clear hok hlen c10 cq hv10 hvq c92 hv92 hd10 hd2 CE he hown hbw
       go_wp2_with (first
        | (go_at_call 29;(with_reducible refine(CC.out _).mono ?_);rintro e w' ⟨rfl,rfl⟩)
        | (go_at_call 64;(with_reducible refine(CD.out _).mono ?_);rintro e w' ⟨rfl,rfl⟩))
       refine(CE2.out _).mono ?_;rintro e W2 ⟨x,t,rfl,b2⟩;have hk2:=Hi (HK.out.below b2);have hbl2:=Hi (HBL.out.trans (b2.mono HBL.out.size));clear b2 HK HBL;have HK:=hk2;have HBL:=hbl2;clear hk2 hbl2
       go_wp2_with fail
       refine(Ew p 32 _).mono ?_;rintro e W4 ⟨rfl,b4⟩;unfold As AK;have hk4:=HK.out.below b4;obtain⟨k0,k1,k2,k3,k4,k5,k6⟩:=hk4.cs;obtain⟨f0,f1,f2,f3,f4,f5,f6⟩:=hk4.fs;have HB:=Hi (HBL.out.trans (b4.mono HBL.out.size));clear b4 hk4;go_wp2;refine AI (v:= .tuple #[As p,.int .i64 32]) ?_ rfl (AX.er HF.out ?_)
       ·simp only[results,Tryz.results159];go_simp;rfl
       ·iterate 7 refine By ?_ (by first|omega|(simp only;omega)) _
        exact HB.out
      |some xt=>
       obtain⟨x,t⟩:=xt;rw[he]at CE;have CE2:Hid (∀w,Calls Tryz.prog 212 #[.string s,.int .i64 p] w fun e w'=>e= .returned (.tuple #[.int .i64 x,.int .i64 t,.bool true])/\Below w.heap.size w w'):=Hi (fun w=>(CE w).mono fun _ _ ⟨h,hb⟩=>⟨h,hb⟩);have HF:Hid (R=Br s a q t (acc++Lib.encodeRune x)):=Hi (by rw[HINV.out];exact Ss hlt HCD.out hvq hv92 hd2 he);have hx:=Gp he;have hx2:=O4 he;have CU:Hid (∀w,Calls Tryz.prog 213 #[.int .i64 x] w (Nr x w)):=Hi (fun w=>gC x w hx.2.2);obtain⟨L,hL⟩:∃L,L=(Lib.encodeRune x).length:=⟨_,rfl⟩;have HL:Hid ((Lib.encodeRune x).length=L):=Hi hL.symm;have CU:Hid (∀w,Calls Tryz.prog 213 #[.int .i64 x] w fun e w'=>e= .returned (.slice (some ⟨w.heap.size,0,none⟩) L L)/\BS w' w.heap.size L 5 (fun j=> .int .u8 (((Lib.encodeRune x).getD j 0).toNat:Nat))/\Below w.heap.size w w'):=Hi (fun w=>by rw[hL];exact CU.out w);have hL4:=(KT x).2;rw[<-hL]at hx2 hL4;have ht1:=hx.1;have ht2:=hx.2.1;have x2:x<=1114111:=by have:=hx.2.2;unfold AR at this;omega
       clear hok hlen c10 cq hv10 hvq c92 hv92 hd10 hd2 CE he hx hL
       go_wp2_with (first
        | (go_at_call 29;(with_reducible refine(CC.out _).mono ?_);rintro e w' ⟨rfl,rfl⟩)
        | (go_at_call 64;(with_reducible refine(CD.out _).mono ?_);rintro e w' ⟨rfl,rfl⟩))
       refine(CE2.out _).mono ?_;rintro e W2 ⟨rfl,b2⟩;obtain⟨wr,rfl⟩:∃wr:World,wr=W2:=⟨_,rfl⟩;have hown:=Wb hown b2;have hbw:=hbw.trans (b2.mono hsw);have hsw:=To hsw b2.size;clear b2
       go_wp2_with fail
       refine(CU.out _).mono ?_;rintro e w2 ⟨rfl,hrow,hb2⟩;have hown2:=Wb hown hb2;have hbw2:=hbw.trans (hb2.mono hsw);have HRW:=Hi hrow;have hsz2:=hb2.size;have hoa:=fun b hb=>(hown2.lt b hb).1;have HOA:=Hi hoa;clear hrow hoa hb2 hown hbw
       go_wp2_with (at_builtin;refine wpList_append_own _ rfl _ _ 104 rfl B1 5 i0 (.int .u8 0) 1 1 Tryz.underlying104 hi hz0 hz1 hz2 rfl (by decide) _ _ _ rfl hown2 ⟨wr.heap.size,0,none⟩ L L (Lib.byteCells (Lib.encodeRune x)) rfl (by rw[Lib.byteCells_length,gY,HL.out]) ?d1 ?d2 ?d3 ?d4 ?d5 ?_)
       case d1=>
        intro j u hj;have hjl:j<L:=by
         have:=(ON.1 hj).1;rw[Lib.byteCells_length]at this;have:=HL.out;omega
        have e:(⟨wr.heap.size,0,none⟩:Addr).add j=⟨wr.heap.size,j,none⟩:=by unfold Addr.add;split<;>simp_all
        rw[e,HRW.out.cell hjl];unfold Lib.byteCells at hj;rw[List.getElem?_map]at hj;rw[<-hj,SM];rw[List.getElem?_eq_getElem (by have:=HL.out;omega)];rfl
       case d2=>
        intro u hu;unfold Lib.byteCells at hu;obtain⟨x,-,rfl⟩:=List.mem_map.1 hu;rfl
       case d3=>unfold maxLen;omega
       case d4=>omega
       case d5=>omega
       intro v' w3 hown' hgrow _;have hb3:=hbw2.grown hgrow (by omega) (fun b hb=>HOA.out b hb);have hs3:=hgrow.size;rw[<-Lib.byteCells_append,<-HL.out]at hown';have HO:=Hi (show w3.ownsRow B1 5 1 v' (acc++Lib.encodeRune x).length (Lib.byteCells (acc++Lib.encodeRune x)) by rw[eR];exact hown');have HB3:=Hi hb3;have HL2:Hid ((acc++Lib.encodeRune x).length<=t):=Hi (by rw[eR,HL.out];omega);clear hown' hgrow hb3 hown2 hbw2;go_wp2;go_roundw
       case rel=>exact⟨t,acc++Lib.encodeRune x,by go_num,by omega,HL2.out,HO.out,HB3.out,by omega,HF.out⟩
       case measure=>simp[intOf];omega
    ·have t3:((c:Int)==92)=false:=AA (by omega);have hv92:v≠92:=by have:=HV.out;omega
     have HF:Hid (R=Br s a q (p+n) (acc++Lib.encodeRune v)):=Hi (by rw[HINV.out];exact Nn hlt HCD.out hv10 hvq hv92);have CU0:Hid (∀w,Calls Tryz.prog 213 #[.int .i64 v] w (Nr v w)):=Hi (fun w=>gC v w hok);have v2:v<=1114111:=by unfold AR at hok;omega
     have HL:Hid ((Lib.encodeRune v).length=n):=Hi hlen;have CU:Hid (∀w,Calls Tryz.prog 213 #[.int .i64 v] w fun e w'=>e= .returned (.slice (some ⟨w.heap.size,0,none⟩) n n)/\BS w' w.heap.size n 5 (fun j=> .int .u8 (((Lib.encodeRune v).getD j 0).toNat:Nat))/\Below w.heap.size w w'):=Hi (fun w=>by rw[<-hlen];exact CU0.out w);have hn1:1<=n:=by have:=KT v;omega
     have hn4:n<=4:=by have:=KT v;omega
     obtain⟨L,hL⟩:∃L,L=n:=⟨_,rfl⟩;obtain rfl:=hL;clear hok hlen c10 cq hv10 hvq c92 hv92 CU0
     go_wp2_with (first
      | (go_at_call 29;(with_reducible refine(CC.out _).mono ?_);rintro e w' ⟨rfl,rfl⟩)
      | (go_at_call 64;(with_reducible refine(CD.out _).mono ?_);rintro e w' ⟨rfl,rfl⟩))
     refine(CU.out _).mono ?_;rintro e w2 ⟨rfl,hrow,hb2⟩;have hown2:=Wb hown hb2;have hbw2:=hbw.trans (hb2.mono hsw);have HRW:=Hi hrow;have hsz2:=hb2.size;have hoa:=fun b hb=>(hown2.lt b hb).1;have HOA:=Hi hoa;clear hrow hoa hb2 hown hbw
     go_wp2_with (at_builtin;refine wpList_append_own _ rfl _ _ 104 rfl B1 5 i0 (.int .u8 0) 1 1 Tryz.underlying104 hi hz0 hz1 hz2 rfl (by decide) _ _ _ rfl hown2 ⟨wr.heap.size,0,none⟩ L L (Lib.byteCells (Lib.encodeRune v)) rfl (by rw[Lib.byteCells_length,gY,HL.out]) ?g1 ?g2 ?g3 ?g4 ?g5 ?_)
     case g1=>
      intro j u hj;have hjl:j<L:=by
       have:=(ON.1 hj).1;rw[Lib.byteCells_length]at this;have:=HL.out;omega
      have e:(⟨wr.heap.size,0,none⟩:Addr).add j=⟨wr.heap.size,j,none⟩:=by unfold Addr.add;split<;>simp_all
      rw[e,HRW.out.cell hjl];unfold Lib.byteCells at hj;rw[List.getElem?_map]at hj;rw[<-hj,SM];rw[List.getElem?_eq_getElem (by have:=HL.out;omega)];rfl
     case g2=>
      intro u hu;unfold Lib.byteCells at hu;obtain⟨x,-,rfl⟩:=List.mem_map.1 hu;rfl
     case g3=>unfold maxLen;omega
     case g4=>omega
     case g5=>omega
     intro v' w3 hown' hgrow _;have hb3:=hbw2.grown hgrow (by omega) (fun b hb=>HOA.out b hb);have hs3:=hgrow.size;rw[<-Lib.byteCells_append,<-HL.out]at hown';have HO:=Hi (show w3.ownsRow B1 5 1 v' (acc++Lib.encodeRune v).length (Lib.byteCells (acc++Lib.encodeRune v)) by rw[eR];exact hown');have HB3:=Hi hb3;have HL2:Hid ((acc++Lib.encodeRune v).length<=(p+L)):=Hi (by rw[eR,HL.out];omega);clear hown' hgrow hb3 hown2 hbw2;go_wp2;go_roundw
     case rel=>exact⟨(p+L),acc++Lib.encodeRune v,by go_num,by omega,HL2.out,HO.out,HB3.out,by omega,HF.out⟩
     case measure=>simp[intOf];omega
   ·rw[hcd]at CC0;have CC:Hid (∀w,Calls Tryz.prog 29 #[.string s,.int .i64 p] w fun e w'=>e= .returned (.tuple #[.int .i64 (0:Nat),.int .i64 (0:Nat)])/\w=w'):=Hi CC0;have HF:Hid (R= .err p 30):=Hi (by rw[hinv];exact Su hlt hcd);have n0:(((0:Nat):Int)==0)=true:=rfl;clear hno CC0 hinv hcd hc hbp hd hbw hown
    go_wp2_with (first
     | (go_at_call 29;(with_reducible refine(CC.out _).mono ?_);rintro e w' ⟨rfl,rfl⟩)
     | (go_at_call 64;(with_reducible refine(CD.out _).mono ?_);rintro e w' ⟨rfl,rfl⟩))
    refine(Ew p 30 _).mono ?_;rintro e W4 ⟨rfl,b4⟩;unfold As AK;have hk4:=HK.out.below b4;obtain⟨k0,k1,k2,k3,k4,k5,k6⟩:=hk4.cs;obtain⟨f0,f1,f2,f3,f4,f5,f6⟩:=hk4.fs;have HB:=Hi (HBL.out.trans (b4.mono HBL.out.size));clear b4 hk4;go_wp2;refine AI (v:= .tuple #[As p,.int .i64 30]) ?_ rfl (AX.er HF.out ?_)
    ·simp only[results,Tryz.results159];go_simp;rfl
    ·iterate 7 refine By ?_ (by first|omega|(simp only;omega)) _
     exact HB.out
  ·have HF:Hid (R= .err a 31):=Hi (by rw[hinv];exact Rp (by omega));clear hinv hbw hown
   go_wp2_with fail
   refine(Ew a 31 _).mono ?_;rintro e W4 ⟨rfl,b4⟩;unfold As AK;have hk4:=HK.out.below b4;obtain⟨k0,k1,k2,k3,k4,k5,k6⟩:=hk4.cs;obtain⟨f0,f1,f2,f3,f4,f5,f6⟩:=hk4.fs;have HB:=Hi (HBL.out.trans (b4.mono HBL.out.size));clear b4 hk4;go_wp2;refine AI (v:= .tuple #[As a,.int .i64 31]) ?_ rfl (AX.er HF.out ?_)
   ·simp only[results,Tryz.results159];go_simp;rfl
   ·iterate 7 refine By ?_ (by first|omega|(simp only;omega)) _
    exact HB.out
end Go.Proofs
