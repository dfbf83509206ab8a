import Derived.Test.YtnipmfaikiaipaaGreatDoorTaw
set_option linter.unusedSimpArgs false
set_option maxRecDepth 1000000
set_option maxHeartbeats 40000000
namespace Go.Lx
open Go.Hb Go.Rb Go.Bg Go.Pf
theorem IJ (s:ByteArray) (k:Nat):(AE s k).toNat=byte s k:=by unfold AE byte;exact IT _
theorem BM {s:ByteArray} {f t k:Nat}(hk:f+k<t) (ht:t<=s.size):byte (s.extract f t) k=byte s (f+k):=by
 unfold byte;have h1:k<(s.extract f t).size:=by rw[Of];omega
 rw[SM,SM,Lib.extract_data,List.getElem?_take,if_pos (by omega),List.getElem?_drop]
theorem Cf {s:ByteArray} {k:Nat}(h:k<s.size):byte s k=s[k].toNat:=FK h
theorem SS {c:Nat}(h:DO c=true):CK c<2:=by
 simp[DO]at h;unfold CK;rw[if_pos (by omega)];omega
theorem Mk {c:Nat}(h:A6 c=true):CK c<8:=by
 simp[A6]at h;unfold CK;rw[if_pos (by omega)];omega
theorem Ed {c:Nat}(h:AM c=true):CK c<10:=by
 simp[AM]at h;unfold CK;rw[if_pos (by omega)];omega
theorem Nc {c:Nat}(h:Ah c=true):CK c<16:=by have:=Go.Proofs.KJ h;omega
theorem Fo {p:Nat->Bool} {s:ByteArray} {f r:Nat}(hp:∀c,p c=true->CK c<r) (hf:f<=s.size):∀k,k<(s.extract f (AF p s f)).size->CK (byte (s.extract f (AF p s f)) k)<r:=by
 intro k hk;have h1:=Ai p s f hf;have h2:=Ae p s f;have h3:(s.extract f (AF p s f)).size=AF p s f-f:=by rw[Of];omega
 rw[h3]at hk;rw[BM (t:=AF p s f) (by omega) h1,Cf (k:=f+k) (by omega)];exact hp _ (Bv (a:=f) (f+k) (by omega) (by omega) (by omega))
theorem Zp {r:Nat} {s:ByteArray} :∀k,(∀j,j<k->CK (byte s j)<r)->vN r s k<r^k
 |0,_=>by simp[vN]
 |k+1,h=>by
  have h1:=Zp (r:=r) (s:=s) k (fun j hj=>h j (by omega));have h2:=h k (by omega);rw[vN,gj];have:(vN r s k+1)*r<=r^k*r:=FF _ h1;rw[UP,Nat.one_mul]at this;omega
theorem Lk {p:Nat->Bool} {s:ByteArray} {f:Nat}(h0:p 0=false):AF p s f=f↔p (AE s f).toNat=false:=by
 rcases BY f s.size with h|h
 ·rw[AO s f h,IT];constructor
  ·intro e;have h2:=Qt (p:=p) (s:=s) (a:=f) (by omega);simpa[e]using h2
  ·exact fun e=>Aw h e
 ·rw[Am s f h];exact⟨fun _=>h0,fun _=>Ac h⟩
theorem VJ {a b:ByteArray} {k:Nat} :byte (a++b) k=if k<a.size then byte a k else byte b (k-a.size):=by
 have hsz:a.data.toList.length=a.size:=by simp
 unfold byte;rw[ByteArray.data_append,Array.toList_append,SM,SM,SM,List.getElem?_append,hsz];split<;>rfl
theorem MU {s:ByteArray} {a p:Nat}(hap:a<=p) (hp:p<s.size):(GP s a p).size=(p-a)+(AF AM s (p+1)-(p+1)):=by
 have h1:=Ai AM s (p+1) hp;have h2:=Ae AM s (p+1);unfold GP;rw[ByteArray.size_append,Of,Of];omega
theorem Oy {s:ByteArray} {a p:Nat}(hap:p=AF AM s a) (hp:p<s.size):∀k,k<(GP s a p).size->CK (byte (GP s a p) k)<10:=by
 intro k hk;have ha2:=Ae AM s a;have h1:=Ai AM s (p+1) hp;have h2:=Ae AM s (p+1);rw[MU (by omega) hp]at hk;unfold GP;rw[VJ];have hz:(s.extract a p).size=p-a:=by rw[Of];omega
 rw[hz];split
 ·rw[BM (t:=p) (by omega) (by omega),Cf (by omega)];exact Ed (Bv (a:=a) _ (by omega) (by omega) (by omega))
 ·rw[BM (t:=AF AM s (p+1)) (by omega) h1,Cf (by omega)];exact Ed (Bv (a:=p+1) _ (by omega) (by omega) (by omega))
theorem XY {s:ByteArray} {e:Nat}(h:AF AM s (F6 s e)-F6 s e<=4) (hs:F6 s e<=s.size):At 10 s (F6 s e) (AF AM s (F6 s e)-F6 s e)<10000:=by
 have h1:=Ai AM s _ hs;refine IN (Nl _ fun j hj=> ?_) (AT (n:=10) (by decide) h);rw[AO s _ (by omega),IT];exact Ed (Bv (a:=F6 s e) _ (by omega) (by omega) (by omega))
theorem JO {r:Nat}(s:ByteArray) (f:Nat){j k:Nat}(h:j<=k):At (r+1) s f j<=At (r+1) s f k:=by
 induction h with
 |refl=>exact nR _
 |step _ ih=>exact To ih (by rw[At];exact To (Nat.le_mul_of_pos_right _ (by omega)) (Nat.le_add_right _ _))
theorem cZ {N M:Nat}(h:N<M):2^N<2^M:=Nat.pow_lt_pow_right (by decide) h
theorem cJ {k N:Nat}(h:k<=N):10^k<=10^N:=AT (by decide) h
theorem Wj {s:ByteArray} {a p t:Nat} {x:Int}(h:400<AF AM s (p+1)-a-1):LH s a p x t= .err a 34:=by unfold LH;rw[if_pos h]
theorem Ww {s:ByteArray} {a p t b:Nat} {x:Int}(h:¬400<AF AM s (p+1)-a-1) (hb:b=IC (vN 10 (GP s a p) (GP s a p).size) (x-((AF AM s (p+1):Int)-p-1))):
 (b<BR->LH s a p x t= .ok 5 ⟨#[]⟩ ⟨#[]⟩ b a t)/\(¬b<BR->LH s a p x t= .err a 34):=by
 unfold LH;rw[if_neg h,<-hb];exact⟨fun h=>if_pos h,fun h=>if_neg h⟩
end Go.Lx
namespace Go.Proofs
open Go.RowKit Go.Pf Go.Lx Go.Hb Go.Rb Go.Bg
theorem Ka (s:ByteArray) (p f t r:Nat) (w:World) (hs:s.size<=140737488355000) (hft:f<t) (ht:t<=s.size) (hr:2<=r) (hr2:r<=36) (hd:∀k,k<(s.extract f t).size->CK (byte (s.extract f t) k)<r):
 Calls Tryz.prog 208 #[.string s,.int .i64 p,.int .i64 f,.int .i64 t,.int .i64 r] w (AX (B5 s p f t r) w):=by
 refine(bI s p f t r w (by omega) hft ht hr hr2 (Hi hd)).mono fun e w' h=> ?_;unfold B5;by_cases hX:vN r (s.extract f t) (s.extract f t).size<2^LE
 ·rw[if_pos hX];obtain⟨nu,rfl,hnu⟩:=h.fits hX;exact⟨by rw[Sp hnu];rfl,h.Ad⟩
 ·rw[if_neg hX];exact⟨by rw[h.big hX];rfl,h.Ad⟩
theorem Og (vs:Array Value) (w:World):(callFunc 210 vs).run Tryz.prog w= .ok (.enter 210 vs) w:=by kernel_rfl
theorem TR.EP (R:TR):∃(k:Int) (tx nu:ByteArray) (bits at_ en:Int),TR.tok R=AK k tx nu bits at_ en false:=by
 cases R with
 |ok k tx nu bits a en=>exact⟨_,_,_,_,_,_,rfl⟩
 |err p n=>exact⟨_,_,_,_,_,_,rfl⟩
theorem AX.of {R:TR} {w w':World} {k bits at_ en er:Int} {tx nu:ByteArray}(h1:TR.tok R=AK k tx nu bits at_ en false) (h2:er=TR.er R) (hb:Below w.heap.size w w'):AX R w (.returned (.tuple #[AK k tx nu bits at_ en false,.int .i64 er])) w':=by
 subst h2;rw[<-h1];exact⟨rfl,hb⟩
theorem YH (s:ByteArray) (a:Nat) (w:World) (hs:s.size<=140737488355000) (ha:a<s.size) (Db:AM (AE s a).toNat=true):
 Calls Tryz.prog 158 #[.string s,.int .i64 a] w (AX (F7 s a) w):=by
 obtain⟨R,hR⟩:∃R,R=F7 s a:=⟨_,rfl⟩;rw[<-hR];unfold F7 at hR;have CC0:=fun w=>RB s a w hs (by omega);cases hch:DU s a with
 |some RR=>
  rw[hch]at hR CC0;have HF:Hid (R=RR):=Hi hR;have CC:Hid (∀w,Calls Tryz.prog 207 #[.string s,.int .i64 a] w fun e w'=>e= .returned (.tuple #[TR.tok RR,.int .i64 (TR.er RR:Nat),.bool true])/\Below w.heap.size w w'):=Hi CC0;clear hR CC0 hch Db;go_enter Tryz.func158,Tryz.ntmps158
  go_wp2_with fail
  generalize hW:w.alloc _=W1;have bl:Below w.heap.size w W1:=by subst hW;exact(AH _ _).alloc (nR _) _
  have hk:A8 W1 w.heap.size:=by subst hW;exact A8.new w
  clear hW;refine(CC.out _).mono ?_;rintro e W4 ⟨rfl,b4⟩;have HKX:=hk.below b4;obtain⟨k0,k1,k2,k3,k4,k5,k6⟩:=HKX.cs;obtain⟨f0,f1,f2,f3,f4,f5,f6⟩:=HKX.fs;have hlt:=HKX.lt;have HB:=Hi (bl.trans (b4.mono bl.size));obtain⟨tk,ttx,tnu,tbits,tat,ten,htok⟩:=TR.EP RR;rw[htok];have HTOK:=Hi htok;obtain⟨ter,hter⟩:∃ter:Int,ter=(TR.er RR:Nat):=⟨_,rfl⟩;rw[<-hter];have HTER:=Hi hter;clear b4 HKX htok hter hk bl;unfold AK;go_wp2;refine AI (v:= .tuple #[AK tk ttx tnu tbits tat ten false,.int .i64 ter]) ?_ rfl (AX.of (by rw[HF.out];exact HTOK.out) (by rw[HF.out];exact HTER.out) ?_)
  ·simp only[results,Tryz.results158];go_simp;rfl
  ·refine Below.al ?_ _
   iterate 7 refine By ?_ (by first|omega|(simp only;omega)) _
   exact HB.out
 |none=>
 rw[hch]at hR CC0;simp only at hR;have CC:Hid (∀w,Calls Tryz.prog 207 #[.string s,.int .i64 a] w fun e w'=>e= .returned (.tuple #[As 0,.int .i64 0,.bool false])/\Below w.heap.size w w'):=Hi CC0;clear CC0 hch;obtain⟨c0,hc0⟩:∃c,c=s[a].toNat:=⟨_,rfl⟩;have hb0:AE s a=(c0:Int):=by rw[AO s a ha,hc0]
 have ec0:s[a].toNat=c0:=hc0.symm;obtain⟨c1,hc1⟩:∃c,c=AE s (a+1):=⟨_,rfl⟩;have CB:Hid (∀w,Calls Tryz.prog 64 #[.string s,.int .i64 ((a:Int)+1)] w fun e w'=>e= .returned (.int .u8 c1)/\w=w'):=Hi (fun w=>by rw[hc1];exact E8 s (a+1) w);obtain⟨f,hf⟩:∃f,f=a+2:=⟨_,rfl⟩;have ef:(a:Int)+2=f:=by omega
 have fb:f<=140737488355100:=by omega
 rw[<-hf,hb0,<-hc1]at hR;obtain⟨T0,hT0⟩:∃T,T=AF DO s f:=⟨_,rfl⟩;obtain⟨T1,hT1⟩:∃T,T=AF A6 s f:=⟨_,rfl⟩;obtain⟨T2',hT2⟩:∃T,T=AF Ah s f:=⟨_,rfl⟩;obtain⟨P,hP⟩:∃P,P=AF AM s a:=⟨_,rfl⟩;have hle:∀{p:Nat->Bool},f<AF p s f->AF p s f<=s.size/\f<s.size:=fun {p} h=>by
  rcases BY f s.size with h1|h1
  ·exact⟨Ai p s f (by omega),h1⟩
  ·rw[Ac h1]at h;omega
 have CR0:Hid (∀w,Calls Tryz.prog 161 #[.string s,.int .i64 f,.int .i64 6] w (Ag T0 w)):=Hi (fun w=>by rw[hT0];exact YA s f w (by omega) (by omega));have CR1:Hid (∀w,Calls Tryz.prog 161 #[.string s,.int .i64 f,.int .i64 5] w (Ag T1 w)):=Hi (fun w=>by rw[hT1];exact Sf s f w (by omega) (by omega));have CR2:Hid (∀w,Calls Tryz.prog 161 #[.string s,.int .i64 f,.int .i64 4] w (Ag T2' w)):=Hi (fun w=>by rw[hT2];exact Rn s f w (by omega) (by omega));have CW0:Hid (f<T0->∀w,Calls Tryz.prog 208 #[.string s,.int .i64 a,.int .i64 f,.int .i64 T0,.int .i64 2] w (AX (B5 s a f T0 2) w)):=Hi (fun h w=>by
  subst hT0;exact Ka s a f _ 2 w hs h (hle h).1 (by decide) (by decide) (Fo (fun _ h=>SS h) (by have:=(hle h).2;omega)))
 have CW1:Hid (f<T1->∀w,Calls Tryz.prog 208 #[.string s,.int .i64 a,.int .i64 f,.int .i64 T1,.int .i64 8] w (AX (B5 s a f T1 8) w)):=Hi (fun h w=>by
  subst hT1;exact Ka s a f _ 8 w hs h (hle h).1 (by decide) (by decide) (Fo (fun _ h=>Mk h) (by have:=(hle h).2;omega)))
 have CW2:Hid (f<T2'->∀w,Calls Tryz.prog 208 #[.string s,.int .i64 a,.int .i64 f,.int .i64 T2',.int .i64 16] w (AX (B5 s a f T2' 16) w)):=Hi (fun h w=>by
  subst hT2;exact Ka s a f _ 16 w hs h (hle h).1 (by decide) (by decide) (Fo (fun _ h=>Nc h) (by have:=(hle h).2;omega)))
 have BT0:T0<=140737488355100:=by rw[hT0];rcases BY f (AF DO s f)with h|h;(have:=(hle h).1;omega);omega
 have BT1:T1<=140737488355100:=by rw[hT1];rcases BY f (AF A6 s f)with h|h;(have:=(hle h).1;omega);omega
 have BT2:T2'<=140737488355100:=by rw[hT2];rcases BY f (AF Ah s f)with h|h;(have:=(hle h).1;omega);omega
 rw[<-hT0,<-hT1,<-hT2,<-hP]at hR;have HPP:=Hi hP;have HDG:Hid (AM c0=true):=Hi (by rw[hb0,IT]at Db;exact Db);have HRR:=Hi hR;clear hle hT0 hT1 hT2 hP hf hc0 hc1 hb0 Db hR;go_enter Tryz.func158,Tryz.ntmps158
 go_wp2_with fail
 generalize hW:w.alloc _=W1;have bl:Below w.heap.size w W1:=by subst hW;exact(AH _ _).alloc (nR _) _
 have hk:A8 W1 w.heap.size:=by subst hW;exact A8.new w
 clear hW;refine(CC.out _).mono ?_;rintro e W4 ⟨rfl,b4⟩;unfold As AK
 go_wp2_with fail
 generalize hW:((W4.alloc _).alloc _).alloc _=W2;have b42:Below W4.heap.size W4 W2:=by subst hW;exact(((AH _ _).alloc (nR _) _).alloc (by simp) _).alloc (by simp;omega) _
 have hk2:=Hi ((hk.below b4).below b42);have BL2:=Hi (bl.trans ((b4.trans (b42.mono b4.size)).mono bl.size));have r0:∀k,k<3->W2.cell? ⟨W4.heap.size+1,k,none⟩=some (.int .i64 ([2,8,16].getD k 0:Nat)):=by
  intro k hk;subst hW;have e:(W4.alloc (.cells #[.int .i64 0,.string ⟨#[]⟩,.string ⟨#[]⟩,.int .u64 0,.int .i64 0,.int .i64 0,.bool false] 30)).heap.size=W4.heap.size+1:=by simp
  rw[<-e]
  match k,hk with
  |0,_=>go_simp
  |1,_=>go_simp
  |2,_=>go_simp
 have r1:∀k,k<3->W2.cell? ⟨W4.heap.size+1+1,k,none⟩=some (.int .i64 ([6,5,4].getD k 0:Nat)):=by
  intro k hk;subst hW
  match k,hk with
  |0,_=>go_simp
  |1,_=>go_simp
  |2,_=>go_simp
 have R0:=Hi r0;have R1:=Hi r1;have HK:Hid (∀n,A8 (W2.drewN n) w.heap.size):=Hi (fun n=>⟨hk2.out.h⟩);have HBL:Hid (∀n,Below w.heap.size w (W2.drewN n)):=Hi (fun n=>⟨BL2.out.os,BL2.out.tape,BL2.out.output,BL2.out.size,BL2.out.block⟩);clear hW b42 b4 bl hk r0 r1 CC;obtain⟨S,hS⟩:∃S,S=(⟨#[98,111,120]⟩:ByteArray):=⟨_,rfl⟩;rw[show({data:= #[98,111,120]} :ByteArray)=S from hS.symm];have zS:S.size=3:=by rw[hS];rfl
 have HS:Hid (∀k (h:k<S.size),S[k].toNat= [98,111,120].getD k 0):=Hi (by
  subst hS;intro k h
  match k,h with
  |0,_=>rfl
  |1,_=>rfl
  |2,_=>rfl)
 clear hS
 go_loopw [12,13] (fun kv _ wr=>∃k n:Nat,k<=3/\kv= .int .i64 k/\((1<=k->¬((c0:Int)=48/\c1=98/\f<T0))/\(2<=k->¬((c0:Int)=48/\c1=111/\f<T1))/\(3<=k->¬((c0:Int)=48/\c1=120/\f<T2')))/\wr=W2.drewN n) (fun kv _ _=>3-(intOf kv).toNat)
 case atStart=>exact⟨0,0,by omega,rfl,⟨by omega,by omega,by omega⟩,rfl⟩
 case round=>
  obtain⟨k,n,hk3,rfl,hnr,rfl⟩:=hrel;have HNR:=Hi hnr;clear hnr;obtain⟨wq,hwq⟩:∃v,v=W2.drewN n:=⟨_,rfl⟩;rw[<-hwq];have CBQ:Hid (∀m,Calls Tryz.prog 64 #[.string s,.int .i64 ((a:Int)+1)] (wq.drewN m) fun e w'=>e= .returned (.int .u8 c1)/\w'=wq.drewN m):=Hi (fun m=>(CB.out _).mono fun _ _ ⟨h1,h2⟩=>⟨h1,h2.symm⟩);have HK:Hid (∀m,A8 (wq.drewN m) w.heap.size):=Hi (fun m=>⟨by rw[hwq];exact(HK.out n).h⟩);have HBL:Hid (∀m,Below w.heap.size w (wq.drewN m)):=Hi (fun m=>by rw[hwq,World.drewN_drewN];exact HBL.out _);have HWQ:=Hi hwq;clear hwq;have hk4:k=0\/k=1\/k=2\/k=3:=by omega
  clear hk3;rcases hk4 with rfl|rfl|rfl|rfl
  ·have h6:wq.cell? ⟨W4.heap.size+1+1,0,none⟩=some (.int .i64 6):=by rw[HWQ.out];exact R1.out 0 (by omega)
   have h5:wq.cell? ⟨W4.heap.size+1,0,none⟩=some (.int .i64 2):=by rw[HWQ.out];exact R0.out 0 (by omega)
   have es:S[0].toNat=98:=HS.out 0 (by omega);by_cases m0:c0=48
   ·have t0:((c0:Int)==48)=true:=beq_of_eq (by omega);by_cases m1:c1=98
    ·have t1:(c1==98)=true:=beq_of_eq m1;by_cases m2:f<T0
     ·obtain⟨RR,hRR⟩:∃RR,RR=B5 s a f T0 2:=⟨_,rfl⟩;have CWX:=CW0.out m2;rw[<-hRR]at CWX;have CWX:=Hi CWX;have HF:Hid (R=RR):=Hi (by
       rw[HRR.out,hRR];obtain⟨n0,n1,n2⟩:=HNR.out;rw[if_pos ⟨by omega,m1,m2⟩])
      have tr:decide (f<T0)=true:=AN m2;have tr2:decide ((f:Int)<T0)=true:=A5;have tr3:(f:Int)<T0:=by omega
      clear hRR m0 m1;go_wp2
      go_quiet ((go_at_call 64;exact cX (CBQ.out _)))
      go_wp2_with (go_at_call 161;(with_reducible refine(CR0.out _).mono ?_);rintro e w' ⟨rfl,rfl⟩)
      refine(CWX.out _).mono ?_;rintro e W4 ⟨rfl,b4⟩;have HKX:=(HK.out _).below b4;obtain⟨k0,k1,k2,k3,k4,k5,k6⟩:=HKX.cs;obtain⟨f0,f1,f2,f3,f4,f5,f6⟩:=HKX.fs;have HB:=Hi ((HBL.out _).trans (b4.mono (HBL.out _).size));obtain⟨tk,ttx,tnu,tbits,tat,ten,htok⟩:=TR.EP RR;rw[htok];have HTOK:=Hi htok;obtain⟨ter,hter⟩:∃ter:Int,ter=(TR.er RR:Nat):=⟨_,rfl⟩;rw[<-hter];have HTER:=Hi hter;clear b4 HKX htok hter;unfold AK;go_wp2;refine AI (v:= .tuple #[AK tk ttx tnu tbits tat ten false,.int .i64 ter]) ?_ rfl (AX.of (by rw[HF.out];exact HTOK.out) (by rw[HF.out];exact HTER.out) ?_)
      ·simp only[results,Tryz.results158];go_simp;rfl
      ·iterate 7 refine By ?_ (by first|omega|(simp only;omega)) _
       exact HB.out
     ·have HN:Hid ((1<=1->¬((c0:Int)=48/\c1=98/\f<T0))/\(2<=1->¬((c0:Int)=48/\c1=111/\f<T1))/\(3<=1->¬((c0:Int)=48/\c1=120/\f<T2'))):=Hi (by have:=HNR.out;omega);have tr:decide (f<T0)=false:=AS m2;have tr2:decide ((f:Int)<T0)=false:=BC;have tr3:¬(f:Int)<T0:=by omega
      clear m0 m1;go_wp2
      go_quiet ((go_at_call 64;exact cX (CBQ.out _)))
      go_wp2_with (go_at_call 161;(with_reducible refine(CR0.out _).mono ?_);rintro e w' ⟨rfl,rfl⟩)
      go_roundw
      case rel=>exact⟨1,n+nq,by omega,rfl,HN.out,by rw[HWQ.out];first|rfl|rw[World.drewN_drewN]⟩
      case measure=>simp[intOf]
    ·have t1:(c1==98)=false:=AA m1;have HN:Hid ((1<=1->¬((c0:Int)=48/\c1=98/\f<T0))/\(2<=1->¬((c0:Int)=48/\c1=111/\f<T1))/\(3<=1->¬((c0:Int)=48/\c1=120/\f<T2'))):=Hi (by have:=HNR.out;omega);clear m0 m1;go_wp2
     go_quiet ((go_at_call 64;exact cX (CBQ.out _)))
     go_wp2;go_roundw
     case rel=>exact⟨1,n+nq,by omega,rfl,HN.out,by rw[HWQ.out];first|rfl|rw[World.drewN_drewN]⟩
     case measure=>simp[intOf]
   ·have t0:((c0:Int)==48)=false:=AA (by omega);have HN:Hid ((1<=1->¬((c0:Int)=48/\c1=98/\f<T0))/\(2<=1->¬((c0:Int)=48/\c1=111/\f<T1))/\(3<=1->¬((c0:Int)=48/\c1=120/\f<T2'))):=Hi (by have:=HNR.out;omega);clear m0;go_wp2
    go_quiet (fail)
    go_wp2;go_roundw
    case rel=>exact⟨1,n+nq,by omega,rfl,HN.out,by rw[HWQ.out];first|rfl|rw[World.drewN_drewN]⟩
    case measure=>simp[intOf]
  ·have h6:wq.cell? ⟨W4.heap.size+1+1,1,none⟩=some (.int .i64 5):=by rw[HWQ.out];exact R1.out 1 (by omega)
   have h5:wq.cell? ⟨W4.heap.size+1,1,none⟩=some (.int .i64 8):=by rw[HWQ.out];exact R0.out 1 (by omega)
   have es:S[1].toNat=111:=HS.out 1 (by omega);by_cases m0:c0=48
   ·have t0:((c0:Int)==48)=true:=beq_of_eq (by omega);by_cases m1:c1=111
    ·have t1:(c1==111)=true:=beq_of_eq m1;by_cases m2:f<T1
     ·obtain⟨RR,hRR⟩:∃RR,RR=B5 s a f T1 8:=⟨_,rfl⟩;have CWX:=CW1.out m2;rw[<-hRR]at CWX;have CWX:=Hi CWX;have HF:Hid (R=RR):=Hi (by
       rw[HRR.out,hRR];obtain⟨n0,n1,n2⟩:=HNR.out;rw[if_neg (n0 (by omega)),if_pos ⟨by omega,m1,m2⟩])
      have tr:decide (f<T1)=true:=AN m2;have tr2:decide ((f:Int)<T1)=true:=A5;have tr3:(f:Int)<T1:=by omega
      clear hRR m0 m1;go_wp2
      go_quiet ((go_at_call 64;exact cX (CBQ.out _)))
      go_wp2_with (go_at_call 161;(with_reducible refine(CR1.out _).mono ?_);rintro e w' ⟨rfl,rfl⟩)
      refine(CWX.out _).mono ?_;rintro e W4 ⟨rfl,b4⟩;have HKX:=(HK.out _).below b4;obtain⟨k0,k1,k2,k3,k4,k5,k6⟩:=HKX.cs;obtain⟨f0,f1,f2,f3,f4,f5,f6⟩:=HKX.fs;have HB:=Hi ((HBL.out _).trans (b4.mono (HBL.out _).size));obtain⟨tk,ttx,tnu,tbits,tat,ten,htok⟩:=TR.EP RR;rw[htok];have HTOK:=Hi htok;obtain⟨ter,hter⟩:∃ter:Int,ter=(TR.er RR:Nat):=⟨_,rfl⟩;rw[<-hter];have HTER:=Hi hter;clear b4 HKX htok hter;unfold AK;go_wp2;refine AI (v:= .tuple #[AK tk ttx tnu tbits tat ten false,.int .i64 ter]) ?_ rfl (AX.of (by rw[HF.out];exact HTOK.out) (by rw[HF.out];exact HTER.out) ?_)
      ·simp only[results,Tryz.results158];go_simp;rfl
      ·iterate 7 refine By ?_ (by first|omega|(simp only;omega)) _
       exact HB.out
     ·have HN:Hid ((1<=2->¬((c0:Int)=48/\c1=98/\f<T0))/\(2<=2->¬((c0:Int)=48/\c1=111/\f<T1))/\(3<=2->¬((c0:Int)=48/\c1=120/\f<T2'))):=Hi (by have:=HNR.out;omega);have tr:decide (f<T1)=false:=AS m2;have tr2:decide ((f:Int)<T1)=false:=BC;have tr3:¬(f:Int)<T1:=by omega
      clear m0 m1;go_wp2
      go_quiet ((go_at_call 64;exact cX (CBQ.out _)))
      go_wp2_with (go_at_call 161;(with_reducible refine(CR1.out _).mono ?_);rintro e w' ⟨rfl,rfl⟩)
      go_roundw
      case rel=>exact⟨2,n+nq,by omega,rfl,HN.out,by rw[HWQ.out];first|rfl|rw[World.drewN_drewN]⟩
      case measure=>simp[intOf]
    ·have t1:(c1==111)=false:=AA m1;have HN:Hid ((1<=2->¬((c0:Int)=48/\c1=98/\f<T0))/\(2<=2->¬((c0:Int)=48/\c1=111/\f<T1))/\(3<=2->¬((c0:Int)=48/\c1=120/\f<T2'))):=Hi (by have:=HNR.out;omega);clear m0 m1;go_wp2
     go_quiet ((go_at_call 64;exact cX (CBQ.out _)))
     go_wp2;go_roundw
     case rel=>exact⟨2,n+nq,by omega,rfl,HN.out,by rw[HWQ.out];first|rfl|rw[World.drewN_drewN]⟩
     case measure=>simp[intOf]
   ·have t0:((c0:Int)==48)=false:=AA (by omega);have HN:Hid ((1<=2->¬((c0:Int)=48/\c1=98/\f<T0))/\(2<=2->¬((c0:Int)=48/\c1=111/\f<T1))/\(3<=2->¬((c0:Int)=48/\c1=120/\f<T2'))):=Hi (by have:=HNR.out;omega);clear m0;go_wp2
    go_quiet (fail)
    go_wp2;go_roundw
    case rel=>exact⟨2,n+nq,by omega,rfl,HN.out,by rw[HWQ.out];first|rfl|rw[World.drewN_drewN]⟩
    case measure=>simp[intOf]
  ·have h6:wq.cell? ⟨W4.heap.size+1+1,2,none⟩=some (.int .i64 4):=by rw[HWQ.out];exact R1.out 2 (by omega)
   have h5:wq.cell? ⟨W4.heap.size+1,2,none⟩=some (.int .i64 16):=by rw[HWQ.out];exact R0.out 2 (by omega)
   have es:S[2].toNat=120:=HS.out 2 (by omega);by_cases m0:c0=48
   ·have t0:((c0:Int)==48)=true:=beq_of_eq (by omega);by_cases m1:c1=120
    ·have t1:(c1==120)=true:=beq_of_eq m1;by_cases m2:f<T2'
     ·obtain⟨RR,hRR⟩:∃RR,RR=B5 s a f T2' 16:=⟨_,rfl⟩;have CWX:=CW2.out m2;rw[<-hRR]at CWX;have CWX:=Hi CWX;have HF:Hid (R=RR):=Hi (by
       rw[HRR.out,hRR];obtain⟨n0,n1,n2⟩:=HNR.out;rw[if_neg (n0 (by omega)),if_neg (n1 (by omega)),if_pos ⟨by omega,m1,m2⟩])
      have tr:decide (f<T2')=true:=AN m2;have tr2:decide ((f:Int)<T2')=true:=A5;have tr3:(f:Int)<T2':=by omega
      clear hRR m0 m1;go_wp2
      go_quiet ((go_at_call 64;exact cX (CBQ.out _)))
      go_wp2_with (go_at_call 161;(with_reducible refine(CR2.out _).mono ?_);rintro e w' ⟨rfl,rfl⟩)
      refine(CWX.out _).mono ?_;rintro e W4 ⟨rfl,b4⟩;have HKX:=(HK.out _).below b4;obtain⟨k0,k1,k2,k3,k4,k5,k6⟩:=HKX.cs;obtain⟨f0,f1,f2,f3,f4,f5,f6⟩:=HKX.fs;have HB:=Hi ((HBL.out _).trans (b4.mono (HBL.out _).size));obtain⟨tk,ttx,tnu,tbits,tat,ten,htok⟩:=TR.EP RR;rw[htok];have HTOK:=Hi htok;obtain⟨ter,hter⟩:∃ter:Int,ter=(TR.er RR:Nat):=⟨_,rfl⟩;rw[<-hter];have HTER:=Hi hter;clear b4 HKX htok hter;unfold AK;go_wp2;refine AI (v:= .tuple #[AK tk ttx tnu tbits tat ten false,.int .i64 ter]) ?_ rfl (AX.of (by rw[HF.out];exact HTOK.out) (by rw[HF.out];exact HTER.out) ?_)
      ·simp only[results,Tryz.results158];go_simp;rfl
      ·iterate 7 refine By ?_ (by first|omega|(simp only;omega)) _
       exact HB.out
     ·have HN:Hid ((1<=3->¬((c0:Int)=48/\c1=98/\f<T0))/\(2<=3->¬((c0:Int)=48/\c1=111/\f<T1))/\(3<=3->¬((c0:Int)=48/\c1=120/\f<T2'))):=Hi (by have:=HNR.out;omega);have tr:decide (f<T2')=false:=AS m2;have tr2:decide ((f:Int)<T2')=false:=BC;have tr3:¬(f:Int)<T2':=by omega
      clear m0 m1;go_wp2
      go_quiet ((go_at_call 64;exact cX (CBQ.out _)))
      go_wp2_with (go_at_call 161;(with_reducible refine(CR2.out _).mono ?_);rintro e w' ⟨rfl,rfl⟩)
      go_roundw
      case rel=>exact⟨3,n+nq,by omega,rfl,HN.out,by rw[HWQ.out];first|rfl|rw[World.drewN_drewN]⟩
      case measure=>simp[intOf]
    ·have t1:(c1==120)=false:=AA m1;have HN:Hid ((1<=3->¬((c0:Int)=48/\c1=98/\f<T0))/\(2<=3->¬((c0:Int)=48/\c1=111/\f<T1))/\(3<=3->¬((c0:Int)=48/\c1=120/\f<T2'))):=Hi (by have:=HNR.out;omega);clear m0 m1;go_wp2
     go_quiet ((go_at_call 64;exact cX (CBQ.out _)))
     go_wp2;go_roundw
     case rel=>exact⟨3,n+nq,by omega,rfl,HN.out,by rw[HWQ.out];first|rfl|rw[World.drewN_drewN]⟩
     case measure=>simp[intOf]
   ·have t0:((c0:Int)==48)=false:=AA (by omega);have HN:Hid ((1<=3->¬((c0:Int)=48/\c1=98/\f<T0))/\(2<=3->¬((c0:Int)=48/\c1=111/\f<T1))/\(3<=3->¬((c0:Int)=48/\c1=120/\f<T2'))):=Hi (by have:=HNR.out;omega);clear m0;go_wp2
    go_quiet (fail)
    go_wp2;go_roundw
    case rel=>exact⟨3,n+nq,by omega,rfl,HN.out,by rw[HWQ.out];first|rfl|rw[World.drewN_drewN]⟩
    case measure=>simp[intOf]
  ·have HR4:Hid (R=if AE s P=46/\AM (AE s (P+1)).toNat=true then E4 s a P else B5 s a a P 10):=Hi (by
    rw[HRR.out];obtain⟨n0,n1,n2⟩:=HNR.out;rw[if_neg (n0 (by omega)),if_neg (n1 (by omega)),if_neg (n2 (by omega))])
   clear HNR HRR R0 R1 CR0 CR1 CR2 CW0 CW1 CW2;have HK:=Hi (show A8 wq w.heap.size from⟨(HK.out 0).h⟩);have HBL:=Hi (show Below w.heap.size w wq from⟨(HBL.out 0).os,(HBL.out 0).tape,(HBL.out 0).output,(HBL.out 0).size,(HBL.out 0).block⟩);have hPge:=Ae AM s a;have hPle:=Ai AM s a (by omega);have hPgt:a<AF AM s a:=by
    have h1:AF AM s a=AF AM s (a+1):=Af ha (by rw[ec0];exact HDG.out);have h2:=Ae AM s (a+1);omega
   rw[<-HPP.out]at hPge hPle hPgt;obtain⟨g,hg⟩:∃g,g=P+1:=⟨_,rfl⟩;have eg:(P:Int)+1=g:=by omega
   obtain⟨E,hE⟩:∃E,E=AF AM s g:=⟨_,rfl⟩;have hEge:g<=E:=by rw[hE];exact Ae _ _ _
   have bE:E<=140737488355100:=by
    rcases BY s.size g with h|h
    ·rw[hE,Ac (by omega)];omega
    ·have:=Ai AM s g h;omega
   obtain⟨d,hd⟩:∃d,d=AE s P:=⟨_,rfl⟩;have P9:Hid (∀w,Calls Tryz.prog 161 #[.string s,.int .i64 a,.int .i64 3] w (Ag P w)):=Hi (fun w=>by rw[HPP.out];exact Np s a w (by omega) (by omega));have CP2:Hid (∀w,Calls Tryz.prog 161 #[.string s,.int .i64 g,.int .i64 3] w (Ag E w)):=Hi (fun w=>by rw[hE];exact Np s g w (by omega) (by omega));have CPd:Hid (∀w,Calls Tryz.prog 64 #[.string s,.int .i64 P] w fun e w'=>e= .returned (.int .u8 d)/\w=w'):=Hi (fun w=>by rw[hd];exact E8 s P w);have HE:=Hi hE;have HD:=Hi hd;have HG:=Hi hg;clear hE hd hg CBQ;by_cases hdot:AE s P=46/\AM (AE s (P+1)).toNat=true
   ·have hR5:=HR4.out;rw[if_pos hdot]at hR5;have t1:(d !=46)=false:=BI (by rw[HD.out];exact hdot.1);have gE:g<E:=by
     rcases Nat.eq_or_lt_of_le hEge with h|h
     ·have h2:=(Lk (p:=AM) (s:=s) (f:=g) rfl).1 (by rw[<-HE.out];exact h.symm);rw[HG.out,hdot.2]at h2;cases h2
     ·exact h
    have pls:P<s.size:=by
     rcases BY P s.size with h|h
     ·exact h
     ·have h3:=hdot.1;rw[Am s P h]at h3;omega
    have bE2:E<=s.size:=by rw[HE.out];exact Ai AM s g (by rw[HG.out];omega)
    have t2:decide (E<=g)=false:=BC;have t3:decide ((E:Int)<=g)=false:=BC;have t4:¬(E:Int)<=g:=by omega
    unfold E4 at hR5;rw[show AF AM s (P+1)=E by rw[HE.out,HG.out]]at hR5;have HR5:=Hi hR5;clear hR5 hdot HR4;obtain⟨b,hb⟩:∃b,b=AE s E:=⟨_,rfl⟩;have CPb:Hid (∀w,Calls Tryz.prog 64 #[.string s,.int .i64 E] w fun e w'=>e= .returned (.int .u8 b)/\w=w'):=Hi (fun w=>by rw[hb];exact E8 s E w);have HB0:=Hi hb;clear hb;obtain⟨TE,hTE⟩:∃T,T=decide (b=101\/b=69):=⟨_,rfl⟩;have HTE:=Hi hTE;clear hTE
    go_upto_region 20 with(first
     | (go_at_call 161;(with_reducible refine(P9.out _).mono ?_);rintro e w' ⟨rfl,rfl⟩)
     | (go_at_call 161;(with_reducible refine(CP2.out _).mono ?_);rintro e w' ⟨rfl,rfl⟩)
     | (go_at_call 64;(with_reducible refine(CPd.out _).mono ?_);rintro e w' ⟨rfl,rfl⟩))
    go_cut [114]from 105 to 114 (fun v wx=>wq=wx/\v= .bool TE)
    case first=>
     by_cases q1:b=101
     ·have u1:(b==101)=true:=beq_of_eq q1;have u2:TE=true:=by rw[HTE.out,AN (.inl q1)]
      subst u2
      go_wp2_with (go_at_call 64;(with_reducible refine(CPb.out _).mono ?_);rintro e w' ⟨rfl,rfl⟩)
      go_meet;exact⟨rfl,rfl⟩
     ·have u1:(b==101)=false:=AA q1;by_cases q2:b=69
      ·have u3:(b==69)=true:=beq_of_eq q2;have u2:TE=true:=by rw[HTE.out,AN (.inr q2)]
       subst u2
       go_wp2_with (go_at_call 64;(with_reducible refine(CPb.out _).mono ?_);rintro e w' ⟨rfl,rfl⟩)
       go_meet;exact⟨rfl,rfl⟩
      ·have u3:(b==69)=false:=AA q2;have u2:TE=false:=by rw[HTE.out];exact AS (fun h=>h.elim q1 q2)
       subst u2
       go_wp2_with (go_at_call 64;(with_reducible refine(CPb.out _).mono ?_);rintro e w' ⟨rfl,rfl⟩)
       go_meet;exact⟨rfl,rfl⟩
    case rest=>
    obtain⟨rfl,rfl⟩:=hcut;obtain⟨x1,hx1⟩:∃x,x=E+1:=⟨_,rfl⟩;have ex1:(E:Int)+1=x1:=by omega
    obtain⟨sb,hsb⟩:∃c,c=AE s x1:=⟨_,rfl⟩;have CPs:Hid (∀w,Calls Tryz.prog 64 #[.string s,.int .i64 x1] w fun e w'=>e= .returned (.int .u8 sb)/\w=w'):=Hi (fun w=>by rw[hsb];exact E8 s x1 w);obtain⟨F,hF⟩:∃F,F=F6 s E:=⟨_,rfl⟩;obtain⟨L,hL⟩:∃L,L=AF AM s F:=⟨_,rfl⟩;have hFx:F=if sb=45\/sb=43 then x1+1 else x1:=by rw[hF,hsb,hx1];rfl
    have bF:F<=140737488355110:=by rw[hFx];split<;>omega
    have CPL:Hid (∀w,Calls Tryz.prog 161 #[.string s,.int .i64 F,.int .i64 3] w (Ag L w)):=Hi (fun w=>by rw[hL];exact Np s F w (by omega) (by omega));have hFL:F<=L:=by rw[hL];exact Ae _ _ _
    have bL:L<=140737488355120:=by
     rcases BY s.size F with h|h
     ·rw[hL,Ac (by omega)];omega
     ·have:=Ai AM s F h;omega
    have hLs:F<L->L<=s.size:=fun h=>by
     rcases BY s.size F with h1|h1
     ·rw[hL,Ac (by omega)]at h;omega
     ·rw[hL];exact Ai AM s F h1
    have DG:Hid (∀j (h:j<s.size),F<=j->j<L->AM s[j].toNat=true):=Hi (fun j h h1 h2=>Bv (a:=F) j h h1 (by rw[<-hL];exact h2));have hI:Bo s E↔(TE=true/\F<L):=by
     unfold Bo;rw[<-hF,<-hL,<-HB0.out,HTE.out];exact⟨fun h=>⟨AN h.1,h.2⟩,fun h=>⟨of_decide_eq_true h.1,h.2⟩⟩
    obtain⟨EV,hEV⟩:∃EV:Int,EV=if Bo s E then ZW s E else 0:=⟨_,rfl⟩;obtain⟨TO,hTO⟩:∃TO:Nat,TO=if Bo s E then L else E:=⟨_,rfl⟩;have hEVd:ZW s E=(if sb=45 then-1 else 1)*(At 10 s F (L-F):Nat):=by
     unfold ZW;rw[<-hF,<-hL,hsb,hx1]
    have HR6:Hid ((Bo s E/\4<L-F->R= .err a 34)/\(¬(Bo s E/\4<L-F)->R=LH s a P EV TO)):=Hi (by
     rw[HR5.out,<-hF,<-hL,hEV,hTO];constructor
     ·rintro⟨h1,h2⟩;rw[if_pos h1,if_pos h2]
     ·intro h;by_cases h1:Bo s E
      ·rw[if_pos h1,if_pos h1,if_pos h1,if_neg (fun h2=>h ⟨h1,h2⟩)]
      ·rw[if_neg h1,if_neg h1,if_neg h1])
    have hVlt:L-F<=4->F<L->At 10 s F (L-F)<10000:=fun h h2=>by
     rw[hL,hF]at h⊢;exact XY h (by have:=hLs h2;omega)
    have HI:=Hi hI;have HEV:=Hi hEV;have HTO:=Hi hTO;have HEVD:=Hi hEVd;have HVL:=Hi hVlt;have HFX:=Hi hFx;have HLS:=Hi hLs;have bTO:TO<=140737488355120:=by rw[hTO];split<;>omega
    have bEV:L-F<=4\/¬Bo s E-> -10000<EV/\EV<10000:=fun h=>by
     rw[hEV];by_cases h1:Bo s E
     ·have h2:=hVlt (by rcases h with h|h;exact h;exact absurd h1 h) (hI.1 h1).2;rw[if_pos h1,hEVd];split<;>omega
     ·rw[if_neg h1];omega
    have BEV:=Hi bEV;clear hI hEV hTO hEVd hVlt hFx hLs hF hL hsb hx1 bEV HR5
    go_upto_if 114 with fail
    go_cut [16,17,18,19,20,21]from 114 to 160 (fun v16 v17 _ _ _ _ wx=>wq=wx/\v16= .int .i64 EV/\v17= .int .i64 TO/\¬(Bo s E/\4<L-F))
    case first=>
     cases hTE2:TE with
     |false=>
      have n1:¬Bo s E:=fun h=>by have:=(HI.out.1 h).1;rw[hTE2]at this;cases this
      have v1:Hid (EV=0/\TO=E):=Hi ⟨by rw[HEV.out,if_neg n1],by rw[HTO.out,if_neg n1]⟩;have NN:Hid (¬(Bo s E/\4<L-F)):=Hi (fun h=>n1 h.1);clear n1;go_wp2;go_meet;exact⟨rfl,by rw[v1.out.1],by rw[v1.out.2],NN.out⟩
     |true=>
      have hs3:(((sb==45)=true)/\F=x1+1/\sb=45)\/(((sb==45)=false/\(sb==43)=true)/\F=x1+1/\sb≠45)\/(((sb==45)=false/\(sb==43)=false)/\F=x1/\sb≠45):=by
       have h0:=HFX.out;by_cases h1:sb=45
       ·left;rw[if_pos (.inl h1)]at h0;exact⟨beq_of_eq h1,h0,h1⟩
       ·by_cases h2:sb=43
        ·right;left;rw[if_pos (.inr h2)]at h0;exact⟨⟨AA h1,beq_of_eq h2⟩,h0,h1⟩
        ·right;right;rw[if_neg (fun h=>h.elim h1 h2)]at h0;exact⟨⟨AA h1,AA h2⟩,h0,h1⟩
      rcases hs3 with⟨s1,s2,s3⟩|⟨⟨s1,s1b⟩,s2,s3⟩|⟨⟨s1,s1b⟩,s2,s3⟩
      ·have eF:(x1:Int)+1=F:=by omega
       by_cases hFL2:F<L
       ·have i1:Bo s E:=HI.out.2 ⟨hTE2,hFL2⟩;have v3:decide (F<L)=true:=AN hFL2;have v4:decide ((F:Int)<L)=true:=A5;have v5:(F:Int)<L:=by omega
        obtain⟨M,hM⟩:∃M,M=L-F:=⟨_,rfl⟩;have eM:(L:Int)-F=M:=by omega
        have bM:M<=140737488355120:=by omega
        by_cases h4:4<M
        ·have HF:Hid (R= .err a 34):=Hi (HR6.out.1 ⟨i1,by omega⟩);have v6:decide ((4:Int)<M)=true:=A5;have v7:(4:Int)<M:=by omega
         clear i1 hM h4 s2 s3
         go_wp2_with (first
          | (go_at_call 64;(with_reducible refine(CPs.out _).mono ?_);rintro e w' ⟨rfl,rfl⟩)
          | (go_at_call 161;(with_reducible refine(CPL.out _).mono ?_);rintro e w' ⟨rfl,rfl⟩))
         refine(Ew a 34 _).mono ?_;rintro e W4 ⟨rfl,b4⟩;unfold As AK;have HKX:=HK.out.below b4;obtain⟨k0,k1,k2,k3,k4,k5,k6⟩:=HKX.cs;obtain⟨f0,f1,f2,f3,f4,f5,f6⟩:=HKX.fs;have HB:=Hi (HBL.out.trans (b4.mono HBL.out.size));clear b4 HKX;go_wp2;refine AI (v:= .tuple #[As a,.int .i64 34]) ?_ rfl (AX.er HF.out ?_)
         ·simp only[results,Tryz.results158];go_simp;rfl
         ·iterate 7 refine By ?_ (by first|omega|(simp only;omega)) _
          exact HB.out
        ·have v6:decide ((4:Int)<M)=false:=BC;have v7:¬(4:Int)<M:=by omega
         have V0:Hid (EV= -(At 10 s F (L-F):Nat)):=Hi (by rw[HEV.out,if_pos i1,HEVD.out,if_pos s3];omega);have V1:Hid (TO=L):=Hi (by rw[HTO.out,if_pos i1]);have NN:Hid (¬(Bo s E/\4<L-F)):=Hi (fun h=>by omega);have vb:=HVL.out (by omega) hFL2;have VB:Hid (∀j,j<=L-F->At 10 s F j<=At 10 s F (L-F)):=Hi (fun j hj=>JO s F hj);have hLs:=HLS.out hFL2;clear i1 hM h4 s2 s3
         go_wp2_with (first
          | (go_at_call 64;(with_reducible refine(CPs.out _).mono ?_);rintro e w' ⟨rfl,rfl⟩)
          | (go_at_call 161;(with_reducible refine(CPL.out _).mono ?_);rintro e w' ⟨rfl,rfl⟩))
         go_loop [16,21] (fun v i=>∃j:Nat,F<=j/\j<=L/\i= .int .i64 j/\v= .int .i64 (At 10 s F (j-F):Nat)) (fun _ i=>L-(intOf i).toNat)
         case atStart=>exact⟨F,nR _,by omega,rfl,by rw[Nat.sub_self];rfl⟩
         case round=>
          obtain⟨j,hj1,hj2,rfl,rfl⟩:=hrel;by_cases hjl:j<L
          ·have hjs:j<s.size:=by omega
           have hx:=DG.out j hjs hj1 hjl;have d9:=Ed hx;have hx2:Ah s[j].toNat=true:=by unfold Ah;rw[hx];rfl
           have CV:Hid (∀w,Calls Tryz.prog 209 #[.int .u8 s[j].toNat] w fun e w'=>e= .returned (.int .i64 (CK s[j].toNat:Nat))/\w=w'):=Hi (fun w=>Tryz.rvalue _ hx2 w);have st:At 10 s F (j+1-F)=At 10 s F (j-F)*10+CK s[j].toNat:=by
            rw[show j+1-F=(j-F)+1 by omega,At,show F+(j-F)=j by omega,AO s j hjs,IT]
           have le:=VB.out (j-F) (by omega);obtain⟨dd,hdd⟩:∃d,d=CK s[j].toNat:=⟨_,rfl⟩;obtain⟨x,hxx⟩:∃x,x=At 10 s F (j-F):=⟨_,rfl⟩;obtain⟨y,hyy⟩:∃y,y=At 10 s F (j+1-F):=⟨_,rfl⟩;rw[<-hdd]at d9 CV st;rw[<-hxx]at st le⊢;rw[<-hyy]at st;have HY:=Hi hyy;have st2:(x:Int)*10+dd=y:=by omega
           have xb:x<=10000:=by omega
           have yb:y<=200000:=by omega
           clear hx hx2 hdd hxx hyy st le
           go_wp2_with (go_at_call 209;(with_reducible refine(CV.out _).mono ?_);rintro e w' ⟨rfl,rfl⟩)
           go_round
           case rel=>exact⟨j+1,by omega,by omega,by go_num,by rw[<-HY.out]⟩
           case measure=>simp[intOf];omega
          ·obtain rfl:j=L:=by omega
           obtain⟨x,hxx⟩:∃x,x=At 10 s F (j-F):=⟨_,rfl⟩;rw[<-hxx]at V0 vb⊢;have wn:IntKind.i64.wrap (-(x:Int))= -(x:Int):=gV _ (by omega);clear hxx;go_wp2;go_meet;exact⟨rfl,by rw[V0.out],by rw[V1.out],NN.out⟩
       ·have i1:¬Bo s E:=fun h=>hFL2 (HI.out.1 h).2;have v3:decide (F<L)=false:=AS hFL2;have v4:decide ((F:Int)<L)=false:=BC;have v5:¬(F:Int)<L:=by omega
        have V0:Hid (EV=0/\TO=E):=Hi ⟨by rw[HEV.out,if_neg i1],by rw[HTO.out,if_neg i1]⟩;have NN:Hid (¬(Bo s E/\4<L-F)):=Hi (fun h=>i1 h.1);clear i1 s2 s3
        go_wp2_with (first
         | (go_at_call 64;(with_reducible refine(CPs.out _).mono ?_);rintro e w' ⟨rfl,rfl⟩)
         | (go_at_call 161;(with_reducible refine(CPL.out _).mono ?_);rintro e w' ⟨rfl,rfl⟩))
        go_meet;exact⟨rfl,by rw[V0.out.1],by rw[V0.out.2],NN.out⟩
      ·have eF:(x1:Int)+1=F:=by omega
       by_cases hFL2:F<L
       ·have i1:Bo s E:=HI.out.2 ⟨hTE2,hFL2⟩;have v3:decide (F<L)=true:=AN hFL2;have v4:decide ((F:Int)<L)=true:=A5;have v5:(F:Int)<L:=by omega
        obtain⟨M,hM⟩:∃M,M=L-F:=⟨_,rfl⟩;have eM:(L:Int)-F=M:=by omega
        have bM:M<=140737488355120:=by omega
        by_cases h4:4<M
        ·have HF:Hid (R= .err a 34):=Hi (HR6.out.1 ⟨i1,by omega⟩);have v6:decide ((4:Int)<M)=true:=A5;have v7:(4:Int)<M:=by omega
         clear i1 hM h4 s2 s3
         go_wp2_with (first
          | (go_at_call 64;(with_reducible refine(CPs.out _).mono ?_);rintro e w' ⟨rfl,rfl⟩)
          | (go_at_call 161;(with_reducible refine(CPL.out _).mono ?_);rintro e w' ⟨rfl,rfl⟩))
         refine(Ew a 34 _).mono ?_;rintro e W4 ⟨rfl,b4⟩;unfold As AK;have HKX:=HK.out.below b4;obtain⟨k0,k1,k2,k3,k4,k5,k6⟩:=HKX.cs;obtain⟨f0,f1,f2,f3,f4,f5,f6⟩:=HKX.fs;have HB:=Hi (HBL.out.trans (b4.mono HBL.out.size));clear b4 HKX;go_wp2;refine AI (v:= .tuple #[As a,.int .i64 34]) ?_ rfl (AX.er HF.out ?_)
         ·simp only[results,Tryz.results158];go_simp;rfl
         ·iterate 7 refine By ?_ (by first|omega|(simp only;omega)) _
          exact HB.out
        ·have v6:decide ((4:Int)<M)=false:=BC;have v7:¬(4:Int)<M:=by omega
         have V0:Hid (EV=(At 10 s F (L-F):Nat)):=Hi (by rw[HEV.out,if_pos i1,HEVD.out,if_neg s3];omega);have V1:Hid (TO=L):=Hi (by rw[HTO.out,if_pos i1]);have NN:Hid (¬(Bo s E/\4<L-F)):=Hi (fun h=>by omega);have vb:=HVL.out (by omega) hFL2;have VB:Hid (∀j,j<=L-F->At 10 s F j<=At 10 s F (L-F)):=Hi (fun j hj=>JO s F hj);have hLs:=HLS.out hFL2;clear i1 hM h4 s2 s3
         go_wp2_with (first
          | (go_at_call 64;(with_reducible refine(CPs.out _).mono ?_);rintro e w' ⟨rfl,rfl⟩)
          | (go_at_call 161;(with_reducible refine(CPL.out _).mono ?_);rintro e w' ⟨rfl,rfl⟩))
         go_loop [16,21] (fun v i=>∃j:Nat,F<=j/\j<=L/\i= .int .i64 j/\v= .int .i64 (At 10 s F (j-F):Nat)) (fun _ i=>L-(intOf i).toNat)
         case atStart=>exact⟨F,nR _,by omega,rfl,by rw[Nat.sub_self];rfl⟩
         case round=>
          obtain⟨j,hj1,hj2,rfl,rfl⟩:=hrel;by_cases hjl:j<L
          ·have hjs:j<s.size:=by omega
           have hx:=DG.out j hjs hj1 hjl;have d9:=Ed hx;have hx2:Ah s[j].toNat=true:=by unfold Ah;rw[hx];rfl
           have CV:Hid (∀w,Calls Tryz.prog 209 #[.int .u8 s[j].toNat] w fun e w'=>e= .returned (.int .i64 (CK s[j].toNat:Nat))/\w=w'):=Hi (fun w=>Tryz.rvalue _ hx2 w);have st:At 10 s F (j+1-F)=At 10 s F (j-F)*10+CK s[j].toNat:=by
            rw[show j+1-F=(j-F)+1 by omega,At,show F+(j-F)=j by omega,AO s j hjs,IT]
           have le:=VB.out (j-F) (by omega);obtain⟨dd,hdd⟩:∃d,d=CK s[j].toNat:=⟨_,rfl⟩;obtain⟨x,hxx⟩:∃x,x=At 10 s F (j-F):=⟨_,rfl⟩;obtain⟨y,hyy⟩:∃y,y=At 10 s F (j+1-F):=⟨_,rfl⟩;rw[<-hdd]at d9 CV st;rw[<-hxx]at st le⊢;rw[<-hyy]at st;have HY:=Hi hyy;have st2:(x:Int)*10+dd=y:=by omega
           have xb:x<=10000:=by omega
           have yb:y<=200000:=by omega
           clear hx hx2 hdd hxx hyy st le
           go_wp2_with (go_at_call 209;(with_reducible refine(CV.out _).mono ?_);rintro e w' ⟨rfl,rfl⟩)
           go_round
           case rel=>exact⟨j+1,by omega,by omega,by go_num,by rw[<-HY.out]⟩
           case measure=>simp[intOf];omega
          ·obtain rfl:j=L:=by omega
           obtain⟨x,hxx⟩:∃x,x=At 10 s F (j-F):=⟨_,rfl⟩;rw[<-hxx]at V0 vb⊢;have wn:IntKind.i64.wrap (-(x:Int))= -(x:Int):=gV _ (by omega);clear hxx;go_wp2;go_meet;exact⟨rfl,by rw[V0.out],by rw[V1.out],NN.out⟩
       ·have i1:¬Bo s E:=fun h=>hFL2 (HI.out.1 h).2;have v3:decide (F<L)=false:=AS hFL2;have v4:decide ((F:Int)<L)=false:=BC;have v5:¬(F:Int)<L:=by omega
        have V0:Hid (EV=0/\TO=E):=Hi ⟨by rw[HEV.out,if_neg i1],by rw[HTO.out,if_neg i1]⟩;have NN:Hid (¬(Bo s E/\4<L-F)):=Hi (fun h=>i1 h.1);clear i1 s2 s3
        go_wp2_with (first
         | (go_at_call 64;(with_reducible refine(CPs.out _).mono ?_);rintro e w' ⟨rfl,rfl⟩)
         | (go_at_call 161;(with_reducible refine(CPL.out _).mono ?_);rintro e w' ⟨rfl,rfl⟩))
        go_meet;exact⟨rfl,by rw[V0.out.1],by rw[V0.out.2],NN.out⟩
      ·obtain rfl:F=x1:=s2;by_cases hFL2:F<L
       ·have i1:Bo s E:=HI.out.2 ⟨hTE2,hFL2⟩;have v3:decide (F<L)=true:=AN hFL2;have v4:decide ((F:Int)<L)=true:=A5;have v5:(F:Int)<L:=by omega
        obtain⟨M,hM⟩:∃M,M=L-F:=⟨_,rfl⟩;have eM:(L:Int)-F=M:=by omega
        have bM:M<=140737488355120:=by omega
        by_cases h4:4<M
        ·have HF:Hid (R= .err a 34):=Hi (HR6.out.1 ⟨i1,by omega⟩);have v6:decide ((4:Int)<M)=true:=A5;have v7:(4:Int)<M:=by omega
         clear i1 hM h4 s3
         go_wp2_with (first
          | (go_at_call 64;(with_reducible refine(CPs.out _).mono ?_);rintro e w' ⟨rfl,rfl⟩)
          | (go_at_call 161;(with_reducible refine(CPL.out _).mono ?_);rintro e w' ⟨rfl,rfl⟩))
         refine(Ew a 34 _).mono ?_;rintro e W4 ⟨rfl,b4⟩;unfold As AK;have HKX:=HK.out.below b4;obtain⟨k0,k1,k2,k3,k4,k5,k6⟩:=HKX.cs;obtain⟨f0,f1,f2,f3,f4,f5,f6⟩:=HKX.fs;have HB:=Hi (HBL.out.trans (b4.mono HBL.out.size));clear b4 HKX;go_wp2;refine AI (v:= .tuple #[As a,.int .i64 34]) ?_ rfl (AX.er HF.out ?_)
         ·simp only[results,Tryz.results158];go_simp;rfl
         ·iterate 7 refine By ?_ (by first|omega|(simp only;omega)) _
          exact HB.out
        ·have v6:decide ((4:Int)<M)=false:=BC;have v7:¬(4:Int)<M:=by omega
         have V0:Hid (EV=(At 10 s F (L-F):Nat)):=Hi (by rw[HEV.out,if_pos i1,HEVD.out,if_neg s3];omega);have V1:Hid (TO=L):=Hi (by rw[HTO.out,if_pos i1]);have NN:Hid (¬(Bo s E/\4<L-F)):=Hi (fun h=>by omega);have vb:=HVL.out (by omega) hFL2;have VB:Hid (∀j,j<=L-F->At 10 s F j<=At 10 s F (L-F)):=Hi (fun j hj=>JO s F hj);have hLs:=HLS.out hFL2;clear i1 hM h4 s3
         go_wp2_with (first
          | (go_at_call 64;(with_reducible refine(CPs.out _).mono ?_);rintro e w' ⟨rfl,rfl⟩)
          | (go_at_call 161;(with_reducible refine(CPL.out _).mono ?_);rintro e w' ⟨rfl,rfl⟩))
         go_loop [16,21] (fun v i=>∃j:Nat,F<=j/\j<=L/\i= .int .i64 j/\v= .int .i64 (At 10 s F (j-F):Nat)) (fun _ i=>L-(intOf i).toNat)
         case atStart=>exact⟨F,nR _,by omega,rfl,by rw[Nat.sub_self];rfl⟩
         case round=>
          obtain⟨j,hj1,hj2,rfl,rfl⟩:=hrel;by_cases hjl:j<L
          ·have hjs:j<s.size:=by omega
           have hx:=DG.out j hjs hj1 hjl;have d9:=Ed hx;have hx2:Ah s[j].toNat=true:=by unfold Ah;rw[hx];rfl
           have CV:Hid (∀w,Calls Tryz.prog 209 #[.int .u8 s[j].toNat] w fun e w'=>e= .returned (.int .i64 (CK s[j].toNat:Nat))/\w=w'):=Hi (fun w=>Tryz.rvalue _ hx2 w);have st:At 10 s F (j+1-F)=At 10 s F (j-F)*10+CK s[j].toNat:=by
            rw[show j+1-F=(j-F)+1 by omega,At,show F+(j-F)=j by omega,AO s j hjs,IT]
           have le:=VB.out (j-F) (by omega);obtain⟨dd,hdd⟩:∃d,d=CK s[j].toNat:=⟨_,rfl⟩;obtain⟨x,hxx⟩:∃x,x=At 10 s F (j-F):=⟨_,rfl⟩;obtain⟨y,hyy⟩:∃y,y=At 10 s F (j+1-F):=⟨_,rfl⟩;rw[<-hdd]at d9 CV st;rw[<-hxx]at st le⊢;rw[<-hyy]at st;have HY:=Hi hyy;have st2:(x:Int)*10+dd=y:=by omega
           have xb:x<=10000:=by omega
           have yb:y<=200000:=by omega
           clear hx hx2 hdd hxx hyy st le
           go_wp2_with (go_at_call 209;(with_reducible refine(CV.out _).mono ?_);rintro e w' ⟨rfl,rfl⟩)
           go_round
           case rel=>exact⟨j+1,by omega,by omega,by go_num,by rw[<-HY.out]⟩
           case measure=>simp[intOf];omega
          ·obtain rfl:j=L:=by omega
           obtain⟨x,hxx⟩:∃x,x=At 10 s F (j-F):=⟨_,rfl⟩;rw[<-hxx]at V0 vb⊢;have wn:IntKind.i64.wrap (-(x:Int))= -(x:Int):=gV _ (by omega);clear hxx;go_wp2;go_meet;exact⟨rfl,by rw[V0.out],by rw[V1.out],NN.out⟩
       ·have i1:¬Bo s E:=fun h=>hFL2 (HI.out.1 h).2;have v3:decide (F<L)=false:=AS hFL2;have v4:decide ((F:Int)<L)=false:=BC;have v5:¬(F:Int)<L:=by omega
        have V0:Hid (EV=0/\TO=E):=Hi ⟨by rw[HEV.out,if_neg i1],by rw[HTO.out,if_neg i1]⟩;have NN:Hid (¬(Bo s E/\4<L-F)):=Hi (fun h=>i1 h.1);clear i1 s3
        go_wp2_with (first
         | (go_at_call 64;(with_reducible refine(CPs.out _).mono ?_);rintro e w' ⟨rfl,rfl⟩)
         | (go_at_call 161;(with_reducible refine(CPL.out _).mono ?_);rintro e w' ⟨rfl,rfl⟩))
        go_meet;exact⟨rfl,by rw[V0.out.1],by rw[V0.out.2],NN.out⟩
    case rest=>
    obtain⟨rfl,rfl,rfl,hnn⟩:=hcut;have HR7:=HR6.out.2 hnn;have bEV:=BEV.out (by
     rcases Classical.em (Bo s E)with h|h
     ·exact .inl (Nat.le_of_not_lt (fun h2=>hnn ⟨h,h2⟩))
     ·exact .inr h)
    have HR8:=Hi HR7;clear hnn HR7 HR6 HI HEV HTO HEVD HVL HFX HLS BEV DG CPL CPs CPb;obtain⟨b1,b2⟩:=bEV;obtain⟨M1,hM1⟩:∃M,M=E-a:=⟨_,rfl⟩;have eM1:(E:Int)-a=M1:=by omega
    obtain⟨M2,hM2⟩:∃M,M=M1-1:=⟨_,rfl⟩;have eM2:(M1:Int)-1=M2:=by omega
    have bM1:M1<=140737488355100:=by omega
    have bM2:M2<=140737488355100:=by omega
    by_cases h400:400<M2
    ·have HF:Hid (R= .err a 34):=Hi (by rw[HR8.out];exact Wj (by rw[<-HG.out,<-HE.out];omega));have v6:decide ((400:Int)<M2)=true:=A5;have v7:(400:Int)<M2:=by omega
     clear h400 hM1 hM2
     go_wp2_with fail
     refine(Ew a 34 _).mono ?_;rintro e W4 ⟨rfl,b4⟩;unfold As AK;have HKX:=HK.out.below b4;obtain⟨k0,k1,k2,k3,k4,k5,k6⟩:=HKX.cs;obtain⟨f0,f1,f2,f3,f4,f5,f6⟩:=HKX.fs;have HB:=Hi (HBL.out.trans (b4.mono HBL.out.size));clear b4 HKX;go_wp2;refine AI (v:= .tuple #[As a,.int .i64 34]) ?_ rfl (AX.er HF.out ?_)
     ·simp only[results,Tryz.results158];go_simp;rfl
     ·iterate 7 refine By ?_ (by first|omega|(simp only;omega)) _
      exact HB.out
    have v6:decide ((400:Int)<M2)=false:=BC;have v7:¬(400:Int)<M2:=by omega
    have zD:(GP s a P).size=(P-a)+(E-g):=by rw[MU (by omega) pls,<-HG.out,<-HE.out]
    have dD:=Oy (s:=s) (a:=a) (p:=P) HPP.out pls;obtain⟨X,hX⟩:∃X,X=vN 10 (GP s a P) (GP s a P).size:=⟨_,rfl⟩;have hX4:X<10^400:=by
     rw[hX];exact IN (Zp _ (fun j hj=>dD j hj)) (cJ (N:=400) (by omega))
    have hXL:X<2^LE:=Nat.lt_trans hX4 (Nat.lt_trans WH (cZ (N:=2000) (M:=LE) (by rw[WB];decide)));have CPR:Hid (∀W,Calls Tryz.prog 210 #[.string (s.extract a P++s.extract g E),.int .i64 10] W fun e W'=>∃(ja:Option Addr) (jm jc:Nat),e= .returned (.tuple #[.agg #[.bool false,.slice ja jm jc],.int .i64 0])/\T2 X jm/\Ap W' (.slice ja jm jc) X jm/\Below W.heap.size W W'):=Hi (fun W=>by
     have h1:s.extract a P++s.extract g E=GP s a P:=by unfold GP;rw[<-HG.out,<-HE.out]
     rw[h1];refine(Ug (GP s a P) 10 W (by omega) (by omega) (by decide) (by decide) (Hi dD)).mono fun e W' h=> ?_;obtain⟨sl,m,he,h2,h3,h4⟩:=h.1 (by rw[<-hX];exact hXL);rw[<-hX]at h2 h3;obtain⟨ja,jc,rfl⟩:=h3.slice;exact⟨ja,m,jc,he,h2,h3,h4⟩)
    have HX4:=Hi hX4;have HX:=Hi hX;have H400:Hid (¬400<AF AM s (P+1)-a-1):=Hi (by rw[<-HG.out,<-HE.out];omega);clear hX4 hXL zD dD hX;obtain⟨N1,hN1⟩:∃N,N=E-P:=⟨_,rfl⟩;have eN1:(E:Int)-P=N1:=by omega
    obtain⟨N2,hN2⟩:∃N,N=N1-1:=⟨_,rfl⟩;have eN2:(N1:Int)-1=N2:=by omega
    obtain⟨xx,hxx⟩:∃x:Int,x=EV-N2:=⟨_,rfl⟩;have exx:EV-(N2:Int)=xx:=hxx.symm;have bN1:N1<=1000:=by omega
    have bxx1: -100000<=xx:=by omega
    have bxx2:xx<=100000:=by omega
    obtain⟨fb,hfb⟩:∃b,b=IC X xx:=⟨_,rfl⟩;have HFD:=Ww (s:=s) (a:=a) (p:=P) (t:=TO) (b:=fb) (x:=EV) H400.out (by
     rw[hfb,HX.out,hxx,<-HG.out,<-HE.out];congr 1;omega)
    rw[<-HR8.out]at HFD;have HFD:=Hi HFD;have CDC:Hid (∀(ja:Option Addr) (jm jc:Nat) (W:World),Ap W (.slice ja jm jc) X jm->T2 X jm->Calls Tryz.prog 211 #[.agg #[.bool false,.slice ja jm jc],.int .i64 xx] W (KO fb W)):=Hi (fun ja jm jc W h1 h2=>by rw[hfb];exact Ws _ X jm xx W h1 h2 HX4 bxx1 bxx2);have w8:∀W,(Instr.slice 9 (.string s) (some (.int .i64 (a:Int))) (some (.int .i64 (P:Int))) none).run Tryz.prog W= .ok (.string (s.extract a P)) W:=fun W=>by
     have:=eE (P:=Tryz.prog) (w:=W) 9 s .i64 .i64 (a:Int) (P:Int) Tryz.underlying9 (by omega) (by omega) (by omega);rw[show((a:Int)).toNat=a by omega,show((P:Int)).toNat=P by omega]at this;exact this
    have w9:∀W,(Instr.slice 9 (.string s) (some (.int .i64 (g:Int))) (some (.int .i64 (E:Int))) none).run Tryz.prog W= .ok (.string (s.extract g E)) W:=fun W=>by
     have:=eE (P:=Tryz.prog) (w:=W) 9 s .i64 .i64 (g:Int) (E:Int) Tryz.underlying9 (by omega) (by omega) (by omega);rw[show((g:Int)).toNat=g by omega,show((E:Int)).toNat=E by omega]at this;exact this
    have bg:g<=140737488355100:=by omega
    have wg:IntKind.i64.wrap (g:Int)=g:=gV _ (by omega);have bsum:P-a+(E-g)<=9223372036854775807:=by omega
    have W8:=Hi w8;have W9:=Hi w9;clear w8 w9 hfb hxx hN1 hN2 h400 hM1 hM2
    go_upto_region 38 with fail
    go_cut [22,23]from 170 to 183 (fun v22 _ wx=>∃bb ja jm jc,v22= .pointer (some ⟨bb,0,none⟩)/\Ce wx bb (.bool false) (.slice ja jm jc)/\T2 X jm/\Ap wx (.slice ja jm jc) X jm/\Below wq.heap.size wq wx)
    case first=>
     refine wp_region_held_drew (S:=fun W=>Below wq.heap.size wq W) (by kernel_rfl) Ct (fun hS=> ?_);refine wpAnyH_take (i:=0) (oi:=_) (v:= .string s) rfl (by kernel_rfl) (by kernel_rfl) (by kernel_rfl) (fun _ _ _ h=>h) (Or.inl ⟨by rfl,?_⟩) hS ?_
     ·intro W hSW;go_simp
     simp only[Bc,BW,Ba,Act.put,BX,Bb,BU];refine wpAnyH_take (i:=1) (oi:=_) (v:= .int .i64 a) rfl (by kernel_rfl) (by kernel_rfl) (by kernel_rfl) (fun _ _ _ h=>h) (Or.inl ⟨by rfl,?_⟩) hS ?_
     ·intro W hSW;go_simp
     simp only[Bc,BW,Ba,Act.put,BX,Bb,BU];refine wpAnyH_take (i:=2) (oi:=_) (v:= .int .i64 P) rfl (by kernel_rfl) (by kernel_rfl) (by kernel_rfl) (fun _ _ _ h=>h) (Or.inl ⟨by rfl,?_⟩) hS ?_
     ·intro W hSW;go_simp
     simp only[Bc,BW,Ba,Act.put,BX,Bb,BU];refine wpAnyH_take (i:=3) (oi:=_) (v:= .string (s.extract a P)) rfl (by kernel_rfl) (by kernel_rfl) (by kernel_rfl) (fun _ _ _ h=>h) (Or.inl ⟨by rfl,?_⟩) hS ?_
     ·intro W hSW;have h8:=W8.out W;go_simp
     simp only[Bc,BW,Ba,Act.put,BX,Bb,BU];refine wpAnyH_take (i:=4) (oi:=_) (v:= .string s) rfl (by kernel_rfl) (by kernel_rfl) (by kernel_rfl) (fun _ _ _ h=>h) (Or.inl ⟨by rfl,?_⟩) hS ?_
     ·intro W hSW;go_simp
     simp only[Bc,BW,Ba,Act.put,BX,Bb,BU];refine wpAnyH_take (i:=5) (oi:=_) (v:= .int .i64 P) rfl (by kernel_rfl) (by kernel_rfl) (by kernel_rfl) (fun _ _ _ h=>h) (Or.inl ⟨by rfl,?_⟩) hS ?_
     ·intro W hSW;go_simp
     simp only[Bc,BW,Ba,Act.put,BX,Bb,BU];refine wpAnyH_take (i:=6) (oi:=_) (v:= .int .i64 g) rfl (by kernel_rfl) (by kernel_rfl) (by kernel_rfl) (fun _ _ _ h=>h) (Or.inl ⟨by rfl,?_⟩) hS ?_
     ·intro W hSW;go_simp
     simp only[Bc,BW,Ba,Act.put,BX,Bb,BU];refine wpAnyH_take (i:=7) (oi:=_) (v:= .int .i64 E) rfl (by kernel_rfl) (by kernel_rfl) (by kernel_rfl) (fun _ _ _ h=>h) (Or.inl ⟨by rfl,?_⟩) hS ?_
     ·intro W hSW;go_simp
     simp only[Bc,BW,Ba,Act.put,BX,Bb,BU];refine wpAnyH_take (i:=8) (oi:=_) (v:= .string (s.extract g E)) rfl (by kernel_rfl) (by kernel_rfl) (by kernel_rfl) (fun _ _ _ h=>h) (Or.inl ⟨by rfl,?_⟩) hS ?_
     ·intro W hSW;have h9:=W9.out W;go_simp
     simp only[Bc,BW,Ba,Act.put,BX,Bb,BU];refine wpAnyH_take (i:=9) (oi:=_) (v:= .string (s.extract a P++s.extract g E)) rfl (by kernel_rfl) (by kernel_rfl) (by kernel_rfl) (fun _ _ _ h=>h) (Or.inl ⟨by rfl,?_⟩) hS ?_
     ·intro W hSW;go_simp
     simp only[Bc,BW,Ba,Act.put,BX,Bb,BU];obtain⟨Wd,hWd⟩:∃v,v=wq.drew:=⟨_,rfl⟩;rw[<-hWd]at hS⊢;clear hWd;refine wpAnyH_ready (rs:= [10,14]) (by kernel_rfl) (by simp) ?_;refine AllReadyH.cons rfl (fun K hK=> ?_) ?_
     ·refine AW (by rfl) 210 [.tmp 180,.const (.int .i64 10)] #[9,3] (by rfl) #[.string (s.extract a P++s.extract g E),.int .i64 10] (by kernel_rfl) Og ((CPR.out _).mono ?_);rintro e Wn ⟨ja,jm,jc,rfl,htq,hq,hb⟩;refine⟨_,rfl,?_⟩;refine hK.out _ _ (hS.trans (hb.mono hS.size)) (fun hS=> ?_);simp only[Bc,BW,Ba,Act.put,BX,Bb,BU];refine wpAnyH_take (i:=11) (oi:=_) (v:= .tuple #[.agg #[.bool false,.slice ja jm jc],.int .i64 0]) rfl (by kernel_rfl) (by kernel_rfl) (by kernel_rfl) (fun _ _ _ h=>h) (Or.inl ⟨by rfl,?_⟩) hS ?_
      ·intro W hSW;go_simp
      simp only[Bc,BW,Ba,Act.put,BX,Bb,BU];refine wpAnyH_take (i:=12) (oi:=_) (v:= .agg #[.bool false,.slice ja jm jc]) rfl (by kernel_rfl) (by kernel_rfl) (by kernel_rfl) (fun _ _ _ h=>h) (Or.inl ⟨by rfl,?_⟩) hS ?_
      ·intro W hSW;go_simp
      simp only[Bc,BW,Ba,Act.put,BX,Bb,BU];refine wpAnyH_take (i:=13) (oi:=_) (v:= .int .i64 0) rfl (by kernel_rfl) (by kernel_rfl) (by kernel_rfl) (fun _ _ _ h=>h) (Or.inl ⟨by rfl,?_⟩) hS ?_
      ·intro W hSW;go_simp
      simp only[Bc,BW,Ba,Act.put,BX,Bb,BU];refine wpAnyH_ready (rs:= [14]) (by kernel_rfl) (by simp) ?_;refine AllReadyH.cons rfl (fun K hK=> ?_) AllReadyH.nil;have hS0:=hS;go_simp;refine hK.out _ _ (hS.alloc hS.size _) (fun hS=> ?_);have t9:=Bm.DM Wn;have hbA:Below Wn.heap.size Wn (Wn.alloc (.cells #[.bool false,.slice none 0 0] 135)):=(AH _ _).alloc (nR _) _;have hq:=hq.below hbA;have g9:wq.heap.size<=Wn.heap.size:=hS0.size;obtain⟨bb,hbb⟩:∃b,b=Wn.heap.size:=⟨_,rfl⟩;rw[<-hbb]at t9 g9⊢;obtain⟨Wa,hWa⟩:∃v,v=Wn.alloc (.cells #[.bool false,.slice none 0 0] 135):=⟨_,rfl⟩;rw[<-hWa]at hS t9 hq⊢;clear hWa hbA hbb hS0;refine wpAnyH_ready (rs:= [15]) (by kernel_rfl) (by simp) ?_;refine AllReadyH.cons rfl (fun K hK=> ?_) AllReadyH.nil;have e0:=t9.c0;have e1:=t9.c1;have e2:=t9.f 0;have e3:=t9.f 1;go_simp;refine hK.out _ _ ((hS.setCell (p:=⟨bb,0,none⟩) g9 _).setCell (p:=⟨bb,1,none⟩) g9 _) (fun hS=> ?_);clear hK;have ce9:=t9.ce.set (.bool false) (.slice ja jm jc);have hq:=hq.tok t9 (.bool false) (.slice ja jm jc);clear e0 e1 e2 e3;refine wpAnyH_take (i:=16) (oi:=_) (v:= .int .i64 0) rfl (by kernel_rfl) (by kernel_rfl) (by kernel_rfl) (fun _ _ _ h=>h) (Or.inl ⟨by rfl,?_⟩) hS ?_
      ·intro W hSW;go_simp
      simp only[Bc,BW,Ba,Act.put,BX,Bb,BU];refine wpAnyH_done (by kernel_rfl) ?_ _;go_wp2;go_meet;exact⟨bb,ja,jm,jc,rfl,ce9,htq,hq,hS⟩
     refine AllReadyH.cons rfl (fun K hK=> ?_) AllReadyH.nil;have hS0:=hS;go_simp;refine hK.out _ _ (hS.alloc hS.size _) (fun hS=> ?_);have t9:=Bm.DM Wd;have g9:wq.heap.size<=Wd.heap.size:=hS0.size;obtain⟨bb,hbb⟩:∃b,b=Wd.heap.size:=⟨_,rfl⟩;rw[<-hbb]at t9 g9⊢;obtain⟨Wa,hWa⟩:∃v,v=Wd.alloc (.cells #[.bool false,.slice none 0 0] 135):=⟨_,rfl⟩;rw[<-hWa]at hS t9⊢;clear hWa hbb hS0;refine wpAnyH_ready (rs:= [10]) (by kernel_rfl) (by simp) ?_;refine AllReadyH.cons rfl (fun K hK=> ?_) AllReadyH.nil;refine AW (by rfl) 210 [.tmp 180,.const (.int .i64 10)] #[9,3] (by rfl) #[.string (s.extract a P++s.extract g E),.int .i64 10] (by kernel_rfl) Og ((CPR.out _).mono ?_);rintro e Wn ⟨ja,jm,jc,rfl,htq,hq,hb⟩;refine⟨_,rfl,?_⟩;refine hK.out _ _ (hS.trans (hb.mono hS.size)) (fun hS=> ?_);simp only[Bc,BW,Ba,Act.put,BX,Bb,BU];have t9:=t9.below hb;refine wpAnyH_take (i:=11) (oi:=_) (v:= .tuple #[.agg #[.bool false,.slice ja jm jc],.int .i64 0]) rfl (by kernel_rfl) (by kernel_rfl) (by kernel_rfl) (fun _ _ _ h=>h) (Or.inl ⟨by rfl,?_⟩) hS ?_
     ·intro W hSW;go_simp
     simp only[Bc,BW,Ba,Act.put,BX,Bb,BU];refine wpAnyH_take (i:=12) (oi:=_) (v:= .agg #[.bool false,.slice ja jm jc]) rfl (by kernel_rfl) (by kernel_rfl) (by kernel_rfl) (fun _ _ _ h=>h) (Or.inl ⟨by rfl,?_⟩) hS ?_
     ·intro W hSW;go_simp
     simp only[Bc,BW,Ba,Act.put,BX,Bb,BU];refine wpAnyH_take (i:=13) (oi:=_) (v:= .int .i64 0) rfl (by kernel_rfl) (by kernel_rfl) (by kernel_rfl) (fun _ _ _ h=>h) (Or.inl ⟨by rfl,?_⟩) hS ?_
     ·intro W hSW;go_simp
     simp only[Bc,BW,Ba,Act.put,BX,Bb,BU];refine wpAnyH_ready (rs:= [15]) (by kernel_rfl) (by simp) ?_;refine AllReadyH.cons rfl (fun K hK=> ?_) AllReadyH.nil;have e0:=t9.c0;have e1:=t9.c1;have e2:=t9.f 0;have e3:=t9.f 1;go_simp;refine hK.out _ _ ((hS.setCell (p:=⟨bb,0,none⟩) g9 _).setCell (p:=⟨bb,1,none⟩) g9 _) (fun hS=> ?_);clear hK;have ce9:=t9.ce.set (.bool false) (.slice ja jm jc);have hq:=hq.tok t9 (.bool false) (.slice ja jm jc);clear e0 e1 e2 e3;refine wpAnyH_take (i:=16) (oi:=_) (v:= .int .i64 0) rfl (by kernel_rfl) (by kernel_rfl) (by kernel_rfl) (fun _ _ _ h=>h) (Or.inl ⟨by rfl,?_⟩) hS ?_
     ·intro W hSW;go_simp
     simp only[Bc,BW,Ba,Act.put,BX,Bb,BU];refine wpAnyH_done (by kernel_rfl) ?_ _;go_wp2;go_meet;exact⟨bb,ja,jm,jc,rfl,ce9,htq,hq,hS⟩
    case rest=>
    obtain⟨bb,ja,jm,jc,rfl,ce9,htq,hq,hS9⟩:=hcut;obtain⟨w9,hw9⟩:∃v,v=wc:=⟨_,rfl⟩;rw[<-hw9]at ce9 hq hS9⊢;clear hw9;have l0:=ce9.c0;have l1:=ce9.c1;have HK9:=Hi (HK.out.below hS9);have HBL9:=Hi (HBL.out.trans (hS9.mono HBL.out.size));have CDD:=CDC.out ja jm jc w9 hq htq;clear hq htq hS9 ce9 CDC CPR;unfold KO WV at CDD;clear HK HBL;by_cases hfin:fb<BR
    ·have HF:=Hi (HFD.out.1 hfin);rw[if_pos hfin,AN hfin]at CDD;have CDD:=Hi CDD;clear hfin
     go_wp2_with fail
     refine CDD.out.mono ?_;rintro e W7 ⟨rfl,b7⟩;have HKX:=HK9.out.below b7;obtain⟨k0,k1,k2,k3,k4,k5,k6⟩:=HKX.cs;obtain⟨f0,f1,f2,f3,f4,f5,f6⟩:=HKX.fs;have HB:=Hi (HBL9.out.trans (b7.mono HBL9.out.size));clear b7 HKX CDD l0 l1;go_wp2;refine AI (v:= .tuple #[AK 5 ⟨#[]⟩ ⟨#[]⟩ fb a TO false,.int .i64 0]) ?_ rfl (AX.ok HF.out ?_)
     ·simp only[results,Tryz.results158];go_simp;rfl
     ·iterate 7 refine By ?_ (by first|omega|(simp only;omega)) _
      exact HB.out
    ·have HF:=Hi (HFD.out.2 hfin);rw[if_neg hfin,AS hfin]at CDD;have CDD:=Hi CDD;clear hfin
     go_wp2_with fail
     refine CDD.out.mono ?_;rintro e W7 ⟨rfl,b7⟩;have HK:=Hi (HK9.out.below b7);have HBL:=Hi (HBL9.out.trans (b7.mono HBL9.out.size));clear b7 CDD l0 l1
     go_wp2_with fail
     refine(Ew a 34 _).mono ?_;rintro e W4 ⟨rfl,b4⟩;unfold As AK;have HKX:=HK.out.below b4;obtain⟨k0,k1,k2,k3,k4,k5,k6⟩:=HKX.cs;obtain⟨f0,f1,f2,f3,f4,f5,f6⟩:=HKX.fs;have HB:=Hi (HBL.out.trans (b4.mono HBL.out.size));clear b4 HKX;go_wp2;refine AI (v:= .tuple #[As a,.int .i64 34]) ?_ rfl (AX.er HF.out ?_)
     ·simp only[results,Tryz.results158];go_simp;rfl
     ·iterate 7 refine By ?_ (by first|omega|(simp only;omega)) _
      exact HB.out
   ·have hR5:=HR4.out;rw[if_neg hdot]at hR5;have CW:=fun w=>Ka s a a P 10 w hs hPgt hPle (by decide) (by decide) (by rw[HPP.out];exact Fo (fun _ h=>Ed h) (by omega));obtain⟨RR,hRR⟩:∃RR,RR=B5 s a a P 10:=⟨_,rfl⟩;rw[<-hRR]at CW hR5;have CWX:=Hi CW;have HF:=Hi hR5;have hq:((d !=46)=true)\/((d !=46)=false/\E=g):=by
     by_cases h1:d=46
     ·right;refine⟨BI h1,?_⟩;rw[HE.out];refine(Lk (p:=AM) (s:=s) (f:=g) rfl).2 ?_;rw[Lq,HG.out];intro h2;exact hdot ⟨by rw[<-HD.out];exact h1,h2⟩
     ·exact .inl (Cd h1)
    clear hdot hR5 CW hRR HR4;rcases hq with h1|⟨h1,h2⟩
    ·go_wp2_with (first
      | (go_at_call 161;(with_reducible refine(P9.out _).mono ?_);rintro e w' ⟨rfl,rfl⟩)
      | (go_at_call 161;(with_reducible refine(CP2.out _).mono ?_);rintro e w' ⟨rfl,rfl⟩)
      | (go_at_call 64;(with_reducible refine(CPd.out _).mono ?_);rintro e w' ⟨rfl,rfl⟩))
     refine(CWX.out _).mono ?_;rintro e W4 ⟨rfl,b4⟩;have HKX:=HK.out.below b4;obtain⟨k0,k1,k2,k3,k4,k5,k6⟩:=HKX.cs;obtain⟨f0,f1,f2,f3,f4,f5,f6⟩:=HKX.fs;have HB:=Hi (HBL.out.trans (b4.mono HBL.out.size));obtain⟨tk,ttx,tnu,tbits,tat,ten,htok⟩:=TR.EP RR;rw[htok];have HTOK:=Hi htok;obtain⟨ter,hter⟩:∃ter:Int,ter=(TR.er RR:Nat):=⟨_,rfl⟩;rw[<-hter];have HTER:=Hi hter;clear b4 HKX htok hter;unfold AK;go_wp2;refine AI (v:= .tuple #[AK tk ttx tnu tbits tat ten false,.int .i64 ter]) ?_ rfl (AX.of (by rw[HF.out];exact HTOK.out) (by rw[HF.out];exact HTER.out) ?_)
     ·simp only[results,Tryz.results158];go_simp;rfl
     ·iterate 7 refine By ?_ (by first|omega|(simp only;omega)) _
      exact HB.out
    ·have h3:decide (E<=g)=true:=A5;have h4:decide ((E:Int)<=g)=true:=A5;have h5:(E:Int)<=g:=by omega
     clear h2
     go_wp2_with (first
      | (go_at_call 161;(with_reducible refine(P9.out _).mono ?_);rintro e w' ⟨rfl,rfl⟩)
      | (go_at_call 161;(with_reducible refine(CP2.out _).mono ?_);rintro e w' ⟨rfl,rfl⟩)
      | (go_at_call 64;(with_reducible refine(CPd.out _).mono ?_);rintro e w' ⟨rfl,rfl⟩))
     refine(CWX.out _).mono ?_;rintro e W4 ⟨rfl,b4⟩;have HKX:=HK.out.below b4;obtain⟨k0,k1,k2,k3,k4,k5,k6⟩:=HKX.cs;obtain⟨f0,f1,f2,f3,f4,f5,f6⟩:=HKX.fs;have HB:=Hi (HBL.out.trans (b4.mono HBL.out.size));obtain⟨tk,ttx,tnu,tbits,tat,ten,htok⟩:=TR.EP RR;rw[htok];have HTOK:=Hi htok;obtain⟨ter,hter⟩:∃ter:Int,ter=(TR.er RR:Nat):=⟨_,rfl⟩;rw[<-hter];have HTER:=Hi hter;clear b4 HKX htok hter;unfold AK;go_wp2;refine AI (v:= .tuple #[AK tk ttx tnu tbits tat ten false,.int .i64 ter]) ?_ rfl (AX.of (by rw[HF.out];exact HTOK.out) (by rw[HF.out];exact HTER.out) ?_)
     ·simp only[results,Tryz.results158];go_simp;rfl
     ·iterate 7 refine By ?_ (by first|omega|(simp only;omega)) _
      exact HB.out
end Go.Proofs
