import Derived.Test.YtnipmfaikiaipaaGreatDoorTas
import Derived.Test.YtnipmfaikiaipaaGreatDoorTaq
set_option linter.unusedSimpArgs false
set_option maxRecDepth 1000000
set_option maxHeartbeats 40000000
section
namespace Go.Proofs
open Go.RowKit Go.Pf Go.Rb
def LE:Nat:=4096
theorem WB:LE=4096:=rfl
def Fu (X:Nat) (w:World) (e:Ending) (w':World):Prop:=
 (X<2^LE->∃(sl:Value) (m:Nat),e= .returned (.tuple #[.agg #[.bool false,sl],.int .i64 0])/\T2 X m/\Ap w' sl X m/\Below w.heap.size w w')/\
 (¬X<2^LE->e= .returned (.tuple #[.agg #[.bool false,.slice none 0 0],.int .i64 10])/\Below w.heap.size w w')
theorem VK {X m:Nat}(h:T2 X m):4096<m↔¬X<2^LE:=by
 rw[<-WB];generalize LE=E;constructor
 ·intro hm hx;have:=h.le (m:=E) hx (nR _);omega
 ·intro hx;rcases BY E m with h1|h1
  ·exact h1
  ·exact absurd (IN h.1 (AT (by decide) h1)) hx
theorem Ug (s:ByteArray) (r:Nat) (w:World) (hpos:0<s.size) (hs:s.size<=4611686018427387904) (hr:2<=r) (hr2:r<=36) (hd:Hid (∀k,k<s.size->CK (byte s k)<r)):
 Calls Tryz.prog 210 #[.string s,.int .i64 r] w (Fu (vN r s s.size) w):=by
 obtain⟨i0,hi,hz0,hz1,hz2⟩:=info_parts EZ;have HB:Hid (∀k (h:k<s.size),s[k].toNat=byte s k):=Hi (fun k h=>(FK h).symm);have hne:s.toList.isEmpty=false:=by
  rw[gT];have h1:s.data.toList.length=s.size:=by simp
  cases h:s.data.toList with
  |nil=>rw[h]at h1;simp at h1;omega
  |cons a b=>rfl
 have hne2:decide (s=ByteArray.empty)=false:=AS (by intro h;rw[h]at hpos;simp at hpos);have R1:decide ((r:Int)<2)=false:=BC;have R2:decide ((36:Int)<r)=false:=BC;have P0:decide ((0:Int)<s.size)=true:=A5;have D0:Hid (CK s[0].toNat<r):=Hi (by rw[HB.out 0 hpos];exact hd.out 0 hpos);have h45:((s[0].toNat:Int)==45)=false:=Bn (n:=45) (by
  intro e;have:=D0.out;rw[e]at this;have:CK 45=99:=by decide
  omega)
 have HP:=Hi hpos;obtain⟨X,hX⟩:∃X,X=vN r s s.size:=⟨_,rfl⟩;rw[<-hX];have HX:=Hi hX;clear hX;go_enter Tryz.func210,Tryz.ntmps210;go_wp2;generalize hW1:w.alloc _=W1;have tok:Bm W1 w.heap.size:=by subst hW1;exact Bm.DM w
 have bl:Below w.heap.size w W1:=by subst hW1;exact(AH _ _).alloc (nR _) _
 have hlt0:w.heap.size<W1.heap.size:=by subst hW1;simp
 have HW:=Hi hW1;clear hW1
 go_loop [7] (fun i=>∃k:Nat,k<=s.size/\i= .int .i64 k) (fun i=>s.size-(intOf i).toNat)
 case atStart=>exact⟨0,by omega,rfl⟩
 case round=>
  obtain⟨k,hk,rfl⟩:=hrel;by_cases hlt:k<s.size
  ·have hdk:=hd.out k hlt;rw[<-HB.out k hlt]at hdk;have hc:s[k].toNat<256:=s[k].toNat_lt;have b6:decide (r<=CK s[k].toNat)=false:=BC;have b7:decide ((r:Int)<=(CK s[k].toNat:Nat))=false:=BC;have HDK:=Hi hdk;clear hdk
   go_wp2_with (go_at_call 249;(with_reducible refine(WU s[k].toNat hc _).mono ?_);rintro e w' ⟨rfl,rfl⟩)
   go_round
   case rel=>exact⟨k+1,by omega,by go_num⟩
   case measure=>simp[intOf];omega
  ·have hks:k=s.size:=by omega
   clear hlt hk;go_wp2;have hb1:Ap W1 (.slice none 0 0) (vN r s 0) 0:= .inl ⟨rfl,rfl,rfl⟩
   go_loopw [8,9] (fun bv iv wr=>∃(k m:Nat),k<=s.size/\iv= .int .i64 k/\Ap wr bv (vN r s k) m/\T2 (vN r s k) m/\Below W1.heap.size W1 wr/\m<=4102) (fun _ iv _=>s.size-(intOf iv).toNat)
   case atStart=>exact⟨0,0,by omega,rfl,hb1,⟨by simp[vN],.inl rfl⟩,AH _ _,by omega⟩
   case round=>
    obtain⟨k,m,hk,rfl,hbv,ht,hbel,hm⟩:=hrel;obtain⟨la,lc,hl⟩:=hbv.slice;subst hl;by_cases hgo:k<s.size/\m<=4096
    ·obtain⟨hlt,hm4⟩:=hgo;have g1:decide (k<s.size)=true:=AN hlt;have g2:decide (m<=4096)=true:=AN hm4;have g3:decide ((m:Int)<=4096)=true:=A5;have hc:s[k].toNat<256:=s[k].toNat_lt;obtain⟨Y,hY⟩:∃Y,Y=vN r s k:=⟨_,rfl⟩;obtain⟨d,hdd⟩:∃d,d=CK s[k].toNat:=⟨_,rfl⟩;have hdr:d<r:=by rw[hdd,HB.out k hlt];exact hd.out k hlt
     have HN:Hid (vN r s (k+1)=Y*r+d):=Hi (by rw[vN,<-hY,hdd,HB.out k hlt]);have CD:Hid (∀W,Calls Tryz.prog 249 #[.int .u8 (s[k].toNat:Int)] W fun e w'=>e= .returned (.int .i64 (d:Nat))/\W=w'):=Hi (fun W=>by rw[hdd];exact WU _ hc W);rw[<-hY]at hbv ht;have HBV:=Hi hbv;have HT:=Hi ht;have HBEL:=Hi hbel;have HDR:=Hi hdr;clear hY hdd hbv ht hbel hdr;obtain⟨wo,rfl⟩:∃wo:World,wo=wr:=⟨_,rfl⟩
     go_wp2_with (go_at_call 249;(with_reducible refine(CD.out _).mono ?_);rintro e w' ⟨rfl,rfl⟩)
     go_loopw [10,11,12] (fun cr out jv ww=>∃j:Nat,jv= .int .i64 j/\cr= .int .i64 (JM Y r d j)/\OB wo.heap.size wo (Y*r+d) j out ww/\(j<=m\/j+JM Y r d j<=m+36)) (fun cr _ jv _=>(m-(intOf jv).toNat)*64+(intOf cr).toNat)
     case atStart=>exact⟨0,rfl,by rw[T7],⟨World.ownsRow_nil _ _ _ _,AH _ _,nR _⟩,.inl (by omega)⟩
     case round=>
      obtain⟨j,rfl,rfl,hob,hj⟩:=hrel;obtain⟨oa,oc,ho⟩:=DW hob.own;subst ho;have hlc:=Xg HDR.out j (X:=Y);obtain⟨q,hq⟩:∃q,q=JM Y r d j:=⟨_,rfl⟩;obtain⟨p,hp⟩:∃p,p=AQ Y j:=⟨_,rfl⟩;have hp2:=Bi Y j;obtain⟨n1,n2⟩:=S5 Y r d j;obtain⟨t,htt⟩:∃t,t=p*r+q:=⟨_,rfl⟩;rw[<-hq]at hlc hj n1 n2⊢;rw[<-hp]at hp2 n1 n2;rw[<-htt]at n1 n2;obtain⟨t1,ht1⟩:∃t1,t1=t %2:=⟨_,rfl⟩;obtain⟨t2,ht2⟩:∃t2,t2=t/2:=⟨_,rfl⟩;have b1:=Hi (HBV.out.below (w':=wr) hob.Ad);have CB:Hid (Calls Tryz.prog 250 #[.slice la m lc,.int .i64 j] wr fun e w'=>e= .returned (.int .i64 p)/\wr=w'):=Hi (by rw[hp];exact Xb _ Y m j wr b1);have hpr:p*r<=36:=by
       have:p=0\/p=1:=by omega
       rcases this with rfl|rfl<;>omega
      have e0:(p:Int)*(r:Int)=((p*r:Nat):Int):=by push_cast;rfl
      have e0b:0<=(p:Int)*(r:Int):=by rw[e0];omega
      have e0c:(p:Int)*(r:Int)<=36:=by rw[e0];omega
      have e1:(p:Int)*(r:Int)+(q:Int)=(t:Int):=by rw[e0];omega
      have e2:(t:Int) %2=(t1:Int):=by omega
      have e3:(t:Int)/2=(t2:Int):=by omega
      have HB1:Hid (AQ (Y*r+d) j=t1):=Hi (by rw[<-n1,ht1]);have HB2:Hid (JM Y r d (j+1)=t2):=Hi (by rw[<-n2,ht2]);have qb:(q:Int)<=36:=by omega
      have pb:(p:Int)<=1:=by omega
      have tb:(t:Int)<=72:=by omega
      have HOB:=Hi hob;have hown:=hob.own;have hsz:=hob.le;have jb:j<=5000:=by omega
      by_cases hcont:j<m\/0<q
      ·have hnx:Hid ((j+1<=m\/j+1+t2<=m+36)/\(m-(j+1))*64+t2<(m-j)*64+q):=Hi (by
        rcases BY j m with h|h
        ·exact⟨.inl (by omega),by omega⟩
        ·have pz:p=0:=by rw[hp];exact Cv HT.out.1 (by omega)
         have:t=q:=by rw[htt,pz];omega
         have q0:0<q:=by
          rcases hcont with h1|h1
          ·omega
          ·exact h1
         constructor
         ·right;rcases hj with h1|h1
          ·omega
          ·omega
         ·omega)
       have guard:decide (j<m)=true\/(decide (j<m)=false/\decide (0<q)=true):=by
        rcases BY j m with h|h
        ·exact .inl (AN h)
        ·rcases hcont with h1|h1
         ·omega
         ·exact .inr ⟨AS (by omega),AN h1⟩
       clear hcont hq hp htt n1 n2 ht1 ht2 hob hj hlc hp2 hpr e0;rcases guard with a1|⟨a1,a2⟩
       all_goals
        go_wp2_with (first|(go_at_call 250;(with_reducible refine CB.out.mono ?_);rintro e w' ⟨rfl,rfl⟩)|(at_builtin;refine wpList_append_own _ rfl _ _ 89 rfl wo.heap.size 3 i0 (.int .i64 0) 1 8 Tryz.underlying89 hi hz0 hz1 hz2 rfl (by decide) _ _ _ rfl (hown.alloc _) ⟨wr.heap.size,0,none⟩ 1 1 [.int .i64 (t1:Nat)] rfl rfl ?c1 ?c2 ?c3 ?c4 ?c5 ?_))
        case c1=>
         intro j u hj
         match j,hj with
         |0,hj=>simp at hj;subst hj;simp[Addr.add]
        case c2=>intro u hu;simp at hu;subst hu;rfl
        case c3=>unfold maxLen;omega
        case c4=>omega
        case c5=>simp;omega
        intro v' w2 hown' hgrow _;have HNX:=Hi (HOB.out.next HB1.out hown' hgrow);clear hown' hgrow;go_wp2;go_roundw
        case rel=>exact⟨j+1,by go_num,by rw[HB2.out],HNX.out,by rw[HB2.out];exact hnx.out.1⟩
        case measure=>have:=hnx.out.2;simp[intOf];omega
      ·have a1:decide (j<m)=false:=BC;have a2:decide (0<q)=false:=BC;have hfin:Y*r+d<2^j:=by
        have h1:=Kx Y r d j;rw[bh (IN HT.out.1 (AT (by decide) (by omega))),<-hq]at h1;have h2:(Y*r+d)/2^j=0:=by omega
        exact(Nat.div_eq_zero_iff_lt (An j)).1 h2
       have HV:=Hi (Ap.D4 hown hfin);have HBL:=Hi hob.Ad;have HFIN:=Hi hfin;clear hcont hq hp htt n1 n2 ht1 ht2 hob hj hlc hp2 hpr e0 hown hfin HOB
       go_wp2_with (go_at_call 108;(with_reducible refine(PF _ (Y*r+d) j _ HV.out).mono ?_))
       rintro e w' ⟨m',ht',rfl,rfl⟩;have hm6:m'<=m+6:=by
        have hY:=HT.out.1;have hDR:=HDR.out;refine ht'.le (x:=Y*r+d) ?_ (nR _);have h1:Y*r+d<2^m*r:=by
         have:=FF r (show Y+1<=2^m from hY);rw[UP,Nat.one_mul]at this;omega
        refine IN h1 ?_;rw[E3];exact dg _ (by omega)
       have HBV2:=Hi (HV.out.cut (T2.le ht' HFIN.out (nR _)) ht'.1);go_wp2;go_roundw
       case rel=>exact⟨k+1,m',by omega,by go_num,by rw[HN.out];exact HBV2.out,by rw[HN.out];exact ht',HBEL.out.trans (HBL.out.mono HBEL.out.size),by omega⟩
       case measure=>simp[intOf];omega
    ·have tk:=tok.below hbel;have x0:=tk.c0;have x1:=tk.c1;have y0:=tk.f 0;have y1:=tk.f 1;have BL:=Hi (bl.trans (hbel.mono (by omega)));by_cases hm4:m<=4096
     ·have hks2:k=s.size:=by omega
      subst hks2;rw[<-HX.out]at hbv ht;have g1:decide (s.size<s.size)=false:=BC;have g3:decide (4096<m)=false:=BC;have g5:decide ((4096:Int)<m)=false:=BC;have hXlt:X<2^LE:=by
       apply No;intro h;have:=(VK ht).2 h;omega
      have HRES:Hid (∀a m' c w',T2 X m'->Ap w' (.slice a m' c) X m'->Below w.heap.size w w'->Fu X w (.returned (.tuple #[.agg #[.bool false,.slice a m' c],.int .i64 0])) w'):=Hi (fun a m' c w' h1 h2 h3=>by
       exact⟨fun _=>⟨_,m',rfl,h1,h2,h3⟩,fun h=>absurd hXlt h⟩)
      have CL:=Hi (Gj false false (.slice la m lc) X m w.heap.size W1 wr (Hi hbv) tk hbel rfl);clear hgo hbv ht hbel hXlt x0 x1 y0 y1 tk hb1
      go_wp2_with (go_at_call 109;(with_reducible refine CL.out.mono ?_))
      rintro e W3 ⟨⟨ra,rm,rc,rfl,ht3,x0,x1,y0,y1,hv3,b3⟩⟩;have HV3:=Hi hv3;have B3:=Hi b3;clear hv3 b3;go_wp2;refine AI (v:= .tuple #[.agg #[.bool false,.slice ra rm rc],.int .i64 0]) ?_ rfl (HRES.out _ _ _ _ ht3 HV3.out ?_)
      ·simp only[results,Tryz.results210];go_simp
      ·iterate 2 refine By ?_ (by simp) _
       exact bl.trans (B3.out.mono (by omega))
     ·have hXge:¬X<2^LE:=by
       have h1:=(VK ht).1 (by omega);have h2:=Ii (r:=r) (by omega) s hk;rw[<-HX.out]at h2;intro h3;exact h1 (IS h2 h3)
      have HRES:Hid (∀w',Below w.heap.size w w'->Fu X w (.returned (.tuple #[.agg #[.bool false,.slice none 0 0],.int .i64 10])) w'):=Hi (fun w' h3=>by
       exact⟨fun h=>absurd h hXge,fun _=>⟨rfl,h3⟩⟩)
      have g2:decide (m<=4096)=false:=AS hm4;have g3:decide (4096<m)=true:=A5;have g4:decide ((m:Int)<=4096)=false:=BC;have g5:decide ((4096:Int)<m)=true:=A5;have gg:decide (k<s.size)=true\/decide (k<s.size)=false:=by cases decide (k<s.size)<;>simp
      clear hgo hbv ht hbel hXge tk hb1 hm4;rcases gg with g1|g1
      all_goals
       go_wp2;refine AI (v:= .tuple #[.agg #[.bool false,.slice none 0 0],.int .i64 10]) ?_ rfl (HRES.out _ ?_)
       ·simp only[results,Tryz.results210];go_simp
       ·first
         |exact BL.out
         | (iterate 2 refine By ?_ (by simp) _
            exact BL.out)
end Go.Proofs
end
section
namespace Go.Lx
open Go.Hb Go.Rb Go.Bg Go.Pf
inductive TR where
 |ok (k:Nat) (tx nu:ByteArray) (bits a en:Nat)
 |err (p n:Nat)
def JL (x:Nat):ByteArray:=⟨(Ca 10 x).toArray⟩
theorem Sp {nu:ByteArray} {x:Nat}(h:nu.data.toList=Ca 10 x):nu=JL x:=by
 apply ByteArray.ext;apply Array.toList_inj.1;rw[h];rfl
open Classical in
noncomputable def Et (s:ByteArray) (p:Nat):Option (Nat×Nat):=if h:∃vn:Nat×Nat,B8 s p vn.1 vn.2 then some h.choose else none
theorem Ku {s:ByteArray} {p v n:Nat}(h:B8 s p v n):Et s p=some (v,n):=by
 have hx:∃vn:Nat×Nat,B8 s p vn.1 vn.2:=⟨(v,n),h⟩;unfold Et;rw[dif_pos hx];have h2:=hx.choose_spec.unique h;congr 1;exact Prod.ext (by have:=h2.1;omega) (by have:=h2.2;omega)
theorem K0 {s:ByteArray} {p:Nat}(h:EG s p):Et s p=none:=by
 unfold Et;rw[dif_neg];rintro⟨vn,hc⟩;exact h _ _ hc
theorem _root_.Go.Hb.B8.pos {s:ByteArray} {p:Nat} {v n:Int}(h:B8 s p v n):0<=v/\AR v:=by
 have hb:=DF s p;unfold B8 at h;rcases h with h|h|h|h
 ·refine⟨by omega,?_⟩;unfold AR;omega
 ·exact⟨by omega,h.2.2.2.2.2⟩
 ·exact⟨by omega,h.2.2.2.2.2.2⟩
 ·exact⟨by omega,h.2.2.2.2.2.2.2⟩
theorem FH (s:ByteArray) (p:Nat):(∃v n:Nat,B8 s p v n/\Et s p=some (v,n))\/(EG s p/\Et s p=none):=by
 rcases Classical.em (EG s p)with h|h
 ·exact .inr ⟨h,K0 h⟩
 ·left;have h3:∃v n,B8 s p v n:=by
   apply No;intro h4;exact h (fun v n hc=>h4 ⟨v,n,hc⟩)
  obtain⟨v,n,hc⟩:=h3;have h5:=hc.size;have h6:=hc.pos;obtain⟨a,rfl⟩:∃a:Nat,v=a:=⟨v.toNat,by omega⟩;obtain⟨b,rfl⟩:∃b:Nat,n=b:=⟨n.toNat,by omega⟩;exact⟨a,b,hc,Ku hc⟩
noncomputable def DU (s:ByteArray) (a:Nat):Option TR:=
 if AE s a≠48\/AE s (a+1)≠39\/s.size<=a+2\/AE s (a+2)=10 then none
 else if AE s (a+2)=39 then(if AE s (a+3)=39 then some (.ok 4 ⟨#[]⟩ (JL 39) 0 a (a+4))else none)
 else if AE s (a+2)=92 then(match Dp s (a+2)with
  |none=>some (.err (a+2) 32)
  |some (x,t)=>some (.ok 4 ⟨#[]⟩ (JL x) 0 a t))
 else match Et s (a+2)with
  |none=>some (.err (a+2) 30)
  |some (v,n)=>some (.ok 4 ⟨#[]⟩ (JL v) 0 a (a+2+n))
def B5 (s:ByteArray) (a f t r:Nat):TR:=
 if vN r (s.extract f t) (s.extract f t).size<2^Go.Proofs.LE then .ok 4 ⟨#[]⟩ (JL (vN r (s.extract f t) (s.extract f t).size)) 0 a t else .err a 34
open Classical in
noncomputable def IC (X:Nat) (x:Int):Nat:=if h:∃b,Fl (X*10^x.toNat) (10^(-x).toNat) b then h.choose else 0
theorem KW {X:Nat} {x:Int} {b:Nat}(h:Fl (X*10^x.toNat) (10^(-x).toNat) b):IC X x=b:=by
 have hx:∃b,Fl (X*10^x.toNat) (10^(-x).toNat) b:=⟨b,h⟩;unfold IC;rw[dif_pos hx];exact hx.choose_spec.unique h
def GP (s:ByteArray) (a p:Nat):ByteArray:=s.extract a p++s.extract (p+1) (AF AM s (p+1))
noncomputable def LH (s:ByteArray) (a p:Nat) (x:Int) (t:Nat):TR:=
 if 400<AF AM s (p+1)-a-1 then .err a 34
 else if IC (vN 10 (GP s a p) (GP s a p).size) (x-((AF AM s (p+1):Int)-p-1))<BR then
  .ok 5 ⟨#[]⟩ ⟨#[]⟩ (IC (vN 10 (GP s a p) (GP s a p).size) (x-((AF AM s (p+1):Int)-p-1))) a t
 else .err a 34
def F6 (s:ByteArray) (e:Nat):Nat:=if AE s (e+1)=45\/AE s (e+1)=43 then e+2 else e+1
def Bo (s:ByteArray) (e:Nat):Prop:=(AE s e=101\/AE s e=69)/\F6 s e<AF AM s (F6 s e)
instance (s:ByteArray) (e:Nat):Decidable (Bo s e):=by unfold Bo;exact inferInstance
def ZW (s:ByteArray) (e:Nat):Int:=(if AE s (e+1)=45 then-1 else 1)*(At 10 s (F6 s e) (AF AM s (F6 s e)-F6 s e):Nat)
noncomputable def E4 (s:ByteArray) (a p:Nat):TR:=
 if Bo s (AF AM s (p+1))then
  (if 4<AF AM s (F6 s (AF AM s (p+1)))-F6 s (AF AM s (p+1))then .err a 34
   else LH s a p (ZW s (AF AM s (p+1))) (AF AM s (F6 s (AF AM s (p+1)))))
 else LH s a p 0 (AF AM s (p+1))
noncomputable def F7 (s:ByteArray) (a:Nat):TR:=
 match DU s a with
 |some R=>R
 |none=>
  if AE s a=48/\AE s (a+1)=98/\a+2<AF DO s (a+2)then B5 s a (a+2) (AF DO s (a+2)) 2
  else if AE s a=48/\AE s (a+1)=111/\a+2<AF A6 s (a+2)then B5 s a (a+2) (AF A6 s (a+2)) 8
  else if AE s a=48/\AE s (a+1)=120/\a+2<AF Ah s (a+2)then B5 s a (a+2) (AF Ah s (a+2)) 16
  else if AE s (AF AM s a)=46/\AM (AE s (AF AM s a+1)).toNat=true then E4 s a (AF AM s a)
  else B5 s a a (AF AM s a) 10
def XE (q:Nat):Nat:=if q=34 then 6 else if q=96 then 7 else 2
noncomputable def Ei (s:ByteArray) (a q p:Nat) (out:List UInt8):TR⊕(Nat×List UInt8):=
 if s.size<=p then .inl (.err a 31)
 else match Et s p with
  |none=> .inl (.err p 30)
  |some (v,n)=>
   if v=10 then .inl (.err a 31)
   else if v=q then
    (if AE s (p+1)=q/\p+1<s.size then .inr (p+2,out++ [q.toUInt8])
     else if q=39/\1000<out.length then .inl (.err a 35)
     else .inl (.ok (XE q) ⟨out.toArray⟩ ⟨#[]⟩ 0 a (p+1)))
   else if v=92 then
    (if AE s (p+1)=10 then .inr (p+2,out)
     else match Dp s p with
      |none=> .inl (.err p 32)
      |some (x,t)=> .inr (t,out++Lib.encodeRune x))
   else .inr (p+n,out++Lib.encodeRune v)
noncomputable def J9 (s:ByteArray) (a q:Nat):Nat->Nat->List UInt8->TR
 |0,_,_=> .err a 31
 |f+1,p,out=>match Ei s a q p out with
  | .inl R=>R
  | .inr (p',out')=>J9 s a q f p' out'
noncomputable def Br (s:ByteArray) (a q p:Nat) (out:List UInt8):TR:=J9 s a q (s.size+1-p) p out
theorem Gp {s:ByteArray} {p v t:Nat}(h:Dp s p=some (v,t)):p+1<t/\t<=s.size/\AR v:=by
 have hlt:∀k,AE s k=92->k<s.size:=fun k hk=>by
  rcases BY k s.size with h1|h1
  ·exact h1
  ·rw[Am s k h1]at hk;omega
 have hD:∀{r:Nat} {pr:Nat->Bool} {f:Nat},GR r pr s f=some (v,t)->f+1<t/\t<=s.size/\AR v:=by
  intro r pr f hd;unfold GR at hd;split at hd
  ·cases hd
  ·rename_i hn;split at hd
   ·rename_i hok;have hge:=Ae pr s f;have h3:=hlt (AF pr s f) (by apply No;intro h;exact hn (.inr h));have h4:AF pr s f≠f:=fun h=>hn (.inl h);simp only[Option.some.injEq,Prod.mk.injEq]at hd;obtain⟨h1,h2⟩:=hd;rw[h1]at hok;exact⟨by omega,by omega,hok⟩
   ·cases hd
 unfold Dp at h;split at h
 ·rename_i x hx;split at hx
  ·rename_i h1;simp only[Option.some.injEq,Prod.mk.injEq]at h;refine⟨by omega,by omega,?_⟩;rw[<-h.1];unfold He at hx;unfold AR
   repeat' split at hx
   all_goals first|(simp only[Option.some.injEq]at hx;omega)|cases hx
  ·cases hx
 ·split at h
  ·have:=hD h;exact⟨by omega,this.2⟩
  ·have:=hD h;exact⟨by omega,this.2⟩
theorem PS {s:ByteArray} {a q p p':Nat} {out out':List UInt8}(h:Ei s a q p out= .inr (p',out')):p<p'/\p'<=s.size+1:=by
 unfold Ei at h;split at h
 ·cases h
 ·rename_i hp;split at h
  ·cases h
  ·rename_i v n hc;have hn:1<=n/\p+n<=s.size:=by
    rcases FH s p with⟨v',n',h1,h2⟩|⟨_,h2⟩
    ·rw[h2]at hc;simp only[Option.some.injEq,Prod.mk.injEq]at hc;have h3:=h1.size;have h4:=h1.last;omega
    ·rw[h2]at hc;cases hc
   split at h
   ·cases h
   ·split at h
    ·split at h
     ·rename_i h5;simp only[Sum.inr.injEq,Prod.mk.injEq]at h;omega
     ·split at h<;>cases h
    ·split at h
     ·split at h
      ·simp only[Sum.inr.injEq,Prod.mk.injEq]at h;omega
      ·split at h
       ·cases h
       ·rename_i x t he;have:=Gp he;simp only[Sum.inr.injEq,Prod.mk.injEq]at h;omega
     ·simp only[Sum.inr.injEq,Prod.mk.injEq]at h;omega
theorem Me {s:ByteArray} {a q:Nat} :∀(f g p:Nat) (out:List UInt8),s.size+1-p<=f->s.size+1-p<=g->J9 s a q f p out=J9 s a q g p out
 |0,0,_,_,_,_=>rfl
 |0,g+1,p,out,h,_=>by
  have hp:s.size<=p:=by omega
  show TR.err a 31=_;unfold J9 Ei;rw[if_pos hp]
 |f+1,0,p,out,_,h=>by
  have hp:s.size<=p:=by omega
  show _=TR.err a 31;unfold J9 Ei;rw[if_pos hp]
 |f+1,g+1,p,out,h,h2=>by
  unfold J9;cases hq:Ei s a q p out with
  |inl R=>rfl
  |inr x=>
   obtain⟨p',out'⟩:=x;have:=PS hq;exact Me f g p' out' (by omega) (by omega)
theorem Ey {s:ByteArray} {a q p:Nat} {out:List UInt8} {R:TR}(h:Ei s a q p out= .inl R) (hR:s.size<=p->R= .err a 31):Br s a q p out=R:=by
 unfold Br;cases hf:s.size+1-p with
 |zero=>rw[J9,hR (by omega)]
 |succ f=>unfold J9;rw[h]
theorem Gb {s:ByteArray} {a q p p':Nat} {out out':List UInt8}(h:Ei s a q p out= .inr (p',out')):Br s a q p out=Br s a q p' out':=by
 have h1:=PS h;unfold Br;have hp:p<=s.size:=by
  rcases BY s.size p with h2|h2
  ·unfold Ei at h;rw[if_pos (by omega)]at h;cases h
  ·exact h2
 obtain⟨f,hf⟩:∃f,s.size+1-p=f+1:=⟨s.size-p,by omega⟩;rw[hf,J9,h];exact Me _ _ _ _ (by omega) (by omega)
def Dc (s:ByteArray) (k a t:Nat):TR:=if 1000<t-a then .err a 35 else .ok k (s.extract a t) ⟨#[]⟩ 0 a t
noncomputable def Dr (s:ByteArray) (a:Nat):TR:=
 if a=s.size then .ok 10 ⟨#[]⟩ ⟨#[]⟩ 0 a a
 else if AM (AE s a).toNat then F7 s a
 else if AE s a=39\/AE s a=34\/AE s a=96 then Br s a (AE s a).toNat (a+1) []
 else if GS (AE s a).toNat then Dc s 1 a (AF DP s a)
 else if Gw (AE s a).toNat then Dc s 3 a (AF DP s a)
 else if C5 (AE s a).toNat then
  (if AF C5 s a=a+1/\AE s a=46/\(a+1=s.size\/F5 (AE s (a+1)).toNat\/AE s (a+1)=37)then .ok 9 ⟨#[]⟩ ⟨#[]⟩ 0 a (a+1)
   else Dc s 1 a (AF C5 s a))
 else if AE s a=33\/AE s a=59 then Dc s 1 a (a+1)
 else if LC (AE s a).toNat then Dc s 8 a (a+1)
 else .err a 30
end Go.Lx
namespace Go.Proofs
open Go.RowKit Go.Pf Go.Lx Go.Hb Go.Rb
def TR.tok:TR->Value
 | .ok k tx nu bits a en=>AK k tx nu bits a en false
 | .err p _=>As p
def TR.er:TR->Nat
 | .ok .. =>0
 | .err _ n=>n
def AX (R:TR) (w:World) (e:Ending) (w':World):Prop:=e= .returned (.tuple #[TR.tok R,.int .i64 (TR.er R)])/\Below w.heap.size w w'
end Go.Proofs
end
section
namespace Go.Lx
open Go.Pf
theorem YD (X:Nat):X*10^0=X:=by rw[gf,gY]
theorem VG (x:Int):IC 0 x=0:=KW (Fl.Vr (by rw[Nat.zero_mul,Nat.zero_mul,Nat.mul_zero];exact Nat.pow_pos (by decide)))
theorem YC {X:Nat} {x:Int} {L:Nat}(hX:X<10^L) (hL:L<=400) (hx:x< -800):IC X x=0:=by
 refine KW (Fl.Vr ?_);have e1:x.toNat=0:=by omega
 have e2:L+TD<=(-x).toNat:=by unfold TD;omega
 have hs:=U8;rw[e1,YD];have hK:KZ=2^KE:=rfl;rw[hK];clear e1 hK hx;generalize(-x).toNat=d at*;generalize KE=k at*;generalize TD=t at*
 calc 2*(X*2^k)=X*2^(1+k):=by rw[E3,Nat.pow_one];ac_rfl
  _<=X*10^t:=dg _ hs
  _<10^L*10^t:=(Nat.mul_lt_mul_right (Nat.pow_pos (by decide))).2 hX
  _=10^(L+t):=by rw[E3]
  _<=10^d:=AT (by decide) e2
theorem Vj {X:Nat} {x:Int}(hX:0<X) (hx:400<x):IC X x=BR:=by
 have e1:(-x).toNat=0:=by omega
 have e2:TB<=x.toNat:=by unfold TB;omega
 have hb:=ck;refine KW ?_;rw[e1];refine Fl.inf (Nat.pow_pos (by decide)) ?_;rw[gf,gY];refine To hb (To (AT (by decide) e2) (Nat.le_mul_of_pos_left _ hX))
end Go.Lx
namespace Go.Proofs
open Go.RowKit Go.Pf Go.Rb Go.Lx
def WV (b:Nat):Value:= .tuple #[.int .u64 (if b<BR then b else 0:Nat),.bool (decide (b<BR))]
def KO (b:Nat) (w:World) (e:Ending) (w':World):Prop:=e= .returned (WV b)/\Below w.heap.size w w'
theorem Y2 {A B X:Nat} {x:Int} {r:Nat×Bool}(hA:A=X*10^x.toNat) (hB:B=10^(-x).toNat) (h:Pb A B r):Value.tuple #[.int .u64 r.1,.bool r.2]=WV (IC X x):=by
 obtain⟨b,h1,h2⟩:=h;have hf:IC X x=min b BR:=KW (by rw[<-hA,<-hB];exact⟨b,h1,rfl⟩);rw[h2,hf];unfold WV;by_cases hb:b<BR
 ·rw[if_pos hb,Nat.min_eq_left (Nat.le_of_lt hb),if_pos hb,AN hb]
 ·rw[if_neg hb,Nat.min_eq_right (Nat.le_of_not_lt hb),if_neg (Nat.lt_irrefl _),AS (Nat.lt_irrefl _)]
theorem SL {A B X b:Nat} {x:Int} {r:Nat×Bool} {w w':World}(hb:b=IC X x) (hA:A=X*10^x.toNat) (hB:B=10^(-x).toNat) (h:Pb A B r) (hbel:Below w.heap.size w w'):KO b w (.returned (.tuple #[.int .u64 r.1,.bool r.2])) w':=⟨by rw[hb,Y2 hA hB h],hbel⟩
theorem Ot (vs:Array Value) (w:World):(callFunc 251 vs).run Tryz.prog w= .ok (.enter 251 vs) w:=by kernel_rfl
theorem Ow (vs:Array Value) (w:World):(callFunc 253 vs).run Tryz.prog w= .ok (.enter 253 vs) w:=by kernel_rfl
theorem WH:10^400<2^2000:=Nat.le_of_ble_eq_true (by kernel_rfl)
theorem Ws (v:Value) (X m:Nat) (x:Int) (w:World) (hv:Ap w v X m) (hT:T2 X m) (hX:Hid (X<10^400)) (hx1: -100000<=x) (hx2:x<=100000):
 Calls Tryz.prog 211 #[.agg #[.bool false,v],.int .i64 x] w (KO (IC X x) w):=by
 obtain⟨va,vc,rfl⟩:=hv.slice;obtain⟨b,hb⟩:∃b,b=IC X x:=⟨_,rfl⟩;rw[<-hb];have HBq:=Hi hb;have HV:=Hi hv;have HT:=Hi hT;have m2000:m<=2000:=T2.le hT (Nat.lt_trans hX.out WH) (nR _);have hz:=hT.BB;clear hb hv hT;by_cases h0:m=0
 ·have hX0:=hz.1 h0;have HF:Hid (b=0):=Hi (by rw[HBq.out,hX0];exact VG x);have t1:((m:Int)==0)=true:=by rw[h0];rfl
  clear hz hX0 h0;go_enter Tryz.func211,Tryz.ntmps211;go_wp2;go_ret2;exact⟨by rw[HF.out];rfl,(AH _ _).alloc (nR _) _⟩
 have hX0:0<X:=by
  rcases dT X with h|h
  ·exact absurd (hz.2 h) h0
  ·exact h
 have t1:((m:Int)==0)=false:=Bn (n:=0) h0;clear hz h0;by_cases h1:x< -800
 ·have HF:Hid (b=0):=Hi (by rw[HBq.out];exact YC hX.out (nR _) h1);have t2:decide (x< -800)=true:=AN h1;go_enter Tryz.func211,Tryz.ntmps211;go_wp2;go_ret2;exact⟨by rw[HF.out];rfl,(AH _ _).alloc (nR _) _⟩
 have t2:decide (x< -800)=false:=AS h1;by_cases h2:400<x
 ·have HF:Hid (b=BR):=Hi (by rw[HBq.out];exact Vj hX0 h2);have t3:decide (400<x)=true:=AN h2;go_enter Tryz.func211,Tryz.ntmps211;go_wp2;go_ret2;exact⟨by rw[HF.out];unfold WV;rw[if_neg (Nat.lt_irrefl _),AS (Nat.lt_irrefl _)];rfl,(AH _ _).alloc (nR _) _⟩
 have t3:decide (400<x)=false:=AS h2;by_cases h3:0<=x
 ·obtain⟨n,rfl⟩:∃n:Nat,x=n:=⟨x.toNat,by omega⟩;have t4:decide ((0:Int)<=(n:Int))=true:=AN h3;have n400:n<=400:=by omega
  go_enter Tryz.func211,Tryz.ntmps211
  go_upto_region 6 with fail
  generalize hW:w.alloc _=W1;have bl:Below w.heap.size w W1:=by subst hW;exact(AH _ _).alloc (nR _) _
  have ca:Ce W1 w.heap.size (.bool false) (.slice va m vc):=by subst hW;exact Ce.new w _ _
  clear hW;have x0:=ca.c0;have x1:=ca.c1;have lt0:w.heap.size<W1.heap.size:=ca.lt;have hA1:=HV.out.below bl;have BL:=Hi bl;clear bl ca;refine wp_region_held_drew (S:=fun W=>Below W1.heap.size W1 W) (by kernel_rfl) Ct (fun hS=> ?_);refine wpAnyH_take (i:=0) (oi:=_) (v:= .agg #[.bool false,.slice va m vc]) rfl (by kernel_rfl) (by kernel_rfl) (by kernel_rfl) (fun _ _ _ h=>h) (Or.inl ⟨by rfl,?_⟩) hS ?_
  ·intro W hSW;have z0:=(hSW.cell (p:=⟨w.heap.size,0,none⟩) lt0).trans x0;have z1:=(hSW.cell (p:=⟨w.heap.size,1,none⟩) lt0).trans x1;go_simp
  simp only[Bc,BW,Ba,Act.put,BX,Bb,BU];refine wpAnyH_take (i:=1) (oi:=_) (v:= .int .i64 n) rfl (by kernel_rfl) (by kernel_rfl) (by kernel_rfl) (fun _ _ _ h=>h) (Or.inl ⟨by rfl,?_⟩) hS ?_
  ·intro W hSW;go_simp
  simp only[Bc,BW,Ba,Act.put,BX,Bb,BU];refine wpAnyH_ready (rs:= [2]) (by kernel_rfl) (by simp) ?_;refine AllReadyH.cons rfl (fun K hK=> ?_) AllReadyH.nil;refine AW (by rfl) 253 [.tmp 19] #[3] (by rfl) #[.int .i64 n] (by kernel_rfl) Ow ((eC n _ (by omega)).mono ?_);rintro e W' ⟨⟨a3,m3,c3,rfl,ht3,hv3,hb⟩⟩;refine⟨_,rfl,?_⟩;refine hK.out _ _ (hS.trans (hb.mono hS.size)) (fun hS=> ?_);simp only[Bc,BW,Ba,Act.put,BX,Bb,BU];refine wpAnyH_ready (rs:= [3]) (by kernel_rfl) (by simp) ?_;refine AllReadyH.cons rfl (fun K hK=> ?_) AllReadyH.nil;have hSo:=hS;refine AW (by rfl) 252 [.tmp 18,.tmp 20] #[135,135] (by rfl) #[.agg #[.bool false,.slice va m vc],.agg #[.bool false,.slice a3 m3 c3]] (by kernel_rfl) Po ((NK _ _ X (10^n) m m3 _ (hA1.below hSo) hv3 (by omega) (by have:=IK ht3;omega)).mono ?_);rintro e W'' ⟨⟨a4,m4,c4,rfl,ht4,hv4,hb⟩⟩;refine⟨_,rfl,?_⟩;refine hK.out _ _ (hS.trans (hb.mono hS.size)) (fun hS=> ?_);simp only[Bc,BW,Ba,Act.put,BX,Bb,BU];refine wpAnyH_ready (rs:= [4]) (by kernel_rfl) (by simp) ?_;refine AllReadyH.cons rfl (fun K hK=> ?_) AllReadyH.nil;refine AW (by rfl) 63 [.const (.int .i64 1)] #[3] (by rfl) #[.int .i64 1] (by kernel_rfl) Sx ((R5 _).mono ?_);rintro e W' ⟨⟨a5,m5,c5,rfl,ht5,hv5,hb5⟩⟩;refine⟨_,rfl,?_⟩;refine hK.out _ _ (hS.trans (hb5.mono hS.size)) (fun hS=> ?_);simp only[Bc,BW,Ba,Act.put,BX,Bb,BU];refine wpAnyH_ready (rs:= [5]) (by kernel_rfl) (by simp) ?_;refine AllReadyH.cons rfl (fun K hK=> ?_) AllReadyH.nil;have MM:Hid (m4<=10000):=Hi (by
   have h5:X*10^n<2^(m+(4*n+1)):=by rw[E3];exact Nat.mul_lt_mul'' HT.out.1 (Vl n)
   have:=T2.le ht4 h5 (nR _);omega)
  refine AW (by rfl) 251 [.tmp 21,.tmp 22] #[135,135] (by rfl) #[.agg #[.bool false,.slice a4 m4 c4],.agg #[.bool false,.slice a5 m5 c5]] (by kernel_rfl) Ot ((WI _ _ (X*10^n) 1 m4 m5 _ (hv4.below hb5) hv5 ht4 ht5 (Nat.mul_pos hX0 (Nat.pow_pos (by decide))) (by decide) MM.out (by have:=T2.le ht5 (show 1<2^4 by decide) (nR _);omega)).mono ?_);rintro e W' ⟨r,rfl,hok,hb⟩;refine⟨_,rfl,?_⟩;refine hK.out _ _ (hS.trans (hb.mono hS.size)) (fun hS=> ?_);simp only[Bc,BW,Ba,Act.put,BX,Bb,BU];refine wpAnyH_take (i:=6) (oi:=_) (v:= .int .u64 r.1) rfl (by kernel_rfl) (by kernel_rfl) (by kernel_rfl) (fun _ _ _ h=>h) (Or.inl ⟨by rfl,?_⟩) hS ?_
  ·intro W hSW;go_simp
  simp only[Bc,BW,Ba,Act.put,BX,Bb,BU];refine wpAnyH_take (i:=7) (oi:=_) (v:= .bool r.2) rfl (by kernel_rfl) (by kernel_rfl) (by kernel_rfl) (fun _ _ _ h=>h) (Or.inl ⟨by rfl,?_⟩) hS ?_
  ·intro W hSW;go_simp
  simp only[Bc,BW,Ba,Act.put,BX,Bb,BU];refine wpAnyH_take (i:=8) (oi:=_) (v:= .int .u64 r.1) rfl (by kernel_rfl) (by kernel_rfl) (by kernel_rfl) (fun _ _ _ h=>h) (Or.inl ⟨by rfl,?_⟩) hS ?_
  ·intro W hSW;go_simp
  simp only[Bc,BW,Ba,Act.put,BX,Bb,BU];refine wpAnyH_take (i:=9) (oi:=_) (v:= .bool r.2) rfl (by kernel_rfl) (by kernel_rfl) (by kernel_rfl) (fun _ _ _ h=>h) (Or.inl ⟨by rfl,?_⟩) hS ?_
  ·intro W hSW;go_simp
  simp only[Bc,BW,Ba,Act.put,BX,Bb,BU];refine wpAnyH_done (by kernel_rfl) ?_ _;go_wp2;go_ret2;exact SL HBq.out (by rw[IT]) (by rw[show(-(n:Int)).toNat=0 by omega,gf]) hok (BL.out.trans (hS.mono BL.out.size))
 ·obtain⟨n,hn⟩:∃n:Nat,-x=n:=⟨(-x).toNat,by omega⟩;have t4:decide ((0:Int)<=x)=false:=AS h3;have n800:n<=800:=by omega
  have wr1:IntKind.i64.wrap (-x)=(n:Int):=by rw[gV _ (by omega),hn]
  have HN:=Hi hn;clear hn;go_enter Tryz.func211,Tryz.ntmps211
  go_upto_region 7 with fail
  generalize hW:w.alloc _=W1;have bl:Below w.heap.size w W1:=by subst hW;exact(AH _ _).alloc (nR _) _
  have ca:Ce W1 w.heap.size (.bool false) (.slice va m vc):=by subst hW;exact Ce.new w _ _
  clear hW;have x0:=ca.c0;have x1:=ca.c1;have lt0:w.heap.size<W1.heap.size:=ca.lt;have hA1:=HV.out.below bl;have BL:=Hi bl;clear bl ca;refine wp_region_held_drew (S:=fun W=>Below W1.heap.size W1 W) (by kernel_rfl) Ct (fun hS=> ?_);refine wpAnyH_take (i:=0) (oi:=_) (v:= .agg #[.bool false,.slice va m vc]) rfl (by kernel_rfl) (by kernel_rfl) (by kernel_rfl) (fun _ _ _ h=>h) (Or.inl ⟨by rfl,?_⟩) hS ?_
  ·intro W hSW;have z0:=(hSW.cell (p:=⟨w.heap.size,0,none⟩) lt0).trans x0;have z1:=(hSW.cell (p:=⟨w.heap.size,1,none⟩) lt0).trans x1;go_simp
  simp only[Bc,BW,Ba,Act.put,BX,Bb,BU];refine wpAnyH_take (i:=1) (oi:=_) (v:= .int .i64 x) rfl (by kernel_rfl) (by kernel_rfl) (by kernel_rfl) (fun _ _ _ h=>h) (Or.inl ⟨by rfl,?_⟩) hS ?_
  ·intro W hSW;go_simp
  simp only[Bc,BW,Ba,Act.put,BX,Bb,BU];refine wpAnyH_take (i:=2) (oi:=_) (v:= .int .i64 n) rfl (by kernel_rfl) (by kernel_rfl) (by kernel_rfl) (fun _ _ _ h=>h) (Or.inl ⟨by rfl,?_⟩) hS ?_
  ·intro W hSW;go_simp
  simp only[Bc,BW,Ba,Act.put,BX,Bb,BU];refine wpAnyH_ready (rs:= [3]) (by kernel_rfl) (by simp) ?_;refine AllReadyH.cons rfl (fun K hK=> ?_) AllReadyH.nil;refine AW (by rfl) 253 [.tmp 28] #[3] (by rfl) #[.int .i64 n] (by kernel_rfl) Ow ((eC n _ (by omega)).mono ?_);rintro e W' ⟨⟨a3,m3,c3,rfl,ht3,hv3,hb3⟩⟩;refine⟨_,rfl,?_⟩;refine hK.out _ _ (hS.trans (hb3.mono hS.size)) (fun hS=> ?_);simp only[Bc,BW,Ba,Act.put,BX,Bb,BU];refine wpAnyH_ready (rs:= [4]) (by kernel_rfl) (by simp) ?_;refine AllReadyH.cons rfl (fun K hK=> ?_) AllReadyH.nil;have hSo:=hS;refine AW (by rfl) 251 [.tmp 26,.tmp 29] #[135,135] (by rfl) #[.agg #[.bool false,.slice va m vc],.agg #[.bool false,.slice a3 m3 c3]] (by kernel_rfl) Ot ((WI _ _ X (10^n) m m3 _ (hA1.below hSo) hv3 HT.out ht3 hX0 (Nat.pow_pos (by decide)) (by omega) (by have:=IK ht3;omega)).mono ?_);rintro e W' ⟨r,rfl,hok,hb⟩;refine⟨_,rfl,?_⟩;refine hK.out _ _ (hS.trans (hb.mono hS.size)) (fun hS=> ?_);simp only[Bc,BW,Ba,Act.put,BX,Bb,BU];refine wpAnyH_take (i:=5) (oi:=_) (v:= .int .u64 r.1) rfl (by kernel_rfl) (by kernel_rfl) (by kernel_rfl) (fun _ _ _ h=>h) (Or.inl ⟨by rfl,?_⟩) hS ?_
  ·intro W hSW;go_simp
  simp only[Bc,BW,Ba,Act.put,BX,Bb,BU];refine wpAnyH_take (i:=6) (oi:=_) (v:= .bool r.2) rfl (by kernel_rfl) (by kernel_rfl) (by kernel_rfl) (fun _ _ _ h=>h) (Or.inl ⟨by rfl,?_⟩) hS ?_
  ·intro W hSW;go_simp
  simp only[Bc,BW,Ba,Act.put,BX,Bb,BU];refine wpAnyH_take (i:=7) (oi:=_) (v:= .int .u64 r.1) rfl (by kernel_rfl) (by kernel_rfl) (by kernel_rfl) (fun _ _ _ h=>h) (Or.inl ⟨by rfl,?_⟩) hS ?_
  ·intro W hSW;go_simp
  simp only[Bc,BW,Ba,Act.put,BX,Bb,BU];refine wpAnyH_take (i:=8) (oi:=_) (v:= .bool r.2) rfl (by kernel_rfl) (by kernel_rfl) (by kernel_rfl) (fun _ _ _ h=>h) (Or.inl ⟨by rfl,?_⟩) hS ?_
  ·intro W hSW;go_simp
  simp only[Bc,BW,Ba,Act.put,BX,Bb,BU];refine wpAnyH_done (by kernel_rfl) ?_ _;go_wp2;go_ret2;exact SL HBq.out (by rw[show x.toNat=0 by omega,gf,gY]) (by rw[show(-x).toNat=n by have:=HN.out;omega]) hok (BL.out.trans (hS.mono BL.out.size))
end Go.Proofs
end
