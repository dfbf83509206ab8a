import Derived.Test.YteegpmimbbgdlaaGreatDoorTam
import Derived.Test.YteegpmimbbgdlaaGreatDoorTao
import Derived.Test.YteegpmimbbgdlaaGreatDoorTas
import Derived.Test.YteegpmimbbgdlaaGreatDoorTah
import Derived.Test.YteegpmimbbgdlaaGreatDoorTaq
import Derived.Test.YteegpmimbbgdlaaGreatDoorTaa
set_option linter.unusedSimpArgs false
set_option maxRecDepth 1000000
set_option maxHeartbeats 40000000
section
namespace Go.Proofs
open Go.RowKit Go.Pf Go.Rb
def LE:Nat:=4096
theorem LE_eq:LE=4096:=rfl
def RParseSays (X:Nat) (w:World) (e:Ending) (w':World):Prop:=
 (X<2^LE→∃(sl:Value) (m:Nat),e= .returned (.tuple #[.agg #[.bool false,sl],.int .i64 0])∧T2 X m∧BtV w' sl X m∧Below w.heap.size w w')∧
 (¬X<2^LE→e= .returned (.tuple #[.agg #[.bool false,.slice none 0 0],.int .i64 10])∧Below w.heap.size w w')
theorem big_T2 {X m:Nat}(h:T2 X m):4096<m↔¬X<2^LE:=by
 rw[←LE_eq]
 generalize LE=E
 constructor
 ·intro hm hx
  have:=h.le (m:=E) hx (nR _)
  omega
 ·intro hx
  rcases Nat.lt_or_ge E m with h1|h1
  ·exact h1
  ·exact absurd (Nat.lt_of_lt_of_le h.1 (Nat.pow_le_pow_right (by decide) h1)) hx
theorem Tryz.rparse (s:ByteArray) (r:Nat) (w:World) (hpos:0<s.size) (hs:s.size≤4611686018427387904) (hr:2≤r) (hr2:r≤36) (hd:Hid (∀k,k<s.size→dgv (byte s k)<r)):
 Calls Tryz.prog 83 #[.string s,.int .i64 r] w (RParseSays (vN r s s.size) w):=by
 obtain⟨i0,hi,hz0,hz1,hz2⟩:=info_parts Tryz.infoInt
 have HB:Hid (∀k (h:k<s.size),s[k].toNat=byte s k):=Hi (fun k h=>(byte_get h).symm)
 have hne:s.toList.isEmpty=false:=by
  rw[ByteArray.toList_eq]
  have h1:s.data.toList.length=s.size:=by simp
  cases h:s.data.toList with
  |nil=>rw[h]at h1;simp at h1;omega
  |cons a b=>rfl
 have hne2:decide (s=ByteArray.empty)=false:=decide_eq_false (by intro h;rw[h]at hpos;simp at hpos)
 have R1:decide ((r:Int)<2)=false:=dFo
 have R2:decide ((36:Int)<r)=false:=dFo
 have P0:decide ((0:Int)<s.size)=true:=dTo
 have D0:Hid (dgv s[0].toNat<r):=Hi (by rw[HB.out 0 hpos];exact hd.out 0 hpos)
 have h45:((s[0].toNat:Int)==45)=false:=eqf (n:=45) (by
  intro e
  have:=D0.out
  rw[e]at this
  have:dgv 45=99:=by decide
  omega)
 have HP:=Hi hpos
 obtain⟨X,hX⟩:∃X,X=vN r s s.size:=⟨_,rfl⟩
 rw[←hX]
 have HX:=Hi hX
 clear hX
 go_enter Tryz.func83,Tryz.ntmps83
 go_wp2
 generalize hW1:w.alloc _=W1
 have tok:Tok W1 w.heap.size:=by subst hW1;exact Tok.new1 w
 have bl:Below w.heap.size w W1:=by subst hW1;exact(Below.refl _ _).alloc (nR _) _
 have hlt0:w.heap.size<W1.heap.size:=by subst hW1;simp
 have HW:=Hi hW1
 clear hW1
 go_loop [7] (fun i=>∃k:Nat,k≤s.size∧i= .int .i64 k) (fun i=>s.size-(intOf i).toNat)
 case atStart=>exact⟨0,by omega,rfl⟩
 case round=>
  obtain⟨k,hk,rfl⟩:=hrel
  by_cases hlt:k<s.size
  ·have hdk:=hd.out k hlt
   rw[←HB.out k hlt]at hdk
   have hc:s[k].toNat<256:=s[k].toNat_lt
   have b6:decide (r≤dgv s[k].toNat)=false:=dFo
   have b7:decide ((r:Int)≤(dgv s[k].toNat:Nat))=false:=dFo
   have HDK:=Hi hdk
   clear hdk
   go_wp2_with (go_at_call 104;(with_reducible refine(Tryz.rdigit s[k].toNat hc _).mono ?_);rintro e w' ⟨rfl,rfl⟩)
   go_round
   case rel=>exact⟨k+1,by omega,by go_num⟩
   case measure=>simp[intOf];omega
  ·have hks:k=s.size:=by omega
   clear hlt hk
   go_wp2
   have hb1:BtV W1 (.slice none 0 0) (vN r s 0) 0:= .inl ⟨rfl,rfl,rfl⟩
   go_loopw [8,9] (fun bv iv wr=>∃(k m:Nat),k≤s.size∧iv= .int .i64 k∧BtV wr bv (vN r s k) m∧T2 (vN r s k) m∧Below W1.heap.size W1 wr∧m≤4102) (fun _ iv _=>s.size-(intOf iv).toNat)
   case atStart=>exact⟨0,0,by omega,rfl,hb1,⟨by simp[vN],.inl rfl⟩,Below.refl _ _,by omega⟩
   case round=>
    obtain⟨k,m,hk,rfl,hbv,ht,hbel,hm⟩:=hrel
    obtain⟨la,lc,hl⟩:=hbv.slice
    subst hl
    by_cases hgo:k<s.size∧m≤4096
    ·obtain⟨hlt,hm4⟩:=hgo
     have g1:decide (k<s.size)=true:=decide_eq_true hlt
     have g2:decide (m≤4096)=true:=decide_eq_true hm4
     have g3:decide ((m:Int)≤4096)=true:=dTo
     have hc:s[k].toNat<256:=s[k].toNat_lt
     obtain⟨Y,hY⟩:∃Y,Y=vN r s k:=⟨_,rfl⟩
     obtain⟨d,hdd⟩:∃d,d=dgv s[k].toNat:=⟨_,rfl⟩
     have hdr:d<r:=by rw[hdd,HB.out k hlt];exact hd.out k hlt
     have HN:Hid (vN r s (k+1)=Y*r+d):=Hi (by rw[vN,←hY,hdd,HB.out k hlt])
     have CD:Hid (∀W,Calls Tryz.prog 104 #[.int .u8 (s[k].toNat:Int)] W fun e w'=>e= .returned (.int .i64 (d:Nat))∧W=w'):=Hi (fun W=>by rw[hdd];exact Tryz.rdigit _ hc W)
     rw[←hY]at hbv ht
     have HBV:=Hi hbv
     have HT:=Hi ht
     have HBEL:=Hi hbel
     have HDR:=Hi hdr
     clear hY hdd hbv ht hbel hdr
     obtain⟨wo,rfl⟩:∃wo:World,wo=wr:=⟨_,rfl⟩
     go_wp2_with (go_at_call 104;(with_reducible refine(CD.out _).mono ?_);rintro e w' ⟨rfl,rfl⟩)
     go_loopw [10,11,12] (fun cr out jv ww=>∃j:Nat,jv= .int .i64 j∧cr= .int .i64 (mulc Y r d j)∧OB wo.heap.size wo (Y*r+d) j out ww∧(j≤m∨j+mulc Y r d j≤m+36)) (fun cr _ jv _=>(m-(intOf jv).toNat)*64+(intOf cr).toNat)
     case atStart=>exact⟨0,rfl,by rw[mulc_zero],⟨World.ownsRow_nil _ _ _ _,Below.refl _ _,nR _⟩,.inl (by omega)⟩
     case round=>
      obtain⟨j,rfl,rfl,hob,hj⟩:=hrel
      obtain⟨oa,oc,ho⟩:=own_slice3 hob.own
      subst ho
      have hlc:=mulc_lt HDR.out j (X:=Y)
      obtain⟨q,hq⟩:∃q,q=mulc Y r d j:=⟨_,rfl⟩
      obtain⟨p,hp⟩:∃p,p=bit2 Y j:=⟨_,rfl⟩
      have hp2:=bit2_lt Y j
      obtain⟨n1,n2⟩:=mulc_step Y r d j
      obtain⟨t,htt⟩:∃t,t=p*r+q:=⟨_,rfl⟩
      rw[←hq]at hlc hj n1 n2⊢
      rw[←hp]at hp2 n1 n2
      rw[←htt]at n1 n2
      obtain⟨t1,ht1⟩:∃t1,t1=t %2:=⟨_,rfl⟩
      obtain⟨t2,ht2⟩:∃t2,t2=t/2:=⟨_,rfl⟩
      have b1:=Hi (HBV.out.below (w':=wr) hob.bel)
      have CB:Hid (Calls Tryz.prog 105 #[.slice la m lc,.int .i64 j] wr fun e w'=>e= .returned (.int .i64 p)∧wr=w'):=Hi (by rw[hp];exact Tryz.rbit _ Y m j wr b1)
      have hpr:p*r≤36:=by
       have:p=0∨p=1:=by omega
       rcases this with rfl|rfl<;>omega
      have e0:(p:Int)*(r:Int)=((p*r:Nat):Int):=by push_cast;rfl
      have e0b:0≤(p:Int)*(r:Int):=by rw[e0];omega
      have e0c:(p:Int)*(r:Int)≤36:=by rw[e0];omega
      have e1:(p:Int)*(r:Int)+(q:Int)=(t:Int):=by rw[e0];omega
      have e2:(t:Int) %2=(t1:Int):=by omega
      have e3:(t:Int)/2=(t2:Int):=by omega
      have HB1:Hid (bit2 (Y*r+d) j=t1):=Hi (by rw[←n1,ht1])
      have HB2:Hid (mulc Y r d (j+1)=t2):=Hi (by rw[←n2,ht2])
      have qb:(q:Int)≤36:=by omega
      have pb:(p:Int)≤1:=by omega
      have tb:(t:Int)≤72:=by omega
      have HOB:=Hi hob
      have hown:=hob.own
      have hsz:=hob.le
      have jb:j≤5000:=by omega
      by_cases hcont:j<m∨0<q
      ·have hnx:Hid ((j+1≤m∨j+1+t2≤m+36)∧(m-(j+1))*64+t2<(m-j)*64+q):=Hi (by
        rcases Nat.lt_or_ge j m with h|h
        ·exact⟨.inl (by omega),by omega⟩
        ·have pz:p=0:=by rw[hp];exact bit2_beyond HT.out.1 (by omega)
         have:t=q:=by rw[htt,pz];omega
         have q0:0<q:=by
          rcases hcont with h1|h1
          ·omega
          ·exact h1
         constructor
         ·right
          rcases hj with h1|h1
          ·omega
          ·omega
         ·omega)
       have guard:decide (j<m)=true∨(decide (j<m)=false∧decide (0<q)=true):=by
        rcases Nat.lt_or_ge j m with h|h
        ·exact .inl (decide_eq_true h)
        ·rcases hcont with h1|h1
         ·omega
         ·exact .inr ⟨decide_eq_false (by omega),decide_eq_true h1⟩
       clear hcont hq hp htt n1 n2 ht1 ht2 hob hj hlc hp2 hpr e0
       rcases guard with a1|⟨a1,a2⟩
       all_goals
        go_wp2_with (first|(go_at_call 105;(with_reducible refine CB.out.mono ?_);rintro e w' ⟨rfl,rfl⟩)|(at_builtin;refine wpList_append_own _ rfl _ _ 105 rfl wo.heap.size 3 i0 (.int .i64 0) 1 8 Tryz.underlying105 hi hz0 hz1 hz2 rfl (by decide) _ _ _ rfl (hown.alloc _) ⟨wr.heap.size,0,none⟩ 1 1 [.int .i64 (t1:Nat)] rfl rfl ?c1 ?c2 ?c3 ?c4 ?c5 ?_))
        case c1=>
         intro j u hj
         match j,hj with
         |0,hj=>simp at hj;subst hj;simp[Addr.add]
        case c2=>intro u hu;simp at hu;subst hu;rfl
        case c3=>unfold maxLen;omega
        case c4=>omega
        case c5=>simp;omega
        intro v' w2 hown' hgrow _
        have HNX:=Hi (HOB.out.next HB1.out hown' hgrow)
        clear hown' hgrow
        go_wp2
        go_roundw
        case rel=>exact⟨j+1,by go_num,by rw[HB2.out],HNX.out,by rw[HB2.out];exact hnx.out.1⟩
        case measure=>have:=hnx.out.2;simp[intOf];omega
      ·have a1:decide (j<m)=false:=dFo
       have a2:decide (0<q)=false:=dFo
       have hfin:Y*r+d<2^j:=by
        have h1:=mul_div2 Y r d j
        rw[Nat.div_eq_of_lt (Nat.lt_of_lt_of_le HT.out.1 (Nat.pow_le_pow_right (by decide) (by omega))),←hq]at h1
        have h2:(Y*r+d)/2^j=0:=by omega
        exact(Nat.div_eq_zero_iff_lt (Nat.two_pow_pos j)).1 h2
       have HV:=Hi (BtV.of_own hown hfin)
       have HBL:=Hi hob.bel
       have HFIN:=Hi hfin
       clear hcont hq hp htt n1 n2 ht1 ht2 hob hj hlc hp2 hpr e0 hown hfin HOB
       go_wp2_with (go_at_call 106;(with_reducible refine(Tryz.rcut _ (Y*r+d) j _ HV.out).mono ?_))
       rintro e w' ⟨m',ht',rfl,rfl⟩
       have hm6:m'≤m+6:=by
        have hY:=HT.out.1
        have hDR:=HDR.out
        refine ht'.le (x:=Y*r+d) ?_ (nR _)
        have h1:Y*r+d<2^m*r:=by
         have:=Nat.mul_le_mul_right r (show Y+1≤2^m from hY)
         rw[Nat.add_mul,Nat.one_mul]at this
         omega
        refine Nat.lt_of_lt_of_le h1 ?_
        rw[Nat.pow_add]
        exact Nat.mul_le_mul_left _ (by omega)
       have HBV2:=Hi (HV.out.cut (T2.le ht' HFIN.out (nR _)) ht'.1)
       go_wp2
       go_roundw
       case rel=>exact⟨k+1,m',by omega,by go_num,by rw[HN.out];exact HBV2.out,by rw[HN.out];exact ht',HBEL.out.trans (HBL.out.mono HBEL.out.size),by omega⟩
       case measure=>simp[intOf];omega
    ·have tk:=tok.below hbel
     have x0:=tk.c0
     have x1:=tk.c1
     have y0:=tk.f 0
     have y1:=tk.f 1
     have BL:=Hi (bl.trans (hbel.mono (by omega)))
     by_cases hm4:m≤4096
     ·have hks2:k=s.size:=by omega
      subst hks2
      rw[←HX.out]at hbv ht
      have g1:decide (s.size<s.size)=false:=dFo
      have g3:decide (4096<m)=false:=dFo
      have g5:decide ((4096:Int)<m)=false:=dFo
      have hXlt:X<2^LE:=by
       apply Classical.byContradiction
       intro h
       have:=(big_T2 ht).2 h
       omega
      have HRES:Hid (∀a m' c w',T2 X m'→BtV w' (.slice a m' c) X m'→Below w.heap.size w w'→RParseSays X w (.returned (.tuple #[.agg #[.bool false,.slice a m' c],.int .i64 0])) w'):=Hi (fun a m' c w' h1 h2 h3=>by
       exact⟨fun _=>⟨_,m',rfl,h1,h2,h3⟩,fun h=>absurd hXlt h⟩)
      have CL:=Hi (Tryz.rlaidAt false false (.slice la m lc) X m w.heap.size W1 wr (Hi hbv) tk hbel rfl)
      clear hgo hbv ht hbel hXlt x0 x1 y0 y1 tk hb1
      go_wp2_with (go_at_call 107;(with_reducible refine CL.out.mono ?_))
      rintro e W3 ⟨⟨ra,rm,rc,rfl,ht3,x0,x1,y0,y1,hv3,b3⟩⟩
      have HV3:=Hi hv3
      have B3:=Hi b3
      clear hv3 b3
      go_wp2
      refine bodyPost_ret (v:= .tuple #[.agg #[.bool false,.slice ra rm rc],.int .i64 0]) ?_ rfl (HRES.out _ _ _ _ ht3 HV3.out ?_)
      ·simp only[results,Tryz.results83]
       go_simp
      ·iterate 2 refine Below.setCell ?_ (by simp) _
       exact bl.trans (B3.out.mono (by omega))
     ·have hXge:¬X<2^LE:=by
       have h1:=(big_T2 ht).1 (by omega)
       have h2:=vN_mono (r:=r) (by omega) s hk
       rw[←HX.out]at h2
       intro h3
       exact h1 (Nat.lt_of_le_of_lt h2 h3)
      have HRES:Hid (∀w',Below w.heap.size w w'→RParseSays X w (.returned (.tuple #[.agg #[.bool false,.slice none 0 0],.int .i64 10])) w'):=Hi (fun w' h3=>by
       exact⟨fun h=>absurd h hXge,fun _=>⟨rfl,h3⟩⟩)
      have g2:decide (m≤4096)=false:=decide_eq_false hm4
      have g3:decide (4096<m)=true:=dTo
      have g4:decide ((m:Int)≤4096)=false:=dFo
      have g5:decide ((4096:Int)<m)=true:=dTo
      have gg:decide (k<s.size)=true∨decide (k<s.size)=false:=by cases decide (k<s.size)<;>simp
      clear hgo hbv ht hbel hXge tk hb1 hm4
      rcases gg with g1|g1
      all_goals
       go_wp2
       refine bodyPost_ret (v:= .tuple #[.agg #[.bool false,.slice none 0 0],.int .i64 10]) ?_ rfl (HRES.out _ ?_)
       ·simp only[results,Tryz.results83]
        go_simp
       ·first
         |exact BL.out
         | (iterate 2 refine Below.setCell ?_ (by simp) _
            exact BL.out)
end Go.Proofs
end
section
namespace Go.Lx
open Go.Hb Go.Rb Go.Bg Go.Pf
inductive TR where
 |ok (k:Nat) (tx nu:ByteArray) (bits a en:Nat)
 |err (p n:Nat)
def numB (x:Nat):ByteArray:=⟨(numL 10 x).toArray⟩
theorem numB_of {nu:ByteArray} {x:Nat}(h:nu.data.toList=numL 10 x):nu=numB x:=by
 apply ByteArray.ext
 apply Array.toList_inj.1
 rw[h];rfl
open Classical in
noncomputable def chD (s:ByteArray) (p:Nat):Option (Nat×Nat):=if h:∃vn:Nat×Nat,ChV s p vn.1 vn.2 then some h.choose else none
theorem chD_some {s:ByteArray} {p v n:Nat}(h:ChV s p v n):chD s p=some (v,n):=by
 have hx:∃vn:Nat×Nat,ChV s p vn.1 vn.2:=⟨(v,n),h⟩
 unfold chD
 rw[dif_pos hx]
 have h2:=hx.choose_spec.unique h
 congr 1
 exact Prod.ext (by have:=h2.1;omega) (by have:=h2.2;omega)
theorem chD_none {s:ByteArray} {p:Nat}(h:NoCh s p):chD s p=none:=by
 unfold chD
 rw[dif_neg]
 rintro⟨vn,hc⟩
 exact h _ _ hc
theorem _root_.Go.Hb.ChV.pos {s:ByteArray} {p:Nat} {v n:Int}(h:ChV s p v n):0≤v∧okRune v:=by
 have hb:=byt_lo s p
 unfold ChV at h
 rcases h with h|h|h|h
 ·refine⟨by omega,?_⟩
  unfold okRune
  omega
 ·exact⟨by omega,h.2.2.2.2.2⟩
 ·exact⟨by omega,h.2.2.2.2.2.2⟩
 ·exact⟨by omega,h.2.2.2.2.2.2.2⟩
theorem chD_cases (s:ByteArray) (p:Nat):(∃v n:Nat,ChV s p v n∧chD s p=some (v,n))∨(NoCh s p∧chD s p=none):=by
 rcases Classical.em (NoCh s p)with h|h
 ·exact .inr ⟨h,chD_none h⟩
 ·left
  have h3:∃v n,ChV s p v n:=by
   apply Classical.byContradiction
   intro h4
   exact h (fun v n hc=>h4 ⟨v,n,hc⟩)
  obtain⟨v,n,hc⟩:=h3
  have h5:=hc.size
  have h6:=hc.pos
  obtain⟨a,rfl⟩:∃a:Nat,v=a:=⟨v.toNat,by omega⟩
  obtain⟨b,rfl⟩:∃b:Nat,n=b:=⟨n.toNat,by omega⟩
  exact⟨a,b,hc,chD_some hc⟩
noncomputable def chrR (s:ByteArray) (a:Nat):Option TR:=
 if byt s a≠48∨byt s (a+1)≠39∨s.size≤a+2∨byt s (a+2)=10 then none
 else if byt s (a+2)=39 then(if byt s (a+3)=39 then some (.ok 4 ⟨#[]⟩ (numB 39) 0 a (a+4))else none)
 else if byt s (a+2)=92 then(match escV s (a+2)with
  |none=>some (.err (a+2) 32)
  |some (x,t)=>some (.ok 4 ⟨#[]⟩ (numB x) 0 a t))
 else match chD s (a+2)with
  |none=>some (.err (a+2) 30)
  |some (v,n)=>some (.ok 4 ⟨#[]⟩ (numB v) 0 a (a+2+n))
def intR (s:ByteArray) (a f t r:Nat):TR:=
 if vN r (s.extract f t) (s.extract f t).size<2^Go.Proofs.LE then .ok 4 ⟨#[]⟩ (numB (vN r (s.extract f t) (s.extract f t).size)) 0 a t else .err a 34
open Classical in
noncomputable def fltB (X:Nat) (x:Int):Nat:=if h:∃b,Fl (X*10^x.toNat) (10^(-x).toNat) b then h.choose else 0
theorem fltB_eq {X:Nat} {x:Int} {b:Nat}(h:Fl (X*10^x.toNat) (10^(-x).toNat) b):fltB X x=b:=by
 have hx:∃b,Fl (X*10^x.toNat) (10^(-x).toNat) b:=⟨b,h⟩
 unfold fltB
 rw[dif_pos hx]
 exact hx.choose_spec.unique h
def fltD (s:ByteArray) (a p:Nat):ByteArray:=s.extract a p++s.extract (p+1) (rowE digB s (p+1))
noncomputable def fltF (s:ByteArray) (a p:Nat) (x:Int) (t:Nat):TR:=
 if 400<rowE digB s (p+1)-a-1 then .err a 34
 else if fltB (vN 10 (fltD s a p) (fltD s a p).size) (x-((rowE digB s (p+1):Int)-p-1))<infB then
  .ok 5 ⟨#[]⟩ ⟨#[]⟩ (fltB (vN 10 (fltD s a p) (fltD s a p).size) (x-((rowE digB s (p+1):Int)-p-1))) a t
 else .err a 34
def expF (s:ByteArray) (e:Nat):Nat:=if byt s (e+1)=45∨byt s (e+1)=43 then e+2 else e+1
def expI (s:ByteArray) (e:Nat):Prop:=(byt s e=101∨byt s e=69)∧expF s e<rowE digB s (expF s e)
instance (s:ByteArray) (e:Nat):Decidable (expI s e):=by unfold expI;exact inferInstance
def expV (s:ByteArray) (e:Nat):Int:=(if byt s (e+1)=45 then-1 else 1)*(valN 10 s (expF s e) (rowE digB s (expF s e)-expF s e):Nat)
noncomputable def fltR (s:ByteArray) (a p:Nat):TR:=
 if expI s (rowE digB s (p+1))then
  (if 4<rowE digB s (expF s (rowE digB s (p+1)))-expF s (rowE digB s (p+1))then .err a 34
   else fltF s a p (expV s (rowE digB s (p+1))) (rowE digB s (expF s (rowE digB s (p+1)))))
 else fltF s a p 0 (rowE digB s (p+1))
noncomputable def numR (s:ByteArray) (a:Nat):TR:=
 match chrR s a with
 |some R=>R
 |none=>
  if byt s a=48∧byt s (a+1)=98∧a+2<rowE binB s (a+2)then intR s a (a+2) (rowE binB s (a+2)) 2
  else if byt s a=48∧byt s (a+1)=111∧a+2<rowE octB s (a+2)then intR s a (a+2) (rowE octB s (a+2)) 8
  else if byt s a=48∧byt s (a+1)=120∧a+2<rowE hexB s (a+2)then intR s a (a+2) (rowE hexB s (a+2)) 16
  else if byt s (rowE digB s a)=46∧digB (byt s (rowE digB s a+1)).toNat=true then fltR s a (rowE digB s a)
  else intR s a a (rowE digB s a) 10
def quoK (q:Nat):Nat:=if q=34 then 6 else if q=96 then 7 else 2
noncomputable def quoS (s:ByteArray) (a q p:Nat) (out:List UInt8):TR⊕(Nat×List UInt8):=
 if s.size≤p then .inl (.err a 31)
 else match chD s p with
  |none=> .inl (.err p 30)
  |some (v,n)=>
   if v=10 then .inl (.err a 31)
   else if v=q then
    (if byt s (p+1)=q∧p+1<s.size then .inr (p+2,out++ [q.toUInt8])
     else if q=39∧1000<out.length then .inl (.err a 35)
     else .inl (.ok (quoK q) ⟨out.toArray⟩ ⟨#[]⟩ 0 a (p+1)))
   else if v=92 then
    (if byt s (p+1)=10 then .inr (p+2,out)
     else match escV s p with
      |none=> .inl (.err p 32)
      |some (x,t)=> .inr (t,out++Lib.encodeRune x))
   else .inr (p+n,out++Lib.encodeRune v)
noncomputable def quoN (s:ByteArray) (a q:Nat):Nat→Nat→List UInt8→TR
 |0,_,_=> .err a 31
 |f+1,p,out=>match quoS s a q p out with
  | .inl R=>R
  | .inr (p',out')=>quoN s a q f p' out'
noncomputable def quoE (s:ByteArray) (a q p:Nat) (out:List UInt8):TR:=quoN s a q (s.size+1-p) p out
theorem escV_gt {s:ByteArray} {p v t:Nat}(h:escV s p=some (v,t)):p+1<t∧t≤s.size∧okRune v:=by
 have hlt:∀k,byt s k=92→k<s.size:=fun k hk=>by
  rcases Nat.lt_or_ge k s.size with h1|h1
  ·exact h1
  ·rw[byt_out s k h1]at hk;omega
 have hD:∀{r:Nat} {pr:Nat→Bool} {f:Nat},escD r pr s f=some (v,t)→f+1<t∧t≤s.size∧okRune v:=by
  intro r pr f hd
  unfold escD at hd
  split at hd
  ·cases hd
  ·rename_i hn
   split at hd
   ·rename_i hok
    have hge:=rowE_ge pr s f
    have h3:=hlt (rowE pr s f) (by apply Classical.byContradiction;intro h;exact hn (.inr h))
    have h4:rowE pr s f≠f:=fun h=>hn (.inl h)
    simp only[Option.some.injEq,Prod.mk.injEq]at hd
    obtain⟨h1,h2⟩:=hd
    rw[h1]at hok
    exact⟨by omega,by omega,hok⟩
   ·cases hd
 unfold escV at h
 split at h
 ·rename_i x hx
  split at hx
  ·rename_i h1
   simp only[Option.some.injEq,Prod.mk.injEq]at h
   refine⟨by omega,by omega,?_⟩
   rw[←h.1]
   unfold escL at hx
   unfold okRune
   repeat' split at hx
   all_goals first|(simp only[Option.some.injEq]at hx;omega)|cases hx
  ·cases hx
 ·split at h
  ·have:=hD h;exact⟨by omega,this.2⟩
  ·have:=hD h;exact⟨by omega,this.2⟩
theorem quoS_inr {s:ByteArray} {a q p p':Nat} {out out':List UInt8}(h:quoS s a q p out= .inr (p',out')):p<p'∧p'≤s.size+1:=by
 unfold quoS at h
 split at h
 ·cases h
 ·rename_i hp
  split at h
  ·cases h
  ·rename_i v n hc
   have hn:1≤n∧p+n≤s.size:=by
    rcases chD_cases s p with⟨v',n',h1,h2⟩|⟨_,h2⟩
    ·rw[h2]at hc
     simp only[Option.some.injEq,Prod.mk.injEq]at hc
     have h3:=h1.size
     have h4:=h1.last
     omega
    ·rw[h2]at hc;cases hc
   split at h
   ·cases h
   ·split at h
    ·split at h
     ·rename_i h5
      simp only[Sum.inr.injEq,Prod.mk.injEq]at h
      omega
     ·split at h<;>cases h
    ·split at h
     ·split at h
      ·simp only[Sum.inr.injEq,Prod.mk.injEq]at h
       omega
      ·split at h
       ·cases h
       ·rename_i x t he
        have:=escV_gt he
        simp only[Sum.inr.injEq,Prod.mk.injEq]at h
        omega
     ·simp only[Sum.inr.injEq,Prod.mk.injEq]at h
      omega
theorem quoN_more {s:ByteArray} {a q:Nat} :∀(f g p:Nat) (out:List UInt8),s.size+1-p≤f→s.size+1-p≤g→quoN s a q f p out=quoN s a q g p out
 |0,0,_,_,_,_=>rfl
 |0,g+1,p,out,h,_=>by
  have hp:s.size≤p:=by omega
  show TR.err a 31=_
  unfold quoN quoS
  rw[if_pos hp]
 |f+1,0,p,out,_,h=>by
  have hp:s.size≤p:=by omega
  show _=TR.err a 31
  unfold quoN quoS
  rw[if_pos hp]
 |f+1,g+1,p,out,h,h2=>by
  unfold quoN
  cases hq:quoS s a q p out with
  |inl R=>rfl
  |inr x=>
   obtain⟨p',out'⟩:=x
   have:=quoS_inr hq
   exact quoN_more f g p' out' (by omega) (by omega)
theorem quoE_end {s:ByteArray} {a q p:Nat} {out:List UInt8} {R:TR}(h:quoS s a q p out= .inl R) (hR:s.size≤p→R= .err a 31):quoE s a q p out=R:=by
 unfold quoE
 cases hf:s.size+1-p with
 |zero=>rw[quoN,hR (by omega)]
 |succ f=>unfold quoN;rw[h]
theorem quoE_step {s:ByteArray} {a q p p':Nat} {out out':List UInt8}(h:quoS s a q p out= .inr (p',out')):quoE s a q p out=quoE s a q p' out':=by
 have h1:=quoS_inr h
 unfold quoE
 have hp:p≤s.size:=by
  rcases Nat.lt_or_ge s.size p with h2|h2
  ·unfold quoS at h
   rw[if_pos (by omega)]at h
   cases h
  ·exact h2
 obtain⟨f,hf⟩:∃f,s.size+1-p=f+1:=⟨s.size-p,by omega⟩
 rw[hf,quoN,h]
 exact quoN_more _ _ _ _ (by omega) (by omega)
def lngR (s:ByteArray) (k a t:Nat):TR:=if 1000<t-a then .err a 35 else .ok k (s.extract a t) ⟨#[]⟩ 0 a t
noncomputable def tokR (s:ByteArray) (a:Nat):TR:=
 if a=s.size then .ok 10 ⟨#[]⟩ ⟨#[]⟩ 0 a a
 else if digB (byt s a).toNat then numR s a
 else if byt s a=39∨byt s a=34∨byt s a=96 then quoE s a (byt s a).toNat (a+1) []
 else if smlB (byt s a).toNat then lngR s 1 a (rowE letB s a)
 else if grtB (byt s a).toNat then lngR s 3 a (rowE letB s a)
 else if sgnB (byt s a).toNat then
  (if rowE sgnB s a=a+1∧byt s a=46∧(a+1=s.size∨blkB (byt s (a+1)).toNat∨byt s (a+1)=37)then .ok 9 ⟨#[]⟩ ⟨#[]⟩ 0 a (a+1)
   else lngR s 1 a (rowE sgnB s a))
 else if byt s a=33∨byt s a=59 then lngR s 1 a (a+1)
 else if punB (byt s a).toNat then lngR s 8 a (a+1)
 else .err a 30
end Go.Lx
namespace Go.Proofs
open Go.RowKit Go.Pf Go.Lx Go.Hb Go.Rb
def TR.tok:TR→Value
 | .ok k tx nu bits a en=>tokV k tx nu bits a en false
 | .err p _=>badV p
def TR.er:TR→Nat
 | .ok .. =>0
 | .err _ n=>n
def TokEnd (R:TR) (w:World) (e:Ending) (w':World):Prop:=e= .returned (.tuple #[TR.tok R,.int .i64 (TR.er R)])∧Below w.heap.size w w'
end Go.Proofs
end
section
namespace Go.Lx
open Go.Pf
theorem fl_pow0 (X:Nat):X*10^0=X:=by rw[Nat.pow_zero,Nat.mul_one]
theorem flt_zero (x:Int):fltB 0 x=0:=fltB_eq (Fl.nought (by rw[Nat.zero_mul,Nat.zero_mul,Nat.mul_zero];exact Nat.pow_pos (by decide)))
theorem flt_low {X:Nat} {x:Int} {L:Nat}(hX:X<10^L) (hL:L≤400) (hx:x< -800):fltB X x=0:=by
 refine fltB_eq (Fl.nought ?_)
 have e1:x.toNat=0:=by omega
 have e2:L+TD≤(-x).toNat:=by unfold TD;omega
 have hs:=small10'
 rw[e1,fl_pow0]
 have hK:KZ=2^KE:=rfl
 rw[hK]
 clear e1 hK hx
 generalize(-x).toNat=d at*
 generalize KE=k at*
 generalize TD=t at*
 calc 2*(X*2^k)=X*2^(1+k):=by rw[Nat.pow_add,Nat.pow_one];ac_rfl
  _≤X*10^t:=Nat.mul_le_mul_left _ hs
  _<10^L*10^t:=(Nat.mul_lt_mul_right (Nat.pow_pos (by decide))).2 hX
  _=10^(L+t):=by rw[Nat.pow_add]
  _≤10^d:=Nat.pow_le_pow_right (by decide) e2
theorem flt_high {X:Nat} {x:Int}(hX:0<X) (hx:400<x):fltB X x=infB:=by
 have e1:(-x).toNat=0:=by omega
 have e2:TB≤x.toNat:=by unfold TB;omega
 have hb:=big10
 refine fltB_eq ?_
 rw[e1]
 refine Fl.inf (Nat.pow_pos (by decide)) ?_
 rw[Nat.pow_zero,Nat.mul_one]
 refine Nat.le_trans hb (Nat.le_trans (Nat.pow_le_pow_right (by decide) e2) (Nat.le_mul_of_pos_left _ hX))
end Go.Lx
namespace Go.Proofs
open Go.RowKit Go.Pf Go.Rb Go.Lx
def decV (b:Nat):Value:= .tuple #[.int .u64 (if b<infB then b else 0:Nat),.bool (decide (b<infB))]
def DecSays (b:Nat) (w:World) (e:Ending) (w':World):Prop:=e= .returned (decV b)∧Below w.heap.size w w'
theorem rat_dec {A B X:Nat} {x:Int} {r:Nat×Bool}(hA:A=X*10^x.toNat) (hB:B=10^(-x).toNat) (h:RatOk A B r):Value.tuple #[.int .u64 r.1,.bool r.2]=decV (fltB X x):=by
 obtain⟨b,h1,h2⟩:=h
 have hf:fltB X x=min b infB:=fltB_eq (by rw[←hA,←hB];exact⟨b,h1,rfl⟩)
 rw[h2,hf]
 unfold decV
 by_cases hb:b<infB
 ·rw[if_pos hb,Nat.min_eq_left (Nat.le_of_lt hb),if_pos hb,decide_eq_true hb]
 ·rw[if_neg hb,Nat.min_eq_right (Nat.le_of_not_lt hb),if_neg (Nat.lt_irrefl _),decide_eq_false (Nat.lt_irrefl _)]
theorem dec_ret {A B X b:Nat} {x:Int} {r:Nat×Bool} {w w':World}(hb:b=fltB X x) (hA:A=X*10^x.toNat) (hB:B=10^(-x).toNat) (h:RatOk A B r) (hbel:Below w.heap.size w w'):DecSays b w (.returned (.tuple #[.int .u64 r.1,.bool r.2])) w':=⟨by rw[hb,rat_dec hA hB h],hbel⟩
theorem Tryz.enter108 (vs:Array Value) (w:World):(callFunc 108 vs).run Tryz.prog w= .ok (.enter 108 vs) w:=by kernel_rfl
theorem Tryz.enter110 (vs:Array Value) (w:World):(callFunc 110 vs).run Tryz.prog w= .ok (.enter 110 vs) w:=by kernel_rfl
theorem ten_up:10^400<2^2000:=Nat.le_of_ble_eq_true (by kernel_rfl)
theorem Tryz.rdecimal (v:Value) (X m:Nat) (x:Int) (w:World) (hv:BtV w v X m) (hT:T2 X m) (hX:Hid (X<10^400)) (hx1: -100000≤x) (hx2:x≤100000):
 Calls Tryz.prog 84 #[.agg #[.bool false,v],.int .i64 x] w (DecSays (fltB X x) w):=by
 obtain⟨va,vc,rfl⟩:=hv.slice
 obtain⟨b,hb⟩:∃b,b=fltB X x:=⟨_,rfl⟩
 rw[←hb]
 have HBq:=Hi hb
 have HV:=Hi hv
 have HT:=Hi hT
 have m2000:m≤2000:=T2.le hT (Nat.lt_trans hX.out ten_up) (nR _)
 have hz:=hT.zero_iff
 clear hb hv hT
 by_cases h0:m=0
 ·have hX0:=hz.1 h0
  have HF:Hid (b=0):=Hi (by rw[HBq.out,hX0];exact flt_zero x)
  have t1:((m:Int)==0)=true:=by rw[h0];rfl
  clear hz hX0 h0
  go_enter Tryz.func84,Tryz.ntmps84
  go_wp2
  go_ret2
  exact⟨by rw[HF.out];rfl,(Below.refl _ _).alloc (nR _) _⟩
 have hX0:0<X:=by
  rcases Nat.eq_zero_or_pos X with h|h
  ·exact absurd (hz.2 h) h0
  ·exact h
 have t1:((m:Int)==0)=false:=eqf (n:=0) h0
 clear hz h0
 by_cases h1:x< -800
 ·have HF:Hid (b=0):=Hi (by rw[HBq.out];exact flt_low hX.out (nR _) h1)
  have t2:decide (x< -800)=true:=decide_eq_true h1
  go_enter Tryz.func84,Tryz.ntmps84
  go_wp2
  go_ret2
  exact⟨by rw[HF.out];rfl,(Below.refl _ _).alloc (nR _) _⟩
 have t2:decide (x< -800)=false:=decide_eq_false h1
 by_cases h2:400<x
 ·have HF:Hid (b=infB):=Hi (by rw[HBq.out];exact flt_high hX0 h2)
  have t3:decide (400<x)=true:=decide_eq_true h2
  go_enter Tryz.func84,Tryz.ntmps84
  go_wp2
  go_ret2
  exact⟨by rw[HF.out];unfold decV;rw[if_neg (Nat.lt_irrefl _),decide_eq_false (Nat.lt_irrefl _)];rfl,(Below.refl _ _).alloc (nR _) _⟩
 have t3:decide (400<x)=false:=decide_eq_false h2
 by_cases h3:0≤x
 ·obtain⟨n,rfl⟩:∃n:Nat,x=n:=⟨x.toNat,by omega⟩
  have t4:decide ((0:Int)≤(n:Int))=true:=decide_eq_true h3
  have n400:n≤400:=by omega
  go_enter Tryz.func84,Tryz.ntmps84
  go_upto_region 6 with fail
  generalize hW:w.alloc _=W1
  have bl:Below w.heap.size w W1:=by subst hW;exact(Below.refl _ _).alloc (nR _) _
  have ca:Ce W1 w.heap.size (.bool false) (.slice va m vc):=by subst hW;exact Ce.new w _ _
  clear hW
  have x0:=ca.c0
  have x1:=ca.c1
  have lt0:w.heap.size<W1.heap.size:=ca.lt
  have hA1:=HV.out.below bl
  have BL:=Hi bl
  clear bl ca
  refine wp_region_held_drew (S:=fun W=>Below W1.heap.size W1 W) (by kernel_rfl) below_drew' (fun hS=> ?_)
  refine wpAnyH_take (i:=0) (oi:=_) (v:= .agg #[.bool false,.slice va m vc]) rfl (by kernel_rfl) (by kernel_rfl) (by kernel_rfl) (fun _ _ _ h=>h) (Or.inl ⟨by rfl,?_⟩) hS ?_
  ·intro W hSW
   have z0:=(hSW.cell (p:=⟨w.heap.size,0,none⟩) lt0).trans x0
   have z1:=(hSW.cell (p:=⟨w.heap.size,1,none⟩) lt0).trans x1
   go_simp
  simp only[uu1,uu2,uu3,Act.put,uu4,uu5,uu6]
  refine wpAnyH_take (i:=1) (oi:=_) (v:= .int .i64 n) rfl (by kernel_rfl) (by kernel_rfl) (by kernel_rfl) (fun _ _ _ h=>h) (Or.inl ⟨by rfl,?_⟩) hS ?_
  ·intro W hSW
   go_simp
  simp only[uu1,uu2,uu3,Act.put,uu4,uu5,uu6]
  refine wpAnyH_ready (rs:= [2]) (by kernel_rfl) (by simp) ?_
  refine AllReadyH.cons rfl (fun K hK=> ?_) AllReadyH.nil
  refine step_call (by rfl) 110 [.tmp 19] #[3] (by rfl) #[.int .i64 n] (by kernel_rfl) Tryz.enter110 ((Tryz.rten n _ (by omega)).mono ?_)
  rintro e W' ⟨⟨a3,m3,c3,rfl,ht3,hv3,hb⟩⟩
  refine⟨_,rfl,?_⟩
  refine hK.out _ _ (hS.trans (hb.mono hS.size)) (fun hS=> ?_)
  simp only[uu1,uu2,uu3,Act.put,uu4,uu5,uu6]
  refine wpAnyH_ready (rs:= [3]) (by kernel_rfl) (by simp) ?_
  refine AllReadyH.cons rfl (fun K hK=> ?_) AllReadyH.nil
  have hSo:=hS
  refine step_call (by rfl) 109 [.tmp 18,.tmp 20] #[109,109] (by rfl) #[.agg #[.bool false,.slice va m vc],.agg #[.bool false,.slice a3 m3 c3]] (by kernel_rfl) Tryz.enter109 ((Tryz.rtimes1 _ _ X (10^n) m m3 _ (hA1.below hSo) hv3 (by omega) (by have:=ten_bits ht3;omega)).mono ?_)
  rintro e W'' ⟨⟨a4,m4,c4,rfl,ht4,hv4,hb⟩⟩
  refine⟨_,rfl,?_⟩
  refine hK.out _ _ (hS.trans (hb.mono hS.size)) (fun hS=> ?_)
  simp only[uu1,uu2,uu3,Act.put,uu4,uu5,uu6]
  refine wpAnyH_ready (rs:= [4]) (by kernel_rfl) (by simp) ?_
  refine AllReadyH.cons rfl (fun K hK=> ?_) AllReadyH.nil
  refine step_call (by rfl) 103 [.const (.int .i64 1)] #[3] (by rfl) #[.int .i64 1] (by kernel_rfl) Tryz.enter103 ((Tryz.rsmall1 _).mono ?_)
  rintro e W' ⟨⟨a5,m5,c5,rfl,ht5,hv5,hb5⟩⟩
  refine⟨_,rfl,?_⟩
  refine hK.out _ _ (hS.trans (hb5.mono hS.size)) (fun hS=> ?_)
  simp only[uu1,uu2,uu3,Act.put,uu4,uu5,uu6]
  refine wpAnyH_ready (rs:= [5]) (by kernel_rfl) (by simp) ?_
  refine AllReadyH.cons rfl (fun K hK=> ?_) AllReadyH.nil
  have MM:Hid (m4≤10000):=Hi (by
   have h5:X*10^n<2^(m+(4*n+1)):=by rw[Nat.pow_add];exact Nat.mul_lt_mul'' HT.out.1 (ten_lt n)
   have:=T2.le ht4 h5 (nR _)
   omega)
  refine step_call (by rfl) 108 [.tmp 21,.tmp 22] #[109,109] (by rfl) #[.agg #[.bool false,.slice a4 m4 c4],.agg #[.bool false,.slice a5 m5 c5]] (by kernel_rfl) Tryz.enter108 ((Tryz.rratio _ _ (X*10^n) 1 m4 m5 _ (hv4.below hb5) hv5 ht4 ht5 (Nat.mul_pos hX0 (Nat.pow_pos (by decide))) (by decide) MM.out (by have:=T2.le ht5 (show 1<2^4 by decide) (nR _);omega)).mono ?_)
  rintro e W' ⟨r,rfl,hok,hb⟩
  refine⟨_,rfl,?_⟩
  refine hK.out _ _ (hS.trans (hb.mono hS.size)) (fun hS=> ?_)
  simp only[uu1,uu2,uu3,Act.put,uu4,uu5,uu6]
  refine wpAnyH_take (i:=6) (oi:=_) (v:= .int .u64 r.1) rfl (by kernel_rfl) (by kernel_rfl) (by kernel_rfl) (fun _ _ _ h=>h) (Or.inl ⟨by rfl,?_⟩) hS ?_
  ·intro W hSW
   go_simp
  simp only[uu1,uu2,uu3,Act.put,uu4,uu5,uu6]
  refine wpAnyH_take (i:=7) (oi:=_) (v:= .bool r.2) rfl (by kernel_rfl) (by kernel_rfl) (by kernel_rfl) (fun _ _ _ h=>h) (Or.inl ⟨by rfl,?_⟩) hS ?_
  ·intro W hSW
   go_simp
  simp only[uu1,uu2,uu3,Act.put,uu4,uu5,uu6]
  refine wpAnyH_take (i:=8) (oi:=_) (v:= .int .u64 r.1) rfl (by kernel_rfl) (by kernel_rfl) (by kernel_rfl) (fun _ _ _ h=>h) (Or.inl ⟨by rfl,?_⟩) hS ?_
  ·intro W hSW
   go_simp
  simp only[uu1,uu2,uu3,Act.put,uu4,uu5,uu6]
  refine wpAnyH_take (i:=9) (oi:=_) (v:= .bool r.2) rfl (by kernel_rfl) (by kernel_rfl) (by kernel_rfl) (fun _ _ _ h=>h) (Or.inl ⟨by rfl,?_⟩) hS ?_
  ·intro W hSW
   go_simp
  simp only[uu1,uu2,uu3,Act.put,uu4,uu5,uu6]
  refine wpAnyH_done (by kernel_rfl) ?_ _
  go_wp2
  go_ret2
  exact dec_ret HBq.out (by rw[Int.toNat_natCast]) (by rw[show(-(n:Int)).toNat=0 by omega,Nat.pow_zero]) hok (BL.out.trans (hS.mono BL.out.size))
 ·obtain⟨n,hn⟩:∃n:Nat,-x=n:=⟨(-x).toNat,by omega⟩
  have t4:decide ((0:Int)≤x)=false:=decide_eq_false h3
  have n800:n≤800:=by omega
  have wr1:IntKind.i64.wrap (-x)=(n:Int):=by rw[IntWalk.i64_in _ (by omega),hn]
  have HN:=Hi hn
  clear hn
  go_enter Tryz.func84,Tryz.ntmps84
  go_upto_region 7 with fail
  generalize hW:w.alloc _=W1
  have bl:Below w.heap.size w W1:=by subst hW;exact(Below.refl _ _).alloc (nR _) _
  have ca:Ce W1 w.heap.size (.bool false) (.slice va m vc):=by subst hW;exact Ce.new w _ _
  clear hW
  have x0:=ca.c0
  have x1:=ca.c1
  have lt0:w.heap.size<W1.heap.size:=ca.lt
  have hA1:=HV.out.below bl
  have BL:=Hi bl
  clear bl ca
  refine wp_region_held_drew (S:=fun W=>Below W1.heap.size W1 W) (by kernel_rfl) below_drew' (fun hS=> ?_)
  refine wpAnyH_take (i:=0) (oi:=_) (v:= .agg #[.bool false,.slice va m vc]) rfl (by kernel_rfl) (by kernel_rfl) (by kernel_rfl) (fun _ _ _ h=>h) (Or.inl ⟨by rfl,?_⟩) hS ?_
  ·intro W hSW
   have z0:=(hSW.cell (p:=⟨w.heap.size,0,none⟩) lt0).trans x0
   have z1:=(hSW.cell (p:=⟨w.heap.size,1,none⟩) lt0).trans x1
   go_simp
  simp only[uu1,uu2,uu3,Act.put,uu4,uu5,uu6]
  refine wpAnyH_take (i:=1) (oi:=_) (v:= .int .i64 x) rfl (by kernel_rfl) (by kernel_rfl) (by kernel_rfl) (fun _ _ _ h=>h) (Or.inl ⟨by rfl,?_⟩) hS ?_
  ·intro W hSW
   go_simp
  simp only[uu1,uu2,uu3,Act.put,uu4,uu5,uu6]
  refine wpAnyH_take (i:=2) (oi:=_) (v:= .int .i64 n) rfl (by kernel_rfl) (by kernel_rfl) (by kernel_rfl) (fun _ _ _ h=>h) (Or.inl ⟨by rfl,?_⟩) hS ?_
  ·intro W hSW
   go_simp
  simp only[uu1,uu2,uu3,Act.put,uu4,uu5,uu6]
  refine wpAnyH_ready (rs:= [3]) (by kernel_rfl) (by simp) ?_
  refine AllReadyH.cons rfl (fun K hK=> ?_) AllReadyH.nil
  refine step_call (by rfl) 110 [.tmp 28] #[3] (by rfl) #[.int .i64 n] (by kernel_rfl) Tryz.enter110 ((Tryz.rten n _ (by omega)).mono ?_)
  rintro e W' ⟨⟨a3,m3,c3,rfl,ht3,hv3,hb3⟩⟩
  refine⟨_,rfl,?_⟩
  refine hK.out _ _ (hS.trans (hb3.mono hS.size)) (fun hS=> ?_)
  simp only[uu1,uu2,uu3,Act.put,uu4,uu5,uu6]
  refine wpAnyH_ready (rs:= [4]) (by kernel_rfl) (by simp) ?_
  refine AllReadyH.cons rfl (fun K hK=> ?_) AllReadyH.nil
  have hSo:=hS
  refine step_call (by rfl) 108 [.tmp 26,.tmp 29] #[109,109] (by rfl) #[.agg #[.bool false,.slice va m vc],.agg #[.bool false,.slice a3 m3 c3]] (by kernel_rfl) Tryz.enter108 ((Tryz.rratio _ _ X (10^n) m m3 _ (hA1.below hSo) hv3 HT.out ht3 hX0 (Nat.pow_pos (by decide)) (by omega) (by have:=ten_bits ht3;omega)).mono ?_)
  rintro e W' ⟨r,rfl,hok,hb⟩
  refine⟨_,rfl,?_⟩
  refine hK.out _ _ (hS.trans (hb.mono hS.size)) (fun hS=> ?_)
  simp only[uu1,uu2,uu3,Act.put,uu4,uu5,uu6]
  refine wpAnyH_take (i:=5) (oi:=_) (v:= .int .u64 r.1) rfl (by kernel_rfl) (by kernel_rfl) (by kernel_rfl) (fun _ _ _ h=>h) (Or.inl ⟨by rfl,?_⟩) hS ?_
  ·intro W hSW
   go_simp
  simp only[uu1,uu2,uu3,Act.put,uu4,uu5,uu6]
  refine wpAnyH_take (i:=6) (oi:=_) (v:= .bool r.2) rfl (by kernel_rfl) (by kernel_rfl) (by kernel_rfl) (fun _ _ _ h=>h) (Or.inl ⟨by rfl,?_⟩) hS ?_
  ·intro W hSW
   go_simp
  simp only[uu1,uu2,uu3,Act.put,uu4,uu5,uu6]
  refine wpAnyH_take (i:=7) (oi:=_) (v:= .int .u64 r.1) rfl (by kernel_rfl) (by kernel_rfl) (by kernel_rfl) (fun _ _ _ h=>h) (Or.inl ⟨by rfl,?_⟩) hS ?_
  ·intro W hSW
   go_simp
  simp only[uu1,uu2,uu3,Act.put,uu4,uu5,uu6]
  refine wpAnyH_take (i:=8) (oi:=_) (v:= .bool r.2) rfl (by kernel_rfl) (by kernel_rfl) (by kernel_rfl) (fun _ _ _ h=>h) (Or.inl ⟨by rfl,?_⟩) hS ?_
  ·intro W hSW
   go_simp
  simp only[uu1,uu2,uu3,Act.put,uu4,uu5,uu6]
  refine wpAnyH_done (by kernel_rfl) ?_ _
  go_wp2
  go_ret2
  exact dec_ret HBq.out (by rw[show x.toNat=0 by omega,Nat.pow_zero,Nat.mul_one]) (by rw[show(-x).toNat=n by have:=HN.out;omega]) hok (BL.out.trans (hS.mono BL.out.size))
end Go.Proofs
end
