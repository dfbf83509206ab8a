import Derived.Test.YtpjcdbjablijkaaGreatDoorTai
import Derived.Test.YtpjcdbjablijkaaGreatDoorTah
import Derived.Test.YtpjcdbjablijkaaGreatDoorTaa
import Derived.Test.YtpjcdbjablijkaaGreatDoorTag
set_option maxRecDepth 1000000
set_option maxHeartbeats 40000000
namespace Go.Proofs
open Go.RowKit Go.Pf
def ReadSays (m:Nat) (x:Int) (tr:Bool) (n:Nat) (w:World) (e:Ending) (w':World):Prop:=
 e= .returned (.tuple #[.int .u64 m,.int .i64 x,.bool false,.bool tr,.bool false,.int .i64 n,.bool true])∧w=w'
theorem Tryz.readFloat (s:ByteArray) (p q f:Nat) (sg:Int) (w:World) (hF:Hid (FTxt s p q f sg)) (hs:s.size≤4611686018427387904):
 Calls Tryz.prog 227 #[.string s] w (ReadSays (rf s q).mant (rfExp s q f sg) (rf s q).trunc s.size w):=by
 have p0:=hF.out.p0
 have pq:=hF.out.pq
 have qs:=hF.out.qs
 have hB:∀k (h:k<s.size),s[k].toNat=byte s k:=fun k h=>(byte_get h).symm
 have HB:=Hi hB
 clear hB
 have h0:0<s.size:=by omega
 have h1:1<s.size:=by omega
 have b0:=hF.out.dig 0 (by omega) (by omega)
 rw[←HB.out 0 h0]at b0
 have e1:((s[0].toNat:Int)==43)=false:=eqf (n:=43) (by omega)
 have e2:((s[0].toNat:Int)==45)=false:=eqf (n:=45) (by omega)
 have b1:s[1].toNat=46∨dgc s[1].toNat:=by
  rw[HB.out 1 h1]
  by_cases hp:p=1
  ·subst hp;exact .inl hF.out.dot
  ·exact .inr (hF.out.dig 1 (by omega) (by omega))
 have e3:((s[1].toNat:Int)==120)=false:=eqf (n:=120) (by unfold dgc at b1;omega)
 have B1:=Hi b1
 clear b0 b1
 have hne:decide (s=ByteArray.empty)=false:=decide_eq_false (by intro h;rw[h]at h0;simp at h0)
 go_enter Tryz.func227,Tryz.ntmps227
 go_wp2
 go_step3
 go_upto_region 12 with fail
 go_cut [54]from 21 (fun s54 wx=>s54= .bool false∧w=wx)
 case first=>
  go_wp2_with (go_at_call 180;(with_reducible refine(Tryz.lowerDig _ B1.out _).mono ?_);rintro e w' ⟨rfl,rfl⟩)
  all_goals (go_meet;exact⟨rfl,rfl⟩)
 case rest=>
 obtain⟨rfl,rfl⟩:=hcut
 go_wp2
 go_step3
 go_wp2
 go_loop [2,5,7,9,13,14,15,16,17] (fun m tr i u dt sd nd nm dp=>∃(k m' nd' nm':Nat) (dp':Int) (tr' dt' sd':Bool),k≤q∧m= .int .u64 m'∧tr= .bool tr'∧i= .int .i64 k∧u= .bool false∧dt= .bool dt'∧sd= .bool sd'∧nd= .int .i64 nd'∧nm= .int .i64 nm'∧dp= .int .i64 dp'∧rf s k=⟨m',nd',nm',dp',tr'⟩∧dt'=decide (p<k)∧sd'=decide (0<k)) (fun _ _ i _ _ _ _ _ _=>q+1-(intOf i).toNat)
 case atStart=>exact⟨0,0,0,0,0,false,false,false,by omega,rfl,rfl,rfl,rfl,rfl,rfl,rfl,rfl,rfl,rfl,by simp,by simp⟩
 case round=>
  obtain⟨k,m',nd',nm',dp',tr',dt',sd',hk,rfl,rfl,rfl,rfl,rfl,rfl,rfl,rfl,rfl,hr,hdt,hsd⟩:=hrel
  have ok:=hF.out.ok k hk
  rw[hr]at ok
  have o1:nm'≤19:=ok.m19
  have o2:nm'≤nd':=ok.mn
  have o3:nd'≤k:=ok.nk
  have o5: -(k:Int)≤dp':=ok.lo
  have o6:dp'≤k:=ok.hi
  by_cases hlt:k<q
  ·as_aux_lemma=>
   have hks:k<s.size:=by omega
   have hst:rf s (k+1)=rfStep ⟨m',nd',nm',dp',tr'⟩ s[k].toNat:=by rw[HB.out k hks,←hr];rfl
   have HST:=Hi hst
   by_cases hp:k=p
   ·subst hp
    have c1:s[k].toNat=46:=by rw[HB.out k hks];exact hF.out.dot
    have d1:dt'=false:=by rw[hdt];simp
    have d2:sd'=true:=by rw[hsd];simp;omega
    have e1:((s[k].toNat:Int)==95)=false:=eqf (n:=95) (by omega)
    have e2:((s[k].toNat:Int)==46)=true:=by rw[c1];rfl
    have HC:=Hi c1
    subst d1 d2
    clear c1 hr ok hst hdt hsd
    go_wp2
    go_round
    case rel=>
     refine⟨k+1,m',nd',nm',nd',tr',true,true,by omega,rfl,rfl,by go_num,rfl,rfl,rfl,rfl,rfl,rfl,?_,by simp,by simp⟩
     rw[HST.out,HC.out];rfl
    case measure=>simp[intOf];omega
   ·have b0:=hF.out.dig k hlt hp
    rw[←HB.out k hks]at b0
    have e1:((s[k].toNat:Int)==95)=false:=eqf (n:=95) (by omega)
    have e2:((s[k].toNat:Int)==46)=false:=eqf (n:=46) (by omega)
    have e3:decide ((48:Int)≤(s[k].toNat:Int))=true:=dTo
    have e4:decide ((s[k].toNat:Int)≤57)=true:=dTo
    have hd2:dt'=decide (p<k+1):=by rw[hdt];congr 1;simp;omega
    have HD:=Hi hd2
    have n46:s[k].toNat≠46:=by omega
    have N46:=Hi n46
    have ml:nm'<19→m'<10^18:=fun h=>mant_lt18 ok h
    obtain⟨c,hc⟩:∃c:Nat,c=s[k].toNat-48:=⟨_,rfl⟩
    have hc2:(s[k].toNat:Int)-48=(c:Int):=by omega
    have hc9:(c:Int)≤9:=by omega
    have HC:=Hi hc
    have z1:((s[k].toNat:Int)==48)=decide (c=0):=by
     by_cases h:c=0
     ·rw[decide_eq_true h];simp;omega
     ·rw[decide_eq_false h];exact eqf (n:=48) (by omega)
    have HZ:=Hi (show s[k].toNat=48↔c=0 by omega)
    clear hr ok hst hdt hsd b0 n46 hc hd2
    by_cases hz:c=0∧nd'=0
    ·obtain⟨hc0,hn0⟩:=hz
     have z2:((s[k].toNat:Int)==48)=true:=by rw[z1];exact decide_eq_true hc0
     have z3:((nd':Int)==0)=true:=by rw[hn0];rfl
     have HN:=Hi hn0
     clear z1 ml hn0
     go_wp2
     go_round
     case rel=>
      refine⟨k+1,m',nd',nm',dp'-1,tr',dt',true,by omega,rfl,rfl,by go_num,rfl,rfl,rfl,rfl,rfl,by go_num,?_,HD.out,by simp⟩
      rw[HST.out]
      simp only[rfStep,if_neg N46.out,if_pos (show s[k].toNat=48∧nd'=0 from⟨HZ.out.2 hc0,HN.out⟩)]
     case measure=>simp[intOf];omega
    ·have hzz:¬(s[k].toNat=48∧nd'=0):=fun h=>hz ⟨HZ.out.1 h.1,h.2⟩
     have HZZ:=Hi hzz
     have zz:(((s[k].toNat:Int)==48)=true∧((nd':Int)==0)=false)∨((s[k].toNat:Int)==48)=false:=by
      by_cases h:c=0
      ·exact .inl ⟨by rw[z1];exact decide_eq_true h,eqf (n:=0) (by omega)⟩
      ·exact .inr (by rw[z1];exact decide_eq_false h)
     clear hz hzz
     by_cases h19:nm'<19
     ·have hm18:(m':Int)<1000000000000000000:=by have:=ml h19;omega
      have h19i:decide ((nm':Int)<19)=true:=dTo
      clear ml z1
      have fin:∃(k2 m2 nd2 nm2:Nat) (dp2:Int) (tr2 dt2 sd2:Bool),k2≤q∧Value.int .u64 ((m':Int)*10+(c:Int))= .int .u64 m2∧Value.bool tr'= .bool tr2∧Value.int .i64 ((k:Int)+1)= .int .i64 k2∧Value.bool false= .bool false∧Value.bool dt'= .bool dt2∧Value.bool true= .bool sd2∧Value.int .i64 ((nd':Int)+1)= .int .i64 nd2∧Value.int .i64 ((nm':Int)+1)= .int .i64 nm2∧Value.int .i64 dp'= .int .i64 dp2∧rf s k2=⟨m2,nd2,nm2,dp2,tr2⟩∧dt2=decide (p<k2)∧sd2=decide (0<k2):=by
       refine⟨k+1,m'*10+c,nd'+1,nm'+1,dp',tr',dt',true,by omega,by go_num,rfl,by go_num,rfl,rfl,rfl,by go_num,by go_num,rfl,?_,HD.out,by simp⟩
       rw[HST.out]
       simp only[rfStep,if_neg N46.out,if_neg HZZ.out,if_pos h19,HC.out]
      have FIN:=Hi fin
      clear fin
      rcases zz with⟨z2,z3⟩|z2
      ·go_wp2
       go_round
       case rel=>exact FIN.out
       case measure=>simp[intOf];omega
      ·go_wp2
       go_round
       case rel=>exact FIN.out
       case measure=>simp[intOf];omega
     ·have h19i:decide ((nm':Int)<19)=false:=dFo
      have h19e:nm'=19:=by omega
      have nz:((nd':Int)==0)=false:=eqf (n:=0) (by omega)
      have H19:=Hi h19
      clear ml zz h19 h19e
      by_cases h0c:c=0
      ·have z2:((s[k].toNat:Int)==48)=true:=by rw[z1];exact decide_eq_true h0c
       have HZ0:=Hi (HZ.out.2 h0c)
       clear z1
       go_wp2
       go_round
       case rel=>
        refine⟨k+1,m',nd'+1,nm',dp',tr',dt',true,by omega,rfl,rfl,by go_num,rfl,rfl,rfl,by go_num,rfl,rfl,?_,HD.out,by simp⟩
        rw[HST.out,rfStep,if_neg N46.out,if_neg HZZ.out,if_neg H19.out]
        simp only[HZ0.out]
        simp
       case measure=>simp[intOf];omega
      ·have z2:((s[k].toNat:Int)==48)=false:=by rw[z1];exact decide_eq_false h0c
       have HZ0:Hid (s[k].toNat≠48):=Hi (fun h=>h0c (HZ.out.1 h))
       clear z1
       go_wp2
       go_round
       case rel=>
        refine⟨k+1,m',nd'+1,nm',dp',true,dt',true,by omega,rfl,rfl,by go_num,rfl,rfl,rfl,by go_num,rfl,rfl,?_,HD.out,by simp⟩
        rw[HST.out]
        simp only[rfStep,if_neg N46.out,if_neg HZZ.out,if_neg H19.out]
        have:(s[k].toNat !=48)=true:=by simpa using HZ0.out
        rw[this];simp
       case measure=>simp[intOf];omega
  ·obtain rfl:k=q:=by omega
   have d1:dt'=true:=by rw[hdt];simp;omega
   have d2:sd'=true:=by rw[hsd];simp;omega
   have HR:=Hi hr
   subst d1 d2
   have hT:=hF.out.tail
   clear hr ok hdt hsd
   rcases hT with⟨t1,t2,t3⟩|⟨t1,t2,t3,t4,t5,t6⟩
   ·as_aux_lemma=>
    have hres:ReadSays m' (if m'=0 then 0 else dp'-nm') tr' s.size w=ReadSays (rf s k).mant (rfExp s k f sg) (rf s k).trunc s.size w:=by
     unfold rfExp
     rw[HR.out,t2]
     simp[ef]
    have HRES:=Hi hres
    have hks:¬k<s.size:=by omega
    have HT:=Hi t1
    clear hres t1 t2 t3
    by_cases hm0:m'=0
    ·subst hm0
     have z0:(((0:Nat):Int)==0)=true:=rfl
     go_wp2
     refine bodyPost_ret (v:= .tuple #[.int .u64 (0:Nat),.int .i64 0,.bool false,.bool tr',.bool false,.int .i64 k,.bool true]) ?_ rfl ?_
     ·simp only[results,Tryz.results227]
      go_simp
     ·rw[←HRES.out]
      exact⟨by simp[HT.out],rfl⟩
    ·have z0:((m':Int)==0)=false:=eqf (n:=0) (by omega)
     have HM:=Hi hm0
     clear hm0
     go_wp2
     refine bodyPost_ret (v:= .tuple #[.int .u64 m',.int .i64 (dp'-nm'),.bool false,.bool tr',.bool false,.int .i64 k,.bool true]) ?_ rfl ?_
     ·simp only[results,Tryz.results227]
      go_simp
     ·rw[←HRES.out,if_neg HM.out]
      exact⟨by simp[HT.out],rfl⟩
   ·have hks:k<s.size:=t1
    have hck:=HB.out k t1
    have E101:s[k].toNat=101∨s[k].toNat=69:=by rw[hck];exact t2
    have e1:((s[k].toNat:Int)==95)=false:=eqf (n:=95) (by omega)
    have e2:((s[k].toNat:Int)==46)=false:=eqf (n:=46) (by omega)
    have e3:decide ((48:Int)≤(s[k].toNat:Int))=true:=dTo
    have e4:decide ((s[k].toNat:Int)≤57)=false:=dFo
    have HE:=Hi E101
    obtain⟨k1,hk1⟩:∃k1:Nat,k1=k+1:=⟨_,rfl⟩
    obtain⟨k2,hk2⟩:∃k2:Nat,k2=k+2:=⟨_,rfl⟩
    have i1:(k:Int)+1=(k1:Int):=by omega
    have i2:(k1:Int)+1=(k2:Int):=by omega
    have l1:k1<s.size:=by omega
    have lf:=t6 f (by omega) t4
    have hres:ReadSays m' (if m'=0 then 0 else dp'+ef s f (s.size-f)*sg-nm') tr' s.size w=ReadSays (rf s k).mant (rfExp s k f sg) (rf s k).trunc s.size w:=by
     unfold rfExp
     rw[HR.out]
    have HRES:=Hi hres
    have T6:Hid (∀j (h:j<s.size),f≤j→48≤s[j].toNat∧s[j].toNat≤57):=Hi (fun j h hf=>by rw[HB.out j h];exact t6 j hf h)
    have t3':(f=k1∧sg=1∧48≤s[k1].toNat∧s[k1].toNat≤57)∨(f=k2∧sg=1∧s[k1].toNat=43)∨(f=k2∧sg= -1∧s[k1].toNat=45):=by
     rw[HB.out k1 l1]
     subst hk1 hk2
     rcases t3 with⟨a,b⟩|h|h
     ·refine .inl ⟨a,b,?_⟩
      rw[←a];exact lf
     ·exact .inr (.inl h)
     ·exact .inr (.inr h)
    have HX:=Hi (show k1≤f∧f≤k2 by omega)
    have lff:=T6.out f t4 (nR _)
    have q1:decide ((s[f].toNat:Int)<48)=false:=dFo
    have q2:decide ((57:Int)<(s[f].toNat:Int))=false:=dFo
    have q3:¬s.size≤f:=by omega
    have q4:¬s.size≤k1:=by omega
    have T5:=Hi t5
    clear hres t1 t2 t3 t6 E101 hck lf lff hk1 hk2 hF
    rcases t3' with⟨ha,hb,hc1,hc2⟩|⟨ha,hb,hc⟩|⟨ha,hb,hc⟩
    ·as_aux_lemma=>
     have g1:((s[k1].toNat:Int)==43)=false:=eqf (n:=43) (by omega)
     have g2:((s[k1].toNat:Int)==45)=false:=eqf (n:=45) (by omega)
     subst hb ha
     clear hc1 hc2
     go_wp2_with (go_at_call 180;(with_reducible refine(Tryz.lowerE _ HE.out _).mono ?_);rintro e w' ⟨rfl,rfl⟩)
     go_loop [7,9,20] (fun i u e=>∃(j e':Nat),f≤j∧j≤s.size∧i= .int .i64 j∧u= .bool false∧e= .int .i64 e'∧e'=ef s f (j-f)) (fun i _ _=>s.size+1-(intOf i).toNat)
     case atStart=>exact⟨f,0,nR _,by omega,rfl,rfl,rfl,by simp[ef]⟩
     case round=>
      obtain⟨j,e',hj1,hj2,rfl,rfl,rfl,he⟩:=hrel
      by_cases hjl:j<s.size
      ·have dj:=T6.out j hjl hj1
       have x1:decide ((48:Int)≤(s[j].toNat:Int))=true:=dTo
       have x2:decide ((s[j].toNat:Int)≤57)=true:=dTo
       have x3:((s[j].toNat:Int)==95)=false:=eqf (n:=95) (by omega)
       have lt:e'<10^3:=by
        rw[he]
        exact Nat.lt_of_lt_of_le (ef_lt s f (j-f) (fun i hi=>by rw[←HB.out (f+i) (by omega)];exact(T6.out (f+i) (by omega) (by omega)).2)) (Nat.pow_le_pow_right (by decide) (by have:=T5.out;omega))
       have x4:decide ((e':Int)<10000)=true:=dTo
       have x5:(e':Int)≤999:=by omega
       obtain⟨e2,he2⟩:∃e2:Nat,e2=e'*10+(s[j].toNat-48):=⟨_,rfl⟩
       have x6:(e':Int)*10+(s[j].toNat:Int)-48=(e2:Int):=by omega
       have hnext:e2=ef s f (j+1-f):=by
        have h1:j+1-f=(j-f)+1:=by omega
        have h2:f+(j-f)=j:=by omega
        rw[h1,ef,←he,he2,HB.out j hjl,h2]
       have HN:=Hi hnext
       have x7:(s[j].toNat:Int)≤57:=by omega
       clear dj lt he he2 hnext
       go_wp2
       go_round
       case rel=>exact⟨j+1,e2,by omega,by omega,by go_num,rfl,by go_num,HN.out⟩
       case measure=>simp[intOf];omega
      ·have hjs:j=s.size:=by omega
       have lt:e'<10^4:=by
        rw[he]
        exact Nat.lt_of_lt_of_le (ef_lt s f (j-f) (fun i hi=>by rw[←HB.out (f+i) (by omega)];exact(T6.out (f+i) (by omega) (by omega)).2)) (Nat.pow_le_pow_right (by decide) (by have:=T5.out;omega))
       have x5:(e':Int)≤9999:=by omega
       rw[hjs]at he
       rw[←he]at HRES
       have HJ:=Hi hjs
       clear he lt hjs
       by_cases hm0:m'=0
       ·subst hm0
        go_wp2
        refine bodyPost_ret (v:= .tuple #[.int .u64 (0:Nat),.int .i64 0,.bool false,.bool tr',.bool false,.int .i64 j,.bool true]) ?_ rfl ?_
        ·simp only[results,Tryz.results227]
         go_simp
        ·rw[←HRES.out]
         exact⟨by simp[HJ.out],rfl⟩
       ·have z0:((m':Int)==0)=false:=eqf (n:=0) (by omega)
        have HM:=Hi hm0
        clear hm0
        go_wp2
        refine bodyPost_ret (v:= .tuple #[.int .u64 m',.int .i64 (dp'+e'-nm'),.bool false,.bool tr',.bool false,.int .i64 j,.bool true]) ?_ rfl ?_
        ·simp only[results,Tryz.results227]
         go_simp
        ·rw[←HRES.out,if_neg HM.out]
         exact⟨by simp[HJ.out],rfl⟩
    ·as_aux_lemma=>
     have g1:((s[k1].toNat:Int)==43)=true:=eqt (n:=43) hc
     subst hb ha
     clear hc
     go_wp2_with (go_at_call 180;(with_reducible refine(Tryz.lowerE _ HE.out _).mono ?_);rintro e w' ⟨rfl,rfl⟩)
     go_loop [7,9,20] (fun i u e=>∃(j e':Nat),f≤j∧j≤s.size∧i= .int .i64 j∧u= .bool false∧e= .int .i64 e'∧e'=ef s f (j-f)) (fun i _ _=>s.size+1-(intOf i).toNat)
     case atStart=>exact⟨f,0,nR _,by omega,rfl,rfl,rfl,by simp[ef]⟩
     case round=>
      obtain⟨j,e',hj1,hj2,rfl,rfl,rfl,he⟩:=hrel
      by_cases hjl:j<s.size
      ·have dj:=T6.out j hjl hj1
       have x1:decide ((48:Int)≤(s[j].toNat:Int))=true:=dTo
       have x2:decide ((s[j].toNat:Int)≤57)=true:=dTo
       have x3:((s[j].toNat:Int)==95)=false:=eqf (n:=95) (by omega)
       have lt:e'<10^3:=by
        rw[he]
        exact Nat.lt_of_lt_of_le (ef_lt s f (j-f) (fun i hi=>by rw[←HB.out (f+i) (by omega)];exact(T6.out (f+i) (by omega) (by omega)).2)) (Nat.pow_le_pow_right (by decide) (by have:=T5.out;omega))
       have x4:decide ((e':Int)<10000)=true:=dTo
       have x5:(e':Int)≤999:=by omega
       obtain⟨e2,he2⟩:∃e2:Nat,e2=e'*10+(s[j].toNat-48):=⟨_,rfl⟩
       have x6:(e':Int)*10+(s[j].toNat:Int)-48=(e2:Int):=by omega
       have hnext:e2=ef s f (j+1-f):=by
        have h1:j+1-f=(j-f)+1:=by omega
        have h2:f+(j-f)=j:=by omega
        rw[h1,ef,←he,he2,HB.out j hjl,h2]
       have HN:=Hi hnext
       have x7:(s[j].toNat:Int)≤57:=by omega
       clear dj lt he he2 hnext
       go_wp2
       go_round
       case rel=>exact⟨j+1,e2,by omega,by omega,by go_num,rfl,by go_num,HN.out⟩
       case measure=>simp[intOf];omega
      ·have hjs:j=s.size:=by omega
       have lt:e'<10^4:=by
        rw[he]
        exact Nat.lt_of_lt_of_le (ef_lt s f (j-f) (fun i hi=>by rw[←HB.out (f+i) (by omega)];exact(T6.out (f+i) (by omega) (by omega)).2)) (Nat.pow_le_pow_right (by decide) (by have:=T5.out;omega))
       have x5:(e':Int)≤9999:=by omega
       rw[hjs]at he
       rw[←he]at HRES
       have HJ:=Hi hjs
       clear he lt hjs
       by_cases hm0:m'=0
       ·subst hm0
        go_wp2
        refine bodyPost_ret (v:= .tuple #[.int .u64 (0:Nat),.int .i64 0,.bool false,.bool tr',.bool false,.int .i64 j,.bool true]) ?_ rfl ?_
        ·simp only[results,Tryz.results227]
         go_simp
        ·rw[←HRES.out]
         exact⟨by simp[HJ.out],rfl⟩
       ·have z0:((m':Int)==0)=false:=eqf (n:=0) (by omega)
        have HM:=Hi hm0
        clear hm0
        go_wp2
        refine bodyPost_ret (v:= .tuple #[.int .u64 m',.int .i64 (dp'+e'-nm'),.bool false,.bool tr',.bool false,.int .i64 j,.bool true]) ?_ rfl ?_
        ·simp only[results,Tryz.results227]
         go_simp
        ·rw[←HRES.out,if_neg HM.out]
         exact⟨by simp[HJ.out],rfl⟩
    ·as_aux_lemma=>
     have g1:((s[k1].toNat:Int)==43)=false:=eqf (n:=43) (by omega)
     have g2:((s[k1].toNat:Int)==45)=true:=eqt (n:=45) hc
     subst hb ha
     clear hc
     go_wp2_with (go_at_call 180;(with_reducible refine(Tryz.lowerE _ HE.out _).mono ?_);rintro e w' ⟨rfl,rfl⟩)
     go_loop [7,9,20] (fun i u e=>∃(j e':Nat),f≤j∧j≤s.size∧i= .int .i64 j∧u= .bool false∧e= .int .i64 e'∧e'=ef s f (j-f)) (fun i _ _=>s.size+1-(intOf i).toNat)
     case atStart=>exact⟨f,0,nR _,by omega,rfl,rfl,rfl,by simp[ef]⟩
     case round=>
      obtain⟨j,e',hj1,hj2,rfl,rfl,rfl,he⟩:=hrel
      by_cases hjl:j<s.size
      ·have dj:=T6.out j hjl hj1
       have x1:decide ((48:Int)≤(s[j].toNat:Int))=true:=dTo
       have x2:decide ((s[j].toNat:Int)≤57)=true:=dTo
       have x3:((s[j].toNat:Int)==95)=false:=eqf (n:=95) (by omega)
       have lt:e'<10^3:=by
        rw[he]
        exact Nat.lt_of_lt_of_le (ef_lt s f (j-f) (fun i hi=>by rw[←HB.out (f+i) (by omega)];exact(T6.out (f+i) (by omega) (by omega)).2)) (Nat.pow_le_pow_right (by decide) (by have:=T5.out;omega))
       have x4:decide ((e':Int)<10000)=true:=dTo
       have x5:(e':Int)≤999:=by omega
       obtain⟨e2,he2⟩:∃e2:Nat,e2=e'*10+(s[j].toNat-48):=⟨_,rfl⟩
       have x6:(e':Int)*10+(s[j].toNat:Int)-48=(e2:Int):=by omega
       have hnext:e2=ef s f (j+1-f):=by
        have h1:j+1-f=(j-f)+1:=by omega
        have h2:f+(j-f)=j:=by omega
        rw[h1,ef,←he,he2,HB.out j hjl,h2]
       have HN:=Hi hnext
       have x7:(s[j].toNat:Int)≤57:=by omega
       clear dj lt he he2 hnext
       go_wp2
       go_round
       case rel=>exact⟨j+1,e2,by omega,by omega,by go_num,rfl,by go_num,HN.out⟩
       case measure=>simp[intOf];omega
      ·have hjs:j=s.size:=by omega
       have lt:e'<10^4:=by
        rw[he]
        exact Nat.lt_of_lt_of_le (ef_lt s f (j-f) (fun i hi=>by rw[←HB.out (f+i) (by omega)];exact(T6.out (f+i) (by omega) (by omega)).2)) (Nat.pow_le_pow_right (by decide) (by have:=T5.out;omega))
       have x5:(e':Int)≤9999:=by omega
       rw[hjs]at he
       rw[←he]at HRES
       have HJ:=Hi hjs
       clear he lt hjs
       by_cases hm0:m'=0
       ·subst hm0
        go_wp2
        refine bodyPost_ret (v:= .tuple #[.int .u64 (0:Nat),.int .i64 0,.bool false,.bool tr',.bool false,.int .i64 j,.bool true]) ?_ rfl ?_
        ·simp only[results,Tryz.results227]
         go_simp
        ·rw[←HRES.out]
         exact⟨by simp[HJ.out],rfl⟩
       ·have z0:((m':Int)==0)=false:=eqf (n:=0) (by omega)
        have HM:=Hi hm0
        clear hm0
        go_wp2
        refine bodyPost_ret (v:= .tuple #[.int .u64 m',.int .i64 (dp'+e'* -1-nm'),.bool false,.bool tr',.bool false,.int .i64 j,.bool true]) ?_ rfl ?_
        ·simp only[results,Tryz.results227]
         go_simp
        ·rw[←HRES.out,if_neg HM.out]
         exact⟨by simp[HJ.out],rfl⟩
end Go.Proofs
