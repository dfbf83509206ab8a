import Derived.Test.YtnipmfaikiaipaaGreatDoorTas
set_option maxRecDepth 1000000
set_option maxHeartbeats 40000000
namespace Go.Proofs
open Go.RowKit Go.Pf Go.Lx Go.Hb
def OA (k n:Nat) (w:World) (e:Ending) (w':World):Prop:=e= .returned (.tuple #[.int .i64 k,.int .i64 n])/\w=w'
theorem EE {k n k' n':Nat} {w:World}(h:k=k') (h2:n=n'):OA k' n' w (.returned (.tuple #[.int .i64 k,.int .i64 n])) w:=by subst h h2;exact⟨rfl,rfl⟩
theorem eW (s:ByteArray) (a K E:Nat) (w:World) (hs:s.size<=140737488355328) (ha:a<=s.size) (hL:Hid (Lay s a K E)):
 Calls Tryz.prog 106 #[.string s,.int .i64 a] w (OA K E w):=by
 go_enter Tryz.func106,Tryz.ntmps106;go_wp2
 go_loop [1,6,7,8] (fun v _ _ _=>∃p:Nat,v= .int .i64 p/\p<=s.size/\Lay s p K E) (fun v _ _ _=>s.size-(intOf v).toNat)
 case atStart=>exact⟨a,rfl,ha,hL.out⟩
 case round=>
  obtain⟨p,rfl,hp,hl⟩:=hrel;have HL:=Hi hl;clear hl;by_cases hlt:p<s.size
  ·obtain⟨c,hc⟩:∃c,c=s[p].toNat:=⟨_,rfl⟩;have hb:AE s p=(c:Int):=by rw[AO s p hlt,hc]
   have hbn:(AE s p).toNat=c:=by rw[hb];exact IT c
   have TAIL:Hid (∀t:Nat,BP s p= .F8 t->p<t/\t<=s.size/\∃r:Int,(∀w,Calls Tryz.prog 12 #[.string s,.int .i64 p,.int .i64 t] w (RO r w))/\((r= -1/\Lay s t K E)\/∃m:Nat,r=m/\K=m/\E=30)):=Hi (fun t ht=>by
    have h3:=Ea hlt ht;obtain⟨r,hr⟩:=Az.ex (s.extract 0 t) _ p (nR _);refine⟨h3.1,h3.2,r,fun w=>dR s p t r w hs h3.2 (by omega) (Hi hr),?_⟩;rcases Az.Ky hr with rfl|⟨m,rfl⟩
    ·exact .inl ⟨rfl,HL.out.Fp hlt ht hr⟩
    ·exact .inr ⟨m,rfl,HL.out.JN hlt ht hr⟩)
   by_cases hbl:F5 c=true
   ·have CB:Hid (∀w,Calls Tryz.prog 19 #[.int .u8 s[p].toNat] w (AD true w)):=Hi (fun w=>by
     have h:=Nu s[p].toNat w
     rwa [<-hc,hbl,hc]at h)
    have hto:BP s p= .F8 (p+1):=by unfold BP;rw[hbn,if_pos hbl]
    obtain⟨t1,t2,r,hcall,hr⟩:=TAIL.out (p+1) hto;obtain⟨t,htt⟩:∃t,t=p+1:=⟨_,rfl⟩;rw[<-htt]at hcall hr t1 t2;have et:(p:Int)+1=(t:Int):=by omega
    have CO:=Hi hcall;clear hcall hto hbl hb hbn hc htt TAIL;rcases hr with⟨rfl,hl2⟩|⟨m,rfl,hk,he⟩
    ·have H2:=Hi hl2;clear hl2
     go_wp2_with (first|(go_at_call 19;(with_reducible refine(CB.out _).mono ?_);rintro e w' ⟨rfl,rfl⟩)|(go_at_call 12;(with_reducible refine(CO.out _).mono ?_);rintro e w' ⟨rfl,rfl⟩))
     go_round
     case rel=>exact⟨t,by go_num,t2,H2.out⟩
     case measure=>simp[intOf];omega
    ·have HK:=Hi hk;have HE:=Hi he;clear hk he
     go_wp2_with (first|(go_at_call 19;(with_reducible refine(CB.out _).mono ?_);rintro e w' ⟨rfl,rfl⟩)|(go_at_call 12;(with_reducible refine(CO.out _).mono ?_);rintro e w' ⟨rfl,rfl⟩))
     go_ret2;exact EE HK.out.symm HE.out.symm
   ·rw[gh]at hbl;have CB:Hid (∀w,Calls Tryz.prog 19 #[.int .u8 s[p].toNat] w (AD false w)):=Hi (fun w=>by
     have h:=Nu s[p].toNat w
     rwa [<-hc,hbl,hc]at h)
    by_cases h37:c=37
    ·have b37:((s[p].toNat:Int)==37)=true:=by rw[<-hc,h37];rfl
     obtain⟨f,hf⟩:∃f,f=AF (Ni 10) s p:=⟨_,rfl⟩;obtain⟨t,htt⟩:∃t,t=min (f+1) s.size:=⟨_,rfl⟩;have et:min ((f:Int)+1) (s.size:Int)=(t:Int):=by rw[htt];clear hb hbn TAIL CB HL;omega
     have hto:BP s p= .F8 t:=by
      unfold BP;rw[hbn,hbl,if_neg (by decide),if_pos (by rw[hb,h37];rfl),htt,hf]
     obtain⟨t1,t2,r,hcall,hr⟩:=TAIL.out t hto;have hfs:f<=s.size:=by rw[hf];exact Ai _ _ _ hp
     have CF:Hid (∀w,Calls Tryz.prog 156 #[.string s,.int .i64 p,.int .u8 10] w (Ag f w)):=Hi (fun w=>by rw[hf];exact eh s p 10 w hs (by omega));have CO:=Hi hcall;clear hcall hto hbl hb hbn hc htt TAIL hf h37;rcases hr with⟨rfl,hl2⟩|⟨m,rfl,hk,he⟩
     ·have H2:=Hi hl2;clear hl2
      go_wp2_with (first|(go_at_call 19;(with_reducible refine(CB.out _).mono ?_);rintro e w' ⟨rfl,rfl⟩)|(go_at_call 156;(with_reducible refine(CF.out _).mono ?_);rintro e w' ⟨rfl,rfl⟩)|(go_at_call 12;(with_reducible refine(CO.out _).mono ?_);rintro e w' ⟨rfl,rfl⟩))
      go_round
      case rel=>exact⟨t,by go_num,t2,H2.out⟩
      case measure=>simp[intOf];omega
     ·have HK:=Hi hk;have HE:=Hi he;clear hk he
      go_wp2_with (first|(go_at_call 19;(with_reducible refine(CB.out _).mono ?_);rintro e w' ⟨rfl,rfl⟩)|(go_at_call 156;(with_reducible refine(CF.out _).mono ?_);rintro e w' ⟨rfl,rfl⟩)|(go_at_call 12;(with_reducible refine(CO.out _).mono ?_);rintro e w' ⟨rfl,rfl⟩))
      go_ret2;exact EE HK.out.symm HE.out.symm
    ·have b37:((s[p].toNat:Int)==37)=false:=Bn (n:=37) (by rw[<-hc];exact h37);by_cases h47:c=47/\AE s (p+1)=42
     ·obtain⟨h47,hu⟩:=h47;have b47:((s[p].toNat:Int)==47)=true:=by rw[<-hc,h47];rfl
      have CY:Hid (∀w,Calls Tryz.prog 64 #[.string s,.int .i64 ((p:Int)+1)] w fun e w'=>e= .returned (.int .u8 42)/\w'=w):=Hi (fun w=>by rw[<-hu];exact D5 s p 1 w);obtain⟨q,hq⟩:∃q,q=p+2:=⟨_,rfl⟩;have eq2:(p:Int)+2=(q:Int):=by omega
      obtain⟨J,hJ⟩:∃J,J=C7 s q:=⟨_,rfl⟩;have LT:Hid (BP s p=if J+1<s.size then .F8 (J+2)else .QB):=Hi (by
       unfold BP;rw[hbn,hbl,if_neg (by decide),if_neg (by rw[hb];omega),if_pos ⟨by rw[hb,h47];rfl,hu⟩,hJ,hq])
      have hqs:q<=s.size+1:=by omega
      have HJ:=Hi hJ;clear hbl hb hbn h37 h47 hu hq hJ hc
      go_wp2_with (first|(go_at_call 19;(with_reducible refine(CB.out _).mono ?_);rintro e w' ⟨rfl,rfl⟩)|(go_at_call 64;(with_reducible refine(CY.out _).mono ?_);rintro e w' ⟨rfl,rfl⟩))
      go_loop [7] (fun v=>∃j:Nat,j<=s.size+1/\v= .int .i64 j/\J=C7 s j) (fun v=>s.size+1-(intOf v).toNat)
      case atStart=>exact⟨q,hqs,rfl,HJ.out⟩
      case round=>
       obtain⟨j,hj,rfl,hinv⟩:=hrel;by_cases h1:j+1<s.size
       ·have hj1:j<s.size:=by omega
        have e1:=AO s j hj1;have e2:=AO s (j+1) h1;by_cases hm:AE s j=42/\AE s (j+1)=47
        ·have m1:((s[j].toNat:Int)==42)=true:=by rw[<-e1,hm.1];rfl
         have m2:((s[j+1].toNat:Int)==47)=true:=by rw[<-e2,hm.2];rfl
         rw[MJ h1 hm]at hinv;have hto:BP s p= .F8 (j+2):=by rw[LT.out,hinv,if_pos h1]
         obtain⟨t,htt⟩:∃t,t=j+2:=⟨_,rfl⟩;have et:(j:Int)+2=(t:Int):=by rw[htt];rfl
         rw[<-htt]at hto;obtain⟨t1,t2,r,hcall,hr⟩:=TAIL.out t hto;have CO:=Hi hcall;clear hcall hto htt hinv e1 e2 hm TAIL LT;rcases hr with⟨rfl,hl2⟩|⟨m,rfl,hk,he⟩
         ·have H2:=Hi hl2;clear hl2
          go_wp2_with (go_at_call 12;(with_reducible refine(CO.out _).mono ?_);rintro e w' ⟨rfl,rfl⟩)
          go_round
          case rel=>exact⟨t,by go_num,t2,H2.out⟩
          case measure=>simp[intOf];omega
         ·have HK:=Hi hk;have HE:=Hi he;clear hk he
          go_wp2_with (go_at_call 12;(with_reducible refine(CO.out _).mono ?_);rintro e w' ⟨rfl,rfl⟩)
          go_ret2;exact EE HK.out.symm HE.out.symm
        ·have HN:Hid (J=C7 s (j+1)):=Hi (by rw[hinv,MN h1 hm]);have hq2:((s[j].toNat:Int)==42)=false\/(((s[j].toNat:Int)==42)=true/\((s[j+1].toNat:Int)==47)=false):=by
          rw[<-e1,<-e2];by_cases h:AE s j=42
          ·refine .inr ⟨by rw[h];rfl,?_⟩;rw[Lq];intro h2;exact hm ⟨h,eq_of_beq h2⟩
          ·left;rw[Lq];intro h2;exact h (eq_of_beq h2)
         clear hinv e1 e2 hm TAIL LT;rcases hq2 with hq2|⟨hq2,hq3⟩
         ·go_wp2;go_round
          case rel=>exact⟨j+1,by omega,by go_num,HN.out⟩
          case measure=>simp[intOf];omega
         ·go_wp2;go_round
          case rel=>exact⟨j+1,by omega,by go_num,HN.out⟩
          case measure=>simp[intOf];omega
       ·rw[GZ (by omega)]at hinv;have hto:BP s p= .QB:=by rw[LT.out,hinv,if_neg h1]
        obtain⟨hk,he⟩:=HL.out.V9 hlt hto;have HK:=Hi hk;have HE:=Hi he;clear hk he hto hinv TAIL LT;go_wp2;go_ret2;exact EE HK.out.symm HE.out.symm
     ·have hto:BP s p= .stop:=by
       unfold BP;rw[hbn,hbl,if_neg (by decide),if_neg (by rw[hb];omega),if_neg (by rw[hb];omega)]
      obtain⟨hk,he⟩:=HL.out.Sk hlt hto;have HK:=Hi hk;have HE:=Hi he;obtain⟨u,hu⟩:∃u,u=AE s (p+1):=⟨_,rfl⟩;have CY:Hid (∀w,Calls Tryz.prog 64 #[.string s,.int .i64 ((p:Int)+1)] w fun e w'=>e= .returned (.int .u8 u)/\w'=w):=Hi (fun w=>by rw[hu];exact D5 s p 1 w);rw[<-hu]at h47;have hq:(c≠47/\((s[p].toNat:Int)==47)=false)\/(((s[p].toNat:Int)==47)=true/\(u==42)=false):=by
       by_cases h:c=47
       ·refine .inr ⟨by rw[<-hc,h];rfl,?_⟩;rw[Lq];intro h2;exact h47 ⟨h,eq_of_beq h2⟩
       ·exact .inl ⟨h,Bn (n:=47) (by rw[<-hc];exact h)⟩
      clear hto hbl hb hbn TAIL h37 hk he h47 hu;rcases hq with⟨_,hq⟩|⟨hq,hq2⟩
      ·clear hc
       go_wp2_with (first|(go_at_call 19;(with_reducible refine(CB.out _).mono ?_);rintro e w' ⟨rfl,rfl⟩)|(go_at_call 64;(with_reducible refine(CY.out _).mono ?_);rintro e w' ⟨rfl,rfl⟩))
       go_ret2;exact EE HK.out.symm HE.out.symm
      ·clear hc
       go_wp2_with (first|(go_at_call 19;(with_reducible refine(CB.out _).mono ?_);rintro e w' ⟨rfl,rfl⟩)|(go_at_call 64;(with_reducible refine(CY.out _).mono ?_);rintro e w' ⟨rfl,rfl⟩))
       go_ret2;exact EE HK.out.symm HE.out.symm
  ·obtain⟨hk,he⟩:=HL.out.Gr (by omega);have HK:=Hi hk;have HE:=Hi he;clear hk he;go_wp2;go_ret2;exact EE HK.out.symm HE.out.symm
end Go.Proofs
