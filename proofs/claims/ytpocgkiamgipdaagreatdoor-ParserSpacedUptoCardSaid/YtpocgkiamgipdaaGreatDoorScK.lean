import Derived.Test.YtpocgkiamgipdaaGreatDoorScH
set_option maxRecDepth 1000000
set_option maxHeartbeats 0
set_option linter.unusedVariables false
set_option linter.unusedSimpArgs false
open Go.Proofs.Tryz
namespace Go.Proofs
open Go.RowKit Go.Hb Go.Pz Go.Maps
theorem Xt:(Tryz.prog.info? 61).map (fun i=>(i.zero,i.size,i.bytes))=some (some (.agg #[.string ⟨#[]⟩,.int .i64 0,.int .i64 0]),3,32):=by kernel_rfl
theorem Iq {w:World} {base base':Nat} {e:TypeId} {size:Nat} {v:Value} {n:Nat} {xs:List Value}(hb:base'<=base) (h:w.ownsRow base e size v n xs):w.ownsRow base' e size v n xs:=by
 obtain⟨h1,h2⟩:=h;refine⟨h1,?_⟩;rcases h2 with h2|⟨g,cap,cur,hv,hg,r⟩
 ·exact .inl h2
 ·exact .inr ⟨g,cap,cur,hv,lg hb hg,r⟩
def Mq (w:World) (B db:Nat) (r:Nat×Be) (e:Ending) (w':World):Prop:=e= .returned (.int .i64 r.1)/\(∃lv,EH w' B db lv r.2)/\Below B w w'/\w.heap.size<=w'.heap.size
theorem jR {w:World} {B db:Nat} {lv:Value} {l:Be}(h:EH w B db lv l) (hl:l.length<=100000000) (hBw:B<=w.heap.size) (p kind:Int) (nm:Bs) (hnl:nm.length<=1000000000):
  Calls prog 19 #[.pointer (some ⟨db,0,none⟩),.int .i64 p,.int .i64 kind,.string (bs nm)] w (Mq w B db (EU l p kind nm)):=by
 have CC:=lK (fun W=>ND kind W);have HD:=lK h;have uq:=lK hBw;have C2:Hid (∀W,Below w.heap.size w W->Calls prog 35 #[.pointer (some ⟨db,0,none⟩),.int .i64 2,.string (bs nm)] W fun e w'=>e= .returned (AM nm (findD 2 nm l))/\Below W.heap.size W w'):=lK (fun W hW=>Xh (h.below hW) hl 2 nm);have C3:Hid (∀W,Below w.heap.size w W->Calls prog 35 #[.pointer (some ⟨db,0,none⟩),.int .i64 3,.string (bs nm)] W fun e w'=>e= .returned (AM nm (findD 3 nm l))/\Below W.heap.size W w'):=lK (fun W hW=>Xh (h.below hW) hl 3 nm);have B0:Hid (Below w.heap.size w w):=lK (Below.refl _ _);have uV:=GU nm 44;have rE:=GU nm 124;have wP:=NS nm 91 93;have tG:=NS nm 123 125;have hc3:cls kind<=3:=by rcases Gb kind with⟨_,e⟩|⟨_,e⟩|⟨_,e⟩|⟨_,e⟩<;>omega
 have HL:=lK hl;unfold Mq;by_cases h1:p<0\/1200<p
 ·have e:EU l p kind nm=(40,l):=by unfold EU;dsimp only;rw[lQ h1]
  rw[e];have qU:Hid ((decide (p<0)=true)\/(decide (p<0)=false/\decide (1200<p)=true)):=lK (by simp only[uV,wP,tG,rE,mL,mN,nH,lY,pA,n9,ne_eq];omega);clear h e uV rE wP tG hc3 h1;rcases qU.o with k0|⟨k0,k1⟩
  all_goals
   go_enter func19,ntmps19
   go_wp2_with (first|(go_at_call 34;(with_reducible refine(CC.o _).mono ?_);rintro e w' ⟨rfl,rfl⟩)|(go_at_call 35;(with_reducible refine(C2.o _ B0.o).mono ?_)))
   rintro e W1 ⟨rfl,b1⟩;have B1:Hid (∀o,Below w.heap.size w (W1.alloc o)):=lK (fun o=>b1.trans ((Bzz o).mono b1.size));clear b1;unfold AM Dl
   go_wp2_with (go_at_call 35;(with_reducible refine(C3.o _ (B1.o _)).mono ?_))
   rintro e W2 ⟨rfl,b2⟩;have B2:Hid (∀o,Below w.heap.size w (W2.alloc o)):=lK (fun o=>(B1.o _).trans ((b2.trans ((Bzz o).mono b2.size)).mono (B1.o _).size));clear b2;unfold AM Dl;go_wp2;go_ret;exact⟨rfl,⟨_,HD.o.below (B2.o _)⟩,(B2.o _).mono uq.o,(B2.o _).size⟩
 by_cases h2:cls kind=0
 ·have e:EU l p kind nm=(41,l):=by unfold EU;dsimp only;rw[lL h1,lQ h2]
  rw[e];have qU:Hid ((decide (p<0)=false/\decide (1200<p)=false/\((cls kind:Int)==0)=true)):=lK (by simp only[uV,wP,tG,rE,mL,mN,nH,lY,pA,n9,ne_eq];omega);clear h e uV rE wP tG hc3 h1 h2;rcases qU.o with⟨k0,k1,k2⟩
  all_goals
   go_enter func19,ntmps19
   go_wp2_with (first|(go_at_call 34;(with_reducible refine(CC.o _).mono ?_);rintro e w' ⟨rfl,rfl⟩)|(go_at_call 35;(with_reducible refine(C2.o _ B0.o).mono ?_)))
   rintro e W1 ⟨rfl,b1⟩;have B1:Hid (∀o,Below w.heap.size w (W1.alloc o)):=lK (fun o=>b1.trans ((Bzz o).mono b1.size));clear b1;unfold AM Dl
   go_wp2_with (go_at_call 35;(with_reducible refine(C3.o _ (B1.o _)).mono ?_))
   rintro e W2 ⟨rfl,b2⟩;have B2:Hid (∀o,Below w.heap.size w (W2.alloc o)):=lK (fun o=>(B1.o _).trans ((b2.trans ((Bzz o).mono b2.size)).mono (B1.o _).size));clear b2;unfold AM Dl;go_wp2;go_ret;exact⟨rfl,⟨_,HD.o.below (B2.o _)⟩,(B2.o _).mono uq.o,(B2.o _).size⟩
 by_cases h3:nm= [44]
 ·have e:EU l p kind nm=(42,l):=by unfold EU;dsimp only;rw[lL h1,lL h2,lQ h3]
  rw[e];have qU:Hid ((decide (p<0)=false/\decide (1200<p)=false/\((cls kind:Int)==0)=false/\((bs nm).toList== [44])=true)):=lK (by simp only[uV,wP,tG,rE,mL,mN,nH,lY,pA,n9,ne_eq];exact⟨by omega,by omega,by omega,h3⟩);clear h e uV rE wP tG hc3 h1 h2 h3;rcases qU.o with⟨k0,k1,k2,k3⟩
  all_goals
   go_enter func19,ntmps19
   go_wp2_with (first|(go_at_call 34;(with_reducible refine(CC.o _).mono ?_);rintro e w' ⟨rfl,rfl⟩)|(go_at_call 35;(with_reducible refine(C2.o _ B0.o).mono ?_)))
   rintro e W1 ⟨rfl,b1⟩;have B1:Hid (∀o,Below w.heap.size w (W1.alloc o)):=lK (fun o=>b1.trans ((Bzz o).mono b1.size));clear b1;unfold AM Dl
   go_wp2_with (go_at_call 35;(with_reducible refine(C3.o _ (B1.o _)).mono ?_))
   rintro e W2 ⟨rfl,b2⟩;have B2:Hid (∀o,Below w.heap.size w (W2.alloc o)):=lK (fun o=>(B1.o _).trans ((b2.trans ((Bzz o).mono b2.size)).mono (B1.o _).size));clear b2;unfold AM Dl;go_wp2;go_ret;exact⟨rfl,⟨_,HD.o.below (B2.o _)⟩,(B2.o _).mono uq.o,(B2.o _).size⟩
 by_cases h4:nm= [91,93]\/nm= [123,125]
 ·have e:EU l p kind nm=(43,l):=by unfold EU;dsimp only;rw[lL h1,lL h2,lL h3,lQ h4]
  rw[e];have qU:Hid ((decide (p<0)=false/\decide (1200<p)=false/\((cls kind:Int)==0)=false/\((bs nm).toList== [44])=false/\((bs nm).toList== [91,93])=true)\/(decide (p<0)=false/\decide (1200<p)=false/\((cls kind:Int)==0)=false/\((bs nm).toList== [44])=false/\((bs nm).toList== [91,93])=false/\((bs nm).toList== [123,125])=true)):=lK (by
   simp only[uV,wP,tG,rE,mL,mN,nH,lY,pA,n9,ne_eq];by_cases h5:nm= [91,93]
   ·exact .inl ⟨by omega,by omega,by omega,h3,h5⟩
   ·exact .inr ⟨by omega,by omega,by omega,h3,h5,by rcases h4 with h4|h4;exact absurd h4 h5;exact h4⟩)
  clear h e uV rE wP tG hc3 h1 h2 h3 h4;rcases qU.o with⟨k0,k1,k2,k3,k4⟩|⟨k0,k1,k2,k3,k4,k5⟩
  all_goals
   go_enter func19,ntmps19
   go_wp2_with (first|(go_at_call 34;(with_reducible refine(CC.o _).mono ?_);rintro e w' ⟨rfl,rfl⟩)|(go_at_call 35;(with_reducible refine(C2.o _ B0.o).mono ?_)))
   rintro e W1 ⟨rfl,b1⟩;have B1:Hid (∀o,Below w.heap.size w (W1.alloc o)):=lK (fun o=>b1.trans ((Bzz o).mono b1.size));clear b1;unfold AM Dl
   go_wp2_with (go_at_call 35;(with_reducible refine(C3.o _ (B1.o _)).mono ?_))
   rintro e W2 ⟨rfl,b2⟩;have B2:Hid (∀o,Below w.heap.size w (W2.alloc o)):=lK (fun o=>(B1.o _).trans ((b2.trans ((Bzz o).mono b2.size)).mono (B1.o _).size));clear b2;unfold AM Dl;go_wp2;go_ret;exact⟨rfl,⟨_,HD.o.below (B2.o _)⟩,(B2.o _).mono uq.o,(B2.o _).size⟩
 by_cases h5:nm= [124]/\(cls kind≠2\/1<=p/\p<=1000)
 ·have e:EU l p kind nm=(43,l):=by unfold EU;dsimp only;rw[lL h1,lL h2,lL h3,lL h4,lQ h5]
  rw[e];have qU:Hid ((decide (p<0)=false/\decide (1200<p)=false/\((cls kind:Int)==0)=false/\((bs nm).toList== [44])=false/\((bs nm).toList== [91,93])=false/\((bs nm).toList== [123,125])=false/\((bs nm).toList== [124])=true/\((cls kind:Int) !=2)=true)\/(decide (p<0)=false/\decide (1200<p)=false/\((cls kind:Int)==0)=false/\((bs nm).toList== [44])=false/\((bs nm).toList== [91,93])=false/\((bs nm).toList== [123,125])=false/\((bs nm).toList== [124])=true/\((cls kind:Int) !=2)=false/\decide (1<=p)=true/\decide (p<=1000)=true)):=lK (by
   simp only[uV,wP,tG,rE,mL,mN,nH,lY,pA,n9,ne_eq];have g1:¬nm= [91,93]:=fun e=>h4 (.inl e);have g2:¬nm= [123,125]:=fun e=>h4 (.inr e);by_cases h6:cls kind=2
   ·exact .inr ⟨by omega,by omega,by omega,h3,g1,g2,h5.1,by omega,by omega,by omega⟩
   ·exact .inl ⟨by omega,by omega,by omega,h3,g1,g2,h5.1,by omega⟩)
  clear h e uV rE wP tG hc3 h1 h2 h3 h4 h5;rcases qU.o with⟨k0,k1,k2,k3,k4,k5,k6,k7⟩|⟨k0,k1,k2,k3,k4,k5,k6,k7,k8,k9⟩
  all_goals
   go_enter func19,ntmps19
   go_wp2_with (first|(go_at_call 34;(with_reducible refine(CC.o _).mono ?_);rintro e w' ⟨rfl,rfl⟩)|(go_at_call 35;(with_reducible refine(C2.o _ B0.o).mono ?_)))
   rintro e W1 ⟨rfl,b1⟩;have B1:Hid (∀o,Below w.heap.size w (W1.alloc o)):=lK (fun o=>b1.trans ((Bzz o).mono b1.size));clear b1;unfold AM Dl
   go_wp2_with (go_at_call 35;(with_reducible refine(C3.o _ (B1.o _)).mono ?_))
   rintro e W2 ⟨rfl,b2⟩;have B2:Hid (∀o,Below w.heap.size w (W2.alloc o)):=lK (fun o=>(B1.o _).trans ((b2.trans ((Bzz o).mono b2.size)).mono (B1.o _).size));clear b2;unfold AM Dl;go_wp2;go_ret;exact⟨rfl,⟨_,HD.o.below (B2.o _)⟩,(B2.o _).mono uq.o,(B2.o _).size⟩
 by_cases h6:0<p/\(cls kind=2/\(findD 3 nm l).isSome\/cls kind=3/\(findD 2 nm l).isSome)
 ·have e:EU l p kind nm=(43,l):=by unfold EU;dsimp only;rw[lL h1,lL h2,lL h3,lL h4,lL h5,lQ h6]
  rw[e];have qU:Hid ((decide (p<0)=false/\decide (1200<p)=false/\((cls kind:Int)==0)=false/\((bs nm).toList== [44])=false/\((bs nm).toList== [91,93])=false/\((bs nm).toList== [123,125])=false/\((bs nm).toList== [124])=false/\decide (0<p)=true/\((cls kind:Int)==2)=true/\(findD 3 nm l).isSome=true)\/(decide (p<0)=false/\decide (1200<p)=false/\((cls kind:Int)==0)=false/\((bs nm).toList== [44])=false/\((bs nm).toList== [91,93])=false/\((bs nm).toList== [123,125])=false/\((bs nm).toList== [124])=false/\decide (0<p)=true/\((cls kind:Int)==2)=false/\((cls kind:Int)==3)=true/\(findD 2 nm l).isSome=true)\/(decide (p<0)=false/\decide (1200<p)=false/\((cls kind:Int)==0)=false/\((bs nm).toList== [44])=false/\((bs nm).toList== [91,93])=false/\((bs nm).toList== [123,125])=false/\((bs nm).toList== [124])=true/\((cls kind:Int) !=2)=false/\decide (1<=p)=true/\decide (p<=1000)=false/\decide (0<p)=true/\((cls kind:Int)==2)=true/\(findD 3 nm l).isSome=true)):=lK (by
   simp only[uV,wP,tG,rE,mL,mN,nH,lY,pA,n9,ne_eq];have g1:¬nm= [91,93]:=fun e=>h4 (.inl e);have g2:¬nm= [123,125]:=fun e=>h4 (.inr e);by_cases h7:nm= [124]
   ·have h8:cls kind=2/\1000<p:=by
     refine⟨Decidable.byContradiction fun hx=>h5 ⟨h7,.inl hx⟩,?_⟩;have:¬(1<=p/\p<=1000):=fun hx=>h5 ⟨h7,.inr hx⟩;omega
    rcases h6.2 with h9|h9
    ·exact .inr (.inr ⟨by omega,by omega,by omega,h3,g1,g2,h7,by omega,by omega,by omega,by omega,by omega,h9.2⟩)
    ·omega
   ·rcases h6.2 with h9|h9
    ·exact .inl ⟨by omega,by omega,by omega,h3,g1,g2,h7,by omega,by omega,h9.2⟩
    ·exact .inr (.inl ⟨by omega,by omega,by omega,h3,g1,g2,h7,by omega,by omega,by omega,h9.2⟩))
  clear h e uV rE wP tG hc3 h1 h2 h3 h4 h5 h6;rcases qU.o with⟨k0,k1,k2,k3,k4,k5,k6,k7,k8,k9⟩|⟨k0,k1,k2,k3,k4,k5,k6,k7,k8,k9,yf⟩|⟨k0,k1,k2,k3,k4,k5,k6,k7,k8,k9,yf,k11,k12⟩
  all_goals
   go_enter func19,ntmps19
   go_wp2_with (first|(go_at_call 34;(with_reducible refine(CC.o _).mono ?_);rintro e w' ⟨rfl,rfl⟩)|(go_at_call 35;(with_reducible refine(C2.o _ B0.o).mono ?_)))
   rintro e W1 ⟨rfl,b1⟩;have B1:Hid (∀o,Below w.heap.size w (W1.alloc o)):=lK (fun o=>b1.trans ((Bzz o).mono b1.size));clear b1;unfold AM Dl
   go_wp2_with (go_at_call 35;(with_reducible refine(C3.o _ (B1.o _)).mono ?_))
   rintro e W2 ⟨rfl,b2⟩;have B2:Hid (∀o,Below w.heap.size w (W2.alloc o)):=lK (fun o=>(B1.o _).trans ((b2.trans ((Bzz o).mono b2.size)).mono (B1.o _).size));clear b2;unfold AM Dl;go_wp2;go_ret;exact⟨rfl,⟨_,HD.o.below (B2.o _)⟩,(B2.o _).mono uq.o,(B2.o _).size⟩
 have qU:Hid ((decide (p<0)=false/\decide (1200<p)=false/\((cls kind:Int)==0)=false/\((bs nm).toList== [44])=false/\((bs nm).toList== [91,93])=false/\((bs nm).toList== [123,125])=false/\((bs nm).toList== [124])=false/\decide (0<p)=false)\/(decide (p<0)=false/\decide (1200<p)=false/\((cls kind:Int)==0)=false/\((bs nm).toList== [44])=false/\((bs nm).toList== [91,93])=false/\((bs nm).toList== [123,125])=false/\((bs nm).toList== [124])=false/\decide (0<p)=true/\((cls kind:Int)==2)=true/\(findD 3 nm l).isSome=false/\((cls kind:Int)==3)=false)\/(decide (p<0)=false/\decide (1200<p)=false/\((cls kind:Int)==0)=false/\((bs nm).toList== [44])=false/\((bs nm).toList== [91,93])=false/\((bs nm).toList== [123,125])=false/\((bs nm).toList== [124])=false/\decide (0<p)=true/\((cls kind:Int)==2)=false/\((cls kind:Int)==3)=true/\(findD 2 nm l).isSome=false)\/(decide (p<0)=false/\decide (1200<p)=false/\((cls kind:Int)==0)=false/\((bs nm).toList== [44])=false/\((bs nm).toList== [91,93])=false/\((bs nm).toList== [123,125])=false/\((bs nm).toList== [124])=false/\decide (0<p)=true/\((cls kind:Int)==2)=false/\((cls kind:Int)==3)=false)\/(decide (p<0)=false/\decide (1200<p)=false/\((cls kind:Int)==0)=false/\((bs nm).toList== [44])=false/\((bs nm).toList== [91,93])=false/\((bs nm).toList== [123,125])=false/\((bs nm).toList== [124])=true/\((cls kind:Int) !=2)=false/\decide (1<=p)=false/\decide (0<p)=false)\/(decide (p<0)=false/\decide (1200<p)=false/\((cls kind:Int)==0)=false/\((bs nm).toList== [44])=false/\((bs nm).toList== [91,93])=false/\((bs nm).toList== [123,125])=false/\((bs nm).toList== [124])=true/\((cls kind:Int) !=2)=false/\decide (1<=p)=true/\decide (p<=1000)=false/\decide (0<p)=true/\((cls kind:Int)==2)=true/\(findD 3 nm l).isSome=false/\((cls kind:Int)==3)=false)):=lK (by
  simp only[uV,wP,tG,rE,mL,mN,nH,lY,pA,n9,ne_eq];have g1:¬nm= [91,93]:=fun e=>h4 (.inl e);have g2:¬nm= [123,125]:=fun e=>h4 (.inr e);have q1:0<p->cls kind=2->(findD 3 nm l).isSome=false:=fun a b=>by
   cases hx:(findD 3 nm l).isSome with
   |false=>rfl
   |true=>exact absurd ⟨a,.inl ⟨b,hx⟩⟩ h6
  have q2:0<p->cls kind=3->(findD 2 nm l).isSome=false:=fun a b=>by
   cases hx:(findD 2 nm l).isSome with
   |false=>rfl
   |true=>exact absurd ⟨a,.inr ⟨b,hx⟩⟩ h6
  by_cases h7:nm= [124]
  ·have h8:cls kind=2:=Decidable.byContradiction fun hx=>h5 ⟨h7,.inl hx⟩;have h9:¬(1<=p/\p<=1000):=fun hx=>h5 ⟨h7,.inr hx⟩;by_cases hp:0<p
   ·exact .inr (.inr (.inr (.inr (.inr ⟨by omega,by omega,by omega,h3,g1,g2,h7,by omega,by omega,by omega,hp,by omega,q1 hp h8,by omega⟩))))
   ·exact .inr (.inr (.inr (.inr (.inl ⟨by omega,by omega,by omega,h3,g1,g2,h7,by omega,by omega,hp⟩))))
  ·by_cases hp:0<p
   ·by_cases h8:cls kind=2
    ·exact .inr (.inl ⟨by omega,by omega,by omega,h3,g1,g2,h7,hp,by omega,q1 hp h8,by omega⟩)
    ·by_cases h9:cls kind=3
     ·exact .inr (.inr (.inl ⟨by omega,by omega,by omega,h3,g1,g2,h7,hp,by omega,by omega,q2 hp h9⟩))
     ·exact .inr (.inr (.inr (.inl ⟨by omega,by omega,by omega,h3,g1,g2,h7,hp,by omega,by omega⟩)))
   ·exact .inl ⟨by omega,by omega,by omega,h3,g1,g2,h7,hp⟩)
 have e:EU l p kind nm=(0,A7 (cls kind) nm l++if 0<p then [(nm,⟨kind,p⟩)]else []):=by unfold EU;dsimp only;rw[lL h1,lL h2,lL h3,lL h4,lL h5,lL h6]
 rw[e];obtain⟨RL,hRL⟩:∃RL,RL=A7 (cls kind) nm l++if 0<p then [(nm,(⟨kind,p⟩:DH))]else []:=⟨_,rfl⟩;rw[<-hRL];have HRL:=lK hRL;clear h e uV rE wP tG hc3 h1 h2 h3 h4 h5 h6 hRL;go_enter func19,ntmps19
 go_wp2_with (first|(go_at_call 34;(with_reducible refine(CC.o _).mono ?_);rintro e w' ⟨rfl,rfl⟩)|(go_at_call 35;(with_reducible refine(C2.o _ B0.o).mono ?_)))
 rintro e W1 ⟨rfl,b1⟩;have B1:Hid (∀o,Below w.heap.size w (W1.alloc o)):=lK (fun o=>b1.trans ((Bzz o).mono b1.size));clear b1;unfold AM Dl
 go_wp2_with (go_at_call 35;(with_reducible refine(C3.o _ (B1.o _)).mono ?_))
 rintro e W2 ⟨rfl,b2⟩;have B2:Hid (∀o,Below w.heap.size w (W2.alloc o)):=lK (fun o=>(B1.o _).trans ((b2.trans ((Bzz o).mono b2.size)).mono (B1.o _).size));clear b2;unfold AM Dl
 go_upto_block 0 with fail
 generalize hA:World.alloc _ _=A;have BA:Hid (Below w.heap.size w A):=lK (by rw[<-hA];exact B2.o _);clear hA B1 B2 C2 C3
 go_cut []from 30 to 81 (fun wx=>A=wx)
 case first=>
  as_aux_lemma=>
  rcases qU.o with⟨k0,k1,k2,k3,k4,k5,k6,k7⟩|⟨k0,k1,k2,k3,k4,k5,k6,k7,k8,k9,yf⟩|⟨k0,k1,k2,k3,k4,k5,k6,k7,k8,k9,yf⟩|⟨k0,k1,k2,k3,k4,k5,k6,k7,k8,k9⟩|⟨k0,k1,k2,k3,k4,k5,k6,k7,k8,k9⟩|⟨k0,k1,k2,k3,k4,k5,k6,k7,k8,k9,yf,k11,k12,k13⟩
  all_goals
   go_wp2;go_meet;exact rfl
 case rest=>
 subst hcut;clear qU;obtain⟨la,lc,rfl⟩:=Ap HD.o.own;obtain⟨n,hn⟩:∃n,n=l.length:=⟨_,rfl⟩;have HN:=lK hn;have HOW:Hid (w.ownsRow B 61 3 (.slice la n lc) n (l.flatMap D9)):=lK (by have h:=HD.o.own;rwa [<-hn]at h);have ln:n<=100000000:=by have:=HL.o;omega
 have lni:(n:Int)<=100000000:=by omega
 rw[<-hn]at HD;clear hn hl;obtain⟨i0,hi,qX,qg,qe⟩:=nw Xt
 go_wp2_with fail
 go_loopw [14,15] (fun l14 v wr=>∃i:Nat,v= .int .i64 i/\Hid (i<=n/\wr.ownsRow A.heap.size 61 3 l14 (A7 (cls kind) nm (l.take i)).length ((A7 (cls kind) nm (l.take i)).flatMap D9)/\Below A.heap.size A wr)) (fun _ v _=>n-(intOf v).toNat)
 case atStart=>exact⟨0,rfl,lK ⟨mK _,mq _ _ _ _,Below.refl _ _⟩⟩
 case round=>
  obtain⟨i,rfl,hq⟩:=hrel;obtain⟨va,vc,rfl⟩:=Ap hq.o.2.1;have zA:=hq.o.1;have OW:=lK hq.o.2.1;have BW:=lK hq.o.2.2;clear hq;have BR:Hid (Below w.heap.size w wr):=lK (BA.o.trans (BW.o.mono BA.o.size));have DL:Hid ((A7 (cls kind) nm (l.take i)).length<=i):=lK (by unfold A7;have:=List.length_filter_le (fun x=> !(decide (x.1=nm)&&decide (cls x.2.ty=cls kind))) (l.take i);rw[List.length_take]at this;omega);have c0:wr.cell? ⟨db,0,none⟩=some (.slice la n lc):=by
   have h:=(BR.o.block db HD.o.lt).trans HD.o.h;rw[Lib.cell_of_heap h];rfl
  by_cases qE:i<n
  ·have hli:(i:Int)<n:=by omega
   obtain⟨x,hx⟩:∃x,l[i]? =some x:=⟨_,lu (by have:=HN.o;omega)⟩;obtain⟨g,cap,hv,uX,uF⟩:=HOW.o.form (by omega);have se:la=some ⟨g,0,none⟩:=by simp only[mX]at hv;exact hv.1
   subst se;have key:∀(j:Nat) (v:Value),(D9 x)[j]? =some v->wr.cell? ⟨g,i*3+j,none⟩=some v:=fun j v hv=>by
    have hj:j<3:=(mC.1 hv).1;rw[AO (BR.o.block g uF),World.ownsRow.cellAt HOW.o (i*3+j) (by omega)];exact Vu hx hv
   have n0:wr.cell? ⟨g,i*3,none⟩=some (.string (bs x.1)):=key 0 _ rfl;have n1:wr.cell? ⟨g,i*3+1,none⟩=some (.int .i64 x.2.ty):=key 1 _ rfl;have n2:wr.cell? ⟨g,i*3+2,none⟩=some (.int .i64 x.2.pr):=key 2 _ rfl;have CX:=lK (fun W=>ND x.2.ty W);have ug:Hid (A7 (cls kind) nm (l.take (i+1))=A7 (cls kind) nm (l.take i)++A7 (cls kind) nm [x]):=lK (by
    rw[List.take_add_one,hx,Option.toList_some];unfold A7;rw[List.filter_append])
   clear hx hv key uX uF;by_cases hm:x.1=nm/\cls x.2.ty=cls kind
   ·have s1:((bs x.1).toList==(bs nm).toList)=true:=by rw[OJ];exact lU hm.1
    have s2:((cls x.2.ty:Int) !=(cls kind:Int))=false:=by rw[n9];omega
    have HE:Hid (A7 (cls kind) nm (l.take (i+1))=A7 (cls kind) nm (l.take i)):=lK (by
     rw[ug.o];unfold A7;rw[List.filter_cons,hm.1,hm.2];simp)
    clear hm ug
    go_wp2_with (go_at_call 34;(with_reducible refine(CX.o _).mono ?_);rintro e w' ⟨rfl,rfl⟩)
    go_roundw
    case rel=>exact⟨i+1,by go_num,lK ⟨by omega,by rw[HE.o];exact OW.o,BW.o⟩⟩
    case measure=>simp[intOf];omega
   ·have HE:Hid (A7 (cls kind) nm (l.take (i+1))=A7 (cls kind) nm (l.take i)++ [x]):=lK (by
     rw[ug.o];congr 1;unfold A7;rw[List.filter_cons];have:(!(decide (x.1=nm)&&decide (cls x.2.ty=cls kind)))=true:=by
      simp only[Bool.not_eq_true',Bool.and_eq_false_iff,mN];exact Decidable.not_and_iff_not_or_not.1 hm
     rw[lQ this];rfl)
    have KM:Hid (((bs x.1).toList==(bs nm).toList)=false\/(((bs x.1).toList==(bs nm).toList)=true/\((cls x.2.ty:Int) !=(cls kind:Int))=true)):=lK (by
     rw[OJ];by_cases h1:x.1=nm
     ·exact .inr ⟨lU h1,by rw[pA];intro e;exact hm ⟨h1,by omega⟩⟩
     ·exact .inl (lO h1))
    have NW:Hid (∀j u,(D9 x)[j]? =some u->(wr.alloc (.cells #[.string (bs x.1),.int .i64 x.2.ty,.int .i64 x.2.pr] 61)).cell? ((⟨wr.heap.size,0,none⟩:Addr).add j)=some u):=lK (World.news_of_block (t:=61) (fr:=(0,0)) (cs:= #[.string (bs x.1),.int .i64 x.2.ty,.int .i64 x.2.pr]) (lT wr _));have tu:Hid (∀u∈D9 x,u.oneCell'=true):=lK (by simp[D9,Value.oneCell']);have MX:Hid ((A7 (cls kind) nm (l.take i)).length+1<=maxLen):=lK (by have:=DL.o;unfold maxLen;omega);have BY:Hid (((A7 (cls kind) nm (l.take i)).length+1)*32<=140737488355328):=lK (by have:=DL.o;omega);have BS:Hid (A.heap.size<=(wr.alloc (.cells #[.string (bs x.1),.int .i64 x.2.ty,.int .i64 x.2.pr] 61)).heap.size):=lK (by have:=BW.o.size;simp;omega);have xm:Hid ((wr.alloc (.cells #[.string (bs x.1),.int .i64 x.2.ty,.int .i64 x.2.pr] 61)).ownsRow A.heap.size 61 3 (.slice va (A7 (cls kind) nm (l.take i)).length vc) (A7 (cls kind) nm (l.take i)).length ((A7 (cls kind) nm (l.take i)).flatMap D9)):=lK (OW.o.alloc _);clear hm ug
    go_upto_region 20 with fail
    go_cut [113]from 91 to 113 (fun v wx=>v= .bool true/\wr=wx)
    case first=>
     rcases KM.o with k1|⟨k1,k2⟩
     all_goals
      go_wp2_with (go_at_call 34;(with_reducible refine(CX.o _).mono ?_);rintro e w' ⟨rfl,rfl⟩)
      go_meet;exact⟨rfl,rfl⟩
    case rest=>
    obtain⟨rfl,hwx⟩:=hcut;subst hwx
    go_wp2_with (at_builtin;refine wpList_append_lies _ rfl _ _ 22 rfl A.heap.size 61 i0 _ 3 32 underlying22 hi qX qg qe rfl (by decide) _ _ _ rfl xm.o ⟨wr.heap.size,0,none⟩ 1 1 (D9 x) rfl rfl NW.o tu.o (by decide) MX.o BY.o BS.o _ rfl ?_;intro g2 qQ w2 qD qC qh _hlg)
    go_roundw
    case rel=>exact⟨i+1,by go_num,lK ⟨by omega,by rw[HE.o,l6,oW];simpa using qD,(BW.o.alloc BW.o.size _).grown qC (by have:=BW.o.size;simp;omega) (fun b hb=>(xm.o.lt b hb).1)⟩⟩
    case measure=>simp[intOf];omega
  ·have HE:Hid (A7 (cls kind) nm (l.take i)=A7 (cls kind) nm l):=lK (by rw[nO (by have:=HN.o;omega)]);rw[HE.o]at OW DL⊢;have uy:Hid (db<A.heap.size):=lK (lR HD.o.lt BA.o.size);have hbA:Hid (B<=A.heap.size):=lK (lg uq.o BA.o.size);have FIN:Hid (∀(W:World) (va:Option Addr) (k vc:Nat) (m:Be),W.ownsRow A.heap.size 61 3 (.slice va k vc) m.length (m.flatMap D9)->Below A.heap.size A W->(∃lv,EH (W.setCell ⟨db,0,none⟩ (.slice va k vc)) B db lv m)/\Below B w (W.setCell ⟨db,0,none⟩ (.slice va k vc))/\w.heap.size<=(W.setCell ⟨db,0,none⟩ (.slice va k vc)).heap.size):=lK (fun W va k vc m ho hb=>by
    have sJ:=HD.o.hB;have qm:=uy.o;refine⟨⟨_,sJ,Eh ((hb.block db qm).trans ((BA.o.block db HD.o.lt).trans HD.o.h)) 0 _,AS (Iq hbA.o ho) (fun b qM=>AA _ _ _ (by show b≠db;have:=(ho.lt b qM).1;omega)),fun e=>by have:=(ho.lt db e).1;omega⟩,(((BA.o.mono uq.o).trans (hb.mono hbA.o)).setCell (p:=⟨db,0,none⟩) sJ _),by rw[size_set];exact lg BA.o.size hb.size⟩)
   have f0:wr.frozen? ⟨db,0,none⟩=false:=Lib.frozen_of_heap ((BR.o.block db HD.o.lt).trans HD.o.h) 0;clear zA;by_cases hp:0<p
   ·have k1:decide (0<p)=true:=lU hp;have HPP:Hid (RL=A7 (cls kind) nm l++ [(nm,(⟨kind,p⟩:DH))]):=lK (by rw[HRL.o,lQ hp]);clear hp;have NW:Hid (∀j u,(D9 (nm,⟨kind,p⟩))[j]? =some u->(wr.alloc (.cells #[.string (bs nm),.int .i64 kind,.int .i64 p] 61)).cell? ((⟨wr.heap.size,0,none⟩:Addr).add j)=some u):=lK (World.news_of_block (t:=61) (fr:=(0,0)) (cs:= #[.string (bs nm),.int .i64 kind,.int .i64 p]) (lT wr _));have tu:Hid (∀u∈D9 (nm,⟨kind,p⟩),u.oneCell'=true):=lK (by simp[D9,Value.oneCell']);have MX:Hid ((A7 (cls kind) nm l).length+1<=maxLen):=lK (by have:=DL.o;have:=HL.o;have:(A7 (cls kind) nm l).length<=l.length:=List.length_filter_le _ _;unfold maxLen;omega);have BY:Hid (((A7 (cls kind) nm l).length+1)*32<=140737488355328):=lK (by have:=HL.o;have:(A7 (cls kind) nm l).length<=l.length:=List.length_filter_le _ _;omega);have BS:Hid (A.heap.size<=(wr.alloc (.cells #[.string (bs nm),.int .i64 kind,.int .i64 p] 61)).heap.size):=lK (by have:=BW.o.size;simp;omega);have xm:Hid ((wr.alloc (.cells #[.string (bs nm),.int .i64 kind,.int .i64 p] 61)).ownsRow A.heap.size 61 3 (.slice va (A7 (cls kind) nm l).length vc) (A7 (cls kind) nm l).length ((A7 (cls kind) nm l).flatMap D9)):=lK (OW.o.alloc _);have c0a:=AN c0 (.cells #[.string (bs nm),.int .i64 kind,.int .i64 p] 61);have NEd:Hid (some db≠(Value.slice va (A7 (cls kind) nm l).length vc).ownBlock):=lK (fun e=>by have:=(OW.o.lt db e.symm).1;have:=uy.o;omega);have C0a:=lK c0a;have F0a:Hid ((wr.alloc (.cells #[.string (bs nm),.int .i64 kind,.int .i64 p] 61)).frozen? ⟨db,0,none⟩=false):=lK (Lib.frozen_of_heap ((Lib.alloc_old wr _ _ (lR uy.o BW.o.size)).trans ((BR.o.block db HD.o.lt).trans HD.o.h)) 0);have LR:Hid (db<(wr.alloc (.cells #[.string (bs nm),.int .i64 kind,.int .i64 p] 61)).heap.size):=lK (by have:=uy.o;have:=BW.o.size;simp;omega)
    go_wp2_with (at_builtin;refine wpList_append_lies _ rfl _ _ 22 rfl A.heap.size 61 i0 _ 3 32 underlying22 hi qX qg qe rfl (by decide) _ _ _ rfl xm.o ⟨wr.heap.size,0,none⟩ 1 1 (D9 (nm,⟨kind,p⟩)) rfl rfl NW.o tu.o (by decide) MX.o BY.o BS.o _ rfl ?_;intro g2 qQ w2 qD qC qh _hlg;have ym:=qC.cell C0a.o NEd.o;have f10:=(qC.frozen_far ⟨db,0,none⟩ LR.o NEd.o).trans F0a.o)
    go_ret;have hF:=FIN.o w2 _ _ qQ (A7 (cls kind) nm l++ [(nm,⟨kind,p⟩)]) (by rw[l6,oW];simpa using qD) ((BW.o.alloc BW.o.size _).grown qC (by have:=BW.o.size;simp;omega) (fun b hb=>(xm.o.lt b hb).1));rw[HPP.o];exact⟨rfl,hF.1,hF.2⟩
   ·have k1:decide (0<p)=false:=lO hp;have HPP:Hid (RL=A7 (cls kind) nm l):=lK (by rw[HRL.o,lL hp,nj]);clear hp;go_wp2;go_ret;have hF:=FIN.o wr _ _ vc (A7 (cls kind) nm l) OW.o BW.o;rw[HPP.o];exact⟨rfl,hF.1,hF.2⟩
def ZC (s:ByteArray) (i:Nat):Bool:=if h:i<s.size then s[i].toNat==32 else true
def Pq (s:ByteArray) (st:List Bs×Nat) (i:Nat):List Bs×Nat:=
 if ZC s i then(if st.2<i then st.1++ [(s.data.toList.drop st.2).take (i-st.2)]else st.1,i+1)else st
def U1 (s:ByteArray) (i:Nat):List Bs×Nat:=(List.range i).foldl (Pq s) ([],0)
def EZ (s:ByteArray):List Bs:=(U1 s (s.size+1)).1
theorem PT (s:ByteArray) (i:Nat):U1 s (i+1)=Pq s (U1 s i) i:=by
 unfold U1;rw[List.range_succ,List.foldl_append];rfl
theorem fD (s:ByteArray) (i:Nat):(U1 s i).2<=i/\(U1 s i).1.length<=i:=by
 induction i with
 |zero=>exact⟨lM _,lM _⟩
 |succ i ih=>
  rw[PT];unfold Pq;split
  ·refine⟨lM _,?_⟩;dsimp only;split
   ·rw[l6];exact Nat.succ_le_succ ih.2
   ·omega
  ·omega
theorem fS:(Tryz.prog.info? 9).map (fun i=>(i.zero,i.size,i.bytes))=some (some (.string ⟨#[]⟩),1,16):=by kernel_rfl
def Iv (x:Bs):List Value:= [.string (bs x)]
def KR (s:ByteArray) (w:World) (e:Ending) (w':World):Prop:=∃va vc,e= .returned (.slice va (EZ s).length vc)/\w'.ownsRow w.heap.size 9 1 (.slice va (EZ s).length vc) (EZ s).length ((EZ s).flatMap Iv)/\Below w.heap.size w w'
theorem bh (s:ByteArray) (w:World) (hs:s.size<=1000):Calls prog 33 #[.string s] w (KR s w):=by
 obtain⟨R,hR⟩:∃R,R=EZ s:=⟨_,rfl⟩;obtain⟨i0,hi,qX,qg,qe⟩:=nw fS;unfold KR;rw[<-hR];have HR:=lK hR;have hsi:(s.size:Int)<=1000:=by omega
 clear hR;go_enter func33,ntmps33;go_wp2
 go_loopw [3,4,5] (fun l3 v4 v5 wr=>∃i:Nat,v5= .int .i64 i/\v4= .int .i64 (U1 s i).2/\Hid (i<=s.size+1/\wr.ownsRow w.heap.size 9 1 l3 (U1 s i).1.length ((U1 s i).1.flatMap Iv)/\Below w.heap.size w wr)) (fun _ _ v _=>s.size+1-(intOf v).toNat)
 case atStart=>exact⟨0,rfl,rfl,lK ⟨mK _,mq _ _ _ _,Below.refl _ _⟩⟩
 case round=>
  obtain⟨i,rfl,rfl,hq⟩:=hrel;obtain⟨va,vc,rfl⟩:=Ap hq.o.2.1;have zA:=hq.o.1;have OW:=lK hq.o.2.1;have BW:=lK hq.o.2.2;clear hq;have hW:=PT s i;have hL:=fD s i;obtain⟨acc,p,xM⟩:∃acc p,U1 s i=(acc,p):=⟨_,_,rfl⟩;rw[xM]at hW OW hL⊢;dsimp only at hW OW hL⊢;have hp:p<=i:=hL.1;have LA:Hid (acc.length<=i):=lK hL.2;clear hL;by_cases qE:i<=s.size
  ·by_cases hc:ZC s i=true
   ·have HW:Hid (U1 s (i+1)=(if p<i then acc++ [(s.data.toList.drop p).take (i-p)]else acc,i+1)):=lK (by rw[hW];unfold Pq;rw[lQ hc]);have qU:Hid (((i:Int)==(s.size:Int))=true\/(((i:Int)==(s.size:Int))=false/\∃h:i<s.size,((s[i].toNat:Int)==32)=true)):=lK (by
     unfold ZC at hc;by_cases h:i<s.size
     ·rw[dif_pos h]at hc;exact .inr ⟨lY.2 (by omega),h,by rw[nH]at hc⊢;omega⟩
     ·exact .inl (by rw[nH];omega))
    clear hW hc;by_cases hpi:p<i
    ·rw[lQ hpi]at HW;have hgt:(p:Int)<(i:Int):=by omega
     have hex:s.extract p i=bs ((s.data.toList.drop p).take (i-p)):=by rw[Jj (s.extract p i),oG]
     have NW:Hid (∀j u,(Iv ((s.data.toList.drop p).take (i-p)))[j]? =some u->(wr.alloc (.cells #[.string (s.extract p i)] 9)).cell? ((⟨wr.heap.size,0,none⟩:Addr).add j)=some u):=lK (by
      rw[hex];exact World.news_of_block (t:=9) (fr:=(0,0)) (cs:= #[.string (bs ((s.data.toList.drop p).take (i-p)))]) (lT wr _))
     have tu:Hid (∀u∈Iv ((s.data.toList.drop p).take (i-p)),u.oneCell'=true):=lK (by simp[Iv,Value.oneCell']);have MX:Hid (acc.length+1<=maxLen):=lK (by have:=LA.o;unfold maxLen;omega);have BY:Hid ((acc.length+1)*16<=140737488355328):=lK (by have:=LA.o;omega);have BS:Hid (w.heap.size<=(wr.alloc (.cells #[.string (s.extract p i)] 9)).heap.size):=lK (by have:=BW.o.size;simp;omega);have xm:Hid ((wr.alloc (.cells #[.string (s.extract p i)] 9)).ownsRow w.heap.size 9 1 (.slice va acc.length vc) acc.length (acc.flatMap Iv)):=lK (OW.o.alloc _);clear hex;rcases qU.o with k1|⟨k1,h,k2⟩
     all_goals
      go_wp2_with (at_builtin;refine wpList_append_lies _ rfl _ _ 33 rfl w.heap.size 9 i0 _ 1 16 underlying33 hi qX qg qe rfl (by decide) _ _ _ rfl xm.o ⟨wr.heap.size,0,none⟩ 1 1 (Iv ((s.data.toList.drop p).take (i-p))) rfl rfl NW.o tu.o (by decide) MX.o BY.o BS.o _ rfl ?_;intro g2 qQ w2 qD qC qh _hlg)
      go_roundw
      case rel=>exact⟨i+1,by go_num,by rw[HW.o];go_num,lK ⟨by omega,by rw[HW.o,l6,oW];simpa using qD,(BW.o.alloc BW.o.size _).grown qC (by have:=BW.o.size;simp;omega) (fun b hb=>(xm.o.lt b hb).1)⟩⟩
      case measure=>simp[intOf];omega
    ·rw[lL hpi]at HW;have hgt:¬(p:Int)<(i:Int):=by omega
     rcases qU.o with k1|⟨k1,h,k2⟩
     all_goals
      go_wp2;go_roundw
      case rel=>exact⟨i+1,by go_num,by rw[HW.o];go_num,lK ⟨by omega,by rw[HW.o];exact OW.o,BW.o⟩⟩
      case measure=>simp[intOf];omega
   ·have HW:Hid (U1 s (i+1)=(acc,p)):=lK (by rw[hW];unfold Pq;rw[lL hc]);have qU:Hid (((i:Int)==(s.size:Int))=false/\∃h:i<s.size,((s[i].toNat:Int)==32)=false):=lK (by
     unfold ZC at hc;by_cases h:i<s.size
     ·rw[dif_pos h]at hc;exact⟨lY.2 (by omega),h,by rw[nH]at hc;rw[lY];omega⟩
     ·rw[dif_neg h]at hc;exact absurd rfl hc)
    clear hW hc;obtain⟨k1,h,k2⟩:=qU.o;go_wp2;go_roundw
    case rel=>exact⟨i+1,by go_num,by rw[HW.o],lK ⟨by omega,by rw[HW.o];exact OW.o,BW.o⟩⟩
    case measure=>simp[intOf];omega
  ·have HE:Hid (acc=R):=lK (by rw[HR.o];unfold EZ;rw[<-show i=s.size+1 by omega,xM]);go_wp2;go_ret;rw[<-HE.o];exact⟨_,_,rfl,OW.o,BW.o⟩
end Go.Proofs
namespace Go.Pz
def II:List (Int×Int×Bs):= [(1200,3,[58,45,32,45,45,62]),(1200,1,[58,45,32,63,45]),(1100,4,[59,32,124]),(1050,4,[45,62]),(1000,4,[44]),(900,2,[92,43]),(760,5,[35,60,61,61,62]),(700,3,[61,32,92,61,32,61,61,32,92,61,61,32,64,60,32,64,61,60,32,64,62,32,64,62,61,32,61,46,46,32,105,115,32,61,58,61,32,61,92,61,32,60,32,61,60,32,62,32,62,61,32,105,110,32,105,110,115,32,35,61,32,35,92,61,32,35,60,32,35,61,60,32,35,62,32,35,62,61]),(500,5,[43,32,45,32,47,92,32,92,47]),(450,3,[46,46]),(400,5,[42,32,47,32,47,47,32,114,101,109,32,109,111,100,32,100,105,118,32,60,60,32,62,62,32,120,111,114]),(200,3,[42,42]),(200,4,[94]),(200,2,[45,32,43,32,92]),(200,4,[58])]
end Go.Pz
namespace Go.Proofs
open Go.RowKit Go.Hb Go.Pz Go.Maps
def Xc (r:Int×Int×Bs):Be:=(EZ (bs r.2.2)).map fun x=>(x,⟨r.2.1,r.1⟩)
def L3 (i:Nat):Be:=(II.take i).flatMap Xc
def Nn:Be:=L3 15
theorem WJ:(II.all fun r=>decide (r.2.2.length<=200)&&decide ((EZ (bs r.2.2)).length<=50))=true:=by kernel_rfl
theorem Zt {r:Int×Int×Bs}(h:r∈II):r.2.2.length<=200/\(EZ (bs r.2.2)).length<=50:=by
 have h1:=nS.1 WJ r h;simpa using h1
theorem UB {i:Nat} {r:Int×Int×Bs}(h:II[i]? =some r):L3 (i+1)=L3 i++Xc r:=by
 unfold L3;rw[List.take_add_one,h,Option.toList_some,oW,pK,List.flatMap_nil,nj]
structure OP (w W:World) (lv:Value) (l:Be):Prop where
 Ac:Below w.heap.size w W
 p:W.heap[w.heap.size]? =some (.cells (II.map fun r=>Value.int .i64 r.1).toArray 3)
 k:W.heap[w.heap.size+1]? =some (.cells (II.map fun r=>Value.int .i64 r.2.1).toArray 3)
 r:W.heap[w.heap.size+1+1]? =some (.cells (II.map fun r=>Value.string (bs r.2.2)).toArray 9)
 h:W.heap[w.heap.size+1+1+1]? =some (.cells #[lv] 93)
 own:W.ownsRow (w.heap.size+4) 61 3 lv l.length (l.flatMap D9)
theorem OP.lt {w W:World} {lv:Value} {l:Be}(h:OP w W lv l):w.heap.size+3<W.heap.size:=(lN.1 h.h).1
theorem OP.below {w W W':World} {lv:Value} {l:Be}(h:OP w W lv l) (hb:Below W.heap.size W W'):OP w W' lv l:=by
 have h1:=h.lt;exact⟨h.Ac.trans (hb.mono h.Ac.size),(hb.block _ (by omega)).trans h.p,(hb.block _ (by omega)).trans h.k,(hb.block _ (by omega)).trans h.r,(hb.block _ (by omega)).trans h.h,AS h.own fun b qM=>hb.block b (h.own.lt b qM).2⟩
theorem OP.more {w W w2:World} {sa:Option Addr} {sc g cap:Nat} {l:Be} {x:Bs×DH}(h:OP w W (.slice sa l.length sc) l) (qD:w2.ownsRow (w.heap.size+4) 61 3 (.slice (some ⟨g,0,none⟩) (l.length+1) cap) (l.length+1) (l.flatMap D9++D9 x)) (hg:W.grownBy w2 (Value.slice sa l.length sc).ownBlock):
  OP w (w2.setCell ⟨w.heap.size+1+1+1,0,none⟩ (.slice (some ⟨g,0,none⟩) (l.length+1) cap)) (.slice (some ⟨g,0,none⟩) (l.length+1) cap) (l++ [x]):=by
 have h1:=h.lt;have qP:∀b,b<w.heap.size+4->some b≠(Value.slice sa l.length sc).ownBlock:=fun b hb e=>by have:=(h.own.lt b e.symm).1;omega
 have hgb:=(qD.lt g rfl).1;refine⟨(h.Ac.grown hg h.Ac.size (fun b hb=>by have:=(h.own.lt b hb).1;omega)).setCell (p:=⟨w.heap.size+1+1+1,0,none⟩) (by show w.heap.size<=w.heap.size+1+1+1;omega) _,?_,?_,?_,?_,?_⟩
 ·exact(AA _ _ _ (by show w.heap.size≠w.heap.size+1+1+1;omega)).trans ((hg.block _ (by omega) (qP _ (by omega))).trans h.p)
 ·exact(AA _ _ _ (by show w.heap.size+1≠w.heap.size+1+1+1;omega)).trans ((hg.block _ (by omega) (qP _ (by omega))).trans h.k)
 ·exact(AA _ _ _ (by show w.heap.size+1+1≠w.heap.size+1+1+1;omega)).trans ((hg.block _ (by omega) (qP _ (by omega))).trans h.r)
 ·exact Eh ((hg.block _ (by omega) (qP _ (by omega))).trans h.h) 0 _
 ·rw[l6,oW];refine AS (by simpa using qD) (fun b hb=>AA _ _ _ (by show b≠w.heap.size+1+1+1;simp only[Value.ownBlock,mD]at hb;omega))
theorem ba (nm:Bs) (o:DH) (w:World):(Instr.buildSlice 22 1 #[(0,Dl nm o)]).run prog w= .ok (.slice (some ⟨w.heap.size,0,none⟩) 1 1) (w.alloc (.cells (D9 (nm,o)).toArray 61)):=by kernel_rfl
theorem YI {o:Oper} {a:Act} {w:World} {Q:Exit->Act->World->Prop} {K:Act->World->Prop}(x:Operand) (ho:o.op= .buildSlice 22 1 #[(0,x)]) (nm:Bs) (r:DH) (hx:a.eval x=Dl nm r) (h:K (a.put o.dst (.slice (some ⟨w.heap.size,0,none⟩) 1 1)) (w.alloc (.cells (D9 (nm,r)).toArray 61))):o.wp prog a w K Q:=by
 unfold Oper.wp;have hr:(execOp a.eval o).run prog w= .ok (.value (.slice (some ⟨w.heap.size,0,none⟩) 1 1)) (w.alloc (.cells (D9 (nm,r)).toArray 61)):=by
  simp[execOp,ho,hx,ba,Result.andThen]
 rw[hr];exact h
theorem FU (w:World) (x y:Obj):((w.alloc x).alloc y).heap[w.heap.size+1]? =some y:=by
 have h:=lT (w.alloc x) y
 rwa [pV]at h
theorem I9 (w:World) (x y z:Obj):(((w.alloc x).alloc y).alloc z).heap[w.heap.size+1+1]? =some z:=by
 have h:=lT ((w.alloc x).alloc y) z
 rwa [pV,pV]at h
theorem JG (w:World) (x y z u:Obj):((((w.alloc x).alloc y).alloc z).alloc u).heap[w.heap.size+1+1+1]? =some u:=by
 have h:=lT (((w.alloc x).alloc y).alloc z) u
 rwa [pV,pV,pV]at h
theorem Ys {l:List Bs} {j:Nat} {x:Bs}(h:l[j]? =some x):(l.flatMap Iv)[j]? =some (.string (bs x)):=by
 have e:∀l:List Bs,l.flatMap Iv=l.map fun x=>Value.string (bs x):=fun l=>by
  induction l with
  |nil=>rfl
  |cons a l ih=>rw[pK,ih];rfl
 rw[e,mj,h];rfl
theorem jC (w:World):Calls prog 17 #[] w fun e w'=>e= .returned (.pointer (some ⟨w.heap.size+1+1+1,0,none⟩))/\∃lv,OP w w' lv Nn:=by
 go_enter func17,ntmps17;obtain⟨i0,hi,qX,qg,qe⟩:=nw Xt
 go_wp2_with fail
 generalize hX:World.alloc _ _=X;have HX:Hid (OP w X (.slice none 0 0) (L3 0)):=lK (by
  rw[<-hX];have q0:∀(V:World) (x:Obj),Below w.heap.size w V->Below w.heap.size w (V.alloc x):=fun V x h=>h.trans ((Bzz x).mono h.size);refine⟨q0 _ _ (q0 _ _ (q0 _ _ (q0 _ _ (Below.refl _ _)))),?_,?_,?_,?_,mq _ _ _ _⟩
  ·rw[Lib.alloc_old _ _ _ (by simp<;>omega),Lib.alloc_old _ _ _ (by simp<;>omega),Lib.alloc_old _ _ _ (by simp)];exact lT w _
  ·rw[Lib.alloc_old _ _ _ (by simp<;>omega),Lib.alloc_old _ _ _ (by simp)];exact FU w _ _
  ·rw[Lib.alloc_old _ _ _ (by simp)];exact I9 w _ _ _
  ·exact JG w _ _ _ _)
 clear hX
 go_loopw [5] (fun v wr=>∃(i:Nat) (lv:Value),v= .int .i64 i/\Hid (i<=15/\(L3 i).length<=50*i/\OP w wr lv (L3 i))) (fun v _=>15-(intOf v).toNat)
 case atStart=>exact⟨0,_,rfl,lK ⟨by decide,by decide,HX.o⟩⟩
 case round=>
  obtain⟨i,lv0,rfl,hq⟩:=hrel;obtain⟨wr2,yF⟩:∃W,W=wr:=⟨_,rfl⟩;subst yF;obtain⟨hi15,hNi,hI⟩:=hq.o;have HI:=lK hI;clear hq hI HX;by_cases qE:i<15
  ·have hli:(i:Int)<15:=by omega
   obtain⟨r,hr⟩:∃r,II[i]? =some r:=⟨_,lu (show i<II.length from qE)⟩;obtain⟨r1,r2⟩:=Zt (mP hr);have n2:wr2.cell? ⟨w.heap.size+1+1,i,none⟩=some (.string (bs r.2.2)):=by rw[Lib.cell_of_heap HI.o.r,oJ,mj,hr];rfl
   have xP:Hid (∀{V:World} {lv:Value} {l:Be},OP w V lv l->V.cell? ⟨w.heap.size+1,i,none⟩=some (.int .i64 r.2.1)):=lK (fun h=>by rw[Lib.cell_of_heap h.k,oJ,mj,hr];rfl);have vf:Hid (∀{V:World} {lv:Value} {l:Be},OP w V lv l->V.cell? ⟨w.heap.size,i,none⟩=some (.int .i64 r.1)):=lK (fun h=>by rw[Lib.cell_of_heap h.p,oJ,mj,hr];rfl);have CW:=lK (fun W=>bh (bs r.2.2) W (by show r.2.2.length<=1000;omega));have ug:Hid (L3 (i+1)=L3 i++(EZ (bs r.2.2)).map fun x=>(x,(⟨r.2.1,r.1⟩:DH))):=lK (UB hr);obtain⟨l0,hl0⟩:∃l0,l0=L3 i:=⟨_,rfl⟩;rw[<-hl0]at HI ug hNi;unfold KR at CW;obtain⟨fl,wu⟩:∃fl,fl=EZ (bs r.2.2):=⟨_,rfl⟩;rw[<-wu]at CW ug r2;have R2:=lK r2;have hln:(fl.length:Int)<=50:=by omega
   clear hr hl0 wu r1 r2
   go_wp2_with (go_at_call 33;(with_reducible refine(CW.o _).mono ?_);rintro e W2 ⟨va,vc,rfl,ho2,qM⟩)
   have OR:Hid (OP w W2 lv0 l0):=lK (HI.o.below qM);have uf:Hid (w.heap.size+4<=wr2.heap.size):=lK HI.o.lt;obtain⟨B6,hB6⟩:∃B,B=wr2.heap.size:=⟨_,rfl⟩;rw[<-hB6]at uf ho2;have OF0:Hid (W2.ownsRow B6 9 1 (.slice va fl.length vc) fl.length (fl.flatMap Iv)):=lK ho2;have NE0:Hid (∀b,(Value.slice va fl.length vc).ownBlock=some b->lv0.ownBlock≠some b):=lK (fun b hb e=>by have h1:=(HI.o.own.lt b e).2;have h2:=(ho2.lt b hb).1;omega);clear ho2 qM HI CW hB6 n2
   go_loopw [7] (fun v rJ=>∃(j:Nat) (lv:Value),v= .int .i64 j/\Hid (j<=fl.length/\OP w rJ lv (l0++(fl.take j).map fun x=>(x,(⟨r.2.1,r.1⟩:DH)))/\rJ.ownsRow B6 9 1 (.slice va fl.length vc) fl.length (fl.flatMap Iv)/\∀b,(Value.slice va fl.length vc).ownBlock=some b->lv.ownBlock≠some b)) (fun v _=>fl.length-(intOf v).toNat)
   case atStart=>exact⟨0,_,rfl,lK ⟨mK _,by simpa using OR.o,OF0.o,NE0.o⟩⟩
   case round=>
    obtain⟨j,lv,rfl,hq⟩:=hrel;obtain⟨rJ,hwr3⟩:∃W,W=wr:=⟨_,rfl⟩;subst hwr3;obtain⟨hj,hI3,hO3,hN3⟩:=hq.o;have xU:=lK hI3;have OF3:=lK hO3;have NE3:=lK hN3;clear hq hI3 hO3 hN3 OR OF0 NE0;by_cases hlt2:j<fl.length
    ·have hlj:(j:Int)<fl.length:=by omega
     obtain⟨nm,sh⟩:∃nm,fl[j]? =some nm:=⟨_,lu hlt2⟩;obtain⟨F,cap,hv,uX,uF⟩:=OF3.o.form (by omega);have se:va=some ⟨F,0,none⟩:=by simp only[mX]at hv;exact hv.1
     subst se;have NF:Hid (lv.ownBlock≠some F):=lK (NE3.o F rfl);have xJ:Hid (B6<=F/\F<rJ.heap.size):=lK ⟨uX,uF⟩;have FC:Hid (rJ.cell? ⟨F,j,none⟩=some (.string (bs nm))):=lK (by
      rw[World.ownsRow.cellAt OF3.o j (by omega)];exact Ys sh)
     have xw:Hid (l0++(fl.take (j+1)).map (fun x=>(x,(⟨r.2.1,r.1⟩:DH)))=(l0++(fl.take j).map fun x=>(x,(⟨r.2.1,r.1⟩:DH)))++ [(nm,⟨r.2.1,r.1⟩)]):=lK (by
      rw[List.take_add_one,sh,Option.toList_some,oC,pJ];rfl)
     have yd:Hid ((l0++(fl.take j).map fun x=>(x,(⟨r.2.1,r.1⟩:DH))).length<=50*i+j):=lK (by rw[l6,nN,List.length_take];omega);obtain⟨l,hl⟩:∃l,l=l0++(fl.take j).map fun x=>(x,(⟨r.2.1,r.1⟩:DH)):=⟨_,rfl⟩;rw[<-hl]at xU xw yd;obtain⟨sa,sc,vv⟩:=Ap xU.o.own;subst vv;clear sh hl hv uX uF
     go_upto_region 12 with fail
     have ID:Hid (OP w rJ.drew (.slice sa l.length sc) l):=lK (xU.o.below (Ad (Below.refl _ _)));have IA:Hid (OP w (rJ.drew.alloc (.cells (D9 (nm,⟨r.2.1,r.1⟩)).toArray 61)) (.slice sa l.length sc) l):=lK (ID.o.below (Bzz _));have FD:Hid (rJ.drew.cell? ⟨F,j,none⟩=some (.string (bs nm))):=lK ((AO (show rJ.drew.heap[F]? =rJ.heap[F]?from rfl) j).trans FC.o);have FA:Hid ((rJ.drew.alloc (.cells (D9 (nm,⟨r.2.1,r.1⟩)).toArray 61)).cell? ⟨F,j,none⟩=some (.string (bs nm))):=lK (AN FD.o _);have OWN:Hid ((rJ.drew.alloc (.cells (D9 (nm,⟨r.2.1,r.1⟩)).toArray 61)).ownsRow (w.heap.size+4) 61 3 (.slice sa l.length sc) l.length (l.flatMap D9)):=lK IA.o.own;have NW:Hid (∀j u,(D9 (nm,⟨r.2.1,r.1⟩))[j]? =some u->(rJ.drew.alloc (.cells (D9 (nm,⟨r.2.1,r.1⟩)).toArray 61)).cell? ((⟨rJ.drew.heap.size,0,none⟩:Addr).add j)=some u):=lK (World.news_of_block (t:=61) (fr:=(0,0)) (cs:=(D9 (nm,⟨r.2.1,r.1⟩)).toArray) (lT rJ.drew _));have tu:Hid (∀u∈D9 (nm,⟨r.2.1,r.1⟩),u.oneCell'=true):=lK (by simp[D9,Value.oneCell']);have MX:Hid (l.length+1<=maxLen):=lK (by have:=yd.o;have:=R2.o;unfold maxLen;omega);have BY:Hid ((l.length+1)*32<=140737488355328):=lK (by have:=yd.o;have:=R2.o;omega);have BS:Hid (w.heap.size+4<=(rJ.drew.alloc (.cells (D9 (nm,⟨r.2.1,r.1⟩)).toArray 61)).heap.size):=lK IA.o.lt;have uN:Hid (∀b,b<w.heap.size+4->some b≠(Value.slice sa l.length sc).ownBlock):=lK (fun b hb e=>by have:=(xU.o.own.lt b e.symm).1;omega);have CD:Hid (rJ.drew.cell? ⟨w.heap.size+1+1+1,0,none⟩=some (.slice sa l.length sc)):=lK (by rw[Lib.cell_of_heap ID.o.h];rfl);have CA:Hid ((rJ.drew.alloc (.cells (D9 (nm,⟨r.2.1,r.1⟩)).toArray 61)).cell? ⟨w.heap.size+1+1+1,0,none⟩=some (.slice sa l.length sc)):=lK (by rw[Lib.cell_of_heap IA.o.h];rfl);have FRA:Hid ((rJ.drew.alloc (.cells (D9 (nm,⟨r.2.1,r.1⟩)).toArray 61)).frozen? ⟨w.heap.size+1+1+1,0,none⟩=false):=lK (Lib.frozen_of_heap IA.o.h 0);have HC:Hid (∀{V:World} {lv:Value} {l:Be},OP w V lv l->V.cell? ⟨F,j,none⟩=some (.string (bs nm))->V.cell? ⟨F,j,none⟩=some (.string (bs nm))/\V.cell? ⟨w.heap.size+1,i,none⟩=some (.int .i64 r.2.1)/\V.cell? ⟨w.heap.size,i,none⟩=some (.int .i64 r.1)):=lK (fun h hf=>⟨hf,xP.o h,vf.o h⟩);refine wp_region_held_drew (S:=fun W=>W.cell? ⟨F,j,none⟩=some (.string (bs nm))/\W.cell? ⟨w.heap.size+1,i,none⟩=some (.int .i64 r.2.1)/\W.cell? ⟨w.heap.size,i,none⟩=some (.int .i64 r.1)) (by kernel_rfl) (HC.o ID.o FD.o) (fun hS=> ?_);refine tk 0 (.pointer (some ⟨w.heap.size+1+1+1,0,none⟩)) rfl hS ?_;refine tk 1 (.pointer (some ⟨w.heap.size+1+1+1,0,none⟩)) rfl hS ?_;refine tk 2 (.pointer (some ⟨w.heap.size+1+1+1,0,none⟩)) rfl hS ?_;refine tk 3 (.pointer (some ⟨w.heap.size+1+1+1,0,none⟩)) rfl hS ?_;refine tk 5 (.slice (some ⟨F,0,none⟩) fl.length vc) rfl hS ?_;refine tk 6 (.int .i64 j) rfl hS ?_;refine tk 7 (.pointer (some ⟨F,j,none⟩)) rfl hS ?_;refine DQ 8 (.string (bs nm)) rfl hS (fun W hSW=> ?_) ?_
     ·have e1:=hSW.1;go_simp
     refine tk 9 (.slice (some ⟨w.heap.size+1,0,none⟩) 15 15) rfl hS ?_;refine tk 10 (.int .i64 i) rfl hS ?_;refine tk 11 (.pointer (some ⟨w.heap.size+1,i,none⟩)) rfl hS ?_;refine DQ 12 (.int .i64 r.2.1) rfl hS (fun W hSW=> ?_) ?_
     ·have e1:=hSW.2.1;go_simp
     refine tk 13 (.slice (some ⟨w.heap.size,0,none⟩) 15 15) rfl hS ?_;refine tk 14 (.int .i64 i) rfl hS ?_;refine tk 15 (.pointer (some ⟨w.heap.size,i,none⟩)) rfl hS ?_;refine DQ 16 (.int .i64 r.1) rfl hS (fun W hSW=> ?_) ?_
     ·have e1:=hSW.2.2;go_simp
     refine DQ 17 (Dl nm ⟨r.2.1,r.1⟩) rfl hS (fun W hSW=> ?_) ?_
     ·unfold Dl;go_simp
     try simp only[uu,Act.put]
     refine wpAnyH_ready (rs:= [4,18]) (by kernel_rfl) (by simp) ?_;refine AllReadyH.cons rfl (fun K hK=> ?_) (AllReadyH.cons rfl (fun K hK=> ?_) AllReadyH.nil)
     ·have e1:=CD.o;go_simp;refine hK.o _ _ hS (fun hS=> ?_)
      try simp only[uu,Act.put]
      refine DD 18 rfl (fun K hK=> ?_);refine Aj rfl (YI _ rfl nm ⟨r.2.1,r.1⟩ rfl ?_);refine hK.o _ _ (HC.o IA.o FA.o) (fun hS=> ?_)
      try simp only[uu,Act.put]
      refine DD 19 rfl (fun K hK=> ?_);refine step_append_lies _ rfl _ _ _ rfl (w.heap.size+4) 61 i0 _ 3 32 underlying22 hi qX qg qe rfl (by decide) _ _ _ rfl OWN.o ⟨rJ.drew.heap.size,0,none⟩ 1 1 (D9 (nm,⟨r.2.1,r.1⟩)) rfl rfl NW.o tu.o (by decide) MX.o BY.o BS.o _ rfl ?_;intro g2 qQ w1 qD qC qh _hlg;have qC:(rJ.drew.alloc (.cells (D9 (nm,⟨r.2.1,r.1⟩)).toArray 61)).grownBy w1 (Value.slice sa l.length sc).ownBlock:=qC;have ym:=qC.cell CA.o (uN.o (w.heap.size+1+1+1) (by omega));have f10:=(qC.frozen_far ⟨w.heap.size+1+1+1,0,none⟩ (show w.heap.size+1+1+1<_ from IA.o.lt) (uN.o (w.heap.size+1+1+1) (by omega))).trans FRA.o;have HMO:=lK (IA.o.more qD qC);have FW:Hid (w1.heap[F]? =(rJ.drew.alloc (.cells (D9 (nm,⟨r.2.1,r.1⟩)).toArray 61)).heap[F]?):=lK (qC.block _ (lR xJ.o.2 (by simp)) (fun e=>NF.o e.symm));have FS:Hid ((w1.setCell ⟨w.heap.size+1+1+1,0,none⟩ (.slice (some ⟨g2,0,none⟩) (l.length+1) qQ)).cell? ⟨F,j,none⟩=some (.string (bs nm))):=lK ((AO ((AA _ _ _ (by show F≠w.heap.size+1+1+1;have:=xJ.o.1;have:=uf.o;omega)).trans FW.o) j).trans FA.o);have S1:Hid (w1.cell? ⟨F,j,none⟩=some (.string (bs nm))/\w1.cell? ⟨w.heap.size+1,i,none⟩=some (.int .i64 r.2.1)/\w1.cell? ⟨w.heap.size,i,none⟩=some (.int .i64 r.1)):=lK ⟨(AO FW.o j).trans FA.o,(AO (qC.block _ (by have:=IA.o.lt;show w.heap.size+1<_;omega) (uN.o (w.heap.size+1) (by omega))) i).trans (xP.o IA.o),(AO (qC.block _ (by have:=IA.o.lt;show w.heap.size<_;omega) (uN.o (w.heap.size) (by omega))) i).trans (vf.o IA.o)⟩;have LG:Hid (g2≠F):=lK (by
       rcases qh with h|h
       ·intro e;rw[e]at h;exact NF.o h
       ·have h2:=xJ.o.2;have h4:g2=rJ.heap.size+1:=h.trans (pV rJ.drew _);omega)
      have OFN:Hid ((w1.setCell ⟨w.heap.size+1+1+1,0,none⟩ (.slice (some ⟨g2,0,none⟩) (l.length+1) qQ)).ownsRow B6 9 1 (.slice (some ⟨F,0,none⟩) fl.length vc) fl.length (fl.flatMap Iv)):=lK (AS OF3.o fun b hb=>by
       have e:b=F:=(Option.some.inj hb).symm;subst e;exact(AA _ _ _ (by show b≠w.heap.size+1+1+1;have:=xJ.o.1;have:=uf.o;omega)).trans (FW.o.trans ((Lib.alloc_old rJ.drew _ _ xJ.o.2).trans rfl)))
      clear qD qC qh;refine hK.o _ _ S1.o (fun hS=> ?_);refine tk 20 (.pointer (some ⟨w.heap.size+1+1+1,0,none⟩)) rfl hS ?_;refine tk 21 (.pointer (some ⟨w.heap.size+1+1+1,0,none⟩)) rfl hS ?_
      try simp only[uu,Act.put]
      refine DD 22 rfl (fun K hK=> ?_);go_simp;refine hK.o _ _ (HC.o HMO.o FS.o) (fun hS=> ?_)
      try simp only[uu,Act.put]
      refine wpAnyH_done (by kernel_rfl) ?_ _;go_wp2;go_roundw
      case rel=>exact⟨j+1,.slice (some ⟨g2,0,none⟩) (l.length+1) qQ,by go_num,lK ⟨by omega,by rw[xw.o];exact HMO.o,OFN.o,fun b hb e=>LG.o ((Option.some.inj e).trans (Option.some.inj hb).symm)⟩⟩
      case measure=>simp[intOf];omega
     ·refine Aj rfl (YI _ rfl nm ⟨r.2.1,r.1⟩ rfl ?_);refine hK.o _ _ (HC.o IA.o FA.o) (fun hS=> ?_)
      try simp only[uu,Act.put]
      refine DD 4 rfl (fun K hK=> ?_);have e1:=CA.o;have e2:(rJ.alloc (.cells (D9 (nm,⟨r.2.1,r.1⟩)).toArray 61)).cell? ⟨w.heap.size+1+1+1,0,none⟩=some (.slice sa l.length sc):=CA.o;have e3:(rJ.alloc (.cells (D9 (nm,⟨r.2.1,r.1⟩)).toArray 61)).drew.cell? ⟨w.heap.size+1+1+1,0,none⟩=some (.slice sa l.length sc):=CA.o;go_simp;refine hK.o _ _ hS (fun hS=> ?_)
      try simp only[uu,Act.put]
      refine DD 19 rfl (fun K hK=> ?_);refine step_append_lies _ rfl _ _ _ rfl (w.heap.size+4) 61 i0 _ 3 32 underlying22 hi qX qg qe rfl (by decide) _ _ _ rfl OWN.o ⟨rJ.drew.heap.size,0,none⟩ 1 1 (D9 (nm,⟨r.2.1,r.1⟩)) rfl rfl NW.o tu.o (by decide) MX.o BY.o BS.o _ rfl ?_;intro g2 qQ w1 qD qC qh _hlg;have qC:(rJ.drew.alloc (.cells (D9 (nm,⟨r.2.1,r.1⟩)).toArray 61)).grownBy w1 (Value.slice sa l.length sc).ownBlock:=qC;have ym:=qC.cell CA.o (uN.o (w.heap.size+1+1+1) (by omega));have f10:=(qC.frozen_far ⟨w.heap.size+1+1+1,0,none⟩ (show w.heap.size+1+1+1<_ from IA.o.lt) (uN.o (w.heap.size+1+1+1) (by omega))).trans FRA.o;have HMO:=lK (IA.o.more qD qC);have FW:Hid (w1.heap[F]? =(rJ.drew.alloc (.cells (D9 (nm,⟨r.2.1,r.1⟩)).toArray 61)).heap[F]?):=lK (qC.block _ (lR xJ.o.2 (by simp)) (fun e=>NF.o e.symm));have FS:Hid ((w1.setCell ⟨w.heap.size+1+1+1,0,none⟩ (.slice (some ⟨g2,0,none⟩) (l.length+1) qQ)).cell? ⟨F,j,none⟩=some (.string (bs nm))):=lK ((AO ((AA _ _ _ (by show F≠w.heap.size+1+1+1;have:=xJ.o.1;have:=uf.o;omega)).trans FW.o) j).trans FA.o);have S1:Hid (w1.cell? ⟨F,j,none⟩=some (.string (bs nm))/\w1.cell? ⟨w.heap.size+1,i,none⟩=some (.int .i64 r.2.1)/\w1.cell? ⟨w.heap.size,i,none⟩=some (.int .i64 r.1)):=lK ⟨(AO FW.o j).trans FA.o,(AO (qC.block _ (by have:=IA.o.lt;show w.heap.size+1<_;omega) (uN.o (w.heap.size+1) (by omega))) i).trans (xP.o IA.o),(AO (qC.block _ (by have:=IA.o.lt;show w.heap.size<_;omega) (uN.o (w.heap.size) (by omega))) i).trans (vf.o IA.o)⟩;have LG:Hid (g2≠F):=lK (by
       rcases qh with h|h
       ·intro e;rw[e]at h;exact NF.o h
       ·have h2:=xJ.o.2;have h4:g2=rJ.heap.size+1:=h.trans (pV rJ.drew _);omega)
      have OFN:Hid ((w1.setCell ⟨w.heap.size+1+1+1,0,none⟩ (.slice (some ⟨g2,0,none⟩) (l.length+1) qQ)).ownsRow B6 9 1 (.slice (some ⟨F,0,none⟩) fl.length vc) fl.length (fl.flatMap Iv)):=lK (AS OF3.o fun b hb=>by
       have e:b=F:=(Option.some.inj hb).symm;subst e;exact(AA _ _ _ (by show b≠w.heap.size+1+1+1;have:=xJ.o.1;have:=uf.o;omega)).trans (FW.o.trans ((Lib.alloc_old rJ.drew _ _ xJ.o.2).trans rfl)))
      clear qD qC qh;refine hK.o _ _ S1.o (fun hS=> ?_);refine tk 20 (.pointer (some ⟨w.heap.size+1+1+1,0,none⟩)) rfl hS ?_;refine tk 21 (.pointer (some ⟨w.heap.size+1+1+1,0,none⟩)) rfl hS ?_
      try simp only[uu,Act.put]
      refine DD 22 rfl (fun K hK=> ?_);go_simp;refine hK.o _ _ (HC.o HMO.o FS.o) (fun hS=> ?_)
      try simp only[uu,Act.put]
      refine wpAnyH_done (by kernel_rfl) ?_ _;go_wp2;go_roundw
      case rel=>exact⟨j+1,.slice (some ⟨g2,0,none⟩) (l.length+1) qQ,by go_num,lK ⟨by omega,by rw[xw.o];exact HMO.o,OFN.o,fun b hb e=>LG.o ((Option.some.inj e).trans (Option.some.inj hb).symm)⟩⟩
      case measure=>simp[intOf];omega
    ·have hjn:Hid (j=fl.length):=lK (by omega);go_wp2;go_roundw
     case rel=>exact⟨i+1,lv,by go_num,lK ⟨by omega,by rw[ug.o,l6,nN];have:=R2.o;omega,by rw[ug.o];have h:=xU.o;rw[hjn.o,List.take_length]at h;exact h⟩⟩
     case measure=>simp[intOf];omega
  ·have qN:Hid (i=15):=lK (by omega);go_wp2;go_ret;have h:=HI.o;rw[qN.o]at h;exact⟨rfl,lv0,h⟩
end Go.Proofs
