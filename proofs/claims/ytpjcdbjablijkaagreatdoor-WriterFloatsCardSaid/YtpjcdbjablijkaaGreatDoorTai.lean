import Derived.Test.YtpjcdbjablijkaaGreatDoorTah
import Derived.Test.YtpjcdbjablijkaaGreatDoorTaa
import Derived.Test.YtpjcdbjablijkaaGreatDoorTag
set_option maxRecDepth 1000000
set_option maxHeartbeats 40000000
section
namespace Go.Pf
open Go.RowKit
def Tab13 (w:World) (B:Nat):Prop:=∃g o c,g<B∧19<B∧w.cell? ⟨19,0,none⟩=some (.slice (some ⟨g,o,none⟩) 23 c)∧∀i,i<23→w.cell? ⟨g,o+i,none⟩=some (.float .f64 (pt10 i))
theorem Tab13.below {w w':World} {B:Nat}(h:Tab13 w B) (hb:Below B w w'):Tab13 w' B:=by
 obtain⟨g,o,c,h1,h2,h3,h4⟩:=h
 exact⟨g,o,c,h1,h2,(hb.cell (p:=⟨19,0,none⟩) h2).trans h3,fun i hi=>(hb.cell (p:=⟨g,o+i,none⟩) h1).trans (h4 i hi)⟩
theorem mulB_le {a b:Nat}(ha:a<infB) (hb:b<infB):mulB a b≤infB:=by
 unfold mulB Ieee.Format.mul
 rw[read_fin a ha,read_fin b hb]
 show Ieee.double.nearest (false^^false) (mg a*mg b) (-1074+(pe a:Nat)+(-1074+(pe b:Nat)))≤infB
 rw[Bool.false_xor]
 unfold Ieee.Format.nearest
 split
 ·rw[word_false];exact Nat.zero_le _
 ·simp only[word_false,dbl_inf]
  unfold infB
  exact Nat.min_le_right _ _
end Go.Pf
namespace Go.Proofs
open Go.RowKit Go.Pf
theorem u64_shr52 (m:Nat):(m:Int)/2^52=((m/4503599627370496:Nat):Int):=by
 have:(2:Int)^52=4503599627370496:=by decide
 rw[this];omega
def ExSays (m:Nat) (x:Int) (w:World) (e:Ending) (w':World):Prop:=∃y,e= .returned (.tuple #[.float .f64 y,.bool (axN m x).isSome])∧(∀r,axN m x=some r→y=r)∧w=w'
theorem Tryz.exact (m:Nat) (x:Int) (B:Nat) (w:World) (h0:0<m) (hm:m<18446744073709551616) (hx: -345≤x) (hx2:x≤310) (hT:Hid (Tab13 w B)) (h10:w.cell? ⟨16,0,none⟩=some (.int .u64 52)):
 Calls Tryz.prog 236 #[.int .u64 m,.int .i64 x,.bool false] w (ExSays m x w):=by
 obtain⟨q,hq⟩:∃q,q=m/4503599627370496:=⟨_,rfl⟩
 have q1:(m:Int)/4503599627370496=(q:Int):=by omega
 have q0:(m:Int)/2^52=(q:Int):=by rw[hq];exact u64_shr52 m
 by_cases h1:4503599627370496≤m
 ·have hr:axN m x=none:=by unfold axN;rw[if_pos h1]
  have qz:((q:Int)==0)=false:=eqf (n:=0) (by omega)
  have HX:Hid (ExSays m x w (.returned (.tuple #[.float .f64 0,.bool false])) w):=Hi ⟨0,by rw[hr];rfl,(by rw[hr];intro r h;cases h),rfl⟩
  clear hq hr h1
  go_enter Tryz.func236,Tryz.ntmps236
  go_wp2
  go_ret2
  exact HX.out
 ·have qz:((q:Int)==0)=true:=eqt (n:=0) (by omega)
  obtain⟨F,hF⟩:∃F,F=foi m:=⟨_,rfl⟩
  have fF:floatOfInt .f64 (m:Int)=F:=hF.symm
  obtain⟨W,-⟩:=foi_wh h0 (by omega)
  rw[←hF]at W
  by_cases h2:x=0
  ·have hr:axN m x=some F:=by unfold axN;rw[if_neg h1,if_pos h2,hF]
   have xz:(x==0)=true:=by rw[h2];rfl
   have HX:Hid (ExSays m x w (.returned (.tuple #[.float .f64 F,.bool true])) w):=Hi ⟨F,by rw[hr];rfl,by rw[hr];intro r h;cases h;rfl,rfl⟩
   clear hq hr h1 hF W h2
   go_enter Tryz.func236,Tryz.ntmps236
   go_wp2
   go_ret2
   exact HX.out
  ·have xz:(x==0)=false:=by simpa using h2
   by_cases h3:0<x∧x≤37
   ·have HT:=hT.out
    obtain⟨g,o,c,_,_,t0,t1⟩:=HT
    have x1:decide (0<x)=true:=decide_eq_true h3.1
    have x2:decide (x≤37)=true:=decide_eq_true h3.2
    obtain⟨k,hk⟩:∃k:Nat,k=(min x 22).toNat:=⟨_,rfl⟩
    have k23:k<23:=by omega
    have tk:=t1 k k23
    by_cases h22:22<x
    ·obtain⟨j,hj⟩:∃j:Nat,j=(x-22).toNat:=⟨_,rfl⟩
     have ej:x-22=(j:Int):=by omega
     have j15:(j:Int)<23:=by omega
     have tj:=t1 j (by omega)
     have k22:k=22:=by omega
     subst k22
     have wj:=(t10_wh j (by omega)).1
     obtain⟨T1,hT1⟩:∃T,T=pt10 j:=⟨_,rfl⟩
     obtain⟨T2,hT2⟩:∃T,T=pt10 22:=⟨_,rfl⟩
     rw[←hT1]at tj wj
     rw[←hT2]at tk
     obtain⟨G,hG⟩:∃G,G=mulB F T1:=⟨_,rfl⟩
     have rG:∀w,(binOp .mul 47 (.float .f64 F) (.float .f64 T1)).run Tryz.prog w= .ok (.float .f64 G) w:=fun w=>run_float_arith w .mul 47 .f64 F T1 G (by rw[hG];exact mul_some W.1 wj.1)
     have Gle:G≤infB:=by rw[hG];exact mulB_le W.1 wj.1
     have eG:axF m x=G:=by unfold axF;rw[if_pos h22,←hj,←hT1,←hF,←hG]
     have cn:(FloatKind.f64.format.order G 14054727237768577024==some .lt)=false:=order_neg Gle
     by_cases h15:pt15<G
     ·have cg:(FloatKind.f64.format.order G 4831355200913801216==some .gt)=true:=by
       have:=order_gt (a:=G) (b:=pt15) Gle (by decide)
       rw[decide_eq_true h15]at this
       exact this
      have hr:axN m x=none:=by unfold axN;rw[if_neg h1,if_neg h2,if_pos h3,eG,if_pos h15]
      have HX:Hid (ExSays m x w (.returned (.tuple #[.float .f64 G,.bool false])) w):=Hi ⟨G,by rw[hr];rfl,(by rw[hr];intro r h;cases h),rfl⟩
      have b22:decide (22<x)=true:=decide_eq_true h22
      clear hq hr h1 hF W h2 t1 hk hT1 hT2 hG eG h15 wj Gle hj
      go_enter Tryz.func236,Tryz.ntmps236
      go_wp2
      go_ret2
      exact HX.out
     ·have cg:(FloatKind.f64.format.order G 4831355200913801216==some .gt)=false:=by
       have:=order_gt (a:=G) (b:=pt15) Gle (by decide)
       rw[decide_eq_false h15]at this
       exact this
      have WG:=axF_wh h0 (by omega) h3.1 h3.2 (by rw[eG];exact h15)
      rw[eG]at WG
      obtain⟨R,hR⟩:∃R,R=mulB G T2:=⟨_,rfl⟩
      have rR:∀w,(binOp .mul 47 (.float .f64 G) (.float .f64 T2)).run Tryz.prog w= .ok (.float .f64 R) w:=fun w=>run_float_arith w .mul 47 .f64 G T2 R (by rw[hR];exact mul_some WG.1 (by rw[hT2];exact(t10_wh 22 (by decide)).1.1))
      have hr:axN m x=some R:=by unfold axN;rw[if_neg h1,if_neg h2,if_pos h3,eG,if_neg h15,←hk,←hT2,←hR]
      have HX:Hid (ExSays m x w (.returned (.tuple #[.float .f64 R,.bool true])) w):=Hi ⟨R,by rw[hr];rfl,by rw[hr];intro r h;cases h;rfl,rfl⟩
      have b22:decide (22<x)=true:=decide_eq_true h22
      clear hq hr h1 hF W h2 t1 hk hT1 hT2 hG eG h15 wj Gle hj WG hR
      go_enter Tryz.func236,Tryz.ntmps236
      go_wp2
      go_ret2
      exact HX.out
    ·have ek:x=(k:Int):=by omega
     obtain⟨T2,hT2⟩:∃T,T=pt10 k:=⟨_,rfl⟩
     rw[←hT2]at tk
     have eG:axF m x=F:=by unfold axF;rw[if_neg h22,←hF]
     have cn:(FloatKind.f64.format.order F 14054727237768577024==some .lt)=false:=order_neg (Nat.le_of_lt W.1)
     have b22:decide (22<x)=false:=decide_eq_false h22
     by_cases h15:pt15<F
     ·have cg:(FloatKind.f64.format.order F 4831355200913801216==some .gt)=true:=by
       have:=order_gt (a:=F) (b:=pt15) (Nat.le_of_lt W.1) (by decide)
       rw[decide_eq_true h15]at this
       exact this
      have hr:axN m x=none:=by unfold axN;rw[if_neg h1,if_neg h2,if_pos h3,eG,if_pos h15]
      have HX:Hid (ExSays m x w (.returned (.tuple #[.float .f64 F,.bool false])) w):=Hi ⟨F,by rw[hr];rfl,(by rw[hr];intro r h;cases h),rfl⟩
      clear hq hr h1 hF W h2 t1 hk hT2 eG h15 ek
      go_enter Tryz.func236,Tryz.ntmps236
      go_wp2
      go_ret2
      exact HX.out
     ·have cg:(FloatKind.f64.format.order F 4831355200913801216==some .gt)=false:=by
       have:=order_gt (a:=F) (b:=pt15) (Nat.le_of_lt W.1) (by decide)
       rw[decide_eq_false h15]at this
       exact this
      obtain⟨R,hR⟩:∃R,R=mulB F T2:=⟨_,rfl⟩
      have rR:∀w,(binOp .mul 47 (.float .f64 F) (.float .f64 T2)).run Tryz.prog w= .ok (.float .f64 R) w:=fun w=>run_float_arith w .mul 47 .f64 F T2 R (by rw[hR];exact mul_some W.1 (by rw[hT2];exact(t10_wh k (by omega)).1.1))
      have hr:axN m x=some R:=by unfold axN;rw[if_neg h1,if_neg h2,if_pos h3,eG,if_neg h15,←hk,←hT2,←hR]
      have HX:Hid (ExSays m x w (.returned (.tuple #[.float .f64 R,.bool true])) w):=Hi ⟨R,by rw[hr];rfl,by rw[hr];intro r h;cases h;rfl,rfl⟩
      have ki:(k:Int)<23:=by omega
      clear hq hr h1 hF W t1 hk hT2 eG h15 hR
      subst ek
      clear h2
      go_enter Tryz.func236,Tryz.ntmps236
      go_wp2
      go_ret2
      exact HX.out
   ·have hgt:(decide (0<x)&&decide (x≤37))=false:=by
     rw[Bool.eq_false_iff];intro hh;simp at hh;exact h3 hh
    by_cases h4:x<0∧ -22≤x
    ·have HT:=hT.out
     obtain⟨g,o,c,_,_,t0,t1⟩:=HT
     obtain⟨k,hk⟩:∃k:Nat,k=(-x).toNat:=⟨_,rfl⟩
     have ek:x= -(k:Int):=by omega
     have k23:k<23:=by omega
     have ki:(k:Int)<23:=by omega
     have tk:=t1 k k23
     have wk:=t10_wh k (by omega)
     obtain⟨T2,hT2⟩:∃T,T=pt10 k:=⟨_,rfl⟩
     rw[←hT2]at tk wk
     obtain⟨R,hR⟩:∃R,R=divB F T2:=⟨_,rfl⟩
     have rR:∀w,(binOp .quo 47 (.float .f64 F) (.float .f64 T2)).run Tryz.prog w= .ok (.float .f64 R) w:=fun w=>run_float_arith w .quo 47 .f64 F T2 R (by rw[hR];exact div_some W.1 wk.1.1 (by have:=wk.2;omega))
     have hr:axN m x=some R:=by unfold axN;rw[if_neg h1,if_neg h2,if_neg h3,if_pos h4,←hk,←hT2,←hF,←hR]
     have HX:Hid (ExSays m x w (.returned (.tuple #[.float .f64 R,.bool true])) w):=Hi ⟨R,by rw[hr];rfl,by rw[hr];intro r h;cases h;rfl,rfl⟩
     have x1:decide (0<x)=false:=dFo
     have x3:decide (x<0)=true:=decide_eq_true h4.1
     have x4:decide (-22≤x)=true:=decide_eq_true h4.2
     have ek2: -x=(k:Int):=by omega
     clear hq hr h1 hF W t1 hk hT2 hR wk h2 h3 hgt ek k23
     go_enter Tryz.func236,Tryz.ntmps236
     go_wp2
     go_ret2
     exact HX.out
    ·have hr:axN m x=none:=by unfold axN;rw[if_neg h1,if_neg h2,if_neg h3,if_neg h4]
     have HX:Hid (ExSays m x w (.returned (.tuple #[.float .f64 F,.bool false])) w):=Hi ⟨F,by rw[hr];rfl,(by rw[hr];intro r h;cases h),rfl⟩
     have hh:(decide (0<x)=true∧decide (x≤37)=false)∨(decide (0<x)=false∧decide (x<0)=true∧decide (-22≤x)=false):=by
      rcases Int.lt_or_gt_of_ne h2 with h|h
      ·exact .inr ⟨decide_eq_false (by omega),decide_eq_true h,decide_eq_false (by omega)⟩
      ·exact .inl ⟨decide_eq_true h,decide_eq_false (by omega)⟩
     rcases hh with⟨x1,x2⟩|⟨x1,x3,x4⟩
     ·have x3:decide (x<0)=false:=by
       have:=of_decide_eq_true x1
       exact decide_eq_false (by omega)
      clear hq hr h1 hF W h2 h3 hgt h4
      go_enter Tryz.func236,Tryz.ntmps236
      go_wp2
      go_ret2
      exact HX.out
     ·clear hq hr h1 hF W h2 h3 hgt h4
      go_enter Tryz.func236,Tryz.ntmps236
      go_wp2
      go_ret2
      exact HX.out
end Go.Proofs
end
section
namespace Go.Proofs
open Go.RowKit Go.Pf
theorem Tryz.lowerDig (c:Nat) (h:c=46∨dgc c) (w:World):Calls Tryz.prog 180 #[.int .u8 c] w fun e w'=>e= .returned (.int .u8 c)∧w=w':=by
 have:c=46∨c=48∨c=49∨c=50∨c=51∨c=52∨c=53∨c=54∨c=55∨c=56∨c=57:=by
  unfold dgc at h;omega
 clear h
 rcases this with rfl|rfl|rfl|rfl|rfl|rfl|rfl|rfl|rfl|rfl|rfl
 all_goals
  go_enter Tryz.func180,Tryz.ntmps180
  go_wp2
  go_ret
  exact⟨rfl,rfl⟩
theorem Tryz.lowerE (c:Nat) (h:c=101∨c=69) (w:World):Calls Tryz.prog 180 #[.int .u8 c] w fun e w'=>e= .returned (.int .u8 101)∧w=w':=by
 rcases h with rfl|rfl
 all_goals
  go_enter Tryz.func180,Tryz.ntmps180
  go_wp2
  go_ret
  exact⟨rfl,rfl⟩
theorem Tryz.special (s:ByteArray) (w:World) (h0:0<s.size) (hd:Hid (dgc s[0].toNat)):
 Calls Tryz.prog 226 #[.string s] w fun e w'=>e= .returned (.tuple #[.float .f64 0,.int .i64 0,.bool false])∧w=w':=by
 have d1:=hd.out.1
 have d2:=hd.out.2
 have e1:((s[0].toNat:Int)==43)=false:=eqf (n:=43) (by omega)
 have e2:((s[0].toNat:Int)==45)=false:=eqf (n:=45) (by omega)
 have e3:((s[0].toNat:Int)==105)=false:=eqf (n:=105) (by omega)
 have e4:((s[0].toNat:Int)==73)=false:=eqf (n:=73) (by omega)
 have e5:((s[0].toNat:Int)==110)=false:=eqf (n:=110) (by omega)
 have e6:((s[0].toNat:Int)==78)=false:=eqf (n:=78) (by omega)
 have z0:((s.size:Int)==0)=false:=eqf (n:=0) (by omega)
 clear d1 d2
 go_enter Tryz.func226,Tryz.ntmps226
 go_wp2
 refine bodyPost_ret (v:= .tuple #[.float .f64 0,.int .i64 0,.bool false]) ?_ rfl ⟨rfl,rfl⟩
 simp only[results,Tryz.results226]
 go_simp
end Go.Proofs
end
