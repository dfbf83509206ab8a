import Derived.Test.YtpjcdbjablijkaaGreatDoorTal
import Derived.Deep.RegionHeldLaw
import Derived.Test.YtpjcdbjablijkaaGreatDoorTaa
set_option maxRecDepth 1000000
set_option maxHeartbeats 40000000
section
namespace Go.Proofs
open Go.RowKit Go.Pf Go.Rb
structure Hp (w w':World):Prop where
 heap:w'.heap=w.heap
 os:w'.os=w.os
 tape:w'.tape=w.tape
 output:w'.output=w.output
theorem hp_drewN (w:World) (n:Nat):Hp w (w.drewN n):=⟨rfl,rfl,rfl,rfl⟩
theorem hp_drew (w:World):Hp w w.drew:=⟨rfl,rfl,rfl,rfl⟩
theorem BtV.heap {w w':World} {v:Value} {x m:Nat}(h:BtV w v x m) (e:w'.heap=w.heap):BtV w' v x m:=by
 rcases h with h|⟨b,o,c,rfl,h2,h3,h4,h5,h6⟩
 ·exact .inl h
 ·exact .inr ⟨b,o,c,rfl,h2,h3,by rw[e];exact h4,h5,fun j hj=>(World.cell?_of_block (by rw[e])).trans (h6 j hj)⟩
theorem Tok.heap {w w':World} {b:Nat}(h:Tok w b) (e:w'.heap=w.heap):Tok w' b:=⟨by rw[e];exact h.h⟩
theorem Hp.below {w w':World}(h:Hp w w'):Below w.heap.size w w':=⟨h.os,h.tape,h.output,by rw[h.heap];exact nR _,fun _ _=>by rw[h.heap]⟩
structure LaidSays (neg:Bool) (x:Nat) (b:Nat) (w:World) (e:Ending) (w':World):Prop where
 ex:∃a m c,e= .returned (.agg #[.bool neg,.slice a m c])∧T2 x m∧w'.cell? ⟨b,0,none⟩=some (.bool false)∧w'.cell? ⟨b,1,none⟩=some (.slice none 0 0)∧w'.frozen? ⟨b,0,none⟩=false∧w'.frozen? ⟨b,1,none⟩=false∧BtV ((w'.setCell ⟨b,0,none⟩ (.bool neg)).setCell ⟨b,1,none⟩ (.slice a m c)) (.slice a m c) x m∧Below w.heap.size w w'
theorem Tryz.rlaidAt (neg ng:Bool) (v:Value) (x m b:Nat) (w0 w:World) (hv:Hid (BtV w v x m)) (tk:Tok w b) (hb:Below w0.heap.size w0 w) (hn:ng=(neg&&decide (0<x))):Calls Tryz.prog 58 #[.bool neg,v] w (LaidSays ng x b w0):=by
 refine(Tryz.rlaid neg v x m w hv).mono ?_
 rintro e W2 ⟨sl,m',rfl,ht,hv2,b2⟩
 obtain⟨a,c,rfl⟩:=hv2.slice
 have t2:=tk.below b2
 rw[←hn]
 exact⟨a,m',c,rfl,ht,t2.c0,t2.c1,t2.f 0,t2.f 1,hv2.tok t2 _ _,hb.trans (b2.mono hb.size)⟩
structure RowAt (x:Nat) (w0:World) (e:Ending) (w':World):Prop where
 ex:∃a m c,e= .returned (.slice a m c)∧T2 x m∧BtV w' (.slice a m c) x m∧Below w0.heap.size w0 w'
theorem RowSays.at {x:Nat} {w0 w:World} {e:Ending} {w':World}(h:RowSays x w e w') (hb:Below w0.heap.size w0 w):RowAt x w0 e w':=by
 obtain⟨sl,m,rfl,ht,hv,b2⟩:=h
 obtain⟨a,c,rfl⟩:=hv.slice
 exact⟨a,m,c,rfl,ht,hv,hb.trans (b2.mono hb.size)⟩
def SumSays (x y:Nat) (w:World) (e:Ending) (w':World):Prop:=∃(sl:Value) (m:Nat),e= .returned (.agg #[.bool (decide (x<y)),sl])∧T2 (if x<y then y-x else x-y) m∧BtV w' sl (if x<y then y-x else x-y) m∧Below w.heap.size w w'
theorem Tryz.rsumPos (va vb:Value) (x y la lb:Nat) (w:World) (ha:Hid (BtV w va x la)) (hb:Hid (BtV w vb y lb)) (ta:T2 x la) (tb:T2 y lb) (hla:la≤1000000000) (hlb:lb≤1000000000):
 Calls Tryz.prog 101 #[.agg #[.bool false,va],.agg #[.bool true,vb]] w (SumSays x y w):=by
 have fin:Hid (∀(R:Bool) (z:Nat) a m c w',R=decide (x<y)→z=(if x<y then y-x else x-y)→T2 z m→BtV w' (.slice a m c) z m→Below w.heap.size w w'→SumSays x y w (.returned (.agg #[.bool R,.slice a m c])) w'):=Hi (fun R z a m c w' h1 h2 h3 h4 h5=>by subst h1 h2;exact⟨_,m,rfl,h3,h4,h5⟩)
 have TA:=Hi ta
 have TB:=Hi tb
 go_enter Tryz.func101,Tryz.ntmps101
 go_wp2_with fail
 generalize hW:((w.alloc _).alloc _).alloc _=W1
 have bl:Below w.heap.size w W1:=by subst hW;exact(((Below.refl _ _).alloc (nR _) _).alloc (by simp) _).alloc (by simp;omega) _
 have c0:W1.cell? ⟨w.heap.size,0,none⟩=some (.bool false):=by subst hW;go_simp
 have c1:W1.cell? ⟨w.heap.size,1,none⟩=some va:=by subst hW;go_simp
 have d0:W1.cell? ⟨w.heap.size+1,0,none⟩=some (.bool true):=by subst hW;go_simp
 have d1:W1.cell? ⟨w.heap.size+1,1,none⟩=some vb:=by subst hW;go_simp
 have tk:Tok W1 (w.heap.size+2):=by subst hW;exact Tok.new3 w _ _
 have ha1:=ha.out.below bl
 have hb1:=hb.out.below bl
 have sz:W1.heap.size=w.heap.size+3:=by subst hW;simp
 have SZ:=Hi sz
 clear hW sz
 have HB:=Hi bl
 have TK:=Hi tk
 have HA1:=Hi ha1
 have HB1:=Hi hb1
 have keep0:Hid (∀W2,Below W1.heap.size W1 W2→W2.cell? ⟨w.heap.size,0,none⟩=some (.bool false)):=Hi (fun W2 h=>(h.cell (p:=⟨w.heap.size,0,none⟩) (by have:=SZ.out;show w.heap.size<W1.heap.size;omega)).trans c0)
 have keep1:Hid (∀W2,Below W1.heap.size W1 W2→W2.cell? ⟨w.heap.size+1,0,none⟩=some (.bool true)):=Hi (fun W2 h=>(h.cell (p:=⟨w.heap.size+1,0,none⟩) (by have:=SZ.out;show w.heap.size+1<W1.heap.size;omega)).trans d0)
 clear bl tk ha1 hb1
 have CL:Hid (∀(neg ng:Bool) a m c z W,BtV W (.slice a m c) z m→Below W1.heap.size W1 W→ng=(neg&&decide (0<z))→Calls Tryz.prog 58 #[.bool neg,.slice a m c] W (LaidSays ng z (w.heap.size+2) W1)):=Hi (fun neg ng a m c z W h1 h2 h3=>Tryz.rlaidAt neg ng _ z m _ W1 W (Hi h1) (TK.out.below h2) h2 h3)
 have CLess:Hid (Calls Tryz.prog 151 #[va,vb] W1 fun e w'=>e= .returned (.bool (decide (x<y)))∧∃n,w'=W1.drewN n):=Hi (Tryz.rless va vb x y la lb W1 HA1 HB1 TA.out TB.out hla)
 by_cases hxy:x<y
 ·rw[decide_eq_true hxy]at CLess
  have FIN:Hid (∀a m c w',T2 (y-x) m→BtV w' (.slice a m c) (y-x) m→Below w.heap.size w w'→SumSays x y w (.returned (.agg #[.bool true,.slice a m c])) w'):=Hi (fun a m c w'=>fin.out true (y-x) a m c w' (decide_eq_true hxy).symm (by rw[if_pos hxy]))
  have PX:Hid (true=(true&&decide (0<y-x))):=Hi (by rw[decide_eq_true (by omega)];rfl)
  have CS:Hid (∀W,Hp W1 W→Calls Tryz.prog 152 #[vb,va] W (RowAt (y-x) W1)):=Hi (fun W h=>(Tryz.rsub vb va y x lb la W (Hi (HB1.out.heap h.heap)) (Hi (HA1.out.heap h.heap)) (by omega) hlb).mono (fun e w' hr=>hr.at h.below))
  clear hxy hb ha fin
  go_wp2_with (go_at_call 151;(with_reducible refine CLess.out.mono ?_);rintro e w' ⟨rfl,n,rfl⟩)
  ·go_region_with (first|(go_at_call 152;(first|(with_reducible refine(CS.out _ (hp_drewN _ _)).mono ?_)|(with_reducible refine(CS.out _ (hp_drew _)).mono ?_));rintro e W2 ⟨⟨sa,sm,sc,rfl,ht,hv2,b2⟩⟩;have e0:=keep1.out W2 b2)|(go_at_call 58;(with_reducible refine(CL.out true true _ _ _ _ _ hv2 b2 PX.out).mono ?_);rintro e W3 ⟨⟨ra,rm,rc,rfl,ht3,x0,x1,y0,y1,hv3,b3⟩⟩))
   all_goals
    have HV3:=Hi hv3
    have B3:=Hi b3
    clear hv2 b2 e0 hv3 b3
    go_wp2
    refine bodyPost_ret (v:= .agg #[.bool true,.slice ra rm rc]) ?_ rfl (FIN.out _ _ _ _ ht3 HV3.out ?_)
    ·simp only[results,Tryz.results101]
     go_simp
    ·iterate 2 refine Below.setCell ?_ (by simp only;omega) _
     exact HB.out.trans (B3.out.mono HB.out.size)
 ·rw[decide_eq_false hxy]at CLess
  have FIN:Hid (∀a m c w',T2 (x-y) m→BtV w' (.slice a m c) (x-y) m→Below w.heap.size w w'→SumSays x y w (.returned (.agg #[.bool false,.slice a m c])) w'):=Hi (fun a m c w'=>fin.out false (x-y) a m c w' (decide_eq_false hxy).symm (by rw[if_neg hxy]))
  have PX:Hid (false=(false&&decide (0<x-y))):=Hi rfl
  have CS:Hid (∀W,Hp W1 W→Calls Tryz.prog 152 #[va,vb] W (RowAt (x-y) W1)):=Hi (fun W h=>(Tryz.rsub va vb x y la lb W (Hi (HA1.out.heap h.heap)) (Hi (HB1.out.heap h.heap)) (by omega) hla).mono (fun e w' hr=>hr.at h.below))
  clear hxy hb ha fin
  go_wp2_with (go_at_call 151;(with_reducible refine CLess.out.mono ?_);rintro e w' ⟨rfl,n,rfl⟩)
  ·go_region_with (first|(go_at_call 152;(first|(with_reducible refine(CS.out _ (hp_drewN _ _)).mono ?_)|(with_reducible refine(CS.out _ (hp_drew _)).mono ?_));rintro e W2 ⟨⟨sa,sm,sc,rfl,ht,hv2,b2⟩⟩;have e0:=keep0.out W2 b2)|(go_at_call 58;(with_reducible refine(CL.out false false _ _ _ _ _ hv2 b2 PX.out).mono ?_);rintro e W3 ⟨⟨ra,rm,rc,rfl,ht3,x0,x1,y0,y1,hv3,b3⟩⟩))
   all_goals
    have HV3:=Hi hv3
    have B3:=Hi b3
    clear hv2 b2 e0 hv3 b3
    go_wp2
    refine bodyPost_ret (v:= .agg #[.bool false,.slice ra rm rc]) ?_ rfl (FIN.out _ _ _ _ ht3 HV3.out ?_)
    ·simp only[results,Tryz.results101]
     go_simp
    ·iterate 2 refine Below.setCell ?_ (by simp only;omega) _
     exact HB.out.trans (B3.out.mono HB.out.size)
theorem Tryz.rsumZero (va vb:Value) (x la lb:Nat) (w:World) (ha:Hid (BtV w va x la)) (hb:Hid (BtV w vb 0 lb)) (ta:T2 x la) (tb:T2 0 lb) (hla:la≤1000000000) (hlb:lb≤1000000000):
 Calls Tryz.prog 101 #[.agg #[.bool false,va],.agg #[.bool false,vb]] w (SumSays x 0 w):=by
 have fin:Hid (∀(R:Bool) (z:Nat) a m c w',R=decide (x<0)→z=(if x<0 then 0-x else x-0)→T2 z m→BtV w' (.slice a m c) z m→Below w.heap.size w w'→SumSays x 0 w (.returned (.agg #[.bool R,.slice a m c])) w'):=Hi (fun R z a m c w' h1 h2 h3 h4 h5=>by subst h1 h2;exact⟨_,m,rfl,h3,h4,h5⟩)
 have TA:=Hi ta
 have TB:=Hi tb
 go_enter Tryz.func101,Tryz.ntmps101
 go_wp2_with fail
 generalize hW:((w.alloc _).alloc _).alloc _=W1
 have bl:Below w.heap.size w W1:=by subst hW;exact(((Below.refl _ _).alloc (nR _) _).alloc (by simp) _).alloc (by simp;omega) _
 have c0:W1.cell? ⟨w.heap.size,0,none⟩=some (.bool false):=by subst hW;go_simp
 have c1:W1.cell? ⟨w.heap.size,1,none⟩=some va:=by subst hW;go_simp
 have d0:W1.cell? ⟨w.heap.size+1,0,none⟩=some (.bool false):=by subst hW;go_simp
 have d1:W1.cell? ⟨w.heap.size+1,1,none⟩=some vb:=by subst hW;go_simp
 have tk:Tok W1 (w.heap.size+2):=by subst hW;exact Tok.new3 w _ _
 have ha1:=ha.out.below bl
 have hb1:=hb.out.below bl
 have sz:W1.heap.size=w.heap.size+3:=by subst hW;simp
 have SZ:=Hi sz
 clear hW sz
 have HB:=Hi bl
 have TK:=Hi tk
 have HA1:=Hi ha1
 have HB1:=Hi hb1
 have keep0:Hid (∀W2,Below W1.heap.size W1 W2→W2.cell? ⟨w.heap.size,0,none⟩=some (.bool false)):=Hi (fun W2 h=>(h.cell (p:=⟨w.heap.size,0,none⟩) (by have:=SZ.out;show w.heap.size<W1.heap.size;omega)).trans c0)
 have keep1:Hid (∀W2,Below W1.heap.size W1 W2→W2.cell? ⟨w.heap.size+1,0,none⟩=some (.bool false)):=Hi (fun W2 h=>(h.cell (p:=⟨w.heap.size+1,0,none⟩) (by have:=SZ.out;show w.heap.size+1<W1.heap.size;omega)).trans d0)
 clear bl tk ha1 hb1
 have CL:Hid (∀(neg ng:Bool) a m c z W,BtV W (.slice a m c) z m→Below W1.heap.size W1 W→ng=(neg&&decide (0<z))→Calls Tryz.prog 58 #[.bool neg,.slice a m c] W (LaidSays ng z (w.heap.size+2) W1)):=Hi (fun neg ng a m c z W h1 h2 h3=>Tryz.rlaidAt neg ng _ z m _ W1 W (Hi h1) (TK.out.below h2) h2 h3)
 have FIN:Hid (∀a m c w',T2 (x+0) m→BtV w' (.slice a m c) (x+0) m→Below w.heap.size w w'→SumSays x 0 w (.returned (.agg #[.bool false,.slice a m c])) w'):=Hi (fun a m c w'=>fin.out false (x+0) a m c w' (decide_eq_false (by omega)).symm (by rw[if_neg (by omega)];omega))
 have PX:Hid (false=(false&&decide (0<x+0))):=Hi rfl
 have CS:Hid (∀W,Hp W1 W→Calls Tryz.prog 150 #[va,vb] W (RowAt (x+0) W1)):=Hi (fun W h=>(Tryz.radd va vb x 0 la lb W (Hi (HA1.out.heap h.heap)) (Hi (HB1.out.heap h.heap)) hla hlb).mono (fun e w' hr=>hr.at h.below))
 clear hb ha fin
 ·skip
  ·go_region_with (first|(go_at_call 150;(first|(with_reducible refine(CS.out _ (hp_drewN _ _)).mono ?_)|(with_reducible refine(CS.out _ (hp_drew _)).mono ?_));rintro e W2 ⟨⟨sa,sm,sc,rfl,ht,hv2,b2⟩⟩;have e0:=keep0.out W2 b2)|(go_at_call 58;(with_reducible refine(CL.out false false _ _ _ _ _ hv2 b2 PX.out).mono ?_);rintro e W3 ⟨⟨ra,rm,rc,rfl,ht3,x0,x1,y0,y1,hv3,b3⟩⟩))
   all_goals
    have HV3:=Hi hv3
    have B3:=Hi b3
    clear hv2 b2 e0 hv3 b3
    go_wp2
    refine bodyPost_ret (v:= .agg #[.bool false,.slice ra rm rc]) ?_ rfl (FIN.out _ _ _ _ ht3 HV3.out ?_)
    ·simp only[results,Tryz.results101]
     go_simp
    ·iterate 2 refine Below.setCell ?_ (by simp only;omega) _
     exact HB.out.trans (B3.out.mono HB.out.size)
theorem Tryz.rsum (va vb:Value) (x y la lb:Nat) (ng:Bool) (w:World) (ha:Hid (BtV w va x la)) (hb:Hid (BtV w vb y lb)) (ta:T2 x la) (tb:T2 y lb) (hla:la≤1000000000) (hlb:lb≤1000000000) (hng:ng=decide (0<y)):
 Calls Tryz.prog 101 #[.agg #[.bool false,va],.agg #[.bool ng,vb]] w (SumSays x y w):=by
 by_cases hy:0<y
 ·rw[hng,decide_eq_true hy]
  exact Tryz.rsumPos va vb x y la lb w ha hb ta tb hla hlb
 ·obtain rfl:y=0:=by omega
  rw[hng,decide_eq_false hy]
  exact Tryz.rsumZero va vb x la lb w ha hb ta tb hla hlb
end Go.Proofs
end
section
namespace Go.Proofs
open Go.RowKit Go.Pf Go.Rb
theorem Below.al {w W:World}(h:Below w.heap.size w W) (o:Obj):Below w.heap.size w (W.alloc o):=h.alloc h.size o
theorem Below.hp {B:Nat} {w W W':World}(h:Below B w W) (p:Hp W W'):Below B w W':=⟨p.os.trans h.os,p.tape.trans h.tape,p.output.trans h.output,by rw[p.heap];exact h.size,fun b hb=>by rw[p.heap];exact h.block b hb⟩
theorem Tryz.rsmall (v:Nat) (w:World) (hv:v<4611686018427387904):Calls Tryz.prog 25 #[.int .i64 v] w (BigSays false v w):=by
 obtain⟨i0,hi,hz0,hz1,hz2⟩:=info_parts Tryz.infoInt
 have n0:decide ((v:Int)<0)=false:=dFo
 have v62:v<2^62:=by
  have:(2:Nat)^62=4611686018427387904:=by decide
  omega
 have HV62:=Hi v62
 clear v62
 go_enter Tryz.func25,Tryz.ntmps25
 go_wp2
 generalize hW1:w.alloc _=W1
 have tok:Tok W1 w.heap.size:=by subst hW1;exact Tok.new1 w
 have bl:Below w.heap.size w W1:=by subst hW1;exact(Below.refl _ _).alloc (nR _) _
 have hlt0:w.heap.size<W1.heap.size:=by subst hW1;simp
 have HW:=Hi hW1
 clear hW1
 go_loopw [0,4] (fun nv bv wr=>∃(k x:Nat),k≤62∧x=v/2^k∧nv= .int .i64 x∧OB W1.heap.size W1 v k bv wr) (fun nv _ _=>(intOf nv).toNat)
 case atStart=>exact⟨0,v,by omega,by simp,rfl,⟨World.ownsRow_nil _ _ _ _,Below.refl _ _,nR _⟩⟩
 case round=>
  obtain⟨k,x,hk,hx,rfl,hob⟩:=hrel
  obtain⟨oa,oc,ho⟩:=own_slice3 hob.own
  subst ho
  have xv:x≤v:=by rw[hx];exact Nat.div_le_self _ _
  have hown:=hob.own
  have hsz:=hob.le
  by_cases h0:x=0
  ·have x0:((x:Int) !=0)=false:=by rw[h0];rfl
   have x1:((x:Int)==0)=true:=by rw[h0];rfl
   have hfin:v<2^k:=by
    rw[h0]at hx
    exact(Nat.div_eq_zero_iff_lt (Nat.two_pow_pos k)).1 hx.symm
   have tk:=tok.below hob.bel
   have CL:=Hi (Tryz.rlaidAt false false (.slice oa k oc) v k w.heap.size W1 wr (Hi (BtV.of_own hown hfin)) tk hob.bel rfl)
   clear hown hob hx hfin h0 tk
   go_wp2_with (go_at_call 58;(with_reducible refine CL.out.mono ?_))
   rintro e W3 ⟨⟨ra,rm,rc,rfl,ht3,y0,y1,z0,z1,hv3,b3⟩⟩
   have HV3:=Hi hv3
   have B3:=Hi b3
   clear hv3 b3
   go_wp2
   refine bodyPost_ret (v:= .agg #[.bool false,.slice ra rm rc]) ?_ rfl ⟨_,rm,by simp,ht3,HV3.out,?_⟩
   ·simp only[results,Tryz.results25]
    go_simp
   ·iterate 2 refine Below.setCell ?_ (by simp) _
    exact bl.trans (B3.out.mono (by omega))
  ·have x1:((x:Int)==0)=false:=eqf (n:=0) h0
   have x0:((x:Int) !=0)=true:=by rw[bne,x1];rfl
   obtain⟨t1,ht1⟩:∃t1,t1=x %2:=⟨_,rfl⟩
   obtain⟨x2,hx2⟩:∃x2,x2=x/2:=⟨_,rfl⟩
   have e1:(x:Int) %2=(t1:Int):=by omega
   have e2:(x:Int)/2=(x2:Int):=by omega
   have hk2:k<62:=by
    apply Classical.byContradiction
    intro h
    have:k=62:=by omega
    subst this
    rw[Nat.div_eq_of_lt HV62.out]at hx
    exact h0 hx
   have HB1:Hid (bit2 v k=t1):=Hi (by unfold bit2;rw[←hx,ht1])
   have HX2:Hid (x2=v/2^(k+1)):=Hi (by rw[hx2,hx,Nat.pow_succ,Nat.div_div_eq_div_mul])
   have HOB:=Hi hob
   have HLT:=Hi (show x2<x by omega)
   have d0:decide ((t1:Int)<0)=false:=dFo
   clear hob hx h0 ht1 hx2
   go_wp2_with (at_builtin;refine wpList_append_own _ rfl _ _ 63 rfl W1.heap.size 3 i0 (.int .i64 0) 1 8 Tryz.underlying63 hi hz0 hz1 hz2 rfl (by decide) _ _ _ rfl (hown.alloc _) ⟨wr.heap.size,0,none⟩ 1 1 [.int .i64 (t1:Nat)] rfl rfl ?c1 ?c2 ?c3 ?c4 ?c5 ?_)
   case c1=>
    intro j u hj
    match j,hj with
    |0,hj=>simp at hj;subst hj;simp[Addr.add]
   case c2=>intro u hu;simp at hu;subst hu;rfl
   case c3=>unfold maxLen;omega
   case c4=>omega
   case c5=>simp;omega
   intro v' w2 hown' hgrow _
   have HN:=Hi (HOB.out.next HB1.out hown' hgrow)
   clear hown' hgrow
   go_wp2
   go_roundw
   case rel=>exact⟨k+1,x2,by omega,HX2.out,by go_num,HN.out⟩
   case measure=>have:=HLT.out;simp[intOf];omega
theorem Tryz.rsign (neg:Bool) (v:Value) (x m:Nat) (w:World) (hv:Hid (BtV w v x m)) (ht:T2 x m):
 Calls Tryz.prog 103 #[.agg #[.bool neg,v]] w fun e w'=>e= .returned (.int .i64 (if x=0 then 0 else if neg then-1 else 1))∧Below w.heap.size w w':=by
 obtain⟨a,c,rfl⟩:=hv.out.slice
 have hz:=ht.zero_iff
 have HB:Hid (∀o,Below w.heap.size w (w.alloc o)):=Hi (fun o=>(Below.refl _ _).alloc (nR _) o)
 by_cases h0:x=0
 ·have m0:((m:Int)==0)=true:=by rw[hz.2 h0];rfl
  rw[if_pos h0]
  clear hz ht h0
  go_enter Tryz.func103,Tryz.ntmps103
  go_wp2
  go_ret
  exact⟨rfl,HB.out _⟩
 ·have m0:((m:Int)==0)=false:=eqf (n:=0) (fun h=>h0 (hz.1 h))
  rw[if_neg h0]
  clear hz ht h0
  cases neg
  all_goals
   go_enter Tryz.func103,Tryz.ntmps103
   go_wp2
   go_ret
   exact⟨rfl,HB.out _⟩
theorem Tryz.rcmp (va vb:Value) (x y la lb:Nat) (w:World) (ha:Hid (BtV w va x la)) (hb:Hid (BtV w vb y lb)) (ta:T2 x la) (tb:T2 y lb) (hla:la≤1000000000) (hlb:lb≤1000000000):
 Calls Tryz.prog 55 #[.agg #[.bool false,va],.agg #[.bool false,vb]] w fun e w'=>e= .returned (.int .i64 (if x<y then-1 else if x=y then 0 else 1))∧Below w.heap.size w w':=by
 obtain⟨R,hR⟩:∃R:Int,R=if x<y then-1 else if x=y then 0 else 1:=⟨_,rfl⟩
 rw[←hR]
 have HR:=Hi hR
 clear hR
 have TA:=Hi ta
 have TB:=Hi tb
 clear ta tb
 go_enter Tryz.func55,Tryz.ntmps55
 go_wp2_with fail
 generalize hW:(w.alloc _).alloc _=W1
 have bl:Below w.heap.size w W1:=by subst hW;exact((Below.refl _ _).alloc (nR _) _).alloc (by simp) _
 have c0:W1.cell? ⟨w.heap.size,0,none⟩=some (.bool false):=by subst hW;go_simp
 have c1:W1.cell? ⟨w.heap.size,1,none⟩=some va:=by subst hW;go_simp
 have d0:W1.cell? ⟨w.heap.size+1,0,none⟩=some (.bool false):=by subst hW;go_simp
 have d1:W1.cell? ⟨w.heap.size+1,1,none⟩=some vb:=by subst hW;go_simp
 have sz:W1.heap.size=w.heap.size+2:=by subst hW;simp
 have SZ:=Hi sz
 have HA1:=Hi (ha.out.below bl)
 have HB1:=Hi (hb.out.below bl)
 have BL:=Hi bl
 have ac:∀(a:Addr) (u:Value),a.block<W1.heap.size→W1.cell? a=some u→(W1.alloc (.cells #[.bool false,.slice none 0 0] 65)).cell? a=some u:=fun a u h1 h2=>(((Below.refl W1.heap.size W1).alloc (nR _) _).cell h1).trans h2
 have c0':=ac _ _ (by rw[sz];simp only;omega) c0
 have c1':=ac _ _ (by rw[sz];simp only;omega) c1
 have d0':=ac _ _ (by rw[sz];simp only;omega) d0
 have d1':=ac _ _ (by rw[sz];simp only;omega) d1
 clear ac
 clear hW sz bl ha hb
 have KP:Hid (∀W W2:World,Below W.heap.size W W2→∀b,Tok W b→Tok W2 b):=Hi (fun W W2 h b t=>t.below h)
 have CM:Hid (∀W,Below W1.heap.size W1 W→Calls Tryz.prog 102 #[.agg #[.bool false,vb]] W fun e W2=>∃a m c,e= .returned (.agg #[.bool (decide (0<y)),.slice a m c])∧T2 y m∧BtV W2 (.slice a m c) y m∧Below W1.heap.size W1 W2∧W2.cell? ⟨w.heap.size,0,none⟩=some (.bool false)∧W2.cell? ⟨w.heap.size,1,none⟩=some va∧(W2.alloc (.cells #[.bool false,.slice none 0 0] 65)).cell? ⟨w.heap.size,0,none⟩=some (.bool false)∧(W2.alloc (.cells #[.bool false,.slice none 0 0] 65)).cell? ⟨w.heap.size,1,none⟩=some va∧Below W.heap.size W W2):=Hi (fun W h=>by
  refine(Tryz.rminus false vb y lb W (Hi (HB1.out.below h))).mono ?_
  rintro e W2 ⟨sl,m,rfl,ht,hv,b2⟩
  obtain⟨a,c,rfl⟩:=hv.slice
  have b3:=h.trans (b2.mono h.size)
  refine⟨a,m,c,by simp,ht,hv,b3,(b3.cell (p:=⟨w.heap.size,0,none⟩) (by have:=SZ.out;show w.heap.size<W1.heap.size;omega)).trans c0,(b3.cell (p:=⟨w.heap.size,1,none⟩) (by have:=SZ.out;show w.heap.size<W1.heap.size;omega)).trans c1,((Below.al b3 _).cell (p:=⟨w.heap.size,0,none⟩) (by have:=SZ.out;show w.heap.size<W1.heap.size;omega)).trans c0,((Below.al b3 _).cell (p:=⟨w.heap.size,1,none⟩) (by have:=SZ.out;show w.heap.size<W1.heap.size;omega)).trans c1,b2⟩)
 obtain⟨z,hz⟩:∃z,z=if x<y then y-x else x-y:=⟨_,rfl⟩
 have HZ:=Hi hz
 have CS:Hid (∀W2 W a m c,BtV W2 (.slice a m c) y m→T2 y m→Below W1.heap.size W1 W2→Below W2.heap.size W2 W→Calls Tryz.prog 101 #[.agg #[.bool false,va],.agg #[.bool (decide (0<y)),.slice a m c]] W fun e W3=>∃a m c,e= .returned (.agg #[.bool (decide (x<y)),.slice a m c])∧T2 z m∧BtV W3 (.slice a m c) z m∧Below W.heap.size W W3):=Hi (fun W2 W a m c h1 h2 h3 h4=>by
  have hm:m≤1000000000:=by have:=h2.inj TB.out;omega
  have h5:=h3.trans (h4.mono h3.size)
  refine(Tryz.rsum va (.slice a m c) x y la m _ W (Hi (HA1.out.below h5)) (Hi (h1.below h4)) TA.out h2 hla hm rfl).mono ?_
  rintro e W3 ⟨sl,m2,rfl,ht,hv,b2⟩
  rw[←HZ.out]at ht hv
  obtain⟨a2,c2,rfl⟩:=hv.slice
  exact⟨a2,m2,c2,rfl,ht,hv,b2⟩)
 have FT:Hid (∀(a:Option Addr) (m c:Nat) (W:World),T2 z m→BtV W (.slice a m c) z m→Below w.heap.size w W→Calls Tryz.prog 103 #[.agg #[.bool (decide (x<y)),.slice a m c]] W fun e w'=>e= .returned (.int .i64 R)∧Below w.heap.size w w'):=Hi (fun a m c W h1 h2 h3=>by
  refine(Tryz.rsign (decide (x<y)) _ z m W (Hi h2) h1).mono ?_
  rintro e w' ⟨rfl,hb⟩
  refine⟨?_,h3.trans (hb.mono h3.size)⟩
  have e1:=HZ.out
  rw[HR.out]
  by_cases hlt:x<y
  ·rw[if_pos hlt]at e1
   rw[if_neg (by omega),decide_eq_true hlt,if_pos rfl,if_pos hlt]
  ·rw[if_neg hlt]at e1
   rw[if_neg hlt,decide_eq_false hlt]
   by_cases he:x=y
   ·rw[if_pos he,if_pos (by omega)]
   ·rw[if_neg he,if_neg (by omega),if_neg (by simp)])
 clear hz
 go_region_with (first|(go_at_call 102;(with_reducible refine(CM.out _ ?_).mono ?_);(focus (repeat (first|exact Below.refl _ _|assumption|(with_reducible refine Below.al ?_ _)|(with_reducible refine Below.hp ?_ (hp_drewN _ _))|(with_reducible refine Below.hp ?_ (hp_drew _)))));rintro e W2 ⟨ma,mm,mc,rfl,mt,mv,mb,k0,k1,k2,k3,mw⟩;(try ((first|(with_reducible have tk:=KP.out (World.alloc _ _) _ mw _ (Tok.new1 _))|(with_reducible have tk:=KP.out (World.drew (World.alloc _ _)) _ mw _ ((Tok.new1 _).heap (hp_drew _).heap))|(with_reducible have tk:=KP.out (World.drewN (World.alloc _ _) _) _ mw _ ((Tok.new1 _).heap (hp_drewN _ _).heap)));have tk0:=tk.c0;have tk1:=tk.c1;have tf0:=tk.f 0;have tf1:=tk.f 1;(try simp at tk0);(try simp at tk1);(try simp at tf0);(try simp at tf1))))|(go_at_call 101;(with_reducible refine(CS.out _ _ _ _ _ mv mt mb ?_).mono ?_);(focus (repeat (first|exact Below.refl _ _|assumption|(with_reducible refine Below.al ?_ _)|(with_reducible refine Below.hp ?_ (hp_drewN _ _))|(with_reducible refine Below.hp ?_ (hp_drew _)))));rintro e W3 ⟨sa,sm,sc,rfl,st,sv,sb⟩;(first|((with_reducible have tk:=KP.out _ _ sb _ tk);have tk0:=tk.c0;have tk1:=tk.c1;have tf0:=tk.f 0;have tf1:=tk.f 1;(try simp at tk0);(try simp at tk1);(try simp at tf0);(try simp at tf1))|((with_reducible have tk:=KP.out (World.alloc _ _) _ sb _ (Tok.new1 _));have tk0:=tk.c0;have tk1:=tk.c1;have tf0:=tk.f 0;have tf1:=tk.f 1;(try simp at tk0);(try simp at tk1);(try simp at tf0);(try simp at tf1))|skip)))
 all_goals
  have s2:Below W2.heap.size W2 W3:=by
   first
   |exact sb
   |exact(Below.al (Below.refl _ _) _).trans (sb.mono (by simp))
  have s1:w.heap.size≤W1.heap.size:=BL.out.size
  have q2:w.heap.size≤W2.heap.size:=Nat.le_trans s1 mb.size
  have H3:Hid (Below w.heap.size w W3):=Hi (BL.out.trans ((mb.trans (s2.mono mb.size)).mono BL.out.size))
  clear CM CS KP
  go_wp2_with (go_at_call 103;(with_reducible refine(FT.out _ _ _ _ st ?_ ?_).mono ?_);(focus (first|exact sv.tok tk _ _|exact sv.below ((Below.refl _ _).alloc (nR _) _)));(focus (first|exact H3.out.alloc H3.out.size _|exact(H3.out.setCell (by simp only;omega) _).setCell (by simp only;omega) _));rintro e w' ⟨rfl,bf⟩)
  have BF:=Hi bf
  clear bf
  go_ret
  exact⟨rfl,BF.out⟩
end Go.Proofs
end
section
namespace Go.Proofs
open Go.RowKit Go.Pf Go.Rb
theorem step_call {P:Program} {ops:Array Oper} {o:Oper} {a:Act} {w:World} {K:Act→World→Prop} {Q:Exit→Act→World→Prop} {E:Prop}(hgd:o.guard=none) (f:FuncId) (ags:List Operand) (ts:Array TypeId)
 (ho:o.op= .call {callee:= .value (.func f),args:=ags.toArray,argTypes:=ts}) (vs:Array Value) (hv:(ags.map a.eval).toArray=vs) (hcf:∀(vs:Array Value) (w:World),(callFunc f vs).run P w= .ok (.enter f vs) w)
 (h:Calls P f vs w fun e w'=>∃v,e= .returned v∧K (a.put o.dst v) w'):if Region.wanted o (yielded ops a.tmps)=true then Oper.wp P o a w K Q else E:=by
 have hw:Region.wanted o (yielded ops a.tmps)=true:=by simp[Region.wanted,hgd]
 rw[if_pos hw]
 unfold Oper.wp
 have hr:(execOp a.eval o).run P w= .ok (.enter f vs) w:=by
  simp[execOp,ho,resolve,invoke,←hv,Act.eval,Deferred.ofValue,hcf,List.map_toArray]
 rw[hr,Oper.upon_enter]
 refine h.mono ?_
 rintro e w' ⟨v,rfl,hk⟩
 exact hk
theorem step_append_bits {ops:Array Oper} {o:Oper} {a:Act} {w:World} {K:Act→World→Prop} {Q:Exit→Act→World→Prop} {E:Prop}(hgd:o.guard=none) (s x:Operand)
 (ho:o.op= .call {callee:= .builtin .append,args:= #[s,x],argTypes:= #[63,63]}) (base:Nat) (v1:Value) (n:Nat) (xs:List Value) (hs:a.eval s=v1) (hown:w.ownsRow base 3 1 v1 n xs)
 (v2:Value) (z m:Nat) (hx:a.eval x=v2) (hv:BtV w v2 z m) (hnm:n+m≤4000000000) (hbase:base≤w.heap.size)
 (h:∀sa sc w',w'.ownsRow base 3 1 (.slice sa (n+m) sc) (n+m) (xs++bitCells z m)→w.grownBy w' v1.ownBlock→K (a.put o.dst (.slice sa (n+m) sc)) w'):
 if Region.wanted o (yielded ops a.tmps)=true then Oper.wp Tryz.prog o a w K Q else E:=by
 have hw:Region.wanted o (yielded ops a.tmps)=true:=by simp[Region.wanted,hgd]
 rw[if_pos hw]
 obtain⟨i0,hi,hz0,hz1,hz2⟩:=info_parts Tryz.infoInt
 rcases hv with⟨rfl,rfl,rfl⟩|⟨b,off,c,rfl,hc,hmax,hb,hbt⟩
 ·have hrun:=run_append_owned_none (P:=Tryz.prog) w base 63 o.type 3 i0 1 Tryz.underlying63 hi _ n xs hown
  obtain⟨oa,oc,rfl⟩:=own_slice3 hown
  have hk:=h oa oc w (by simpa[bitCells]using hown) (World.grownBy.refl _ _)
  unfold Oper.wp execOp
  simp only[ho,resolve,invoke,builtin,Sem.run_bind,Sem.run_pure,Result.andThen_ok,List.map_toArray,List.map_cons,List.map_nil,hs,hx,hrun]
  exact hk
 ·obtain⟨v',w',hrun,h2,h3,_⟩:=run_append_own (P:=Tryz.prog) w base 63 o.type 3 i0 (.int .i64 0) 1 8 Tryz.underlying63 hi hz0 hz1 hz2 rfl (by decide) v1 n xs hown ⟨b,off,none⟩ m c (bitCells z m) (by rw[bitCells_length,Nat.mul_one])
   (by
    intro j u hu
    have hj:j<m:=by
     have:=(List.getElem?_eq_some_iff.1 hu).1
     rwa [bitCells_length]at this
    rw[bitCells_get z m j hj]at hu
    have e:(⟨b,off,none⟩:Addr).add j=⟨b,off+j,none⟩:=by unfold Addr.add;split<;>simp_all
    rw[e,hbt.2 j hj,hu])
   (by
    intro u hu
    obtain⟨j,-,rfl⟩:=List.mem_map.1 hu
    rfl)
   (by unfold maxLen;omega) (by omega) hbase
  obtain⟨oa,oc,rfl⟩:=own_slice3 h2
  have hk:=h oa oc w' h2 h3
  unfold Oper.wp execOp
  simp only[ho,resolve,invoke,builtin,Sem.run_bind,Sem.run_pure,Result.andThen_ok,List.map_toArray,List.map_cons,List.map_nil,hs,hx,hrun]
  exact hk
theorem bit2_shift (x n j:Nat):bit2 (x*2^n) j=if j<n then 0 else bit2 x (j-n):=by
 unfold bit2
 by_cases h:j<n
 ·rw[if_pos h]
  have e:x*2^n=x*2^(n-j-1)*2*2^j:=by
   rw[Nat.mul_assoc,Nat.mul_assoc]
   congr 1
   rw[←Nat.mul_assoc,←Nat.pow_succ,←Nat.pow_add]
   congr 1
   omega
  rw[e,Nat.mul_div_cancel _ (Nat.two_pow_pos j),Nat.mul_mod_left]
 ·rw[if_neg h]
  have e:2^j=2^n*2^(j-n):=by rw[←Nat.pow_add];congr 1;omega
  rw[e,←Nat.div_div_eq_div_mul,Nat.mul_div_cancel _ (Nat.two_pow_pos n)]
theorem bitCells_shift (x n m:Nat):List.replicate n (Value.int .i64 0)++bitCells x m=bitCells (x*2^n) (n+m):=by
 apply List.ext_getElem?
 intro j
 by_cases h:j<n+m
 ·rw[bitCells_get _ _ j h,bit2_shift]
  by_cases hj:j<n
  ·rw[if_pos hj,List.getElem?_append_left (by simpa using hj),List.getElem?_replicate,if_pos hj]
   rfl
  ·rw[if_neg hj,List.getElem?_append_right (by simp;omega),List.length_replicate,bitCells_get _ _ _ (by omega)]
 ·rw[List.getElem?_eq_none (by simp[bitCells_length];omega),List.getElem?_eq_none (by rw[bitCells_length];omega)]
theorem Tryz.enter58 (vs:Array Value) (w:World):(callFunc 58 vs).run Tryz.prog w= .ok (.enter 58 vs) w:=by kernel_rfl
end Go.Proofs
end
section
namespace Go.Proofs
open Go.RowKit Go.Pf Go.Rb
def zrow (n:Nat):Obj:= .cells (madeCells #[.int .i64 0] (n*1)) 3
theorem Tryz.make105 (n:Nat) (h:n≤4000000000) (w:World):(Instr.makeSlice 63 (.int .i64 (n:Int)) (.int .i64 (n:Int))).run Tryz.prog w= .ok (.slice (some ⟨w.heap.size,0,none⟩) n n) (w.alloc (zrow n)):=by
 obtain⟨i0,hi,hz0,hz1,hz2⟩:=info_parts Tryz.infoInt
 have hr:=run_make (P:=Tryz.prog) w 63 3 i0 (.int .i64 0) Tryz.underlying63 hi hz0 .i64 .i64 n n (by omega) (Int.le_refl _) (by rw[hz2];omega) (by omega)
 simp only[Int.toNat_natCast,hz1]at hr
 exact hr
theorem Tryz.rshift (v:Value) (x m n:Nat) (w:World) (hv:Hid (BtV w v x m)) (hm:m≤1000000000) (hn:n≤1000000000):
 Calls Tryz.prog 98 #[.agg #[.bool false,v],.int .i64 n] w (BigSays false (x*2^n) w):=by
 obtain⟨y,hy⟩:∃y,y=x*2^n:=⟨_,rfl⟩
 rw[←hy]
 have n0:decide ((n:Int)≥0)=true:=dTo
 have n1:decide ((0:Int)≤n)=true:=dTo
 go_enter Tryz.func98,Tryz.ntmps98
 go_wp2_with fail
 generalize hW:(w.alloc _).alloc _=W1
 have bl:Below w.heap.size w W1:=by subst hW;exact((Below.refl _ _).alloc (nR _) _).alloc (by simp) _
 have c0:W1.cell? ⟨w.heap.size,0,none⟩=some (.bool false):=by subst hW;go_simp
 have c1:W1.cell? ⟨w.heap.size,1,none⟩=some v:=by subst hW;go_simp
 have tk:Tok W1 (w.heap.size+1):=by subst hW;exact Tok.new2 w _
 have sz:W1.heap.size=w.heap.size+2:=by subst hW;simp
 have SZ:=Hi sz
 have c0':(W1.alloc (zrow n)).cell? ⟨w.heap.size,0,none⟩=some (.bool false):=(((Below.refl W1.heap.size W1).alloc (nR _) _).cell (by rw[sz];simp only;omega)).trans c0
 have c1':(W1.alloc (zrow n)).cell? ⟨w.heap.size,1,none⟩=some v:=(((Below.refl W1.heap.size W1).alloc (nR _) _).cell (by rw[sz];simp only;omega)).trans c1
 have HV1:=Hi (hv.out.below bl)
 have BL:=Hi bl
 have TK:=Hi tk
 clear hW sz bl hv tk
 have MK:=Tryz.make105 n (by omega)
 have OWN:Hid (∀W:World,W.heap=(W1.alloc (zrow n)).heap→W.ownsRow W1.heap.size 3 1 (.slice (some ⟨W1.heap.size,0,none⟩) n n) n (List.replicate n (.int .i64 0))):=Hi (fun W h=>by
  have h1:=World.ownsRow_lit (base:=W1.heap.size) (e:=3) (size:=1) W1 (madeCells #[.int .i64 0] (n*1)) n (nR _) (by unfold maxLen;omega) (by simp[madeCells])
  have e:(madeCells #[.int .i64 0] (n*1)).toList=List.replicate n (.int .i64 0):=by rw[Nat.mul_one,toList_madeCells_one]
  rw[e]at h1
  obtain⟨h2,h3⟩:=h1
  refine⟨h2,?_⟩
  rw[h]
  unfold zrow
  exact h3)
 have BV:Hid (∀W:World,W.heap=(W1.alloc (zrow n)).heap→BtV W v x m):=Hi (fun W h=>(HV1.out.below ((Below.refl _ _).alloc (nR _) _)).heap h)
 have HS:Hid (∀W:World,W.heap=(W1.alloc (zrow n)).heap→W1.heap.size≤W.heap.size):=Hi (fun W h=>by rw[h];simp)
 have KEEP:Hid (∀(W w':World) sa sc,Hp (W1.alloc (zrow n)) W→w'.ownsRow W1.heap.size 3 1 (.slice sa (n+m) sc) (n+m) (List.replicate n (.int .i64 0)++bitCells x m)→W.grownBy w' (some W1.heap.size)→BtV w' (.slice sa (n+m) sc) y (n+m)∧Below W1.heap.size W1 w'∧w'.cell? ⟨w.heap.size,0,none⟩=some (.bool false)∧w'.cell? ⟨w.heap.size,1,none⟩=some v):=Hi (fun W w' sa sc hp ho hg=>by
  rw[bitCells_shift]at ho
  have hlt:y<2^(n+m):=by rw[hy,Nat.pow_add,Nat.mul_comm];exact Nat.mul_lt_mul_of_pos_left HV1.out.lt (Nat.two_pow_pos n)
  have b1:Below W1.heap.size W1 w':=(Below.hp (Below.al (Below.refl _ _) _) hp).grown hg (by rw[hp.heap];simp) (fun b hb=>by cases hb;exact nR _)
  rw[←hy]at ho
  exact⟨BtV.of_own ho hlt,b1,(b1.cell (by have:=SZ.out;show w.heap.size<W1.heap.size;omega)).trans c0,(b1.cell (by have:=SZ.out;show w.heap.size<W1.heap.size;omega)).trans c1⟩)
 have CL:Hid (∀W a c,BtV W (.slice a (n+m) c) y (n+m)→Below W1.heap.size W1 W→Calls Tryz.prog 58 #[.bool false,.slice a (n+m) c] W (LaidSays false y (w.heap.size+1) W1)):=Hi (fun W a c h1 h2=>Tryz.rlaidAt false false _ y _ _ W1 W (Hi h1) (TK.out.below h2) h2 rfl)
 have HNM:Hid (n+m≤4000000000):=Hi (by omega)
 clear hy
 have HP:Hid (∀W:World,W.heap=(W1.alloc (zrow n)).heap→W.os=W1.os→W.tape=W1.tape→W.output=W1.output→Hp (W1.alloc (zrow n)) W):=Hi (fun W h1 h2 h3 h4=>⟨h1,h2,h3,h4⟩)
 go_region_law (first
  | (refine step_append_bits (by rfl) _ _ (by rfl) W1.heap.size _ n _ (by rfl) (OWN.out _ (by rfl)) v x m (by rfl) (BV.out _ (by rfl)) HNM.out (HS.out _ (by rfl)) ?_;intro sa sc w' ho hg;obtain⟨bv,bw,k0,k1⟩:=KEEP.out _ w' sa sc (HP.out _ (by rfl) (by rfl) (by rfl) (by rfl)) ho hg;clear ho hg)
  | (refine step_call (by rfl) 58 _ _ (by rfl) _ (by rfl) Tryz.enter58 ((CL.out _ _ _ bv bw).mono ?_);rintro e W3 ⟨⟨ra,rm,rc,rfl,ht3,y0,y1,z0,z1,hv3,b3⟩⟩;refine⟨_,rfl,?_⟩))
 all_goals
  have HV3:=Hi hv3
  have B3:=Hi b3
  clear hv3 b3 KEEP CL OWN BV HS HP bv bw
  go_wp2
  refine bodyPost_ret (v:= .agg #[.bool false,.slice ra rm rc]) ?_ rfl ⟨_,rm,by simp,ht3,HV3.out,?_⟩
  ·simp only[results,Tryz.results98]
   go_simp
  ·iterate 2 refine Below.setCell ?_ (by simp only;omega) _
   exact BL.out.trans (B3.out.mono BL.out.size)
end Go.Proofs
end
section
namespace Go.Proofs
open Go.RowKit Go.Pf Go.Rb
def sv:List Nat→Nat
 | []=>0
 |a::l=>a+2*sv l
theorem sv_zero (n:Nat):sv (List.replicate n 0)=0:=by
 induction n with
 |zero=>rfl
 |succ n ih=>rw[List.replicate_succ];simp[sv,ih]
theorem sv_set (l:List Nat) (j d:Nat) (h:j<l.length):sv (l.set j (l.getD j 0+d))=sv l+2^j*d:=by
 induction l generalizing j with
 |nil=>simp at h
 |cons a l ih=>
  cases j with
  |zero=>simp[sv];omega
  |succ j=>
   have hj:j<l.length:=by simpa using h
   have:=ih j hj
   simp only[List.set_cons_succ,List.getD_cons_succ,sv,this,Nat.pow_succ]
   rw[Nat.mul_add,←Nat.mul_assoc,Nat.mul_comm 2 (2^j)]
   omega
theorem sv_drop (l:List Nat) (i:Nat) (h:i<l.length):sv (l.drop i)=l.getD i 0+2*sv (l.drop (i+1)):=by
 rw[List.drop_eq_getElem_cons h]
 simp[sv,h]
def nCells (S:List Nat):List Value:=S.map fun n=>Value.int .i64 (n:Nat)
theorem nCells_get (S:List Nat) (j:Nat) (h:j<S.length):(nCells S)[j]? =some (.int .i64 (S.getD j 0:Nat)):=by simp[nCells,h]
theorem nCells_set (S:List Nat) (j n:Nat):(nCells S).set j (.int .i64 (n:Nat))=nCells (S.set j n):=by simp[nCells,List.map_set]
theorem nCells_zero (n:Nat):List.replicate n (Value.int .i64 0)=nCells (List.replicate n 0):=by simp[nCells]
structure TS (W1:World) (b L:Nat) (S:List Nat) (wr:World):Prop where
 own:wr.ownsRow b 3 1 (.slice (some ⟨b,0,none⟩) L L) L (nCells S)
 bel:Below b W1 wr
 len:S.length=L
theorem TS.cell {W1:World} {b L:Nat} {S:List Nat} {wr:World}(h:TS W1 b L S wr) (j:Nat) (hj:j<L):wr.cell? ⟨b,j,none⟩=some (.int .i64 (S.getD j 0:Nat)):=by
 rw[World.ownsRow.cellAt h.own j (by omega),nCells_get S j (by rw[h.len];exact hj)]
theorem TS.frozen {W1:World} {b L:Nat} {S:List Nat} {wr:World}(h:TS W1 b L S wr) (j:Nat):wr.frozen? ⟨b,j,none⟩=false:=World.ownsRow.frozenAt h.own j
theorem TS.set {W1:World} {b L:Nat} {S:List Nat} {wr:World}(h:TS W1 b L S wr) (j n:Nat):TS W1 b L (S.set j n) (wr.setCell ⟨b,j,none⟩ (.int .i64 (n:Nat))):=by
 refine⟨?_,h.bel.setCell (nR _) _,by rw[List.length_set];exact h.len⟩
 rw[←nCells_set]
 exact(World.ownsRow.stored h.own j _).1
theorem TS.heap {W1:World} {b L:Nat} {S:List Nat} {wr w':World}(h:TS W1 b L S wr) (p:Hp wr w'):TS W1 b L S w':=by
 refine⟨⟨h.own.1,?_⟩,Below.hp h.bel p,h.len⟩
 rw[p.heap]
 exact h.own.2
def AllLe (S:List Nat) (N:Nat):Prop:=∀j,S.getD j 0≤N
theorem AllLe.set {S:List Nat} {N:Nat}(h:AllLe S N) (j n:Nat) (hn:n≤N):AllLe (S.set j n) N:=by
 intro t
 have:=h t
 rw[List.getD_eq_getElem?_getD]at this⊢
 rw[List.getElem?_set]
 split
 ·split
  ·exact hn
  ·exact Nat.zero_le _
 ·exact this
theorem AllLe.mono {S:List Nat} {N M:Nat}(h:AllLe S N) (hm:N≤M):AllLe S M:=fun j=>Nat.le_trans (h j) hm
theorem AllLe.zero (n:Nat):AllLe (List.replicate n 0) 0:=by
 intro j
 rw[List.getD_eq_getElem?_getD,List.getElem?_replicate]
 split<;>simp
theorem getD_set_other (S:List Nat) (j t n:Nat) (h:t≠j):(S.set j n).getD t 0=S.getD t 0:=by
 rw[List.getD_eq_getElem?_getD,List.getD_eq_getElem?_getD,List.getElem?_set_ne (by omega)]
theorem getD_set_same (S:List Nat) (j n:Nat) (h:j<S.length):(S.set j n).getD j 0=n:=by
 rw[List.getD_eq_getElem?_getD,List.getElem?_set_self h];rfl
structure Car (S:List Nat) (p i c N:Nat):Prop where
 bits:∀j,j<i→S.getD j 0=bit2 p j
 rest:c+sv (S.drop i)=p/2^i
 le:c≤N
 all:∀j,i≤j→S.getD j 0≤N
theorem Car.start {S:List Nat} {p N:Nat}(h:sv S=p) (ha:AllLe S N):Car S p 0 0 N:=⟨fun j hj=>absurd hj (by omega),by simp[h],Nat.zero_le _,fun j _=>ha j⟩
theorem Car.next {S:List Nat} {p i c N t:Nat}(h:Car S p i c N) (hi:i<S.length) (ht:t=S.getD i 0+c):Car (S.set i (t %2)) p (i+1) (t/2) N∧t≤2*N:=by
 have h1:=h.rest
 rw[sv_drop S i hi]at h1
 have h2:=h.all i (nR _)
 have h3:=h.le
 refine⟨⟨?_,?_,by omega,?_⟩,by omega⟩
 ·intro j hj
  by_cases e:j=i
  ·subst e
   rw[getD_set_same S j _ hi,bit2,←h1]
   omega
  ·rw[getD_set_other S i j _ e]
   exact h.bits j (by omega)
 ·rw[List.drop_set_of_lt (by omega),Nat.pow_succ,←Nat.div_div_eq_div_mul,←h1]
  omega
 ·intro j hj
  rw[getD_set_other S i j _ (by omega)]
  exact h.all j (by omega)
theorem Car.last {S:List Nat} {p c N:Nat}(h:Car S p S.length c N):nCells S=bitCells p S.length:=by
 apply List.ext_getElem?
 intro j
 by_cases hj:j<S.length
 ·rw[nCells_get S j hj,bitCells_get _ _ _ hj,h.bits j hj]
 ·rw[List.getElem?_eq_none (by simp[nCells];omega),List.getElem?_eq_none (by rw[bitCells_length];omega)]
theorem mul_step (x y i:Nat):(x %2^(i+1))*y=(x %2^i)*y+2^i*(bit2 x i*y):=by
 rw[mod_step,Nat.add_mul,Nat.mul_assoc]
theorem T2.mul_lt {x y a b:Nat}(ha:x<2^a) (hb:y<2^b):x*y<2^(a+b+1):=by
 have h1:x*y<2^a*2^b:=by
  rcases Nat.eq_zero_or_pos y with rfl|h
  ·simp[Nat.two_pow_pos]
  ·exact Nat.lt_of_lt_of_le ((Nat.mul_lt_mul_right h).2 ha) (Nat.mul_le_mul_left _ (Nat.le_of_lt hb))
 rw[Nat.pow_succ,Nat.pow_add]
 omega
end Go.Proofs
end
section
namespace Go.Proofs
open Go.RowKit Go.Pf Go.Rb
theorem TS.start (W1:World) (L:Nat) (h:L≤4000000000):TS W1 W1.heap.size L (List.replicate L 0) (W1.alloc (zrow L)):=by
 have h1:=World.ownsRow_lit (base:=W1.heap.size) (e:=3) (size:=1) W1 (madeCells #[.int .i64 0] (L*1)) L (nR _) (by unfold maxLen;omega) (by simp[madeCells])
 have e:(madeCells #[.int .i64 0] (L*1)).toList=List.replicate L (.int .i64 0):=by rw[Nat.mul_one,toList_madeCells_one]
 rw[e,nCells_zero]at h1
 refine⟨h1,(Below.refl _ _).alloc (nR _) _,by simp⟩
theorem BtV.row {w:World} {a:Option Addr} {c x m:Nat}(h:BtV w (.slice a m c) x m){i:Nat}(hi:i<m):∃b o,a=some ⟨b,o,none⟩∧m≤c∧c≤9223372036854775807∧b<w.heap.size∧∀j,j<m→w.cell? ⟨b,o+j,none⟩=some (.int .i64 (bit2 x j:Nat)):=by
 rcases h with⟨h1,h2,h3⟩|⟨b,o,c',h1,h2,h3,h4,h5,h6⟩
 ·omega
 ·cases h1
  exact⟨b,o,rfl,h2,h3,h4,h6⟩
structure TMul (W1:World) (b L:Nat) (v N:Nat) (wr:World):Prop where
 ex:∃S,TS W1 b L S wr∧sv S=v∧AllLe S N
structure TCar (W1:World) (b L:Nat) (p i c N:Nat) (wr:World):Prop where
 ex:∃S,TS W1 b L S wr∧Car S p i c N
theorem Tryz.rtimes (va vb:Value) (x y la lb:Nat) (w:World) (ha:Hid (BtV w va x la)) (hb:Hid (BtV w vb y lb)) (hla:la≤1000000) (hlb:lb≤1000000):
 Calls Tryz.prog 99 #[.agg #[.bool false,va],.agg #[.bool false,vb]] w (BigSays false (x*y) w):=by
 obtain⟨aa,ac,rfl⟩:=ha.out.slice
 obtain⟨ba,bc,rfl⟩:=hb.out.slice
 obtain⟨L,hL⟩:∃L,L=la+lb+1:=⟨_,rfl⟩
 obtain⟨M,hM⟩:∃M,M=la+lb:=⟨_,rfl⟩
 obtain⟨p,hp⟩:∃p,p=x*y:=⟨_,rfl⟩
 rw[←hp]
 have eM:(la:Int)+(lb:Int)=(M:Int):=by omega
 have eL:(M:Int)+1=(L:Int):=by omega
 have bL:L≤3000000:=by omega
 have bM:M≤3000000:=by omega
 have HL:=Hi hL
 have HP:=Hi hp
 clear hL hM hp
 have MK:=Tryz.make105 L (by omega)
 go_enter Tryz.func99,Tryz.ntmps99
 go_wp2
 generalize hW:((w.alloc _).alloc _).alloc _=W1
 have bl:Below w.heap.size w W1:=by subst hW;exact(((Below.refl _ _).alloc (nR _) _).alloc (by simp) _).alloc (by simp;omega) _
 have c0:W1.cell? ⟨w.heap.size,0,none⟩=some (.bool false):=by subst hW;go_simp
 have c1:W1.cell? ⟨w.heap.size,1,none⟩=some (.slice aa la ac):=by subst hW;go_simp
 have d0:W1.cell? ⟨w.heap.size+1,0,none⟩=some (.bool false):=by subst hW;go_simp
 have d1:W1.cell? ⟨w.heap.size+1,1,none⟩=some (.slice ba lb bc):=by subst hW;go_simp
 have tk:Tok W1 (w.heap.size+1+1):=by subst hW;exact Tok.new3 w _ _
 have sz:W1.heap.size=w.heap.size+1+1+1:=by subst hW;simp
 have ts0:=TS.start W1 L (by omega)
 rw[sz]at ts0
 have HA1:=Hi (ha.out.below bl)
 have HB1:=Hi (hb.out.below bl)
 have BL:=Hi bl
 have TK:=Hi tk
 have SZ:=Hi sz
 have KC:Hid (∀wr:World,Below (w.heap.size+1+1+1) W1 wr→wr.cell? ⟨w.heap.size,0,none⟩=some (.bool false)∧wr.cell? ⟨w.heap.size,1,none⟩=some (.slice aa la ac)∧wr.cell? ⟨w.heap.size+1,0,none⟩=some (.bool false)∧wr.cell? ⟨w.heap.size+1,1,none⟩=some (.slice ba lb bc)):=Hi (fun wr h=>⟨(h.cell (by simp only;omega)).trans c0,(h.cell (by simp only;omega)).trans c1,(h.cell (by simp only;omega)).trans d0,(h.cell (by simp only;omega)).trans d1⟩)
 clear hW bl c0 c1 d0 d1 tk sz ha hb
 obtain⟨b,hbb⟩:∃b,b=w.heap.size+1+1+1:=⟨_,rfl⟩
 rw[←hbb]at ts0 SZ KC⊢
 have HBB:=Hi hbb
 clear hbb
 go_loopw [6,7] (fun iv kv wr=>∃i,i≤la∧iv= .int .i64 (i:Nat)∧TMul W1 b L ((x %2^i)*y) (i*lb) wr) (fun iv _ _=>la-(intOf iv).toNat)
 case atStart=>exact⟨0,Nat.zero_le _,rfl,⟨_,ts0,by rw[sv_zero,Nat.pow_zero,Nat.mod_one,Nat.zero_mul],by rw[Nat.zero_mul];exact AllLe.zero L⟩⟩
 case round=>
  obtain⟨i,hi,rfl,hm⟩:=hrel
  obtain⟨S,ts,hs,hle⟩:=hm.ex
  obtain⟨k0,k1,k2,k3⟩:=KC.out _ ts.bel
  by_cases hlt:i<la
  ·obtain⟨ab,ao,rfl,hac,hac2,hab,hcell⟩:=HA1.out.row hlt
   have ci:=(ts.bel.cell (p:=⟨ab,ao+i,none⟩) (by show ab<b;have:=SZ.out;omega)).trans (hcell i hlt)
   have b2:=bit2_lt x i
   have NX:Hid (∀wr:World,TMul W1 b L ((x %2^i)*y+2^i*(bit2 x i*y)) (i*lb+lb) wr→TMul W1 b L ((x %2^(i+1))*y) ((i+1)*lb) wr):=Hi (fun wr h=>by rw[mul_step,Nat.succ_mul];exact h)
   have HM:=Hi hm
   clear hm hcell
   rcases Nat.eq_zero_or_pos (bit2 x i)with h0|h0
   ·rw[h0]at ci NX
    clear hs hle ts b2 h0
    go_wp2
    go_roundw
    case rel=>
     refine⟨i+1,by omega,by go_num,NX.out _ ?_⟩
     obtain⟨S,ts,hs,hle⟩:=HM.out.ex
     exact⟨S,ts,by rw[hs,Nat.zero_mul,Nat.mul_zero,Nat.add_zero],hle.mono (by omega)⟩
    case measure=>simp[intOf];omega
   ·have h1:bit2 x i=1:=by omega
    rw[h1]at ci NX
    clear hs hle ts b2 h0 h1
    go_wp2
    go_loopw [7] (fun kv wr2=>∃k,k≤lb∧kv= .int .i64 (k:Nat)∧TMul W1 b L ((x %2^i)*y+2^i*(y %2^k)) (i*lb+k) wr2) (fun kv _=>lb-(intOf kv).toNat)
    case atStart=>
     refine⟨0,Nat.zero_le _,rfl,?_⟩
     rw[Nat.pow_zero,Nat.mod_one,Nat.mul_zero,Nat.add_zero,Nat.add_zero]
     exact HM.out
    case round=>
     obtain⟨k,hk,rfl,hm2⟩:=hrel
     obtain⟨S2,ts2,hs2,hle2⟩:=hm2.ex
     obtain⟨k0,k1,k2,k3⟩:=KC.out _ ts2.bel
     by_cases hkl:k<lb
     ·obtain⟨yb,yo,rfl,hyc,hyc2,hyb,hycell⟩:=HB1.out.row hkl
      have cy:=(ts2.bel.cell (p:=⟨yb,yo+k,none⟩) (by show yb<b;have:=SZ.out;omega)).trans (hycell k hkl)
      obtain⟨q,hq⟩:∃q,q=bit2 y k:=⟨_,rfl⟩
      have hq2:q<2:=by rw[hq];exact bit2_lt y k
      rw[←hq]at cy
      obtain⟨r,hr⟩:∃r,r=i+k:=⟨_,rfl⟩
      have hrL:r<L:=by have:=HL.out;omega
      have er:(i:Int)+(k:Int)=(r:Int):=by omega
      obtain⟨u,hu⟩:∃u,u=S2.getD r 0:=⟨_,rfl⟩
      have cs:=ts2.cell r hrL
      have fs:=ts2.frozen r
      have hub:u≤1000001000000:=by
       have h1:=hle2 r
       have h2:i*lb≤1000000*1000000:=Nat.mul_le_mul (by omega) hlb
       omega
      rw[←hu]at cs
      obtain⟨n,hn⟩:∃n,n=u+q:=⟨_,rfl⟩
      have en:(u:Int)+(q:Int)=(n:Int):=by omega
      have hnb:n≤1000001000001:=by omega
      have NXT:Hid (∀w2:World,Hp wr w2→TMul W1 b L ((x %2^i)*y+2^i*(y %2^(k+1))) (i*lb+(k+1)) (w2.setCell ⟨b,r,none⟩ (.int .i64 (n:Nat)))):=Hi (fun w2 h=>by
       refine⟨_,(ts2.heap h).set r n,?_,?_⟩
       ·rw[hn,hu,sv_set S2 r q (by rw[ts2.len];exact hrL),hs2,mod_step,←hq,hr,Nat.pow_add,Nat.mul_add,Nat.add_assoc,Nat.mul_assoc]
       ·refine AllLe.set (hle2.mono (by omega)) r n ?_
        have h1:=hle2 r
        omega)
      have b1:decide ((r:Int)<L)=true:=dTo
      clear hm2 ts2 hs2 hle2 hycell hq hr hu hn
      go_wp2
      go_region
      all_goals
       go_wp2
       go_roundw
       case rel=>
        refine⟨k+1,by omega,by go_num,?_⟩
        first
        |exact NXT.out _ (hp_drewN _ _)
        |exact NXT.out _ (hp_drew _)
        |exact NXT.out _ ⟨rfl,rfl,rfl,rfl⟩
       case measure=>simp[intOf];omega
     ·have ek:k=lb:=by omega
      subst ek
      have FIN:Hid (TMul W1 b L ((x %2^i)*y+2^i*(1*y)) (i*k+k) wr):=Hi (by
       have:=hm2
       rw[Nat.mod_eq_of_lt HB1.out.lt]at this
       rw[Nat.one_mul]
       exact this)
      clear hm2 ts2 hs2 hle2
      go_wp2
      go_roundw
      case rel=>exact⟨i+1,by omega,by go_num,NX.out _ FIN.out⟩
      case measure=>simp[intOf];omega
  ·have ei:i=la:=by omega
   subst ei
   have hsp:sv S=p:=by rw[hs,Nat.mod_eq_of_lt HA1.out.lt,HP.out]
   obtain⟨N,hN⟩:∃N,N=i*lb:=⟨_,rfl⟩
   have hNb:N≤1000000000000:=by
    have h2:i*lb≤1000000*1000000:=Nat.mul_le_mul hla hlb
    omega
   rw[←hN]at hle
   have C0:Hid (TCar W1 b L p 0 0 N wr):=Hi ⟨S,ts,Car.start hsp hle⟩
   clear hm ts hs hle hsp hN hi
   go_wp2
   go_loopw [8,9,10] (fun cv jv tv wr=>∃c j,j≤L∧cv= .int .i64 (c:Nat)∧jv= .int .i64 (j:Nat)∧c≤N∧TCar W1 b L p j c N wr) (fun _ jv _ _=>L-(intOf jv).toNat)
   case atStart=>exact⟨0,0,Nat.zero_le _,rfl,rfl,Nat.zero_le _,C0.out⟩
   case round=>
    obtain⟨c,j,hj,rfl,rfl,hcN,hm⟩:=hrel
    obtain⟨S,ts,hcar⟩:=hm.ex
    obtain⟨k0,k1,k2,k3⟩:=KC.out _ ts.bel
    by_cases hjL:j<L
    ·obtain⟨u,hu⟩:∃u,u=S.getD j 0:=⟨_,rfl⟩
     have cs:=ts.cell j hjL
     have fs:=ts.frozen j
     rw[←hu]at cs
     have hub:u≤N:=by rw[hu];exact hcar.all j (nR _)
     obtain⟨t,ht⟩:∃t,t=u+c:=⟨_,rfl⟩
     have et:(u:Int)+(c:Int)=(t:Int):=by omega
     have htb:t≤2000000000000:=by omega
     obtain⟨t2,ht2⟩:∃t2,t2=t %2:=⟨_,rfl⟩
     obtain⟨t3,ht3⟩:∃t3,t3=t/2:=⟨_,rfl⟩
     have e2:(t:Int) %2=(t2:Int):=by omega
     have e3:(t:Int)/2=(t3:Int):=by omega
     have b2:t2<2:=by omega
     have hb3:t3≤N:=by omega
     have NXT:Hid (TCar W1 b L p (j+1) t3 N (wr.setCell ⟨b,j,none⟩ (.int .i64 (t2:Nat)))):=Hi (by
      refine⟨_,ts.set j t2,?_⟩
      rw[ht2,ht3]
      exact(hcar.next (by rw[ts.len];exact hjL) (by rw[ht,hu])).1)
     have d0:decide ((t:Int)<0)=false:=dFo
     clear hm ts hcar hu ht ht2 ht3
     go_wp2
     go_roundw
     case rel=>exact⟨t3,j+1,by omega,by go_num,by go_num,hb3,NXT.out⟩
     case measure=>simp[intOf];omega
    ·have ej:j=L:=by omega
     subst ej
     have hlt:p<2^j:=by rw[HP.out,HL.out];exact T2.mul_lt HA1.out.lt HB1.out.lt
     have hbt:BtV wr (.slice (some ⟨b,0,none⟩) j j) p j:=by
      refine BtV.of_own (b:=b) ?_ hlt
      have h1:=ts.own
      have h2:nCells S=bitCells p j:=by
       have h3:=hcar
       rw[←ts.len]at h3⊢
       exact h3.last
      rw[h2]at h1
      exact h1
     have bw:Below W1.heap.size W1 wr:=by rw[SZ.out];exact ts.bel
     have CL:=Hi (Tryz.rlaidAt false false _ p j (w.heap.size+1+1) W1 wr (Hi hbt) (TK.out.below bw) bw rfl)
     clear hm ts hcar hlt hbt bw
     go_wp2_with (go_at_call 58;(with_reducible refine CL.out.mono ?_);rintro e W3 ⟨⟨ra,rm,rc,rfl,ht3,y0,y1,z0,z1,hv3,b3⟩⟩)
     refine bodyPost_ret (v:= .agg #[.bool false,.slice ra rm rc]) ?_ rfl ⟨_,rm,by simp,ht3,hv3,?_⟩
     ·simp only[results,Tryz.results99]
      go_simp
     ·iterate 2 refine Below.setCell ?_ (by simp only;omega) _
      exact BL.out.trans (b3.mono BL.out.size)
end Go.Proofs
end
