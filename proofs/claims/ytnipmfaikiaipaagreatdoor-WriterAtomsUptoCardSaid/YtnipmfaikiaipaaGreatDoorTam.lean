import Derived.Test.YtnipmfaikiaipaaGreatDoorTal
import Derived.Deep.RegionHeldLaw
set_option maxRecDepth 1000000
set_option maxHeartbeats 40000000
section
namespace Go.Proofs
open Go.RowKit Go.Pf Go.Rb
structure Hp (w w':World):Prop where
 heap:w'.heap=w.heap
 os:w'.os=w.os
 tape:w'.tape=w.tape
 output:w'.output=w.output
theorem A4 (w:World) (n:Nat):Hp w (w.drewN n):=⟨rfl,rfl,rfl,rfl⟩
theorem Dx (w:World):Hp w w.drew:=⟨rfl,rfl,rfl,rfl⟩
theorem Ap.heap {w w':World} {v:Value} {x m:Nat}(h:Ap w v x m) (e:w'.heap=w.heap):Ap w' v x m:=by
 rcases h with h|⟨b,o,c,rfl,h2,h3,h4,h5,h6⟩
 ·exact .inl h
 ·exact .inr ⟨b,o,c,rfl,h2,h3,by rw[e];exact h4,h5,fun j hj=>(World.cell?_of_block (by rw[e])).trans (h6 j hj)⟩
theorem Bm.heap {w w':World} {b:Nat}(h:Bm w b) (e:w'.heap=w.heap):Bm w' b:=⟨by rw[e];exact h.h⟩
theorem Hp.below {w w':World}(h:Hp w w'):Below w.heap.size w w':=⟨h.os,h.tape,h.output,by rw[h.heap];exact nR _,fun _ _=>by rw[h.heap]⟩
structure Im (neg:Bool) (x:Nat) (b:Nat) (w:World) (e:Ending) (w':World):Prop where
 ex:∃a m c,e= .returned (.agg #[.bool neg,.slice a m c])/\T2 x m/\w'.cell? ⟨b,0,none⟩=some (.bool false)/\w'.cell? ⟨b,1,none⟩=some (.slice none 0 0)/\w'.frozen? ⟨b,0,none⟩=false/\w'.frozen? ⟨b,1,none⟩=false/\Ap ((w'.setCell ⟨b,0,none⟩ (.bool neg)).setCell ⟨b,1,none⟩ (.slice a m c)) (.slice a m c) x m/\Below w.heap.size w w'
theorem Gj (neg ng:Bool) (v:Value) (x m b:Nat) (w0 w:World) (hv:Hid (Ap w v x m)) (tk:Bm w b) (hb:Below w0.heap.size w0 w) (hn:ng=(neg&&decide (0<x))):Calls Tryz.prog 109 #[.bool neg,v] w (Im ng x b w0):=by
 refine(SH neg v x m w hv).mono ?_;rintro e W2 ⟨sl,m',rfl,ht,hv2,b2⟩;obtain⟨a,c,rfl⟩:=hv2.slice;have t2:=tk.below b2;rw[<-hn];exact⟨a,m',c,rfl,ht,t2.c0,t2.c1,t2.f 0,t2.f 1,hv2.tok t2 _ _,hb.trans (b2.mono hb.size)⟩
structure Sb (x:Nat) (w0:World) (e:Ending) (w':World):Prop where
 ex:∃a m c,e= .returned (.slice a m c)/\T2 x m/\Ap w' (.slice a m c) x m/\Below w0.heap.size w0 w'
theorem KA.at {x:Nat} {w0 w:World} {e:Ending} {w':World}(h:KA x w e w') (hb:Below w0.heap.size w0 w):Sb x w0 e w':=by
 obtain⟨sl,m,rfl,ht,hv,b2⟩:=h;obtain⟨a,c,rfl⟩:=hv.slice;exact⟨a,m,c,rfl,ht,hv,hb.trans (b2.mono hb.size)⟩
def Eb (x y:Nat) (w:World) (e:Ending) (w':World):Prop:=∃(sl:Value) (m:Nat),e= .returned (.agg #[.bool (decide (x<y)),sl])/\T2 (if x<y then y-x else x-y) m/\Ap w' sl (if x<y then y-x else x-y) m/\Below w.heap.size w w'
theorem Xz (va vb:Value) (x y la lb:Nat) (w:World) (ha:Hid (Ap w va x la)) (hb:Hid (Ap w vb y lb)) (ta:T2 x la) (tb:T2 y lb) (hla:la<=1000000000) (hlb:lb<=1000000000):
 Calls Tryz.prog 269 #[.agg #[.bool false,va],.agg #[.bool true,vb]] w (Eb x y w):=by
 have fin:Hid (∀(R:Bool) (z:Nat) a m c w',R=decide (x<y)->z=(if x<y then y-x else x-y)->T2 z m->Ap w' (.slice a m c) z m->Below w.heap.size w w'->Eb x y w (.returned (.agg #[.bool R,.slice a m c])) w'):=Hi (fun R z a m c w' h1 h2 h3 h4 h5=>by subst h1 h2;exact⟨_,m,rfl,h3,h4,h5⟩);have TA:=Hi ta;have TB:=Hi tb;go_enter Tryz.func269,Tryz.ntmps269
 go_wp2_with fail
 generalize hW:((w.alloc _).alloc _).alloc _=W1;have bl:Below w.heap.size w W1:=by subst hW;exact(((AH _ _).alloc (nR _) _).alloc (by simp) _).alloc (by simp;omega) _
 have c0:W1.cell? ⟨w.heap.size,0,none⟩=some (.bool false):=by subst hW;go_simp
 have c1:W1.cell? ⟨w.heap.size,1,none⟩=some va:=by subst hW;go_simp
 have d0:W1.cell? ⟨w.heap.size+1,0,none⟩=some (.bool true):=by subst hW;go_simp
 have d1:W1.cell? ⟨w.heap.size+1,1,none⟩=some vb:=by subst hW;go_simp
 have tk:Bm W1 (w.heap.size+2):=by subst hW;exact Bm.Xk w _ _
 have ha1:=ha.out.below bl;have hb1:=hb.out.below bl;have sz:W1.heap.size=w.heap.size+3:=by subst hW;simp
 have SZ:=Hi sz;clear hW sz;have HB:=Hi bl;have TK:=Hi tk;have F0:=Hi ha1;have HB1:=Hi hb1;have keep0:Hid (∀W2,Below W1.heap.size W1 W2->W2.cell? ⟨w.heap.size,0,none⟩=some (.bool false)):=Hi (fun W2 h=>(h.cell (p:=⟨w.heap.size,0,none⟩) (by have:=SZ.out;show w.heap.size<W1.heap.size;omega)).trans c0);have keep1:Hid (∀W2,Below W1.heap.size W1 W2->W2.cell? ⟨w.heap.size+1,0,none⟩=some (.bool true)):=Hi (fun W2 h=>(h.cell (p:=⟨w.heap.size+1,0,none⟩) (by have:=SZ.out;show w.heap.size+1<W1.heap.size;omega)).trans d0);clear bl tk ha1 hb1;have CL:Hid (∀(neg ng:Bool) a m c z W,Ap W (.slice a m c) z m->Below W1.heap.size W1 W->ng=(neg&&decide (0<z))->Calls Tryz.prog 109 #[.bool neg,.slice a m c] W (Im ng z (w.heap.size+2) W1)):=Hi (fun neg ng a m c z W h1 h2 h3=>Gj neg ng _ z m _ W1 W (Hi h1) (TK.out.below h2) h2 h3);have CLess:Hid (Calls Tryz.prog 286 #[va,vb] W1 fun e w'=>e= .returned (.bool (decide (x<y)))/\∃n,w'=W1.drewN n):=Hi (Ul va vb x y la lb W1 F0 HB1 TA.out TB.out hla);by_cases hxy:x<y
 ·rw[AN hxy]at CLess;have FIN:Hid (∀a m c w',T2 (y-x) m->Ap w' (.slice a m c) (y-x) m->Below w.heap.size w w'->Eb x y w (.returned (.agg #[.bool true,.slice a m c])) w'):=Hi (fun a m c w'=>fin.out true (y-x) a m c w' (AN hxy).symm (by rw[if_pos hxy]));have PX:Hid (true=(true&&decide (0<y-x))):=Hi (by rw[AN (by omega)];rfl);have CS:Hid (∀W,Hp W1 W->Calls Tryz.prog 287 #[vb,va] W (Sb (y-x) W1)):=Hi (fun W h=>(dc vb va y x lb la W (Hi (HB1.out.heap h.heap)) (Hi (F0.out.heap h.heap)) (by omega) hlb).mono (fun e w' hr=>hr.at h.below));clear hxy hb ha fin
  go_wp2_with (go_at_call 286;(with_reducible refine CLess.out.mono ?_);rintro e w' ⟨rfl,n,rfl⟩)
  ·go_region_with (first|(go_at_call 287;(first|(with_reducible refine(CS.out _ (A4 _ _)).mono ?_)|(with_reducible refine(CS.out _ (Dx _)).mono ?_));rintro e W2 ⟨⟨sa,sm,sc,rfl,ht,hv2,b2⟩⟩;have e0:=keep1.out W2 b2)|(go_at_call 109;(with_reducible refine(CL.out true true _ _ _ _ _ hv2 b2 PX.out).mono ?_);rintro e W3 ⟨⟨ra,rm,rc,rfl,ht3,x0,x1,y0,y1,hv3,b3⟩⟩))
   all_goals
    have HV3:=Hi hv3;have B3:=Hi b3;clear hv2 b2 e0 hv3 b3;go_wp2;refine AI (v:= .agg #[.bool true,.slice ra rm rc]) ?_ rfl (FIN.out _ _ _ _ ht3 HV3.out ?_)
    ·simp only[results,Tryz.results269];go_simp
    ·iterate 2 refine By ?_ (by simp only;omega) _
     exact HB.out.trans (B3.out.mono HB.out.size)
 ·rw[AS hxy]at CLess;have FIN:Hid (∀a m c w',T2 (x-y) m->Ap w' (.slice a m c) (x-y) m->Below w.heap.size w w'->Eb x y w (.returned (.agg #[.bool false,.slice a m c])) w'):=Hi (fun a m c w'=>fin.out false (x-y) a m c w' (AS hxy).symm (by rw[if_neg hxy]));have PX:Hid (false=(false&&decide (0<x-y))):=Hi rfl;have CS:Hid (∀W,Hp W1 W->Calls Tryz.prog 287 #[va,vb] W (Sb (x-y) W1)):=Hi (fun W h=>(dc va vb x y la lb W (Hi (F0.out.heap h.heap)) (Hi (HB1.out.heap h.heap)) (by omega) hla).mono (fun e w' hr=>hr.at h.below));clear hxy hb ha fin
  go_wp2_with (go_at_call 286;(with_reducible refine CLess.out.mono ?_);rintro e w' ⟨rfl,n,rfl⟩)
  ·go_region_with (first|(go_at_call 287;(first|(with_reducible refine(CS.out _ (A4 _ _)).mono ?_)|(with_reducible refine(CS.out _ (Dx _)).mono ?_));rintro e W2 ⟨⟨sa,sm,sc,rfl,ht,hv2,b2⟩⟩;have e0:=keep0.out W2 b2)|(go_at_call 109;(with_reducible refine(CL.out false false _ _ _ _ _ hv2 b2 PX.out).mono ?_);rintro e W3 ⟨⟨ra,rm,rc,rfl,ht3,x0,x1,y0,y1,hv3,b3⟩⟩))
   all_goals
    have HV3:=Hi hv3;have B3:=Hi b3;clear hv2 b2 e0 hv3 b3;go_wp2;refine AI (v:= .agg #[.bool false,.slice ra rm rc]) ?_ rfl (FIN.out _ _ _ _ ht3 HV3.out ?_)
    ·simp only[results,Tryz.results269];go_simp
    ·iterate 2 refine By ?_ (by simp only;omega) _
     exact HB.out.trans (B3.out.mono HB.out.size)
theorem Wi (va vb:Value) (x la lb:Nat) (w:World) (ha:Hid (Ap w va x la)) (hb:Hid (Ap w vb 0 lb)) (ta:T2 x la) (tb:T2 0 lb) (hla:la<=1000000000) (hlb:lb<=1000000000):
 Calls Tryz.prog 269 #[.agg #[.bool false,va],.agg #[.bool false,vb]] w (Eb x 0 w):=by
 have fin:Hid (∀(R:Bool) (z:Nat) a m c w',R=decide (x<0)->z=(if x<0 then 0-x else x-0)->T2 z m->Ap w' (.slice a m c) z m->Below w.heap.size w w'->Eb x 0 w (.returned (.agg #[.bool R,.slice a m c])) w'):=Hi (fun R z a m c w' h1 h2 h3 h4 h5=>by subst h1 h2;exact⟨_,m,rfl,h3,h4,h5⟩);have TA:=Hi ta;have TB:=Hi tb;go_enter Tryz.func269,Tryz.ntmps269
 go_wp2_with fail
 generalize hW:((w.alloc _).alloc _).alloc _=W1;have bl:Below w.heap.size w W1:=by subst hW;exact(((AH _ _).alloc (nR _) _).alloc (by simp) _).alloc (by simp;omega) _
 have c0:W1.cell? ⟨w.heap.size,0,none⟩=some (.bool false):=by subst hW;go_simp
 have c1:W1.cell? ⟨w.heap.size,1,none⟩=some va:=by subst hW;go_simp
 have d0:W1.cell? ⟨w.heap.size+1,0,none⟩=some (.bool false):=by subst hW;go_simp
 have d1:W1.cell? ⟨w.heap.size+1,1,none⟩=some vb:=by subst hW;go_simp
 have tk:Bm W1 (w.heap.size+2):=by subst hW;exact Bm.Xk w _ _
 have ha1:=ha.out.below bl;have hb1:=hb.out.below bl;have sz:W1.heap.size=w.heap.size+3:=by subst hW;simp
 have SZ:=Hi sz;clear hW sz;have HB:=Hi bl;have TK:=Hi tk;have F0:=Hi ha1;have HB1:=Hi hb1;have keep0:Hid (∀W2,Below W1.heap.size W1 W2->W2.cell? ⟨w.heap.size,0,none⟩=some (.bool false)):=Hi (fun W2 h=>(h.cell (p:=⟨w.heap.size,0,none⟩) (by have:=SZ.out;show w.heap.size<W1.heap.size;omega)).trans c0);have keep1:Hid (∀W2,Below W1.heap.size W1 W2->W2.cell? ⟨w.heap.size+1,0,none⟩=some (.bool false)):=Hi (fun W2 h=>(h.cell (p:=⟨w.heap.size+1,0,none⟩) (by have:=SZ.out;show w.heap.size+1<W1.heap.size;omega)).trans d0);clear bl tk ha1 hb1;have CL:Hid (∀(neg ng:Bool) a m c z W,Ap W (.slice a m c) z m->Below W1.heap.size W1 W->ng=(neg&&decide (0<z))->Calls Tryz.prog 109 #[.bool neg,.slice a m c] W (Im ng z (w.heap.size+2) W1)):=Hi (fun neg ng a m c z W h1 h2 h3=>Gj neg ng _ z m _ W1 W (Hi h1) (TK.out.below h2) h2 h3);have FIN:Hid (∀a m c w',T2 (x+0) m->Ap w' (.slice a m c) (x+0) m->Below w.heap.size w w'->Eb x 0 w (.returned (.agg #[.bool false,.slice a m c])) w'):=Hi (fun a m c w'=>fin.out false (x+0) a m c w' (AS (by omega)).symm (by rw[if_neg (by omega)];omega));have PX:Hid (false=(false&&decide (0<x+0))):=Hi rfl;have CS:Hid (∀W,Hp W1 W->Calls Tryz.prog 285 #[va,vb] W (Sb (x+0) W1)):=Hi (fun W h=>(fN va vb x 0 la lb W (Hi (F0.out.heap h.heap)) (Hi (HB1.out.heap h.heap)) hla hlb).mono (fun e w' hr=>hr.at h.below));clear hb ha fin
 ·skip
  ·go_region_with (first|(go_at_call 285;(first|(with_reducible refine(CS.out _ (A4 _ _)).mono ?_)|(with_reducible refine(CS.out _ (Dx _)).mono ?_));rintro e W2 ⟨⟨sa,sm,sc,rfl,ht,hv2,b2⟩⟩;have e0:=keep0.out W2 b2)|(go_at_call 109;(with_reducible refine(CL.out false false _ _ _ _ _ hv2 b2 PX.out).mono ?_);rintro e W3 ⟨⟨ra,rm,rc,rfl,ht3,x0,x1,y0,y1,hv3,b3⟩⟩))
   all_goals
    have HV3:=Hi hv3;have B3:=Hi b3;clear hv2 b2 e0 hv3 b3;go_wp2;refine AI (v:= .agg #[.bool false,.slice ra rm rc]) ?_ rfl (FIN.out _ _ _ _ ht3 HV3.out ?_)
    ·simp only[results,Tryz.results269];go_simp
    ·iterate 2 refine By ?_ (by simp only;omega) _
     exact HB.out.trans (B3.out.mono HB.out.size)
theorem fy (va vb:Value) (x y la lb:Nat) (ng:Bool) (w:World) (ha:Hid (Ap w va x la)) (hb:Hid (Ap w vb y lb)) (ta:T2 x la) (tb:T2 y lb) (hla:la<=1000000000) (hlb:lb<=1000000000) (hng:ng=decide (0<y)):
 Calls Tryz.prog 269 #[.agg #[.bool false,va],.agg #[.bool ng,vb]] w (Eb x y w):=by
 by_cases hy:0<y
 ·rw[hng,AN hy];exact Xz va vb x y la lb w ha hb ta tb hla hlb
 ·obtain rfl:y=0:=by omega
  rw[hng,AS hy];exact Wi va vb x la lb w ha hb ta tb hla hlb
end Go.Proofs
end
section
namespace Go.Proofs
open Go.RowKit Go.Pf Go.Rb
theorem Below.al {w W:World}(h:Below w.heap.size w W) (o:Obj):Below w.heap.size w (W.alloc o):=h.alloc h.size o
theorem Below.hp {B:Nat} {w W W':World}(h:Below B w W) (p:Hp W W'):Below B w W':=⟨p.os.trans h.os,p.tape.trans h.tape,p.output.trans h.output,by rw[p.heap];exact h.size,fun b hb=>by rw[p.heap];exact h.block b hb⟩
theorem Ke (v:Nat) (w:World) (hv:v<4611686018427387904):Calls Tryz.prog 63 #[.int .i64 v] w (Fx false v w):=by
 obtain⟨i0,hi,hz0,hz1,hz2⟩:=info_parts EZ;have n0:decide ((v:Int)<0)=false:=BC;have v62:v<2^62:=by
  have:(2:Nat)^62=4611686018427387904:=by decide
  omega
 have HV62:=Hi v62;clear v62;go_enter Tryz.func63,Tryz.ntmps63;go_wp2;generalize hW1:w.alloc _=W1;have tok:Bm W1 w.heap.size:=by subst hW1;exact Bm.DM w
 have bl:Below w.heap.size w W1:=by subst hW1;exact(AH _ _).alloc (nR _) _
 have hlt0:w.heap.size<W1.heap.size:=by subst hW1;simp
 have HW:=Hi hW1;clear hW1
 go_loopw [0,4] (fun nv bv wr=>∃(k x:Nat),k<=62/\x=v/2^k/\nv= .int .i64 x/\OB W1.heap.size W1 v k bv wr) (fun nv _ _=>(intOf nv).toNat)
 case atStart=>exact⟨0,v,by omega,by simp,rfl,⟨World.ownsRow_nil _ _ _ _,AH _ _,nR _⟩⟩
 case round=>
  obtain⟨k,x,hk,hx,rfl,hob⟩:=hrel;obtain⟨oa,oc,ho⟩:=DW hob.own;subst ho;have xv:x<=v:=by rw[hx];exact Nat.div_le_self _ _
  have hown:=hob.own;have hsz:=hob.le;by_cases h0:x=0
  ·have x0:((x:Int) !=0)=false:=by rw[h0];rfl
   have x1:((x:Int)==0)=true:=by rw[h0];rfl
   have hfin:v<2^k:=by
    rw[h0]at hx;exact(Nat.div_eq_zero_iff_lt (An k)).1 hx.symm
   have tk:=tok.below hob.Ad;have CL:=Hi (Gj false false (.slice oa k oc) v k w.heap.size W1 wr (Hi (Ap.D4 hown hfin)) tk hob.Ad rfl);clear hown hob hx hfin h0 tk
   go_wp2_with (go_at_call 109;(with_reducible refine CL.out.mono ?_))
   rintro e W3 ⟨⟨ra,rm,rc,rfl,ht3,y0,y1,z0,z1,hv3,b3⟩⟩;have HV3:=Hi hv3;have B3:=Hi b3;clear hv3 b3;go_wp2;refine AI (v:= .agg #[.bool false,.slice ra rm rc]) ?_ rfl ⟨_,rm,by simp,ht3,HV3.out,?_⟩
   ·simp only[results,Tryz.results63];go_simp
   ·iterate 2 refine By ?_ (by simp) _
    exact bl.trans (B3.out.mono (by omega))
  ·have x1:((x:Int)==0)=false:=Bn (n:=0) h0;have x0:((x:Int) !=0)=true:=by rw[bne,x1];rfl
   obtain⟨t1,ht1⟩:∃t1,t1=x %2:=⟨_,rfl⟩;obtain⟨x2,hx2⟩:∃x2,x2=x/2:=⟨_,rfl⟩;have e1:(x:Int) %2=(t1:Int):=by omega
   have e2:(x:Int)/2=(x2:Int):=by omega
   have hk2:k<62:=by
    apply No;intro h;have:k=62:=by omega
    subst this;rw[bh HV62.out]at hx;exact h0 hx
   have HB1:Hid (AQ v k=t1):=Hi (by unfold AQ;rw[<-hx,ht1]);have HX2:Hid (x2=v/2^(k+1)):=Hi (by rw[hx2,hx,gj,SO]);have HOB:=Hi hob;have HLT:=Hi (show x2<x by omega);have d0:decide ((t1:Int)<0)=false:=BC;clear hob hx h0 ht1 hx2
   go_wp2_with (at_builtin;refine wpList_append_own _ rfl _ _ 89 rfl W1.heap.size 3 i0 (.int .i64 0) 1 8 Tryz.underlying89 hi hz0 hz1 hz2 rfl (by decide) _ _ _ rfl (hown.alloc _) ⟨wr.heap.size,0,none⟩ 1 1 [.int .i64 (t1:Nat)] rfl rfl ?c1 ?c2 ?c3 ?c4 ?c5 ?_)
   case c1=>
    intro j u hj
    match j,hj with
    |0,hj=>simp at hj;subst hj;simp[Addr.add]
   case c2=>intro u hu;simp at hu;subst hu;rfl
   case c3=>unfold maxLen;omega
   case c4=>omega
   case c5=>simp;omega
   intro v' w2 hown' hgrow _;have HN:=Hi (HOB.out.next HB1.out hown' hgrow);clear hown' hgrow;go_wp2;go_roundw
   case rel=>exact⟨k+1,x2,by omega,HX2.out,by go_num,HN.out⟩
   case measure=>have:=HLT.out;simp[intOf];omega
theorem dy (neg:Bool) (v:Value) (x m:Nat) (w:World) (hv:Hid (Ap w v x m)) (ht:T2 x m):
 Calls Tryz.prog 271 #[.agg #[.bool neg,v]] w fun e w'=>e= .returned (.int .i64 (if x=0 then 0 else if neg then-1 else 1))/\Below w.heap.size w w':=by
 obtain⟨a,c,rfl⟩:=hv.out.slice;have hz:=ht.BB;have HB:Hid (∀o,Below w.heap.size w (w.alloc o)):=Hi (fun o=>(AH _ _).alloc (nR _) o);by_cases h0:x=0
 ·have m0:((m:Int)==0)=true:=by rw[hz.2 h0];rfl
  rw[if_pos h0];clear hz ht h0;go_enter Tryz.func271,Tryz.ntmps271;go_wp2;go_ret;exact⟨rfl,HB.out _⟩
 ·have m0:((m:Int)==0)=false:=Bn (n:=0) (fun h=>h0 (hz.1 h));rw[if_neg h0];clear hz ht h0;cases neg
  all_goals
   go_enter Tryz.func271,Tryz.ntmps271;go_wp2;go_ret;exact⟨rfl,HB.out _⟩
theorem dN (va vb:Value) (x y la lb:Nat) (w:World) (ha:Hid (Ap w va x la)) (hb:Hid (Ap w vb y lb)) (ta:T2 x la) (tb:T2 y lb) (hla:la<=1000000000) (hlb:lb<=1000000000):
 Calls Tryz.prog 263 #[.agg #[.bool false,va],.agg #[.bool false,vb]] w fun e w'=>e= .returned (.int .i64 (if x<y then-1 else if x=y then 0 else 1))/\Below w.heap.size w w':=by
 obtain⟨R,hR⟩:∃R:Int,R=if x<y then-1 else if x=y then 0 else 1:=⟨_,rfl⟩;rw[<-hR];have HR:=Hi hR;clear hR;have TA:=Hi ta;have TB:=Hi tb;clear ta tb;go_enter Tryz.func263,Tryz.ntmps263
 go_wp2_with fail
 generalize hW:(w.alloc _).alloc _=W1;have bl:Below w.heap.size w W1:=by subst hW;exact((AH _ _).alloc (nR _) _).alloc (by simp) _
 have c0:W1.cell? ⟨w.heap.size,0,none⟩=some (.bool false):=by subst hW;go_simp
 have c1:W1.cell? ⟨w.heap.size,1,none⟩=some va:=by subst hW;go_simp
 have d0:W1.cell? ⟨w.heap.size+1,0,none⟩=some (.bool false):=by subst hW;go_simp
 have d1:W1.cell? ⟨w.heap.size+1,1,none⟩=some vb:=by subst hW;go_simp
 have sz:W1.heap.size=w.heap.size+2:=by subst hW;simp
 have SZ:=Hi sz;have F0:=Hi (ha.out.below bl);have HB1:=Hi (hb.out.below bl);have BL:=Hi bl;have ac:∀(a:Addr) (u:Value),a.block<W1.heap.size->W1.cell? a=some u->(W1.alloc (.cells #[.bool false,.slice none 0 0] 135)).cell? a=some u:=fun a u h1 h2=>(((AH W1.heap.size W1).alloc (nR _) _).cell h1).trans h2;have c0':=ac _ _ (by rw[sz];simp only;omega) c0;have c1':=ac _ _ (by rw[sz];simp only;omega) c1;have d0':=ac _ _ (by rw[sz];simp only;omega) d0;have d1':=ac _ _ (by rw[sz];simp only;omega) d1;clear ac;clear hW sz bl ha hb;have KP:Hid (∀W W2:World,Below W.heap.size W W2->∀b,Bm W b->Bm W2 b):=Hi (fun W W2 h b t=>t.below h);have CM:Hid (∀W,Below W1.heap.size W1 W->Calls Tryz.prog 270 #[.agg #[.bool false,vb]] W fun e W2=>∃a m c,e= .returned (.agg #[.bool (decide (0<y)),.slice a m c])/\T2 y m/\Ap W2 (.slice a m c) y m/\Below W1.heap.size W1 W2/\W2.cell? ⟨w.heap.size,0,none⟩=some (.bool false)/\W2.cell? ⟨w.heap.size,1,none⟩=some va/\(W2.alloc (.cells #[.bool false,.slice none 0 0] 135)).cell? ⟨w.heap.size,0,none⟩=some (.bool false)/\(W2.alloc (.cells #[.bool false,.slice none 0 0] 135)).cell? ⟨w.heap.size,1,none⟩=some va/\Below W.heap.size W W2):=Hi (fun W h=>by
  refine(aU false vb y lb W (Hi (HB1.out.below h))).mono ?_;rintro e W2 ⟨sl,m,rfl,ht,hv,b2⟩;obtain⟨a,c,rfl⟩:=hv.slice;have b3:=h.trans (b2.mono h.size);refine⟨a,m,c,by simp,ht,hv,b3,(b3.cell (p:=⟨w.heap.size,0,none⟩) (by have:=SZ.out;show w.heap.size<W1.heap.size;omega)).trans c0,(b3.cell (p:=⟨w.heap.size,1,none⟩) (by have:=SZ.out;show w.heap.size<W1.heap.size;omega)).trans c1,((Below.al b3 _).cell (p:=⟨w.heap.size,0,none⟩) (by have:=SZ.out;show w.heap.size<W1.heap.size;omega)).trans c0,((Below.al b3 _).cell (p:=⟨w.heap.size,1,none⟩) (by have:=SZ.out;show w.heap.size<W1.heap.size;omega)).trans c1,b2⟩)
 obtain⟨z,hz⟩:∃z,z=if x<y then y-x else x-y:=⟨_,rfl⟩;have HZ:=Hi hz;have CS:Hid (∀W2 W a m c,Ap W2 (.slice a m c) y m->T2 y m->Below W1.heap.size W1 W2->Below W2.heap.size W2 W->Calls Tryz.prog 269 #[.agg #[.bool false,va],.agg #[.bool (decide (0<y)),.slice a m c]] W fun e W3=>∃a m c,e= .returned (.agg #[.bool (decide (x<y)),.slice a m c])/\T2 z m/\Ap W3 (.slice a m c) z m/\Below W.heap.size W W3):=Hi (fun W2 W a m c h1 h2 h3 h4=>by
  have hm:m<=1000000000:=by have:=h2.inj TB.out;omega
  have h5:=h3.trans (h4.mono h3.size);refine(fy va (.slice a m c) x y la m _ W (Hi (F0.out.below h5)) (Hi (h1.below h4)) TA.out h2 hla hm rfl).mono ?_;rintro e W3 ⟨sl,m2,rfl,ht,hv,b2⟩;rw[<-HZ.out]at ht hv;obtain⟨a2,c2,rfl⟩:=hv.slice;exact⟨a2,m2,c2,rfl,ht,hv,b2⟩)
 have FT:Hid (∀(a:Option Addr) (m c:Nat) (W:World),T2 z m->Ap W (.slice a m c) z m->Below w.heap.size w W->Calls Tryz.prog 271 #[.agg #[.bool (decide (x<y)),.slice a m c]] W fun e w'=>e= .returned (.int .i64 R)/\Below w.heap.size w w'):=Hi (fun a m c W h1 h2 h3=>by
  refine(dy (decide (x<y)) _ z m W (Hi h2) h1).mono ?_;rintro e w' ⟨rfl,hb⟩;refine⟨?_,h3.trans (hb.mono h3.size)⟩;have e1:=HZ.out;rw[HR.out];by_cases hlt:x<y
  ·rw[if_pos hlt]at e1;rw[if_neg (by omega),AN hlt,if_pos rfl,if_pos hlt]
  ·rw[if_neg hlt]at e1;rw[if_neg hlt,AS hlt];by_cases he:x=y
   ·rw[if_pos he,if_pos (by omega)]
   ·rw[if_neg he,if_neg (by omega),if_neg (by simp)])
 clear hz
 go_region_with (first|(go_at_call 270;(with_reducible refine(CM.out _ ?_).mono ?_);(focus (repeat (first|exact AH _ _|assumption|(with_reducible refine Below.al ?_ _)|(with_reducible refine Below.hp ?_ (A4 _ _))|(with_reducible refine Below.hp ?_ (Dx _)))));rintro e W2 ⟨ma,mm,mc,rfl,mt,mv,mb,k0,k1,k2,k3,mw⟩;(try ((first|(with_reducible have tk:=KP.out (World.alloc _ _) _ mw _ (Bm.DM _))|(with_reducible have tk:=KP.out (World.drew (World.alloc _ _)) _ mw _ ((Bm.DM _).heap (Dx _).heap))|(with_reducible have tk:=KP.out (World.drewN (World.alloc _ _) _) _ mw _ ((Bm.DM _).heap (A4 _ _).heap)));have tk0:=tk.c0;have tk1:=tk.c1;have tf0:=tk.f 0;have tf1:=tk.f 1;(try simp at tk0);(try simp at tk1);(try simp at tf0);(try simp at tf1))))|(go_at_call 269;(with_reducible refine(CS.out _ _ _ _ _ mv mt mb ?_).mono ?_);(focus (repeat (first|exact AH _ _|assumption|(with_reducible refine Below.al ?_ _)|(with_reducible refine Below.hp ?_ (A4 _ _))|(with_reducible refine Below.hp ?_ (Dx _)))));rintro e W3 ⟨sa,sm,sc,rfl,st,sv,sb⟩;(first|((with_reducible have tk:=KP.out _ _ sb _ tk);have tk0:=tk.c0;have tk1:=tk.c1;have tf0:=tk.f 0;have tf1:=tk.f 1;(try simp at tk0);(try simp at tk1);(try simp at tf0);(try simp at tf1))|((with_reducible have tk:=KP.out (World.alloc _ _) _ sb _ (Bm.DM _));have tk0:=tk.c0;have tk1:=tk.c1;have tf0:=tk.f 0;have tf1:=tk.f 1;(try simp at tk0);(try simp at tk1);(try simp at tf0);(try simp at tf1))|skip)))
 all_goals
  have s2:Below W2.heap.size W2 W3:=by
   first
   |exact sb
   |exact(Below.al (AH _ _) _).trans (sb.mono (by simp))
  have s1:w.heap.size<=W1.heap.size:=BL.out.size;have q2:w.heap.size<=W2.heap.size:=To s1 mb.size;have H3:Hid (Below w.heap.size w W3):=Hi (BL.out.trans ((mb.trans (s2.mono mb.size)).mono BL.out.size));clear CM CS KP
  go_wp2_with (go_at_call 271;(with_reducible refine(FT.out _ _ _ _ st ?_ ?_).mono ?_);(focus (first|exact sv.tok tk _ _|exact sv.below ((AH _ _).alloc (nR _) _)));(focus (first|exact H3.out.alloc H3.out.size _|exact(H3.out.setCell (by simp only;omega) _).setCell (by simp only;omega) _));rintro e w' ⟨rfl,bf⟩)
  have BF:=Hi bf;clear bf;go_ret;exact⟨rfl,BF.out⟩
end Go.Proofs
end
section
namespace Go.Proofs
open Go.RowKit Go.Pf Go.Rb
theorem AW {P:Program} {ops:Array Oper} {o:Oper} {a:Act} {w:World} {K:Act->World->Prop} {Q:Exit->Act->World->Prop} {E:Prop}(hgd:o.guard=none) (f:FuncId) (ags:List Operand) (ts:Array TypeId)
 (ho:o.op= .call {callee:= .value (.func f),args:=ags.toArray,argTypes:=ts}) (vs:Array Value) (hv:(ags.map a.eval).toArray=vs) (hcf:∀(vs:Array Value) (w:World),(callFunc f vs).run P w= .ok (.enter f vs) w)
 (h:Calls P f vs w fun e w'=>∃v,e= .returned v/\K (a.put o.dst v) w'):if Region.wanted o (yielded ops a.tmps)=true then Oper.wp P o a w K Q else E:=by
 have hw:Region.wanted o (yielded ops a.tmps)=true:=by simp[Region.wanted,hgd]
 rw[if_pos hw];unfold Oper.wp;have hr:(execOp a.eval o).run P w= .ok (.enter f vs) w:=by
  simp[execOp,ho,resolve,invoke,<-hv,Act.eval,Deferred.ofValue,hcf,List.map_toArray]
 rw[hr,Oper.upon_enter];refine h.mono ?_;rintro e w' ⟨v,rfl,hk⟩;exact hk
theorem JX {ops:Array Oper} {o:Oper} {a:Act} {w:World} {K:Act->World->Prop} {Q:Exit->Act->World->Prop} {E:Prop}(hgd:o.guard=none) (s x:Operand)
 (ho:o.op= .call {callee:= .builtin .append,args:= #[s,x],argTypes:= #[89,89]}) (base:Nat) (v1:Value) (n:Nat) (xs:List Value) (hs:a.eval s=v1) (hown:w.ownsRow base 3 1 v1 n xs)
 (v2:Value) (z m:Nat) (hx:a.eval x=v2) (hv:Ap w v2 z m) (hnm:n+m<=4000000000) (hbase:base<=w.heap.size)
 (h:∀sa sc w',w'.ownsRow base 3 1 (.slice sa (n+m) sc) (n+m) (xs++Ao z m)->w.grownBy w' v1.ownBlock->K (a.put o.dst (.slice sa (n+m) sc)) w'):
 if Region.wanted o (yielded ops a.tmps)=true then Oper.wp Tryz.prog o a w K Q else E:=by
 have hw:Region.wanted o (yielded ops a.tmps)=true:=by simp[Region.wanted,hgd]
 rw[if_pos hw];obtain⟨i0,hi,hz0,hz1,hz2⟩:=info_parts EZ;rcases hv with⟨rfl,rfl,rfl⟩|⟨b,off,c,rfl,hc,hmax,hb,hbt⟩
 ·have hrun:=run_append_owned_none (P:=Tryz.prog) w base 89 o.type 3 i0 1 Tryz.underlying89 hi _ n xs hown;obtain⟨oa,oc,rfl⟩:=DW hown;have hk:=h oa oc w (by simpa[Ao]using hown) (World.grownBy.refl _ _);unfold Oper.wp execOp;simp only[ho,resolve,invoke,builtin,Sem.run_bind,Sem.run_pure,Result.andThen_ok,List.map_toArray,List.map_cons,List.map_nil,hs,hx,hrun];exact hk
 ·obtain⟨v',w',hrun,h2,h3,_⟩:=run_append_own (P:=Tryz.prog) w base 89 o.type 3 i0 (.int .i64 0) 1 8 Tryz.underlying89 hi hz0 hz1 hz2 rfl (by decide) v1 n xs hown ⟨b,off,none⟩ m c (Ao z m) (by rw[Ay,gY])
   (by
    intro j u hu;have hj:j<m:=by
     have:=(ON.1 hu).1
     rwa [Ay]at this
    rw[Bu z m j hj]at hu;have e:(⟨b,off,none⟩:Addr).add j=⟨b,off+j,none⟩:=by unfold Addr.add;split<;>simp_all
    rw[e,hbt.2 j hj,hu])
   (by
    intro u hu;obtain⟨j,-,rfl⟩:=List.mem_map.1 hu;rfl)
   (by unfold maxLen;omega) (by omega) hbase
  obtain⟨oa,oc,rfl⟩:=DW h2;have hk:=h oa oc w' h2 h3;unfold Oper.wp execOp;simp only[ho,resolve,invoke,builtin,Sem.run_bind,Sem.run_pure,Result.andThen_ok,List.map_toArray,List.map_cons,List.map_nil,hs,hx,hrun];exact hk
theorem Qo (x n j:Nat):AQ (x*2^n) j=if j<n then 0 else AQ x (j-n):=by
 unfold AQ;by_cases h:j<n
 ·rw[if_pos h];have e:x*2^n=x*2^(n-j-1)*2*2^j:=by
   rw[G0,G0];congr 1;rw[<-G0,<-gj,<-E3];congr 1;omega
  rw[e,Nat.mul_div_cancel _ (An j),Nat.mul_mod_left]
 ·rw[if_neg h];have e:2^j=2^n*2^(j-n):=by rw[<-E3];congr 1;omega
  rw[e,<-SO,Nat.mul_div_cancel _ (An n)]
theorem Kf (x n m:Nat):List.replicate n (Value.int .i64 0)++Ao x m=Ao (x*2^n) (n+m):=by
 apply List.ext_getElem?;intro j;by_cases h:j<n+m
 ·rw[Bu _ _ j h,Qo];by_cases hj:j<n
  ·rw[if_pos hj,List.getElem?_append_left (by simpa using hj),List.getElem?_replicate,if_pos hj];rfl
  ·rw[if_neg hj,List.getElem?_append_right (by simp;omega),List.length_replicate,Bu _ _ _ (by omega)]
 ·rw[gQ (by simp[Ay];omega),gQ (by rw[Ay];omega)]
theorem Kk (vs:Array Value) (w:World):(callFunc 109 vs).run Tryz.prog w= .ok (.enter 109 vs) w:=by kernel_rfl
end Go.Proofs
end
section
namespace Go.Proofs
open Go.RowKit Go.Pf Go.Rb
def JC (n:Nat):Obj:= .cells (madeCells #[.int .i64 0] (n*1)) 3
theorem NB (n:Nat) (h:n<=4000000000) (w:World):(Instr.makeSlice 89 (.int .i64 (n:Int)) (.int .i64 (n:Int))).run Tryz.prog w= .ok (.slice (some ⟨w.heap.size,0,none⟩) n n) (w.alloc (JC n)):=by
 obtain⟨i0,hi,hz0,hz1,hz2⟩:=info_parts EZ;have hr:=run_make (P:=Tryz.prog) w 89 3 i0 (.int .i64 0) Tryz.underlying89 hi hz0 .i64 .i64 n n (by omega) (Int.le_refl _) (by rw[hz2];omega) (by omega);simp only[IT,hz1]at hr;exact hr
theorem Qu (v:Value) (x m n:Nat) (w:World) (hv:Hid (Ap w v x m)) (hm:m<=1000000000) (hn:n<=1000000000):
 Calls Tryz.prog 264 #[.agg #[.bool false,v],.int .i64 n] w (Fx false (x*2^n) w):=by
 obtain⟨y,hy⟩:∃y,y=x*2^n:=⟨_,rfl⟩;rw[<-hy];have n0:decide ((n:Int)>=0)=true:=A5;have n1:decide ((0:Int)<=n)=true:=A5;go_enter Tryz.func264,Tryz.ntmps264
 go_wp2_with fail
 generalize hW:(w.alloc _).alloc _=W1;have bl:Below w.heap.size w W1:=by subst hW;exact((AH _ _).alloc (nR _) _).alloc (by simp) _
 have c0:W1.cell? ⟨w.heap.size,0,none⟩=some (.bool false):=by subst hW;go_simp
 have c1:W1.cell? ⟨w.heap.size,1,none⟩=some v:=by subst hW;go_simp
 have tk:Bm W1 (w.heap.size+1):=by subst hW;exact Bm.bJ w _
 have sz:W1.heap.size=w.heap.size+2:=by subst hW;simp
 have SZ:=Hi sz;have c0':(W1.alloc (JC n)).cell? ⟨w.heap.size,0,none⟩=some (.bool false):=(((AH W1.heap.size W1).alloc (nR _) _).cell (by rw[sz];simp only;omega)).trans c0;have c1':(W1.alloc (JC n)).cell? ⟨w.heap.size,1,none⟩=some v:=(((AH W1.heap.size W1).alloc (nR _) _).cell (by rw[sz];simp only;omega)).trans c1;have HV1:=Hi (hv.out.below bl);have BL:=Hi bl;have TK:=Hi tk;clear hW sz bl hv tk;have MK:=NB n (by omega);have OWN:Hid (∀W:World,W.heap=(W1.alloc (JC n)).heap->W.ownsRow W1.heap.size 3 1 (.slice (some ⟨W1.heap.size,0,none⟩) n n) n (List.replicate n (.int .i64 0))):=Hi (fun W h=>by
  have h1:=World.ownsRow_lit (base:=W1.heap.size) (e:=3) (size:=1) W1 (madeCells #[.int .i64 0] (n*1)) n (nR _) (by unfold maxLen;omega) (by simp[madeCells]);have e:(madeCells #[.int .i64 0] (n*1)).toList=List.replicate n (.int .i64 0):=by rw[gY,toList_madeCells_one]
  rw[e]at h1;obtain⟨h2,h3⟩:=h1;refine⟨h2,?_⟩;rw[h];unfold JC;exact h3)
 have BV:Hid (∀W:World,W.heap=(W1.alloc (JC n)).heap->Ap W v x m):=Hi (fun W h=>(HV1.out.below ((AH _ _).alloc (nR _) _)).heap h);have HS:Hid (∀W:World,W.heap=(W1.alloc (JC n)).heap->W1.heap.size<=W.heap.size):=Hi (fun W h=>by rw[h];simp);have KEEP:Hid (∀(W w':World) sa sc,Hp (W1.alloc (JC n)) W->w'.ownsRow W1.heap.size 3 1 (.slice sa (n+m) sc) (n+m) (List.replicate n (.int .i64 0)++Ao x m)->W.grownBy w' (some W1.heap.size)->Ap w' (.slice sa (n+m) sc) y (n+m)/\Below W1.heap.size W1 w'/\w'.cell? ⟨w.heap.size,0,none⟩=some (.bool false)/\w'.cell? ⟨w.heap.size,1,none⟩=some v):=Hi (fun W w' sa sc hp ho hg=>by
  rw[Kf]at ho;have hlt:y<2^(n+m):=by rw[hy,E3,So];exact Nat.mul_lt_mul_of_pos_left HV1.out.lt (An n)
  have b1:Below W1.heap.size W1 w':=(Below.hp (Below.al (AH _ _) _) hp).grown hg (by rw[hp.heap];simp) (fun b hb=>by cases hb;exact nR _);rw[<-hy]at ho;exact⟨Ap.D4 ho hlt,b1,(b1.cell (by have:=SZ.out;show w.heap.size<W1.heap.size;omega)).trans c0,(b1.cell (by have:=SZ.out;show w.heap.size<W1.heap.size;omega)).trans c1⟩)
 have CL:Hid (∀W a c,Ap W (.slice a (n+m) c) y (n+m)->Below W1.heap.size W1 W->Calls Tryz.prog 109 #[.bool false,.slice a (n+m) c] W (Im false y (w.heap.size+1) W1)):=Hi (fun W a c h1 h2=>Gj false false _ y _ _ W1 W (Hi h1) (TK.out.below h2) h2 rfl);have HNM:Hid (n+m<=4000000000):=Hi (by omega);clear hy;have HP:Hid (∀W:World,W.heap=(W1.alloc (JC n)).heap->W.os=W1.os->W.tape=W1.tape->W.output=W1.output->Hp (W1.alloc (JC n)) W):=Hi (fun W h1 h2 h3 h4=>⟨h1,h2,h3,h4⟩)
 go_region_law (first
  | (refine JX (by rfl) _ _ (by rfl) W1.heap.size _ n _ (by rfl) (OWN.out _ (by rfl)) v x m (by rfl) (BV.out _ (by rfl)) HNM.out (HS.out _ (by rfl)) ?_;intro sa sc w' ho hg;obtain⟨bv,bw,k0,k1⟩:=KEEP.out _ w' sa sc (HP.out _ (by rfl) (by rfl) (by rfl) (by rfl)) ho hg;clear ho hg)
  | (refine AW (by rfl) 109 _ _ (by rfl) _ (by rfl) Kk ((CL.out _ _ _ bv bw).mono ?_);rintro e W3 ⟨⟨ra,rm,rc,rfl,ht3,y0,y1,z0,z1,hv3,b3⟩⟩;refine⟨_,rfl,?_⟩))
 all_goals
  have HV3:=Hi hv3;have B3:=Hi b3;clear hv3 b3 KEEP CL OWN BV HS HP bv bw;go_wp2;refine AI (v:= .agg #[.bool false,.slice ra rm rc]) ?_ rfl ⟨_,rm,by simp,ht3,HV3.out,?_⟩
  ·simp only[results,Tryz.results264];go_simp
  ·iterate 2 refine By ?_ (by simp only;omega) _
   exact BL.out.trans (B3.out.mono BL.out.size)
end Go.Proofs
end
section
namespace Go.Proofs
open Go.RowKit Go.Pf Go.Rb
def sv:List Nat->Nat
 | []=>0
 |a::l=>a+2*sv l
theorem ZE (n:Nat):sv (List.replicate n 0)=0:=by
 induction n with
 |zero=>rfl
 |succ n ih=>rw[List.replicate_succ];simp[sv,ih]
theorem cA (l:List Nat) (j d:Nat) (h:j<l.length):sv (l.set j (l.getD j 0+d))=sv l+2^j*d:=by
 induction l generalizing j with
 |nil=>simp at h
 |cons a l ih=>
  cases j with
  |zero=>simp[sv];omega
  |succ j=>
   have hj:j<l.length:=by simpa using h
   have:=ih j hj;simp only[List.set_cons_succ,List.getD_cons_succ,sv,this,gj];rw[Nat.mul_add,<-G0,So 2 (2^j)];omega
theorem Xj (l:List Nat) (i:Nat) (h:i<l.length):sv (l.drop i)=l.getD i 0+2*sv (l.drop (i+1)):=by
 rw[List.drop_eq_getElem_cons h];simp[sv,h]
def B6 (S:List Nat):List Value:=S.map fun n=>Value.int .i64 (n:Nat)
theorem EC (S:List Nat) (j:Nat) (h:j<S.length):(B6 S)[j]? =some (.int .i64 (S.getD j 0:Nat)):=by simp[B6,h]
theorem Hn (S:List Nat) (j n:Nat):(B6 S).set j (.int .i64 (n:Nat))=B6 (S.set j n):=by simp[B6,List.map_set]
theorem Jp (n:Nat):List.replicate n (Value.int .i64 0)=B6 (List.replicate n 0):=by simp[B6]
structure TS (W1:World) (b L:Nat) (S:List Nat) (wr:World):Prop where
 own:wr.ownsRow b 3 1 (.slice (some ⟨b,0,none⟩) L L) L (B6 S)
 Ad:Below b W1 wr
 len:S.length=L
theorem TS.cell {W1:World} {b L:Nat} {S:List Nat} {wr:World}(h:TS W1 b L S wr) (j:Nat) (hj:j<L):wr.cell? ⟨b,j,none⟩=some (.int .i64 (S.getD j 0:Nat)):=by
 rw[World.ownsRow.cellAt h.own j (by omega),EC S j (by rw[h.len];exact hj)]
theorem TS.frozen {W1:World} {b L:Nat} {S:List Nat} {wr:World}(h:TS W1 b L S wr) (j:Nat):wr.frozen? ⟨b,j,none⟩=false:=World.ownsRow.frozenAt h.own j
theorem TS.set {W1:World} {b L:Nat} {S:List Nat} {wr:World}(h:TS W1 b L S wr) (j n:Nat):TS W1 b L (S.set j n) (wr.setCell ⟨b,j,none⟩ (.int .i64 (n:Nat))):=by
 refine⟨?_,h.Ad.setCell (nR _) _,by rw[List.length_set];exact h.len⟩;rw[<-Hn];exact(World.ownsRow.stored h.own j _).1
theorem TS.heap {W1:World} {b L:Nat} {S:List Nat} {wr w':World}(h:TS W1 b L S wr) (p:Hp wr w'):TS W1 b L S w':=by
 refine⟨⟨h.own.1,?_⟩,Below.hp h.Ad p,h.len⟩;rw[p.heap];exact h.own.2
def F3 (S:List Nat) (N:Nat):Prop:=∀j,S.getD j 0<=N
theorem F3.set {S:List Nat} {N:Nat}(h:F3 S N) (j n:Nat) (hn:n<=N):F3 (S.set j n) N:=by
 intro t;have:=h t;rw[SM]at this⊢;rw[List.getElem?_set];split
 ·split
  ·exact hn
  ·exact Nat.zero_le _
 ·exact this
theorem F3.mono {S:List Nat} {N M:Nat}(h:F3 S N) (hm:N<=M):F3 S M:=fun j=>To (h j) hm
theorem F3.zero (n:Nat):F3 (List.replicate n 0) 0:=by
 intro j;rw[SM,List.getElem?_replicate];split<;>simp
theorem DE (S:List Nat) (j t n:Nat) (h:t≠j):(S.set j n).getD t 0=S.getD t 0:=by
 rw[SM,SM,List.getElem?_set_ne (by omega)]
theorem El (S:List Nat) (j n:Nat) (h:j<S.length):(S.set j n).getD j 0=n:=by
 rw[SM,List.getElem?_set_self h];rfl
structure XV (S:List Nat) (p i c N:Nat):Prop where
 bits:∀j,j<i->S.getD j 0=AQ p j
 rest:c+sv (S.drop i)=p/2^i
 le:c<=N
 all:∀j,i<=j->S.getD j 0<=N
theorem XV.start {S:List Nat} {p N:Nat}(h:sv S=p) (ha:F3 S N):XV S p 0 0 N:=⟨fun j hj=>absurd hj (by omega),by simp[h],Nat.zero_le _,fun j _=>ha j⟩
theorem XV.next {S:List Nat} {p i c N t:Nat}(h:XV S p i c N) (hi:i<S.length) (ht:t=S.getD i 0+c):XV (S.set i (t %2)) p (i+1) (t/2) N/\t<=2*N:=by
 have h1:=h.rest;rw[Xj S i hi]at h1;have h2:=h.all i (nR _);have h3:=h.le;refine⟨⟨?_,?_,by omega,?_⟩,by omega⟩
 ·intro j hj;by_cases e:j=i
  ·subst e;rw[El S j _ hi,AQ,<-h1];omega
  ·rw[DE S i j _ e];exact h.bits j (by omega)
 ·rw[List.drop_set_of_lt (by omega),gj,<-SO,<-h1];omega
 ·intro j hj;rw[DE S i j _ (by omega)];exact h.all j (by omega)
theorem XV.last {S:List Nat} {p c N:Nat}(h:XV S p S.length c N):B6 S=Ao p S.length:=by
 apply List.ext_getElem?;intro j;by_cases hj:j<S.length
 ·rw[EC S j hj,Bu _ _ _ hj,h.bits j hj]
 ·rw[gQ (by simp[B6];omega),gQ (by rw[Ay];omega)]
theorem WE (x y i:Nat):(x %2^(i+1))*y=(x %2^i)*y+2^i*(AQ x i*y):=by
 rw[P4,UP,G0]
theorem T2.mul_lt {x y a b:Nat}(ha:x<2^a) (hb:y<2^b):x*y<2^(a+b+1):=by
 have h1:x*y<2^a*2^b:=by
  rcases dT y with rfl|h
  ·simp[An]
  ·exact IN ((Nat.mul_lt_mul_right h).2 ha) (dg _ (Nat.le_of_lt hb))
 rw[gj,E3];omega
end Go.Proofs
end
section
namespace Go.Proofs
open Go.RowKit Go.Pf Go.Rb
theorem TS.start (W1:World) (L:Nat) (h:L<=4000000000):TS W1 W1.heap.size L (List.replicate L 0) (W1.alloc (JC L)):=by
 have h1:=World.ownsRow_lit (base:=W1.heap.size) (e:=3) (size:=1) W1 (madeCells #[.int .i64 0] (L*1)) L (nR _) (by unfold maxLen;omega) (by simp[madeCells]);have e:(madeCells #[.int .i64 0] (L*1)).toList=List.replicate L (.int .i64 0):=by rw[gY,toList_madeCells_one]
 rw[e,Jp]at h1;refine⟨h1,(AH _ _).alloc (nR _) _,by simp⟩
theorem Ap.row {w:World} {a:Option Addr} {c x m:Nat}(h:Ap w (.slice a m c) x m){i:Nat}(hi:i<m):∃b o,a=some ⟨b,o,none⟩/\m<=c/\c<=9223372036854775807/\b<w.heap.size/\∀j,j<m->w.cell? ⟨b,o+j,none⟩=some (.int .i64 (AQ x j:Nat)):=by
 rcases h with⟨h1,h2,h3⟩|⟨b,o,c',h1,h2,h3,h4,h5,h6⟩
 ·omega
 ·cases h1;exact⟨b,o,rfl,h2,h3,h4,h6⟩
structure Ty (W1:World) (b L:Nat) (v N:Nat) (wr:World):Prop where
 ex:∃S,TS W1 b L S wr/\sv S=v/\F3 S N
structure aH (W1:World) (b L:Nat) (p i c N:Nat) (wr:World):Prop where
 ex:∃S,TS W1 b L S wr/\XV S p i c N
theorem aF (va vb:Value) (x y la lb:Nat) (w:World) (ha:Hid (Ap w va x la)) (hb:Hid (Ap w vb y lb)) (hla:la<=1000000) (hlb:lb<=1000000):
 Calls Tryz.prog 252 #[.agg #[.bool false,va],.agg #[.bool false,vb]] w (Fx false (x*y) w):=by
 obtain⟨aa,ac,rfl⟩:=ha.out.slice;obtain⟨ba,bc,rfl⟩:=hb.out.slice;obtain⟨L,hL⟩:∃L,L=la+lb+1:=⟨_,rfl⟩;obtain⟨M,hM⟩:∃M,M=la+lb:=⟨_,rfl⟩;obtain⟨p,hp⟩:∃p,p=x*y:=⟨_,rfl⟩;rw[<-hp];have eM:(la:Int)+(lb:Int)=(M:Int):=by omega
 have eL:(M:Int)+1=(L:Int):=by omega
 have bL:L<=3000000:=by omega
 have bM:M<=3000000:=by omega
 have HL:=Hi hL;have HP:=Hi hp;clear hL hM hp;have MK:=NB L (by omega);go_enter Tryz.func252,Tryz.ntmps252;go_wp2;generalize hW:((w.alloc _).alloc _).alloc _=W1;have bl:Below w.heap.size w W1:=by subst hW;exact(((AH _ _).alloc (nR _) _).alloc (by simp) _).alloc (by simp;omega) _
 have c0:W1.cell? ⟨w.heap.size,0,none⟩=some (.bool false):=by subst hW;go_simp
 have c1:W1.cell? ⟨w.heap.size,1,none⟩=some (.slice aa la ac):=by subst hW;go_simp
 have d0:W1.cell? ⟨w.heap.size+1,0,none⟩=some (.bool false):=by subst hW;go_simp
 have d1:W1.cell? ⟨w.heap.size+1,1,none⟩=some (.slice ba lb bc):=by subst hW;go_simp
 have tk:Bm W1 (w.heap.size+1+1):=by subst hW;exact Bm.Xk w _ _
 have sz:W1.heap.size=w.heap.size+1+1+1:=by subst hW;simp
 have ts0:=TS.start W1 L (by omega);rw[sz]at ts0;have F0:=Hi (ha.out.below bl);have HB1:=Hi (hb.out.below bl);have BL:=Hi bl;have TK:=Hi tk;have SZ:=Hi sz;have KC:Hid (∀wr:World,Below (w.heap.size+1+1+1) W1 wr->wr.cell? ⟨w.heap.size,0,none⟩=some (.bool false)/\wr.cell? ⟨w.heap.size,1,none⟩=some (.slice aa la ac)/\wr.cell? ⟨w.heap.size+1,0,none⟩=some (.bool false)/\wr.cell? ⟨w.heap.size+1,1,none⟩=some (.slice ba lb bc)):=Hi (fun wr h=>⟨(h.cell (by simp only;omega)).trans c0,(h.cell (by simp only;omega)).trans c1,(h.cell (by simp only;omega)).trans d0,(h.cell (by simp only;omega)).trans d1⟩);clear hW bl c0 c1 d0 d1 tk sz ha hb;obtain⟨b,hbb⟩:∃b,b=w.heap.size+1+1+1:=⟨_,rfl⟩;rw[<-hbb]at ts0 SZ KC⊢;have HBB:=Hi hbb;clear hbb
 go_loopw [6,7] (fun iv kv wr=>∃i,i<=la/\iv= .int .i64 (i:Nat)/\Ty W1 b L ((x %2^i)*y) (i*lb) wr) (fun iv _ _=>la-(intOf iv).toNat)
 case atStart=>exact⟨0,Nat.zero_le _,rfl,⟨_,ts0,by rw[ZE,gf,Nat.mod_one,Nat.zero_mul],by rw[Nat.zero_mul];exact F3.zero L⟩⟩
 case round=>
  obtain⟨i,hi,rfl,hm⟩:=hrel;obtain⟨S,ts,hs,hle⟩:=hm.ex;obtain⟨k0,k1,k2,k3⟩:=KC.out _ ts.Ad;by_cases hlt:i<la
  ·obtain⟨ab,ao,rfl,hac,hac2,hab,hcell⟩:=F0.out.row hlt;have ci:=(ts.Ad.cell (p:=⟨ab,ao+i,none⟩) (by show ab<b;have:=SZ.out;omega)).trans (hcell i hlt);have b2:=Bi x i;have NX:Hid (∀wr:World,Ty W1 b L ((x %2^i)*y+2^i*(AQ x i*y)) (i*lb+lb) wr->Ty W1 b L ((x %2^(i+1))*y) ((i+1)*lb) wr):=Hi (fun wr h=>by rw[WE,Nat.succ_mul];exact h);have HM:=Hi hm;clear hm hcell;rcases dT (AQ x i)with h0|h0
   ·rw[h0]at ci NX;clear hs hle ts b2 h0;go_wp2;go_roundw
    case rel=>
     refine⟨i+1,by omega,by go_num,NX.out _ ?_⟩;obtain⟨S,ts,hs,hle⟩:=HM.out.ex;exact⟨S,ts,by rw[hs,Nat.zero_mul,Nat.mul_zero,gZ],hle.mono (by omega)⟩
    case measure=>simp[intOf];omega
   ·have h1:AQ x i=1:=by omega
    rw[h1]at ci NX;clear hs hle ts b2 h0 h1;go_wp2
    go_loopw [7] (fun kv wr2=>∃k,k<=lb/\kv= .int .i64 (k:Nat)/\Ty W1 b L ((x %2^i)*y+2^i*(y %2^k)) (i*lb+k) wr2) (fun kv _=>lb-(intOf kv).toNat)
    case atStart=>
     refine⟨0,Nat.zero_le _,rfl,?_⟩;rw[gf,Nat.mod_one,Nat.mul_zero,gZ,gZ];exact HM.out
    case round=>
     obtain⟨k,hk,rfl,hm2⟩:=hrel;obtain⟨S2,ts2,hs2,hle2⟩:=hm2.ex;obtain⟨k0,k1,k2,k3⟩:=KC.out _ ts2.Ad;by_cases hkl:k<lb
     ·obtain⟨yb,yo,rfl,hyc,hyc2,hyb,hycell⟩:=HB1.out.row hkl;have cy:=(ts2.Ad.cell (p:=⟨yb,yo+k,none⟩) (by show yb<b;have:=SZ.out;omega)).trans (hycell k hkl);obtain⟨q,hq⟩:∃q,q=AQ y k:=⟨_,rfl⟩;have hq2:q<2:=by rw[hq];exact Bi y k
      rw[<-hq]at cy;obtain⟨r,hr⟩:∃r,r=i+k:=⟨_,rfl⟩;have hrL:r<L:=by have:=HL.out;omega
      have er:(i:Int)+(k:Int)=(r:Int):=by omega
      obtain⟨u,hu⟩:∃u,u=S2.getD r 0:=⟨_,rfl⟩;have cs:=ts2.cell r hrL;have fs:=ts2.frozen r;have hub:u<=1000001000000:=by
       have h1:=hle2 r;have h2:i*lb<=1000000*1000000:=Nat.mul_le_mul (by omega) hlb;omega
      rw[<-hu]at cs;obtain⟨n,hn⟩:∃n,n=u+q:=⟨_,rfl⟩;have en:(u:Int)+(q:Int)=(n:Int):=by omega
      have hnb:n<=1000001000001:=by omega
      have NXT:Hid (∀w2:World,Hp wr w2->Ty W1 b L ((x %2^i)*y+2^i*(y %2^(k+1))) (i*lb+(k+1)) (w2.setCell ⟨b,r,none⟩ (.int .i64 (n:Nat)))):=Hi (fun w2 h=>by
       refine⟨_,(ts2.heap h).set r n,?_,?_⟩
       ·rw[hn,hu,cA S2 r q (by rw[ts2.len];exact hrL),hs2,P4,<-hq,hr,E3,Nat.mul_add,Nat.add_assoc,G0]
       ·refine F3.set (hle2.mono (by omega)) r n ?_;have h1:=hle2 r;omega)
      have b1:decide ((r:Int)<L)=true:=A5;clear hm2 ts2 hs2 hle2 hycell hq hr hu hn;go_wp2
      go_region
      all_goals
       go_wp2;go_roundw
       case rel=>
        refine⟨k+1,by omega,by go_num,?_⟩
        first
        |exact NXT.out _ (A4 _ _)
        |exact NXT.out _ (Dx _)
        |exact NXT.out _ ⟨rfl,rfl,rfl,rfl⟩
       case measure=>simp[intOf];omega
     ·have ek:k=lb:=by omega
      subst ek;have FIN:Hid (Ty W1 b L ((x %2^i)*y+2^i*(1*y)) (i*k+k) wr):=Hi (by
       have:=hm2;rw[e8 HB1.out.lt]at this;rw[Nat.one_mul];exact this)
      clear hm2 ts2 hs2 hle2;go_wp2;go_roundw
      case rel=>exact⟨i+1,by omega,by go_num,NX.out _ FIN.out⟩
      case measure=>simp[intOf];omega
  ·have ei:i=la:=by omega
   subst ei;have hsp:sv S=p:=by rw[hs,e8 F0.out.lt,HP.out]
   obtain⟨N,hN⟩:∃N,N=i*lb:=⟨_,rfl⟩;have hNb:N<=1000000000000:=by
    have h2:i*lb<=1000000*1000000:=Nat.mul_le_mul hla hlb;omega
   rw[<-hN]at hle;have C0:Hid (aH W1 b L p 0 0 N wr):=Hi ⟨S,ts,XV.start hsp hle⟩;clear hm ts hs hle hsp hN hi;go_wp2
   go_loopw [8,9,10] (fun cv jv tv wr=>∃c j,j<=L/\cv= .int .i64 (c:Nat)/\jv= .int .i64 (j:Nat)/\c<=N/\aH W1 b L p j c N wr) (fun _ jv _ _=>L-(intOf jv).toNat)
   case atStart=>exact⟨0,0,Nat.zero_le _,rfl,rfl,Nat.zero_le _,C0.out⟩
   case round=>
    obtain⟨c,j,hj,rfl,rfl,hcN,hm⟩:=hrel;obtain⟨S,ts,hcar⟩:=hm.ex;obtain⟨k0,k1,k2,k3⟩:=KC.out _ ts.Ad;by_cases hjL:j<L
    ·obtain⟨u,hu⟩:∃u,u=S.getD j 0:=⟨_,rfl⟩;have cs:=ts.cell j hjL;have fs:=ts.frozen j;rw[<-hu]at cs;have hub:u<=N:=by rw[hu];exact hcar.all j (nR _)
     obtain⟨t,ht⟩:∃t,t=u+c:=⟨_,rfl⟩;have et:(u:Int)+(c:Int)=(t:Int):=by omega
     have htb:t<=2000000000000:=by omega
     obtain⟨t2,ht2⟩:∃t2,t2=t %2:=⟨_,rfl⟩;obtain⟨t3,ht3⟩:∃t3,t3=t/2:=⟨_,rfl⟩;have e2:(t:Int) %2=(t2:Int):=by omega
     have e3:(t:Int)/2=(t3:Int):=by omega
     have b2:t2<2:=by omega
     have hb3:t3<=N:=by omega
     have NXT:Hid (aH W1 b L p (j+1) t3 N (wr.setCell ⟨b,j,none⟩ (.int .i64 (t2:Nat)))):=Hi (by
      refine⟨_,ts.set j t2,?_⟩;rw[ht2,ht3];exact(hcar.next (by rw[ts.len];exact hjL) (by rw[ht,hu])).1)
     have d0:decide ((t:Int)<0)=false:=BC;clear hm ts hcar hu ht ht2 ht3;go_wp2;go_roundw
     case rel=>exact⟨t3,j+1,by omega,by go_num,by go_num,hb3,NXT.out⟩
     case measure=>simp[intOf];omega
    ·have ej:j=L:=by omega
     subst ej;have hlt:p<2^j:=by rw[HP.out,HL.out];exact T2.mul_lt F0.out.lt HB1.out.lt
     have hbt:Ap wr (.slice (some ⟨b,0,none⟩) j j) p j:=by
      refine Ap.D4 (b:=b) ?_ hlt;have h1:=ts.own;have h2:B6 S=Ao p j:=by
       have h3:=hcar;rw[<-ts.len]at h3⊢;exact h3.last
      rw[h2]at h1;exact h1
     have bw:Below W1.heap.size W1 wr:=by rw[SZ.out];exact ts.Ad
     have CL:=Hi (Gj false false _ p j (w.heap.size+1+1) W1 wr (Hi hbt) (TK.out.below bw) bw rfl);clear hm ts hcar hlt hbt bw
     go_wp2_with (go_at_call 109;(with_reducible refine CL.out.mono ?_);rintro e W3 ⟨⟨ra,rm,rc,rfl,ht3,y0,y1,z0,z1,hv3,b3⟩⟩)
     refine AI (v:= .agg #[.bool false,.slice ra rm rc]) ?_ rfl ⟨_,rm,by simp,ht3,hv3,?_⟩
     ·simp only[results,Tryz.results252];go_simp
     ·iterate 2 refine By ?_ (by simp only;omega) _
      exact BL.out.trans (b3.mono BL.out.size)
end Go.Proofs
end
