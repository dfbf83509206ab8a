import Derived.Test.YtpocgkiamgipdaaGreatDoorSfI
set_option maxRecDepth 1000000
set_option maxHeartbeats 0
set_option linter.unusedVariables false
set_option linter.unusedSimpArgs false
open Go.Proofs.Tryz
namespace Go.Proofs
open Go.RowKit Go.Bg Go.Hb Go.Lx Go.Rb Go.Pf Go.Pz Go.Ps
def AAd (t:Tm):Prop:=JH Sb (fun _=>true) (fun _=>true) t=0
theorem ABf {vs is:Bs->Bool} {fs:Nat->Bool} {l:List Tm}(h:F0 vs is fs l=0):∀x∈l,JH vs is fs x=0:=by
 induction l with
 |nil=>intro x hx;cases hx
 |cons a l ih=>
  simp only[F0]at h;split at h
  ·rename_i h1;intro x hx;rcases oK.1 hx with rfl|hx
   ·exact h1
   ·exact ih h x hx
  ·rename_i h1;exact absurd h h1
theorem AAe {t:Tm}(h:AAd t):Av Sb (fun _=>true) (fun _=>true) t=0:=by
 have h1:JH Sb (fun _=>true) (fun _=>true) t=0:=h;rw[I8]at h1;split at h1
 ·assumption
 ·rename_i h2;exact absurd h1 h2
theorem ABM (t:Tm) (h:AAd t):∀x∈AJ t,AAd x:=by
 intro x hx;have h1:JH Sb (fun _=>true) (fun _=>true) t=0:=h;rw[I8,lQ (AAe h)]at h1;exact ABf h1 x hx
theorem ABo (t:Tm) (h:AAd t):(AJ t).length<=64:=MB (AAe h)
theorem AB5 {t:Tm}(h0:F3 t=0):AAd t:=by
 unfold F3 GR at h0;split at h0
 ·cases h0
 ·exact h0
theorem AAt {w W:World} {g o:Nat} {xs:Be}(h:Lg w g o xs) (hb:Below w.heap.size w W):Lg W g o xs:=
 ⟨fun i x hx j v hv=>by
  have qE:=h.lt (by rintro rfl;simp at hx);exact(AO (hb.block g qE) _).trans (h.cell i x hx j v hv),h.name,fun hn=>lR (h.lt hn) hb.size⟩
theorem AA8 {s:ByteArray} {W W':World} {R:fX} {e:Ending}(h:Ce s W R e W'):∃(kd:Int) (nm nu:ByteArray) (bits v:Int) (a:Option Addr) (al cap:Nat) (na:Option Addr) (nl nc:Nat) (sa:Option Addr) (sl sc:Nat) (n:Int) (b:Bool) (E:Value),e= .returned (.tuple #[.agg #[.int .i64 kd,.string nm,.string nu,.int .u64 bits,.int .i64 v,.slice a al cap,.slice na nl nc,.slice sa sl sc,.int .i64 n,.bool b],E]):=by
 obtain⟨-,h⟩:=h;cases R with
 |eof a=>
  have h:e=_:=h;exact⟨0,_,_,0,0,none,0,0,none,0,0,none,0,0,a,true,_,h⟩
 |stop wd a=>
  obtain⟨b,h,-⟩:=h;exact⟨0,_,_,0,0,none,0,0,none,0,0,none,0,0,_,false,_,h⟩
 |ok t st n=>
  obtain⟨c,nv,sv,h,htm,yT,vv⟩:=h;obtain⟨c⟩:=c;obtain⟨kd,nm,nu,bits,v,a,cap,hc,-⟩:=AT.form htm;have hc:c=_:=hc;subst hc;obtain⟨na,nc,rfl⟩:=Ap yT;obtain⟨sa,sc,rfl⟩:=Ap vv;exact⟨_,_,_,_,_,_,_,_,_,_,_,_,_,_,n,false,_,h⟩
def Oth (k:Nat) (w W:World):Prop:=w.heap.size<=W.heap.size/\∀j,j<w.heap.size->j≠k->W.heap[j]? =w.heap[j]?
theorem AAP {w:World} {base:Nat} {e:TypeId} {size:Nat} {v:Value} {n:Nat} {xs:List Value}(h:w.ownsRow base e size v n xs):∀b,v.ownBlock=some b->base<=b/\b<w.heap.size:=by
 intro b hb;rcases h.2 with⟨rfl,-⟩|⟨g,cap,cur,rfl,hg,hh,-⟩
 ·cases hb
 ·have e:g=b:=by simpa[Value.ownBlock]using hb
  subst e;exact⟨hg,(lN.1 hh).1⟩
theorem AAY (W:World) (b:Bool):Calls prog 11 #[.agg #[.int .i64 0,.string ⟨#[]⟩,.string ⟨#[]⟩,.int .u64 0,.int .i64 0,.slice none 0 0,.slice none 0 0,.slice none 0 0,.int .i64 0,.bool b],.agg #[.int .i64 0,.string ⟨#[]⟩,.string ⟨#[]⟩,.int .u64 0,.int .i64 0,.slice none 0 0,.slice none 0 0,.slice none 0 0,.int .i64 0,.bool b]] W fun e w'=>e= .returned (.bool true)/\Below W.heap.size W w':=
 AAa (names:= []) (sing:= []) (B:=0) (mK _) (mK _) (mq _ _ _ _) (mq _ _ _ _) (mq _ _ _ _) (mq _ _ _ _) (fun X _=>ABk X)
theorem ABK {O:Am} {q:Int} {s R:ByteArray} {L L':List Tk} {W6 W7 X W8:World} {kd v bits kd2 v2 bits2 n n2:Int} {nm nu nm2 nu2:ByteArray} {a a2 na na2 sa sa2:Option Addr} {al cap nl nc sl sc al2 qQ nl2 nc2 sl2 sc2:Nat} {b b2:Bool} {E E2:Value}
  (qk:L'.map strip=L.map strip) (RK:∀t st n,Sw O q F3 0 L none= .ok t st n->JS s t st n)
  (h1:Ce s W6 (Sw O q F3 0 L none) (.returned (.tuple #[.agg #[.int .i64 kd,.string nm,.string nu,.int .u64 bits,.int .i64 v,.slice a al cap,.slice na nl nc,.slice sa sl sc,.int .i64 n,.bool b],E])) W7)
  (hX:X.heap.size=W7.heap.size+1) (hb:Below W7.heap.size W7 X)
  (h2:Ce R X (Sw O q F3 0 L' none) (.returned (.tuple #[.agg #[.int .i64 kd2,.string nm2,.string nu2,.int .u64 bits2,.int .i64 v2,.slice a2 al2 qQ,.slice na2 nl2 nc2,.slice sa2 sl2 sc2,.int .i64 n2,.bool b2],E2])) W8):
  (kd2=kd/\nm2=nm/\nu2=nu/\bits2=bits/\v2=v/\al2=al/\nl2=nl/\sl2=sl/\b2=b)/\
  (∀W,Oth W7.heap.size W8 W->Calls prog 11 #[.agg #[.int .i64 kd,.string nm,.string nu,.int .u64 bits,.int .i64 v,.slice a al cap,.slice na nl nc,.slice sa sl sc,.int .i64 0,.bool b],.agg #[.int .i64 kd,.string nm,.string nu,.int .u64 bits,.int .i64 v,.slice a2 al qQ,.slice na2 nl nc2,.slice sa2 sl sc2,.int .i64 0,.bool b]] W fun e w'=>e= .returned (.bool true)/\Below W.heap.size W w')/\
  ((E= .nilIface/\E2= .nilIface)\/∃wd p p2,E= .iface 80 (.pointer (some ⟨p,0,none⟩))/\E2= .iface 80 (.pointer (some ⟨p2,0,none⟩))/\∀W,Oth W7.heap.size W8 W->(Calls prog 12 #[.iface 80 (.pointer (some ⟨p,0,none⟩))] W fun e w'=>e= .returned (.tuple #[.string wd,.bool true])/\Below W.heap.size W w')/\(Calls prog 12 #[.iface 80 (.pointer (some ⟨p2,0,none⟩))] W fun e w'=>e= .returned (.tuple #[.string wd,.bool true])/\Below W.heap.size W w')):=by
 obtain⟨g1,h1⟩:=h1;obtain⟨g2,h2⟩:=h2;have K1:∀W,Oth W7.heap.size W8 W->∀j,j<W7.heap.size->W.heap[j]? =W7.heap[j]? :=fun W hW j hj=>by
  have:=g2.size;rw[hW.2 j (by omega) (by omega),g2.block j (by omega),hb.block j hj]
 have K2:∀W,Oth W7.heap.size W8 W->∀j,X.heap.size<=j->j<W8.heap.size->W.heap[j]? =W8.heap[j]? :=fun W hW j hj vY=>hW.2 j vY (by omega);have z1:=g1.size;have z2:=g2.size;rcases ABP (O:=O) (q:=q) (F7:=F3) (p:=0) qk with⟨p,p2,e1,e2⟩|⟨wd,p,p2,e1,e2⟩|⟨t,st,p,p2,e1,e2⟩
 ·rw[e1]at h1;rw[e2]at h2;have h1:_=Ending.returned (.tuple #[.agg (Jp p),.nilIface]):=h1;have h2:_=Ending.returned (.tuple #[.agg (Jp p2),.nilIface]):=h2;unfold Jp at h1 h2;cases h1;cases h2;exact⟨⟨rfl,rfl,rfl,rfl,rfl,rfl,rfl,rfl,rfl⟩,fun W hW=>AAY W true,.inl ⟨rfl,rfl⟩⟩
 ·rw[e1]at h1;rw[e2]at h2;obtain⟨k,h1,hk,wK,sW⟩:=h1;obtain⟨k',h2,hk',hk1',hk2'⟩:=h2;unfold Ch at h1 h2;cases h1;cases h2;refine⟨⟨rfl,rfl,rfl,rfl,rfl,rfl,rfl,rfl,rfl⟩,fun W hW=>AAY W false,.inr ⟨wd,k+1,k'+1,rfl,rfl,fun W hW=>⟨?_,?_⟩⟩⟩
  ·exact fc wd ((K1 W hW _ (lN.1 wK).1).trans wK) ((K1 W hW _ (lN.1 sW).1).trans sW)
  ·exact fc wd ((K2 W hW _ hk' (lN.1 hk1').1).trans hk1') ((K2 W hW _ (Nat.le_succ_of_le hk') (lN.1 hk2').1).trans hk2')
 ·have RO:=RK _ _ _ e1;rw[e1]at h1;rw[e2]at h2;obtain⟨c,nv,sv,h1,htm,yT,vv⟩:=h1;obtain⟨c',qH,sv',h2,htm',hnv',hsv'⟩:=h2;obtain⟨c⟩:=c;obtain⟨c'⟩:=c';have T1:∀W,Oth W7.heap.size W8 W->AT W (fun j=>j<W8.heap.size) c t:=fun W hW=>AT.Ak (fun j hj=>K1 W hW j hj.2) (fun j hj=>by omega) htm;have T2:∀W,Oth W7.heap.size W8 W->AT W (fun j=>j<W8.heap.size) c' t:=fun W hW=>AT.Ak (fun j hj=>K2 W hW j hj.1 hj.2) (fun j hj=>hj.2) htm';have o8:Oth W7.heap.size W8 W8:=⟨lM _,fun _ _ _=>rfl⟩;obtain⟨kd0,nm0,nu0,bits0,v0,a0,cap0,a0',cap0',hc,hc',-⟩:=AT.two (T1 W8 o8) (T2 W8 o8);subst hc hc';obtain⟨na0,nc0,rfl⟩:=Ap yT;obtain⟨sa0,sc0,rfl⟩:=Ap vv;obtain⟨na0',nc0',rfl⟩:=Ap hnv';obtain⟨sa0',sc0',rfl⟩:=Ap hsv';have l1:=RO.jh;have l2:=RO.jm;have l3:=JX st.names st.times;have hnL:st.names.length<=1000000:=by omega
  have hsL:(Aw st.names st.times).length<=1000000:=by omega
  have h1:_=Ending.returned (.tuple #[.agg #[.int .i64 kd0,.string nm0,.string nu0,.int .u64 bits0,.int .i64 v0,.slice a0 (AJ t).length cap0,.slice na0 st.names.length nc0,.slice sa0 (Aw st.names st.times).length sc0,.int .i64 p,.bool false],.nilIface]):=h1;have h2:_=Ending.returned (.tuple #[.agg #[.int .i64 kd0,.string nm0,.string nu0,.int .u64 bits0,.int .i64 v0,.slice a0' (AJ t).length cap0',.slice na0' st.names.length nc0',.slice sa0' (Aw st.names st.times).length sc0',.int .i64 p2,.bool false],.nilIface]):=h2;simp only[Ending.returned.injEq,Value.tuple.injEq,Value.agg.injEq,Array.mk.injEq,List.cons.injEq,Value.int.injEq,Value.string.injEq,mX,Value.bool.injEq,pZ,true_and]at h1 h2;obtain⟨⟨rfl,rfl,rfl,rfl,rfl,⟨rfl,rfl,rfl⟩,⟨rfl,rfl,rfl⟩,⟨rfl,rfl,rfl⟩,rfl,rfl⟩,rfl⟩:=h1;obtain⟨⟨rfl,rfl,rfl,rfl,rfl,⟨rfl,rfl,rfl⟩,⟨rfl,rfl,rfl⟩,⟨rfl,rfl,rfl⟩,rfl,rfl⟩,rfl⟩:=h2;refine⟨⟨rfl,rfl,rfl,rfl,rfl,rfl,rfl,rfl,rfl⟩,fun W hW=> ?_,.inl ⟨rfl,rfl⟩⟩;refine AAa (B:=0) hnL hsL (AS (Iq (mK _) yT) fun j hj=>K1 W hW j (AAP yT j hj).2) (AS (Iq (mK _) hnv') fun j hj=>K2 W hW j (AAP hnv' j hj).1 (AAP hnv' j hj).2) (AS (Iq (mK _) vv) fun j hj=>K1 W hW j (AAP vv j hj).2) (AS (Iq (mK _) hsv') fun j hj=>K2 W hW j (AAP hsv' j hj).1 (AAP hsv' j hj).2) (fun V hV=> ?_);exact WV (P:=AAd) ABM ABo _ t (lM _) (AB5 RO.F7) _ _ (fun j=>j<W8.heap.size) V (fun j hj=>lR hj (lg hW.1 hV.size)) (AT.Ak (fun j hj=>hV.block j (lR hj hW.1)) (fun j hj=>hj) (T1 W hW)) (AT.Ak (fun j hj=>hV.block j (lR hj hW.1)) (fun j hj=>hj) (T2 W hW))
theorem AB4 {j:Nat}(h:j<6):∃lay,ACK[j]? =some lay/\AAM lay/\lay.size<=11:=by
 match j,h with
 |0,_=>exact⟨_,rfl,ACF,by decide⟩
 |1,_=>exact⟨_,rfl,ACE,by decide⟩
 |2,_=>exact⟨_,rfl,ACI,by decide⟩
 |3,_=>exact⟨_,rfl,ACH,by decide⟩
 |4,_=>exact⟨_,rfl,ACD,by decide⟩
 |5,_=>exact⟨_,rfl,ACJ,by decide⟩
 |k+6,h=>omega
theorem Tryz.law4 {w:World}(hL:DK w) (s:ByteArray) (la:Option Addr) (lc g o:Nat) (xs:Be) (q z:Int) (hs:s.size<=1048576) (vU:xs≠ []->la=some ⟨g,o,none⟩) (hx:Lg w g o xs) (uT:xs.length<=10000000) (hq: -9223372036854775808<=q/\q<=9223372036854775807) (hz: -9223372036854775808<=z/\z<=9223372036854775807):
  Calls prog 4 #[.string s,.slice la xs.length lc,.int .i64 q,.int .i64 z] w fun e w'=>e= .returned (.bool true)/\Below w.heap.size w w':=by
 have CA:=lK (gR hL);have CT:Hid (∀W,Below w.heap.size w W->Calls prog 6 #[.slice la xs.length lc] W (I5 W)):=lK (fun W hb=>Zl W la lc g o xs vU (AAt hx hb) uT (MG (hL.below hb)));have CR:Hid (∀(x:ByteArray) (L:List Tk),x.size<=20000000->Ct x 0 L none->∀(W:World) (ob m0 m1 m2:Nat) (O:Am),Below w.heap.size w W->Dh W ob m0 m1 m2 O->Nl O->Calls prog 7 #[.string x,.int .i64 0,.pointer (some ⟨ob,0,none⟩),.agg #[.int .i64 q]] W (Ce x W (Sw O q F3 0 L none))):=lK (fun x L yl hT W ob m0 m1 m2 O hb ht hp=>Xu (at_:=0) yl (mK _) hq (hL.below hb) ht hp hT);have CS:Hid (∀W (lay:ByteArray),Below w.heap.size w W->lay.size<=11->Calls prog 10 #[.string s,.string lay] W (AB7 s lay W)):=lK (fun W lay hb hy=>ABn (hL.below hb) s lay hs hy);have RK:Hid (∀(O:Am) L t st n,Ct s 0 L none->Sw O q F3 0 L none= .ok t st n->JS s t st n):=lK (fun O L t st n hT h=>dH (by omega) (mK _) hT h);generalize xs.length=xl at CT⊢;have HSZ:=lK hs;clear hL vU hx uT;go_enter func4,ntmps4
 go_wp2_with (go_at_call 5;(with_reducible refine CA.o.mono ?_);rintro e W1 ⟨rfl,b1⟩)
 have B1:=lK b1;clear b1 CA
 go_wp2_with (go_at_call 6;(with_reducible refine(CT.o _ B1.o).mono ?_))
 rintro e W2 ⟨Q,db,lv,N,O,l,rfl,hti⟩;have B2:Hid (Below w.heap.size w W2):=lK (B1.o.trans (hti.Ac.mono B1.o.size));have HT:=lK hti.Fm.at;have zx:=lK hti.pr;clear hti CT;have CL:Hid (∀m:Nat,m<6->∀W:World,W.heap[W2.heap.size]? =some (.cells #[.string ⟨#[32]⟩,.string ⟨#[10]⟩,.string ⟨#[9,32,10]⟩,.string ⟨#[32,47,42,32,46,32,42,47]⟩,.string ⟨#[37,32,120,46,32,121,10]⟩,.string ⟨#[32,47,42,32,42,32,47,32,42,47,32]⟩] 9)->∃lay,AAM lay/\lay.size<=11/\W.cell? ⟨W2.heap.size,m,none⟩=some (.string lay)):=lK (fun m hm W HC5=>by
  obtain⟨lay,hlay,vJ,rH⟩:=AB4 hm;refine⟨lay,vJ,rH,?_⟩;rw[mT W W2.heap.size m _ 9 (0,0) HC5];show(ACK.map Value.string).toArray[m]? =_;rw[oJ,mj,hlay];rfl)
 obtain⟨u,m,hm6,hu1,hu2,em,hyz⟩:∃(u:Int) (m:Nat),m<6/\0<=u/\u<=9223372036854775807/\Int.tmod u 6=(m:Int)/\((0<=z/\z=u)\/(z<0/\z+1= -u)):=by
  by_cases h:0<=z
  ·exact⟨z,(z %6).toNat,by omega,h,hz.2,by rw[Int.tmod_eq_emod_of_nonneg h];omega,.inl ⟨h,rfl⟩⟩
  ·exact⟨-(z+1),((-(z+1)) %6).toNat,by omega,by omega,by omega,by rw[Int.tmod_eq_emod_of_nonneg (by omega)];omega,.inr ⟨by omega,by omega⟩⟩
 have HYZ:=lK hyz;have HEM:=lK em;clear hyz em
 go_upto_region 6 with fail
 generalize hW5:World.alloc W2 _=W5;have HC5:Hid (W5.heap[W2.heap.size]? =some (.cells #[.string ⟨#[32]⟩,.string ⟨#[10]⟩,.string ⟨#[9,32,10]⟩,.string ⟨#[32,47,42,32,46,32,42,47]⟩,.string ⟨#[37,32,120,46,32,121,10]⟩,.string ⟨#[32,47,42,32,42,32,47,32,42,47,32]⟩] 9)):=lK (by rw[<-hW5];exact lT W2 _);have b5:Hid (Below W2.heap.size W2 W5):=lK (by rw[<-hW5];exact Bzz _);clear hW5;have B5:Hid (Below w.heap.size w W5):=lK (B2.o.trans (b5.o.mono B2.o.size));have HT5:=lK (HT.o.below b5.o)
 go_upto_if 40 with fail
 go_cut [3] (fun v3 wx=>v3= .int .i64 u/\W5=wx)
 case first=>
  rcases HYZ.o with⟨qg,qe⟩|⟨qg,qe⟩
  ·have hzn:¬(z<0):=by omega
   have HZ:=lK qe;clear qe
   go_wp2_with fail
   go_meet;exact⟨by rw[HZ.o],rfl⟩
  ·have HZ:=lK qe;clear qe
   go_wp2_with fail
   go_meet;exact⟨by rw[show-(z+1)=u by have:=HZ.o;omega],rfl⟩
 case rest=>
  obtain⟨rfl,rfl⟩:=hcut;obtain⟨lay,vJ,rH,c0⟩:=CL.o m hm6 W5 HC5.o;have em:=HEM.o;have emt:(m:Int).toNat=m:=mB m;have hmI:(m:Int)<6:=by omega
  have C10:=lK (CS.o W5 lay B5.o rH);have HOK:=lK vJ;clear vJ rH HC5 b5 CS CL HEM HYZ hz
  go_wp2_with (go_at_call 10;(with_reducible refine C10.o.mono ?_))
  rintro e W6 ⟨h6,b6⟩;have B6:Hid (Below w.heap.size w W6):=lK (B5.o.trans (b6.mono B5.o.size));have HT6:=lK (HT5.o.below b6);clear b6 c0 em hmI hm6 C10;rcases h6 with⟨R,hR,hRs,rfl⟩|rfl
  rotate_left
  ·go_wp2;refine lS (v:= .bool true) ?_ rfl ⟨rfl,B6.o⟩;simp only[results,results4];go_simp
  obtain⟨m,-,-,L,L',hT,hT',qk⟩:=Spc.main HOK.o hR (mK _);have C1:=lK (CR.o s L (by have:=HSZ.o;omega) hT W6 W1.heap.size (W1.heap.size+1) (W1.heap.size+2) (W1.heap.size+3) O B6.o HT6.o zx.o);have CB1:=lK (fun W=>CR.o R L' hRs hT' W W1.heap.size (W1.heap.size+1) (W1.heap.size+2) (W1.heap.size+3) O);have RKL:=lK (fun t st n=>RK.o O L t st n hT);have ST:=lK qk;clear hT hT' qk hR HOK CR RK
  go_wp2_with (go_at_call 7;(refine C1.o.mono ?_))
  intro e W7 h7;obtain⟨kd,nm,nu,bits,v,a,al,cap,na,nl,nc,sa,sl,sc,n,b,E,rfl⟩:=AA8 h7;have H7:=lK h7;have B7:Hid (Below w.heap.size w W7):=lK (B6.o.trans (h7.1.mono B6.o.size));have HT7:=lK (HT6.o.below h7.1);clear h7 C1 HT6 B6
  go_upto_region 12 with fail
  generalize hX:World.alloc W7 _=X;have HX:Hid (X.heap[W7.heap.size]? =some (.cells #[.int .i64 kd,.string nm,.string nu,.int .u64 bits,.int .i64 v,.slice a al cap,.slice na nl nc,.slice sa sl sc,.int .i64 n,.bool b] 35)):=lK (by rw[<-hX];exact lT W7 _);have bX:Hid (Below W7.heap.size W7 X):=lK (by rw[<-hX];exact Bzz _);have ZX:Hid (X.heap.size=W7.heap.size+1):=lK (by rw[<-hX];simp);clear hX;have BX:Hid (Below w.heap.size w X):=lK (B7.o.trans (bX.o.mono B7.o.size));have HTX:=lK (HT7.o.below bX.o);have C2:=lK (CB1.o X BX.o HTX.o zx.o);clear CB1 HT7 HTX zx
  go_wp2_with (go_at_call 7;(refine C2.o.mono ?_))
  intro e W8 h8;obtain⟨kd2,nm2,nu2,bits2,v2,a2,al2,qQ,na2,nl2,nc2,sa2,sl2,sc2,n2,b2,E2,rfl⟩:=AA8 h8;obtain⟨⟨rfl,rfl,rfl,rfl,rfl,rfl,rfl,rfl,rfl⟩,C11,hE⟩:=ABK ST.o RKL.o H7.o ZX.o bX.o h8;have HX8:Hid (W8.heap[W7.heap.size]? =some (.cells #[.int .i64 kd2,.string nm2,.string nu2,.int .u64 bits2,.int .i64 v2,.slice a al2 cap,.slice na nl2 nc,.slice sa sl2 sc,.int .i64 n,.bool b2] 35)):=lK ((h8.1.block _ (lN.1 HX.o).1).trans HX.o);have LX8:Hid (W7.heap.size<W8.heap.size):=lK (lN.1 HX8.o).1;have B8:Hid (Below w.heap.size w W8):=lK (BX.o.trans (h8.1.mono BX.o.size));have L7:Hid (w.heap.size<=W7.heap.size):=lK B7.o.size;have HE:=lK hE;have K11:=lK C11;clear h8 C2 H7 ST RKL HX bX BX B7 ZX hE C11
  go_upto_region 13 with fail
  generalize hV:World.alloc W8 _=V;have HV:Hid (V.heap[W8.heap.size]? =some (.cells #[.int .i64 kd2,.string nm2,.string nu2,.int .u64 bits2,.int .i64 v2,.slice a2 al2 qQ,.slice na2 nl2 nc2,.slice sa2 sl2 sc2,.int .i64 n2,.bool b2] 35)):=lK (by rw[<-hV];exact lT W8 _);have bV:Hid (Below W8.heap.size W8 V):=lK (by rw[<-hV];exact Bzz _);clear hV;have HVX:Hid (V.heap[W7.heap.size]? =some (.cells #[.int .i64 kd2,.string nm2,.string nu2,.int .u64 bits2,.int .i64 v2,.slice a al2 cap,.slice na nl2 nc,.slice sa sl2 sc,.int .i64 n,.bool b2] 35)):=lK ((bV.o.block _ LX8.o).trans HX8.o);have B9:Hid (Below w.heap.size w V):=lK (B8.o.trans (bV.o.mono B8.o.size));clear HX8 B8;have L8:Hid (W7.heap.size<V.heap.size/\W8.heap.size<V.heap.size):=lK ⟨(lN.1 HVX.o).1,(lN.1 HV.o).1⟩;have x8:=mT V W7.heap.size 8 _ 35 (0,0) HVX.o;simp only[oJ,nX,List.getElem?_cons_succ]at x8;have fx:=Lib.frozen_of_heap HVX.o 8
  go_upto_region 14 with fail
  generalize hV1:World.setCell V _ _=V1;have HX1:Hid (V1.heap[W7.heap.size]? =some (.cells #[.int .i64 kd2,.string nm2,.string nu2,.int .u64 bits2,.int .i64 v2,.slice a al2 cap,.slice na nl2 nc,.slice sa sl2 sc,.int .i64 0,.bool b2] 35)):=lK (by rw[<-hV1];exact Eh HVX.o 8 _);have HY1:Hid (V1.heap[W8.heap.size]? =some (.cells #[.int .i64 kd2,.string nm2,.string nu2,.int .u64 bits2,.int .i64 v2,.slice a2 al2 qQ,.slice na2 nl2 nc2,.slice sa2 sl2 sc2,.int .i64 n2,.bool b2] 35)):=lK (by rw[<-hV1,AA _ _ _ (by show W8.heap.size≠W7.heap.size;have:=LX8.o;omega)];exact HV.o);have O1:Hid (Oth W7.heap.size V V1):=lK ⟨by rw[<-hV1,size_set];exact lM _,fun j hj qP=>by rw[<-hV1];exact AA _ _ _ qP⟩;have B10:Hid (Below w.heap.size w V1):=lK (by rw[<-hV1];exact B9.o.setCell (p:=⟨W7.heap.size,8,none⟩) L7.o _);clear hV1 x8 fx HV HVX B9;have x8:=mT V1 W8.heap.size 8 _ 35 (0,0) HY1.o;simp only[oJ,nX,List.getElem?_cons_succ]at x8;have fx:=Lib.frozen_of_heap HY1.o 8
  go_upto_region 15 with fail
  generalize hZ:World.setCell V1 _ _=Z;have HXZ:Hid (Z.heap[W7.heap.size]? =some (.cells #[.int .i64 kd2,.string nm2,.string nu2,.int .u64 bits2,.int .i64 v2,.slice a al2 cap,.slice na nl2 nc,.slice sa sl2 sc,.int .i64 0,.bool b2] 35)):=lK (by rw[<-hZ,AA _ _ _ (by show W7.heap.size≠W8.heap.size;have:=LX8.o;omega)];exact HX1.o);have HYZ:Hid (Z.heap[W8.heap.size]? =some (.cells #[.int .i64 kd2,.string nm2,.string nu2,.int .u64 bits2,.int .i64 v2,.slice a2 al2 qQ,.slice na2 nl2 nc2,.slice sa2 sl2 sc2,.int .i64 0,.bool b2] 35)):=lK (by rw[<-hZ];exact Eh HY1.o 8 _);have BZ:Hid (Below w.heap.size w Z):=lK (by rw[<-hZ];exact B10.o.setCell (p:=⟨W8.heap.size,8,none⟩) (lg L7.o (mW LX8.o)) _);have OZ:Hid (Oth W7.heap.size W8 Z):=lK ⟨by rw[<-hZ,size_set];exact lg bV.o.size O1.o.1,fun j hj qP=>by rw[<-hZ,AA _ _ _ (by show j≠W8.heap.size;omega)];exact(O1.o.2 j (lR hj bV.o.size) qP).trans (bV.o.block j hj)⟩;clear hZ x8 fx HX1 HY1 O1 B10 bV;have C11:=lK (K11.o Z OZ.o);have p0:=mT Z W7.heap.size 0 _ 35 (0,0) HXZ.o;have p1:=mT Z W7.heap.size 1 _ 35 (0,0) HXZ.o;have p2:=mT Z W7.heap.size 2 _ 35 (0,0) HXZ.o;have p3:=mT Z W7.heap.size 3 _ 35 (0,0) HXZ.o;have p4:=mT Z W7.heap.size 4 _ 35 (0,0) HXZ.o;have p5:=mT Z W7.heap.size 5 _ 35 (0,0) HXZ.o;have p6:=mT Z W7.heap.size 6 _ 35 (0,0) HXZ.o;have p7:=mT Z W7.heap.size 7 _ 35 (0,0) HXZ.o;have p8:=mT Z W7.heap.size 8 _ 35 (0,0) HXZ.o;have p9:=mT Z W7.heap.size 9 _ 35 (0,0) HXZ.o;have q0:=mT Z W8.heap.size 0 _ 35 (0,0) HYZ.o;have q1:=mT Z W8.heap.size 1 _ 35 (0,0) HYZ.o;have q2:=mT Z W8.heap.size 2 _ 35 (0,0) HYZ.o;have q3:=mT Z W8.heap.size 3 _ 35 (0,0) HYZ.o;have q4:=mT Z W8.heap.size 4 _ 35 (0,0) HYZ.o;have q5:=mT Z W8.heap.size 5 _ 35 (0,0) HYZ.o;have q6:=mT Z W8.heap.size 6 _ 35 (0,0) HYZ.o;have q7:=mT Z W8.heap.size 7 _ 35 (0,0) HYZ.o;have q8:=mT Z W8.heap.size 8 _ 35 (0,0) HYZ.o;have q9:=mT Z W8.heap.size 9 _ 35 (0,0) HYZ.o;simp only[oJ,nX,List.getElem?_cons_succ]at p0 p1 p2 p3 p4 p5 p6 p7 p8 p9 q0 q1 q2 q3 q4 q5 q6 q7 q8 q9;clear K11
  go_wp2_with (go_at_call 11;(with_reducible refine C11.o.mono ?_))
  rintro e W9 ⟨rfl,b9⟩;have B12:Hid (Below w.heap.size w W9):=lK (BZ.o.trans (b9.mono BZ.o.size));have O9:Hid (Oth W7.heap.size W8 W9):=lK ⟨lg OZ.o.1 b9.size,fun j hj qP=>(b9.block j (lR hj OZ.o.1)).trans (OZ.o.2 j hj qP)⟩;clear b9 C11 OZ BZ HXZ HYZ;clear p0 p1 p2 p3 p4 p5 p6 p7 p8 p9 q0 q1 q2 q3 q4 q5 q6 q7 q8 q9;rcases HE.o with⟨e1,e2⟩|⟨wd,p,p2,e1,e2,hw⟩
  ·subst e1 e2;clear HE;go_wp2;refine lS (v:= .bool true) ?_ rfl ⟨rfl,B12.o⟩;simp only[results,results4];go_simp
  ·subst e1 e2;have HW:=lK hw;have C1:=lK (hw W9 O9.o).1;clear HE hw
   go_wp2_with (go_at_call 12;(with_reducible refine C1.o.mono ?_))
   rintro e W10 ⟨rfl,b10⟩;have B13:Hid (Below w.heap.size w W10):=lK (B12.o.trans (b10.mono B12.o.size));have O10:Hid (Oth W7.heap.size W8 W10):=lK ⟨lg O9.o.1 b10.size,fun j hj qP=>(b10.block j (lR hj O9.o.1)).trans (O9.o.2 j hj qP)⟩;have C2:=lK (HW.o W10 O10.o).2;clear b10 C1 O9 B12 HW
   go_wp2_with (go_at_call 12;(with_reducible refine C2.o.mono ?_))
   rintro e W11 ⟨rfl,b11⟩;have B14:Hid (Below w.heap.size w W11):=lK (B13.o.trans (b11.mono B13.o.size));clear b11 C2 B13 O10;go_wp2;refine lS (v:= .bool true) ?_ rfl ⟨rfl,B14.o⟩;simp only[results,results4];go_simp
end Go.Proofs
namespace Go.Proofs.YtpocgkiamgipdaaGreatDoor
open Go Go.Proofs Go.RowKit Go.Hb Go.Pz
theorem AB6 {n:Int}(h:(Lit.int .i64 n).wf=true): -9223372036854775808<=n/\n<=9223372036854775807:=by
 have h1:IntKind.i64.min= -9223372036854775808:=by kernel_rfl
 have h2:IntKind.i64.max=9223372036854775807:=by kernel_rfl
 simp only[Lit.wf,mJ,mL,h1,h2]at h;exact h
theorem AAv (s:ByteArray) (la:Option Addr) (lc g o:Nat) (xs:Be) (n m:Int) (W:World) (hs:s.size<=1048576) (vU:xs≠ []->la=some ⟨g,o,none⟩) (hx:Lg W g o xs) (uT:xs.length<=1048576) (hn:(Lit.int .i64 n).wf=true) (hm:(Lit.int .i64 m).wf=true) (hL:laidMet prog Rows.parserSpacedUptoRow.laid W) (hsh:W.ShapedOpen prog):
  Calls prog 4 #[.string s,.slice la xs.length lc,.int .i64 n,.int .i64 m] W fun e w'=>e= .returned (.bool true)/\Below W.heap.size W w':=
 Tryz.law4 (DK.of hL hsh) s la lc g o xs n m hs vU hx (by omega) (AB6 hn) (AB6 hm)
end Go.Proofs.YtpocgkiamgipdaaGreatDoor
