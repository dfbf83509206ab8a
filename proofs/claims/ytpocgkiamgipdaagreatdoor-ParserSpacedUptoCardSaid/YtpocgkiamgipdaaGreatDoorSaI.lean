import Derived.Test.YtpocgkiamgipdaaGreatDoorRdZ
import Derived.Test.YtpocgkiamgipdaaGreatDoorTbh
set_option maxRecDepth 1000000
set_option maxHeartbeats 0
set_option linter.unusedVariables false
set_option linter.unusedSimpArgs false
open Go.Proofs.Tryz
namespace Go.Proofs
open Go.RowKit Go.Hb Go.Pz
theorem bG {t:Tm} {c:Array Value} {S:Nat->Prop} {w:World}(hS:∀b,S b->b<w.heap.size) (h:AT w S c.toList t):
  Calls prog 45 #[.agg c] w fun e w'=>e= .returned (.int .i64 (Dx t 0))/\Below w.heap.size w w':=by
 have C6:Hid (c.size=6):=lK (by have:=h.len;simpa using this);have HB:=lK (show Below w.heap.size w (w.alloc (.cells c 31))from Bzz _);have HC:=lK (aO _ t (lM _) c 0 S (w.alloc (.cells c 31)) (fun b hb=>lR (hS b hb) HB.o.size) (AT.Ak (fun b hb=>HB.o.block b (hS b hb)) (fun _ h=>h) h) (mK _));have HN:=lK (lT w (.cells c 31));have hl:=(Hj t 0 (mK _)).2;obtain⟨m,hm⟩:∃m,m=Dx t 0:=⟨_,rfl⟩;rw[<-hm]at HC hl⊢;have hmi:(m:Int)<=4001:=by omega
 clear h hS hm hl;go_enter func45,ntmps45
 go_wp2_with (first|(refine KK rfl _ rfl w.heap.size c C6.o rfl HN.o ?_)|(go_at_call 73;(refine HC.o.mono ?_)))
 rintro e W1 ⟨rfl,b1⟩;have B1:=lK (HB.o.trans (b1.mono HB.o.size));clear b1;go_wp2;have e:min (m:Int) 4001=m:=Int.min_eq_left hmi;rw[e];refine lS (v:= .int .i64 m) ?_ rfl ⟨rfl,B1.o⟩;simp[results,results45]
theorem I8 {vs is:Bs->Bool} {fs:Nat->Bool}(t:Tm):JH vs is fs t=if Av vs is fs t=0 then F0 vs is fs (AJ t)else Av vs is fs t:=by
 cases t with
 |cmp s l=>simp only[JH,AJ]
 |_=>simp only[JH,AJ,F0];split<;>simp_all
theorem MB {vs is:Bs->Bool} {fs:Nat->Bool} {t:Tm}(h:Av vs is fs t=0):(AJ t).length<=64:=by
 cases t with
 |cmp s l=>
  simp only[Av]at h;split at h
  ·cases h
  ·show l.length<=64;omega
 |_=>exact mK _
def kE (nd a:Nat):Nat:=if nd=0 then a else nd
theorem Ws {nd a:Nat}(h:¬nd=0):kE nd a=nd:=lL h
def Qb (vs is:Bs->Bool) (fs:Nat->Bool) (P:Tm->Prop) (I:World->Prop):Prop:=∀(t:Tm) (c:Array Value) (S:Nat->Prop) (w:World),P t->I w->(∀b,S b->b<w.heap.size)->AT w S c.toList t->Calls prog 74 #[.agg c] w fun e w'=>e= .returned (.int .i64 (Av vs is fs t))/\Below w.heap.size w w'
theorem bJ {vs is:Bs->Bool} {fs:Nat->Bool} {P:Tm->Prop} {I:World->Prop}(hP:∀t,P t->∀x∈AJ t,P x) (hI:∀w w':World,I w->Below w.heap.size w w'->I w') (hN:Qb vs is fs P I) (n:Nat):∀(t:Tm),SizeOf.sizeOf t<=n->∀(c:Array Value) (S:Nat->Prop) (w:World),P t->I w->(∀b,S b->b<w.heap.size)->AT w S c.toList t->
  Calls prog 46 #[.agg c] w fun e w'=>e= .returned (.int .i64 (JH vs is fs t))/\Below w.heap.size w w':=by
 induction n with
 |zero=>intro t ht;cases t<;>simp at ht
 |succ n ih=>
  intro t ht c S w hp hiw hS h;have hB:=show Below w.heap.size w (w.alloc (.cells c 31))from Bzz _;have uH:=lK (hN t c S (w.alloc (.cells c 31)) hp (hI _ _ hiw hB) (fun b hb=>lR (hS b hb) hB.size) (AT.Ak (fun b hb=>hB.block b (hS b hb)) (fun _ h=>h) h));obtain⟨c⟩:=c;obtain⟨kd,nm,nu,bits,v,a,cap,hc,hl⟩:=AT.form h;have hc:c=_:=hc;subst hc;obtain⟨r,hr⟩:∃r,r=JH vs is fs t:=⟨_,rfl⟩;rw[<-hr];obtain⟨len,hlen⟩:∃len,len=(AJ t).length:=⟨_,rfl⟩;rw[<-hlen]at uH hB⊢;have uH:Hid (Calls prog 74 #[.agg #[.int .i64 kd,.string nm,.string nu,.int .u64 bits,.int .i64 v,.slice a len cap]] (w.alloc (.cells #[.int .i64 kd,.string nm,.string nu,.int .u64 bits,.int .i64 v,.slice a len cap] 31)) fun e w'=>e= .returned (.int .i64 (Av vs is fs t))/\Below (w.alloc (.cells #[.int .i64 kd,.string nm,.string nu,.int .u64 bits,.int .i64 v,.slice a len cap] 31)).heap.size (w.alloc (.cells #[.int .i64 kd,.string nm,.string nu,.int .u64 bits,.int .i64 v,.slice a len cap] 31)) w'):=uH;have hB:Below w.heap.size w (w.alloc (.cells #[.int .i64 kd,.string nm,.string nu,.int .u64 bits,.int .i64 v,.slice a len cap] 31)):=hB;have HR:Hid (r=kE (Av vs is fs t) (F0 vs is fs (AJ t))):=lK (hr.trans (I8 t));have HN6:=lK (fun(h0:Hid (Av vs is fs t=0))=>(MB h0.o));have IH:=lK (fun x (hx:x∈AJ t) (c:Array Value) (W:World) (hb:Below w.heap.size w W) (hd:AT w S c.toList x)=>ih x (Nat.le_of_lt_succ (lR (EP hx) ht)) c S W (hP t hp x hx) (hI _ _ hiw hb) (fun b hh=>lR (hS b hh) hb.size) (AT.Ak (fun b hh=>hb.block b (hS b hh)) (fun _ h=>h) hd));have HS:=lK hS;have HL:=lK hl;have rz:=lK hlen;have BW:=lK hB;clear hB;obtain⟨nd,xF⟩:∃nd,nd=Av vs is fs t:=⟨_,rfl⟩;rw[<-xF]at uH HR HN6;clear h ih ht hS hl hr hlen hp hiw hN hI hP xF;show Calls prog 46 #[.agg #[.int .i64 kd,.string nm,.string nu,.int .u64 bits,.int .i64 v,.slice a len cap]] w _;have vf:=lK (lT w (.cells #[.int .i64 kd,.string nm,.string nu,.int .u64 bits,.int .i64 v,.slice a len cap] 31));have LA:Hid (w.heap.size<(w.alloc (.cells #[.int .i64 kd,.string nm,.string nu,.int .u64 bits,.int .i64 v,.slice a len cap] 31)).heap.size):=lK (by simp);go_enter func46,ntmps46
  go_upto_region 1 with fail
  generalize w.alloc (.cells #[.int .i64 kd,.string nm,.string nu,.int .u64 bits,.int .i64 v,.slice a len cap] 31)=A at*
  go_wp2_with (first|(refine KK rfl _ rfl w.heap.size #[.int .i64 kd,.string nm,.string nu,.int .u64 bits,.int .i64 v,.slice a len cap] rfl rfl vf.o ?_)|(go_at_call 74;(refine uH.o.mono ?_)))
  first|rintro e W1 rfl b1|rintro e W1 ⟨rfl,b1⟩
  have B1:=lK (BW.o.trans (b1.mono BW.o.size));have x5:W1.cell? ⟨w.heap.size,5,none⟩=some (.slice a len cap):=by
   rw[Lib.cell_of_heap ((b1.block w.heap.size LA.o).trans vf.o)];rfl
  clear b1 vf BW uH;by_cases h0:nd=0
  ·subst h0;have L64:len<=64:=by have:=HN6.o (lK rfl);have:=rz.o;omega
   have l64:(len:Int)<=64:=by omega
   have qZ:Hid (r=F0 vs is fs (AJ t)):=HR;clear HR HN6
   go_upto_block 0 with fail
   clear x5
   go_wp2_with fail
   go_loopw [15] (fun v15 wr=>∃(i:Nat),v15= .int .i64 i/\Hid (i<=len/\r=F0 vs is fs ((AJ t).drop i)/\Below w.heap.size w wr)) (fun v15 _=>match v15 with| .int .i64 i=>len-i.toNat|_=>0)
   case atStart=>exact⟨0,rfl,lK ⟨mK _,qZ.o,B1.o⟩⟩
   case round=>
    obtain⟨i,rfl,hq⟩:=hrel;obtain⟨g2,g3,g4⟩:=hq.o;have G3:=lK g3;have BR:=lK g4;have bi:(i:Int)<=64:=by omega
    by_cases hi:i<len
    ·have ui:(i:Int)<len:=by omega
     obtain⟨x,hx⟩:∃x,(AJ t)[i]? =some x:=⟨_,lu (by have:=rz.o;omega)⟩;obtain⟨b,off,cs,rfl,uR,qy,tW⟩:∃b off cs,a=some ⟨b,off,none⟩/\S b/\(∀j,j<cs.length->w.cell? ⟨b,off+j,none⟩=cs[j]?)/\BJ w S cs (AJ t):=by
      rcases HL.o with h1|h1
      ·rw[h1]at hx;cases hx
      ·exact h1
     obtain⟨d0,sJ,uW⟩:=tW.at hx;obtain⟨c0,rfl⟩:∃c0:Array Value,d0=c0.toList:=⟨⟨d0⟩,rfl⟩;have z0:Hid (c0.size=6):=lK (by have:=sJ.len;simpa using this);have Z1:=lK (AT.Bq sJ);have qq:=HS.o b uR;have vI:w.rangeAt b (off+i*6) c0.toList:=fun j v hv=>by
      have hj:j<6:=by
       have h1:=(mC.1 hv).1;have h2:=z0.o;rw[nG]at h1;omega
      have h1:=uW j hj;have h2:6*i+j<cs.length:=by
       rcases ls (6*i+j) cs.length with h|h
       ·exact h
       ·rw[mr h]at h1;rw[<-h1]at hv;cases hv
      rw[show off+i*6+j=off+(6*i+j) by omega,qy _ h2,h1,hv]
     have RG:Hid (wr.rangeAt b (off+i*6) c0.toList):=lK (fun j v hv=>(BR.o.cell (p:=⟨b,off+i*6+j,none⟩) qq).trans (vI j v hv));have HX:=lK hx;have HD:=lK sJ;have G4:Hid (r=kE (JH vs is fs x) (F0 vs is fs ((AJ t).drop (i+1)))):=lK (by rw[G3.o,drop_cons hx];simp only[F0];rfl);clear hx uR qy tW uW sJ qq vI hq g2 g3 g4;have ZL:Hid ((Tryz.prog.info? 31).map (·.size)=some c0.toList.length):=lK (by rw[nG,z0.o];exact Cg);have NE:=lK (lT wr (.cells zV 31));have BX:=lK (Below.row ((Below.refl wr.heap.size wr).alloc (lM _) (.cells zV 31)) (lM _) c0);have uC:Hid (((wr.alloc (.cells zV 31)).setRow wr.heap.size c0).heap[wr.heap.size]? =some (.cells c0 31)):=lK (mF _ _ _ _ _ _ NE.o)
     go_upto_region 7 with(first|(refine wpList_load_mid rfl 31 _ rfl b (off+i*6) rfl c0.toList _ RG.o mE rfl ZL.o ?_)|(refine F8 rfl _ _ rfl wr.heap.size c0 rfl rfl _ NE.o rfl z0.o Z1.o ?_))
     have wC:=lK (BR.o.trans (BX.o.mono BR.o.size));clear NE BX;generalize(wr.alloc (.cells zV 31)).setRow wr.heap.size c0=X at*;generalize wr.heap.size=T at*
     try simp only[Act.put]
     have HC:=lK (IH.o x (mP HX.o) c0 X wC.o HD.o);obtain⟨m2,si⟩:∃m2,m2=JH vs is fs x:=⟨_,rfl⟩;rw[<-si]at HC G4;clear si G3
     go_wp2_with (first|(refine KK rfl _ rfl T c0 z0.o rfl uC.o ?_)|(go_at_call 46;(refine HC.o.mono ?_)))
     first|rintro e W5 rfl b5|rintro e W5 ⟨rfl,b5⟩
     have B5:=lK (wC.o.trans (b5.mono wC.o.size));have vD:=lK hi;clear b5 HC uC hi;by_cases hz:m2=0
     ·subst hz;have HE:Hid (r=F0 vs is fs ((AJ t).drop (i+1))):=G4;clear G4;go_wp2;go_roundw
      case rel=>exact⟨i+1,rfl,lK ⟨vD.o,HE.o,B5.o⟩⟩
      case measure=>
       have:=vD.o;show len-((i+1:Nat):Int).toNat<len-((i:Nat):Int).toNat;rw[mB,mB];omega
     ·have HE:Hid (r=m2):=lK (by rw[G4.o,Ws hz]);have qe:((m2:Int)==0)=false:=by rw[lY];omega
      have hz3:((m2:Int) !=0)=true:=by simp[bne,qe]
      clear G4;go_wp2;rw[HE.o];refine lS (v:= .int .i64 m2) ?_ rfl ⟨rfl,B5.o⟩;simp[results,results46]
    ·have ui:¬(i:Int)<len:=by omega
     have HE:Hid (r=0):=lK (by rw[G3.o,ot (by have:=rz.o;omega)];rfl);clear hq g2 g3 g4;go_wp2;rw[HE.o];refine lS (v:= .int .i64 0) ?_ rfl ⟨rfl,BR.o⟩;simp[results,results46]
  ·have HE:Hid (r=nd):=lK (by rw[HR.o,Ws h0]);have qe:((nd:Int)==0)=false:=by rw[lY];omega
   have hz3:((nd:Int) !=0)=true:=by simp[bne,qe]
   clear HR HN6 x5;go_wp2;rw[HE.o];refine lS (v:= .int .i64 nd) ?_ rfl ⟨rfl,B1.o⟩;simp[results,results46]
theorem bg {vs is:Bs->Bool} {fs:Nat->Bool} {P:Tm->Prop} {I:World->Prop}(hP:∀t,P t->∀x∈AJ t,P x) (hI:∀w w':World,I w->Below w.heap.size w w'->I w') (hN:Qb vs is fs P I){t:Tm} {c:Array Value} {S:Nat->Prop} {w:World}(hp:P t) (hiw:I w) (hS:∀b,S b->b<w.heap.size) (h:AT w S c.toList t):
  Calls prog 27 #[.agg c] w fun e w'=>e= .returned (.int .i64 (GR vs is fs t))/\Below w.heap.size w w':=by
 have C6:Hid (c.size=6):=lK (by have:=h.len;simpa using this);have HB:=lK (show Below w.heap.size w (w.alloc (.cells c 31))from Bzz _);have HN:=lK (lT w (.cells c 31));have LA:Hid (w.heap.size<(w.alloc (.cells c 31)).heap.size):=lK (by simp);have H45:=lK (fun(W:World) (hb:Below w.heap.size w W)=>bG (t:=t) (c:=c) (S:=S) (w:=W) (fun b hh=>lR (hS b hh) hb.size) (AT.Ak (fun b hh=>hb.block b (hS b hh)) (fun _ h=>h) h));have H46:=lK (fun(W:World) (hb:Below w.heap.size w W)=>bJ hP hI hN _ t (lM _) c S W hp (hI _ _ hiw hb) (fun b hh=>lR (hS b hh) hb.size) (AT.Ak (fun b hh=>hb.block b (hS b hh)) (fun _ h=>h) h));have hl:=(Hj t 0 (mK _)).2;obtain⟨r,hr⟩:∃r,r=GR vs is fs t:=⟨_,rfl⟩;obtain⟨m,hm⟩:∃m,m=Dx t 0:=⟨_,rfl⟩;obtain⟨k,hk⟩:∃k,k=JH vs is fs t:=⟨_,rfl⟩;have hrr:r=if 4000<m then 24 else k:=by
  rw[hr,GR,<-hm,<-hk,pM (by omega)]
 rw[<-hr];rw[<-hm]at H45 hl;rw[<-hk]at H46;clear h hS hm hk hr hP hI hN hp hiw;by_cases h4:4000<m
 ·have HE:Hid (r=24):=lK (by rw[hrr,lQ h4]);have h4i:(4000:Int)<m:=by omega
  clear hrr h4 hl H46;go_enter func27,ntmps27
  go_wp2_with (first|(refine KK rfl _ rfl w.heap.size c C6.o rfl HN.o ?_)|(go_at_call 45;(refine(H45.o _ HB.o).mono ?_)))
  first|rintro e W1 rfl b1|rintro e W1 ⟨rfl,b1⟩
  have B1:=lK (HB.o.trans (b1.mono HB.o.size));clear b1;go_wp2;rw[HE.o];refine lS (v:= .int .i64 24) ?_ rfl ⟨rfl,B1.o⟩;simp[results,results27]
 ·have HE:Hid (r=k):=lK (by rw[hrr,lL h4]);have h4i:(m:Int)<=4000:=by omega
  clear hrr h4 hl;go_enter func27,ntmps27
  go_wp2_with (first|(refine KK rfl _ rfl w.heap.size c C6.o rfl HN.o ?_)|(go_at_call 45;(refine(H45.o _ HB.o).mono ?_)))
  first|rintro e W1 rfl b1|rintro e W1 ⟨rfl,b1⟩
  have B1:=lK (HB.o.trans (b1.mono HB.o.size));have HN:=lK ((b1.block w.heap.size LA.o).trans HN.o);clear b1
  go_wp2_with (first|(refine KK rfl _ rfl w.heap.size c C6.o rfl HN.o ?_)|(go_at_call 46;(refine(H46.o _ B1.o).mono ?_)))
  first|rintro e W2 rfl b2|rintro e W2 ⟨rfl,b2⟩
  have B2:=lK (B1.o.trans (b2.mono B1.o.size));clear b2;go_wp2;rw[HE.o];refine lS (v:= .int .i64 k) ?_ rfl ⟨rfl,B2.o⟩;simp[results,results27]
theorem O7 {ops:Array Oper} {rest:List Oper} {o:Oper} {a:Act} {w:World} {Q:Exit->Act->World->Prop}(hw:Region.wanted o (yielded ops a.tmps)=true) (x:Operand) (ho:o.op= .load 31 x) (g:Nat) (c:Array Value) (hc:c.size=6) (hx:a.eval x= .pointer (some ⟨g,0,none⟩)) (hg:w.heap[g]? =some (.cells c 31 (0,0)))
  (h:wpList prog ops Q rest (a.put o.dst (.agg c)) w):wpList prog ops Q (o::rest) a w:=
 wpList_step fun K hK=>by
  simp only[hw,if_true];exact wp_load_row 31 x ho g hx 31 c (0,0) _ hg mE rfl (by rw[hc];exact Cg) (hK _ _ h)
def GB (vs:Bs->Bool) (I:World->Prop):Prop:=∀(s:Bs) (w:World),s.length<=1000000000->I w->Calls prog 98 #[.string (bs s)] w fun e w'=>e= .returned (.bool (vs s))/\Below w.heap.size w w'
theorem XK {vs is:Bs->Bool} {fs:Nat->Bool} {I:World->Prop}(hI:∀w w':World,I w->Below w.heap.size w w'->I w') (hV:GB vs I) (uk:vs []=true) (n:Nat) (S:Nat->Prop){w:World}(hiw:I w):
  Calls prog 74 #[.agg #[.int .i64 1,.string ⟨#[]⟩,.string ⟨#[]⟩,.int .u64 0,.int .i64 n,.slice none 0 0]] w fun e w'=>e= .returned (.int .i64 0)/\Below w.heap.size w w':=by
 have HB:=lK (show Below w.heap.size w (w.alloc (.cells #[.int .i64 1,.string ⟨#[]⟩,.string ⟨#[]⟩,.int .u64 0,.int .i64 n,.slice none 0 0] 31))from Bzz _);have HN:=lK (lT w (.cells #[.int .i64 1,.string ⟨#[]⟩,.string ⟨#[]⟩,.int .u64 0,.int .i64 n,.slice none 0 0] 31));have HL:=lK (fun(W:World)=>IX (c:= #[.int .i64 1,.string ⟨#[]⟩,.string ⟨#[]⟩,.int .u64 0,.int .i64 n,.slice none 0 0]) (t:= .var n) (S:=S) (w:=W) (.var n));have HV:Hid (∀W:World,Below w.heap.size w W->Calls prog 98 #[.string ⟨#[]⟩] W fun e w'=>e= .returned (.bool true)/\Below W.heap.size W w'):=lK (fun W hb=>by have:=hV [] W (mK _) (hI _ _ hiw hb);rw[uk]at this;exact this);have LA:Hid (w.heap.size<(w.alloc (.cells #[.int .i64 1,.string ⟨#[]⟩,.string ⟨#[]⟩,.int .u64 0,.int .i64 n,.slice none 0 0] 31)).heap.size):=lK (by simp);have vG:(0:Int)<=n:=by omega
 clear hI hV hiw uk;go_enter func74,ntmps74
 go_upto_block 0 with fail
 generalize w.alloc (.cells #[.int .i64 1,.string ⟨#[]⟩,.string ⟨#[]⟩,.int .u64 0,.int .i64 n,.slice none 0 0] 31)=A at*;have y0:A.cell? ⟨w.heap.size,0,none⟩=some (.int .i64 1):=by rw[Lib.cell_of_heap HN.o];rfl
 go_wp2_with (first|(refine O7 (by kernel_rfl) _ rfl w.heap.size _ rfl rfl HN.o ?_)|(go_at_call 97;(refine(HL.o _).mono ?_)))
 first|rintro e W1 rfl b1|rintro e W1 ⟨rfl,b1⟩
 have B1:=lK (HB.o.trans (b1.mono HB.o.size));have qv:=lK ((b1.block w.heap.size LA.o).trans HN.o);clear b1 y0;have y0:W1.cell? ⟨w.heap.size,0,none⟩=some (.int .i64 1):=by rw[Lib.cell_of_heap qv.o];rfl
 have y1:W1.cell? ⟨w.heap.size,1,none⟩=some (.string ⟨#[]⟩):=by rw[Lib.cell_of_heap qv.o];rfl
 have y4:W1.cell? ⟨w.heap.size,4,none⟩=some (.int .i64 n):=by rw[Lib.cell_of_heap qv.o];rfl
 go_wp2_with (go_at_call 98;(refine(HV.o _ B1.o).mono ?_))
 first|rintro e W2 rfl b2|rintro e W2 ⟨rfl,b2⟩
 have B2:=lK (B1.o.trans (b2.mono B1.o.size));have sO:=lK ((b2.block w.heap.size (by have:=LA.o;have:=(lN.1 qv.o).1;omega)).trans qv.o);clear b2 y0 y1 y4;have y0:W2.cell? ⟨w.heap.size,0,none⟩=some (.int .i64 1):=by rw[Lib.cell_of_heap sO.o];rfl
 have y1:W2.cell? ⟨w.heap.size,1,none⟩=some (.string ⟨#[]⟩):=by rw[Lib.cell_of_heap sO.o];rfl
 go_wp2;refine lS (v:= .int .i64 0) ?_ rfl ⟨rfl,B2.o⟩;simp[results,ou]
theorem UM {vs is:Bs->Bool} {fs:Nat->Bool} {I:World->Prop}(hI:∀w w':World,I w->Below w.heap.size w w'->I w') (hV:GB vs I) (s:Bs) (tU:s.length<=1000000000) (S:Nat->Prop){w:World}(hiw:I w):
  Calls prog 74 #[.agg #[.int .i64 2,.string (bs s),.string ⟨#[]⟩,.int .u64 0,.int .i64 0,.slice none 0 0]] w fun e w'=>e= .returned (.int .i64 (Av vs is fs (.atom s)))/\Below w.heap.size w w':=by
 have HL:=lK (fun(W:World) (_:Below w.heap.size w W)=>IX (c:= #[.int .i64 2,.string (bs s),.string ⟨#[]⟩,.int .u64 0,.int .i64 0,.slice none 0 0]) (t:= .atom s) (S:=S) (w:=W) (.atom s));rcases hv:vs s with _|_
 focus
  have hr:Av vs is fs (.atom s)=21:=by simp[Av,hv]
  rw[hr];have HV:Hid (∀W:World,Below w.heap.size w W->Calls prog 98 #[.string (bs s)] W fun e w'=>e= .returned (.bool false)/\Below W.heap.size W w'):=lK (fun W hb=>by have:=hV s W tU (hI _ _ hiw hb);rw[hv]at this;exact this);clear hr hv
 rotate_left
 focus
  have HV:Hid (∀W:World,Below w.heap.size w W->Calls prog 98 #[.string (bs s)] W fun e w'=>e= .returned (.bool true)/\Below W.heap.size W w'):=lK (fun W hb=>by have:=hV s W tU (hI _ _ hiw hb);rw[hv]at this;exact this);have rH:(bs s).size=s.length:=rfl;by_cases h1:1000<s.length
  focus
   have hr:Av vs is fs (.atom s)=21:=by simp[Av,hv,h1]
   rw[hr];have h1i:(1000:Int)<(bs s).size:=by rw[rH];omega
   clear hr hv h1 rH
  rotate_left
  focus
   have hr:Av vs is fs (.atom s)=0:=by simp[Av,hv,h1]
   rw[hr];have h1i:((bs s).size:Int)<=1000:=by rw[rH];omega
   clear hr hv h1 rH
 all_goals
  have HB:=lK (show Below w.heap.size w (w.alloc (.cells #[.int .i64 2,.string (bs s),.string ⟨#[]⟩,.int .u64 0,.int .i64 0,.slice none 0 0] 31))from Bzz _);have HN:=lK (lT w (.cells #[.int .i64 2,.string (bs s),.string ⟨#[]⟩,.int .u64 0,.int .i64 0,.slice none 0 0] 31));have LA:Hid (w.heap.size<(w.alloc (.cells #[.int .i64 2,.string (bs s),.string ⟨#[]⟩,.int .u64 0,.int .i64 0,.slice none 0 0] 31)).heap.size):=lK (by simp);clear hI hV hiw tU;go_enter func74,ntmps74
  go_upto_block 0 with fail
  generalize w.alloc (.cells #[.int .i64 2,.string (bs s),.string ⟨#[]⟩,.int .u64 0,.int .i64 0,.slice none 0 0] 31)=A at*;have y0:A.cell? ⟨w.heap.size,0,none⟩=some (.int .i64 2):=by rw[Lib.cell_of_heap HN.o];rfl
  go_wp2_with (first|(refine O7 (by kernel_rfl) _ rfl w.heap.size _ rfl rfl HN.o ?_)|(go_at_call 97;(refine(HL.o _ HB.o).mono ?_)))
  first|rintro e W1 rfl b1|rintro e W1 ⟨rfl,b1⟩
  have B1:=lK (HB.o.trans (b1.mono HB.o.size));have qv:=lK ((b1.block w.heap.size LA.o).trans HN.o);clear b1 y0;have y0:W1.cell? ⟨w.heap.size,0,none⟩=some (.int .i64 2):=by rw[Lib.cell_of_heap qv.o];rfl
  have y1:W1.cell? ⟨w.heap.size,1,none⟩=some (.string (bs s)):=by rw[Lib.cell_of_heap qv.o];rfl
  have y4:W1.cell? ⟨w.heap.size,4,none⟩=some (.int .i64 0):=by rw[Lib.cell_of_heap qv.o];rfl
  have y5:W1.cell? ⟨w.heap.size,5,none⟩=some (.slice none 0 0):=by rw[Lib.cell_of_heap qv.o];rfl
  go_wp2_with (go_at_call 98;(refine(HV.o _ B1.o).mono ?_))
  first|rintro e W2 rfl b2|rintro e W2 ⟨rfl,b2⟩
  have B1:=lK (B1.o.trans (b2.mono B1.o.size));have sO:=lK ((b2.block w.heap.size (lN.1 qv.o).1).trans qv.o);clear b2 y0 y1 y4 y5;have y0:W2.cell? ⟨w.heap.size,0,none⟩=some (.int .i64 2):=by rw[Lib.cell_of_heap sO.o];rfl
  have y1:W2.cell? ⟨w.heap.size,1,none⟩=some (.string (bs s)):=by rw[Lib.cell_of_heap sO.o];rfl
  go_wp2
  first|refine lS (v:= .int .i64 21) ?_ rfl ⟨rfl,B1.o⟩|refine lS (v:= .int .i64 0) ?_ rfl ⟨rfl,B1.o⟩
  simp[results,ou]
theorem XC {vs is:Bs->Bool} {fs:Nat->Bool} {I:World->Prop}(hI:∀w w':World,I w->Below w.heap.size w w'->I w') (hV:GB vs I) (s:Bs) (tU:s.length<=1000000000) (l:List Tm) (a:Option Addr) (cap:Nat) (S:Nat->Prop){w:World}(hiw:I w) (hb:∀W:World,Below w.heap.size w W->AT W S #[.int .i64 5,.string (bs s),.string ⟨#[]⟩,.int .u64 0,.int .i64 0,.slice a l.length cap].toList (.cmp s l)):
  Calls prog 74 #[.agg #[.int .i64 5,.string (bs s),.string ⟨#[]⟩,.int .u64 0,.int .i64 0,.slice a l.length cap]] w fun e w'=>e= .returned (.int .i64 (Av vs is fs (.cmp s l)))/\Below w.heap.size w w':=by
 have HL:=lK (fun(W:World) (hw:Below w.heap.size w W)=>IX (hb W hw));clear hb;obtain⟨n,hn⟩:∃n,n=l.length:=⟨_,rfl⟩;rw[<-hn]at HL⊢;by_cases h0:n=0
 ·have hr:Av vs is fs (.cmp s l)=20:=by simp[Av,<-hn,h0]
  rw[hr];subst h0;clear hr hn;have HB:=lK (show Below w.heap.size w (w.alloc (.cells #[.int .i64 5,.string (bs s),.string ⟨#[]⟩,.int .u64 0,.int .i64 0,.slice a 0 cap] 31))from Bzz _);have HN:=lK (lT w (.cells #[.int .i64 5,.string (bs s),.string ⟨#[]⟩,.int .u64 0,.int .i64 0,.slice a 0 cap] 31));have LA:Hid (w.heap.size<(w.alloc (.cells #[.int .i64 5,.string (bs s),.string ⟨#[]⟩,.int .u64 0,.int .i64 0,.slice a 0 cap] 31)).heap.size):=lK (by simp);clear hI hV hiw tU;go_enter func74,ntmps74
  go_upto_block 0 with fail
  generalize w.alloc (.cells #[.int .i64 5,.string (bs s),.string ⟨#[]⟩,.int .u64 0,.int .i64 0,.slice a 0 cap] 31)=A at*;have y0:A.cell? ⟨w.heap.size,0,none⟩=some (.int .i64 5):=by rw[Lib.cell_of_heap HN.o];rfl
  go_wp2_with (first|(refine O7 (by kernel_rfl) _ rfl w.heap.size _ rfl rfl HN.o ?_)|(go_at_call 97;(refine(HL.o _ HB.o).mono ?_)))
  first|rintro e W1 rfl b1|rintro e W1 ⟨rfl,b1⟩
  have B1:=lK (HB.o.trans (b1.mono HB.o.size));have qv:=lK ((b1.block w.heap.size LA.o).trans HN.o);clear b1 y0;have y0:W1.cell? ⟨w.heap.size,0,none⟩=some (.int .i64 5):=by rw[Lib.cell_of_heap qv.o];rfl
  have y1:W1.cell? ⟨w.heap.size,1,none⟩=some (.string (bs s)):=by rw[Lib.cell_of_heap qv.o];rfl
  have y4:W1.cell? ⟨w.heap.size,4,none⟩=some (.int .i64 0):=by rw[Lib.cell_of_heap qv.o];rfl
  have y5:W1.cell? ⟨w.heap.size,5,none⟩=some (.slice a 0 cap):=by rw[Lib.cell_of_heap qv.o];rfl
  go_wp2;refine lS (v:= .int .i64 20) ?_ rfl ⟨rfl,B1.o⟩;simp[results,ou]
 by_cases h64:64<n
 ·have hr:Av vs is fs (.cmp s l)=20:=by simp[Av,<-hn,h64]
  rw[hr];have h0i:((n:Int)==0)=false:=by rw[lY];omega
  have h64i:(64:Int)<n:=by omega
  clear hr hn h0 h64;have HB:=lK (show Below w.heap.size w (w.alloc (.cells #[.int .i64 5,.string (bs s),.string ⟨#[]⟩,.int .u64 0,.int .i64 0,.slice a n cap] 31))from Bzz _);have HN:=lK (lT w (.cells #[.int .i64 5,.string (bs s),.string ⟨#[]⟩,.int .u64 0,.int .i64 0,.slice a n cap] 31));have LA:Hid (w.heap.size<(w.alloc (.cells #[.int .i64 5,.string (bs s),.string ⟨#[]⟩,.int .u64 0,.int .i64 0,.slice a n cap] 31)).heap.size):=lK (by simp);clear hI hV hiw tU;go_enter func74,ntmps74
  go_upto_block 0 with fail
  generalize w.alloc (.cells #[.int .i64 5,.string (bs s),.string ⟨#[]⟩,.int .u64 0,.int .i64 0,.slice a n cap] 31)=A at*;have y0:A.cell? ⟨w.heap.size,0,none⟩=some (.int .i64 5):=by rw[Lib.cell_of_heap HN.o];rfl
  go_wp2_with (first|(refine O7 (by kernel_rfl) _ rfl w.heap.size _ rfl rfl HN.o ?_)|(go_at_call 97;(refine(HL.o _ HB.o).mono ?_)))
  first|rintro e W1 rfl b1|rintro e W1 ⟨rfl,b1⟩
  have B1:=lK (HB.o.trans (b1.mono HB.o.size));have qv:=lK ((b1.block w.heap.size LA.o).trans HN.o);clear b1 y0;have y0:W1.cell? ⟨w.heap.size,0,none⟩=some (.int .i64 5):=by rw[Lib.cell_of_heap qv.o];rfl
  have y1:W1.cell? ⟨w.heap.size,1,none⟩=some (.string (bs s)):=by rw[Lib.cell_of_heap qv.o];rfl
  have y4:W1.cell? ⟨w.heap.size,4,none⟩=some (.int .i64 0):=by rw[Lib.cell_of_heap qv.o];rfl
  have y5:W1.cell? ⟨w.heap.size,5,none⟩=some (.slice a n cap):=by rw[Lib.cell_of_heap qv.o];rfl
  go_wp2;refine lS (v:= .int .i64 20) ?_ rfl ⟨rfl,B1.o⟩;simp[results,ou]
 have h0i:((n:Int)==0)=false:=by rw[lY];omega
 have h64i:(n:Int)<=64:=by omega
 rcases hv:vs s with _|_
 focus
  have hr:Av vs is fs (.cmp s l)=21:=by simp[Av,<-hn,h0,h64,hv]
  rw[hr];have HV:Hid (∀W:World,Below w.heap.size w W->Calls prog 98 #[.string (bs s)] W fun e w'=>e= .returned (.bool false)/\Below W.heap.size W w'):=lK (fun W hb=>by have:=hV s W tU (hI _ _ hiw hb);rw[hv]at this;exact this);clear hr hn h0 h64 hv
 rotate_left
 focus
  have HV:Hid (∀W:World,Below w.heap.size w W->Calls prog 98 #[.string (bs s)] W fun e w'=>e= .returned (.bool true)/\Below W.heap.size W w'):=lK (fun W hb=>by have:=hV s W tU (hI _ _ hiw hb);rw[hv]at this;exact this);have rH:(bs s).size=s.length:=rfl;by_cases h1:1000<s.length
  focus
   have hr:Av vs is fs (.cmp s l)=21:=by simp[Av,<-hn,h0,h64,hv,h1]
   rw[hr];have h1i:(1000:Int)<(bs s).size:=by rw[rH];omega
   clear hr hn h0 h64 hv h1 rH
  rotate_left
  focus
   have hr:Av vs is fs (.cmp s l)=0:=by simp[Av,<-hn,h0,h64,hv,h1]
   rw[hr];have h1i:((bs s).size:Int)<=1000:=by rw[rH];omega
   clear hr hn h0 h64 hv h1 rH
 all_goals
  have HB:=lK (show Below w.heap.size w (w.alloc (.cells #[.int .i64 5,.string (bs s),.string ⟨#[]⟩,.int .u64 0,.int .i64 0,.slice a n cap] 31))from Bzz _);have HN:=lK (lT w (.cells #[.int .i64 5,.string (bs s),.string ⟨#[]⟩,.int .u64 0,.int .i64 0,.slice a n cap] 31));have LA:Hid (w.heap.size<(w.alloc (.cells #[.int .i64 5,.string (bs s),.string ⟨#[]⟩,.int .u64 0,.int .i64 0,.slice a n cap] 31)).heap.size):=lK (by simp);clear hI hV hiw tU;go_enter func74,ntmps74
  go_upto_block 0 with fail
  generalize w.alloc (.cells #[.int .i64 5,.string (bs s),.string ⟨#[]⟩,.int .u64 0,.int .i64 0,.slice a n cap] 31)=A at*;have y0:A.cell? ⟨w.heap.size,0,none⟩=some (.int .i64 5):=by rw[Lib.cell_of_heap HN.o];rfl
  go_wp2_with (first|(refine O7 (by kernel_rfl) _ rfl w.heap.size _ rfl rfl HN.o ?_)|(go_at_call 97;(refine(HL.o _ HB.o).mono ?_)))
  first|rintro e W1 rfl b1|rintro e W1 ⟨rfl,b1⟩
  have B1:=lK (HB.o.trans (b1.mono HB.o.size));have qv:=lK ((b1.block w.heap.size LA.o).trans HN.o);clear b1 y0;have y0:W1.cell? ⟨w.heap.size,0,none⟩=some (.int .i64 5):=by rw[Lib.cell_of_heap qv.o];rfl
  have y1:W1.cell? ⟨w.heap.size,1,none⟩=some (.string (bs s)):=by rw[Lib.cell_of_heap qv.o];rfl
  have y4:W1.cell? ⟨w.heap.size,4,none⟩=some (.int .i64 0):=by rw[Lib.cell_of_heap qv.o];rfl
  have y5:W1.cell? ⟨w.heap.size,5,none⟩=some (.slice a n cap):=by rw[Lib.cell_of_heap qv.o];rfl
  go_wp2_with (go_at_call 98;(refine(HV.o _ B1.o).mono ?_))
  first|rintro e W2 rfl b2|rintro e W2 ⟨rfl,b2⟩
  have B1:=lK (B1.o.trans (b2.mono B1.o.size));have sO:=lK ((b2.block w.heap.size (lN.1 qv.o).1).trans qv.o);clear b2 y0 y1 y4 y5;have y0:W2.cell? ⟨w.heap.size,0,none⟩=some (.int .i64 5):=by rw[Lib.cell_of_heap sO.o];rfl
  have y1:W2.cell? ⟨w.heap.size,1,none⟩=some (.string (bs s)):=by rw[Lib.cell_of_heap sO.o];rfl
  go_wp2
  first|refine lS (v:= .int .i64 21) ?_ rfl ⟨rfl,B1.o⟩|refine lS (v:= .int .i64 0) ?_ rfl ⟨rfl,B1.o⟩
  simp[results,ou]
def Sz (is:Bs->Bool) (s:Bs) (I:World->Prop):Prop:=∀(w:World),I w->Calls prog 99 #[.string (bs s)] w fun e w'=>e= .returned (.bool (is s))/\Below w.heap.size w w'
theorem Wi {vs is:Bs->Bool} {fs:Nat->Bool} {I:World->Prop}(hI:∀w w':World,I w->Below w.heap.size w w'->I w') (hV:GB vs I) (uk:vs []=true) (s:Bs) (hT:Sz is s I) (S:Nat->Prop){w:World}(hiw:I w):
  Calls prog 74 #[.agg #[.int .i64 3,.string ⟨#[]⟩,.string (bs s),.int .u64 0,.int .i64 0,.slice none 0 0]] w fun e w'=>e= .returned (.int .i64 (Av vs is fs (.int s)))/\Below w.heap.size w w':=by
 have HL:=lK (fun(W:World)=>IX (c:= #[.int .i64 3,.string ⟨#[]⟩,.string (bs s),.int .u64 0,.int .i64 0,.slice none 0 0]) (t:= .int s) (S:=S) (w:=W) (.int s));have HV:Hid (∀W:World,Below w.heap.size w W->Calls prog 98 #[.string ⟨#[]⟩] W fun e w'=>e= .returned (.bool true)/\Below W.heap.size W w'):=lK (fun W hb=>by have:=hV [] W (mK _) (hI _ _ hiw hb);rw[uk]at this;exact this);have HT:=lK (fun(W:World) (hb:Below w.heap.size w W)=>hT W (hI _ _ hiw hb));cases hi:is s with
 |true=>
  have hr:Av vs is fs (.int s)=0:=by simp[Av,hi]
  rw[hr];rw[hi]at HT;clear hr hi;have HB:=lK (show Below w.heap.size w (w.alloc (.cells #[.int .i64 3,.string ⟨#[]⟩,.string (bs s),.int .u64 0,.int .i64 0,.slice none 0 0] 31))from Bzz _);have HN:=lK (lT w (.cells #[.int .i64 3,.string ⟨#[]⟩,.string (bs s),.int .u64 0,.int .i64 0,.slice none 0 0] 31));have LA:Hid (w.heap.size<(w.alloc (.cells #[.int .i64 3,.string ⟨#[]⟩,.string (bs s),.int .u64 0,.int .i64 0,.slice none 0 0] 31)).heap.size):=lK (by simp);clear hI hV hT hiw uk;go_enter func74,ntmps74
  go_upto_block 0 with fail
  generalize w.alloc (.cells #[.int .i64 3,.string ⟨#[]⟩,.string (bs s),.int .u64 0,.int .i64 0,.slice none 0 0] 31)=A at*;have y0:A.cell? ⟨w.heap.size,0,none⟩=some (.int .i64 3):=by rw[Lib.cell_of_heap HN.o];rfl
  go_wp2_with (first|(refine O7 (by kernel_rfl) _ rfl w.heap.size _ rfl rfl HN.o ?_)|(go_at_call 97;(refine(HL.o _).mono ?_)))
  first|rintro e W1 rfl b1|rintro e W1 ⟨rfl,b1⟩
  have B1:=lK (HB.o.trans (b1.mono HB.o.size));have qv:=lK ((b1.block w.heap.size LA.o).trans HN.o);clear b1 y0;have y0:W1.cell? ⟨w.heap.size,0,none⟩=some (.int .i64 3):=by rw[Lib.cell_of_heap qv.o];rfl
  have y1:W1.cell? ⟨w.heap.size,1,none⟩=some (.string ⟨#[]⟩):=by rw[Lib.cell_of_heap qv.o];rfl
  have y4:W1.cell? ⟨w.heap.size,4,none⟩=some (.int .i64 0):=by rw[Lib.cell_of_heap qv.o];rfl
  go_wp2_with (go_at_call 98;(refine(HV.o _ B1.o).mono ?_))
  first|rintro e W2 rfl b2|rintro e W2 ⟨rfl,b2⟩
  have B1:=lK (B1.o.trans (b2.mono B1.o.size));have sO:=lK ((b2.block w.heap.size (lN.1 qv.o).1).trans qv.o);clear b2 y0 y1 y4;have y0:W2.cell? ⟨w.heap.size,0,none⟩=some (.int .i64 3):=by rw[Lib.cell_of_heap sO.o];rfl
  have y1:W2.cell? ⟨w.heap.size,1,none⟩=some (.string ⟨#[]⟩):=by rw[Lib.cell_of_heap sO.o];rfl
  have y2:W2.cell? ⟨w.heap.size,2,none⟩=some (.string (bs s)):=by rw[Lib.cell_of_heap sO.o];rfl
  go_wp2_with (go_at_call 99;(refine(HT.o _ B1.o).mono ?_))
  first|rintro e W3 rfl b3|rintro e W3 ⟨rfl,b3⟩
  have B1:=lK (B1.o.trans (b3.mono B1.o.size));have yv:=lK ((b3.block w.heap.size (lN.1 sO.o).1).trans sO.o);clear b3 y0 y1 y2;have y0:W3.cell? ⟨w.heap.size,0,none⟩=some (.int .i64 3):=by rw[Lib.cell_of_heap yv.o];rfl
  go_wp2;refine lS (v:= .int .i64 0) ?_ rfl ⟨rfl,B1.o⟩;simp[results,ou]
 |false=>
  have hr:Av vs is fs (.int s)=22:=by simp[Av,hi]
  rw[hr];rw[hi]at HT;clear hr hi;have HB:=lK (show Below w.heap.size w (w.alloc (.cells #[.int .i64 3,.string ⟨#[]⟩,.string (bs s),.int .u64 0,.int .i64 0,.slice none 0 0] 31))from Bzz _);have HN:=lK (lT w (.cells #[.int .i64 3,.string ⟨#[]⟩,.string (bs s),.int .u64 0,.int .i64 0,.slice none 0 0] 31));have LA:Hid (w.heap.size<(w.alloc (.cells #[.int .i64 3,.string ⟨#[]⟩,.string (bs s),.int .u64 0,.int .i64 0,.slice none 0 0] 31)).heap.size):=lK (by simp);clear hI hV hT hiw uk;go_enter func74,ntmps74
  go_upto_block 0 with fail
  generalize w.alloc (.cells #[.int .i64 3,.string ⟨#[]⟩,.string (bs s),.int .u64 0,.int .i64 0,.slice none 0 0] 31)=A at*;have y0:A.cell? ⟨w.heap.size,0,none⟩=some (.int .i64 3):=by rw[Lib.cell_of_heap HN.o];rfl
  go_wp2_with (first|(refine O7 (by kernel_rfl) _ rfl w.heap.size _ rfl rfl HN.o ?_)|(go_at_call 97;(refine(HL.o _).mono ?_)))
  first|rintro e W1 rfl b1|rintro e W1 ⟨rfl,b1⟩
  have B1:=lK (HB.o.trans (b1.mono HB.o.size));have qv:=lK ((b1.block w.heap.size LA.o).trans HN.o);clear b1 y0;have y0:W1.cell? ⟨w.heap.size,0,none⟩=some (.int .i64 3):=by rw[Lib.cell_of_heap qv.o];rfl
  have y1:W1.cell? ⟨w.heap.size,1,none⟩=some (.string ⟨#[]⟩):=by rw[Lib.cell_of_heap qv.o];rfl
  have y4:W1.cell? ⟨w.heap.size,4,none⟩=some (.int .i64 0):=by rw[Lib.cell_of_heap qv.o];rfl
  go_wp2_with (go_at_call 98;(refine(HV.o _ B1.o).mono ?_))
  first|rintro e W2 rfl b2|rintro e W2 ⟨rfl,b2⟩
  have B1:=lK (B1.o.trans (b2.mono B1.o.size));have sO:=lK ((b2.block w.heap.size (lN.1 qv.o).1).trans qv.o);clear b2 y0 y1 y4;have y0:W2.cell? ⟨w.heap.size,0,none⟩=some (.int .i64 3):=by rw[Lib.cell_of_heap sO.o];rfl
  have y1:W2.cell? ⟨w.heap.size,1,none⟩=some (.string ⟨#[]⟩):=by rw[Lib.cell_of_heap sO.o];rfl
  have y2:W2.cell? ⟨w.heap.size,2,none⟩=some (.string (bs s)):=by rw[Lib.cell_of_heap sO.o];rfl
  go_wp2_with (go_at_call 99;(refine(HT.o _ B1.o).mono ?_))
  first|rintro e W3 rfl b3|rintro e W3 ⟨rfl,b3⟩
  have B1:=lK (B1.o.trans (b3.mono B1.o.size));have yv:=lK ((b3.block w.heap.size (lN.1 sO.o).1).trans sO.o);clear b3 y0 y1 y2;have y0:W3.cell? ⟨w.heap.size,0,none⟩=some (.int .i64 3):=by rw[Lib.cell_of_heap yv.o];rfl
  go_wp2;refine lS (v:= .int .i64 22) ?_ rfl ⟨rfl,B1.o⟩;simp[results,ou]
def Kr (fs:Nat->Bool) (b:Nat):Prop:=∃n i:Bool,(∀w,Calls prog 101 #[.float .f64 b] w fun e w'=>e= .returned (.bool n)/\Below w.heap.size w w')/\(∀w,Calls prog 102 #[.float .f64 b,.int .i64 0] w fun e w'=>e= .returned (.bool i)/\Below w.heap.size w w')/\fs b= !(n||i||decide (b=9223372036854775808))
theorem Wo {vs is:Bs->Bool} {fs:Nat->Bool} {I:World->Prop}(hI:∀w w':World,I w->Below w.heap.size w w'->I w') (hV:GB vs I) (uk:vs []=true) (b:Nat) (hb:b<18446744073709551616) (hT:Kr fs b) (S:Nat->Prop){w:World}(hiw:I w):
  Calls prog 74 #[.agg #[.int .i64 4,.string ⟨#[]⟩,.string ⟨#[]⟩,.int .u64 b,.int .i64 0,.slice none 0 0]] w fun e w'=>e= .returned (.int .i64 (Av vs is fs (.Hs b)))/\Below w.heap.size w w':=by
 have HL:=lK (fun(W:World)=>IX (c:= #[.int .i64 4,.string ⟨#[]⟩,.string ⟨#[]⟩,.int .u64 b,.int .i64 0,.slice none 0 0]) (t:= .Hs b) (S:=S) (w:=W) (.Hs b));have HV:Hid (∀W:World,Below w.heap.size w W->Calls prog 98 #[.string ⟨#[]⟩] W fun e w'=>e= .returned (.bool true)/\Below W.heap.size W w'):=lK (fun W hb=>by have:=hV [] W (mK _) (hI _ _ hiw hb);rw[uk]at this;exact this);obtain⟨n,i,h1,h2,h3⟩:=hT;have H1:=lK h1;have H2:=lK h2;obtain⟨r,hr⟩:∃r,r=Av vs is fs (.Hs b):=⟨_,rfl⟩;rw[<-hr];have HR:Hid (r=if !(n||i||decide (b=9223372036854775808))then 0 else 23):=lK (by rw[hr,Av,h3]);have HB:=lK (show Below w.heap.size w (w.alloc (.cells #[.int .i64 4,.string ⟨#[]⟩,.string ⟨#[]⟩,.int .u64 b,.int .i64 0,.slice none 0 0] 31))from Bzz _);have HN:=lK (lT w (.cells #[.int .i64 4,.string ⟨#[]⟩,.string ⟨#[]⟩,.int .u64 b,.int .i64 0,.slice none 0 0] 31));have LA:Hid (w.heap.size<(w.alloc (.cells #[.int .i64 4,.string ⟨#[]⟩,.string ⟨#[]⟩,.int .u64 b,.int .i64 0,.slice none 0 0] 31)).heap.size):=lK (by simp);clear hI hV hiw uk h1 h2 h3 hr;have sT:=HR;clear HR;go_enter func74,ntmps74
 go_upto_block 0 with fail
 generalize w.alloc (.cells #[.int .i64 4,.string ⟨#[]⟩,.string ⟨#[]⟩,.int .u64 b,.int .i64 0,.slice none 0 0] 31)=A at*;have y0:A.cell? ⟨w.heap.size,0,none⟩=some (.int .i64 4):=by rw[Lib.cell_of_heap HN.o];rfl
 go_wp2_with (first|(refine O7 (by kernel_rfl) _ rfl w.heap.size _ rfl rfl HN.o ?_)|(go_at_call 97;(refine(HL.o _).mono ?_)))
 first|rintro e W1 rfl b1|rintro e W1 ⟨rfl,b1⟩
 have B1:=lK (HB.o.trans (b1.mono HB.o.size));have qv:=lK ((b1.block w.heap.size LA.o).trans HN.o);clear b1 y0;have y0:W1.cell? ⟨w.heap.size,0,none⟩=some (.int .i64 4):=by rw[Lib.cell_of_heap qv.o];rfl
 have y1:W1.cell? ⟨w.heap.size,1,none⟩=some (.string ⟨#[]⟩):=by rw[Lib.cell_of_heap qv.o];rfl
 have y4:W1.cell? ⟨w.heap.size,4,none⟩=some (.int .i64 0):=by rw[Lib.cell_of_heap qv.o];rfl
 go_wp2_with (go_at_call 98;(refine(HV.o _ B1.o).mono ?_))
 first|rintro e W2 rfl b2|rintro e W2 ⟨rfl,b2⟩
 have B1:=lK (B1.o.trans (b2.mono B1.o.size));have sO:=lK ((b2.block w.heap.size (lN.1 qv.o).1).trans qv.o);clear b2 y0 y1 y4;have y0:W2.cell? ⟨w.heap.size,0,none⟩=some (.int .i64 4):=by rw[Lib.cell_of_heap sO.o];rfl
 have y1:W2.cell? ⟨w.heap.size,1,none⟩=some (.string ⟨#[]⟩):=by rw[Lib.cell_of_heap sO.o];rfl
 have y3:W2.cell? ⟨w.heap.size,3,none⟩=some (.int .u64 b):=by rw[Lib.cell_of_heap sO.o];rfl
 have hfb:∀w,(callFunc 100 #[.int .u64 (b:Int)]).run prog w= .ok (.value (.float .f64 b)) w:=Ey b;cases n with
 |true=>
  have HE:Hid (r=23):=lK (by rw[sT.o];simp);clear sT
  go_wp2_with (go_at_call 101;(refine(H1.o _).mono ?_))
  first|rintro e W3 rfl b3|rintro e W3 ⟨rfl,b3⟩
  have B1:=lK (B1.o.trans (b3.mono B1.o.size));have yv:=lK ((b3.block w.heap.size (lN.1 sO.o).1).trans sO.o);clear b3;clear y0 y1 y3;go_wp2;rw[HE.o];refine lS (v:= .int .i64 23) ?_ rfl ⟨rfl,B1.o⟩;simp[results,ou]
 |false=>
  go_wp2_with (go_at_call 101;(refine(H1.o _).mono ?_))
  first|rintro e W3 rfl b3|rintro e W3 ⟨rfl,b3⟩
  have B1:=lK (B1.o.trans (b3.mono B1.o.size));have yv:=lK ((b3.block w.heap.size (lN.1 sO.o).1).trans sO.o);clear b3;clear y0 y1 y3;cases i with
  |true=>
   have HE:Hid (r=23):=lK (by rw[sT.o];simp);clear sT
   go_wp2_with (go_at_call 102;(refine(H2.o _).mono ?_))
   first|rintro e W4 rfl b3|rintro e W4 ⟨rfl,b3⟩
   have B1:=lK (B1.o.trans (b3.mono B1.o.size));have HN4:=lK ((b3.block w.heap.size (lN.1 yv.o).1).trans yv.o);clear b3;go_wp2;rw[HE.o];refine lS (v:= .int .i64 23) ?_ rfl ⟨rfl,B1.o⟩;simp[results,ou]
  |false=>
   go_wp2_with (go_at_call 102;(refine(H2.o _).mono ?_))
   first|rintro e W4 rfl b3|rintro e W4 ⟨rfl,b3⟩
   have B1:=lK (B1.o.trans (b3.mono B1.o.size));have HN4:=lK ((b3.block w.heap.size (lN.1 yv.o).1).trans yv.o);clear b3;have y3:W4.cell? ⟨w.heap.size,3,none⟩=some (.int .u64 b):=by rw[Lib.cell_of_heap HN4.o];rfl
   by_cases hz:b=9223372036854775808
   ·have HE:Hid (r=23):=lK (by rw[sT.o,hz];rfl);have qe:((b:Int)==9223372036854775808)=true:=by rw[nH];omega
    clear sT hz;go_wp2;rw[HE.o];refine lS (v:= .int .i64 23) ?_ rfl ⟨rfl,B1.o⟩;simp[results,ou]
   ·have HE:Hid (r=0):=lK (by rw[sT.o];simp[hz]);have qe:((b:Int)==9223372036854775808)=false:=by rw[lY];omega
    clear sT hz;go_wp2;rw[HE.o];refine lS (v:= .int .i64 0) ?_ rfl ⟨rfl,B1.o⟩;simp[results,ou]
def JA (is:Bs->Bool) (fs:Nat->Bool) (I:World->Prop) (t:Tm):Prop:=leaves (fun s=>Sz is s I) (fun b=>b<18446744073709551616/\Kr fs b) t/\C5 (fun s=>s.length<=1000000000) t
theorem JA.args {is:Bs->Bool} {fs:Nat->Bool} {I:World->Prop}(t:Tm) (h:JA is fs I t) (x:Tm) (hx:x∈AJ t):JA is fs I x:=by
 cases t with
 |cmp s l=>
  have h2:BM (fun s=>Sz is s I) (fun b=>b<18446744073709551616/\Kr fs b) l:=h.1;have h3:EJ (fun s=>s.length<=1000000000) l:=h.2.2;exact⟨En.1 h2 x hx,L7.1 h3 x hx⟩
 |_=>cases hx
theorem fW {vs is:Bs->Bool} {fs:Nat->Bool} {I:World->Prop}(hI:∀w w':World,I w->Below w.heap.size w w'->I w') (hV:GB vs I) (uk:vs []=true):Qb vs is fs (JA is fs I) I:=by
 intro t c S w hp hiw hS h;obtain⟨c⟩:=c;have h:AT w S c t:=h;cases h with
 |var n=>exact XK (is:=is) (fs:=fs) hI hV uk n S hiw
 |atom s=>exact UM hI hV s hp.2 S hiw
 |int s=>exact Wi hI hV uk s hp.1 S hiw
 |Hs b=>exact Wo hI hV uk b hp.1.1 hp.1.2 S hiw
 |cmp s l b off cap cs hb hc h9=>
  exact XC hI hV s hp.2.1 l (some ⟨b,off,none⟩) cap S hiw (fun W hw=>AT.Ak (fun k hk=>hw.block k (hS k hk)) (fun _ h=>h) (AT.cmp s l b off cap cs hb hc h9))
theorem fp {vs is:Bs->Bool} {fs:Nat->Bool} {I:World->Prop}(hI:∀w w':World,I w->Below w.heap.size w w'->I w') (hV:GB vs I) (uk:vs []=true){t:Tm} {c:Array Value} {S:Nat->Prop} {w:World}(hp:JA is fs I t) (hiw:I w) (hS:∀b,S b->b<w.heap.size) (h:AT w S c.toList t):
  Calls prog 27 #[.agg c] w fun e w'=>e= .returned (.int .i64 (GR vs is fs t))/\Below w.heap.size w w':=
 bg JA.args hI (fW hI hV uk) hp hiw hS h
end Go.Proofs
namespace Go.Proofs
open Go.RowKit Go.Hb Go.Pz Go.Pf
theorem kU (b:Nat) (hb:b<18446744073709551616) (w:World):Calls prog 124 #[.float .f64 b] w fun e w'=>e= .returned (.float .f64 (b %9223372036854775808))/\w=w':=by
 have f2:bits .andNot .u64 (b:Int) 9223372036854775808=((b %9223372036854775808:Nat):Int):=by
  have h1:=u64_andNot_nat b 9223372036854775808 (by omega) (by decide);have e:18446744073709551615-9223372036854775808=2^63-1:=by decide
  rw[e,oN]at h1;exact h1
 have hm:b<18446744073709551616:=hb;generalize b %9223372036854775808=r at*;clear hb;go_enter func124,ntmps124;go_wp2;rw[Hf,nt];go_wp2;rw[Ey,nt];go_wp2;go_ret;exact⟨rfl,rfl⟩
theorem dJ (b:Nat) (hb:b<18446744073709551616) (hf:b %9223372036854775808<=AW) (w:World):Calls prog 102 #[.float .f64 b,.int .i64 0] w fun e w'=>e= .returned (.bool (decide (b %9223372036854775808=AW)))/\Below w.heap.size w w':=by
 have H:=lK (VQ hf);have HA:=lK (fun W=>kU b hb W);generalize b %9223372036854775808=r at*;clear hf hb;go_enter func102,ntmps102
 go_wp2_with (go_at_call 124;(with_reducible refine(HA.o _).mono ?_);rintro e w' ⟨rfl,rfl⟩)
 rw[H.o];go_ret;exact⟨rfl,Below.refl _ _⟩
theorem Tryz.isNaN (b:Nat) (h:FloatKind.f64.format.order b b=some Ordering.eq) (w:World):Calls prog 101 #[.float .f64 b] w fun e w'=>e= .returned (.bool false)/\Below w.heap.size w w':=by
 have H:=lK h;clear h;go_enter func101,ntmps101;go_wp2;rw[H.o];refine lS (v:= .bool false) ?_ rfl ⟨rfl,Below.refl _ _⟩;simp[results,results101]
 try rfl
theorem Kr.of {fs:Nat->Bool} {b:Nat}(hb:b<18446744073709551616) (hf:b %9223372036854775808<=AW) (ho:FloatKind.f64.format.order b b=some Ordering.eq) (hs:fs b= !(decide (b %9223372036854775808=AW)||decide (b=9223372036854775808))):Kr fs b:=
 ⟨false,decide (b %9223372036854775808=AW),fun w=>Tryz.isNaN b ho w,fun w=>dJ b hb hf w,by rw[hs];simp⟩
end Go.Proofs
