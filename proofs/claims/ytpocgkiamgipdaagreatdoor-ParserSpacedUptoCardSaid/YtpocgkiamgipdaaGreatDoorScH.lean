import Derived.Test.YtpocgkiamgipdaaGreatDoorRdN
import Derived.Maps.Views
import Derived.Shelf.Strings.Fields
set_option maxRecDepth 1000000
set_option maxHeartbeats 0
set_option linter.unusedVariables false
set_option linter.unusedSimpArgs false
open Go.Proofs.Tryz
namespace Go.Proofs
open Go.RowKit Go.Hb Go.Pz Go.Maps
theorem SY (nm:Bs):WideAt.IsKeyLit (.string nm):=trivial
theorem Db.put {D:DataW Unit} {f:Bs->Option DH}(h:Db D f) (nm:Bs) (o:DH):Db (D.put (.string nm) (U4 nm o)) (Pz.put f nm (some o)):=by
 refine⟨?_,fun x=> ?_,fun x o' z hx=> ?_⟩
 ·obtain⟨es,rfl⟩:=h.isMap;exact⟨_,DataW.put_eq es _ _⟩
 ·unfold Pz.put;by_cases hn:x=nm
  ·subst hn;rw[has_put_same h.isMap (SY _),lQ rfl];rfl
  ·rw[has_put_other (fun e=>hn (by injection e)),lL hn];exact h.has x
 ·unfold Pz.put at hx;by_cases hn:x=nm
  ·subst hn;rw[lQ rfl]at hx;cases hx;exact atKey_put_same h.isMap (SY _) _ _
  ·rw[lL hn]at hx;rw[atKey_put_other (fun e=>hn (by injection e))];exact h.at_ x o' z hx
theorem Db.del {D:DataW Unit} {f:Bs->Option DH}(h:Db D f) (nm:Bs):Db (D.del (.string nm)) (Pz.put f nm none):=by
 refine⟨?_,fun x=> ?_,fun x o' z hx=> ?_⟩
 ·obtain⟨es,rfl⟩:=h.isMap;exact⟨_,DataW.del_eq es _⟩
 ·unfold Pz.put;by_cases hn:x=nm
  ·subst hn;rw[has_del_same,lQ rfl];rfl
  ·rw[has_del_other (fun e=>hn (by injection e)),lL hn];exact h.has x
 ·unfold Pz.put at hx;by_cases hn:x=nm
  ·subst hn;rw[lQ rfl]at hx;cases hx
  ·rw[lL hn]at hx;rw[atKey_del_other (fun e=>hn (by injection e))];exact h.at_ x o' z hx
structure EF (w:World) (B ob m0 m1 m2 N:Nat) (O:Am):Prop where
 hB:B<=ob/\B<=m0/\B<=m1/\B<=m2
 ne:m0≠m1/\m0≠m2/\m1≠m2/\ob≠m0/\ob≠m1/\ob≠m2
 h:w.heap[ob]? =some (.cells #[.map (some m0),.map (some m1),.map (some m2)] 87)
 pre:∃D,w.ownsMap prog 9 Bf m0 N D/\Db D O.pre
 inf:∃D,w.ownsMap prog 9 Bf m1 N D/\Db D O.inf
 post:∃D,w.ownsMap prog 9 Bf m2 N D/\Db D O.post
section
variable {w:World} {B ob m0 m1 m2 N:Nat} {O:Am}
theorem EF.at (h:EF w B ob m0 m1 m2 N O):Dh w ob m0 m1 m2 O:=by
 obtain⟨_,_,a,⟨D0,b0,c0⟩,⟨D1,b1,c1⟩,⟨D2,b2,c2⟩⟩:=h;exact⟨⟨_,a⟩,⟨_,_,b0,c0⟩,⟨_,_,b1,c1⟩,⟨_,_,b2,c2⟩⟩
theorem EF.same {w':World}(h:EF w B ob m0 m1 m2 N O) (hk:∀b,b=ob\/b=m0\/b=m1\/b=m2->w'.heap[b]? =w.heap[b]?):EF w' B ob m0 m1 m2 N O:=by
 obtain⟨x,y,a,⟨D0,b0,c0⟩,⟨D1,b1,c1⟩,⟨D2,b2,c2⟩⟩:=h;exact⟨x,y,(hk _ (.inl rfl)).trans a,⟨_,At b0 (hk _ (.inr (.inl rfl))),c0⟩,⟨_,At b1 (hk _ (.inr (.inr (.inl rfl)))),c1⟩,⟨_,At b2 (hk _ (.inr (.inr (.inr rfl)))),c2⟩⟩
theorem EF.below {w':World}(h:EF w B ob m0 m1 m2 N O) (hb:Below w.heap.size w w'):EF w' B ob m0 m1 m2 N O:=by
 have hl:=h.at.ja;exact h.same (fun b qM=>hb.block b (by rcases qM with rfl|rfl|rfl|rfl<;>omega))
theorem EF.mono (h:EF w B ob m0 m1 m2 N O){M:Nat}(hM:N<=M):EF w B ob m0 m1 m2 M O:=by
 obtain⟨x,y,a,⟨D0,b0,c0⟩,⟨D1,b1,c1⟩,⟨D2,b2,c2⟩⟩:=h;exact⟨x,y,a,⟨_,b0.mono hM,c0⟩,⟨_,b1.mono hM,c1⟩,⟨_,b2.mono hM,c2⟩⟩
def PC (m0 m1 m2 c:Nat):Nat:=if c=1 then m0 else if c=2 then m1 else m2
theorem EF.map (h:EF w B ob m0 m1 m2 N O){c:Nat}(hc:c=1\/c=2\/c=3):∃D,w.ownsMap prog 9 Bf (PC m0 m1 m2 c) N D/\Db D (O.get c):=by
 rcases hc with rfl|rfl|rfl
 ·exact h.pre
 ·exact h.inf
 ·exact h.post
theorem EF.ft {w':World}(h:EF w B ob m0 m1 m2 N O){c:Nat}(hc:c=1\/c=2\/c=3){nm:Bs} {v:Option DH} {D:DataW Unit}(ho:w'.ownsMap prog 9 Bf (PC m0 m1 m2 c) (N+1) D) (hm:Db D (Pz.put (O.get c) nm v)) (ht:w.mapTurned w' (PC m0 m1 m2 c)):
  EF w' B ob m0 m1 m2 (N+1) (O.set c nm v):=by
 have hl:=h.at.ja;have hg:=ht.grown;obtain⟨x,y,a,⟨D0,b0,c0⟩,⟨D1,b1,c1⟩,⟨D2,b2,c2⟩⟩:=h;obtain⟨y1,y2,y3,y4,y5,y6⟩:=y;have hk:∀b,b<w.heap.size->b≠PC m0 m1 m2 c->w'.heap[b]? =w.heap[b]? :=fun b hb qP=>hg.block b hb (fun e=>qP (Option.some.inj e));rcases hc with rfl|rfl|rfl
 ·exact⟨x,⟨y1,y2,y3,y4,y5,y6⟩,(hk _ hl.1 y4).trans a,⟨D,ho,hm⟩,⟨_,At (b1.mono (mO _)) (hk _ hl.2.2.1 (fun e=>y1 e.symm)),c1⟩,⟨_,At (b2.mono (mO _)) (hk _ hl.2.2.2 (fun e=>y2 e.symm)),c2⟩⟩
 ·exact⟨x,⟨y1,y2,y3,y4,y5,y6⟩,(hk _ hl.1 y5).trans a,⟨_,At (b0.mono (mO _)) (hk _ hl.2.1 y1),c0⟩,⟨D,ho,hm⟩,⟨_,At (b2.mono (mO _)) (hk _ hl.2.2.2 (fun e=>y3 e.symm)),c2⟩⟩
 ·exact⟨x,⟨y1,y2,y3,y4,y5,y6⟩,(hk _ hl.1 y6).trans a,⟨_,At (b0.mono (mO _)) (hk _ hl.2.1 y2),c0⟩,⟨_,At (b1.mono (mO _)) (hk _ hl.2.2.1 y3),c1⟩,⟨D,ho,hm⟩⟩
theorem OM {b:Nat} {w':World}(h:w.mapTurned w' b) (hB:B<=b):Below B w w':=by
 have hg:=h.grown;exact⟨hg.os,hg.tape,hg.output,hg.size,fun i hi=>by
  rcases ls i w.heap.size with h1|h1
  ·exact hg.block i h1 (fun e=>by have:=Option.some.inj e;omega)
  ·have h2:w'.heap.size=w.heap.size:=by
    obtain⟨es,clock,es',AAK,hb,rfl⟩:=h;simp[ChangeMaps.setBlock]
   rw[oS (by omega),oS h1]⟩
end
theorem Es {w w':World} {b:Nat} {X:Nat->Prop}(h:w.mapTurned w' b) (hx:X b):Kept X w w':=
 ⟨h.grown.os,h.grown.tape,h.grown.output,h.grown.size,fun i hi hn=>h.grown.block i hi (fun e=>hn (by rw[Option.some.inj e];exact hx))⟩
theorem Gb (k:Int):(k=1\/k=2)/\cls k=1\/(k=3\/k=4\/k=5)/\cls k=2\/(k=6\/k=7)/\cls k=3\/(k≠1/\k≠2/\k≠3/\k≠4/\k≠5/\k≠6/\k≠7)/\cls k=0:=by
 unfold cls;by_cases h1:k=1\/k=2
 ·exact .inl ⟨h1,by rw[lQ h1]⟩
 by_cases h2:k=3\/k=4\/k=5
 ·exact .inr (.inl ⟨h2,by rw[lL h1,lQ h2]⟩)
 by_cases h3:k=6\/k=7
 ·exact .inr (.inr (.inl ⟨h3,by rw[lL h1,lL h2,lQ h3]⟩))
 exact .inr (.inr (.inr ⟨by omega,by rw[lL h1,lL h2,lL h3]⟩))
theorem YO (k:Int) (w:World):Calls prog 32 #[.int .i64 k] w fun e w'=>e= .returned (.int .i64 ((cls k:Int)-1))/\w=w':=by
 have h:=cB k w;have e:Wj k=(cls k:Int)-1:=by
  rcases Gb k with⟨h,e⟩|⟨h,e⟩|⟨h,e⟩|⟨h,e⟩
  all_goals
   rw[e];unfold Wj
   repeat' split
   all_goals omega
 rwa [e]at h
def QI (w:World) (B ob m0 m1 m2 N:Nat) (r:Nat×Am) (e:Ending) (w':World):Prop:=e= .returned (.int .i64 r.1)/\EF w' B ob m0 m1 m2 (N+1) r.2/\Kept (fun b=>b=m0\/b=m1\/b=m2) w w'/\w.heap.size<=w'.heap.size
theorem NS (a:Bs) (c d:UInt8):((bs a).toList== [c,d])=decide (a= [c,d]):=by
 have h2:(⟨#[c,d]⟩:ByteArray).toList= [c,d]:=by simp
 have h3:((bs a).toList==(⟨#[c,d]⟩:ByteArray).toList)=decide (a= [c,d]):=by
  rw[<-oz,Du];exact mZ.2 Fv
 rw[h2]at h3;exact h3
theorem iz {w:World} {B ob m0 m1 m2 N:Nat} {O:Am}(h:EF w B ob m0 m1 m2 N O) (hN:N<100000000) (hBw:B<=w.heap.size) (p kind:Int) (nm:Bs) (hl:nm.length<=1000000000):
  Calls prog 18 #[.pointer (some ⟨ob,0,none⟩),.int .i64 p,.int .i64 kind,.string (bs nm)] w (QI w B ob m0 m1 m2 N (EK O p kind nm)):=by
 have CC:=lK (fun W=>YO kind W);have HT:=lK h;have c0:=h.at.cells.1;have c1:=h.at.cells.2.1;have c2:=h.at.cells.2.2;unfold QI;obtain⟨D1,O1,M1⟩:=h.inf;obtain⟨D2,O2,M2⟩:=h.post;have ye:=lK O1;have vp:=lK O2;have HM1:=lK M1;have HM2:=lK M2;have uU:Hid (N<maxLen):=lK (by unfold maxLen;omega);have HOB:Hid (B<=m0/\B<=m1/\B<=m2):=lK ⟨h.hB.2.1,h.hB.2.2.1,h.hB.2.2.2⟩;have uq:=lK hBw;clear O1 O2 M1 M2;have uV:=GU nm 44;have rE:=GU nm 124;have sBr:=NS nm 91 93;have sCu:=NS nm 123 125;by_cases h1:p<0\/1200<p
 ·have e:EK O p kind nm=(40,O):=by unfold EK;dsimp only;rw[lQ h1]
  rw[e];have qU:Hid (decide (p<0)=true\/(decide (p<0)=false/\decide (1200<p)=true)):=lK (by simp only[mL,mN];omega);clear h e h1 c0 c1 c2 uV rE sBr sCu;rcases qU.o with k1|⟨k1,k2⟩
  all_goals
   go_enter pI,om
   go_wp2_with (go_at_call 32;(with_reducible refine(CC.o _).mono ?_))
   rintro e w' ⟨rfl,rfl⟩;go_wp2;go_ret;exact⟨rfl,HT.o.mono (mO _),Kept.refl _ _,lM _⟩
 have k1:decide (p<0)=false:=lO (by omega);have k2:decide (1200<p)=false:=lO (by omega);by_cases h2:cls kind=0
 ·have e:EK O p kind nm=(41,O):=by unfold EK;dsimp only;rw[lL h1,lQ h2]
  rw[e];have CD:Hid (∀W,Calls prog 32 #[.int .i64 kind] W fun e w'=>e= .returned (.int .i64 (-1))/\W=w'):=lK (fun W=>by have h:=CC.o W;rw[h2]at h;exact h);clear h e h1 h2 c0 c1 c2 uV rE sBr sCu CC;go_enter pI,om
  go_wp2_with (go_at_call 32;(with_reducible refine(CD.o _).mono ?_))
  rintro e w' ⟨rfl,rfl⟩;go_wp2;go_ret;exact⟨rfl,HT.o.mono (mO _),Kept.refl _ _,lM _⟩
 have hc:cls kind=1\/cls kind=2\/cls kind=3:=by rcases Gb kind with⟨_,e⟩|⟨_,e⟩|⟨_,e⟩|⟨_,e⟩<;>omega
 by_cases h3:nm= [44]
 ·have e:EK O p kind nm=(42,O):=by unfold EK;dsimp only;rw[lL h1,lL h2,lQ h3]
  rw[e];rw[lU h3]at uV;clear h e h1 h2 h3 c0 c1 c2 rE sBr sCu;rcases hc with hc|hc|hc
  all_goals
   have CD:=CC;rw[hc]at CD;clear CC hc;go_enter pI,om
   go_wp2_with (go_at_call 32;(with_reducible refine(CD.o _).mono ?_))
   rintro e w' ⟨rfl,rfl⟩;go_wp2;go_ret;exact⟨rfl,HT.o.mono (mO _),Kept.refl _ _,lM _⟩
 rw[lO h3]at uV;by_cases h4:nm= [124]/\¬(cls kind=2/\(p=0\/1000<p))\/nm= [91,93]\/nm= [123,125]
 ·have e:EK O p kind nm=(43,O):=by unfold EK;dsimp only;rw[lL h1,lL h2,lL h3,lQ h4]
  rw[e];have qU:Hid ((((bs nm).toList== [124])=true/\cls kind=2/\(p==0)=false/\decide (1000<p)=false)\/(((bs nm).toList== [124])=true/\(cls kind=1\/cls kind=3))\/(((bs nm).toList== [124])=false/\((bs nm).toList== [91,93])=true)\/(((bs nm).toList== [124])=false/\((bs nm).toList== [91,93])=false/\((bs nm).toList== [123,125])=true)):=lK (by
   rw[rE,sBr,sCu];simp only[mL,mN,lY,ne_eq];rcases h4 with⟨hn,h5⟩|hn|hn
   ·subst hn;by_cases h6:cls kind=2
    ·exact .inl ⟨rfl,h6,by omega,by omega⟩
    ·exact .inr (.inl ⟨rfl,by omega⟩)
   ·subst hn;exact .inr (.inr (.inl ⟨by decide,rfl⟩))
   ·subst hn;exact .inr (.inr (.inr ⟨by decide,by decide,rfl⟩)))
  clear h e h1 h2 h3 h4 c0 c1 c2 rE sBr sCu;have KC:Hid (cls kind=1\/cls kind=2\/cls kind=3):=lK hc;clear hc;rcases qU.o with⟨t1,hc,t2,t3⟩|⟨t1,hc|hc⟩|⟨t1,t2⟩|⟨t1,t2,t3⟩
  rotate_left 3
  ·rcases KC.o with hc|hc|hc
   all_goals
    have CD:=CC;rw[hc]at CD;clear CC hc;go_enter pI,om
    go_wp2_with (go_at_call 32;(with_reducible refine(CD.o _).mono ?_))
    rintro e w' ⟨rfl,rfl⟩;go_wp2;go_ret;exact⟨rfl,HT.o.mono (mO _),Kept.refl _ _,lM _⟩
  ·rcases KC.o with hc|hc|hc
   all_goals
    have CD:=CC;rw[hc]at CD;clear CC hc;go_enter pI,om
    go_wp2_with (go_at_call 32;(with_reducible refine(CD.o _).mono ?_))
    rintro e w' ⟨rfl,rfl⟩;go_wp2;go_ret;exact⟨rfl,HT.o.mono (mO _),Kept.refl _ _,lM _⟩
  all_goals
   have CD:=CC;rw[hc]at CD;clear CC hc;go_enter pI,om
   go_wp2_with (go_at_call 32;(with_reducible refine(CD.o _).mono ?_))
   rintro e w' ⟨rfl,rfl⟩;go_wp2;go_ret;exact⟨rfl,HT.o.mono (mO _),Kept.refl _ _,lM _⟩
 have qU:Hid ((((bs nm).toList== [124])=true/\cls kind=2/\(p=0\/1000<p))\/(((bs nm).toList== [124])=false/\((bs nm).toList== [91,93])=false/\((bs nm).toList== [123,125])=false)):=lK (by
  rw[rE,sBr,sCu];simp only[mL,mN];by_cases hn:nm= [124]
  ·subst hn;exact .inl ⟨rfl,Decidable.byContradiction (fun hx=>h4 (.inl ⟨rfl,hx⟩))⟩
  ·exact .inr ⟨hn,fun e=>h4 (.inr (.inl e)),fun e=>h4 (.inr (.inr e))⟩)
 clear rE sBr sCu;obtain⟨D,OD,MD⟩:=h.map hc;have HKY:Hid (keyOf prog 9 (.string (bs nm))=some (.string nm)):=lK (fY hl);by_cases h5:p=0
 ·have e:EK O p kind nm=(0,O.set (cls kind) nm none):=by unfold EK;dsimp only;rw[lL h1,lL h2,lL h3,lL h4,lQ h5]
  rw[e];have zj:Hid (∀w',w'.ownsMap prog 9 Bf (PC m0 m1 m2 (cls kind)) N (D.del (.string nm))->w.mapTurned w' (PC m0 m1 m2 (cls kind))->EF w' B ob m0 m1 m2 (N+1) (O.set (cls kind) nm none)):=lK (fun w' ho ht=>HT.o.ft hc (ho.mono (mO _)) (MD.del nm) ht);have yu:=lK OD;have t0:(p==0)=true:=by rw[nH];exact h5
  have KC:Hid (cls kind=1\/cls kind=2\/cls kind=3):=lK hc;clear h e h1 h2 h3 h4 hc OD MD h5;rcases KC.o with hc|hc|hc
  all_goals
   have CD:=CC;have HTV:=zj;have vm:=yu;rw[hc]at CD HTV vm⊢;rcases qU.o with⟨u1,u2,_⟩|⟨u1,u2,u3⟩
   ·first
     | (rw[hc]at u2;exact absurd u2 (by decide))
     | (clear CC zj yu qU KC hc u2;go_enter pI,om;go_wp2_with (go_at_call 32;(with_reducible refine(CD.o _).mono ?_));rintro e w' ⟨rfl,rfl⟩;go_wp2_with (at_delete;refine wpList_delete_own _ rfl _ _ 84 9 rfl 61 To underlying84 Bf _ N D rfl vm.o _ _ rfl HKY.o ?_;intro w1 hown1 hturn1);go_ret;exact⟨rfl,HTV.o _ hown1 hturn1,Es hturn1 (by first|exact .inl rfl|exact .inr (.inl rfl)|exact .inr (.inr rfl)),hturn1.grown.size⟩)
   ·clear CC zj yu qU KC hc;go_enter pI,om
    go_wp2_with (go_at_call 32;(with_reducible refine(CD.o _).mono ?_))
    rintro e w' ⟨rfl,rfl⟩
    go_wp2_with (at_delete;refine wpList_delete_own _ rfl _ _ 84 9 rfl 61 To underlying84 Bf _ N D rfl vm.o _ _ rfl HKY.o ?_;intro w1 hown1 hturn1)
    go_ret;exact⟨rfl,HTV.o _ hown1 hturn1,Es hturn1 (by first|exact .inl rfl|exact .inr (.inl rfl)|exact .inr (.inr rfl)),hturn1.grown.size⟩
 have t0:(p==0)=false:=by rw[lY];exact h5
 have c0a:=fun x=>AN c0 x;have c1a:=fun x=>AN c1 x;have c2a:=fun x=>AN c2 x;have c0b:=fun x y=>AN (AN c0 x) y;have c1b:=fun x y=>AN (AN c1 x) y;have c2b:=fun x y=>AN (AN c2 x) y;by_cases h6:cls kind=2/\(O.post nm).isSome\/cls kind=3/\(O.inf nm).isSome
 ·have e:EK O p kind nm=(43,O):=by unfold EK;dsimp only;rw[lL h1,lL h2,lL h3,lL h4,lL h5,lQ h6]
  rw[e];have K6:Hid ((cls kind=2/\(O.post nm).isSome=true)\/(cls kind=3/\(O.inf nm).isSome=true)):=lK h6;have KU:Hid ((((bs nm).toList== [124])=true/\cls kind=2/\(p=0\/1000<p))\/(((bs nm).toList== [124])=false/\((bs nm).toList== [91,93])=false/\((bs nm).toList== [123,125])=false)):=qU;have sH:Hid (∀a b:Obj,Below w.heap.size w ((w.alloc a).alloc b)):=lK (fun a b=>(Bzz a).alloc (by simp) b);clear h e h1 h2 h3 h4 hc OD MD h5 h6 qU;rcases K6.o with⟨hc,h7⟩|⟨hc,h7⟩
  ·have CD:=CC;rw[hc]at CD;rcases KU.o with⟨u1,_,u2⟩|⟨u1,u2,u3⟩
   ·have u3:decide (1000<p)=true:=lU (by rw[lY]at t0;omega);clear CC KU K6 hc u2;go_enter pI,om
    go_wp2_with (go_at_call 32;(with_reducible refine(CD.o _).mono ?_))
    rintro e w' ⟨rfl,rfl⟩
    go_wp2_with (first|(at_lookup;refine Ae _ rfl _ _ rfl m1 N D1 O.inf HM1.o rfl (by first|exact ye.o|exact ye.o.alloc _) nm rfl hl ?_;unfold AM Dl)|(at_lookup;refine Ae _ rfl _ _ rfl m2 N D2 O.post HM2.o rfl (by first|exact vp.o|exact vp.o.alloc _|exact(vp.o.alloc _).alloc _) nm rfl hl ?_;unfold AM Dl))
    go_ret;exact⟨rfl,(HT.o.below (sH.o _ _)).mono (mO _),Kept.AY (sH.o _ _),(sH.o _ _).size⟩
   ·clear CC KU K6 hc;go_enter pI,om
    go_wp2_with (go_at_call 32;(with_reducible refine(CD.o _).mono ?_))
    rintro e w' ⟨rfl,rfl⟩
    go_wp2_with (first|(at_lookup;refine Ae _ rfl _ _ rfl m1 N D1 O.inf HM1.o rfl (by first|exact ye.o|exact ye.o.alloc _) nm rfl hl ?_;unfold AM Dl)|(at_lookup;refine Ae _ rfl _ _ rfl m2 N D2 O.post HM2.o rfl (by first|exact vp.o|exact vp.o.alloc _|exact(vp.o.alloc _).alloc _) nm rfl hl ?_;unfold AM Dl))
    go_ret;exact⟨rfl,(HT.o.below (sH.o _ _)).mono (mO _),Kept.AY (sH.o _ _),(sH.o _ _).size⟩
  ·have CD:=CC;rw[hc]at CD;rcases KU.o with⟨u1,u2,_⟩|⟨u1,u2,u3⟩
   ·rw[hc]at u2;exact absurd u2 (by decide)
   ·clear CC KU K6 hc;go_enter pI,om
    go_wp2_with (go_at_call 32;(with_reducible refine(CD.o _).mono ?_))
    rintro e w' ⟨rfl,rfl⟩
    go_wp2_with (first|(at_lookup;refine Ae _ rfl _ _ rfl m1 N D1 O.inf HM1.o rfl (by first|exact ye.o|exact ye.o.alloc _) nm rfl hl ?_;unfold AM Dl)|(at_lookup;refine Ae _ rfl _ _ rfl m2 N D2 O.post HM2.o rfl (by first|exact vp.o|exact vp.o.alloc _|exact(vp.o.alloc _).alloc _) nm rfl hl ?_;unfold AM Dl))
    go_ret;exact⟨rfl,(HT.o.below (sH.o _ _)).mono (mO _),Kept.AY (sH.o _ _),(sH.o _ _).size⟩
 have e:EK O p kind nm=(0,O.set (cls kind) nm (some ⟨kind,p⟩)):=by unfold EK;dsimp only;rw[lL h1,lL h2,lL h3,lL h4,lL h5,lL h6]
 rw[e];have zj:Hid (∀W w',Below w.heap.size w W->w'.ownsMap prog 9 Bf (PC m0 m1 m2 (cls kind)) (N+1) (D.put (.string nm) (U4 nm ⟨kind,p⟩))->W.mapTurned w' (PC m0 m1 m2 (cls kind))->EF w' B ob m0 m1 m2 (N+1) (O.set (cls kind) nm (some ⟨kind,p⟩))):=lK (fun W w' hb ho ht=>(HT.o.below hb).ft hc ho (MD.put nm _) ht);have yu:=lK OD;have sH:Hid (∀a b:Obj,Below w.heap.size w ((w.alloc a).alloc b)):=lK (fun a b=>(Bzz a).alloc (by simp) b);have K6:Hid (cls kind=1\/(cls kind=2/\(O.post nm).isSome=false)\/(cls kind=3/\(O.inf nm).isSome=false)):=lK (by
  rcases hc with hc|hc|hc
  ·exact .inl hc
  ·exact .inr (.inl ⟨hc,by cases hx:(O.post nm).isSome with|false=>rfl|true=>exact absurd (.inl ⟨hc,hx⟩) h6⟩)
  ·exact .inr (.inr ⟨hc,by cases hx:(O.inf nm).isSome with|false=>rfl|true=>exact absurd (.inr ⟨hc,hx⟩) h6⟩))
 have u4:Hid (¬p=0):=lK h5;clear h e h1 h2 h3 h4 hc OD MD h5 h6;rcases K6.o with hc|⟨hc,h7⟩|⟨hc,h7⟩
 all_goals
  have CD:=CC;have HTV:=zj;have vm:=yu;rw[hc]at CD HTV vm⊢;rcases qU.o with⟨u1,u2,u3⟩|⟨u1,u2,u3⟩
  ·first
    | (rw[hc]at u2;exact absurd u2 (by decide))
    | (have u5:decide (1000<p)=true:=lU (by have:=u4.o;omega);clear CC zj yu qU K6 hc u2 u3;go_enter pI,om;go_wp2_with (go_at_call 32;(with_reducible refine(CD.o _).mono ?_));rintro e w' ⟨rfl,rfl⟩;go_wp2_with (first|(at_lookup;refine Ae _ rfl _ _ rfl m1 N D1 O.inf HM1.o rfl (by first|exact ye.o|exact ye.o.alloc _) nm rfl hl ?_;unfold AM Dl)|(at_lookup;refine Ae _ rfl _ _ rfl m2 N D2 O.post HM2.o rfl (by first|exact vp.o|exact vp.o.alloc _|exact(vp.o.alloc _).alloc _) nm rfl hl ?_;unfold AM Dl)|(refine wpList_mapUpdate_in _ rfl _ _ _ 84 rfl 9 61 To underlying84 Bf _ N D rfl ((vm.o.alloc _).alloc _) uU.o _ _ (.string nm) rfl rfl HKY.o (U4 nm ⟨kind,p⟩) [] (Gn nm ⟨kind,p⟩) ?_;intro w1 hown1 hturn1));go_ret;have rH:=(sH.o (.cells (Fa (EL nm (O.inf nm)) (EC (O.inf nm))) 61) (.cells (Fa (EL nm (O.post nm)) (EC (O.post nm))) 61)).size;exact⟨rfl,HTV.o _ _ (sH.o _ _) hown1 hturn1,(Kept.AY (sH.o _ _)).trans (Es hturn1 (by first|exact .inl rfl|exact .inr (.inl rfl)|exact .inr (.inr rfl))) (fun _ _ h=>h),lg (sH.o _ _).size hturn1.grown.size⟩)
  ·clear CC zj yu qU K6 hc;go_enter pI,om
   go_wp2_with (go_at_call 32;(with_reducible refine(CD.o _).mono ?_))
   rintro e w' ⟨rfl,rfl⟩
   go_wp2_with (first|(at_lookup;refine Ae _ rfl _ _ rfl m1 N D1 O.inf HM1.o rfl (by first|exact ye.o|exact ye.o.alloc _) nm rfl hl ?_;unfold AM Dl)|(at_lookup;refine Ae _ rfl _ _ rfl m2 N D2 O.post HM2.o rfl (by first|exact vp.o|exact vp.o.alloc _|exact(vp.o.alloc _).alloc _) nm rfl hl ?_;unfold AM Dl)|(refine wpList_mapUpdate_in _ rfl _ _ _ 84 rfl 9 61 To underlying84 Bf _ N D rfl ((vm.o.alloc _).alloc _) uU.o _ _ (.string nm) rfl rfl HKY.o (U4 nm ⟨kind,p⟩) [] (Gn nm ⟨kind,p⟩) ?_;intro w1 hown1 hturn1))
   go_ret;exact⟨rfl,HTV.o _ _ (sH.o _ _) hown1 hturn1,(Kept.AY (sH.o _ _)).trans (Es hturn1 (by first|exact .inl rfl|exact .inr (.inl rfl)|exact .inr (.inr rfl))) (fun _ _ h=>h),lg (sH.o _ _).size hturn1.grown.size⟩
end Go.Proofs
namespace Go.Pz
def F2:List (Int×Int×Bs):= [(1200,3,[58,45,32,45,45,62]),(1200,1,[58,45,32,63,45]),(1100,4,[59,32,124]),(1050,4,[45,62]),(1000,4,[44]),(900,2,[92,43]),(760,5,[35,60,61,61,62]),(700,3,[61,32,92,61,32,61,61,32,92,61,61,32,64,60,32,64,61,60,32,64,62,32,64,62,61,32,61,46,46,32,105,115,32,61,58,61,32,61,92,61,32,60,32,61,60,32,62,32,62,61,32,105,110,32,105,110,115,32,35,61,32,35,92,61,32,35,60,32,35,61,60,32,35,62,32,35,62,61]),(500,5,[43,32,45,32,47,92,32,92,47]),(450,3,[46,46]),(400,5,[42,32,47,32,47,47,32,114,101,109,32,109,111,100,32,100,105,118,32,60,60,32,62,62,32,120,111,114]),(200,3,[42,42]),(200,4,[94,32,58]),(200,2,[45,32,43,32,92])]
def Am.none:Am:=⟨fun _=>Option.none,fun _=>Option.none,fun _=>Option.none⟩
def JU (k p:Int) (O:Am) (nm:Bs):Am:=O.set (cls k) nm (some ⟨k,p⟩)
def GF (O:Am) (r:Int×Int×Bs):Am:=(Lib.fields r.2.2).foldl (JU r.2.1 r.1) O
def Jn:Am:=F2.foldl GF Am.none
end Go.Pz
namespace Go.Proofs
open Go.RowKit Go.Hb Go.Pz Go.Maps
def PX (r:Int×Int×Bs):List Value:= [.int .i64 r.1,.int .i64 r.2.1,.string (bs r.2.2)]
def Mk (w:World) (k:Nat) (W:World):Prop:=
 Below w.heap.size w W/\W.heap.size=w.heap.size+1+k/\(∀j,j<k->W.heap[w.heap.size+1+j]? =some (.map #[] 0))/\
 W.heap[w.heap.size]? =some (.cells #[.map (if 0<k then some (w.heap.size+1)else none),.map (if 1<k then some (w.heap.size+2)else none),.map (if 2<k then some (w.heap.size+3)else none)] 87)
theorem E5 {W:World} {b:Nat}(h:W.heap[b]? =some (.map #[] 0)):W.ownsMap prog 9 Bf b 0 (.map []):=by
 have h0:=World.ownsMap_made {W with heap:=Array.replicate b (.map #[] 0)} prog 9 Bf;have e:({W with heap:=Array.replicate b (.map #[] 0)} :World).heap.size=b:=by simp
 rw[e]at h0;refine At h0 (h.trans ?_);have h1:=lT ({W with heap:=Array.replicate b (.map #[] 0)} :World) (.map #[] 0);rw[e]at h1;exact h1.symm
theorem GW:Db (.map []:DataW Unit) (fun _=>none):=⟨isMap_empty,fun nm=>rfl,fun nm o z h=>by cases h⟩
structure Lv (w W:World) (G N:Nat) (O:Am):Prop where
 Fm:EF W w.heap.size w.heap.size (w.heap.size+1) (w.heap.size+2) (w.heap.size+3) N O
 row:W.heap[G]? =some (.cells (F2.flatMap PX).toArray 88)
 Ac:Below w.heap.size w W
 hG:w.heap.size+4<=G
theorem Lv.below {w W W':World} {G N:Nat} {O:Am}(h:Lv w W G N O) (hb:Below W.heap.size W W'):Lv w W' G N O:=
 ⟨h.Fm.below hb,(hb.block _ (lN.1 h.row).1).trans h.row,h.Ac.trans (hb.mono h.Ac.size),h.hG⟩
theorem eL {w W:World}(h:Mk w 3 W):EF W w.heap.size w.heap.size (w.heap.size+1) (w.heap.size+2) (w.heap.size+3) 0 Am.none:=
 ⟨⟨lM _,by omega,by omega,by omega⟩,⟨by omega,by omega,by omega,by omega,by omega,by omega⟩,h.2.2.2,⟨_,E5 (h.2.2.1 0 (by decide)),GW⟩,⟨_,E5 (h.2.2.1 1 (by decide)),GW⟩,⟨_,E5 (h.2.2.1 2 (by decide)),GW⟩⟩
theorem Mr {l:List (Int×Int×Bs)} {i j:Nat} {r:Int×Int×Bs} {v:Value}(hi:l[i]? =some r) (h:(PX r)[j]? =some v):(l.flatMap PX)[i*3+j]? =some v:=by
 have hj:j<3:=(mC.1 h).1
 induction l generalizing i with
 |nil=>cases hi
 |cons a l ih=>
  rw[pK];cases i with
  |zero=>
   simp only[nX,mD]at hi;subst hi;rw[pY (by show 0*3+j<3;omega)];simpa using h
  |succ i=>
   rw[oL (by show 3<=_;omega),show(i+1)*3+j-(PX a).length=i*3+j by show _-3=_;omega];exact ih (by simpa using hi)
theorem NY:(F2.all fun r=>(cls r.2.1==1||cls r.2.1==2||cls r.2.1==3)&&decide (r.2.2.length<=100)&&(r.2.2.all fun b=>decide (b.toNat<128))&&((Lib.fields r.2.2).all fun l=>decide (l.length<=100))&&decide ((Lib.fields r.2.2).length<=50))=true:=by kernel_rfl
theorem Mu {r:Int×Int×Bs}(h:r∈F2):(cls r.2.1=1\/cls r.2.1=2\/cls r.2.1=3)/\r.2.2.length<=100/\(∀b∈r.2.2,b.toNat<128)/\(∀l∈Lib.fields r.2.2,l.length<=100)/\(Lib.fields r.2.2).length<=50:=by
 have h1:=nS.1 NY r h;simp only[mJ,Bool.or_eq_true,nH,mL,nS]at h1;obtain⟨⟨⟨⟨h1,h2⟩,h3⟩,h4⟩,h5⟩:=h1;exact⟨by omega,h2,h3,h4,h5⟩
theorem Gl (P c:Nat):P<PC (P+1) (P+2) (P+3) c/\PC (P+1) (P+2) (P+3) c<P+4:=by
 unfold PC;constructor<;>(repeat' split)<;>omega
theorem YB {o:Oper} {a:Act} {w:World} {Q:Exit->Act->World->Prop} {K:Act->World->Prop}(m x v:Operand) (hop:o.op=Op.mapUpdate 84 m x v) (b n:Nat) (D:DataW Unit) (hm:a.eval m= .map (some b)) (qD:w.ownsMap prog 9 Bf b n D) (hn:n<maxLen) (nm:Bs) (r:DH) (hl:nm.length<=1000000000) (hx:a.eval x= .string (bs nm)) (hv:a.eval v=Dl nm r)
  (hK:∀w',w'.ownsMap prog 9 Bf b (n+1) (D.put (.string nm) (U4 nm r))->w.mapTurned w' b->K (a.put o.dst undef) w'):o.wp prog a w K Q:=by
 obtain⟨w',hrun,r1,r2⟩:=qD.store To underlying84 hn (fY hl) (Gn nm r);unfold Oper.wp;simp[execOp,hop,hm,hx,hv,hrun,Result.andThen];exact hK w' r1 r2
theorem NO {w W:World} {k:Nat}(h:Mk w k W) (hk:k<3):Mk w (k+1) ((W.alloc (.map #[] 0)).setCell ⟨w.heap.size,k,none⟩ (.map (some W.heap.size))):=by
 obtain⟨h1,h2,h3,h4⟩:=h;have hl:=(lN.1 h4).1;refine⟨(h1.alloc (by have:=h1.size;omega) _).setCell (p:=⟨w.heap.size,k,none⟩) (lM _) _,by rw[size_set];simp;omega,fun j hj=> ?_,?_⟩
 ·rw[AA _ _ _ (show w.heap.size+1+j≠w.heap.size by omega)];rcases ls j k with h5|h5
  ·exact(Lib.alloc_old W _ _ (by omega)).trans (h3 j h5)
  ·have e:w.heap.size+1+j=W.heap.size:=by omega
   rw[e];exact lT W _
 ·have h5:=Eh (i:=k) (v:= .map (some W.heap.size)) ((Lib.alloc_old W (.map #[] 0) _ hl).trans h4);rw[h5,h2]
  match k,hk with
  |0,_|1,_|2,_=>rfl
theorem ZH (vs:Array Value) (w:World):(callFunc 32 vs).run prog w= .ok (.enter 32 vs) w:=by kernel_rfl
theorem ca (w:World) (hF:∀(W:World) (nm:Bs),Below w.heap.size w W->nm.length<=1000->(∀b∈nm,b.toNat<128)->Calls prog 31 #[.string (bs nm)] W fun e w'=>e= .returned (.slice (some ⟨W.heap.size,0,none⟩) (Lib.fields nm).length (Lib.fields nm).length)/\w'=W.alloc (.cells ((Lib.fields nm).map fun l=>Value.string (bs l)).toArray 9)):
  Calls prog 13 #[] w fun e w'=>e= .returned (.pointer (some ⟨w.heap.size,0,none⟩))/\EF w' w.heap.size w.heap.size (w.heap.size+1) (w.heap.size+2) (w.heap.size+3) 1000 Jn/\Below w.heap.size w w':=by
 have HF:=lK hF;clear hF;go_enter func13,ntmps13
 go_wp2_with fail
 have hmk:∀W:World,(Instr.makeMap 84 none).run prog W= .ok (.map (some W.heap.size)) (W.alloc (.map #[] 0)):=fun _=>by kernel_rfl
 have M0:Hid (Mk w 0 (w.alloc (.cells #[.map none,.map none,.map none] 87))):=lK ⟨Bzz _,by simp,fun j hj=>absurd hj (Nat.not_lt_zero _),lT w _⟩
 go_loopw [9] (fun v wr=>(v= .int .i64 0/\Hid (Mk w 0 wr))\/(v= .int .i64 1/\Hid (Mk w 1 wr))\/(v= .int .i64 2/\Hid (Mk w 2 wr))\/(v= .int .i64 3/\Hid (Mk w 3 wr))) (fun v _=>3-(intOf v).toNat)
 case atStart=>exact .inl ⟨rfl,M0⟩
 case round=>
  rcases hrel with⟨rfl,hq⟩|⟨rfl,hq⟩|⟨rfl,hq⟩|⟨rfl,hq⟩
  ·have c0:∀x,(wr.alloc x).cell? ⟨w.heap.size,0,none⟩=some (.map none):=fun x=>AN (by rw[Lib.cell_of_heap hq.o.2.2.2];rfl) x;have f0:∀x,(wr.alloc x).frozen? ⟨w.heap.size,0,none⟩=false:=fun x=>Lib.frozen_of_heap ((Lib.alloc_old wr x _ (lN.1 hq.o.2.2.2).1).trans hq.o.2.2.2) 0;have HS:=NO (k:=0) hq.o (by decide);go_wp2;go_roundw
   case rel=>exact .inr (.inl ⟨rfl,lK HS⟩)
   case measure=>simp[intOf]
  ·have c0:∀x,(wr.alloc x).cell? ⟨w.heap.size,1,none⟩=some (.map none):=fun x=>AN (by rw[Lib.cell_of_heap hq.o.2.2.2];rfl) x;have f0:∀x,(wr.alloc x).frozen? ⟨w.heap.size,1,none⟩=false:=fun x=>Lib.frozen_of_heap ((Lib.alloc_old wr x _ (lN.1 hq.o.2.2.2).1).trans hq.o.2.2.2) 1;have HS:=NO (k:=1) hq.o (by decide);go_wp2;go_roundw
   case rel=>exact .inr (.inr (.inl ⟨rfl,lK HS⟩))
   case measure=>simp[intOf]
  ·have c0:∀x,(wr.alloc x).cell? ⟨w.heap.size,2,none⟩=some (.map none):=fun x=>AN (by rw[Lib.cell_of_heap hq.o.2.2.2];rfl) x;have f0:∀x,(wr.alloc x).frozen? ⟨w.heap.size,2,none⟩=false:=fun x=>Lib.frozen_of_heap ((Lib.alloc_old wr x _ (lN.1 hq.o.2.2.2).1).trans hq.o.2.2.2) 2;have HS:=NO (k:=2) hq.o (by decide);go_wp2;go_roundw
   case rel=>exact .inr (.inr (.inr ⟨rfl,lK HS⟩))
   case measure=>simp[intOf]
  ·clear M0
   go_wp2_with fail
   have MW:=lK (eL hq.o);have wZ:=lK (And.intro hq.o.1 hq.o.2.1);clear hq;obtain⟨G,hG⟩:∃G,G=wr.heap.size:=⟨_,rfl⟩;generalize hX:World.alloc _ _=X;rw[<-hG];have HX:Hid (Lv w X G 0 Am.none):=lK (by
    rw[<-hX,hG];exact⟨MW.o.below (Bzz _),lT wr _,wZ.o.1.trans ((Bzz _).mono wZ.o.1.size),by have:=wZ.o.2;omega⟩)
   clear hX hG MW wZ
   go_loopw [35] (fun v wr2=>∃(i N:Nat),v= .int .i64 i/\Hid (i<=14/\N<=50*i/\Lv w wr2 G N ((F2.take i).foldl GF Am.none))) (fun v _=>14-(intOf v).toNat)
   case atStart=>exact⟨0,0,rfl,lK ⟨by decide,by decide,HX.o⟩⟩
   case round=>
    obtain⟨i,N,rfl,hq⟩:=hrel;obtain⟨wr2,yF⟩:∃W,W=wr:=⟨_,rfl⟩;subst yF;obtain⟨hi,hNi,hI⟩:=hq.o;have HI:=lK hI;clear hq hI HX;by_cases qE:i<14
    ·have hli:(i:Int)<14:=by omega
     obtain⟨r,hr⟩:∃r,F2[i]? =some r:=⟨_,lu (show i<F2.length from qE)⟩;obtain⟨r1,r2,r3,r4,r5⟩:=Mu (mP hr);have n0:wr2.cell? ⟨G,i*3,none⟩=some (.int .i64 r.1):=by rw[Lib.cell_of_heap HI.o.row,oJ];exact Mr (j:=0) hr rfl
     have n1:wr2.cell? ⟨G,i*3+1,none⟩=some (.int .i64 r.2.1):=by rw[Lib.cell_of_heap HI.o.row,oJ];exact Mr (j:=1) hr rfl
     have n2:wr2.cell? ⟨G,i*3+2,none⟩=some (.string (bs r.2.2)):=by rw[Lib.cell_of_heap HI.o.row,oJ];exact Mr (j:=2) hr rfl
     have CF:=lK (fun(W:World) (hW:Below w.heap.size w W)=>HF.o W r.2.2 hW (by omega) r3);have CC:Hid (∀W,Calls prog 32 #[.int .i64 r.2.1] W fun e w'=>e= .returned (.int .i64 ((cls r.2.1-1:Nat):Int))/\W=w'):=lK (fun W=>by
      have h:=YO r.2.1 W
      rwa [show(cls r.2.1:Int)-1=((cls r.2.1-1:Nat):Int) by omega]at h)
     have ug:Hid ((F2.take (i+1)).foldl GF Am.none=(Lib.fields r.2.2).foldl (JU r.2.1 r.1) ((F2.take i).foldl GF Am.none)):=lK (by
      rw[List.take_add_one,hr,Option.toList_some,List.foldl_append];rfl)
     obtain⟨O,hO⟩:∃O,O=(F2.take i).foldl GF Am.none:=⟨_,rfl⟩;rw[<-hO]at HI ug;obtain⟨fl,wu⟩:∃fl,fl=Lib.fields r.2.2:=⟨_,rfl⟩;rw[<-wu]at CF ug r4 r5;obtain⟨q,hq⟩:∃q,q=cls r.2.1-1:=⟨_,rfl⟩;rw[<-hq]at CC;have HQ:=lK hq;have R1:=lK r1;have R4:=lK r4;have xH:(q:Int)<3:=by omega
     have hln:(fl.length:Int)<=50:=by omega
     clear hr hO wu hq r1 r2 r3 r4
     go_upto_region 10 with fail
     generalize hA:wr2.alloc _=A;have BA:Hid (Below w.heap.size w A):=lK (by rw[<-hA];exact HI.o.Ac.trans ((Bzz _).mono HI.o.Ac.size));have IA:Hid (Lv w A G N O):=lK (by rw[<-hA];exact HI.o.below (Bzz _));have HT:Hid (A.heap[wr2.heap.size]? =some (.cells (PX r).toArray 88)):=lK (by rw[<-hA];exact lT wr2 _);have x2:A.cell? ⟨wr2.heap.size,2,none⟩=some (.string (bs r.2.2)):=by rw[Lib.cell_of_heap HT.o];rfl
     obtain⟨T,sS⟩:∃T,T=wr2.heap.size:=⟨_,rfl⟩;have HTB:Hid (w.heap.size+4<=T):=lK (by rw[sS];have:=(lN.1 HI.o.row).1;have:=HI.o.hG;omega);rw[<-sS]at HT x2⊢;clear hA sS n0 n1 n2 HI
     go_wp2_with (go_at_call 31;(with_reducible refine(CF.o _ BA.o).mono ?_))
     rintro e W2 ⟨rfl,rfl⟩;clear x2 CF
     go_wp2_with fail
     obtain⟨F,hFe⟩:∃F,F=A.heap.size:=⟨_,rfl⟩;rw[<-hFe];generalize hB:A.alloc _=Bw;have OR:Hid (Lv w Bw G N O):=lK (by rw[<-hB];exact IA.o.below (Bzz _));have HT0:Hid (Bw.heap[T]? =some (.cells (PX r).toArray 88)):=lK (by rw[<-hB];exact(Lib.alloc_old A _ _ (lN.1 HT.o).1).trans HT.o);have HF0:Hid (Bw.heap[F]? =some (.cells (fl.map fun l=>Value.string (bs l)).toArray 9)):=lK (by rw[<-hB,hFe];exact lT A _);have xJ:Hid (w.heap.size+4<=F):=lK (by rw[hFe];have:=(lN.1 IA.o.row).1;have:=IA.o.hG;omega);clear hB hFe IA HT BA
     go_loopw [43] (fun v rJ=>∃j:Nat,v= .int .i64 j/\Hid (j<=fl.length/\Lv w rJ G (N+j) ((fl.take j).foldl (JU r.2.1 r.1) O)/\rJ.heap[T]? =some (.cells (PX r).toArray 88)/\rJ.heap[F]? =some (.cells (fl.map fun l=>Value.string (bs l)).toArray 9))) (fun v _=>fl.length-(intOf v).toNat)
     case atStart=>exact⟨0,rfl,lK ⟨mK _,OR.o,HT0.o,HF0.o⟩⟩
     case round=>
      obtain⟨j,rfl,hq⟩:=hrel;obtain⟨rJ,hwr3⟩:∃W,W=wr:=⟨_,rfl⟩;subst hwr3;obtain⟨hj,hI3,hT3,hF3⟩:=hq.o;have xU:=lK hI3;have ve:=lK hT3;have HF3:=lK hF3;clear hq hI3 hT3 hF3 OR HT0 HF0;by_cases hlt2:j<fl.length
      ·have hlj:(j:Int)<fl.length:=by omega
       obtain⟨nm,sh⟩:∃nm,fl[j]? =some nm:=⟨_,lu hlt2⟩;have n0:rJ.cell? ⟨F,j,none⟩=some (.string (bs nm)):=by rw[Lib.cell_of_heap HF3.o,oJ,mj,sh];rfl
       have zt:Hid (nm.length<=1000000000):=lK (by have:=R4.o nm (mP sh);omega);have xw:Hid ((fl.take (j+1)).foldl (JU r.2.1 r.1) O=JU r.2.1 r.1 ((fl.take j).foldl (JU r.2.1 r.1) O) nm):=lK (by
        rw[List.take_add_one,sh,Option.toList_some,List.foldl_append];rfl)
       obtain⟨D,OD,MD⟩:=xU.o.Fm.map R1.o;have yu:=lK OD;have uU:Hid (N+j<maxLen):=lK (by unfold maxLen;omega);have uO:Hid (T<rJ.drew.heap.size/\PC (w.heap.size+1) (w.heap.size+2) (w.heap.size+3) (cls r.2.1)≠T):=lK ⟨(lN.1 ve.o).1,by have:=HTB.o;have:=Gl w.heap.size (cls r.2.1);omega⟩;have HFL:Hid (F<rJ.drew.heap.size/\PC (w.heap.size+1) (w.heap.size+2) (w.heap.size+3) (cls r.2.1)≠F):=lK ⟨(lN.1 HF3.o).1,by have:=xJ.o;have:=Gl w.heap.size (cls r.2.1);omega⟩;have zj:Hid (∀w1:World,w1.ownsMap prog 9 Bf (PC (w.heap.size+1) (w.heap.size+2) (w.heap.size+3) (cls r.2.1)) (N+j+1) (D.put (.string nm) (U4 nm ⟨r.2.1,r.1⟩))->rJ.drew.mapTurned w1 (PC (w.heap.size+1) (w.heap.size+2) (w.heap.size+3) (cls r.2.1))->Lv w w1 G (N+(j+1)) ((fl.take (j+1)).foldl (JU r.2.1 r.1) O)):=lK (fun w1 ho ht=>by
        have hd:Lv w rJ.drew G (N+j) ((fl.take j).foldl (JU r.2.1 r.1) O):=xU.o.below (Ad (Below.refl _ _));have hg:=ht.grown;refine⟨by rw[xw.o];exact hd.Fm.ft R1.o ho (MD.put nm _) ht,(hg.block _ (lN.1 hd.row).1 (fun e=>by have:=Option.some.inj e;have:=hd.hG;have:=Gl w.heap.size (cls r.2.1);omega)).trans hd.row,hd.Ac.trans (OM ht (by have:=Gl w.heap.size (cls r.2.1);omega)),hd.hG⟩)
       have HMC:Hid (∀W:World,W.heap[w.heap.size]? =some (.cells #[.map (some (w.heap.size+1)),.map (some (w.heap.size+2)),.map (some (w.heap.size+3))] 87)->W.cell? ⟨w.heap.size,q,none⟩=some (.map (some (PC (w.heap.size+1) (w.heap.size+2) (w.heap.size+3) (cls r.2.1))))):=lK (fun W hW=>by
        rw[Lib.cell_of_heap hW,HQ.o];rcases R1.o with h|h|h<;>(rw[h];rfl))
       clear sh OD MD
       go_upto_region 13 with fail
       clear n0;refine wp_region_held_drew (S:=fun W=>W.heap[T]? =some (.cells (PX r).toArray 88)/\W.heap[w.heap.size]? =some (.cells #[.map (some (w.heap.size+1)),.map (some (w.heap.size+2)),.map (some (w.heap.size+3))] 87)) (by kernel_rfl) ⟨ve.o,xU.o.Fm.h⟩ (fun hS=> ?_);refine tk 0 (.pointer (some ⟨w.heap.size,0,none⟩)) rfl hS ?_;refine tk 1 (.pointer (some ⟨T,1,none⟩)) rfl hS ?_;refine DQ 2 (.int .i64 r.2.1) rfl hS (fun W hSW=> ?_) ?_
       ·have e1:W.cell? ⟨T,1,none⟩=some (.int .i64 r.2.1):=(by rw[Lib.cell_of_heap hSW.1];rfl);go_simp
       refine tk 4 (.pointer (some ⟨w.heap.size,0,none⟩)) rfl hS ?_;refine tk 5 (.pointer (some ⟨w.heap.size,0,none⟩)) rfl hS ?_;refine tk 8 (.string (bs nm)) rfl hS ?_;refine tk 9 (.string (bs nm)) rfl hS ?_;refine tk 10 (.pointer (some ⟨T,1,none⟩)) rfl hS ?_;refine DQ 11 (.int .i64 r.2.1) rfl hS (fun W hSW=> ?_) ?_
       ·have e1:W.cell? ⟨T,1,none⟩=some (.int .i64 r.2.1):=(by rw[Lib.cell_of_heap hSW.1];rfl);go_simp
       refine tk 12 (.pointer (some ⟨T,0,none⟩)) rfl hS ?_;refine DQ 13 (.int .i64 r.1) rfl hS (fun W hSW=> ?_) ?_
       ·have e1:W.cell? ⟨T,0,none⟩=some (.int .i64 r.1):=(by rw[Lib.cell_of_heap hSW.1];rfl);go_simp
       refine DQ 14 (Dl nm ⟨r.2.1,r.1⟩) rfl hS (fun W hSW=> ?_) ?_
       ·unfold Dl;go_simp
       try simp only[uu,Act.put]
       refine DD 3 rfl (fun K hK=> ?_);refine As (by rfl) 32 [.tmp 49] #[3] (by rfl) #[.int .i64 r.2.1] (by kernel_rfl) ZH ((CC.o _).mono ?_);rintro e' W6 ⟨rfl,rfl⟩;refine⟨_,rfl,?_⟩;refine hK.o _ _ hS (fun hS=> ?_);refine tk 6 (.pointer (some ⟨w.heap.size,q,none⟩)) rfl hS ?_;refine DQ 7 (.map (some (PC (w.heap.size+1) (w.heap.size+2) (w.heap.size+3) (cls r.2.1)))) rfl hS (fun W hSW=> ?_) ?_
       ·have e1:=HMC.o W hSW.2;go_simp
       try simp only[uu,Act.put]
       refine DD 15 rfl (fun K hK=> ?_);refine Aj rfl (YB _ _ _ rfl _ _ D rfl yu.o uU.o nm ⟨r.2.1,r.1⟩ zt.o rfl rfl ?_);intro w1 hown1 hturn1;have uX:=hturn1.grown;have HI1:=zj.o w1 hown1 hturn1;refine hK.o _ _ ⟨(uX.block _ uO.o.1 (fun e=>uO.o.2 (Option.some.inj e.symm))).trans ve.o,HI1.Fm.h⟩ (fun hS=> ?_)
       try simp only[uu,Act.put]
       refine wpAnyH_done (by kernel_rfl) ?_ _;go_wp2;go_roundw
       case rel=>exact⟨j+1,by go_num,lK ⟨by omega,HI1,(uX.block _ uO.o.1 (fun e=>uO.o.2 (Option.some.inj e.symm))).trans ve.o,(uX.block _ HFL.o.1 (fun e=>HFL.o.2 (Option.some.inj e.symm))).trans HF3.o⟩⟩
       case measure=>simp[intOf];omega
      ·have hjn:Hid (j=fl.length):=lK (by omega);go_wp2;go_roundw
       case rel=>exact⟨i+1,N+fl.length,by go_num,lK ⟨by omega,by omega,by rw[ug.o];have h:=xU.o;rw[hjn.o,List.take_length]at h;exact h⟩⟩
       case measure=>simp[intOf];omega
    ·have qN:Hid (i=14):=lK (by omega);go_wp2;go_ret;have h:=HI.o;rw[qN.o]at h;have e:(F2.take 14).foldl GF Am.none=Jn:=rfl;rw[e]at h;exact⟨rfl,h.Fm.mono (by omega),h.Ac⟩
theorem ND (k:Int) (w:World):Calls prog 34 #[.int .i64 k] w fun e w'=>e= .returned (.int .i64 (cls k))/\w=w':=by
 rcases Gb k with⟨h,e⟩|⟨h,e⟩|⟨h,e⟩|⟨h,e⟩
 ·rw[e];rcases h with rfl|rfl<;>(go_enter func34,ntmps34;go_wp2;go_ret;exact⟨rfl,rfl⟩)
 ·rw[e];rcases h with rfl|rfl|rfl<;>(go_enter func34,ntmps34;go_wp2;go_ret;exact⟨rfl,rfl⟩)
 ·rw[e];rcases h with rfl|rfl<;>(go_enter func34,ntmps34;go_wp2;go_ret;exact⟨rfl,rfl⟩)
 ·rw[e];obtain⟨h1,h2,h3,h4,h5,h6,h7⟩:=h;have b1:=lY.2 h1;have b2:=lY.2 h2;have b3:=lY.2 h3;have b4:=lY.2 h4;have b5:=lY.2 h5;have b6:=lY.2 h6;have b7:=lY.2 h7;clear h1 h2 h3 h4 h5 h6 h7;go_enter func34,ntmps34;go_wp2;go_ret;exact⟨rfl,rfl⟩
def D9 (x:Bs×DH):List Value:= [.string (bs x.1),.int .i64 x.2.ty,.int .i64 x.2.pr]
theorem Vu {l:Be} {i j:Nat} {r:Bs×DH} {v:Value}(hi:l[i]? =some r) (h:(D9 r)[j]? =some v):(l.flatMap D9)[i*3+j]? =some v:=by
 have hj:j<3:=(mC.1 h).1
 induction l generalizing i with
 |nil=>cases hi
 |cons a l ih=>
  rw[pK];cases i with
  |zero=>
   simp only[nX,mD]at hi;subst hi;rw[pY (by show 0*3+j<3;omega)];simpa using h
  |succ i=>
   rw[oL (by show 3<=_;omega),show(i+1)*3+j-(D9 a).length=i*3+j by show _-3=_;omega];exact ih (by simpa using hi)
structure EH (w:World) (B db:Nat) (lv:Value) (l:Be):Prop where
 hB:B<=db
 h:w.heap[db]? =some (.cells #[lv] 93)
 own:w.ownsRow B 61 3 lv l.length (l.flatMap D9)
 ne:lv.ownBlock≠some db
theorem EH.same {w w':World} {B db:Nat} {lv:Value} {l:Be}(h:EH w B db lv l) (hk:∀b,b=db\/lv.ownBlock=some b->w'.heap[b]? =w.heap[b]?):EH w' B db lv l:=
 ⟨h.hB,(hk _ (.inl rfl)).trans h.h,AS h.own fun b hb=>hk b (.inr hb),h.ne⟩
theorem EH.lt {w:World} {B db:Nat} {lv:Value} {l:Be}(h:EH w B db lv l):db<w.heap.size:=(lN.1 h.h).1
theorem EH.below {w w':World} {B db:Nat} {lv:Value} {l:Be}(h:EH w B db lv l) (hb:Below w.heap.size w w'):EH w' B db lv l:=
 h.same fun b qM=>hb.block b (by
  rcases qM with rfl|qM
  ·exact h.lt
  ·exact(h.own.lt b qM).2)
theorem KV {c:Nat} {nm:Bs} {l:Be} {i:Nat} {x:Bs×DH}(hx:l[i]? =some x) (h:x.1=nm/\cls x.2.ty=c):findD c nm (l.drop i)=some x.2:=by
 have hl:=(mC.1 hx);rw[pB hl.1,hl.2];unfold findD;rw[lQ h]
theorem Gw {c:Nat} {nm:Bs} {l:Be} {i:Nat} {x:Bs×DH}(hx:l[i]? =some x) (h:¬(x.1=nm/\cls x.2.ty=c)):findD c nm (l.drop i)=findD c nm (l.drop (i+1)):=by
 have hl:=(mC.1 hx);rw[pB hl.1,hl.2]
 conv=>lhs;unfold findD
 rw[lL h]
theorem OJ (a b:Bs):((bs a).toList==(bs b).toList)=decide (a=b):=by
 rw[<-oz,Du];exact mZ.2 Fv
theorem Xh {w:World} {B db:Nat} {lv:Value} {l:Be}(h:EH w B db lv l) (hl:l.length<=100000000) (c:Nat) (nm:Bs):
  Calls prog 35 #[.pointer (some ⟨db,0,none⟩),.int .i64 c,.string (bs nm)] w fun e w'=>e= .returned (AM nm (findD c nm l))/\Below w.heap.size w w':=by
 obtain⟨la,lc,rfl⟩:=Ap h.own;obtain⟨n,hn⟩:∃n,n=l.length:=⟨_,rfl⟩;obtain⟨R,hR⟩:∃R,R=findD c nm l:=⟨_,rfl⟩;rw[<-hR];have HN:=lK hn;have HR:=lK hR;have HD:=lK h;have ln:(n:Int)<=100000000:=by omega
 clear h hR;have HOW:Hid (w.ownsRow B 61 3 (.slice la n lc) n (l.flatMap D9)):=lK (by have h:=HD.o.own;rwa [<-hn]at h);rw[<-hn]at HD hl;clear hn;go_enter func35,ntmps35
 go_wp2_with fail
 generalize hA:w.alloc _=A;have BA:Hid (Below w.heap.size w A):=lK (by rw[<-hA];exact Bzz _);have HC:Hid (A.heap[w.heap.size]? =some (.cells #[.string ⟨#[]⟩,.int .i64 0,.int .i64 0] 61)):=lK (by rw[<-hA];exact lT w _);have c0:A.cell? ⟨db,0,none⟩=some (.slice la n lc):=by
  have h:=(BA.o.block db HD.o.lt).trans HD.o.h;rw[Lib.cell_of_heap h];rfl
 clear hA
 go_loop [8] (fun v=>∃i:Nat,v= .int .i64 i/\Hid (i<=n/\R=findD c nm (l.drop i))) (fun v=>n-(intOf v).toNat)
 case atStart=>exact⟨0,rfl,lK ⟨mK _,HR.o⟩⟩
 case round=>
  obtain⟨i,rfl,hq⟩:=hrel;have zA:=hq.o.1;have HQ:=lK hq.o.2;clear hq;by_cases qE:i<n
  ·have hli:(i:Int)<n:=by omega
   obtain⟨x,hx⟩:∃x,l[i]? =some x:=⟨_,lu (by have:=HN.o;omega)⟩;obtain⟨g,cap,hv,uX,uF⟩:=HOW.o.form (by omega);have se:la=some ⟨g,0,none⟩:=by simp only[mX]at hv;exact hv.1
   subst se;have key:∀(j:Nat) (v:Value),(D9 x)[j]? =some v->A.cell? ⟨g,i*3+j,none⟩=some v:=fun j v hv=>by
    have hj:j<3:=(mC.1 hv).1;rw[AO (BA.o.block g uF),World.ownsRow.cellAt HOW.o (i*3+j) (by omega)];exact Vu hx hv
   have n0:A.cell? ⟨g,i*3,none⟩=some (.string (bs x.1)):=key 0 _ rfl;have n1:A.cell? ⟨g,i*3+1,none⟩=some (.int .i64 x.2.ty):=key 1 _ rfl;have n2:A.cell? ⟨g,i*3+2,none⟩=some (.int .i64 x.2.pr):=key 2 _ rfl;have CC:=lK (fun W=>ND x.2.ty W);have HX:=lK hx;clear hx hv key uX uF;by_cases sh:x.1=nm
   ·have s1:((bs x.1).toList==(bs nm).toList)=true:=by rw[OJ];exact lU sh
    by_cases hc:cls x.2.ty=c
    ·have s2:((cls x.2.ty:Int)==(c:Int))=true:=by rw[nH];omega
     have HF:Hid (R=some x.2):=lK (HQ.o.trans (KV HX.o ⟨sh,hc⟩));subst sh;clear hc
     go_wp2_with (first|(go_at_call 34;(with_reducible refine(CC.o _).mono ?_);rintro e w' ⟨rfl,rfl⟩)|(refine dM rfl _ _ rfl w.heap.size x.1 x.2 rfl rfl _ HC.o rfl ?_))
     rw[HF.o];refine lS (v:=AM x.1 (some x.2)) ?_ rfl ⟨rfl,Below.row BA.o (lM _) _⟩;exact results_cell_tmp (fn:=Tryz.f35) rfl _ _ w.heap.size 61 (Fa x.1 x.2) (0,0) _ (.bool true) rfl rfl (mF _ _ _ _ _ _ HC.o) underlying61 rfl Oh
    ·have s2:((cls x.2.ty:Int)==(c:Int))=false:=by rw[lY];omega
     have HF:Hid (R=findD c nm (l.drop (i+1))):=lK (HQ.o.trans (Gw HX.o (fun h=>hc h.2)));clear sh hc
     go_wp2_with (go_at_call 34;(with_reducible refine(CC.o _).mono ?_);rintro e w' ⟨rfl,rfl⟩)
     go_round
     case rel=>exact⟨i+1,by go_num,lK ⟨by omega,HF.o⟩⟩
     case measure=>simp[intOf];omega
   ·have s1:((bs x.1).toList==(bs nm).toList)=false:=by rw[OJ];exact lO sh
    have HF:Hid (R=findD c nm (l.drop (i+1))):=lK (HQ.o.trans (Gw HX.o (fun h=>sh h.1)));clear sh
    go_wp2_with (go_at_call 34;(with_reducible refine(CC.o _).mono ?_);rintro e w' ⟨rfl,rfl⟩)
    go_round
    case rel=>exact⟨i+1,by go_num,lK ⟨by omega,HF.o⟩⟩
    case measure=>simp[intOf];omega
  ·have HF:Hid (R=none):=lK (by rw[HQ.o,List.drop_of_length_le (by have:=HN.o;omega)];rfl);have f0:∀j,A.frozen? ⟨w.heap.size,j,none⟩=false:=fun j=>Lib.frozen_of_heap HC.o j
   go_wp2_with (refine dM rfl _ _ rfl w.heap.size [] ⟨0,0⟩ rfl rfl _ HC.o rfl ?_)
   rw[HF.o];refine lS (v:=AM nm none) ?_ rfl ⟨rfl,Below.row BA.o (lM _) _⟩;exact results_cell_tmp (fn:=Tryz.f35) rfl _ _ w.heap.size 61 (Fa [] ⟨0,0⟩) (0,0) _ (.bool false) rfl rfl (mF _ _ _ _ _ _ HC.o) underlying61 rfl Oh
end Go.Proofs
