import Derived.Test.YtpocgkiamgipdaaGreatDoorSbI
set_option maxRecDepth 1000000
set_option maxHeartbeats 0
set_option linter.unusedVariables false
set_option linter.unusedSimpArgs false
open Go.Proofs.Tryz
namespace Go.Proofs
open Go.RowKit Go.Hb Go.Pz Go.Lx Go.Ps
def Lz:Code->Code
 | .seq _ b=>b
 |c=>c
noncomputable def cU:Code:=Lz (Lz (Lz (Lz (Lz (Tryz.f7.body.getD .skip)))))
noncomputable def gT:Code:=Lz cU
noncomputable def dR:Code:=Lz gT
noncomputable def dF:Code:=Lz dR
noncomputable def Xw:Code:=Lz dF
noncomputable def gG:Code:=Lz Xw
def Gt (lv:Value) (k:Int) (o:Value) (q:Int) (c:Array Value) (nv sv:Value) (n:Int) (vars:Int) (tv:Value):Array Value:= #[lv,.int .i64 k,o,.int .i64 q]++c++ #[nv,sv,.int .i64 n,.bool false,.int .i64 vars,tv]
theorem Ee (lv:Value) (k:Int) (o:Value) (q:Int) (a0 a1 a2 a3 a4 a5 nv sv:Value) (n vars:Int) (tv:Value):Gt lv k o q #[a0,a1,a2,a3,a4,a5] nv sv n vars tv= #[lv,.int .i64 k,o,.int .i64 q,a0,a1,a2,a3,a4,a5,nv,sv,.int .i64 n,.bool false,.int .i64 vars,tv]:=by simp[Gt]
theorem EX {w:World} {P:Nat} {lv:Value} {k:Int} {o:Value} {q:Int} {c:Array Value} {nv sv:Value} {n vars:Int} {tv:Value}(hc:c.size=6) (h:w.heap[P]? =some (.cells (Gt lv k o q c nv sv n vars tv) 69)):
  w.cell? ⟨P,10,none⟩=some nv/\w.cell? ⟨P,11,none⟩=some sv/\w.cell? ⟨P,12,none⟩=some (.int .i64 n)/\w.cell? ⟨P,15,none⟩=some tv:=by
 obtain⟨a0,a1,a2,a3,a4,a5,rfl⟩:=Tt hc;rw[Ee]at h;refine⟨?_,?_,?_,?_⟩<;>(rw[Lib.cell_of_heap h];rfl)
theorem XJ {lv:Value} {k:Int} {o:Value} {q:Int} {c:Array Value} {nv sv sv':Value} {n vars:Int} {tv:Value}(hc:c.size=6):(Gt lv k o q c nv sv n vars tv).setIfInBounds 11 sv'=Gt lv k o q c nv sv' n vars tv:=by
 obtain⟨a0,a1,a2,a3,a4,a5,rfl⟩:=Tt hc;rw[Ee,Ee];rfl
structure kf (w Y:World) (lv:Value) (k:Int) (o:Value) (q:Int) (c:Array Value) (nv sv:Value) (n:Int) (vars:Int) (tv:Value) (t:Tm) (names:List (Bs×Nat)) (times:List Nat) (B:Nat):Prop where
 Ac:Below w.heap.size w Y
 sz:w.heap.size+5<=B/\B<=Y.heap.size
 h2:Y.heap[w.heap.size+1+1]? =some (.cells (Ch 0) 35)
 h3:Y.heap[w.heap.size+1+1+1]? =some (.cells #[.nilIface] 37)
 h4:Y.heap[w.heap.size+1+1+1+1]? =some (.cells (Gt lv k o q c nv sv n vars tv) 69)
 c6:c.size=6
 c1:c.all (·.oneCell')=true
 tm:AT Y (fun b=>w.heap.size+5<=b/\b<Y.heap.size) c.toList t
 Jm:Y.ownsRow B 47 2 nv names.length (names.flatMap QN)
 Ji:Y.ownsRow B 3 1 tv times.length (times.map Ly)
 len:times.length=names.length
structure Uy (Y W:World) (P:Nat) (R:Array Value) (sv:Value) (l:List Bs):Prop where
 kept:Kept (fun b=>b=P) Y W
 hP:W.heap[P]? =some (.cells R 69)
 own:W.ownsRow Y.heap.size 9 1 sv l.length (l.flatMap YT)
theorem Uy.below {Y W W':World} {P:Nat} {R:Array Value} {sv:Value} {l:List Bs}(h:Uy Y W P R sv l) (hb:Below W.heap.size W W'):Uy Y W' P R sv l:=
 ⟨h.kept.trans (Kept.AY hb) (fun _ _ h=>h),(hb.block _ (lN.1 h.hP).1).trans h.hP,AS h.own fun b qM=>hb.block b (h.own.lt b qM).2⟩
theorem Uy.more {Y W w2:World} {P g cap:Nat} {sa:Option Addr} {sc:Nat} {l:List Bs} {x:Bs} {lv:Value} {k:Int} {o:Value} {q:Int} {c:Array Value} {nv:Value} {n vars:Int} {tv:Value}(hc:c.size=6) (hP:P<Y.heap.size) (h:Uy Y W P (Gt lv k o q c nv (.slice sa l.length sc) n vars tv) (.slice sa l.length sc) l)
  (qD:w2.ownsRow Y.heap.size 9 1 (.slice (some ⟨g,0,none⟩) (l.length+1) cap) (l.length+1) (l.flatMap YT++YT x)) (hg:W.grownBy w2 (Value.slice sa l.length sc).ownBlock) (qP:some P≠(Value.slice sa l.length sc).ownBlock):
  Uy Y (w2.setCell ⟨P,11,none⟩ (.slice (some ⟨g,0,none⟩) (l.length+1) cap)) P (Gt lv k o q c nv (.slice (some ⟨g,0,none⟩) (l.length+1) cap) n vars tv) (.slice (some ⟨g,0,none⟩) (l.length+1) cap) (l++ [x]):=by
 have lP:P<W.heap.size:=(lN.1 h.hP).1;refine⟨?_,?_,?_⟩
 ·refine⟨hg.os.trans h.kept.os,hg.tape.trans h.kept.tape,hg.output.trans h.kept.output,by rw[size_set];exact lg h.kept.size hg.size,fun b hb hx=>(AA _ _ _ hx).trans ((hg.block b (lR hb h.kept.size) (fun e=> ?_)).trans (h.kept.block b hb hx))⟩;have:=(h.own.lt b e.symm).1;omega
 ·have h1:=Eh (i:=11) (v:= .slice (some ⟨g,0,none⟩) (l.length+1) cap) ((hg.block P lP qP).trans h.hP)
  rwa [XJ hc]at h1
 ·rw[l6,oW];have hgY:=(qD.lt g rfl).1;refine AS (by simpa using qD) (fun b hb=>AA _ _ _ (by show b≠P;simp only[Value.ownBlock,mD]at hb;omega))
theorem Nq {names:List (Bs×Nat)} {times:List Nat} {i y:Nat} {x:Bs×Nat}(hx:names[i]? =some x) (hy:times[i]? =some y):Aw (names.take (i+1)) (times.take (i+1))=Aw (names.take i) (times.take i)++if y=1 then [x.1]else []:=by
 induction names generalizing times i with
 |nil=>cases hx
 |cons a l ih=>
  cases times with
  |nil=>cases hy
  |cons b m=>
   cases i with
   |zero=>
    simp only[nX,mD]at hx hy;subst hx hy;simp only[nL,ny,Aw,List.nil_append]
   |succ i=>
    have h:=ih (times:=m) (i:=i) (by simpa using hx) (by simpa using hy);simp only[nL,Aw];split
    ·rw[h];rfl
    ·exact h
theorem JX (l:List (Bs×Nat)) (m:List Nat):(Aw l m).length<=l.length:=by
 induction l generalizing m with
 |nil=>cases m<;>exact lM _
 |cons a l ih=>
  cases m with
  |nil=>exact mK _
  |cons b m=>
   unfold Aw;have:=ih m;split
   ·simp only[nF];omega
   ·simp only[nF];omega
theorem be (b:ByteArray) (w:World):(Instr.buildSlice 33 1 #[(0,.string b)]).run prog w= .ok (.slice (some ⟨w.heap.size,0,none⟩) 1 1) (w.alloc (.cells #[.string b] 9)):=by kernel_rfl
theorem WR {o:Oper} {a:Act} {w:World} {Q:Exit->Act->World->Prop} {K:Act->World->Prop}(x:Operand) (ho:o.op= .buildSlice 33 1 #[(0,x)]) (b:ByteArray) (hx:a.eval x= .string b) (h:K (a.put o.dst (.slice (some ⟨w.heap.size,0,none⟩) 1 1)) (w.alloc (.cells #[.string b] 9))):o.wp prog a w K Q:=by
 unfold Oper.wp;have hr:(execOp a.eval o).run prog w= .ok (.value (.slice (some ⟨w.heap.size,0,none⟩) 1 1)) (w.alloc (.cells #[.string b] 9)):=by
  simp[execOp,ho,hx,be,Result.andThen]
 rw[hr];exact h
theorem Iq {w:World} {base base':Nat} {e:TypeId} {size:Nat} {v:Value} {n:Nat} {xs:List Value}(hb:base'<=base) (h:w.ownsRow base e size v n xs):w.ownsRow base' e size v n xs:=by
 obtain⟨h1,h2⟩:=h;refine⟨h1,?_⟩;rcases h2 with h2|⟨g,cap,cur,hv,hg,r⟩
 ·exact .inl h2
 ·exact .inr ⟨g,cap,cur,hv,lg hb hg,r⟩
theorem RH {w:World} {P:Nat} {lv:Value} {k:Int} {o:Value} {q:Int} {c:Array Value} {nv sv:Value} {n:Nat} {vars:Int} {tv:Value}(hc:c.size=6) (h:w.heap[P]? =some (.cells (Gt lv k o q c nv sv n vars tv) 69)):
  w.rangeAt P 4 (Ug c nv sv n).toList:=by
 obtain⟨a0,a1,a2,a3,a4,a5,rfl⟩:=Tt hc;rw[Ee]at h;have e:Ug #[a0,a1,a2,a3,a4,a5] nv sv n= #[a0,a1,a2,a3,a4,a5,nv,sv,.int .i64 n,.bool false]:=by simp[Ug]
 rw[e];intro j v hv;rw[Lib.cell_of_heap h]
 match j,hv with
 |0,hv|1,hv|2,hv|3,hv|4,hv|5,hv|6,hv|7,hv|8,hv|9,hv=>exact hv
theorem XY {c:Array Value} {nv sv:Value} {n:Nat}(hc:c.size=6):(Ug c nv sv n).size=10:=by
 unfold Ug;rw[Array.size_append,hc];rfl
theorem Yg {c:Array Value} {na sa:Option Addr} {n1 n2 n3 n4 n:Nat}(h1:c.all (·.oneCell')=true):(Ug c (.slice na n1 n2) (.slice sa n3 n4) n).all (·.oneCell')=true:=by
 unfold Ug;rw[Array.all_append,h1];simp[Value.oneCell']
theorem jD:(Tryz.prog.info? 9).map (fun i=>(i.zero,i.size,i.bytes))=some (some (.string ⟨#[]⟩),1,16):=by kernel_rfl
theorem gF {w Y:World} {s:ByteArray} {at_:Nat} {lv o:Value} {k q:Int} {c:Array Value} {nv tv:Value} {n:Nat} {vars:Int} {t:Tm} {st:RS} {B:Nat} {x0 x2 x3 x5 x6 x7 qo rA rB rI rC qx x17 x18 x19 x20 x21 x22 x23 x24 x25 x26 x27 x28 x29 x30 x31 x32 x33 x34 x35 x36 x37 x38 x39 x40 x41 x42 x43 x44 x45 x46 x47 x48 x49 x50 x51 x52 x53 x54 x55 x56 x57 x58 x59 x60 x61 x62 x63 x64 x65 x66 x67 x68 x69 x70 x71 x72 x73 x74 x75 x76 x77 x78 x79 x80 x81 x82 x83 x84 x85 x86 x87 x88 x89 x90 x91 x92 x93 x94 x95 x96 x97 x98 x99 x100 x101 x102 x103 x104 x105 x106 x107 x108 x109 x110 x111 x112 x113 x114 x115 x116 x117 x118 x119 x120 x121 x122 x123 x124 x125 x126 x127 x128 x129 x130 x131 x132 x133 x134 x135 x136 x137 x138 x139 x140 x141 x142 x143 x144 x145 x146 x147 x148 x149 x150 x151 x152 x153:Value}(hI:kf w Y lv k o q c nv (.slice none 0 0) n vars tv t st.names st.times B) (hl:st.names.length<=100000000):
  Code.wp prog gG (bodyPostD prog Tryz.f7 (Ce s w (.ok t st n))) {tmps:= #[x0,.int .i64 at_,x2,x3,.pointer (some ⟨w.heap.size,0,none⟩),x5,x6,x7,.pointer (some ⟨w.heap.size+1+1,0,none⟩),.pointer (some ⟨w.heap.size+1+1+1,0,none⟩),.pointer (some ⟨w.heap.size+1+1+1+1,0,none⟩),qo,rA,rB,rI,rC,qx,x17,x18,x19,x20,x21,x22,x23,x24,x25,x26,x27,x28,x29,x30,x31,x32,x33,x34,x35,x36,x37,x38,x39,x40,x41,x42,x43,x44,x45,x46,x47,x48,x49,x50,x51,x52,x53,x54,x55,x56,x57,x58,x59,x60,x61,x62,x63,x64,x65,x66,x67,x68,x69,x70,x71,x72,x73,x74,x75,x76,x77,x78,x79,x80,x81,x82,x83,x84,x85,x86,x87,x88,x89,x90,x91,x92,x93,x94,x95,x96,x97,x98,x99,x100,x101,x102,x103,x104,x105,x106,x107,x108,x109,x110,x111,x112,x113,x114,x115,x116,x117,x118,x119,x120,x121,x122,x123,x124,x125,x126,x127,x128,x129,x130,x131,x132,x133,x134,x135,x136,x137,x138,x139,x140,x141,x142,x143,x144,x145,x146,x147,x148,x149,x150,x151,x152,x153],defers:=fL w.heap.size} Y:=by
 obtain⟨na,nc,rfl⟩:=Ap hI.Jm;obtain⟨ta,tc,rfl⟩:=Ap hI.Ji;obtain⟨N,hN⟩:∃N,N=st.names.length:=⟨_,rfl⟩;have zG:st.times.length=N:=by rw[hN];exact hI.len
 rw[zG,<-hN]at hI;rw[<-hN]at hl;have HI:=lK hI;have HN:=lK hN;have uO:=lK zG;have bni:(N:Int)<=100000000:=by omega
 have hc6:=hI.c6;obtain⟨xO,c11,c12,c15⟩:=EX hI.c6 hI.h4;have G0:Hid (Uy Y Y (w.heap.size+1+1+1+1) (Gt lv k o q c (.slice na N nc) (.slice none 0 0) n vars (.slice ta N tc)) (.slice none 0 0) []):=lK ⟨Kept.refl _ _,hI.h4,mq _ _ _ _⟩;have yo:=lK hc6;have NMS:Hid (Y.ownsRow B 47 2 (.slice na N nc) N (st.names.flatMap QN)):=lK (by have h:=hI.Jm;rwa [<-hN]at h);have TMS:Hid (Y.ownsRow B 3 1 (.slice ta N tc) N (st.times.map Ly)):=lK (by have h:=hI.Ji;rwa [zG]at h);clear hI hN zG hc6 c11 c12 c15;obtain⟨i0,hi,qX,qg,qe⟩:=nw jD
 conv=>arg 2;whnf
 go_wp2_with fail
 go_loopw [123] (fun v wr=>∃(i:Nat) (sv:Value),v= .int .i64 i/\Hid (i<=N/\Uy Y wr (w.heap.size+1+1+1+1) (Gt lv k o q c (.slice na N nc) sv n vars (.slice ta N tc)) sv (Aw (st.names.take i) (st.times.take i)))) (fun v _=>N-(intOf v).toNat)
 case atStart=>exact⟨0,_,rfl,lK ⟨mK _,by simpa[Aw]using G0.o⟩⟩
 case round=>
  obtain⟨i,sv,rfl,hq⟩:=hrel;obtain⟨sa,sc,vv⟩:=Ap hq.o.2.own;have hiN:=hq.o.1;have HG:=lK hq.o.2;clear hq G0;by_cases hlt2:i<N
  ·have hli:(i:Int)<N:=by omega
   obtain⟨x,hx⟩:∃x,st.names[i]? =some x:=⟨_,lu (by have:=HN.o;omega)⟩;obtain⟨y,hy⟩:∃y,st.times[i]? =some y:=⟨_,lu (by have:=uO.o;omega)⟩;obtain⟨g,cap,hv,uX,uF⟩:=NMS.o.form (by omega);have se:na=some ⟨g,0,none⟩:=by simp only[mX]at hv;exact hv.1
   subst se;obtain⟨h,qQ,wT,hh1,hh2⟩:=TMS.o.form (by omega);have hv4:ta=some ⟨h,0,none⟩:=by simp only[mX]at wT;exact wT.1
   subst hv4;have hB:=HI.o.sz.1;have NR:wr.ownsRow B 47 2 (.slice (some ⟨g,0,none⟩) N nc) N (st.names.flatMap QN):=AS NMS.o (fun b hb=>HG.o.kept.block b (NMS.o.lt b hb).2 (fun e=>by have:=(NMS.o.lt b hb).1;omega));have TR:wr.ownsRow B 3 1 (.slice (some ⟨h,0,none⟩) N tc) N (st.times.map Ly):=AS TMS.o (fun b hb=>HG.o.kept.block b (TMS.o.lt b hb).2 (fun e=>by have:=(TMS.o.lt b hb).1;omega));have n0:wr.cell? ⟨g,i*2,none⟩=some (.string (bs x.1)):=by
    rw[World.ownsRow.cellAt NR (i*2) (by omega)];exact(JT hx).1
   have n1:wr.cell? ⟨g,i*2+1,none⟩=some (.int .i64 x.2):=by
    rw[World.ownsRow.cellAt NR (i*2+1) (by omega)];exact(JT hx).2
   have t0:wr.cell? ⟨h,i,none⟩=some (.int .i64 y):=by
    rw[World.ownsRow.cellAt TR i (by omega),mj,hy];rfl
   have yH:=lK (Nq hx hy);have c15:=(EX yo.o HG.o.hP).2.2.2;have c11:=lK (EX yo.o HG.o.hP).2.1;have t0a:=AN t0;have c15a:=AN c15;clear hx hy hv wT uX uF hh1 hh2 hB NR TR;cases hk:((y:Int)==1)with
   |false=>
    have HS:Hid (Aw (st.names.take (i+1)) (st.times.take (i+1))=Aw (st.names.take i) (st.times.take i)):=lK (by
     rw[yH.o,lL (by rw[lY]at hk;omega),nj])
    clear yH;go_wp2;go_roundw
    case rel=>exact⟨i+1,sv,by go_num,lK ⟨by omega,by rw[HS.o];exact HG.o.below (Bzz _)⟩⟩
    case measure=>simp[intOf];omega
   |true=>
    have HS:Hid (Aw (st.names.take (i+1)) (st.times.take (i+1))=Aw (st.names.take i) (st.times.take i)++ [x.1]):=lK (by
     rw[yH.o,lQ (by rw[nH]at hk;omega)])
    clear yH;have LEN:Hid ((Aw (st.names.take i) (st.times.take i)).length+1<=100000001):=lK (by have:=JX (st.names.take i) (st.times.take i);rw[List.length_take]at this;omega)
    go_upto_region 24 with fail
    generalize hA:wr.alloc _=A;have GA:Hid (Uy Y A (w.heap.size+1+1+1+1) (Gt lv k o q c (.slice (some ⟨g,0,none⟩) N nc) sv n vars (.slice (some ⟨h,0,none⟩) N tc)) sv (Aw (st.names.take i) (st.times.take i))):=lK (by rw[<-hA];exact HG.o.below (Bzz _));have HT:Hid (A.heap[wr.heap.size]? =some (.cells #[.string (bs x.1),.int .i64 x.2] 47)):=lK (by rw[<-hA];exact lT wr _);have TY:Hid (Y.heap.size<=wr.heap.size/\∀b,sv.ownBlock=some b->b<wr.heap.size):=lK ⟨HG.o.kept.size,fun b hb=>(HG.o.own.lt b hb).2⟩;obtain⟨T,sS⟩:∃T,T=wr.heap.size:=⟨_,rfl⟩;rw[<-sS]at HT TY⊢;clear hA sS HG n0 n1 t0 t0a c15 c15a c11;generalize Aw (st.names.take i) (st.times.take i)=sl at*;have P0:Hid (w.heap.size+1+1+1+1<A.heap.size):=lK (lN.1 GA.o.hP).1;have xX:Hid (w.heap.size+1+1+1+1<Y.heap.size):=lK (by have:=HI.o.sz;omega);have uN:Hid (some (w.heap.size+1+1+1+1)≠sv.ownBlock):=lK (fun e=>by have:=(GA.o.own.lt _ e.symm).1;have:=xX.o;omega);have TL:Hid (T<A.heap.size):=lK (lN.1 HT.o).1;have e4:A.drew.cell? ⟨w.heap.size+1+1+1+1,11,none⟩=some sv:=(EX yo.o GA.o.hP).2.1;have e4a:=fun x=>AN e4 x;have e4b:(A.alloc (.cells #[.string (bs x.1)] 9)).cell? ⟨w.heap.size+1+1+1+1,11,none⟩=some sv:=e4a _;have e4c:(A.alloc (.cells #[.string (bs x.1)] 9)).drew.cell? ⟨w.heap.size+1+1+1+1,11,none⟩=some sv:=e4a _;have G4:Hid (Uy Y (A.drew.alloc (.cells #[.string (bs x.1)] 9)) (w.heap.size+1+1+1+1) (Gt lv k o q c (.slice (some ⟨g,0,none⟩) N nc) sv n vars (.slice (some ⟨h,0,none⟩) N tc)) sv sl):=lK (GA.o.below ((Ad (Below.refl _ _)).alloc (lM _) _));have OWN:Hid ((A.drew.alloc (.cells #[.string (bs x.1)] 9)).ownsRow Y.heap.size 9 1 (.slice sa sl.length sc) sl.length (sl.flatMap YT)):=lK (by have h:=G4.o.own;rwa [vv]at h);have NW:Hid (∀j u,(YT x.1)[j]? =some u->(A.drew.alloc (.cells #[.string (bs x.1)] 9)).cell? ((⟨A.drew.heap.size,0,none⟩:Addr).add j)=some u):=lK (World.news_of_block (t:=9) (fr:=(0,0)) (cs:= #[.string (bs x.1)]) (lT A.drew _));have tu:Hid (∀u∈YT x.1,u.oneCell'=true):=lK (by simp[YT,Value.oneCell']);have MX:Hid (sl.length+1<=maxLen):=lK (by have:=LEN.o;unfold maxLen;omega);have BY:Hid ((sl.length+1)*16<=140737488355328):=lK (by have:=LEN.o;omega);have BS:Hid (Y.heap.size<=(A.drew.alloc (.cells #[.string (bs x.1)] 9)).heap.size):=lK G4.o.kept.size;have C4:Hid ((A.drew.alloc (.cells #[.string (bs x.1)] 9)).cell? ⟨w.heap.size+1+1+1+1,11,none⟩=some sv):=lK (e4a _);have F4:Hid ((A.drew.alloc (.cells #[.string (bs x.1)] 9)).frozen? ⟨w.heap.size+1+1+1+1,11,none⟩=false):=lK (Lib.frozen_of_heap G4.o.hP 11);have LR:Hid (w.heap.size+1+1+1+1<(A.drew.alloc (.cells #[.string (bs x.1)] 9)).heap.size):=lK (lN.1 G4.o.hP).1;have xA:Hid ((A.drew.alloc (.cells #[.string (bs x.1)] 9)).heap[T]? =some (.cells #[.string (bs x.1),.int .i64 x.2] 47)):=lK ((Lib.alloc_old A.drew _ _ TL.o).trans HT.o);have TLX:Hid (T<(A.drew.alloc (.cells #[.string (bs x.1)] 9)).heap.size):=lK (lN.1 xA.o).1;have NT:Hid (sv.ownBlock≠some T):=lK (fun e=>by have:=TY.o.2 T e;omega);subst vv;refine wp_region_held_drew (S:=fun W=>W.heap[T]? =some (.cells #[.string (bs x.1),.int .i64 x.2] 47)) (by kernel_rfl) HT.o (fun hS=> ?_);refine Gm 0 (.pointer (some ⟨w.heap.size+1+1+1+1,0,none⟩)) rfl hS ?_;refine Gm 1 (.pointer (some ⟨w.heap.size+1+1+1+1,0,none⟩)) rfl hS ?_;refine Gm 2 (.pointer (some ⟨w.heap.size+1+1+1+1,0,none⟩)) rfl hS ?_;refine Gm 3 (.pointer (some ⟨w.heap.size+1+1+1+1,4,none⟩)) rfl hS ?_;refine Gm 4 (.pointer (some ⟨w.heap.size+1+1+1+1,11,none⟩)) rfl hS ?_;refine Gm 6 (.pointer (some ⟨T,0,none⟩)) rfl hS ?_;refine iy 7 (.string (bs x.1)) rfl hS (fun W hSW=> ?_) ?_
    ·have e1:W.cell? ⟨T,0,none⟩=some (.string (bs x.1)):=(by rw[Lib.cell_of_heap hSW];rfl);go_simp
    try simp only[uu,Act.put]
    refine wpAnyH_ready (rs:= [5,8]) (by kernel_rfl) (by simp) ?_;refine AllReadyH.cons rfl (fun K hK=> ?_) (AllReadyH.cons rfl (fun K hK=> ?_) AllReadyH.nil)
    ·go_simp;refine hK.o _ _ hS (fun hS=> ?_)
     try simp only[uu,Act.put]
     refine DD 8 rfl (fun K hK=> ?_);refine Aj rfl (WR _ rfl (bs x.1) rfl ?_);refine hK.o _ _ ((Lib.alloc_old A.drew _ _ TL.o).trans HT.o) (fun hS=> ?_)
     try simp only[uu,Act.put]
     refine DD 9 rfl (fun K hK=> ?_);refine step_append_lies _ rfl _ _ _ rfl Y.heap.size 9 i0 _ 1 16 underlying33 hi qX qg qe rfl (by decide) _ _ _ rfl OWN.o ⟨A.drew.heap.size,0,none⟩ 1 1 (YT x.1) rfl rfl NW.o tu.o (by decide) MX.o BY.o BS.o _ rfl ?_;intro g2 qQ w1 qD qC qh _hlg;have ym:=qC.cell C4.o uN.o;have f10:=(qC.frozen_far ⟨w.heap.size+1+1+1+1,11,none⟩ LR.o uN.o).trans F4.o;refine hK.o _ _ ((qC.block _ TLX.o (fun e=>NT.o e.symm)).trans xA.o) (fun hS=> ?_);refine Gm 10 (.pointer (some ⟨w.heap.size+1+1+1+1,0,none⟩)) rfl hS ?_;refine Gm 11 (.pointer (some ⟨w.heap.size+1+1+1+1,4,none⟩)) rfl hS ?_;refine Gm 12 (.pointer (some ⟨w.heap.size+1+1+1+1,11,none⟩)) rfl hS ?_
     try simp only[uu,Act.put]
     refine DD 13 rfl (fun K hK=> ?_);go_simp;refine hK.o _ _ ((AA _ _ _ (by show T≠w.heap.size+1+1+1+1;have:=TY.o.1;have:=xX.o;omega)).trans hS) (fun hS=> ?_)
     try simp only[uu,Act.put]
     refine wpAnyH_done (by kernel_rfl) ?_ _;go_wp2;go_roundw
     case rel=>exact⟨i+1,_,by go_num,lK ⟨by omega,by rw[HS.o];exact Uy.more yo.o xX.o G4.o qD qC uN.o⟩⟩
     case measure=>simp[intOf];omega
    ·refine Aj rfl (WR _ rfl (bs x.1) rfl ?_);refine hK.o _ _ ((Lib.alloc_old A.drew _ _ TL.o).trans HT.o) (fun hS=> ?_)
     try simp only[uu,Act.put]
     refine DD 5 rfl (fun K hK=> ?_);go_simp;refine hK.o _ _ hS (fun hS=> ?_)
     try simp only[uu,Act.put]
     refine DD 9 rfl (fun K hK=> ?_);refine step_append_lies _ rfl _ _ _ rfl Y.heap.size 9 i0 _ 1 16 underlying33 hi qX qg qe rfl (by decide) _ _ _ rfl OWN.o ⟨A.drew.heap.size,0,none⟩ 1 1 (YT x.1) rfl rfl NW.o tu.o (by decide) MX.o BY.o BS.o _ rfl ?_;intro g2 qQ w1 qD qC qh _hlg;have ym:=qC.cell C4.o uN.o;have f10:=(qC.frozen_far ⟨w.heap.size+1+1+1+1,11,none⟩ LR.o uN.o).trans F4.o;refine hK.o _ _ ((qC.block _ TLX.o (fun e=>NT.o e.symm)).trans xA.o) (fun hS=> ?_);refine Gm 10 (.pointer (some ⟨w.heap.size+1+1+1+1,0,none⟩)) rfl hS ?_;refine Gm 11 (.pointer (some ⟨w.heap.size+1+1+1+1,4,none⟩)) rfl hS ?_;refine Gm 12 (.pointer (some ⟨w.heap.size+1+1+1+1,11,none⟩)) rfl hS ?_
     try simp only[uu,Act.put]
     refine DD 13 rfl (fun K hK=> ?_);go_simp;refine hK.o _ _ ((AA _ _ _ (by show T≠w.heap.size+1+1+1+1;have:=TY.o.1;have:=xX.o;omega)).trans hS) (fun hS=> ?_)
     try simp only[uu,Act.put]
     refine wpAnyH_done (by kernel_rfl) ?_ _;go_wp2;go_roundw
     case rel=>exact⟨i+1,_,by go_num,lK ⟨by omega,by rw[HS.o];exact Uy.more yo.o xX.o G4.o qD qC uN.o⟩⟩
     case measure=>simp[intOf];omega
  ·have hnl:¬(i:Int)<N:=by omega
   have SC:Hid (Aw (st.names.take i) (st.times.take i)=Aw st.names st.times):=lK (by
    have:i=N:=by omega
    rw[nO (by have:=HN.o;omega),nO (by have:=uO.o;omega)])
   subst vv;have hB:=HI.o.sz;have w2:Hid (wr.heap[w.heap.size+1+1]? =some (.cells (Ch 0) 35)):=lK ((HG.o.kept.block _ (by omega) (by omega)).trans HI.o.h2);have w3:Hid (wr.heap[w.heap.size+1+1+1]? =some (.cells #[.nilIface] 37)):=lK ((HG.o.kept.block _ (by omega) (by omega)).trans HI.o.h3);have r4:=lK (RH (n:=n) yo.o HG.o.hP);have SZ:Hid ((Ug c (.slice na N nc) (.slice sa (Aw (st.names.take i) (st.times.take i)).length sc) n).size=10):=lK (XY yo.o);have ON:Hid ((Ug c (.slice na N nc) (.slice sa (Aw (st.names.take i) (st.times.take i)).length sc) n).all (·.oneCell')=true):=lK (Yg HI.o.c1);have KWR:Hid (Below w.heap.size w wr):=lK (HI.o.Ac.trans (HG.o.kept.below HI.o.Ac.size (fun b hb=>by omega)));have SIN:=lK HG.o.own;have KEEP:=lK HG.o.kept;have HBH:=lK hB;clear HG hB;generalize vJ:Ug c (.slice na N nc) (.slice sa (Aw (st.names.take i) (st.times.take i)).length sc) n=A at*;have x3:(wr.setRow (w.heap.size+1+1) A).cell? ⟨w.heap.size+1+1+1,0,none⟩=some .nilIface:=by
    rw[Lib.cell_of_heap ((mH wr _ _ A (by omega)).trans w3.o)];rfl
   have f3:(wr.setRow (w.heap.size+1+1) A).frozen? ⟨w.heap.size+1+1+1,0,none⟩=false:=Lib.frozen_of_heap ((mH wr _ _ A (by omega)).trans w3.o) 0
   go_wp2_with (first|(refine wpList_load_mid rfl 35 _ rfl (w.heap.size+1+1+1+1) 4 rfl A.toList _ r4.o underlying35 rfl (by rw[nG,SZ.o];exact Xq) ?_;rw[Array.toArray_toList])|(refine wpList_store_row rfl 35 _ _ rfl (w.heap.size+1+1) A rfl rfl 35 (Ch 0) w2.o (by rw[SZ.o];exact Xq) (by rw[SZ.o];rfl) ON.o ?_))
   generalize hV:World.setCell _ _ _=V;have v2:V.heap[w.heap.size+1+1]? =some (.cells A 35):=by
    rw[<-hV];exact(AA _ _ _ (by show w.heap.size+1+1≠w.heap.size+1+1+1;omega)).trans (mF _ _ _ _ _ _ w2.o)
   have v3:V.heap[w.heap.size+1+1+1]? =some (.cells #[.nilIface] 37):=by
    rw[<-hV];exact Eh ((mH wr _ _ A (by omega)).trans w3.o) 0 _
   have vo:∀b,b≠w.heap.size+1+1->b≠w.heap.size+1+1+1->V.heap[b]? =wr.heap[b]? :=fun b h1 h2=>by
    rw[<-hV];exact(AA _ _ _ h2).trans (mH wr _ _ A h1)
   have vz:V.heap.size=wr.heap.size:=by rw[<-hV,size_set,Al]
   have vb:Below w.heap.size wr V:=by
    rw[<-hV];exact(Below.row (Below.refl _ _) (by omega) A).setCell (p:=⟨w.heap.size+1+1+1,0,none⟩) (by show w.heap.size<=w.heap.size+1+1+1;omega) _
   clear hV;refine O0 SZ.o rfl rfl v2 v3 (fun W' hW=> ?_);have hB:=HBH.o;have hk:=KEEP.o.size;have qq:=KWR.o.size;refine⟨KWR.o.trans (vb.trans (hW.mono (by omega))),c,_,_,by rw[vJ],?_,?_,?_⟩
   ·refine HI.o.tm.Ak (fun b hb=> ?_) (fun b hb=>⟨by omega,by have:=hW.size;omega⟩);exact(hW.block b (by omega)).trans ((vo b (by omega) (by omega)).trans (KEEP.o.block b hb.2 (by omega)))
   ·have h1:=NMS.o;rw[HN.o]at h1⊢;refine AS (Iq (by omega) h1) (fun b hb=> ?_);have h2:=h1.lt b hb;exact(hW.block b (by omega)).trans ((vo b (by omega) (by omega)).trans (KEEP.o.block b h2.2 (by omega)))
   ·have h1:=SIN.o;rw[SC.o]at h1⊢;refine AS (Iq (by omega) h1) (fun b hb=> ?_);have h2:=h1.lt b hb;exact(hW.block b (by omega)).trans (vo b (by omega) (by omega))
theorem jg {W:World} {R:Nat} {l k o q a0 a1 a2 a3 a4 a5 b0 b1 b2 b3 b4 b5 nv sv n e vr tv:Value}(h:W.heap[R]? =some (.cells #[l,k,o,q,a0,a1,a2,a3,a4,a5,nv,sv,n,e,vr,tv] 69)):
  (W.setCells R 4 [b0,b1,b2,b3,b4,b5]).heap[R]? =some (.cells #[l,k,o,q,b0,b1,b2,b3,b4,b5,nv,sv,n,e,vr,tv] 69):=
 Eh (Eh (Eh (Eh (Eh (Eh h 4 b0) 5 b1) 6 b2) 7 b3) 8 b4) 9 b5
theorem SN {W:World} {R b:Nat} {vs:List Value} {o:Nat}(hb:b≠R):(W.setCells R o vs).heap[b]? =W.heap[b]? :=by
 induction vs generalizing W o with
 |nil=>rfl
 |cons v vs ih=>exact ih.trans (AA _ _ _ hb)
theorem UY {W:World} {R:Nat} {vs:List Value} {o:Nat} :(W.setCells R o vs).heap.size=W.heap.size:=by
 induction vs generalizing W o with
 |nil=>rfl
 |cons v vs ih=>exact ih.trans (size_set _ _ _)
theorem QU {A B:Nat} {w W:World} {R:Nat} {vs:List Value} {o:Nat}(h:Below B w W) (hB:B<=R):Below B w (W.setCells R o vs):=by
 induction vs generalizing W o with
 |nil=>exact h
 |cons v vs ih=>exact ih (h.setCell (p:=⟨R,o,none⟩) hB v)
theorem YY (vs:Array Value) (w:World):(callFunc 25 vs).run prog w= .ok (.enter 25 vs) w:=by kernel_rfl
theorem dk {w Y:World} {s:ByteArray} {at_ T2:Nat} {C:Cx} {c:Array Value} {nv tv:Value} {t:Tm} {st:RS} {x0 x2 x3 x5 x6 x7 qo rA rB rC qx x17 x18 x19 x20 x21 x22 x23 x24 x25 x26 x27 x28 x29 x30 x31 x32 x33 x34 x35 x36 x37 x38 x39 x40 x41 x42 x43 x44 x45 x46 x47 x48 x49 x50 x51 x52 x53 x54 x55 x56 x57 x58 x59 x60 x61 x62 x63 x64 x65 x66 x67 x68 x69 x70 x71 x72 x73 x74 x75 x76 x77 x78 x79 x80 x81 x82 x83 x84 x85 x86 x87 x88 x89 x90 x91 x92 x93 x94 x95 x96 x97 x98 x99 x100 x101 x102 x103 x104 x105 x106 x107 x108 x109 x110 x111 x112 x113 x114 x115 x116 x117 x118 x119 x120 x121 x122 x123 x124 x125 x126 x127 x128 x129 x130 x131 x132 x133 x134 x135 x136 x137 x138 x139 x140 x141 x142 x143 x144 x145 x146 x147 x148 x149 x150 x151 x152 x153:Value}(hC:C.Ok) (hR:C.R=w.heap.size+1+1+1+1) (hB:w.heap.size+5<=C.B) (hI:A0 C Y st nv tv) (hb:Below w.heap.size w Y)
  (h2:Y.heap[w.heap.size+1+1]? =some (.cells (Ch 0) 35)) (h3:Y.heap[w.heap.size+1+1+1]? =some (.cells #[.nilIface] 37)) (tH:Y.heap[T2]? =some (.cells c 31)) (hT3:C.B<=T2) (c6:c.size=6) (c1:c.all (·.oneCell')=true) (hm:AT Y (fun b=>C.B<=b/\b<Y.heap.size) c.toList t):
  Code.wp prog Xw (bodyPostD prog Tryz.f7 (Ce s w (.ok t st (now C.ts st).en))) {tmps:= #[x0,.int .i64 at_,x2,x3,.pointer (some ⟨w.heap.size,0,none⟩),x5,x6,x7,.pointer (some ⟨w.heap.size+1+1,0,none⟩),.pointer (some ⟨w.heap.size+1+1+1,0,none⟩),.pointer (some ⟨w.heap.size+1+1+1+1,0,none⟩),qo,rA,rB,.pointer (some ⟨T2,0,none⟩),rC,qx,x17,x18,x19,x20,x21,x22,x23,x24,x25,x26,x27,x28,x29,x30,x31,x32,x33,x34,x35,x36,x37,x38,x39,x40,x41,x42,x43,x44,x45,x46,x47,x48,x49,x50,x51,x52,x53,x54,x55,x56,x57,x58,x59,x60,x61,x62,x63,x64,x65,x66,x67,x68,x69,x70,x71,x72,x73,x74,x75,x76,x77,x78,x79,x80,x81,x82,x83,x84,x85,x86,x87,x88,x89,x90,x91,x92,x93,x94,x95,x96,x97,x98,x99,x100,x101,x102,x103,x104,x105,x106,x107,x108,x109,x110,x111,x112,x113,x114,x115,x116,x117,x118,x119,x120,x121,x122,x123,x124,x125,x126,x127,x128,x129,x130,x131,x132,x133,x134,x135,x136,x137,x138,x139,x140,x141,x142,x143,x144,x145,x146,x147,x148,x149,x150,x151,x152,x153],defers:=fL w.heap.size} Y:=by
 have HI:=lK hI;have CN:Hid (Calls prog 25 #[.pointer (some ⟨w.heap.size+1+1+1+1,0,none⟩)] Y.drew fun e w'=>e= .returned (Fk (now C.ts st))/\Below Y.drew.heap.size Y.drew w'):=lK (by
  have h:=JK hC (hI.below hC (Ad (Below.refl _ _)))
  rwa [hR]at h)
 have f5:=fun W=>ff (now C.ts st) W;have ZR:Hid (Y.heap[w.heap.size+1+1+1+1]? =some (.cells #[.slice (some ⟨C.L,0,none⟩) C.ts.length C.cap,.int .i64 st.k,C.o,.int .i64 C.qt,.int .i64 0,.string ⟨#[]⟩,.string ⟨#[]⟩,.int .u64 0,.int .i64 0,.slice none 0 0,nv,.slice none 0 0,.int .i64 0,.bool false,.int .i64 st.vars,tv] 69)):=lK (by have h:=hI.hR.h;rwa [hR]at h);have SZ:=lK hI.sz;have LEN:Hid (st.names.length<=100000000/\st.times.length=st.names.length):=lK (by have h:=hI.bd;have:=hC.len;have:=h.nl;have:=h.vk;have:=h.kl;exact⟨by omega,h.tl⟩);have HB:=lK hB;have HBE:=lK hb;have H2:=lK h2;have H3:=lK h3;have wO:=lK tH;have ve:=lK hT3;have HM:=lK hm;have HRR:=lK hR;have LT2:Hid (T2<Y.heap.size):=lK (lN.1 tH).1;have C6:=lK c6;have C1:=lK c1;generalize now C.ts st=u at*;clear hI hR hB hb h2 h3 tH hT3 hm c6 c1
 conv=>arg 2;whnf
 go_upto_region 19 with fail
 rename_i K0 a0;refine wp_region_held_drew (S:=fun W=>W.heap[T2]? =some (.cells c 31)) (by kernel_rfl) wO.o (fun hS=> ?_);refine Gm 0 (.pointer (some ⟨w.heap.size+1+1+1+1,0,none⟩)) rfl hS ?_;refine Gm 1 (.pointer (some ⟨w.heap.size+1+1+1+1,0,none⟩)) rfl hS ?_
 try simp only[uu,Act.put]
 refine wpAnyH_take (i:=2) (oi:=_) (v:= .agg c) rfl (by kernel_rfl) (by kernel_rfl) (by kernel_rfl) (fun _ _ _ h=>IL (by decide) h) (QO rfl _ rfl T2 c C6.o rfl (fun _ h=>h)) hS ?_;refine Gm 3 (.pointer (some ⟨w.heap.size+1+1+1+1,0,none⟩)) rfl hS ?_
 try simp only[uu,Act.put]
 refine DD 4 rfl (fun K hK=> ?_);refine As (by rfl) 25 [.tmp 108] #[66] (by rfl) #[.pointer (some ⟨w.heap.size+1+1+1+1,0,none⟩)] (by kernel_rfl) YY (CN.o.mono ?_);rintro e' W5 ⟨rfl,b5⟩;refine⟨_,rfl,?_⟩;refine hK.o _ _ ((b5.block _ LT2.o).trans hS) (fun hS=> ?_);refine Gm 5 (.int .i64 u.en) rfl hS ?_;refine Gm 6 (.pointer (some ⟨w.heap.size+1+1+1+1,0,none⟩)) rfl hS ?_;refine Gm 7 (.pointer (some ⟨w.heap.size+1+1+1+1,4,none⟩)) rfl hS ?_;refine Gm 8 (.pointer (some ⟨w.heap.size+1+1+1+1,4,none⟩)) rfl hS ?_
 try simp only[uu,Act.put]
 have PL:Hid (w.heap.size+1+1+1+1<Y.heap.size):=lK (by have:=SZ.o;have:=HB.o;omega);have Z5:Hid (W5.heap[w.heap.size+1+1+1+1]? =some (.cells #[.slice (some ⟨C.L,0,none⟩) C.ts.length C.cap,.int .i64 st.k,C.o,.int .i64 C.qt,.int .i64 0,.string ⟨#[]⟩,.string ⟨#[]⟩,.int .u64 0,.int .i64 0,.slice none 0 0,nv,.slice none 0 0,.int .i64 0,.bool false,.int .i64 st.vars,tv] 69)):=lK ((b5.block _ PL.o).trans ZR.o);have TH:Hid (W5.there (w.heap.size+1+1+1+1) 4 c.size):=lK (fun j hj=>by
  rw[C6.o]at hj;refine⟨?_,Lib.frozen_of_heap Z5.o _⟩;rw[Lib.cell_of_heap Z5.o]
  match j,hj with
  |0,_|1,_|2,_|3,_|4,_|5,_=>rfl)
 have NT2:Hid (T2≠w.heap.size+1+1+1+1):=lK (by have:=ve.o;have:=HB.o;omega);refine DD 9 rfl (fun K hK=> ?_);refine Aj rfl (wp_store_mid 31 _ _ rfl (w.heap.size+1+1+1+1) 4 c rfl rfl TH.o (by rw[C6.o];exact Cg) C1.o ?_);refine hK.o _ _ ((SN NT2.o).trans hS) (fun hS=> ?_);refine Gm 10 (.pointer (some ⟨w.heap.size+1+1+1+1,0,none⟩)) rfl hS ?_;refine Gm 11 (.pointer (some ⟨w.heap.size+1+1+1+1,4,none⟩)) rfl hS ?_;refine Gm 12 (.pointer (some ⟨w.heap.size+1+1+1+1,12,none⟩)) rfl hS ?_
 try simp only[uu,Act.put]
 have ZV:Hid ((W5.setCells (w.heap.size+1+1+1+1) 4 c.toList).heap[w.heap.size+1+1+1+1]? =some (.cells (Gt (.slice (some ⟨C.L,0,none⟩) C.ts.length C.cap) st.k C.o C.qt c nv (.slice none 0 0) 0 st.vars tv) 69)):=lK (by
  obtain⟨a0,a1,a2,a3,a4,a5,rfl⟩:=Tt C6.o;rw[Ee];exact jg Z5.o)
 have c12:=(EX C6.o ZV.o).2.2.1;have f12:=Lib.frozen_of_heap ZV.o 12;have VB:Hid (Below w.heap.size w (W5.setCells (w.heap.size+1+1+1+1) 4 c.toList)):=lK (QU (A:=0) ((Ad HBE.o).trans (b5.mono HBE.o.size)) (by omega));have VO:Hid (∀b,b<Y.heap.size->b≠w.heap.size+1+1+1+1->(W5.setCells (w.heap.size+1+1+1+1) 4 c.toList).heap[b]? =Y.heap[b]?):=lK (fun b h1 h2=>(SN h2).trans (b5.block b h1));have VZ:Hid (Y.heap.size<=(W5.setCells (w.heap.size+1+1+1+1) 4 c.toList).heap.size):=lK (by rw[UY];exact b5.size);clear b5 Z5 TH;generalize W5.setCells (w.heap.size+1+1+1+1) 4 c.toList=V at*;refine DD 13 rfl (fun K hK=> ?_);go_simp;refine hK.o _ _ ((AA _ _ _ NT2.o).trans hS) (fun hS=> ?_)
 try simp only[uu,Act.put]
 refine wpAnyH_done (by kernel_rfl) ?_ _;have KEYF:kf w (V.setCell ⟨w.heap.size+1+1+1+1,12,none⟩ (.int .i64 u.en)) (.slice (some ⟨C.L,0,none⟩) C.ts.length C.cap) st.k C.o C.qt c nv (.slice none 0 0) u.en st.vars tv t st.names st.times C.B:=by
  have hB:=HB.o;have hS2:=SZ.o;have hV:=VZ.o;have vo:∀b,b<Y.heap.size->b≠w.heap.size+1+1+1+1->(V.setCell ⟨w.heap.size+1+1+1+1,12,none⟩ (.int .i64 u.en)).heap[b]? =Y.heap[b]? :=fun b h1 h2=>(AA _ _ _ h2).trans (VO.o b h1 h2);refine⟨VB.o.setCell (p:=⟨w.heap.size+1+1+1+1,12,none⟩) (by show w.heap.size<=w.heap.size+1+1+1+1;omega) _,⟨hB,by rw[size_set];omega⟩,(vo _ (by omega) (by omega)).trans H2.o,(vo _ (by omega) (by omega)).trans H3.o,?_,C6.o,C1.o,?_,?_,?_,LEN.o.2⟩
  ·have h:=Eh (i:=12) (v:= .int .i64 u.en) ZV.o;have e:(Gt (.slice (some ⟨C.L,0,none⟩) C.ts.length C.cap) st.k C.o C.qt c nv (.slice none 0 0) 0 st.vars tv).setIfInBounds 12 (.int .i64 u.en)=Gt (.slice (some ⟨C.L,0,none⟩) C.ts.length C.cap) st.k C.o C.qt c nv (.slice none 0 0) u.en st.vars tv:=by
    obtain⟨a0,a1,a2,a3,a4,a5,rfl⟩:=Tt C6.o;rw[Ee,Ee];rfl
   rwa [e]at h
  ·exact HM.o.Ak (fun b hb=>vo b hb.2 (by omega)) (fun b hb=>⟨by omega,by rw[size_set];omega⟩)
  ·exact AS HI.o.Jm (fun b hb=>vo b (HI.o.Jm.lt b hb).2 (by have:=(HI.o.Jm.lt b hb).1;omega))
  ·exact AS HI.o.Ji (fun b hb=>vo b (HI.o.Ji.lt b hb).2 (by have:=(HI.o.Ji.lt b hb).1;omega))
 have LN:=LEN.o.1;refine a0 _ _ ?_;exact gF KEYF LN
end Go.Proofs
namespace Go.Proofs
open Go.RowKit Go.Hb Go.Pz Go.Lx Go.Ps Go.Bg Go.Pf Go.Rb
theorem Wy {x:Nat}(h:x<2^Go.Proofs.LE):(Hh x).data.toList.length<=5000:=by
 have h1:=IB (r:=10) (by decide) Go.Proofs.LE x h;have h2:Go.Proofs.LE<=4096:=by unfold Go.Proofs.LE;exact lM _
 show(Ar 10 x).toArray.toList.length<=_;rw[List.toList_toArray];unfold Ar;split
 ·decide
 ·rw[pP,nN];omega
theorem Wg (a:Nat):(Jp a).all (·.oneCell')=true:=by simp[Jp,Value.oneCell']
theorem Hc {s:ByteArray} {t:Tk}(hs:s.size<=20000000) (h:YR s t):t.tx.length<=100000000/\t.nu.length<=1000000000/\t.bits<18446744073709551616:=by
 have h1:t.tx.length<=4*s.size+4:=h.ku;refine⟨by omega,?_,by have:=h.Hs;unfold AW at this;omega⟩;by_cases hk:t.kind=4
 ·obtain⟨x,hx,he⟩:=h.int hk;have h2:=Wy hx;rw[<-he]at h2;exact lg (show t.nu.length<=5000 from h2) (by decide)
 ·have h2:=h.jy hk;have h3:t.nu= []:=by
   have:(bs t.nu).data.toList= []:=by rw[h2]
   exact this
  rw[h3];exact mK _
section
variable {w Y:World} {s:ByteArray} {at_ ob:Nat} {q:Int} {O:Am} {F7:Tm->Nat} {G:Tm->Prop} {L:List Tk} {Lb cap:Nat}
def jU (w Y:World) (ob Lb cap:Nat) (q:Int) (L:List Tk) (O:Am):Cx:=⟨Y.heap.size,w.heap.size+1+1+1+1,Lb,cap,.pointer (some ⟨ob,0,none⟩),q,L,O,fun W=>Below w.heap.size w W⟩
theorem eh (hs:s.size<=20000000) (qh:at_<=s.size) (hE:Mp w s (.pointer (some ⟨ob,0,none⟩)) O F7 G) (hL:Ct s at_ L none) (hI:Jo w.heap.size w s q (.pointer (some ⟨ob,0,none⟩)) Y (.slice (some ⟨Lb,0,none⟩) L.length cap) L):(jU w Y ob Lb cap q L O).Ok:=by
 have hz:=hI.sz;have hl:=hI.own.lt Lb rfl;refine⟨by show w.heap.size+1+1+1+1<Y.heap.size;omega,hl.2,by show w.heap.size+1+1+1+1≠Lb;omega,?_,hL.Yq,?_,?_,hE.pr,?_⟩
 ·have:=hL.len qh;show L.length<=100000000;omega
 ·have:=hL.XQ;show(L.getD (L.length-1) default).kind≠8;omega
 ·intro t ht;have:=Hc hs (hL.Kf qh t ht);exact⟨by omega,this.2⟩
 ·intro W W' h1 h2 h3 h4 h5 h6;exact⟨h1.trans h6.os,h2.trans h6.tape,h3.trans h6.output,lg h6.size h4,fun b hb=>(h5 b (by show b<Y.heap.size;omega) (by show b≠w.heap.size+1+1+1+1;omega)).trans (h6.block b hb)⟩
theorem aN (hs:s.size<=20000000) (qh:at_<=s.size) (hq: -9223372036854775808<=q/\q<=9223372036854775807) (hE:Mp w s (.pointer (some ⟨ob,0,none⟩)) O F7 G) (hL:Ct s at_ L none):(jU w Y ob Lb cap q L O).jc:=
 ⟨fun W hW=>hE.laid.below hW,fun t ht=>(Hc hs (hL.Kf qh t ht)).1,hq.2,hq.1⟩
theorem Z7 (qh:at_<=s.size) (hE:Mp w s (.pointer (some ⟨ob,0,none⟩)) O F7 G) (hL:Ct s at_ L none):(jU w Y ob Lb cap q L O).Za:=
 ⟨fun W nm hl hW=>hE.pre W nm hl hW,fun W nm hl hW=>hE.inf W nm hl hW,fun W nm hl hW=>hE.post W nm hl hW,fun W hW=>hE.laid.below hW,fun t ht hk=>by
  obtain⟨c,hc,hm⟩:=(hL.Kf qh t ht).pu hk;refine⟨c,?_,hm⟩;have h:(bs t.tx).data.toList= [c]:=by rw[hc]
  exact h⟩
theorem Zj (hL0:0<L.length) (hI:Jo w.heap.size w s q (.pointer (some ⟨ob,0,none⟩)) Y (.slice (some ⟨Lb,0,none⟩) L.length cap) L):A0 (jU w Y ob Lb cap q L O) Y RS.zero (.slice none 0 0) (.slice none 0 0):=
 ⟨⟨hI.h4⟩,fun i t hi=>Sj hI.own i t hi,hI.Ac,mq _ _ _ _,mq _ _ _ _,fun g h=>by(cases h),⟨hL0,lM _,lM _,rfl,fun x hx=>by(cases hx),fun x hx=>by(cases hx)⟩,lM _⟩
end
theorem fy {w Y:World} {s:ByteArray} {at_ ob:Nat} {q:Int} {O:Am} {F7:Tm->Nat} {G:Tm->Prop} {L:List Tk} {lv:Value} {x0 x2 x3 x5 x6 x7 qo rA rB rI rC qx x17 x18 x19 x20 x21 x22 x23 x24 x25 x26 x27 x28 x29 x30 x31 x32 x33 x34 x35 x36 x37 x38 x39 x40 x41 x42 x43 x44 x45 x46 x47 x48 x49 x50 x51 x52 x53 x54 x55 x56 x57 x58 x59 x60 x61 x62 x63 x64 x65 x66 x67 x68 x69 x70 x71 x72 x73 x74 x75 x76 x77 x78 x79 x80 x81 x82 x83 x84 x85 x86 x87 x88 x89 x90 x91 x92 x93 x94 x95 x96 x97 x98 x99 x100 x101 x102 x103 x104 x105 x106 x107 x108 x109 x110 x111 x112 x113 x114 x115 x116 x117 x118 x119 x120 x121 x122 x123 x124 x125 x126 x127 x128 x129 x130 x131 x132 x133 x134 x135 x136 x137 x138 x139 x140 x141 x142 x143 x144 x145 x146 x147 x148 x149 x150 x151 x152 x153:Value}(hs:s.size<=20000000) (qh:at_<=s.size) (hq: -9223372036854775808<=q/\q<=9223372036854775807)
  (hE:Mp w s (.pointer (some ⟨ob,0,none⟩)) O F7 G) (hL:Ct s at_ L none) (hG:∀n s most t p s',Ay L O q CZ n s most= .ok (t,p,s')->G t) (hI:Jo w.heap.size w s q (.pointer (some ⟨ob,0,none⟩)) Y lv L):
  Code.wp prog cU (bodyPostD prog Tryz.f7 (Ce s w (Sw O q F7 at_ L none))) {tmps:= #[x0,.int .i64 at_,x2,x3,.pointer (some ⟨w.heap.size,0,none⟩),x5,x6,x7,.pointer (some ⟨w.heap.size+1+1,0,none⟩),.pointer (some ⟨w.heap.size+1+1+1,0,none⟩),.pointer (some ⟨w.heap.size+1+1+1+1,0,none⟩),qo,rA,rB,rI,rC,qx,x17,x18,x19,x20,x21,x22,x23,x24,x25,x26,x27,x28,x29,x30,x31,x32,x33,x34,x35,x36,x37,x38,x39,x40,x41,x42,x43,x44,x45,x46,x47,x48,x49,x50,x51,x52,x53,x54,x55,x56,x57,x58,x59,x60,x61,x62,x63,x64,x65,x66,x67,x68,x69,x70,x71,x72,x73,x74,x75,x76,x77,x78,x79,x80,x81,x82,x83,x84,x85,x86,x87,x88,x89,x90,x91,x92,x93,x94,x95,x96,x97,x98,x99,x100,x101,x102,x103,x104,x105,x106,x107,x108,x109,x110,x111,x112,x113,x114,x115,x116,x117,x118,x119,x120,x121,x122,x123,x124,x125,x126,x127,x128,x129,x130,x131,x132,x133,x134,x135,x136,x137,x138,x139,x140,x141,x142,x143,x144,x145,x146,x147,x148,x149,x150,x151,x152,x153],defers:=fL w.heap.size} Y:=by
 have hl:L≠ []:=by obtain⟨i,t,e,_⟩:=hL.fin rfl;rw[e];simp
 have hl0:0<L.length:=List.length_pos_iff.2 hl;obtain⟨Lb,cap,rfl,l1,l2⟩:=hI.aZ hl;have hC:=eh (q:=q) (cap:=cap) hs qh hE hL hI;have hX:=aN (Y:=Y) (Lb:=Lb) (cap:=cap) hs qh hq hE hL;have hT:=Z7 (q:=q) (Y:=Y) (Lb:=Lb) (cap:=cap) qh hE hL;have inv0:=Zj (O:=O) hl0 hI;obtain⟨C,hCd⟩:∃C,C=jU w Y ob Lb cap q L O:=⟨_,rfl⟩;rw[<-hCd]at hC hX hT inv0;have hCR:C.R=w.heap.size+1+1+1+1:=by rw[hCd];rfl
 have hCB:C.B=Y.heap.size:=by rw[hCd];rfl
 have hCL:C.ts=L:=by rw[hCd];rfl
 have CT:Calls prog 24 #[.pointer (some ⟨w.heap.size+1+1+1+1,0,none⟩),.int .i64 1200] Y (Out C Y (.slice none 0 0) (.slice none 0 0) (Ay L O q CZ (4*L.length+3) RS.zero 1200)):=by
  have h:=(Tryz.reads hC hX hT (4*L.length+3)).term RS.zero 1200 Y _ _ inv0 (by rw[hCL];show 4*(L.length-0)+3<=_;omega) (by decide) (by decide);rw[hCR]at h;rw[hCd]at h⊢;exact h
 obtain⟨r,hr⟩:∃r,r=Ay L O q CZ (4*L.length+3) RS.zero 1200:=⟨_,rfl⟩;rw[<-hr]at CT;obtain⟨t0,ht0⟩:∃t,t=now L RS.zero:=⟨_,rfl⟩;have sE:L[0]? =some t0:=by rw[ht0];exact Iw (s:=RS.zero) hl0
 have hTk:=Sj hI.own 0 t0 sE;have e0:Y.cell? ⟨Lb,0,none⟩=some (.int .i64 t0.kind):=by have h:=hTk.c0;simpa using h
 have e4:Y.cell? ⟨Lb,4,none⟩=some (.int .i64 t0.at_):=by have h:=hTk.c4;simpa using h
 have p0:Y.cell? ⟨w.heap.size+1+1+1+1,0,none⟩=some (.slice (some ⟨Lb,0,none⟩) L.length cap):=by rw[Lib.cell_of_heap hI.h4];rfl
 have hRR:Sw O q F7 at_ L none=(if t0.kind=10 then .eof t0.at_ else cH F7 at_ L r):=by
  show(if _ then _ else _:fX)=_;rw[<-ht0,<-hr]
 rw[hRR];have tf:Hid (∀t p st,r= .ok (t,p,st)->G t):=lK (fun t p st h=>hG _ _ _ _ _ _ (hr.symm.trans h));have HI:=lK hI;have HCC:=lK hC;have HE:=lK hE;have HCR:=lK hCR;have HCB:=lK hCB;have yO:=lK hCL;have P6:=lK CT;have ln:(L.length:Int)<=100000000:=by have:=hL.len qh;omega
 clear hRR hr ht0 sE hTk hI hC hX hT inv0 hCd hE hL hG hCR hCB hCL hl CT l1 l2
 conv=>arg 2;whnf
 by_cases yf:t0.kind=10
 ·rw[lQ yf];have t1:((t0.kind:Int)==10)=true:=by rw[nH];omega
  have h2:=HI.o.h2;have h3:=HI.o.h3;have x3:(Y.setRow (w.heap.size+1+1) (Jp t0.at_)).cell? ⟨w.heap.size+1+1+1,0,none⟩=some .nilIface:=by
   rw[Lib.cell_of_heap ((mH Y _ _ (Jp t0.at_) (by omega)).trans h3)];rfl
  have f3:(Y.setRow (w.heap.size+1+1) (Jp t0.at_)).frozen? ⟨w.heap.size+1+1+1,0,none⟩=false:=Lib.frozen_of_heap ((mH Y _ _ (Jp t0.at_) (by omega)).trans h3) 0;have H2:=lK h2;have H3:=lK h3;clear yf h2 h3
  go_wp2_with (refine wpList_store_row rfl 35 _ _ rfl (w.heap.size+1+1) (Jp t0.at_) rfl rfl 35 (Ch 0) H2.o Xq rfl (Wg _) ?_)
  generalize hV:World.setCell _ _ _=V;have v2:V.heap[w.heap.size+1+1]? =some (.cells (Jp t0.at_) 35):=by
   rw[<-hV];exact(AA _ _ _ (by show w.heap.size+1+1≠w.heap.size+1+1+1;omega)).trans (mF _ _ _ _ _ _ H2.o)
  have v3:V.heap[w.heap.size+1+1+1]? =some (.cells #[.nilIface] 37):=by
   rw[<-hV];exact Eh ((mH Y _ _ (Jp t0.at_) (by omega)).trans H3.o) 0 _
  have vb:Below w.heap.size w V:=by
   rw[<-hV];exact(Below.row HI.o.Ac (by omega) _).setCell (p:=⟨w.heap.size+1+1+1,0,none⟩) (by show w.heap.size<=w.heap.size+1+1+1;omega) _
  clear hV;exact O0 rfl rfl rfl v2 v3 (fun W' hW=>⟨vb.trans (hW.mono vb.size),rfl⟩)
 ·rw[lL yf];have t1:((t0.kind:Int)==10)=false:=by rw[lY];omega
  clear yf
  go_wp2_with (go_at_call 24;(refine P6.o.mono ?_))
  clear e0 e4 p0;rintro e W1 h1;cases r with
  |stop wd a=>
   obtain⟨rfl,nv,tv,hk⟩:=h1;have hz:=HI.o.sz;have kb:∀b,b<w.heap.size+4->W1.heap[b]? =Y.heap[b]? :=fun b hb=>hk.kept.block b (by omega) (by
    rintro(e|e|e)
    ·rw[HCR.o]at e;omega
    ·cases e
    ·cases e)
   have D:Hid (Below w.heap.size w W1/\W1.heap[w.heap.size]? =some (.cells #[.string s] 9)/\W1.heap[w.heap.size+1+1]? =some (.cells (Ch 0) 35)/\W1.heap[w.heap.size+1+1+1]? =some (.cells #[.nilIface] 37)):=lK
    ⟨HI.o.Ac.trans (hk.kept.below HI.o.Ac.size (fun b hb=>by
     rintro(e|e|e)
     ·rw[HCR.o]at e;omega
     ·cases e
     ·cases e)),(kb _ (by omega)).trans HI.o.h0,(kb _ (by omega)).trans HI.o.h2,(kb _ (by omega)).trans HI.o.h3⟩
   clear hk kb hz;go_wp2;exact Gj hs D.o rfl rfl
  |ok x=>
   obtain⟨t,p,st⟩:=x;obtain⟨c,nv,tv,rfl,h4,h5⟩:=h1;have hz:=HI.o.sz;have kb:∀b,b<w.heap.size+4->W1.heap[b]? =Y.heap[b]? :=fun b hb=>h4.Bj.kept.block b (by omega) (by
    rintro(e|e|e)
    ·rw[HCR.o]at e;omega
    ·cases e
    ·cases e)
   have kB:Below w.heap.size w W1:=HI.o.Ac.trans (h4.Bj.kept.below HI.o.Ac.size (fun b hb=>by
     rintro(e|e|e)
     ·rw[HCR.o]at e;omega
     ·cases e
     ·cases e))
   have C6:Hid (c.size=6):=lK (by have:=h5.len;simpa using this);have CO:=lK (AT.Bq h5);have NE:=lK (lT W1 (.cells zV 31));have qV:=(Below.row ((Below.refl W1.heap.size W1).alloc (lM _) (.cells zV 31)) (lM _) c);have tH:Hid (((W1.alloc (.cells zV 31)).setRow W1.heap.size c).heap[W1.heap.size]? =some (.cells c 31)):=lK (mF _ _ _ _ _ _ NE.o);have INV:=lK (h4.inv.below HCC.o qV);have D:Hid (Below w.heap.size w ((W1.alloc (.cells zV 31)).setRow W1.heap.size c)/\((W1.alloc (.cells zV 31)).setRow W1.heap.size c).heap[w.heap.size]? =some (.cells #[.string s] 9)/\((W1.alloc (.cells zV 31)).setRow W1.heap.size c).heap[w.heap.size+1+1]? =some (.cells (Ch 0) 35)/\((W1.alloc (.cells zV 31)).setRow W1.heap.size c).heap[w.heap.size+1+1+1]? =some (.cells #[.nilIface] 37)):=lK (by
    have h9:=h4.Bj.kept.size;exact⟨kB.trans (qV.mono kB.size),(qV.block _ (by omega)).trans ((kb _ (by omega)).trans HI.o.h0),(qV.block _ (by omega)).trans ((kb _ (by omega)).trans HI.o.h2),(qV.block _ (by omega)).trans ((kb _ (by omega)).trans HI.o.h3)⟩)
   have TX:Hid (AT ((W1.alloc (.cells zV 31)).setRow W1.heap.size c) (fun b=>C.B<=b/\b<((W1.alloc (.cells zV 31)).setRow W1.heap.size c).heap.size) c.toList t):=lK
    (h5.Ak (fun b hb=>qV.block b hb.2.2.1) (fun b hb=>⟨hb.2.1,lR hb.2.2.1 qV.size⟩))
   have TB:Hid (C.B<=W1.heap.size):=lK h4.inv.sz;have zb:=lK (tf.o t p st rfl);clear h4 h5 qV kb kB hz P6 tf
   go_upto_region 15 with(refine F8 rfl _ _ rfl W1.heap.size c rfl rfl _ NE.o rfl C6.o CO.o ?_)
   generalize(W1.alloc (.cells zV 31)).setRow W1.heap.size c=X at*;obtain⟨T2,sS⟩:∃T,T=W1.heap.size:=⟨_,rfl⟩;rw[<-sS]at tH TB⊢;clear sS NE
   try simp only[Act.put]
   have CN:Hid (∀W,Below X.heap.size X W->Calls prog 25 #[.pointer (some ⟨w.heap.size+1+1+1+1,0,none⟩)] W fun e w'=>e= .returned (Fk (now L st))/\Below W.heap.size W w'):=lK (fun W hb=>by
    have h:=JK HCC.o (INV.o.below HCC.o hb)
    rwa [HCR.o,yO.o]at h)
   have f0:=fun W=>OT (now L st) W;have BX:Hid (Below X.heap.size X X):=lK (Below.refl _ _);show Code.wp _ _ (Exit.then _ _) _ _;by_cases k9:(now L st).kind=9
   ·have t2:(((now L st).kind:Int) !=9)=false:=by rw[n9];omega
    have RE:Hid (cH F7 at_ L (.ok (t,p,st))=if F7 t=0 then .ok t st (now L st).en else .stop (YV 3) at_):=lK (by show(if _ then _ else _:fX)=_;rw[lQ k9]);clear k9
    go_upto_region 17 with(go_at_call 25;(with_reducible refine(CN.o _ BX.o).mono ?_);rintro e W2 ⟨rfl,b2⟩;have B2:=lK b2;clear b2)
    clear CN f0 t2;have CK:Hid (Calls prog 27 #[.agg c] W2 fun e w'=>e= .returned (.int .i64 (F7 t))/\Below W2.heap.size W2 w'):=lK
     (HE.o.F7 W2 c _ t (D.o.1.trans (B2.o.mono D.o.1.size)) zb.o (fun b hb=>lR hb.2 B2.o.size) (TX.o.Ak (fun b hb=>B2.o.block b hb.2) (fun b hb=>hb)))
    have T22:=lK ((B2.o.block _ (lN.1 tH.o).1).trans tH.o);rename_i K19 a19 Kc ac;have A19:=lK a19;clear a19;by_cases kc:F7 t=0
    ·have t3:((F7 t:Int) !=0)=false:=by rw[n9];omega
     have RE2:Hid (cH F7 at_ L (.ok (t,p,st))= .ok t st (now L st).en):=lK (by rw[RE.o,lQ kc]);clear kc RE
     go_wp2_with (first|(refine KK rfl _ rfl T2 c C6.o rfl T22.o ?_)|(go_at_call 27;(with_reducible refine CK.o.mono ?_);rintro e W3 ⟨rfl,b3⟩;have B3:=lK b3;clear b3))
     have BB:Below X.heap.size X W3:=B2.o.trans (B3.o.mono B2.o.size);refine A19.o _ _ ?_;rw[RE2.o,<-yO.o];have hB:=HCB.o;have hz:=HI.o.sz;have hX:=(INV.o).sz;exact dk HCC.o HCR.o (by omega) (INV.o.below HCC.o BB) (D.o.1.trans (BB.mono D.o.1.size)) ((BB.block _ (by omega)).trans D.o.2.2.1) ((BB.block _ (by omega)).trans D.o.2.2.2) ((BB.block _ (lN.1 tH.o).1).trans tH.o) TB.o C6.o CO.o
      (TX.o.Ak (fun b hb=>BB.block b hb.2) (fun b hb=>⟨hb.1,lR hb.2 BB.size⟩))
    ·have t3:((F7 t:Int) !=0)=true:=by rw[pA];omega
     have RE2:Hid (cH F7 at_ L (.ok (t,p,st))= .stop (YV 3) at_):=lK (by rw[RE.o,lL kc]);clear kc RE
     go_wp2_with (first|(refine KK rfl _ rfl T2 c C6.o rfl T22.o ?_)|(go_at_call 27;(with_reducible refine CK.o.mono ?_);rintro e W3 ⟨rfl,b3⟩;have B3:=lK b3;clear b3))
     have BB:Below X.heap.size X W3:=B2.o.trans (B3.o.mono B2.o.size);have hz:=HI.o.sz;have hX:=(INV.o).sz;have hB:=HCB.o;show bodyPostD _ _ (Ce s w (cH F7 at_ L (.ok (t,p,st)))) _ _ _;rw[RE2.o];exact Gj hs ⟨D.o.1.trans (BB.mono D.o.1.size),(BB.block _ (by omega)).trans D.o.2.1,(BB.block _ (by omega)).trans D.o.2.2.1,(BB.block _ (by omega)).trans D.o.2.2.2⟩ rfl rfl
   ·have t2:(((now L st).kind:Int) !=9)=true:=by rw[pA];omega
    have RE:Hid (cH F7 at_ L (.ok (t,p,st))= .stop (YV (if(now L st).kind=10 then 1 else if(now L st).kind=9 then 2 else 0)) (now L st).at_):=lK (by show(if _ then _ else _:fX)=_;rw[lL k9,lL k9]);have CS:Hid (∀W,Below X.heap.size X W->Calls prog 26 #[.pointer (some ⟨w.heap.size+1+1+1+1,0,none⟩)] W fun e w'=>e= .panicked (MU (if(now L st).kind=10 then 1 else if(now L st).kind=9 then 2 else 0) (now L st).at_)/\Below W.heap.size W w'):=lK (fun W hb=>by
     have h:=Q7 HCC.o (INV.o.below HCC.o hb)
     rwa [HCR.o,yO.o]at h)
    clear k9;generalize(if(now L st).kind=10 then 1 else if(now L st).kind=9 then 2 else 0)=wd at*
    go_wp2_with (first|(go_at_call 25;(with_reducible refine(CN.o _ BX.o).mono ?_);rintro e W2 ⟨rfl,b2⟩;have B2:=lK b2;clear b2)|(go_at_call 26;(with_reducible refine(CS.o _ B2.o).mono ?_);rintro e W3 ⟨rfl,b3⟩;have B3:=lK b3;clear b3))
    have BB:Below X.heap.size X W3:=B2.o.trans (B3.o.mono B2.o.size);have hz:=HI.o.sz;have hX:=(INV.o).sz;have hB:=HCB.o;show bodyPostD _ _ (Ce s w (cH F7 at_ L (.ok (t,p,st)))) _ _ _;rw[RE.o];exact Gj hs ⟨D.o.1.trans (BB.mono D.o.1.size),(BB.block _ (by omega)).trans D.o.2.1,(BB.block _ (by omega)).trans D.o.2.2.1,(BB.block _ (by omega)).trans D.o.2.2.2⟩ rfl rfl
end Go.Proofs
