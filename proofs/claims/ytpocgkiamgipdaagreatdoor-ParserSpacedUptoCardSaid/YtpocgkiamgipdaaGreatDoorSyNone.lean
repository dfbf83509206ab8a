import Derived.Test.YtpocgkiamgipdaaGreatDoorSfL
import Derived.Test.YtpocgkiamgipdaaGreatDoorTie
import Derived.SizedLaws
namespace Go.Proofs.YtpocgkiamgipdaaGreatDoor
open Go Go.Proofs.YtpocgkiamgipdaaGreatDoor.Ab Go.ChangeShapes Go.WideShapes Go.ChangeAt Go.RowKit
open Go.ChangeMaps (open_string)
namespace Sy
theorem own:ownKnob Tryz.prog.godebug=none:=by kernel_rfl
theorem Vm:Nh Tryz.prog=true:=by kernel_rfl
theorem spec:Rl Rows.parserSpacedSpec 4:=⟨rfl,fun H ds h=>by
 match ds,h with
 | [d0,d1,d2,d3],_=>rfl⟩
theorem Tl:(Rows.parserSpacedUptoRow.laid.filter fun x=>x.2.handleName?.isSome).isEmpty=true:=by kernel_rfl
theorem Vp:∀t∈Tryz.f4.params.toList,t<Tryz.prog.types.size:=by
 rw[Tryz.params4]
 intro t ht
 have h:([9,22,3,3].all fun t=>decide (t<Tryz.prog.types.size))=true:=by kernel_rfl
 exact of_decide_eq_true (List.all_eq_true.1 h t ht)
theorem WM {H:Type} {l:List (DataW H)} {b:List UInt8}(h:Rows.uptoSmall H l=true) (hm:DataW.lit (.string b)∈l):b.length≤1048576:=by
 have h1:Rows.uptoBulkAll l≤1048576:=of_decide_eq_true h
 have key:∀l:List (DataW H),DataW.lit (.string b)∈l→b.length≤Rows.uptoBulkAll l:=by
  intro l
  induction l with
  |nil=>intro h;cases h
  |cons d r ih=>
   intro h
   rw[Rows.uptoBulkAll]
   rcases List.mem_cons.1 h with h|h
   ·subst h;rw[Rows.uptoBulk];omega
   ·have:=ih h;omega
 have:=key l hm
 omega
set_option maxRecDepth 100000 in
theorem ix (H:Type) (enc:TypeId×Value→H) (W:World) (base:Nat) (args:Array Value) (ds gs:List (DataW H)) (before:List MemPlace)
  (hval:∀(j:Nat) t v,Tryz.f4.params[j]? =some t→args[j]? =some v→Value.okWide Tryz.prog W .any base t v)
  (hW:DataW.Whole enc Tryz.prog Tryz.f4.params.toList Rows.parserSpacedSpec.vars false W args.toList ds gs before)
  (hk:Rows.uptoSmall H (ds++gs)=true)
  (hL:laidMetH Tryz.prog Rows.parserSpacedUptoRow.laid W) (hsh:W.ShapedOpen Tryz.prog):
  Calls Tryz.prog 4 args W fun e W'=>∃v,e= .returned v∧Rows.parserSpacedSpec.post enc Tryz.prog Tryz.f4 false true false false W args v W':=by
 have hW':=hW
 obtain⟨p,q,hA0,_,_,_,_⟩:=hW
 have hA:DataW.TrodAll enc Tryz.prog W 0 (fun _=>true) true Tryz.f4.params.toList args.toList ds p:=hA0
 rw[Tryz.params4]at hA hval
 obtain⟨v0,vs0,d0,ds0,p0,q0,hargs0,rfl,rfl,h0,r0⟩:=trodAll_cons hA
 obtain⟨v1,vs1,d1,ds1,p1,q1,hargs1,rfl,rfl,h1,r1⟩:=trodAll_cons r0
 subst hargs1
 obtain⟨v2,vs2,d2,ds2,p2,q2,hargs2,rfl,rfl,h2,r2⟩:=trodAll_cons r1
 subst hargs2
 obtain⟨v3,vs3,d3,ds3,p3,q3,hargs3,rfl,rfl,h3,r3⟩:=trodAll_cons r2
 subst hargs3
 obtain⟨rfl,rfl,rfl⟩:=trodAll_nil r3
 obtain rfl:args= #[v0,v1,v2,v3]:=by cases args;simp_all
 have k0:Value.okWide Tryz.prog W .any base 9 v0:=hval 0 9 v0 (by simp) (by simp)
 have k1:Value.okWide Tryz.prog W .any base 22 v1:=hval 1 22 v1 (by simp) (by simp)
 have k2:Value.okWide Tryz.prog W .any base 3 v2:=hval 2 3 v2 (by simp) (by simp)
 have k3:Value.okWide Tryz.prog W .any base 3 v3:=hval 3 3 v3 (by simp) (by simp)
 obtain⟨s0,rfl,rfl,_,_⟩:=open_string Tryz.underlying9 k0 h0
 have z0:s0.size≤1048576:=by have:=WM hk (b:=s0.data.toList) (by simp);simpa using this
 obtain⟨la,lc,g,o,xs,rfl,hla,hxo,hxl⟩:=WK k1 h1 (aG hk (by simp))
 obtain⟨n2,rfl,rfl,_,z2⟩:=open_int Tryz.underlying3 k2 h2
 obtain⟨n3,rfl,rfl,_,z3⟩:=open_int Tryz.underlying3 k3 h3
 have hL2:laidMet Tryz.prog Rows.parserSpacedUptoRow.laid W:=NU Tl hL
 refine(AAv s0 la lc g o xs n2 n3 W z0 hla hxo hxl z2 z3 hL2 hsh).mono fun e W' ⟨h1,h2⟩=>⟨_,h1,?_⟩
 exact V9 spec (by kernel_rfl) Tryz.underlying4 Vm Vp hW' h2
end Sy
end Go.Proofs.YtpocgkiamgipdaaGreatDoor
