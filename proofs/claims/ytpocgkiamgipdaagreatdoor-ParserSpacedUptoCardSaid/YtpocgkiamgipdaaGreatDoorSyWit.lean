import Derived.Test.YtpocgkiamgipdaaGreatDoorSyNone
namespace Go.Proofs.YtpocgkiamgipdaaGreatDoor
open Go Go.Proofs.YtpocgkiamgipdaaGreatDoor.Ab Go.ChangeShapes Go.WideShapes Go.ChangeAt Go.RowKit
namespace Sy
def lL:Array Value:= #[.string ⟨#[]⟩,.slice none 0 0,.int .i64 0,.int .i64 0]
theorem lO (os:Os):((World.laidAll Tryz.prog os Rows.parserSpacedUptoRow.laid).forCall (fun _ _=>0) ⟨#[],lL,[]⟩).Shaped Tryz.prog:=World.shaped_of_ZipB (by kernel_rfl) (by kernel_rfl)
theorem lU (os:Os):laidMetH Tryz.prog Rows.parserSpacedUptoRow.laid ((World.laidAll Tryz.prog os Rows.parserSpacedUptoRow.laid).forCall (fun _ _=>0) ⟨#[],lL,[]⟩).memory:=by
 rw[MakeChecks.laidMetH_plain _ _ _ (by kernel_rfl)]
 exact laidMet_laidAll _ (by kernel_rfl) (by kernel_rfl)
theorem lQ (os:Os){H:Type}(enc:TypeId×Value→H):(DataW.whole enc Tryz.prog ((World.laidAll Tryz.prog os Rows.parserSpacedUptoRow.laid).forCall (fun _ _=>0) ⟨#[],lL,[]⟩).memory Tryz.f4.params.toList Rows.parserSpacedSpec.vars false lL.toList 8).isSome=true:=by kernel_rfl
theorem lS (os:Os){H:Type}(enc:TypeId×Value→H):(match DataW.whole enc Tryz.prog ((World.laidAll Tryz.prog os Rows.parserSpacedUptoRow.laid).forCall (fun _ _=>0) ⟨#[],lL,[]⟩).memory Tryz.f4.params.toList Rows.parserSpacedSpec.vars false lL.toList 8 with|some x=>Rows.uptoSmall H (x.1++x.2.1)|none=>true)=true:=by kernel_rfl
theorem AAW:Tryz.prog.funcNamed "hornbeam/hornbeamlaw05.ParserSpaced" =some 4:=by kernel_rfl
theorem ACL:Tryz.f4.isInstance Tryz.prog Rows.parserSpacedUptoRow.origin Rows.parserSpacedUptoRow.targs:=of_decide_eq_true (by kernel_rfl)
theorem ACG:Tryz.f4.isWrapper Tryz.prog Rows.parserSpacedUptoRow.wrapper Rows.parserSpacedUptoRow.mainSum:=by unfold Func.isWrapper;first|(rw[if_pos (by decide+kernel)];kernel_rfl)|(rw[if_neg (by decide+kernel)];exact⟨rfl,rfl⟩)
theorem plain (f:FuncId) (fn:Func) (hf:Tryz.pinned.checked.prog.funcNamed "hornbeam/hornbeamlaw05.ParserSpaced" =some f) (hfn:Tryz.pinned.checked.prog.funcs[f]? =some fn):
  true=Tryz.pinned.checked.prog.looks []∧∀(j:Nat) t,fn.params[j]? =some t→Tryz.pinned.checked.prog.wantsStandIn t=false:=by
 obtain rfl:f=4:=Option.some.inj (AAW.symm.trans hf)|>.symm
 obtain rfl:fn=Tryz.f4:=(Option.some.inj (Tryz.func4.symm.trans hfn)).symm
 refine⟨by kernel_rfl,fun j t ht=> ?_⟩
 rw[Tryz.params4]at ht
 have hm:t∈ [9,22,3,3]:=by simpa using Array.mem_of_getElem? ht
 have hall:([9,22,3,3].all fun u=> !Tryz.prog.wantsStandIn u)=true:=by kernel_rfl
 exact(show Tryz.prog.wantsStandIn t=false by simpa using List.all_eq_true.1 hall t hm)
theorem ABt:Tryz.prog.inits.idxOf? 4=none:=by kernel_rfl
theorem ACP (os:Os):Input.okWideB Tryz.prog ((World.laidAll Tryz.prog os Rows.parserSpacedUptoRow.laid).forCall (fun _ _=>0) ⟨#[],lL,[]⟩) 4 ⟨#[],lL,[]⟩=true:=by kernel_rfl
theorem AB8 (os:Os){H:Type}(enc:TypeId×Value→H):(Rows.OpenSpec.upto Rows.parserSpacedSpec).bare.sizedB enc Tryz.prog Tryz.f4 false ((World.laidAll Tryz.prog os Rows.parserSpacedUptoRow.laid).forCall (fun _ _=>0) ⟨#[],lL,[]⟩).memory lL 8=true:=by kernel_rfl
end Sy
end Go.Proofs.YtpocgkiamgipdaaGreatDoor
