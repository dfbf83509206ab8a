import Derived.Test.YtnipmfaikiaipaaGreatDoorAbD
import Derived.Test.YtnipmfaikiaipaaGreatDoorProg
import Derived.Test.YtnipmfaikiaipaaGreatDoorChecked
namespace Go.Proofs.YtnipmfaikiaipaaGreatDoor
open Go Go.Proofs.YtnipmfaikiaipaaGreatDoor.Ab
def KR (l:List (Nat×Ext)) (f:Nat):Option Ext:=match l with
 | []=>none
 |x::r=>match Nat.beq x.1 f with
  |true=>some x.2
  |false=>KR r f
theorem Jw {f:Nat} {e:Ext} :∀{l:List (Nat×Ext)},KR l f=some e->(f,e)∈l
 | [],h=>by cases h
 |x::r,h=>by
  unfold KR at h;split at h
  ·rename_i hx;have hx:=beq_true hx;cases h;subst hx;exact .head _
  ·exact .tail _ (Jw h)
def exts:List (Nat×Ext):= [(165,.indexByte),(166,.indexStr),(142,.count),(138,.f64bits),(48,.f64of),(187,.f64bits),(282,.f64of),(186,.f32bits),(277,.f32of),(133,.same),(200,.Hu 5)]
noncomputable def env:Env:= {P:=Tryz.prog,ext:=KR exts,ro:=Tryz.prog.globals.size,mx:=5,gl:=Tryz.prog.globals.size}
theorem SX:La Tryz.prog=true:=by kernel_rfl
def NM (P:Program):Bool:=P.funcs.toList.all fun fn=>(fn.body.isNone|| !(fn.name== "runtime.NumGoroutine"))
theorem Lw:NM Tryz.prog=true:=by kernel_rfl
theorem dQ:XF env 165 (.indexByte):=⟨⟨Tryz.f165,by kernel_rfl,by kernel_rfl,by kernel_rfl,by kernel_rfl,by kernel_rfl,fun _ h=>by cases h⟩,fun h=>by cases h⟩
theorem dW:XF env 166 (.indexStr):=⟨⟨Tryz.f166,by kernel_rfl,by kernel_rfl,by kernel_rfl,by kernel_rfl,by kernel_rfl,fun _ h=>by cases h⟩,fun _=>⟨of_decide_eq_true (by kernel_rfl),by kernel_rfl⟩⟩
theorem fB:XF env 142 (.count):=⟨⟨Tryz.f142,by kernel_rfl,by kernel_rfl,by kernel_rfl,by kernel_rfl,by kernel_rfl,fun _ h=>by cases h⟩,fun h=>by cases h⟩
theorem cY:XF env 138 (.f64bits):=⟨⟨Tryz.f138,by kernel_rfl,by kernel_rfl,by kernel_rfl,by kernel_rfl,by kernel_rfl,fun _ h=>by cases h⟩,fun h=>by cases h⟩
theorem fW:XF env 48 (.f64of):=⟨⟨Tryz.f48,by kernel_rfl,by kernel_rfl,by kernel_rfl,by kernel_rfl,by kernel_rfl,fun _ h=>by cases h⟩,fun h=>by cases h⟩
theorem fD:XF env 187 (.f64bits):=⟨⟨Tryz.f187,by kernel_rfl,by kernel_rfl,by kernel_rfl,by kernel_rfl,by kernel_rfl,fun _ h=>by cases h⟩,fun h=>by cases h⟩
theorem cx:XF env 282 (.f64of):=⟨⟨Tryz.f282,by kernel_rfl,by kernel_rfl,by kernel_rfl,by kernel_rfl,by kernel_rfl,fun _ h=>by cases h⟩,fun h=>by cases h⟩
theorem dh:XF env 186 (.f32bits):=⟨⟨Tryz.f186,by kernel_rfl,by kernel_rfl,by kernel_rfl,by kernel_rfl,by kernel_rfl,fun _ h=>by cases h⟩,fun h=>by cases h⟩
theorem cW:XF env 277 (.f32of):=⟨⟨Tryz.f277,by kernel_rfl,by kernel_rfl,by kernel_rfl,by kernel_rfl,by kernel_rfl,fun _ h=>by cases h⟩,fun h=>by cases h⟩
theorem dV:XF env 133 (.same):=⟨⟨Tryz.f133,by kernel_rfl,by kernel_rfl,by kernel_rfl,by kernel_rfl,by kernel_rfl,fun _ h=>by cases h⟩,fun h=>by cases h⟩
theorem cz:XF env 200 (.Hu 5):=⟨⟨Tryz.f200,by kernel_rfl,by kernel_rfl,by kernel_rfl,by kernel_rfl,by kernel_rfl,fun _ h=>by cases h;exact⟨_,rfl,by kernel_rfl⟩⟩,fun h=>by cases h⟩
theorem fits:Fit env:=by
 refine Fit.of (by kernel_rfl) (fun f e h=> ?_) (fun f fn h1 h2=> ?_)
 ·have:=Jw (l:=exts) h;simp only[exts,List.mem_cons,List.mem_nil_iff,or_false,Prod.mk.injEq]at this;rcases this with⟨rfl,rfl⟩|⟨rfl,rfl⟩|⟨rfl,rfl⟩|⟨rfl,rfl⟩|⟨rfl,rfl⟩|⟨rfl,rfl⟩|⟨rfl,rfl⟩|⟨rfl,rfl⟩|⟨rfl,rfl⟩|⟨rfl,rfl⟩|⟨rfl,rfl⟩
  ·exact dQ
  ·exact dW
  ·exact fB
  ·exact cY
  ·exact fW
  ·exact fD
  ·exact cx
  ·exact dh
  ·exact cW
  ·exact dV
  ·exact cz
 ·have h3:=List.all_eq_true.1 Lw fn (by
   have:=Array.mem_of_getElem? h1;exact Array.mem_toList_iff.2 this)
  cases hb:fn.body with
  |none=>rw[hb]at h2;cases h2
  |some c=>rw[hb]at h3;simpa using h3
end Go.Proofs.YtnipmfaikiaipaaGreatDoor
