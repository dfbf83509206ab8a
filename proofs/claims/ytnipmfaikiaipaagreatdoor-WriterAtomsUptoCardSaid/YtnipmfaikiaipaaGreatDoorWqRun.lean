import Derived.Test.YtnipmfaikiaipaaGreatDoorEnw
import Derived.Test.YtnipmfaikiaipaaGreatDoorRows
import Derived.Test.YtnipmfaikiaipaaGreatDoorTal
set_option linter.unusedVariables false
set_option linter.unusedSimpArgs false
namespace Go.Proofs.YtnipmfaikiaipaaGreatDoor
open Go Go.Proofs.YtnipmfaikiaipaaGreatDoor.Ab Go.RowKit Go.Bg
set_option maxRecDepth 1000000 in
theorem Rc:K5 ((ev env 100000).call 9 [] (RD env.P Rows.writerAtomsRow.laid env.ro))=true:=by kernel_rfl
theorem Y4 {W:World}(hL:laidMet Tryz.prog Rows.writerAtomsRow.laid W) (hsh:W.ShapedOpen Tryz.prog):Calls Tryz.prog 9 #[] W fun e W'=>e= .returned (.bool true)/\Below W.heap.size W W':=by
 obtain⟨st',h⟩:=Lt Rc;obtain⟨c,hc⟩:∃c,Tryz.f9.body=some c:=⟨_,rfl⟩;refine(O8 (E:=env) fits rfl (Nat.le_refl _) SX Tryz.func9 hc h hL hsh .nil).mono fun e W' ⟨q,ρ,h1,h2,h3⟩=> ?_;cases h2;exact⟨h1,h3⟩
def OG (l:List UInt8) (r:Rs (En×St)):Bool:=match r with
 | .ok (.ret (.str m),_)=>B7 m l
 |_=>false
theorem FY:∀{a b:List UInt8},B7 a b=true->a=b
 | [],[],_=>rfl
 | [],_::_,h=>by cases h
 |_::_,[],h=>by cases h
 |x::r,y::s,h=>by
  have h':(match Nat.beq x.toNat y.toNat with
   |true=>B7 r s
   |false=>false)=true:=h
  cases hb:Nat.beq x.toNat y.toNat with
  |true=>
   rw[hb]at h';have:=UInt8.toNat_inj.1 (Nat.eq_of_beq_eq_true hb);rw[this,FY h']
  |false=>rw[hb]at h';cases h'
theorem N4 {l:List UInt8} {r:Rs (En×St)}(h:OG l r=true):∃st',r= .ok (.ret (.str l),st'):=by
 unfold OG at h;split at h
 ·rw[<-FY h];exact⟨_,rfl⟩
 ·cases h
def fj:List Nat:= [0,1,2,3,4,5,6,7,8,9,10,11,12,13,14,15,16,17,18,19,20,21,22,23,24,25,26,27,28,29,30,31,127]
set_option maxRecDepth 1000000 in
theorem Xn:(fj.all fun v=>OG (Ca 16 v) ((ev env 100000).call 59 [.int .i64 (Int.ofNat v),.int .i64 16] (RD env.P Rows.writerAtomsRow.laid env.ro)))=true:=by kernel_rfl
theorem X7 {v:Nat}(h:v<32\/v=127):v∈fj:=by
 unfold fj;simp only[List.mem_cons,List.mem_nil_iff,or_false];omega
end Go.Proofs.YtnipmfaikiaipaaGreatDoor
