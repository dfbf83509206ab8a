import Derived.Defers
import Derived.Recover
import Derived.Orders
/- A second reading of the model: values whose addresses are names of this text's own (they stand for blocks by a map), capacities that may be left open, and a function that goes through a body with them. Definitions alone. -/
set_option linter.unusedVariables false
set_option linter.unusedSimpArgs false
set_option linter.unnecessarySimpa false
namespace Go.Proofs.YtjifnmilimdfdaaGreatDoor.Ab
open Go
noncomputable section

/-- A result, or why there is none. -/
inductive Rs (α : Type) where
  | ok (a : α)
  | bad (why : String)
def Rs.bind {α β : Type} (x : Rs α) (f : α → Rs β) : Rs β := match x with
  | .ok a => f a
  | .bad w => .bad w
def Rs.of {α : Type} (why : String) (x : Option α) : Rs α := match x with
  | some a => .ok a
  | none => .bad why
def Rs.guard {α : Type} (b : Bool) (why : String) (x : Rs α) : Rs α := match b with
  | true => x
  | false => .bad why

/-- A tree by places. -/
inductive PT (α : Type) where
  | nil
  | node (l : PT α) (v : Option α) (r : PT α)
def PT.get {α : Type} (t : PT α) : Nat → Option α :=
  PT.rec (motive := fun _ => Nat → Option α) (fun _ => none)
    (fun _ v _ gl gr k => Nat.rec (motive := fun _ => Option α) v
      (fun k _ => Bool.rec (motive := fun _ => Option α) (gr (Nat.div k 2)) (gl (Nat.div k 2)) (Nat.beq (Nat.mod k 2) 0)) k) t
/-- The tree that holds one alone; so many levels at most. -/
def PT.one {α : Type} (n : Nat) : Nat → α → PT α := match n with
  | 0 => fun _ _ => .nil
  | n + 1 => fun k v => match k with
    | 0 => .node .nil (some v) .nil
    | k + 1 => match Nat.beq (Nat.mod k 2) 0 with
      | true => .node (PT.one n (Nat.div k 2) v) none .nil
      | false => .node .nil none (PT.one n (Nat.div k 2) v)
def PT.set {α : Type} (t : PT α) : Nat → α → PT α :=
  PT.rec (motive := fun _ => Nat → α → PT α) (fun k v => PT.one 64 k v)
    (fun l o r gl gr k v => Nat.rec (motive := fun _ => PT α) (.node l (some v) r)
      (fun k _ => Bool.rec (motive := fun _ => PT α) (.node l o (gr (Nat.div k 2) v)) (.node (gl (Nat.div k 2) v) o r) (Nat.beq (Nat.mod k 2) 0)) k) t
def PT.del {α : Type} (t : PT α) : Nat → PT α := match t with
  | .nil => fun _ => .nil
  | .node l o r => fun k => match k with
    | 0 => .node l none r
    | k + 1 => match Nat.beq (Nat.mod k 2) 0 with
      | true => .node (l.del (Nat.div k 2)) o r
      | false => .node l o (r.del (Nat.div k 2))
/-- The tree of a list, from a place on. -/
def PT.lay {α : Type} (l : List α) : Nat → PT α → PT α := match l with
  | [] => fun _ t => t
  | v :: r => fun k t => PT.lay r (Nat.succ k) (t.set k v)

/-- A slice's capacity: known; or what append left (then it goes to the row's end; so many cells an element). -/
inductive Cap where
  | k (n : Nat)
  | g (size : Nat)

/- SYMBOLS. What is not known may have a name; facts tell how tests of such values come out. -/
inductive SV where
  | i (n : Int)
  | b (t : Bool)
  | s (l : List UInt8)
def SV.int (v : SV) : Int := match v with
  | .i n => n
  | _ => 0
def SV.bool (v : SV) : Bool := match v with
  | .b t => t
  | _ => false
def SV.str (v : SV) : List UInt8 := match v with
  | .s l => l
  | _ => []
inductive SX where
  | v (i : Nat)
  | int (n : Int)
  | bool (b : Bool)
  | str (l : List UInt8)
  | bin (op : BinOp) (k : IntKind) (a : SX) (k' : IntKind) (b : SX)
  | seq (a b : SX)
  | not (a : SX)
  | len (a : SX)
  | byte (s i : SX)
  | cut (s i j : SX)
  | cat (a b : SX)
  | cons (c s : SX)
  | conv (k : IntKind) (a : SX)
  | ap (f : Nat) (a b c : SX)
structure Sg where
  val : Nat → SV
  fn : Nat → SV → SV → SV → SV
/-- What a step comes to that asks nothing. -/
def semV (s : Sem Value) : Option Value := match s with
  | .pure v => some v
  | _ => none
def svOf (v : Option Value) : SV := match v with
  | some (.int _ n) => .i n
  | some (.bool t) => .b t
  | _ => .b false
def SX.den (σ : Sg) (e : SX) : SV := match e with
  | .v i => σ.val i
  | .int n => .i n
  | .bool b => .b b
  | .str l => .s l
  | .bin op k a k' b => svOf (semV (Go.binOp op 0 (.int k (a.den σ).int) (.int k' (b.den σ).int)))
  | .seq a b => .b ((a.den σ).str == (b.den σ).str)
  | .not a => .b (!(a.den σ).bool)
  | .len a => .i (Int.ofNat (a.den σ).str.length)
  | .byte s i => .i (match (s.den σ).str[(i.den σ).int.toNat]? with
    | some b => Int.ofNat b.toNat
    | none => 0)
  | .cut s i j => .s (((s.den σ).str.drop (i.den σ).int.toNat).take ((j.den σ).int.toNat - (i.den σ).int.toNat))
  | .cat a b => .s ((a.den σ).str ++ (b.den σ).str)
  | .cons c s => .s (UInt8.ofNat (c.den σ).int.toNat :: (s.den σ).str)
  | .conv k a => .i (k.wrap (a.den σ).int)
  | .ap f a b c => σ.fn f (a.den σ) (b.den σ) (c.den σ)
def eqSX (a : SX) : SX → Bool := match a with
  | .v i => fun b => match b with | .v j => Nat.beq i j | _ => false
  | .int n => fun b => match b with | .int m => decide (n = m) | _ => false
  | .bool x => fun b => match b with | .bool y => x == y | _ => false
  | .str l => fun b => match b with | .str m => decide (l = m) | _ => false
  | .bin op k x k' y => fun b => match b with | .bin op' j x' j' y' => decide (op = op') && decide (k = j) && decide (k' = j') && eqSX x x' && eqSX y y' | _ => false
  | .seq x y => fun b => match b with | .seq x' y' => eqSX x x' && eqSX y y' | _ => false
  | .not x => fun b => match b with | .not x' => eqSX x x' | _ => false
  | .len x => fun b => match b with | .len x' => eqSX x x' | _ => false
  | .byte x y => fun b => match b with | .byte x' y' => eqSX x x' && eqSX y y' | _ => false
  | .cut x y z => fun b => match b with | .cut x' y' z' => eqSX x x' && eqSX y y' && eqSX z z' | _ => false
  | .cat x y => fun b => match b with | .cat x' y' => eqSX x x' && eqSX y y' | _ => false
  | .cons x y => fun b => match b with | .cons x' y' => eqSX x x' && eqSX y y' | _ => false
  | .conv k x => fun b => match b with | .conv j x' => decide (k = j) && eqSX x x' | _ => false
  | .ap f x y z => fun b => match b with | .ap g x' y' z' => Nat.beq f g && eqSX x x' && eqSX y y' && eqSX z z' | _ => false

inductive AV where
  | top                                       -- whatever it is
  | any                                       -- whatever one cell holds
  | bool (b : Bool)
  | int (k : IntKind) (n : Int)
  | flt (k : FloatKind) (bits : Nat)
  | str (s : List UInt8)
  | nilp
  | ptr (id off : Nat)
  | nilsl
  | sl (id off len : Nat) (cap : Cap)
  | nilmap
  | map (id : Nat)
  | fn (f : FuncId) (first captured : List AV)
  | nilfn
  | iface (t : TypeId) (v : AV)
  | nili
  | agg (cs : List AV)
  | tup (vs : List AV)
  | ix (k : IntKind) (e : SX)                 -- an integer, a bool, a string that has a name
  | bx (e : SX)
  | sx (e : SX)

/-- What one cell may hold of the model's values that name no place. -/
def AV.of0 (v : Value) : Option AV := match v with
  | .bool b => some (.bool b)
  | .int k n => some (.int k n)
  | .float k b => some (.flt k b)
  | .string s => some (.str s.data.toList)
  | .pointer none => some .nilp
  | .slice none 0 0 => some .nilsl
  | .map none => some .nilmap
  | .func (.func f) x c => match x.toList, c.toList with
    | [], [] => some (.fn f [] [])
    | _, _ => none
  | .nilFunc => some .nilfn
  | .nilIface => some .nili
  | _ => none
def AV.all0 (l : List Value) : Option (List AV) := match l with
  | [] => some []
  | v :: r => match AV.of0 v, AV.all0 r with
    | some a, some b => some (a :: b)
    | _, _ => none
/-- A constant of the program's text. -/
def AV.ofV (v : Value) : AV := match v with
  | .agg cs => match AV.all0 cs.toList with
    | some l => .agg l
    | none => .top
  | .iface t x => match x with
    | .agg cs => match AV.all0 cs.toList with
      | some l => .iface t (.agg l)
      | none => .top
    | x => match AV.of0 x with
      | some a => .iface t a
      | none => .top
  | .tuple vs => match vs.toList with
    | [] => .tup []
    | _ => .top
  | v => match AV.of0 v with
    | some a => a
    | none => .top
/-- Back, where it names no place. -/
def AV.toS (a : AV) : Option Value := match a with
  | .bool b => some (.bool b)
  | .int k n => some (.int k n)
  | .flt k b => some (.float k b)
  | .str s => some (.string ⟨⟨s⟩⟩)
  | _ => none
/-- Does it lie in one cell? -/
def AV.one (a : AV) : Bool := match a with
  | .top => false
  | .agg _ => false
  | .tup _ => false
  | _ => true
def AV.cells (a : AV) : Option (List AV) := match a with
  | .agg cs => some cs
  | a => match a.one with
    | true => some [a]
    | false => none

/-- A block. -/
inductive Ob where
  -- n: no cell is known from here on; fz: 0 nothing of it is frozen, 1 nothing but the place behind its end, 2 whatever; cl: its class (0: none), rel: where it begins in it
  | row (cs : PT AV) (n : Nat) (elem : TypeId) (fz : Nat) (cl : Nat) (rel : Nat)
  -- pr: nothing was ever taken out of it (its entries' stamps are their places)
  | map (pr : Bool) (es : List (AV × AV))
  | iter (s : List UInt8) (pos : Nat)
  -- a map of which the entries' order is not known; what goes through a map of so many entries, and which have come
  | mset (es : List (AV × AV))
  | miter (m since : Nat) (seen : List Nat)

/-- 'cls': of each class its end, and who is in it. -/
structure St where
  heap : PT Ob
  next : Nat
  cls : PT (Nat × List Nat)
  facts : List (SX × Bool)
/-- g: so many package-level variables there are. -/
structure Fr where
  t : PT AV
  n : Nat
  g : Nat
  ds : List (FuncId × List AV)

/-- What a run of the model's own step comes to, where it asks nothing but the program. -/
def seval {α : Type} (P : Program) (s : Sem α) : Option α := match s with
  | .pure a => some a
  | .program k => seval P (k P)
  | _ => none

def tyAgg (P : Program) (t : TypeId) : Option Bool := match P.underlying t with
  | some (.struct _) => some true
  | some (.array _ _) => some true
  | some _ => some false
  | none => none
def tySize (P : Program) (t : TypeId) : Option Nat := match P.info? t with
  | some i => some i.size
  | none => none
def tyZero (P : Program) (t : TypeId) : Option AV := match P.info? t with
  | some i => match i.zero with
    | some z => match AV.ofV z with
      | .top => none
      | a => some a
    | none => none
  | none => none
def tyBytes (P : Program) (t : TypeId) : Option Nat := match P.info? t with
  | some i => some i.bytes
  | none => none

def Fr.get (fr : Fr) (x : Operand) : AV := match x with
  | .tmp t => match fr.t.get t with
    | some v => v
    | none => .top
  | .const v => AV.ofV v
  | .global g => match Nat.blt g fr.g with
    | true => .ptr g 0
    | false => .top
  | .func f => .fn f [] []
def Fr.put (fr : Fr) (d : Option Tmp) (v : AV) : Rs Fr := match d with
  | none => .ok fr
  | some d => match Nat.blt d fr.n with
    | true => .ok { fr with t := fr.t.set d v }
    | false => .bad "put"
def Fr.all (fr : Fr) (l : List Operand) : List AV := l.map fr.get

def St.cell (st : St) (id off : Nat) : Rs AV := match st.heap.get id with
  | some (.row cs _ _ _ _ _) => Rs.of "load cell" (cs.get off)
  | _ => .bad "load block"
def St.loads (st : St) (id : Nat) (n : Nat) : Nat → Rs (List AV) := match n with
  | 0 => fun _ => .ok []
  | n + 1 => fun off => (st.cell id off).bind fun v => (st.loads id n (Nat.succ off)).bind fun r => .ok (v :: r)
def St.new (st : St) (o : Ob) : St := { st with heap := st.heap.set st.next o, next := Nat.succ st.next }
/-- What shares a class with a block that is written is known no more. -/
def kill (l : List Nat) (but : Nat) (h : PT Ob) : PT Ob := match l with
  | [] => h
  | x :: r => match Nat.beq x but with
    | true => kill r but h
    | false => kill r but (h.del x)
/-- Into a row: cells, from a place on. -/
def putCells (l : List AV) : Nat → PT AV → Rs (PT AV) := match l with
  | [] => fun _ cs => .ok cs
  | v :: r => fun off cs => match v.one, cs.get off with
    | true, some _ => putCells r (Nat.succ off) (cs.set off v)
    | _, _ => .bad "store cell"
def St.stores (ro : Nat) (st : St) (id off : Nat) (l : List AV) : Rs St := match l with
  | [] => .ok st
  | _ => match st.heap.get id with
    | some (.row cs n e fz cl rel) => match fz, Nat.blt id ro with
      | 0, false => (putCells l off cs).bind fun cs' => match cl with
        | 0 => .ok { st with heap := st.heap.set id (.row cs' n e fz cl rel) }
        | _ => match st.cls.get cl with
          | some m => .ok { st with heap := kill m.2 id (st.heap.set id (.row cs' n e fz cl rel)), next := st.next, cls := st.cls.set cl (Nat.add rel n, [id]) }
          | none => .bad "store class"
      | _, _ => .bad "store frozen or not its own"
    | _ => .bad "store block"

/-- Another row at its place; what shares a class with it is known no more. -/
def St.change (st : St) (id : Nat) (cs : PT AV) (n e fz cl rel : Nat) : Rs St := match cl with
  | 0 => .ok { st with heap := st.heap.set id (.row cs n e fz cl rel) }
  | _ => match st.cls.get cl with
    | some m => .ok { st with heap := kill m.2 id (st.heap.set id (.row cs n e fz cl rel)), next := st.next, cls := st.cls.set cl (Nat.add rel n, [id]) }
    | none => .bad "store class"
def loadVar (P : Program) (st : St) (t : TypeId) (id off : Nat) : Rs AV := match tyAgg P t with
  | some true => match tySize P t with
    | some n => (st.loads id n off).bind fun l => .ok (.agg l)
    | none => .bad "load size"
  | some false => st.cell id off
  | none => .bad "load type"
def storeVar (P : Program) (ro : Nat) (st : St) (t : TypeId) (id off : Nat) (v : AV) : Rs St := match v.cells, tySize P t with
  | some l, some n => match Nat.beq l.length n with
    | true => st.stores ro id off l
    | false => .bad "store size"
  | _, _ => .bad "store value"
/-- A part of a struct's or an array's cells. -/
def part (P : Program) (t : TypeId) (cs : List AV) (off : Nat) : Rs AV := match tyAgg P t with
  | some true => match tySize P t with
    | some n => .ok (.agg ((cs.drop off).take n))
    | none => .bad "part size"
  | some false => match cs[off]? with
    | some v => .ok v
    | none => .bad "part cell"
  | none => .bad "part type"

/-- Bytes, one by one. -/
def eqBytes (a : List UInt8) : List UInt8 → Bool := match a with
  | [] => fun b => match b with
    | [] => true
    | _ => false
  | x :: r => fun b => match b with
    | [] => false
    | y :: s => match Nat.beq x.toNat y.toNat with
      | true => eqBytes r s
      | false => false
def ltBytes (a : List UInt8) : List UInt8 → Bool := match a with
  | [] => fun b => match b with
    | [] => false
    | _ => true
  | x :: r => fun b => match b with
    | [] => false
    | y :: s => match Nat.beq x.toNat y.toNat with
      | true => ltBytes r s
      | false => Nat.blt x.toNat y.toNat
def strOp (op : BinOp) (a b : List UInt8) : Rs AV := match op with
  | .add => match Nat.ble (Nat.add a.length b.length) 1000000 with
    | true => .ok (.str (a ++ b))
    | false => .bad "string too long"
  | .eql => .ok (.bool (eqBytes a b))
  | .neq => .ok (.bool (!eqBytes a b))
  | .lss => .ok (.bool (ltBytes a b))
  | .leq => .ok (.bool (ltBytes a b || eqBytes a b))
  | .gtr => .ok (.bool (!(ltBytes a b || eqBytes a b)))
  | .geq => .ok (.bool (!ltBytes a b))
  | _ => .bad "string operator"

/- SYMBOLS IN OPERATIONS. -/
def lookF (l : List (SX × Bool)) (e : SX) : Option Bool := match l with
  | [] => none
  | x :: r => match eqSX x.1 e with
    | true => some x.2
    | false => lookF r e
def tst (st : St) (e : SX) : AV := match lookF st.facts e with
  | some b => .bool b
  | none => .bx e
/-- Is it known to be so? -/
def holdsF (st : St) (e : SX) : Bool := match lookF st.facts e with
  | some true => true
  | _ => false
def leI (a b : SX) : SX := .bin .leq .i64 a .i64 b
def leF (st : St) (a b : SX) : Bool := match a, b with
  | .int m, .int n => decide (m ≤ n)
  | a, b => eqSX a b || holdsF st (leI a b)
def symI (a : AV) : Option (IntKind × SX) := match a with
  | .int k n => some (k, .int n)
  | .ix k e => some (k, e)
  | _ => none
def symS (a : AV) : Option SX := match a with
  | .str l => some (.str l)
  | .sx e => some e
  | _ => none
def isSym (a : AV) : Bool := match a with
  | .ix _ _ => true
  | .bx _ => true
  | .sx _ => true
  | _ => false
def symInt (st : St) (op : BinOp) (k : IntKind) (x : SX) (k' : IntKind) (y : SX) : Rs AV := match op with
  | .shl => match y with
    | .int (.ofNat _) => .ok (.ix k (.bin op k x k' y))
    | _ => .bad "symbol shift"
  | .shr => match y with
    | .int (.ofNat _) => .ok (.ix k (.bin op k x k' y))
    | _ => .bad "symbol shift"
  | .quo => match y with
    | .int (.ofNat (_ + 1)) => if k = k' then .ok (.ix k (.bin op k x k' y)) else .bad "symbol kinds"
    | _ => .bad "symbol divisor"
  | .rem => match y with
    | .int (.ofNat (_ + 1)) => if k = k' then .ok (.ix k (.bin op k x k' y)) else .bad "symbol kinds"
    | _ => .bad "symbol divisor"
  | .add => if k = k' then .ok (.ix k (.bin op k x k' y)) else .bad "symbol kinds"
  | .sub => if k = k' then .ok (.ix k (.bin op k x k' y)) else .bad "symbol kinds"
  | .mul => if k = k' then .ok (.ix k (.bin op k x k' y)) else .bad "symbol kinds"
  | .and => if k = k' then .ok (.ix k (.bin op k x k' y)) else .bad "symbol kinds"
  | .or => if k = k' then .ok (.ix k (.bin op k x k' y)) else .bad "symbol kinds"
  | .xor => if k = k' then .ok (.ix k (.bin op k x k' y)) else .bad "symbol kinds"
  | .andNot => if k = k' then .ok (.ix k (.bin op k x k' y)) else .bad "symbol kinds"
  | _ => if k = k' then .ok (tst st (.bin op k x k' y)) else .bad "symbol kinds"
def symStr (st : St) (op : BinOp) (x y : SX) : Rs AV := match op with
  | .eql => .ok (tst st (.seq x y))
  | .neq => .ok (match tst st (.seq x y) with
    | .bool b => .bool (!b)
    | _ => .bx (.not (.seq x y)))
  | .add => match holdsF st (leI (.len (.cat x y)) (.int 4611686018427387904)) with
    | true => .ok (.sx (.cat x y))
    | false => .bad "symbol string too long"
  | _ => .bad "symbol string operator"
def symBin (st : St) (op : BinOp) (a b : AV) : Rs AV := match symI a, symI b with
  | some x, some y => symInt st op x.1 x.2 y.1 y.2
  | _, _ => match symS a, symS b with
    | some x, some y => symStr st op x y
    | _, _ => .bad "symbol operands"
/-- The fields of a struct that count in '==': types and places. -/
def eqFields (l : List Field) : List (TypeId × Nat) := match l with
  | [] => []
  | f :: r => if f.name ≠ "_" then (f.type, f.offset) :: eqFields r else eqFields r
def eqFieldsOf (P : Program) (t : TypeId) : Option (List (TypeId × Nat)) := match P.underlying t with
  | some (.struct fs) => match P.stoodInHeld t with
    | false => some (eqFields fs.toList)
    | true => none
  | _ => none
def canCompare (P : Program) (t : TypeId) : Bool := match P.info? t with
  | some i => i.comparable
  | none => false
/-- All of some answers, from the left, up to the first that is no. -/
def eqAll (f : TypeId → AV → AV → Rs Bool) (P : Program) (xs ys : List AV) (l : List (TypeId × Nat)) : Rs Bool := match l with
  | [] => .ok true
  | p :: r => (part P p.1 xs p.2).bind fun a => (part P p.1 ys p.2).bind fun b => (f p.1 a b).bind fun e => match e with
    | true => eqAll f P xs ys r
    | false => .ok false
/-- The row's class, and whether all of it may be written. -/
def St.free (st : St) (id : Nat) : Option Nat := match st.heap.get id with
  | some (.row _ _ _ 0 cl _) => some cl
  | _ => none
def eqPtr (P : Program) (st : St) (e : TypeId) (i a j b : Nat) : Rs Bool := match tySize P e with
  | some (_ + 1) => match Nat.beq i j with
    | true => .ok (Nat.beq a b)
    | false => match st.free i, st.free j with
      | some c, some c' => match Nat.beq c 0 || !Nat.beq c c' with
        | true => .ok false
        | false => .bad "equal pointers of one class"
      | _, _ => .bad "equal pointers"
  | _ => .bad "equal pointers to nothing"
def decided (a : AV) : Rs Bool := match a with
  | .bool b => .ok b
  | _ => .bad "undecided"
def eqSym (st : St) (d : TypeDesc) (x y : AV) : Rs Bool := match d with
  | .int _ => match symI x, symI y with
    | some _, some _ => (symBin st .eql x y).bind decided
    | _, _ => .bad "equal symbols"
  | .string => match symS x, symS y with
    | some _, some _ => (symBin st .eql x y).bind decided
    | _, _ => .bad "equal symbols"
  | _ => .bad "equal symbols"
def eqA (P : Program) (st : St) (n : Nat) : TypeId → AV → AV → Rs Bool := match n with
  | 0 => fun _ _ _ => .bad "equal depth"
  | n + 1 => fun t x y => match P.underlying t with
    | none => .bad "equal type"
    | some d => match isSym x || isSym y with
     | true => eqSym st d x y
     | false => match x, y with
      | .bool a, .bool b => match d with
        | .bool => .ok (a == b)
        | _ => .bad "equal bool"
      | .int k a, .int k' b => match d with
        | .int _ => if k = k' then .ok (a == b) else .bad "equal kinds"
        | _ => .bad "equal int"
      | .flt k a, .flt k' b => match d with
        | .float _ => if k = k' then .ok (Op.floatEq k a b) else .bad "equal kinds"
        | _ => .bad "equal float"
      | .str a, .str b => match d with
        | .string => .ok (eqBytes a b)
        | _ => .bad "equal string"
      | .nilp, .nilp => match d with
        | .pointer _ => .ok true
        | _ => .bad "equal pointer"
      | .nilp, .ptr _ _ => match d with
        | .pointer _ => .ok false
        | _ => .bad "equal pointer"
      | .ptr _ _, .nilp => match d with
        | .pointer _ => .ok false
        | _ => .bad "equal pointer"
      | .ptr i a, .ptr j b => match d with
        | .pointer e => eqPtr P st e i a j b
        | _ => .bad "equal pointer"
      | .nili, .nili => match d with
        | .interface _ => .ok true
        | _ => .bad "equal interface"
      | .nili, .iface _ _ => match d with
        | .interface _ => .ok false
        | _ => .bad "equal interface"
      | .iface _ _, .nili => match d with
        | .interface _ => .ok false
        | _ => .bad "equal interface"
      | .iface tx vx, .iface ty vy => match d with
        | .interface _ => match Nat.beq tx ty with
          | false => .ok false
          | true => match canCompare P tx with
            | true => eqA P st n tx vx vy
            | false => .bad "equal not comparable"
        | _ => .bad "equal interface"
      | .agg xs, .agg ys => match d with
        | .struct _ => match eqFieldsOf P t with
          | some l => eqAll (eqA P st n) P xs ys l
          | none => .bad "equal struct"
        | _ => .bad "equal aggregate"
      | .nilsl, .nilsl => match d with
        | .slice _ => .ok true
        | _ => .bad "equal slice"
      | .nilsl, .sl _ _ _ _ => match d with
        | .slice _ => .ok false
        | _ => .bad "equal slice"
      | .sl _ _ _ _, .nilsl => match d with
        | .slice _ => .ok false
        | _ => .bad "equal slice"
      | .nilmap, .nilmap => match d with
        | .map _ _ => .ok true
        | _ => .bad "equal map"
      | .nilmap, .map _ => match d with
        | .map _ _ => .ok false
        | _ => .bad "equal map"
      | .map _, .nilmap => match d with
        | .map _ _ => .ok false
        | _ => .bad "equal map"
      | .nilfn, .nilfn => match d with
        | .func _ _ _ => .ok true
        | _ => .bad "equal func"
      | .nilfn, .fn _ _ _ => match d with
        | .func _ _ _ => .ok false
        | _ => .bad "equal func"
      | .fn _ _ _, .nilfn => match d with
        | .func _ _ _ => .ok false
        | _ => .bad "equal func"
      | _, _ => .bad "equal operands"
def isConst (x : Operand) : Bool := match x with
  | .const _ => true
  | _ => false
/-- What the model asks ahead of '==': whether it lets the operands by. -/
def eqLets (P : Program) (t : TypeId) (x y : Operand) (a b : AV) : Bool := match a, b with
  | .nili, .nili => match isConst x, isConst y with
    | false, false => match P.underlying t with
      | some (.interface ms) => ms.isEmpty
      | _ => false
    | _, _ => true
  | .agg _, .agg _ => !P.eqGuardType P.depth t
  | .top, _ => false
  | .any, _ => false
  | _, .top => false
  | _, .any => false
  | _, _ => true
def scal (P : Program) (s : Sem Value) : Rs AV := match seval P s with
  | some v => Rs.of "scalar" (AV.of0 v)
  | none => .bad "scalar step"
def binA (P : Program) (st : St) (op : BinOp) (t : TypeId) (x y : Operand) (a b : AV) : Rs AV := match isSym a || isSym b with
  | true => symBin st op a b
  | false => match a, b with
  | .str s, .str u => strOp op s u
  | .int k m, .int k' m' => scal P (Go.binOp op t (.int k m) (.int k' m'))
  | .flt k m, .flt k' m' => scal P (Go.binOp op t (.float k m) (.float k' m'))
  | a, b => match op with
    | .eql => match eqLets P t x y a b with
      | true => (eqA P st 100 t a b).bind fun e => .ok (.bool e)
      | false => .bad "equal not let by"
    | .neq => match eqLets P t x y a b with
      | true => (eqA P st 100 t a b).bind fun e => .ok (.bool (!e))
      | false => .bad "equal not let by"
    | _ => .bad "operator"

/-- A struct's field: the type's size is not 0; the place. -/
def fieldAt (P : Program) (s : TypeId) (f : Nat) : Option (TypeId × Nat) := match P.underlying s with
  | some (.struct fs) => match fs.toList[f]? with
    | some x => some (x.type, x.offset)
    | none => none
  | _ => none
def fieldOff (P : Program) (s : TypeId) (f : Nat) : Option Nat := match fieldAt P s f with
  | some (t, o) => match tySize P t with
    | some (_ + 1) => some o
    | _ => none
  | none => none
def elemOf (P : Program) (t : TypeId) : Option (TypeId × Nat) := match P.underlying t with
  | some (.slice e) => match tySize P e with
    | some n => some (e, n)
    | none => none
  | _ => none
/-- The places of a composite's parts. -/
def placesOf (P : Program) (t : TypeId) : Option (List (Nat × Nat)) := match P.underlying t with
  | some (.struct fs) => fs.toList.mapM fun f => (tySize P f.type).map fun n => (f.offset, n)
  | _ => none
def over (l : List AV) (off : Nat) (v : List AV) : List AV := l.take off ++ v ++ l.drop (off + v.length)
def fillA (place : Nat → Option (Nat × Nat)) (parts : List (Nat × AV)) : List AV → Rs (List AV) := match parts with
  | [] => fun cs => .ok cs
  | p :: r => fun cs => match place p.1, p.2.cells with
    | some (off, size), some l => match Nat.beq l.length size, Nat.ble (Nat.add off l.length) cs.length with
      | true, true => fillA place r (over cs off l)
      | _, _ => .bad "build part"
    | _, _ => .bad "build place"
def buildA (P : Program) (t : TypeId) (parts : List (Nat × AV)) : Rs AV := match tyZero P t with
  | some (.agg z) => match P.underlying t with
    | some (.struct _) => match placesOf P t with
      | some pl => (fillA (fun i => pl[i]?) parts z).bind fun cs => .ok (.agg cs)
      | none => .bad "build struct"
    | some (.array _ e) => match tySize P e with
      | some n => (fillA (fun i => some (Nat.mul i n, n)) parts z).bind fun cs => .ok (.agg cs)
      | none => .bad "build array"
    | _ => .bad "build type"
  | _ => .bad "build zero"

def natOf (v : AV) : Option Nat := match v with
  | .int _ (.ofNat n) => some n
  | _ => none
/-- A slice of a slice. -/
def subslice (id off len size : Nat) (cap : Cap) (lo hi mx : Option Nat) : Rs AV := match cap with
  | .k c => match mx with
    | none => let h := hi.getD len; let l := lo.getD 0
      match Nat.ble h c, Nat.ble l h with
      | true, true => .ok (.sl id (match Nat.beq c l with | true => off | false => Nat.add off (Nat.mul l size)) (Nat.sub h l) (.k (Nat.sub c l)))
      | _, _ => .bad "slice bounds"
    | some m => match hi with
      | none => .bad "slice max without high"
      | some h => let l := lo.getD 0
        match Nat.ble m c, Nat.ble h m, Nat.ble l h with
        | true, true, true => .ok (.sl id (match Nat.beq m l with | true => off | false => Nat.add off (Nat.mul l size)) (Nat.sub h l) (.k (Nat.sub m l)))
        | _, _, _ => .bad "slice bounds"
  | .g e => match mx with
    | none => let h := hi.getD len; let l := lo.getD 0
      match Nat.ble h len, Nat.ble l h, Nat.beq e size with
      | true, true, true => .ok (.sl id (Nat.add off (Nat.mul l size)) (Nat.sub h l) (.g e))
      | _, _, _ => .bad "slice bounds"
    | some m => match hi with
      | none => .bad "slice max without high"
      | some h => let l := lo.getD 0
        match Nat.ble m len && Nat.blt 0 len, Nat.ble h m, Nat.ble l h with
        | true, true, true => .ok (.sl id (match Nat.beq m l with | true => off | false => Nat.add off (Nat.mul l size)) (Nat.sub h l) (.k (Nat.sub m l)))
        | _, _, _ => .bad "slice bounds"
def numOf (fr : Fr) (o : Option Operand) : Rs (Option Nat) := match o with
  | none => .ok none
  | some o => match natOf (fr.get o) with
    | some n => .ok (some n)
    | none => .bad "slice bound"
def sliceA (P : Program) (fr : Fr) (t : TypeId) (x : AV) (lo hi mx : Option Operand) : Rs AV :=
  (numOf fr lo).bind fun lo => (numOf fr hi).bind fun hi => (numOf fr mx).bind fun mx => match P.underlying t with
    | some .string => match x with
      | .str s => match mx with
        | none => let h := hi.getD s.length; let l := lo.getD 0
          match Nat.ble h s.length, Nat.ble l h with
          | true, true => .ok (.str ((s.drop l).take (Nat.sub h l)))
          | _, _ => .bad "slice string"
        | some _ => .bad "slice string"
      | _ => .bad "slice no string"
    | some (.slice e) => match tySize P e with
      | some size => match x with
        | .sl id off len cap => subslice id off len size cap lo hi mx
        | .nilsl => match lo.getD 0, hi.getD 0, mx with
          | 0, 0, none => .ok .nilsl
          | _, _, _ => .bad "slice nil"
        | _ => .bad "slice no slice"
      | none => .bad "slice size"
    | some (.array n e) => match tySize P e with
      | some size => match x with
        | .ptr id off => subslice id off n size (.k n) lo hi mx
        | _ => .bad "slice no array"
      | none => .bad "slice size"
    | _ => .bad "slice type"
def indexAddrA (P : Program) (t : TypeId) (x i : AV) : Rs AV := match natOf i with
  | none => .bad "index number"
  | some i => match P.underlying t with
    | some (.array n e) => match tySize P e, x with
      | some size, .ptr id off => match Nat.blt i n with
        | true => .ok (.ptr id (Nat.add off (Nat.mul i size)))
        | false => .bad "index arrays bounds"
      | _, _ => .bad "index array"
    | some (.slice e) => match tySize P e, x with
      | some size, .sl id off len _ => match Nat.blt i len with
        | true => .ok (.ptr id (Nat.add off (Nat.mul i size)))
        | false => .bad "index slices bounds"
      | _, _ => .bad "index slice"
    | _ => .bad "index type"
def indexA (P : Program) (t : TypeId) (x i : AV) : Rs AV := match natOf i with
  | none => .bad "index number"
  | some i => match P.underlying t, x with
    | some (.array n e), .agg cs => match tySize P e, Nat.blt i n with
      | some size, true => part P e cs (Nat.mul i size)
      | _, _ => .bad "index bounds"
    | some .string, .str s => match s[i]? with
      | some b => .ok (.int .u8 (Int.ofNat b.toNat))
      | none => .bad "index strings bounds"
    | _, _ => .bad "index operand"
def nonNeg (st : St) (e : SX) : Bool := match e with
  | .int (.ofNat _) => true
  | .len _ => true
  | .byte _ _ => true
  | e => holdsF st (leI (.int 0) e)
def indexS (P : Program) (st : St) (t : TypeId) (x i : AV) : Rs AV := match P.underlying t, symS x, symI i with
  | some .string, some s, some (_, e) => match nonNeg st e, holdsF st (.bin .lss .i64 e .i64 (.len s)) with
    | true, true => .ok (.ix .u8 (.byte s e))
    | _, _ => .bad "index symbol"
  | _, _, _ => .bad "index symbol operand"
def boundS (fr : Fr) (o : Option Operand) (d : SX) : Rs SX := match o with
  | none => .ok d
  | some o => match symI (fr.get o) with
    | some (_, e) => .ok e
    | none => .bad "slice bound"
def sliceS (P : Program) (st : St) (fr : Fr) (t : TypeId) (x : AV) (lo hi mx : Option Operand) : Rs AV := match P.underlying t, symS x, mx with
  | some .string, some s, none => (boundS fr lo (.int 0)).bind fun l => (boundS fr hi (.len s)).bind fun h => match nonNeg st l, leF st l h, leF st h (.len s) with
    | true, true, true => .ok (.sx (.cut s l h))
    | _, _, _ => .bad "slice symbol"
  | _, _, _ => .bad "slice symbol operand"
def symOpt (fr : Fr) (o : Option Operand) : Bool := match o with
  | none => false
  | some o => isSym (fr.get o)
/-- Where a key stands in a map. -/
def findA (P : Program) (st : St) (t : TypeId) (k : AV) (es : List (AV × AV)) : Nat → Rs (Option (Nat × AV × AV)) := match es with
  | [] => fun _ => .ok none
  | e :: r => fun i => (eqA P st 20 t k e.1).bind fun q => match q with
    | true => .ok (some (i, e))
    | false => findA P st t k r (Nat.succ i)
/-- A key that the model lets by, and of which '==' says the same as bits. -/
def checkFields (f : TypeId → AV → Bool) (P : Program) (cs : List AV) (l : List (TypeId × Nat)) : Bool := match l with
  | [] => true
  | p :: r => match part P p.1 cs p.2 with
    | .ok a => f p.1 a && checkFields f P cs r
    | .bad _ => false
def checkA (P : Program) (n : Nat) : TypeId → AV → Bool := match n with
  | 0 => fun _ _ => false
  | n + 1 => fun t a => match P.underlying t with
    | none => false
    | some d => match a with
      | .bool _ => match d with
        | .bool => true
        | _ => false
      | .int _ _ => match d with
        | .int _ => true
        | _ => false
      | .str _ => match d with
        | .string => true
        | _ => false
      | .agg cs => match d with
        | .struct fs => checkFields (checkA P n) P cs (eqFields fs.toList)
        | _ => false
      | _ => false
def plainCell (a : AV) : Bool := match a with
  | .bool _ => true
  | .int _ _ => true
  | .str _ => true
  | _ => false
def plainKey (a : AV) : Bool := match a with
  | .agg cs => cs.all plainCell
  | a => plainCell a
def mapKV (P : Program) (t : TypeId) : Option (TypeId × TypeId) := match P.underlying t with
  | some (.map k v) => some (k, v)
  | _ => none
def St.entries (st : St) (m : AV) : Rs (List (AV × AV)) := match m with
  | .nilmap => .ok []
  | .map id => match st.heap.get id with
    | some (.map _ es) => .ok es
    | _ => .bad "map block"
  | _ => .bad "map value"
def withOk (ok : Bool) (v : AV) : AV := match ok with
  | true => .tup [v, .bool true]
  | false => v
def zeroOr (P : Program) (vt : TypeId) (ok : Bool) : Rs AV := match tyZero P vt with
  | some z => .ok (match ok with | true => .tup [z, .bool false] | false => z)
  | none => .bad "lookup zero"
/-- No such key; all keys integers of one kind, each once. -/
def absentK (n : Int) (es : List (AV × AV)) : Bool := match es with
  | [] => true
  | e :: r => match e.1 with
    | .int _ m => match decide (n = m) with
      | true => false
      | false => absentK n r
    | _ => false
def distinctK (kk : IntKind) (es : List (AV × AV)) : Bool := match es with
  | [] => true
  | e :: r => match e.1 with
    | .int k n => match decide (k = kk) && absentK n r with
      | true => distinctK kk r
      | false => false
    | _ => false
def findK (n : Int) (es : List (AV × AV)) : Option AV := match es with
  | [] => none
  | e :: r => match e.1 with
    | .int _ m => match decide (n = m) with
      | true => some e.2
      | false => findK n r
    | _ => none
def msetOf (st : St) (m : AV) : Option (List (AV × AV)) := match m with
  | .map id => match st.heap.get id with
    | some (.mset es) => some es
    | _ => none
  | _ => none
/-- In a map of which the order is not known. -/
def lookM (P : Program) (kt vt : TypeId) (es : List (AV × AV)) (k : AV) (ok : Bool) : Rs AV := match k with
  | .int kk n => match P.underlying kt with
    | some (.int _) => match distinctK kk es with
      | true => match findK n es with
        | some v => .ok (withOk ok v)
        | none => zeroOr P vt ok
      | false => .bad "lookup keys"
    | _ => .bad "lookup key type"
  | _ => .bad "lookup key of another kind"
def lookupA (P : Program) (st : St) (t : TypeId) (m k : AV) (ok : Bool) : Rs AV := match mapKV P t with
  | none => .bad "lookup type"
  | some (kt, vt) => match checkA P 20 kt k with
    | false => .bad "lookup key"
    | true => match msetOf st m with
     | some es => lookM P kt vt es k ok
     | none => (st.entries m).bind fun es => (findA P st kt k es 0).bind fun r => match r with
      | some (_, e) => .ok (withOk ok e.2)
      | none => match tyZero P vt with
        | some z => .ok (match ok with | true => .tup [z, .bool false] | false => z)
        | none => .bad "lookup zero"
def assertNo (P : Program) (t : TypeId) (ok : Bool) : Rs AV := match ok with
  | true => match tyZero P t with
    | some z => .ok (.tup [z, .bool false])
    | none => .bad "assert zero"
  | false => .bad "assert panics"
def assertA (P : Program) (x : AV) (asserted : TypeId) (ok : Bool) : Rs AV := match x with
  | .nili => match P.underlying asserted with
    | some _ => assertNo P asserted ok
    | none => .bad "assert type"
  | .iface t v => match P.underlying asserted with
    | some (.interface want) => match P.info? t with
      | some i => match Instr.missingMethod want i.methods with
        | none => .ok (withOk ok (.iface t v))
        | some _ => assertNo P asserted ok
      | none => .bad "assert type"
    | some _ => match Nat.beq t asserted with
      | true => .ok (withOk ok v)
      | false => assertNo P asserted ok
    | none => .bad "assert type"
  | _ => .bad "assert operand"
/-- One whole variable of a type, at the head of a row of its own. -/
def St.wholeAt (P : Program) (st : St) (id : Nat) (u : TypeId) : Bool := match st.heap.get id, tySize P u with
  | some (.row cs n e _ cl _), some (k + 1) => match Nat.beq e u, cl, Nat.ble (Nat.succ k) n, cs.get k with
    | true, 0, true, some _ => true
    | _, _, _, _ => false
  | _, _ => false
def convA (P : Program) (st : St) (src dst : TypeId) (x : AV) : Rs AV := match x with
  | .ptr id off => match P.underlying src, P.underlying dst with
    | some (.pointer t), some .unsafePointer => match tySize P t, st.cell id off with
      | some (_ + 1), .ok _ => .ok (.ptr id off)
      | _, _ => .bad "convert to an raw pointer"
    | some .unsafePointer, some (.pointer u) => match off, st.wholeAt P id u with
      | 0, true => .ok (.ptr id 0)
      | _, _ => .bad "convert from an raw pointer"
    | _, _ => .bad "convert pointer"
  | .int k n => scal P (Go.convert src dst (.int k n))
  | .flt k b => scal P (Go.convert src dst (.float k b))
  | .str s => match P.underlying src, P.underlying dst with
    | some .string, some .string => .ok (.str s)
    | _, _ => .bad "convert string"
  | .sx e => match P.underlying src, P.underlying dst with
    | some .string, some .string => .ok (.sx e)
    | _, _ => .bad "convert string"
  | .ix _ e => match P.underlying src, P.underlying dst with
    | some (.int _), some (.int k) => .ok (.ix k (.conv k e))
    | _, _ => .bad "convert symbol"
  | _ => .bad "convert"
def minMaxA (P : Program) (isMin : Bool) (l : List AV) : Rs AV := match l with
  | [.int k a, .int k' b] => match isMin with
    | true => scal P (Builtin.min_ #[] 0 #[.int k a, .int k' b])
    | false => scal P (Builtin.max_ #[] 0 #[.int k a, .int k' b])
  | _ => .bad "min max"
def lenA (P : Program) (st : St) (t : TypeId) (x : AV) : Rs AV := match P.underlying t, x with
  | some .string, .str s => .ok (.int .i64 (Int.ofNat s.length))
  | some .string, .sx e => .ok (.ix .i64 (.len e))
  | some (.array n _), _ => .ok (.int .i64 (Int.ofNat n))
  | some (.slice _), .sl _ _ n _ => .ok (.int .i64 (Int.ofNat n))
  | some (.slice _), .nilsl => .ok (.int .i64 0)
  | some (.map _ _), .nilmap => .ok (.int .i64 0)
  | some (.map _ _), .map id => match st.heap.get id with
    | some (.map _ es) => .ok (.int .i64 (Int.ofNat es.length))
    | some (.mset es) => .ok (.int .i64 (Int.ofNat es.length))
    | _ => .bad "len map"
  | some (.pointer a), _ => match P.underlying a with
    | some (.array n _) => .ok (.int .i64 (Int.ofNat n))
    | _ => .bad "len pointer"
  | _, _ => .bad "len"
def capA (P : Program) (t : TypeId) (x : AV) : Rs AV := match P.underlying t, x with
  | some (.slice _), .sl _ _ _ (.k c) => .ok (.int .i64 (Int.ofNat c))
  | some (.slice _), .nilsl => .ok (.int .i64 0)
  | some (.array n _), _ => .ok (.int .i64 (Int.ofNat n))
  | _, _ => .bad "cap"
def pureBuiltin (P : Program) (fr : Fr) (st : St) (b : Builtin) (args : List Operand) (ts : List TypeId) : Rs AV := match b, fr.all args, ts with
  | .len, [x], t :: _ => lenA P st t x
  | .cap, [x], t :: _ => capA P t x
  | .min, l, _ => minMaxA P true l
  | .max, l, _ => minMaxA P false l
  | .unsafeSliceData, [.sl id off _ (.k (_ + 1))], _ => .ok (.ptr id off)
  | .unsafeSliceData, [.sl id off (_ + 1) _], _ => .ok (.ptr id off)
  | .unsafeSliceData, [.nilsl], _ => .ok .nilp
  | _, _, _ => .bad "builtin"
def parts (fr : Fr) (l : List (Nat × Operand)) : List (Nat × AV) := l.map fun p => (p.1, fr.get p.2)
/-- An operation that writes nothing and makes nothing. -/
def pureA (P : Program) (fr : Fr) (st : St) (o : Op) : Rs AV := match o with
  | .move x => .ok (fr.get x)
  | .pick c a b => match fr.get c with
    | .bool true => .ok (fr.get a)
    | .bool false => .ok (fr.get b)
    | _ => .bad "pick"
  | .build t ps => buildA P t (parts fr ps.toList)
  | .load t a => match fr.get a with
    | .ptr id off => loadVar P st t id off
    | _ => .bad "load address"
  | .nilCheck x => match fr.get x with
    | .ptr id off => .ok (.ptr id off)
    | .fn f a c => .ok (.fn f a c)
    | .iface t v => .ok (.iface t v)
    | _ => .bad "nilCheck"
  | .binOp op t x y _ => binA P st op t x y (fr.get x) (fr.get y)
  | .unOp op _ x => match fr.get x with
    | .bool b => scal P (Op.unary op (.bool b))
    | .int k n => scal P (Op.unary op (.int k n))
    | .flt k b => scal P (Op.unary op (.float k b))
    | .bx e => match op with
      | .not => .ok (tst st (.not e))
      | _ => .bad "unary"
    | _ => .bad "unary"
  | .convert s d x => convA P st s d (fr.get x)
  | .makeInterface t x => match P.underlying t with
    | some (.interface _) => .bad "makeInterface"
    | some _ => match fr.get x with
      | .top => .bad "makeInterface value"
      | v => .ok (.iface t v)
    | none => .bad "makeInterface type"
  | .makeFunc f first cap => match f with
    | .func f => .ok (.fn f (fr.all first.toList) (fr.all cap.toList))
    | _ => .bad "makeFunc"
  | .slice t x lo hi mx => match isSym (fr.get x) || (symOpt fr lo || symOpt fr hi) with
    | true => sliceS P st fr t (fr.get x) lo hi mx
    | false => sliceA P fr t (fr.get x) lo hi mx
  | .fieldAddr s x f => match fr.get x, fieldOff P s f with
    | .ptr id off, some o => .ok (.ptr id (Nat.add off o))
    | _, _ => .bad "fieldAddr"
  | .field s x f => match fr.get x, fieldAt P s f with
    | .agg cs, some (t, o) => part P t cs o
    | _, _ => .bad "field"
  | .indexAddr t x i => indexAddrA P t (fr.get x) (fr.get i)
  | .index t x i => match isSym (fr.get x) || isSym (fr.get i) with
    | true => indexS P st t (fr.get x) (fr.get i)
    | false => indexA P t (fr.get x) (fr.get i)
  | .lookup t m k ok => lookupA P st t (fr.get m) (fr.get k) ok
  | .typeAssert x _ t ok => assertA P (fr.get x) t ok
  | .extract t i => match fr.get t with
    | .tup vs => Rs.of "extract" vs[i]?
    | _ => .bad "extract tuple"
  | .call c => match c.callee with
    | .builtin b => pureBuiltin P fr st b c.args.toList c.argTypes.toList
    | _ => .bad "call"
  | _ => .bad "pure"
/-- The row that an operation makes, and what it answers at a number. -/
def mkRow (l : List AV) (e : TypeId) : Ob := .row (PT.lay l 0 .nil) l.length e 0 0 0
def rep (n : Nat) (z : List AV) : List AV := match n with
  | 0 => []
  | n + 1 => z ++ rep n z
def AV.oneAll (l : List AV) : Bool := l.all AV.one
def allocA (P : Program) (fr : Fr) (o : Op) : Rs (Ob × (Nat → AV)) := match o with
  | .alloc e => match tyZero P e with
    | some z => match z.cells with
      | some l => .ok (mkRow l e, fun id => .ptr id 0)
      | none => .bad "alloc cells"
    | none => .bad "alloc zero"
  | .box e x => match (fr.get x).cells with
    | some l => match AV.oneAll l with
      | true => .ok (mkRow l e, fun id => .ptr id 0)
      | false => .bad "box cells"
    | none => .bad "box"
  | .buildSlice t len ps => match elemOf P t with
    | some (e, size) => match Nat.ble (Nat.mul len size) 16777216, tyZero P e with
      | true, some z => match z.cells with
        | some zl => match Nat.beq zl.length size with
          | true => (fillA (fun i => some (Nat.mul i size, size)) (parts fr ps.toList) (rep len zl)).bind fun l => match AV.oneAll l with
            | true => .ok (mkRow l e, fun id => .sl id 0 len (.k len))
            | false => .bad "buildSlice cells"
          | false => .bad "buildSlice size"
        | none => .bad "buildSlice zero"
      | _, _ => .bad "buildSlice"
    | none => .bad "buildSlice type"
  | .makeSlice t l c => match elemOf P t, natOf (fr.get l), natOf (fr.get c) with
    | some (e, size), some l, some c => match tyZero P e, tyBytes P e with
      | some z, some bytes => match z.cells with
        | some zl => match Nat.beq zl.length size, Nat.ble l c, Nat.ble c 1000000, Nat.ble bytes 1000000 with
          | true, true, true, true => .ok (mkRow (rep c zl) e, fun id => .sl id 0 l (.k c))
          | _, _, _, _ => .bad "makeSlice sizes"
        | none => .bad "makeSlice zero"
      | _, _ => .bad "makeSlice zero value"
    | _, _, _ => .bad "makeSlice"
  | _ => .bad "alloc"
inductive Kind where
  | pure | alloc | loud
def pureBuiltins (b : Builtin) : Bool := match b with
  | .len => true
  | .cap => true
  | .min => true
  | .max => true
  | .unsafeSliceData => true
  | _ => false
def bytesOrRunes (P : Program) (t : TypeId) : Bool := match P.underlying t with
  | some (.slice _) => true
  | _ => false
def kindOf (P : Program) (o : Op) : Kind := match o with
  | .move _ => .pure | .pick _ _ _ => .pure | .build _ _ => .pure | .load _ _ => .pure | .nilCheck _ => .pure | .binOp _ _ _ _ _ => .pure | .unOp _ _ _ => .pure
  | .convert s d _ => match bytesOrRunes P s || bytesOrRunes P d with
    | true => .loud
    | false => .pure
  | .makeInterface _ _ => .pure | .makeFunc _ _ _ => .pure | .slice _ _ _ _ _ => .pure | .fieldAddr _ _ _ => .pure | .field _ _ _ => .pure | .indexAddr _ _ _ => .pure
  | .index _ _ _ => .pure | .lookup _ _ _ _ => .pure | .typeAssert _ _ _ _ => .pure | .extract _ _ => .pure
  | .call c => match c.callee with
    | .builtin b => match pureBuiltins b with
      | true => .pure
      | false => .loud
    | _ => .loud
  | .alloc _ => .alloc | .box _ _ => .alloc | .buildSlice _ _ _ => .alloc | .makeSlice _ _ _ => .alloc
  | _ => .loud

/-- What a loud operation comes to. -/
inductive Out where
  | val (v : AV) (st : St)
  | skip (st : St)
  | later (d : FuncId × List AV)
  | enter (f : FuncId) (args : List AV)
  | panic (v : AV)
/-- The first cells of what is appended or copied. -/
def firstA (st : St) (size n : Nat) (x : AV) : Rs (List AV) := match x with
  | .sl id off _ _ => st.loads id (Nat.mul n size) off
  | .nilsl => match n with
    | 0 => .ok []
    | _ => .bad "first cells none"
  | .str s => match Nat.beq size 1 with
    | true => .ok ((s.take n).map fun b => .int .u8 (Int.ofNat b.toNat))
    | false => .bad "first cells size"
  | _ => .bad "first cells"
def lenOfA (x : AV) : Option Nat := match x with
  | .sl _ _ n _ => some n
  | .nilsl => some 0
  | .str s => some s.length
  | _ => none
/-- A new row behind an append whose capacity is open: the cells that are known; a class of its own. -/
def St.grown (st : St) (cs : PT AV) (k : Nat) (e : TypeId) (size n : Nat) : AV × St :=
  (.sl st.next 0 n (.g size), { st with heap := st.heap.set st.next (.row cs k e 0 (Nat.succ st.next) 0), next := Nat.succ st.next, cls := st.cls.set (Nat.succ st.next) (k, [st.next]) })
/-- The zero of an element has as many cells as it should. -/
def zeroOk (P : Program) (e size : Nat) : Bool := match tyZero P e with
  | some z => match z.cells with
    | some l => Nat.beq l.length size
    | none => false
  | none => false
/-- What 'append' and 'make' leave out of a type that is none of theirs. -/
def notInt (P : Program) (xt : Option TypeId) : Bool := match xt with
  | some u => match P.underlying u with
    | some (.int _) => false
    | some _ => true
    | none => false
  | none => true
/-- The cells are known: so there is room. -/
def inPlace (ro : Nat) (st : St) (id off len size sz : Nat) (new : List AV) : Option St := match Nat.beq sz size, new with
  | true, _ :: _ => match st.stores ro id (Nat.add off (Nat.mul len size)) new with
    | .ok st' => some st'
    | .bad _ => none
  | _, _ => none
def appendA (P : Program) (ro : Nat) (st : St) (t : TypeId) (xt : Option TypeId) (s x : AV) : Rs (AV × St) := match elemOf P t with
  | none => .bad "append type"
  | some (e, size) => match notInt P xt, tyBytes P e, lenOfA x with
    | true, some bytes, some n => match Nat.blt 0 bytes && zeroOk P e size, Nat.ble bytes 100000 with
      | true, true => (firstA st size n x).bind fun new => match AV.oneAll new with
        | false => .bad "append cells"
        | true => match s with
          | .nilsl => match n with
            | 0 => .ok (.nilsl, st)
            | _ => match Nat.ble n 100000 with
              | true => .ok (st.grown (PT.lay new 0 .nil) (Nat.mul n size) e size n)
              | false => .bad "append too long"
          | .sl id off len cap => match Nat.ble (Nat.add len n) 100000, n with
            | false, _ => .bad "append too long"
            | true, 0 => .ok (.sl id off len cap, st)
            | true, _ => match cap with
              | .k c => match Nat.ble (Nat.add len n) c with
                | true => (st.stores ro id (Nat.add off (Nat.mul len size)) new).bind fun st' => .ok (.sl id off (Nat.add len n) (.k c), st')
                | false => (firstA st size len s).bind fun old => .ok (st.grown (PT.lay new (Nat.mul len size) (PT.lay old 0 .nil)) (Nat.mul (Nat.add len n) size) e size (Nat.add len n))
              | .g sz => match inPlace ro st id off len size sz new with
               | some st' => .ok (.sl id off (Nat.add len n) (.g sz), st')
               | none => match Nat.beq sz size, Nat.blt id ro, st.heap.get id with
                | true, false, some (.row cs k e' 0 cl rel) => match Nat.beq e' e, cl, st.cls.get cl with
                  | true, _ + 1, some m =>
                    -- it may lie where it lay: nobody may hold cells behind it
                    let p := Nat.add (Nat.add rel off) (Nat.mul len size)
                    match Nat.ble m.1 p, Nat.ble (Nat.add rel k) m.1 with
                    | true, true => match off with
                      | 0 => .ok (.sl st.next 0 (Nat.add len n) (.g size), { st with heap := st.heap.set st.next (.row (PT.lay new (Nat.mul len size) cs) (Nat.mul (Nat.add len n) size) e 0 cl rel), next := Nat.succ st.next, cls := st.cls.set cl (Nat.add p (Nat.mul n size), st.next :: m.2) })
                      | _ => (firstA st size len s).bind fun old => .ok (.sl st.next 0 (Nat.add len n) (.g size), { st with heap := st.heap.set st.next (.row (PT.lay new (Nat.mul len size) (PT.lay old 0 .nil)) (Nat.mul (Nat.add len n) size) e 0 cl (Nat.add rel off)), next := Nat.succ st.next, cls := st.cls.set cl (Nat.add p (Nat.mul n size), st.next :: m.2) })
                    | _, _ => .bad "append others hold cells there"
                  | _, _, _ => .bad "append class"
                | _, _, _ => .bad "append row"
          | _ => .bad "append slice"
      | _, _ => .bad "append bytes"
    | _, _, _ => .bad "append operands"
/-- Equality of values, as far as so many levels. -/
def eqAVs (f : AV → AV → Bool) (a : List AV) : List AV → Bool := match a with
  | [] => fun b => match b with
    | [] => true
    | _ => false
  | x :: r => fun b => match b with
    | [] => false
    | y :: s => match f x y with
      | true => eqAVs f r s
      | false => false
def eqCap (a b : Cap) : Bool := match a, b with
  | .k n, .k m => Nat.beq n m
  | .g n, .g m => Nat.beq n m
  | _, _ => false
def AV.same (n : Nat) : AV → AV → Bool := match n with
  | 0 => fun _ _ => false
  | n + 1 => fun a b => match a, b with
    | .bool x, .bool y => x == y
    | .int k x, .int l y => decide (k = l) && decide (x = y)
    | .flt k x, .flt l y => decide (k = l) && Nat.beq x y
    | .str x, .str y => eqBytes x y
    | .nilp, .nilp => true
    | .ptr i x, .ptr j y => Nat.beq i j && Nat.beq x y
    | .nilsl, .nilsl => true
    | .sl i x l c, .sl j y m d => Nat.beq i j && Nat.beq x y && Nat.beq l m && eqCap c d
    | .nilmap, .nilmap => true
    | .map i, .map j => Nat.beq i j
    | .fn f x y, .fn g u v => Nat.beq f g && eqAVs (AV.same n) x u && eqAVs (AV.same n) y v
    | .nilfn, .nilfn => true
    | .iface t x, .iface u y => Nat.beq t u && AV.same n x y
    | .nili, .nili => true
    | .agg x, .agg y => eqAVs (AV.same n) x y
    | .tup x, .tup y => eqAVs (AV.same n) x y
    | .any, .any => true
    | .top, .top => true
    | .ix k x, .ix l y => decide (k = l) && eqSX x y
    | .bx x, .bx y => eqSX x y
    | .sx x, .sx y => eqSX x y
    | _, _ => false
/-- A map's entry put. -/
def setNth (es : List (AV × AV)) (k v : AV) : Nat → List (AV × AV) := match es with
  | [] => fun _ => []
  | e :: r => fun i => match i with
    | 0 => (k, v) :: r
    | i + 1 => e :: setNth r k v i
def delNth (es : List (AV × AV)) : Nat → List (AV × AV) := match es with
  | [] => fun _ => []
  | e :: r => fun i => match i with
    | 0 => r
    | i + 1 => e :: delNth r i
def updateA (P : Program) (ro : Nat) (st : St) (t : TypeId) (m k v : AV) : Rs St := match mapKV P t, m with
  | some (kt, _), .map id => match st.heap.get id, checkA P 20 kt k && plainKey k, Nat.blt id ro with
    | some (.map pr es), true, false => (findA P st kt k es 0).bind fun r => match r with
      | some (i, e) => match AV.same 20 k e.1 with
        | true => .ok { st with heap := st.heap.set id (.map pr (setNth es k v i)) }
        | false => .bad "update a key that is equal and another"
      | none => .ok { st with heap := st.heap.set id (.map pr (es ++ [(k, v)])) }
    | _, _, _ => .bad "update map"
  | _, _ => .bad "update"
def deleteA (P : Program) (ro : Nat) (st : St) (t : TypeId) (m k : AV) : Rs St := match mapKV P t, m with
  | some (kt, _), .nilmap => match checkA P 20 kt k with
    | true => .ok st
    | false => .bad "delete key"
  | some (kt, _), .map id => match st.heap.get id, checkA P 20 kt k, Nat.blt id ro with
    | some (.map _ es), true, false => (findA P st kt k es 0).bind fun r => match r with
      | some (i, _) => .ok { st with heap := st.heap.set id (.map false (delNth es i)) }
      | none => .ok st
    | _, _, _ => .bad "delete map"
  | _, _ => .bad "delete"
def minA (a b : Nat) : Nat := match Nat.ble a b with
  | true => a
  | false => b
def copyA (P : Program) (ro : Nat) (st : St) (t : TypeId) (d s : AV) : Rs (AV × St) := match elemOf P t, lenOfA d, lenOfA s with
  | some (_, size), some dn, some sn =>
    (firstA st size (minA sn dn) s).bind fun l => match AV.oneAll l with
      | false => .bad "copy cells"
      | true => match d with
        | .sl id off _ _ => (st.stores ro id off l).bind fun st' => .ok (.int .i64 (Int.ofNat (minA sn dn)), st')
        | .nilsl => .ok (.int .i64 (Int.ofNat (minA sn dn)), st)
        | _ => .bad "copy slice"
  | _, _, _ => .bad "copy"
/-- The bytes of cells. -/
def bytesOfA (l : List AV) : Rs (List UInt8) := match l with
  | [] => .ok []
  | v :: r => match v with
    | .int .u8 (.ofNat b) => match Nat.blt b 256 with
      | true => (bytesOfA r).bind fun s => .ok (UInt8.ofNat b :: s)
      | false => .bad "bytes range"
    | _ => .bad "bytes cell"
def decodeA (s : List UInt8) (i : Nat) : Nat × Nat := match s[i]? with
  | some b => match Nat.blt b.toNat 128 with
    | true => (b.toNat, 1)
    | false => Utf8.decode ⟨⟨s⟩⟩ i
  | none => Utf8.decode ⟨⟨s⟩⟩ i
def methodA (P : Program) (t : TypeId) (name : String) : Option FuncId := match P.info? t with
  | some i => match i.methods.find? (fun m => m.name == name) with
    | some m => match m.path.isEmpty, m.func, P.underlying t with
      | true, some (f, true), some (.pointer _) => some f
      | true, some (_, false), some (.pointer _) => none
      | true, some (f, false), some _ => some f
      | _, _, _ => none
    | none => none
  | none => none
def loudBuiltin (P : Program) (ro : Nat) (fr : Fr) (st : St) (b : Builtin) (args : List Operand) (ts : List TypeId) : Rs Out := match b, fr.all args with
  | .append, [s, x] => match ts with
    | t :: r => (appendA P ro st t r.head? s x).bind fun p => .ok (.val p.1 p.2)
    | [] => .bad "append types"
  | .copy, [d, s] => match ts with
    | t :: _ => (copyA P ro st t d s).bind fun p => .ok (.val p.1 p.2)
    | [] => .bad "copy types"
  | .delete, [m, k] => match ts with
    | t :: _ => (deleteA P ro st t m k).bind fun st' => .ok (.val (.tup []) st')
    | [] => .bad "delete types"
  | .panic, [v] => match v with
    | .iface t x => .ok (.panic (.iface t x))
    | _ => .bad "panic"
  | .unsafeString, [p, n] => match ts with
    | pt :: _ => match P.underlying pt, natOf n with
      | some (.pointer _), some 0 => match p with
        | .ptr _ _ => .ok (.val (.str []) st)
        | .nilp => .ok (.val (.str []) st)
        | _ => .bad "raw.String"
      | some (.pointer u), some (n + 1) => match p, Nat.ble n 1000000, tySize P u with
        | .ptr id off, true, some 1 => match st.heap.get id with
          | some (.row cs k e _ cl rel) => match Nat.beq e u, Nat.blt id ro with
            | true, false => (st.loads id (Nat.succ n) off).bind fun l => (bytesOfA l).bind fun s => (st.change id cs k e 2 cl rel).bind fun st' => .ok (.val (.str s) st')
            | _, _ => .bad "raw.String not its own"
          | _ => .bad "raw.String block"
        | _, _, _ => .bad "raw.String pointer"
      | _, _ => .bad "raw.String types"
    | [] => .bad "raw.String no types"
  | _, _ => .bad "builtin"
def callFn (v : AV) (args : List AV) : Rs Out := match v with
  | .fn f first cap => .ok (.enter f (first ++ args ++ cap))
  | _ => .bad "call function value"
/-- What is left of a map: places and entries. -/
def leftM (seen : List Nat) (es : List (AV × AV)) : Nat → List (Nat × AV × AV) := match es with
  | [] => fun _ => []
  | e :: r => fun i => match seen.contains i with
    | true => leftM seen r (Nat.succ i)
    | false => (i, e.1, e.2) :: leftM seen r (Nat.succ i)
/-- What goes through a map that stands as it stood: the map, its size, what has come, what is left. -/
def iterM (ro : Nat) (st : St) (id : Nat) : Option (Nat × Nat × List Nat × List (Nat × AV × AV)) := match st.heap.get id, Nat.blt id ro with
  | some (.miter m s seen), false => match st.heap.get m with
    | some (.map true es) => match Nat.beq es.length s with
      | true => some (m, s, seen, leftM seen es 0)
      | false => none
    | _ => none
  | _, _ => none
def takeM (st : St) (id m s : Nat) (seen : List Nat) (p : Nat × AV × AV) : AV × St :=
  (.tup [.bool true, p.2.1, p.2.2], { st with heap := st.heap.set id (.miter m s (seen ++ [p.1])) })
def nextM (ro : Nat) (st : St) (id : Nat) : Rs Out := match iterM ro st id with
  | some (m, s, seen, l) => match l with
    | [] => .ok (.val (.tup [.bool false]) st)
    | [p] => match takeM st id m s seen p with
      | (v, st') => .ok (.val v st')
    | _ => .bad "next which"
  | none => .bad "next of a map"
def entryM (st : St) (id : Nat) : Rs Out := match st.heap.get id with
  | some (.miter m s seen) => match st.heap.get m with
    | some (.map true es) => match Nat.beq es.length s, seen.getLast? with
      | true, some i => match es[i]? with
        | some e => .ok (.val (.tup [e.1, e.2]) st)
        | none => .bad "entry place"
      | _, _ => .bad "entry step"
    | _ => .bad "entry map"
  | _ => .bad "entry block"
def loudA (P : Program) (ro : Nat) (fr : Fr) (st : St) (o : Op) : Rs Out := match o with
  | .assign x => .ok (.val (fr.get x) st)
  | .store t a x => match fr.get a with
    | .ptr id off => (storeVar P ro st t id off (fr.get x)).bind fun st' => .ok (.skip st')
    | _ => .bad "store address"
  | .mapUpdate t m k x => (updateA P ro st t (fr.get m) (fr.get k) (fr.get x)).bind fun st' => .ok (.skip st')
  | .insert t m k x => (updateA P ro st t (fr.get m) (fr.get k) (fr.get x)).bind fun st' => .ok (.skip st')
  | .makeMap _ r => match r with
    | none => .ok (.val (.map st.next) (st.new (.map true [])))
    | some _ => .bad "makeMap size"
  | .range t x => match P.underlying t, fr.get x with
    | some .string, .str s => .ok (.val (.ptr st.next 0) (st.new (.iter s 0)))
    | some (.map _ _), .map id => match st.heap.get id with
      | some (.map true es) => .ok (.val (.ptr st.next 0) (st.new (.miter id es.length [])))
      | _ => .bad "range map"
    | _, _ => .bad "range"
  | .next it isString => match isString, fr.get it with
    | true, .ptr id 0 => match st.heap.get id, Nat.blt id ro with
      | some (.iter s pos), false => match Nat.blt pos s.length with
        | true => match decodeA s pos with
          | (c, w) => .ok (.val (.tup [.bool true, .int .i64 (Int.ofNat pos), .int .i32 (Int.ofNat c)]) { st with heap := st.heap.set id (.iter s (Nat.add pos w)) })
        | false => .ok (.val (.tup [.bool false]) st)
      | _, _ => .bad "next block"
    | false, .ptr id 0 => nextM ro st id
    | _, _ => .bad "next"
  | .entry it => match fr.get it with
    | .ptr id 0 => entryM st id
    | _ => .bad "entry"
  | .convert s d x => match P.underlying s, P.underlying d, fr.get x with
    | some (.slice e), some .string, v => match P.underlying e with
      | some (.int .u8) => match v with
        | .nilsl => .ok (.val (.str []) st)
        | .sl id off len _ => (st.loads id len off).bind fun l => (bytesOfA l).bind fun b => .ok (.val (.str b) st)
        | _ => .bad "convert bytes"
      | _ => .bad "convert slice of what"
    | some .string, some (.slice e), .str b => match P.underlying e with
      | some (.int .u8) => match Nat.ble b.length 100000 with
        | true => .ok (.val (.sl st.next 0 b.length (.g 1)) { st with heap := st.heap.set st.next (.row (PT.lay (b.map fun x => .int .u8 (Int.ofNat x.toNat)) 0 .nil) b.length e 1 (Nat.succ st.next) 0), next := Nat.succ st.next, cls := st.cls.set (Nat.succ st.next) (b.length, [st.next]) })
        | false => .bad "convert long"
      | _ => .bad "convert to a slice of what"
    | _, _, _ => .bad "convert loud"
  | .panic x => match fr.get x with
    | .iface t v => .ok (.panic (.iface t v))
    | _ => .bad "panic"
  | .defer c => match c.callee with
    | .value f => match fr.get f with
      | .fn f first cap => .ok (.later (f, first ++ fr.all c.args.toList ++ cap))
      | _ => .bad "defer value"
    | _ => .bad "defer"
  | .call c => match c.callee with
    | .value f => callFn (fr.get f) (fr.all c.args.toList)
    | .invoke x name => match fr.get x with
      | .iface t v => match methodA P t name with
        | some f => .ok (.enter f (v :: fr.all c.args.toList))
        | none => .bad "invoke method"
      | _ => .bad "invoke"
    | .builtin b => loudBuiltin P ro fr st b c.args.toList c.argTypes.toList
  | _ => .bad "loud"

/-- One operation. -/
def stepS (P : Program) (ro : Nat) (fr : Fr) (st : St) (o : Op) : Rs Out := match kindOf P o with
  | .pure => (pureA P fr st o).bind fun v => .ok (.val v st)
  | .alloc => (allocA P fr o).bind fun p => .ok (.val (p.2 st.next) (st.new p.1))
  | .loud => loudA P ro fr st o
/- THE SAME, QUICKER: the commonest ones at once. -/
def ltI (a b : Int) : Bool := match a with
  | .ofNat m => match b with
    | .ofNat n => Nat.blt m n
    | .negSucc _ => false
  | .negSucc m => match b with
    | .ofNat _ => true
    | .negSucc n => Nat.blt n m
def eqI (a b : Int) : Bool := match a with
  | .ofNat m => match b with
    | .ofNat n => Nat.beq m n
    | .negSucc _ => false
  | .negSucc m => match b with
    | .ofNat _ => false
    | .negSucc n => Nat.beq m n
def cmpI (op : BinOp) (a b : Int) : Option Bool := match op with
  | .lss => some (ltI a b)
  | .gtr => some (ltI b a)
  | .geq => some (!ltI a b)
  | .leq => some (!ltI b a)
  | .eql => some (eqI a b)
  | .neq => some (!eqI a b)
  | _ => none
/-- Sums and differences of int that stay where they are. -/
def sumI (op : BinOp) (k : IntKind) (a b : Int) : Option Int := match k with
  | .i64 => match op with
    | .add => match a, b with
      | .ofNat m, .ofNat n => match Nat.blt (Nat.add m n) 9223372036854775808 with
        | true => some (.ofNat (Nat.add m n))
        | false => none
      | _, _ => none
    | .sub => match a, b with
      | .ofNat m, .ofNat n => match Nat.ble n m, Nat.blt m 9223372036854775808 with
        | true, true => some (.ofNat (Nat.sub m n))
        | _, _ => none
      | _, _ => none
    | _ => none
  | _ => none
def binK (P : Program) (st : St) (op : BinOp) (t : TypeId) (x y : Operand) (k : IntKind) (m : Int) (k' : IntKind) (n : Int) : Rs Out := match Nat.beq k.ctorIdx k'.ctorIdx with
  | true => match cmpI op m n with
    | some b => .ok (.val (.bool b) st)
    | none => match sumI op k m n with
      | some z => .ok (.val (.int k z) st)
      | none => (binA P st op t x y (.int k m) (.int k' n)).bind fun v => .ok (.val v st)
  | false => (binA P st op t x y (.int k m) (.int k' n)).bind fun v => .ok (.val v st)
def binF (P : Program) (st : St) (op : BinOp) (t : TypeId) (x y : Operand) (a b : AV) : Rs Out := match a with
  | .int k m => match b with
    | .int k' n => binK P st op t x y k m k' n
    | b => (binA P st op t x y (.int k m) b).bind fun v => .ok (.val v st)
  | a => (binA P st op t x y a b).bind fun v => .ok (.val v st)
def pickF (fr : Fr) (st : St) (c : AV) (a b : Operand) : Rs Out := match c with
  | .bool true => .ok (.val (fr.get a) st)
  | .bool false => .ok (.val (fr.get b) st)
  | _ => .bad "pick"
def loadF (P : Program) (st : St) (t : TypeId) (a : AV) : Rs Out := match a with
  | .ptr id off => (loadVar P st t id off).bind fun v => .ok (.val v st)
  | _ => .bad "load address"
def stepA (P : Program) (ro : Nat) (fr : Fr) (st : St) (o : Op) : Rs Out := match o with
  | .move x => .ok (.val (fr.get x) st)
  | .assign x => .ok (.val (fr.get x) st)
  | .binOp op t x y _ => binF P st op t x y (fr.get x) (fr.get y)
  | .pick c a b => pickF fr st (fr.get c) a b
  | .load t a => loadF P st t (fr.get a)
  | o => stepS P ro fr st o

/-- How a body, or a part of one, ends; how a call ends. A panic's chain: values, and whether they were recovered. -/
inductive Ex where
  | normal
  | exit (id : Nat)
  | goto (l : Nat)
  | ret
  | panic (chain : List (AV × Bool))
inductive En where
  | ret (v : AV)
  | panic (chain : List (AV × Bool))

def guardOn (all : List Oper) (fr : Fr) (g : Nat × Bool) : Option Bool := match all[g.1]? with
  | some p => match p.dst with
    | some d => match fr.t.get d with
      | some (.bool b) => some (b == g.2)
      | some (.tup []) => some false
      | _ => none
    | none => none
  | none => none
def guardA (all : List Oper) (fr : Fr) (o : Oper) : Option Bool := match o.guard with
  | none => some true
  | some g => guardOn all fr g
/-- One operation that is carried out, and what comes behind it. -/
def evGo (call : FuncId → List AV → St → Rs (En × St)) (P : Program) (ro : Nat) (o : Oper) (ih : Fr → St → Rs (Ex × Fr × St)) (fr : Fr) (st : St) : Rs (Ex × Fr × St) := match stepA P ro fr st o.op with
  | .bad w => .bad (w ++ " at " ++ o.pos)
  | .ok (.val v st') => (fr.put o.dst v).bind fun fr' => ih fr' st'
  | .ok (.skip st') => (fr.put o.dst (.tup [])).bind fun fr' => ih fr' st'
  | .ok (.later d) => ({ fr with ds := d :: fr.ds }.put o.dst (.tup [])).bind fun fr' => ih fr' st
  | .ok (.enter f args) => match call f args st with
    | .bad w => .bad (w ++ " in " ++ o.pos)
    | .ok (.ret v, st') => (fr.put o.dst v).bind fun fr' => ih fr' st'
    | .ok (.panic ch, st') => .ok (.panic ch, fr, st')
  | .ok (.panic v) => .ok (.panic [(v, false)], fr, st)
def evOne (call : FuncId → List AV → St → Rs (En × St)) (P : Program) (ro : Nat) (all : List Oper) (o : Oper) (ih : Fr → St → Rs (Ex × Fr × St)) (fr : Fr) (st : St) : Rs (Ex × Fr × St) := match guardA all fr o with
  | none => .bad "guard"
  | some false => (fr.put o.dst (.tup [])).bind fun fr' => ih fr' st
  | some true => evGo call P ro o ih fr st
/-- The operations of a region, in the order of its text. -/
def evOps (call : FuncId → List AV → St → Rs (En × St)) (P : Program) (ro : Nat) (all : List Oper) (l : List Oper) : Fr → St → Rs (Ex × Fr × St) :=
  List.rec (motive := fun _ => Fr → St → Rs (Ex × Fr × St)) (fun fr st => .ok (.normal, fr, st)) (fun o _ ih => evOne call P ro all o ih) l

/-- Equality of rows that were made by one operation. -/
def eqPT (t : PT AV) : PT AV → Bool := match t with
  | .nil => fun u => match u with
    | .nil => true
    | _ => false
  | .node l v r => fun u => match u with
    | .nil => false
    | .node l' v' r' => (match v, v' with
      | none, none => true
      | some a, some b => AV.same 20 a b
      | _, _ => false) && eqPT l l' && eqPT r r'
def eqOb (a b : Ob) : Bool := match a, b with
  | .row cs n e fz cl rel, .row cs' n' e' fz' cl' rel' => eqPT cs cs' && Nat.beq n n' && Nat.beq e e' && Nat.beq fz fz' && Nat.beq cl cl' && Nat.beq rel rel'
  | _, _ => false

/- A REGION WHOSE ORDER IS OPEN. Its operations are quiet (they write nothing) or loud. Each loud one must stand behind all loud ones ahead of it; a quiet one is reckoned as soon as what it hangs on is there, and is held to come to the same as long as it may still be waiting. -/
def edgeMask (l : List Edge) (m : PT Nat) : Nat → Rs Nat := match l with
  | [] => fun a => .ok a
  | e :: r => fun a => match Region.binds .any e with
    | false => edgeMask r m a
    | true => match m.get e.on with
      | some x => edgeMask r m (Nat.lor a (Nat.lor x (Nat.pow 2 e.on)))
      | none => .bad "region an edge forward"
def masksOf (l : List Oper) : Nat → PT Nat → Rs (PT Nat) := match l with
  | [] => fun _ m => .ok m
  | o :: r => fun i m => (edgeMask o.after.toList m 0).bind fun x => masksOf r (Nat.succ i) (m.set i x)
def bit (m i : Nat) : Bool := Nat.beq (Nat.mod (Nat.div m (Nat.pow 2 i)) 2) 1
def inside (a b : Nat) : Bool := Nat.beq (Nat.lor a b) b
def quietOp (P : Program) (o : Op) : Bool := match kindOf P o with
  | .loud => false
  | _ => true
def tmpsOf (l : List Operand) : List Nat := match l with
  | [] => []
  | .tmp t :: r => t :: tmpsOf r
  | _ :: r => tmpsOf r
def looksAtA (all : List Oper) (o : Oper) : List Nat := match o.guard with
  | none => tmpsOf o.op.operands.toList
  | some (j, _) => match all[j]? with
    | some p => match p.dst with
      | some d => d :: tmpsOf o.op.operands.toList
      | none => tmpsOf o.op.operands.toList
    | none => tmpsOf o.op.operands.toList
/-- Of one operation against all: who writes what it looks at, or where it writes. -/
def apartA (P : Program) (ms : PT Nat) (i : Nat) (q : Bool) (dst : Option Nat) (looks : List Nat) (l : List Oper) : Nat → Bool := match l with
  | [] => fun _ => true
  | o :: r => fun j => (match Nat.beq i j with
    | true => match o.dst with
      | some d => !looks.contains d
      | none => true
    | false => match o.dst with
      | none => true
      | some d => (match q, dst with
        | true, some d' => !Nat.beq d d'
        | _, _ => true) && (match looks.contains d with
        | false => true
        | true => match ms.get i, ms.get j with
          | some mi, some mj => bit mi j || (!quietOp P o.op && bit mj i)
          | _, _ => false)) && apartA P ms i q dst looks r (Nat.succ j)
def allApart (P : Program) (ms : PT Nat) (all : List Oper) (l : List Oper) : Nat → Bool := match l with
  | [] => fun _ => true
  | o :: r => fun i => apartA P ms i (quietOp P o.op) o.dst (looksAtA all o) all 0 && allApart P ms all r (Nat.succ i)
/-- Reckon what is quiet and hangs on nothing that is not there. -/
def settleA (P : Program) (ms : PT Nat) (all : List Oper) (l : List Oper) : Nat → Fr → St → Nat → List (Nat × Nat) → Rs (Fr × St × Nat × List (Nat × Nat)) := match l with
  | [] => fun _ fr st done al => .ok (fr, st, done, al)
  | o :: r => fun i fr st done al => match bit done i, ms.get i with
    | true, _ => settleA P ms all r (Nat.succ i) fr st done al
    | false, none => .bad "region mask"
    | false, some m => match inside m done, kindOf P o.op with
      | false, _ => settleA P ms all r (Nat.succ i) fr st done al
      | true, .loud => settleA P ms all r (Nat.succ i) fr st done al
      | true, .pure => match guardA all fr o with
        | none => .bad "region guard"
        | some false => (fr.put o.dst (.tup [])).bind fun fr => settleA P ms all r (Nat.succ i) fr st (Nat.lor done (Nat.pow 2 i)) al
        | some true => (match pureA P fr st o.op with | .ok v => Rs.ok v | .bad w => .bad (w ++ " at " ++ o.pos)).bind fun v => (fr.put o.dst v).bind fun fr => settleA P ms all r (Nat.succ i) fr st (Nat.lor done (Nat.pow 2 i)) al
      | true, .alloc => match guardA all fr o with
        | none => .bad "region guard"
        | some false => (fr.put o.dst (.tup [])).bind fun fr => settleA P ms all r (Nat.succ i) fr st (Nat.lor done (Nat.pow 2 i)) al
        | some true => (allocA P fr o.op).bind fun p => (fr.put o.dst (p.2 st.next)).bind fun fr => settleA P ms all r (Nat.succ i) fr (st.new p.1) (Nat.lor done (Nat.pow 2 i)) ((i, st.next) :: al)
def find2 (l : List (Nat × Nat)) (i : Nat) : Option Nat := match l with
  | [] => none
  | p :: r => match Nat.beq p.1 i with
    | true => some p.2
    | false => find2 r i
/-- What it would come to now is what it came to. -/
def chkOne (P : Program) (all : List Oper) (fr : Fr) (st : St) (al : List (Nat × Nat)) (i : Nat) (o : Oper) : Bool := match guardA all fr o with
  | none => false
  | some false => match o.dst with
    | none => true
    | some d => AV.same 20 (fr.get (.tmp d)) (.tup [])
  | some true => match kindOf P o.op with
    | .loud => true
    | .pure => match pureA P fr st o.op, o.dst with
      | .ok v, some d => AV.same 20 (fr.get (.tmp d)) v
      | .ok _, none => true
      | .bad _, _ => false
    | .alloc => match allocA P fr o.op, o.dst, find2 al i with
      | .ok p, some d, some id => match st.heap.get id with
        | some ob => AV.same 20 (fr.get (.tmp d)) (p.2 id) && eqOb ob p.1
        | none => false
      | _, _, _ => false
def chkAll (P : Program) (ms : PT Nat) (all : List Oper) (fr : Fr) (st : St) (al : List (Nat × Nat)) (done forced : Nat) (l : List Oper) : Nat → Bool := match l with
  | [] => fun _ => true
  | o :: r => fun i => match (match bit done i, quietOp P o.op with
    | true, true => match bit forced i with
      | true => true
      | false => chkOne P all fr st al i o
    | false, true => match ms.get i with
      | some m => !inside m done
      | none => false
    | _, false => true) with
    | true => chkAll P ms all fr st al done forced r (Nat.succ i)
    | false => false
/-- Every other loud one stands behind this one. -/
def othersAfter (P : Program) (ms : PT Nat) (done i : Nat) (l : List Oper) : Nat → Bool := match l with
  | [] => fun _ => true
  | o :: r => fun j => match (match bit done j, quietOp P o.op, Nat.beq i j with
    | false, false, false => match ms.get j with
      | some m => bit m i
      | none => false
    | _, _, _ => true) with
    | true => othersAfter P ms done i r (Nat.succ j)
    | false => false
def nextLoud (P : Program) (done : Nat) (l : List Oper) : Nat → Option (Nat × Oper) := match l with
  | [] => fun _ => none
  | o :: r => fun i => match bit done i, quietOp P o.op with
    | false, false => some (i, o)
    | _, _ => nextLoud P done r (Nat.succ i)
/-- Behind a panic in such a region: what it may have written is not told. -/
def blur (l : List Oper) (fr : Fr) : Fr := match l with
  | [] => fr
  | o :: r => match o.dst with
    | some d => blur r { fr with t := fr.t.set d .top }
    | none => blur r fr
def drawA (call : FuncId → List AV → St → Rs (En × St)) (P : Program) (ro : Nat) (ms : PT Nat) (all : List Oper) (n : Nat) : Fr → St → Nat → Nat → List (Nat × Nat) → Rs (Ex × Fr × St) := match n with
  | 0 => fun _ _ _ _ _ => .bad "region loud ones"
  | n + 1 => fun fr st done forced al => (settleA P ms all all 0 fr st done al).bind fun s => match s with
    | (fr, st, done, al) => match chkAll P ms all fr st al done forced all 0 with
      | false => .bad "region order"
      | true => match nextLoud P done all 0 with
        | none => .ok (.normal, fr, st)
        | some (i, o) => match ms.get i, othersAfter P ms done i all 0 with
          | some m, true => match guardA all fr o with
              | none => .bad "region guard"
              | some false => (fr.put o.dst (.tup [])).bind fun fr => drawA call P ro ms all n fr st (Nat.lor done (Nat.pow 2 i)) (Nat.lor forced (Nat.lor m (Nat.pow 2 i))) al
              | some true => match loudA P ro fr st o.op with
                | .bad w => .bad (w ++ " at " ++ o.pos)
                | .ok (.val v st) => (fr.put o.dst v).bind fun fr => drawA call P ro ms all n fr st (Nat.lor done (Nat.pow 2 i)) (Nat.lor forced (Nat.lor m (Nat.pow 2 i))) al
                | .ok (.skip st) => (fr.put o.dst (.tup [])).bind fun fr => drawA call P ro ms all n fr st (Nat.lor done (Nat.pow 2 i)) (Nat.lor forced (Nat.lor m (Nat.pow 2 i))) al
                | .ok (.enter f args) => match call f args st with
                  | .bad w => .bad (w ++ " in " ++ o.pos)
                  | .ok (.ret v, st) => (fr.put o.dst v).bind fun fr => drawA call P ro ms all n fr st (Nat.lor done (Nat.pow 2 i)) (Nat.lor forced (Nat.lor m (Nat.pow 2 i))) al
                  | .ok (.panic ch, st) => .ok (.panic ch, blur all fr, st)
                | .ok (.panic v) => .ok (.panic [(v, false)], blur all fr, st)
                | .ok (.later _) => .bad "region defer"
          | _, _ => .bad "region loud ones cross"
def evDraw (call : FuncId → List AV → St → Rs (En × St)) (P : Program) (ro : Nat) (all : List Oper) (fr : Fr) (st : St) : Rs (Ex × Fr × St) :=
  (masksOf all 0 .nil).bind fun ms => match allApart P ms all all 0 with
    | true => drawA call P ro ms all (Nat.succ all.length) fr st 0 0 []
    | false => .bad "region not apart"

/- CALLS. -/
inductive Ext where
  | indexByte | indexStr | count | f64bits | f64of | f32bits | f32of | same | clone
  | noZero (e : TypeId)
def subAt (s sub : List UInt8) (n : Nat) : Nat → Option Nat := match n with
  | 0 => fun _ => none
  | n + 1 => fun i => match eqBytes ((s.drop i).take sub.length) sub with
    | true => some i
    | false => subAt s sub n (Nat.succ i)
def byteAt (s : List UInt8) (b : Nat) : Nat → Option Nat := match s with
  | [] => fun _ => none
  | x :: r => fun i => match Nat.beq x.toNat b with
    | true => some i
    | false => byteAt r b (Nat.succ i)
def place (x : Option Nat) : AV := match x with
  | some i => .int .i64 (Int.ofNat i)
  | none => .int .i64 (-1)
def countA (s : List UInt8) (b : Nat) : Nat → Nat := match s with
  | [] => fun n => n
  | x :: r => fun n => match Nat.beq x.toNat b with
    | true => countA r b (Nat.succ n)
    | false => countA r b n
/-- mx: the variable that holds bytealg.MaxLen. -/
def extV (st : St) (mx : Nat) (e : Ext) (args : List AV) : Rs AV := match e, args with
  | .indexByte, [.str s, .int .u8 (.ofNat b)] => match Nat.blt b 256 with
    | true => .ok (place (byteAt s b 0))
    | false => .bad "IndexByte"
  | .indexStr, [.str s, .str t] => match st.cell mx 0 with
    | .ok (.int _ (.ofNat maxLen)) => match Nat.ble 2 t.length, Nat.ble t.length maxLen, Nat.ble s.length 100000 with
      | true, true, true => .ok (place (subAt s t (Nat.sub (Nat.succ s.length) t.length) 0))
      | _, _, _ => .bad "Index"
    | _ => .bad "Index MaxLen"
  | .count, [.str s, .int .u8 (.ofNat b)] => match Nat.blt b 256 with
    | true => .ok (.int .i64 (Int.ofNat (countA s b 0)))
    | false => .bad "Count"
  | .f64bits, [.flt .f64 b] => .ok (.int .u64 (Int.ofNat b))
  | .f64of, [.int .u64 (.ofNat n)] => .ok (.flt .f64 n)
  | .f32bits, [.flt .f32 b] => .ok (.int .u32 (Int.ofNat b))
  | .f32of, [.int .u32 (.ofNat n)] => .ok (.flt .f32 n)
  | .same, [x] => .ok x
  | _, _ => .bad "a function without a body"
/-- A new row of bytes, whatever they are. -/
def extM (st : St) (e : TypeId) (args : List AV) : Rs (AV × St) := match args with
  | [.int .i64 (.ofNat n)] => match Nat.ble n 1000000 with
    | true => .ok (.sl st.next 0 n (.g 1), { st with heap := st.heap.set st.next (.row .nil 0 e 0 (Nat.succ st.next) 0), next := Nat.succ st.next, cls := st.cls.set (Nat.succ st.next) (0, [st.next]) })
    | false => .bad "MakeNoZero too long"
  | _ => .bad "MakeNoZero"
def extC (st : St) (args : List AV) : Rs (AV × St) := match args with
  | [.iface t (.map id)] => match st.heap.get id with
    | some (.map pr es) => .ok (.iface t (.map st.next), st.new (.map pr es))
    | _ => .bad "clone map"
  | _ => .bad "clone"
def extA (st : St) (mx : Nat) (e : Ext) (args : List AV) : Rs (AV × St) := match e with
  | .noZero e => extM st e args
  | .clone => extC st args
  | e => (extV st mx e args).bind fun v => .ok (v, st)
/-- What the reading knows of a program beside its text: functions without a body, how many blocks are not the call's own, which variable holds MaxLen; functions that stand by values ('fast'). -/
structure Env where
  P : Program
  ext : FuncId → Option Ext
  ro : Nat
  mx : Nat
  gl : Nat
  fast : FuncId → Option ((FuncId → List AV → St → Rs (En × St)) → List AV → St → Rs (En × St))
inductive Md where
  | returning
  | panicking (chain : List (AV × Bool))
def mdSettle (u : Md) : Md := match u with
  | .panicking ((_, true) :: _) => .returning
  | u => u
def mdRaise (u : Md) (chain : List (AV × Bool)) : Md := match u with
  | .panicking old => .panicking (chain ++ old)
  | .returning => .panicking chain
def resOne (P : Program) (fr : Fr) (st : St) (r : ResultVar) : Rs AV := match r with
  | .tmp t => .ok (fr.get (.tmp t))
  | .cell a t => match fr.get (.tmp a) with
    | .ptr id off => loadVar P st t id off
    | _ => .bad "result address"
def resAll (P : Program) (fr : Fr) (st : St) (l : List ResultVar) : Rs (List AV) := match l with
  | [] => .ok []
  | r :: s => (resOne P fr st r).bind fun v => (resAll P fr st s).bind fun w => .ok (v :: w)
def resA (P : Program) (fn : Func) (fr : Fr) (st : St) : Rs AV := (resAll P fr st fn.results.toList).bind fun l => match l with
  | [v] => .ok v
  | l => .ok (.tup l)
def leaveA (callD : FuncId → List AV → Md → St → Rs (En × Md × St)) (P : Program) (fn : Func) (fr : Fr) (ds : List (FuncId × List AV)) : Md → St → Rs (En × St) := match ds with
  | [] => fun u st => match u with
    | .returning => (resA P fn fr st).bind fun v => .ok (.ret v, st)
    | .panicking ch => .ok (.panic ch, st)
  | d :: r => fun u st => match callD d.1 d.2 u st with
    | .bad w => .bad w
    | .ok (.ret _, u', st') => leaveA callD P fn fr r (mdSettle u') st'
    | .ok (.panic ch, u', st') => leaveA callD P fn fr r (mdRaise u' ch) st'
def enterA (g : Nat) (fn : Func) (args : List AV) : Fr := { t := PT.lay args 0 .nil, n := Nat.add args.length (Nat.sub fn.ntmps args.length), g := g, ds := [] }
/-- What one level asks of the next one. -/
structure Ev where
  code : Code → Fr → St → Rs (Ex × Fr × St)
  call : FuncId → List AV → St → Rs (En × St)
  codeD : Code → Fr → Md → St → Rs (Ex × Fr × Md × St)
  callD : FuncId → List AV → Md → St → Rs (En × Md × St)
def isRecover (o : Op) : Bool := match o with
  | .call c => match c.callee with
    | .builtin .recover => true
    | _ => false
  | _ => false
def recoverA (u : Md) : AV × Md := match u with
  | .panicking ((v, false) :: older) => (v, .panicking ((v, true) :: older))
  | u => (.nili, u)
/-- A region of a deferred function's body, where it recovers. -/
def evOpsD (call : FuncId → List AV → St → Rs (En × St)) (P : Program) (ro : Nat) (all : List Oper) (l : List Oper) : Fr → Md → St → Rs (Ex × Fr × Md × St) := match l with
  | [] => fun fr u st => .ok (.normal, fr, u, st)
  | o :: r => fun fr u st => match guardA all fr o with
    | none => .bad "guard"
    | some false => (fr.put o.dst (.tup [])).bind fun fr' => evOpsD call P ro all r fr' u st
    | some true => match isRecover o.op with
      | true => match recoverA u with
        | (v, u') => (fr.put o.dst v).bind fun fr' => evOpsD call P ro all r fr' u' st
      | false => match stepA P ro fr st o.op with
        | .bad w => .bad w
        | .ok (.val v st') => (fr.put o.dst v).bind fun fr' => evOpsD call P ro all r fr' u st'
        | .ok (.skip st') => (fr.put o.dst (.tup [])).bind fun fr' => evOpsD call P ro all r fr' u st'
        | .ok (.later _) => .bad "defer in a deferred call"
        | .ok (.enter f args) => match call f args st with
          | .bad w => .bad w
          | .ok (.ret v, st') => (fr.put o.dst v).bind fun fr' => evOpsD call P ro all r fr' u st'
          | .ok (.panic ch, st') => .ok (.panic ch, fr, u, st')
        | .ok (.panic v) => .ok (.panic [(v, false)], fr, u, st)
def anyRecover (l : List Oper) : Bool := l.any fun o => isRecover o.op
/- WHERE A MAP IS GONE THROUGH each order is tried, and what they come to in common is told. -/
def eqEs (a : List (AV × AV)) : List (AV × AV) → Bool := match a with
  | [] => fun b => match b with
    | [] => true
    | _ => false
  | x :: r => fun b => match b with
    | [] => false
    | y :: s => match AV.same 20 x.1 y.1, AV.same 20 x.2 y.2 with
      | true, true => eqEs r s
      | _, _ => false
/-- Blocks alike. -/
def eqBlock (a b : Ob) : Bool := match a, b with
  | .row cs n e fz cl rel, .row cs' n' e' fz' cl' rel' => eqOb (.row cs n e fz cl rel) (.row cs' n' e' fz' cl' rel')
  | .map pr es, .map pr' fs => (pr == pr') && eqEs es fs
  | .mset es, .mset fs => eqEs es fs
  | .iter s p, .iter t q => eqBytes s t && Nat.beq p q
  | _, _ => false
def dropE (x : AV × AV) (l : List (AV × AV)) : Option (List (AV × AV)) := match l with
  | [] => none
  | y :: r => match AV.same 20 x.1 y.1, AV.same 20 x.2 y.2 with
    | true, true => some r
    | _, _ => match dropE x r with
      | some r' => some (y :: r')
      | none => none
/-- The same entries, in whatever order. -/
def permE (a : List (AV × AV)) : List (AV × AV) → Bool := match a with
  | [] => fun b => match b with
    | [] => true
    | _ => false
  | x :: r => fun b => match dropE x b with
    | some b' => permE r b'
    | none => false
def entriesOf (a : Ob) : Option (List (AV × AV)) := match a with
  | .map true es => some es
  | .mset es => some es
  | _ => none
def joinOb (a b : Ob) : Option Ob := match eqBlock a b with
  | true => some a
  | false => match entriesOf a, entriesOf b with
    | some es, some fs => match permE es fs with
      | true => some (.mset es)
      | false => none
    | _, _ => none
def joinAV (a b : AV) : Option AV := match AV.same 20 a b with
  | true => some a
  | false => none
def eqCls (a b : Nat × List Nat) : Bool := Nat.beq a.1 b.1 && decide (a.2 = b.2)
def joinCls (a b : Nat × List Nat) : Option (Nat × List Nat) := match eqCls a b with
  | true => some a
  | false => none
def joinPT {α : Type} (f : α → α → Option α) (t : PT α) : PT α → PT α := match t with
  | .nil => fun _ => .nil
  | .node l v r => fun u => match u with
    | .nil => .nil
    | .node l' v' r' => .node (joinPT f l l') (match v, v' with
      | some a, some b => f a b
      | _, _ => none) (joinPT f r r')
def maxA (a b : Nat) : Nat := match Nat.ble a b with
  | true => b
  | false => a
def joinEx (a b : Ex) : Bool := match a, b with
  | .normal, .normal => true
  | .ret, .ret => true
  | .exit i, .exit j => Nat.beq i j
  | _, _ => false
def joinR (x y : Ex × Fr × St) : Rs (Ex × Fr × St) := match joinEx x.1 y.1, x.2.1.ds, y.2.1.ds, x.2.2.facts, y.2.2.facts with
  | true, [], [], [], [] => match Nat.beq x.2.1.n y.2.1.n, Nat.beq x.2.1.g y.2.1.g with
    | true, true => .ok (x.1, { t := joinPT joinAV x.2.1.t y.2.1.t, n := x.2.1.n, g := x.2.1.g, ds := [] }, { heap := joinPT joinOb x.2.2.heap y.2.2.heap, next := maxA x.2.2.next y.2.2.next, cls := joinPT joinCls x.2.2.cls y.2.2.cls, facts := [] })
    | _, _ => .bad "join frames"
  | _, _, _, _, _ => .bad "join"
def joinAll {α : Type} (f : α → Rs (Ex × Fr × St)) (l : List α) : Rs (Ex × Fr × St) := match l with
  | [] => .bad "join nothing"
  | p :: r => match r with
    | [] => f p
    | _ => (f p).bind fun x => (joinAll f r).bind fun y => joinR x y
/-- What may come next of a map, where there is more than one. -/
def forkOp (ro : Nat) (fr : Fr) (st : St) (o : Oper) : List (AV × St) := match o.guard, o.op with
  | none, .next it false => match fr.get it with
    | .ptr id 0 => match iterM ro st id with
      | some (m, s, seen, l) => match l with
        | [] => []
        | [_] => []
        | l => l.map (takeM st id m s seen)
      | none => []
    | _ => []
  | _, _ => []
def evFork (E : Env) (ih : Ev) (a : Code) (fr : Fr) (st : St) : Option (Rs (Ex × Fr × St)) := match a with
  | .seq (.region _ ops false) rest => match ops.toList with
    | o :: os => match forkOp E.ro fr st o with
      | [] => none
      | l => some (joinAll (fun p => (fr.put o.dst p.1).bind fun fr' => match evOps ih.call E.P E.ro ops.toList os fr' p.2 with
        | .ok (.normal, fr2, st2) => match ih.code rest fr2 st2 with
          | .ok (.normal, fr3, st3) => ih.code (.loop a) fr3 st3
          | r => r
        | r => r) l)
    | [] => none
  | _ => none
def codeBody (E : Env) (ih : Ev) (c : Code) (fr : Fr) (st : St) : Rs (Ex × Fr × St) := match c with
  | .skip => .ok (.normal, fr, st)
  | .region _ ops draw => match draw with
    | false => evOps ih.call E.P E.ro ops.toList ops.toList fr st
    | true => evDraw ih.call E.P E.ro ops.toList fr st
  | .seq a b => match ih.code a fr st with
    | .ok (.normal, fr', st') => ih.code b fr' st'
    | r => r
  | .cond x a b => match fr.get x with
    | .bool true => ih.code a fr st
    | .bool false => ih.code b fr st
    | _ => .bad "cond"
  | .block id a => match ih.code a fr st with
    | .ok (.exit id', fr', st') => match Nat.beq id' id with
      | true => .ok (.normal, fr', st')
      | false => .ok (.exit id', fr', st')
    | r => r
  | .loop a => match evFork E ih a fr st with
    | some r => r
    | none => match ih.code a fr st with
      | .ok (.normal, fr', st') => ih.code (.loop a) fr' st'
      | r => r
  | .rangeFunc _ _ _ _ => .bad "range over a function"
  | .exit id => .ok (.exit id, fr, st)
  | .scope a => match ih.code a fr st with
    | .ok (.goto _, _, _) => .bad "goto"
    | r => r
  | .label _ => .ok (.normal, fr, st)
  | .goto _ => .bad "goto"
  | .ret => .ok (.ret, fr, st)
  | .refuse _ => .bad "refused"
def callSlow (E : Env) (ih : Ev) (f : FuncId) (args : List AV) (st : St) : Rs (En × St) := match E.ext f with
  | some e => (extA st E.mx e args).bind fun p => .ok (.ret p.1, p.2)
  | none => match E.P.funcs[f]? with
    | none => .bad "call no such function"
    | some fn => match fn.body with
      | none => .bad "call no body"
      | some c => match ih.code c (enterA E.gl fn args) st with
        | .bad w => .bad w
        | .ok (.normal, fr, st') => leaveA ih.callD E.P fn fr fr.ds .returning st'
        | .ok (.ret, fr, st') => leaveA ih.callD E.P fn fr fr.ds .returning st'
        | .ok (.panic ch, fr, st') => leaveA ih.callD E.P fn fr fr.ds (.panicking ch) st'
        | .ok _ => .bad "call jump"
/-- What stands by values comes first; where it does not answer, the body is gone through. -/
def callBody (E : Env) (ih : Ev) (f : FuncId) (args : List AV) (st : St) : Rs (En × St) := match E.fast f with
  | some F => match F ih.call args st with
    | .ok r => .ok r
    | .bad _ => callSlow E ih f args st
  | none => callSlow E ih f args st
def codeDBody (E : Env) (ih : Ev) (c : Code) (fr : Fr) (u : Md) (st : St) : Rs (Ex × Fr × Md × St) := match c with
  | .seq a b => match ih.codeD a fr u st with
    | .ok (.normal, fr', u', st') => ih.codeD b fr' u' st'
    | r => r
  | .cond x a b => match fr.get x with
    | .bool true => ih.codeD a fr u st
    | .bool false => ih.codeD b fr u st
    | _ => .bad "cond"
  | .region id ops draw => match draw, anyRecover ops.toList with
    | false, true => evOpsD ih.call E.P E.ro ops.toList ops.toList fr u st
    | _, _ => match ih.code (.region id ops draw) fr st with
      | .ok (e, fr', st') => .ok (e, fr', u, st')
      | .bad w => .bad w
  | c => match ih.code c fr st with
    | .ok (e, fr', st') => .ok (e, fr', u, st')
    | .bad w => .bad w
def callDBody (E : Env) (ih : Ev) (f : FuncId) (args : List AV) (u : Md) (st : St) : Rs (En × Md × St) := match E.ext f with
  | some _ => .bad "defer no body"
  | none => match E.P.funcs[f]? with
    | none => .bad "defer no such function"
    | some fn => match fn.body with
      | none => .bad "defer no body"
      | some c => match ih.codeD c (enterA E.gl fn args) u st with
        | .bad w => .bad w
        | .ok (e, fr, u', st') => match fr.ds with
          | [] => match e with
            | .normal => (resA E.P fn fr st').bind fun v => .ok (.ret v, u', st')
            | .ret => (resA E.P fn fr st').bind fun v => .ok (.ret v, u', st')
            | .panic ch => .ok (.panic ch, u', st')
            | _ => .bad "defer jump"
          | _ => .bad "defer defers"
def ev (E : Env) (n : Nat) : Ev := Nat.rec
  ⟨fun _ _ _ => .bad "depth", fun _ _ _ => .bad "depth", fun _ _ _ _ => .bad "depth", fun _ _ _ _ => .bad "depth"⟩
  (fun _ ih => ⟨codeBody E ih, callBody E ih, codeDBody E ih, callDBody E ih⟩) n
end
end Go.Proofs.YtjifnmilimdfdaaGreatDoor.Ab
/- The quicker reading of one operation is the plain one. -/
set_option linter.unusedVariables false
set_option linter.unusedSimpArgs false
set_option linter.unnecessarySimpa false
namespace Go.Proofs.YtjifnmilimdfdaaGreatDoor.Ab
open Go

theorem ltI_spec (a b : Int) : ltI a b = decide (a < b) := by
  cases a <;> cases b <;> simp only [ltI]
  · rename_i m n
    cases h : Nat.blt m n with
    | true => have := Nat.le_of_ble_eq_true h; symm; apply decide_eq_true; show ((m : Int) < (n : Int)); omega
    | false =>
      symm; apply decide_eq_false; intro h2
      have h2 : (m : Int) < (n : Int) := h2
      have : Nat.blt m n = true := Nat.ble_eq_true_of_le (by omega)
      rw [h] at this; cases this
  · rename_i m n; symm; apply decide_eq_false; show ¬ ((m : Int) < Int.negSucc n); omega
  · rename_i m n; symm; apply decide_eq_true; show Int.negSucc m < (n : Int); omega
  · rename_i m n
    cases h : Nat.blt n m with
    | true => have := Nat.le_of_ble_eq_true h; symm; apply decide_eq_true; omega
    | false =>
      symm; apply decide_eq_false; intro h2
      have : Nat.blt n m = true := Nat.ble_eq_true_of_le (by omega)
      rw [h] at this; cases this
theorem eqI_spec (a b : Int) : eqI a b = (a == b) := by
  cases a <;> cases b <;> simp only [eqI]
  · rename_i m n
    cases h : Nat.beq m n with
    | true => have := Nat.eq_of_beq_eq_true h; subst this; simp
    | false =>
      have := Nat.ne_of_beq_eq_false h
      symm; rw [beq_eq_false_iff_ne]; intro e; cases e; exact this rfl
  · rfl
  · rfl
  · rename_i m n
    cases h : Nat.beq m n with
    | true => have := Nat.eq_of_beq_eq_true h; subst this; simp
    | false =>
      have := Nat.ne_of_beq_eq_false h
      symm; rw [beq_eq_false_iff_ne]; intro e; cases e; exact this rfl
theorem kind_eq {k k' : IntKind} (h : Nat.beq k.ctorIdx k'.ctorIdx = true) : k = k' := by
  have := Nat.eq_of_beq_eq_true h
  cases k <;> cases k' <;> first | rfl | cases this
theorem scal_pure {P : Program} {v : Value} {a : AV} (h : AV.of0 v = some a) : scal P (.pure v) = .ok a := by
  simp only [scal, seval, Rs.of, h]
theorem binA_int {P : Program} {st : St} {op : BinOp} {t : TypeId} {x y : Operand} {k : IntKind} {m n : Int} {v : Value} {a : AV} (h : Go.binOp op t (.int k m) (.int k n) = .pure v) (ha : AV.of0 v = some a) : binA P st op t x y (.int k m) (.int k n) = .ok a := by
  show scal P (Go.binOp op t (.int k m) (.int k n)) = .ok a
  rw [h]
  exact scal_pure ha
theorem cmpI_spec {P : Program} {st : St} {op : BinOp} {t : TypeId} {x y : Operand} {k : IntKind} {m n : Int} {b : Bool} (h : cmpI op m n = some b) : binA P st op t x y (.int k m) (.int k n) = .ok (.bool b) := by
  refine binA_int (v := .bool b) ?_ rfl
  cases op <;> simp only [cmpI] at h <;> first | (cases h; done) | skip
  all_goals
    cases h
    simp only [Go.binOp, Op.intCmp, ltI_spec, eqI_spec, ne_eq, not_true_eq_false, if_false]
  · rfl
  · rfl
  · rfl
  · rw [← decide_not]
    congr 2
    simp
  · rfl
  · rw [← decide_not]
    congr 2
    simp
theorem wrap_i64 {n : Nat} (h : n < 9223372036854775808) : IntKind.i64.wrap (n : Int) = (n : Int) := by
  simp only [IntKind.wrap, IntKind.signed, IntKind.bits]
  simp
  omega
theorem sumI_spec {P : Program} {st : St} {op : BinOp} {t : TypeId} {x y : Operand} {k : IntKind} {m n z : Int} (h : sumI op k m n = some z) : binA P st op t x y (.int k m) (.int k n) = .ok (.int k z) := by
  refine binA_int (v := .int k z) ?_ rfl
  unfold sumI at h
  split at h
  case h_2 => cases h
  split at h
  · split at h
    · split at h
      · rename_i m n _ hb
        have hb : Nat.add m n < 9223372036854775808 := Nat.le_of_ble_eq_true hb
        cases h
        simp only [Go.binOp, Op.intArith, ne_eq, not_true_eq_false, if_false]
        have : IntKind.i64.wrap (Int.ofNat m + Int.ofNat n) = Int.ofNat (Nat.add m n) := wrap_i64 hb
        rw [this]; rfl
      · cases h
    · cases h
  · split at h
    · split at h
      · rename_i m n _ _ hb1 hb2
        have hb1 : n ≤ m := Nat.le_of_ble_eq_true hb1
        have hb2 : m < 9223372036854775808 := Nat.le_of_ble_eq_true hb2
        cases h
        simp only [Go.binOp, Op.intArith, ne_eq, not_true_eq_false, if_false]
        have e : Int.ofNat m - Int.ofNat n = ((m - n : Nat) : Int) := by show (m : Int) - (n : Int) = _; omega
        have : IntKind.i64.wrap (Int.ofNat m - Int.ofNat n) = Int.ofNat (Nat.sub m n) := by rw [e]; exact wrap_i64 (by omega)
        rw [this]; rfl
      · cases h
    · cases h
  · cases h
theorem stepA_eq (P : Program) (ro : Nat) (fr : Fr) (st : St) (o : Op) : stepA P ro fr st o = stepS P ro fr st o := by
  cases o <;> try rfl
  case pick c a b =>
    show pickF fr st (fr.get c) a b = Rs.bind (match fr.get c with
      | .bool true => .ok (fr.get a)
      | .bool false => .ok (fr.get b)
      | _ => .bad "pick") (fun v => .ok (.val v st))
    unfold pickF
    generalize fr.get c = q
    cases q <;> try rfl
    rename_i q
    cases q <;> rfl
  case load t a =>
    show loadF P st t (fr.get a) = Rs.bind (match fr.get a with
      | .ptr id off => loadVar P st t id off
      | _ => .bad "load address") (fun v => .ok (.val v st))
    unfold loadF
    generalize fr.get a = q
    cases q <;> rfl
  case binOp op t x y t' =>
    show binF P st op t x y (fr.get x) (fr.get y) = Rs.bind (binA P st op t x y (fr.get x) (fr.get y)) (fun v => .ok (.val v st))
    generalize fr.get x = a
    generalize fr.get y = b
    unfold binF
    split
    · split
      · rename_i k m k' n
        unfold binK
        split
        · rename_i hk
          have hk := kind_eq hk
          subst hk
          split
          · rename_i hc
            rw [cmpI_spec hc]; rfl
          · split
            · rename_i hs
              rw [sumI_spec hs]; rfl
            · rfl
        · rfl
      · rfl
    · rfl
end Go.Proofs.YtjifnmilimdfdaaGreatDoor.Ab
