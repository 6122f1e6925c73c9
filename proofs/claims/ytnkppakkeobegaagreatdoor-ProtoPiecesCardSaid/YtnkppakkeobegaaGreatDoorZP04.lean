/-
  AW12.
-/
import Derived.Test.YtnkppakkeobegaaGreatDoorZP00
import Derived.Test.YtnkppakkeobegaaGreatDoorZP01
import Derived.Test.YtnkppakkeobegaaGreatDoorZP03
import Derived.Laws.AppendOwn
import Derived.Lib.SlicesS
import Derived.Laws.BytesArg
import Derived.Lib.ConvBytes
import Derived.Great.BuildSlice
import Derived.Laws.StructEq
import Derived.Laws.MakeOwn
set_option maxRecDepth 20000
set_option linter.unusedVariables false
set_option linter.unusedSimpArgs false
set_option linter.unusedSectionVars false
namespace Go.Proofs.YtnkppakkeobegaaGreatDoor
namespace AX
def tall0 : Bool := true
def tall1 : Bool := tall0
def tall2 : Bool := tall1
def tall3 : Bool := tall2
def tall4 : Bool := tall3
def tall5 : Bool := tall4
def tall6 : Bool := tall5
def tall7 : Bool := tall6
def tall8 : Bool := tall7
def tall9 : Bool := tall8
def tall10 : Bool := tall9
def tall11 : Bool := tall10
def tall12 : Bool := tall11
def tall13 : Bool := tall12
def tall14 : Bool := tall13
def tall15 : Bool := tall14
def tall16 : Bool := tall15
def tall17 : Bool := tall16
def tall18 : Bool := tall17
def tall19 : Bool := tall18
def tall20 : Bool := tall19
def tall21 : Bool := tall20
def tall22 : Bool := tall21
def tall23 : Bool := tall22
def tall24 : Bool := tall23
def tall25 : Bool := tall24
def tall26 : Bool := tall25
def tall27 : Bool := tall26
def tall28 : Bool := tall27
def tall29 : Bool := tall28
def tall30 : Bool := tall29
def tall31 : Bool := tall30
def tall32 : Bool := tall31
def tall33 : Bool := tall32
def tall34 : Bool := tall33
def tall35 : Bool := tall34
def tall36 : Bool := tall35
def tall37 : Bool := tall36
def tall38 : Bool := tall37
def tall39 : Bool := tall38
def tall40 : Bool := tall39
def tall41 : Bool := tall40
def tall42 : Bool := tall41
def tall43 : Bool := tall42
def tall44 : Bool := tall43
def tall45 : Bool := tall44
def tall46 : Bool := tall45
def tall47 : Bool := tall46
def tall48 : Bool := tall47
def tall49 : Bool := tall48
def tall50 : Bool := tall49
def tall51 : Bool := tall50
def tall52 : Bool := tall51
def tall53 : Bool := tall52
def tall54 : Bool := tall53
def tall55 : Bool := tall54
def tall56 : Bool := tall55
def tall57 : Bool := tall56
def tall58 : Bool := tall57
def tall59 : Bool := tall58
def tall60 : Bool := tall59
def condA {α : Sort _} (c : Bool) (t e : α) : α :=
 let _x := tall60
 match c with | true => t | false => e
@[simp] theorem condA_true {α : Sort _} (t e : α) : condA true t e = t := rfl
@[simp] theorem condA_false {α : Sort _} (t e : α) : condA false t e = e := rfl
structure Nm where
 slot : Nat
 ix : Nat
 elem : TypeId
 deriving DecidableEq, Inhabited
inductive Cell where
 | int (k : IntKind) (n : Int)
 | bool (b : Bool)
 | str (l : List UInt8)
 | sl (nm : Option Nm) (sz : Nat) (cs : List Cell)
 | nilp
 | ptr (b o : Nat)
 | eptr (cs : List Cell)
 | err (b : Bool)
 | selfp (t : TypeId)
 | bsl (b sz n : Nat)
 | bptr (b o : Nat)
 | mapr (b : Nat)
 | nilm
 | row (cs : List Cell)
 | map (ck : Nat) (ks : List (Cell × Cell × Nat))
 | gptr (b o : Nat)
 | gmap (b : Nat)
 | own (e : TypeId) (sz : Nat) (cs : List Cell)
 | clo (f : FuncId) (n : Nat) (cs : List Cell)
 | nilf
 deriving Inhabited
inductive V1 where
 | one (c : Cell)
 | agg (cs : List Cell)
 deriving Inhabited
inductive AV where
 | one (c : Cell)
 | agg (cs : List Cell)
 | tup (vs : List V1)
 | undef
 deriving Inhabited
def V1.av : V1 → AV
 | .one c => .one c
 | .agg cs => .agg cs
def V1.cells : V1 → List Cell
 | .one c => [c]
 | .agg cs => cs
inductive TI where
 | bool
 | int (k : IntKind)
 | str
 | slice (e : TypeId) (sz : Nat)
 | ptr
 | err
 | map (k e : TypeId)
 | fn
 | struct (leaves : List TI) (fs : List (Nat × Nat × TypeId))
 | arr (leaves : List TI) (len sz : Nat) (e : TypeId)
 | tup (ts : List TI)
 deriving Inhabited
def TI.leaves : TI → List TI
 | .struct l _ => l
 | .arr l _ _ _ => l
 | t => [t]
def TI.isAgg : TI → Bool
 | .struct .. | .arr .. => true
 | _ => false
def TI.zeroCell (sl : Nat) (ix : Nat) : TI → Cell
 | .bool => .bool false
 | .int k => .int k 0
 | .str => .str []
 | .slice e sz => .sl (some ⟨sl, ix, e⟩) sz []
 | .err => .err false
 | .map _ _ => .nilm
 | .fn => .nilf
 | _ => .nilp
def zeros (sl : Nat) : Nat → List TI → List Cell
 | _, [] => []
 | i, t :: r => t.zeroCell sl i :: zeros sl (i + 1) r
def zerosU : List TI → List Cell
 | [] => []
 | t :: r => (match t with | .slice _ sz => Cell.sl none sz [] | t => t.zeroCell 0 0) :: zerosU r
def zeroU : TI → Cell
 | .slice _ sz => .sl none sz []
 | t => t.zeroCell 0 0
structure St where
 fr : List (Nat × AV)
 H : List (List Cell)
 G : Option (List (List Cell))
abbrev Heap := List (List Cell)
def lk : List (Nat × AV) → Nat → Option AV
 | [], _ => none
 | (t, v) :: r, s => condA (Nat.beq t s) (some v) <| lk r s
def rm : List (Nat × AV) → Nat → List (Nat × AV)
 | [], _ => []
 | (t, v) :: r, s => condA (Nat.beq t s) (rm r s) <| (t, v) :: rm r s
def Cell.strike (p : Nm → Bool) : Cell → Cell
 | .sl (some n) sz cs => .sl (condA (p n) (none) <| some n) sz cs
 | c => c
def Cell.bare : Cell → Cell
 | .sl _ sz cs => .sl none sz cs
 | c => c
def V1.map (f : Cell → Cell) : V1 → V1
 | .one c => .one (f c)
 | .agg cs => .agg (cs.map f)
def AV.map (f : Cell → Cell) : AV → AV
 | .one c => .one (f c)
 | .agg cs => .agg (cs.map f)
 | .tup vs => .tup (vs.map (V1.map f))
 | .undef => .undef
def strikeFr (p : Nm → Bool) : List (Nat × AV) → List (Nat × AV)
 | [] => []
 | (s, v) :: r => (s, v.map (Cell.strike p)) :: strikeFr p r
def strikeH (p : Nm → Bool) : Heap → Heap
 | [] => []
 | b :: r => b.map (Cell.strike p) :: strikeH p r
def St.strike (p : Nm → Bool) (st : St) : St := ⟨strikeFr p st.fr, strikeH p st.H, st.G⟩
def bornAt (d : Nat) (n : Nm) : Bool := Nat.beq n.slot d
def isNm (m n : Nm) : Bool := Nat.beq m.slot n.slot && Nat.beq m.ix n.ix
def boxSlot (b : Nat) : Nat := 1000000 + b
def St.put (st : St) (d : Option Nat) (v : AV) : St :=
 match d with
 | some d => ⟨(d, v) :: rm st.fr d, st.H, st.G⟩
 | none => st
def acst : Value → Option AV
 | .int k n => some (.one (.int k n))
 | .bool b => some (.one (.bool b))
 | .string s => some (.one (.str s.data.toList))
 | .slice none 0 0 => some (.one (.sl none 0 []))
 | .pointer none => some (.one .nilp)
 | .nilIface => some (.one (.err false))
 | .nilFunc => some (.one .nilf)
 | _ => none
def ev (st : St) : Operand → Option AV
 | .tmp t => lk st.fr t
 | .const v => acst v
 | .func f => some (.one (.clo f 0 []))
 | _ => none
section
variable {R : Type}
def castI (kd : IntKind) (c : Cell) (k : Int → Option R) : Option R :=
 match c with
 | .int k' n => if k' = kd then k n else none
 | _ => none
def castB (c : Cell) (k : Bool → Option R) : Option R :=
 match c with
 | .bool b => k b
 | _ => none
def castS (c : Cell) (k : List UInt8 → Option R) : Option R :=
 match c with
 | .str l => k l
 | _ => none
def castL (sz : Nat) (c : Cell) (k : Option Nm → List Cell → Option R) : Option R :=
 match c with
 | .sl nm s cs => condA (Nat.beq s sz || Nat.beq s 0) (k nm cs) <| none
 | _ => none
def castP (c : Cell) (x : Option R) (k : Nat → Nat → Option R) : Option R :=
 match c with
 | .nilp => x
 | .gptr b o => k b o
 | _ => none
def castN (e : TypeId) (sz : Nat) (c : Cell) (k : List Cell → Option R) : Option R :=
 match c with
 | .sl (some n) s cs => condA ((Nat.beq s sz || Nat.beq s 0) && Nat.beq n.elem e) (k cs) <| none
 | _ => none
def castE (c : Cell) (k : Bool → Option R) : Option R :=
 match c with
 | .err b => k b
 | _ => none
def castD (t : TI) (c : Cell) (k : Cell → Option R) : Option R :=
 match t with
 | .int kd => castI kd c fun n => k (.int kd n)
 | .bool => castB c fun b => k (.bool b)
 | .str => castS c fun l => k (.str l)
 | .slice _ sz => castL sz c fun _ cs => k (.sl none sz cs)
 | .err => castE c fun b => k (.err b)
 | .map _ _ => (match c with | .nilm => k .nilm | .gmap b => k (.gmap b) | _ => none)
 | .ptr => (match c with | .nilp => k .nilp | .gptr b o => k (.gptr b o) | _ => none)
 | .fn => (match c with | .nilf => k .nilf | .clo f n cs => k (.clo f n cs) | _ => none)
 | _ => none
def castC (t : TI) (c : Cell) (k : Cell → Option R) : Option R :=
 match t with
 | .slice _ sz => castL sz c fun nm cs => k (.sl nm sz cs)
 | .ptr => (match c with | .nilp => k .nilp | .ptr b o => k (.ptr b o) | .eptr cs => k (.eptr cs) | .gptr b o => k (.gptr b o) | _ => none)
 | .map _ _ => (match c with | .nilm => k .nilm | .mapr b => k (.mapr b) | .gmap b => k (.gmap b) | _ => none)
 | t => castD t c k
def castDs : List TI → List Cell → (List Cell → Option R) → Option R
 | [], _, k => k []
 | t :: ts, cs, k => (match cs with | [] => none | c :: r => castD t c fun c' => castDs ts r fun r' => k (c' :: r'))
def castCs : List TI → List Cell → (List Cell → Option R) → Option R
 | [], _, k => k []
 | t :: ts, cs, k => (match cs with | [] => none | c :: r => castC t c fun c' => castCs ts r fun r' => k (c' :: r'))
def castXs : List TI → List Cell → (List Cell → Option R) → Option R
 | [], cs, k => (match cs with | [] => k [] | _ => none)
 | t :: ts, cs, k => (match cs with | [] => none | c :: r => castC t c fun c' => castXs ts r fun r' => k (c' :: r'))
def maxI (x y : Int) : Int := condA (decide (x < y)) y x
def minI (x y : Int) : Int := condA (decide (y < x)) y x
def splitI : Nat → Nat → Int → (Nat → Option R) → Option R
 | 0, _, _, _ => none
 | m + 1, j, i, k => condA (decide (i = (j : Int))) (k j) (splitI m (j + 1) i k)
def isSlT : TI → Bool
 | .slice _ _ => true
 | _ => false
def castNt (d i : Nat) (t : TI) (c : Cell) (k : Cell → Option R) : Option R :=
 match t with
 | .slice e sz => castN e sz c fun xs => k (.sl (some ⟨d, i, e⟩) sz xs)
 | _ => none
def aggN (d : Nat) : Bool → Nat → List TI → List Cell → (List Cell → Option R) → Option R
 | _, _, [], cs, k => (match cs with | [] => k [] | _ => none)
 | b, i, t :: ts, cs, k => (match cs with | [] => none | c :: r => condA (b && isSlT t) (castNt d i t c fun c' => aggN d false (i + 1) ts r fun r' => k (c' :: r')) (castD t c fun c' => aggN d b (i + 1) ts r fun r' => k (c' :: r')))
def guardB (b : Bool) (k : Option R) : Option R := condA (b) (k) <| none
def itemK {α : Type} (l : List α) (i : Int) (k : α → Option R) : Option R :=
 condA (decide (0 ≤ i)) ((match l[i.toNat]? with | some a => k a | none => none)) <| none
end
def intOp (op : BinOp) (kd : IntKind) (a b : Int) : Option Cell :=
 match op with
 | .add => some (.int kd (kd.wrap (a + b)))
 | .sub => some (.int kd (kd.wrap (a - b)))
 | .mul => some (.int kd (kd.wrap (a * b)))
 | .quo => condA (decide (b = 0)) (none) <| some (.int kd (kd.wrap (a.tdiv b)))
 | .rem => condA (decide (b = 0)) (none) <| some (.int kd (a.tmod b))
 | .eql => some (.bool (a == b))
 | .neq => some (.bool (a != b))
 | .lss => some (.bool (decide (a < b)))
 | .leq => some (.bool (decide (a ≤ b)))
 | .gtr => some (.bool (decide (a > b)))
 | .geq => some (.bool (decide (a ≥ b)))
 | .and => some (.int kd (kd.wrap (BitVec.ofInt kd.bits a &&& BitVec.ofInt kd.bits b).toNat))
 | .or => some (.int kd (kd.wrap (BitVec.ofInt kd.bits a ||| BitVec.ofInt kd.bits b).toNat))
 | .xor => some (.int kd (kd.wrap (BitVec.ofInt kd.bits a ^^^ BitVec.ofInt kd.bits b).toNat))
 | .andNot => some (.int kd (kd.wrap (BitVec.ofInt kd.bits a &&& ~~~(BitVec.ofInt kd.bits b)).toNat))
 | _ => none
def shOp (op : BinOp) (kd : IntKind) (a b : Int) : Option Cell :=
 condA (decide (b < 0)) (none) <|
 match op with
 | .shl => some (.int kd (kd.wrap (a * 2 ^ (min b.toNat kd.bits))))
 | .shr => some (.int kd (a.fdiv (2 ^ (min b.toNat kd.bits))))
 | _ => none
def strLim : Nat := 2 ^ 62
def strOp (op : BinOp) (a b : List UInt8) : Option Cell :=
 match op with
 | .add => condA (decide (a.length + b.length ≤ strLim)) (some (.str (a ++ b))) <| none
 | .eql => some (.bool (a == b))
 | .neq => some (.bool (!(a == b)))
 | .lss => some (.bool (Op.bytesLess a b))
 | .leq => some (.bool (Op.bytesLess a b || a == b))
 | .gtr => some (.bool (!(Op.bytesLess a b || a == b)))
 | .geq => some (.bool (!(Op.bytesLess a b)))
 | _ => none
def binA (t : Option TI) (yc : Bool) (op : BinOp) (a b : AV) : Option Cell :=
  match a, b with
  | .one (.int k x), .one (.int k' y) =>
    (match op with
     | .shl | .shr => shOp op k x y
     | op => if k = k' then intOp op k x y else none)
  | .one (.str x), .one (.str y) => strOp op x y
  | .one (.bool x), .one (.bool y) =>
    (match t, op with
     | some .bool, .eql => some (.bool (x == y))
     | some .bool, .neq => some (.bool (!(x == y)))
     | _, _ => none)
  | .one (.err x), .one (.err false) =>
    (match t, yc, op with
     | some .err, true, .eql => some (.bool (!x))
     | some .err, true, .neq => some (.bool x)
     | _, _, _ => none)
  | .one .nilp, .one .nilp =>
    (match t, op with
     | some .ptr, .eql => some (.bool true)
     | some .ptr, .neq => some (.bool false)
     | _, _ => none)
  | .one (.ptr _ _), .one .nilp =>
    (match t, op with
     | some .ptr, .eql => some (.bool false)
     | some .ptr, .neq => some (.bool true)
     | _, _ => none)
  | .one (.gptr _ _), .one .nilp =>
    (match t, op with
     | some .ptr, .eql => some (.bool false)
     | some .ptr, .neq => some (.bool true)
     | _, _ => none)
  | _, _ => none
def binK {R : Type} (t : Option TI) (yc : Bool) (op : BinOp) (a b : AV) (k : Cell → Option R) : Option R :=
 match op, a, b with
 | .add, .one (.str x), .one (.str y) => condA (decide (x.length + y.length ≤ strLim)) (k (.str (x ++ y))) <| none
 | .quo, .one (.int kd x), .one (.int kd' y) => if kd = kd' then (condA (decide (y = 0)) (none) <| k (.int kd (kd.wrap (x.tdiv y)))) else none
 | .rem, .one (.int kd x), .one (.int kd' y) => if kd = kd' then (condA (decide (y = 0)) (none) <| k (.int kd (x.tmod y))) else none
 | .shl, .one (.int kd x), .one (.int _ y) => condA (decide (y < 0)) (none) <| k (.int kd (kd.wrap (x * 2 ^ (min y.toNat kd.bits))))
 | .shr, .one (.int kd x), .one (.int _ y) => condA (decide (y < 0)) (none) <| k (.int kd (x.fdiv (2 ^ (min y.toNat kd.bits))))
 | op, a, b => (match binA t yc op a b with | some c => k c | none => none)
def notNilRow : Operand → Bool
 | .const (.slice none 0 0) => false
 | _ => true
def opIsTmp : Operand → Nat → Bool
 | .tmp s, t => Nat.beq s t
 | _, _ => false
def isConstO : Operand → Bool
 | .const _ => true
 | _ => false
def unA (op : UnOp) (a : AV) : Option Cell :=
 match op, a with
 | .not, .one (.bool b) => some (.bool (!b))
 | .neg, .one (.int k n) => some (.int k (k.wrap (0 - n)))
 | _, _ => none
def lenA : AV → Option Int
 | .one (.str l) => some (l.length : Int)
 | .one (.sl _ sz cs) => some ((cs.length / sz : Nat) : Int)
 | _ => none
def byteCells (l : List UInt8) : List Cell := l.map fun c => .int .u8 (c.toNat : Int)
def cutK {R : Type} (len : Nat) (lo hi : Option Int) (k : Nat → Nat → Option R) : Option R :=
 match lo, hi with
 | none, none => k 0 len
 | some a, none => condA (decide (0 ≤ a ∧ a.toNat ≤ len)) (k a.toNat len) <| none
 | none, some b => condA (decide (0 ≤ b ∧ b.toNat ≤ len)) (k 0 b.toNat) <| none
 | some a, some b => condA (decide (0 ≤ a ∧ a ≤ b ∧ b.toNat ≤ len)) (k a.toNat b.toNat) <| none
def bytesK {R : Type} : List Cell → (List UInt8 → Option R) → Option R
 | [], k => k []
 | c :: r, k => castI .u8 c fun n => bytesK r fun l => k (UInt8.ofNat n.toNat :: l)
def bytesOfCells : List Cell → Option (List UInt8)
 | [] => some []
 | .int .u8 n :: r => (bytesOfCells r).map fun l => UInt8.ofNat n.toNat :: l
 | _ :: _ => none
def asInt? : Option AV → Option Int
 | some (.one (.int _ n)) => some n
 | _ => none
def rowLim : Nat := 2 ^ 40
def setCells (cs : List Cell) (o : Nat) (new : List Cell) : List Cell := cs.take o ++ new ++ cs.drop (o + new.length)
def AV.cells? : AV → Option (List Cell)
 | .one c => some [c]
 | .agg cs => some cs
 | _ => none
inductive LikeC : Cell → Cell → Prop
 | int (kd : IntKind) (n : Int) : LikeC (.int kd n) (.int kd n)
 | bool (b : Bool) : LikeC (.bool b) (.bool b)
 | str (l : List UInt8) : LikeC (.str l) (.str l)
 | err (b : Bool) : LikeC (.err b) (.err b)
 | sl (nm : Option Nm) (s sz : Nat) (l : List Cell) : (s = sz ∨ s = 0) → LikeC (.sl nm s l) (.sl none sz l)
inductive LikeL : List Cell → List Cell → Prop
 | nil : LikeL [] []
 | cons {c c' : Cell} {r r' : List Cell} : LikeC c c' → LikeL r r' → LikeL (c :: r) (c' :: r')
structure SKd where
 α : Type
 enc : α → List Cell
 take : {R : Type} → List Cell → (α → List Cell → Option R) → Option R
 ok : ∀ {R : Type} (cs : List Cell) (k : α → List Cell → Option R) (r : R), take cs k = some r → ∃ x a b, cs = a ++ b ∧ LikeL a (enc x) ∧ k x b = some r
inductive CS where
 | int (k : IntKind)
 | bool
 | str
 | err
 | sl (sz : Nat)
 | nm (sz s i e : Nat)
 | nilp
 | nilm
 | ptr (b o : Nat)
 | mapr (b : Nat)
 | raw
 | row
 | map
 | bsl (b sz : Nat)
 | bptr (b : Nat)
 | gptr (o : Nat)
 | clo0 (f : Nat)
 | gpo
def CS.T (X : Type) : CS → Type
 | .int _ => Int → X
 | .bool => Bool → X
 | .str => List UInt8 → X
 | .err => Bool → X
 | .sl _ => List Cell → X
 | .nm _ _ _ _ => List Cell → X
 | .nilp => X
 | .nilm => X
 | .ptr _ _ => X
 | .mapr _ => X
 | .raw => Cell → X
 | .row => List Cell → X
 | .map => Nat → List (Cell × Cell × Nat) → X
 | .bsl _ _ => Nat → X
 | .bptr _ => Nat → X
 | .gptr _ => Nat → X
 | .clo0 _ => X
 | .gpo => Nat → Nat → X
def CS.lam {X : Type} : (s : CS) → (Cell → X) → s.T X
 | .int k, f => fun n => f (.int k n)
 | .bool, f => fun b => f (.bool b)
 | .str, f => fun l => f (.str l)
 | .err, f => fun b => f (.err b)
 | .sl sz, f => fun l => f (.sl none sz l)
 | .nm sz s i e, f => fun l => f (.sl (some ⟨s, i, e⟩) sz l)
 | .nilp, f => f .nilp
 | .nilm, f => f .nilm
 | .ptr b o, f => f (.ptr b o)
 | .mapr b, f => f (.mapr b)
 | .raw, f => fun c => f c
 | .row, f => fun cs => f (.row cs)
 | .map, f => fun ck ks => f (.map ck ks)
 | .bsl b sz, f => fun n => f (.bsl b sz n)
 | .bptr b, f => fun o => f (.bptr b o)
 | .gptr o, f => fun b => f (.gptr b o)
 | .clo0 g, f => f (.clo g 0 [])
 | .gpo, f => fun b o => f (.gptr b o)
section
variable {X R : Type}
def appSl (sz : Nat) (c : Cell) (j : List Cell → X) (k : X → Option R) : Option R :=
 match c with
 | .sl nm s l => (match nm with | none => condA (Nat.beq s sz) (k (j l)) none | some _ => none)
 | _ => none
def appNm (sz s i e : Nat) (c : Cell) (j : List Cell → X) (k : X → Option R) : Option R :=
 match c with
 | .sl nm s' l => (match nm with | none => none | some n => condA (Nat.beq s' sz && (Nat.beq n.slot s && (Nat.beq n.ix i && Nat.beq n.elem e))) (k (j l)) none)
 | _ => none
def CS.app : (s : CS) → Cell → s.T X → (X → Option R) → Option R
 | .int kd, c, j, k => castI kd c fun n => k (j n)
 | .bool, c, j, k => castB c fun b => k (j b)
 | .str, c, j, k => castS c fun l => k (j l)
 | .err, c, j, k => castE c fun b => k (j b)
 | .sl sz, c, j, k => appSl sz c j k
 | .nm sz s i e, c, j, k => appNm sz s i e c j k
 | .nilp, c, j, k => (match c with | .nilp => k j | _ => none)
 | .nilm, c, j, k => (match c with | .nilm => k j | _ => none)
 | .ptr b o, c, j, k => (match c with | .ptr b' o' => condA (Nat.beq b' b && Nat.beq o' o) (k j) none | _ => none)
 | .mapr b, c, j, k => (match c with | .mapr b' => condA (Nat.beq b' b) (k j) none | _ => none)
 | .raw, c, j, k => k (j c)
 | .row, c, j, k => (match c with | .row cs => k (j cs) | _ => none)
 | .map, c, j, k => (match c with | .map ck ks => k (j ck ks) | _ => none)
 | .bsl b sz, c, j, k => (match c with | .bsl b' s n => condA (Nat.beq b' b && Nat.beq s sz) (k (j n)) none | _ => none)
 | .bptr b, c, j, k => (match c with | .bptr b' o => condA (Nat.beq b' b) (k (j o)) none | _ => none)
 | .gptr o, c, j, k => (match c with | .gptr b o' => condA (Nat.beq o' o) (k (j b)) none | _ => none)
 | .clo0 g, c, j, k => (match c with | .clo g' n cs => condA (Nat.beq g' g && Nat.beq n 0) (match cs with | [] => k j | _ :: _ => none) none | _ => none)
 | .gpo, c, j, k => (match c with | .gptr b o => k (j b o) | _ => none)
end
def CSs.T (X : Type) : List CS → Type
 | [] => X
 | s :: r => s.T (CSs.T X r)
def CSs.lam {X : Type} : (l : List CS) → (List Cell → X) → CSs.T X l
 | [], f => f []
 | s :: r, f => s.lam fun c => CSs.lam r fun cs => f (c :: cs)
def CSs.app {X R : Type} : (l : List CS) → List Cell → CSs.T X l → (X → Option R) → Option R
 | [], cs, j, k => (match cs with | [] => k j | _ :: _ => none)
 | s :: r, cs, j, k => (match cs with | [] => none | c :: q => s.app c j fun j' => CSs.app r q j' k)
inductive LS where
 | cells (l : List CS)
 | sk (d : SKd)
def LS.T (X : Type) : LS → Type
 | .cells l => CSs.T X l
 | .sk d => d.α → X
def LS.lam {X : Type} : (s : LS) → (List Cell → X) → s.T X
 | .cells l, f => CSs.lam l f
 | .sk d, f => fun x => f (d.enc x)
def takeAll {α R : Type} (cs : List Cell) (k : α → Option R) : α → List Cell → Option R := fun x r => match r with | [] => k x | _ :: _ => none
def LS.app {X R : Type} : (s : LS) → List Cell → s.T X → (X → Option R) → Option R
 | .cells l, cs, j, k => CSs.app l cs j k
 | .sk d, cs, j, k => d.take cs (takeAll cs fun x => k (j x))
inductive VS where
 | one (s : CS)
 | agg (s : LS)
 | undef
def VS.T (X : Type) : VS → Type
 | .one s => s.T X
 | .agg s => s.T X
 | .undef => X
def VS.lam {X : Type} : (s : VS) → (AV → X) → s.T X
 | .one s, f => s.lam fun c => f (.one c)
 | .agg s, f => s.lam fun cs => f (.agg cs)
 | .undef, f => f .undef
def normSl (sz : Nat) (c : Cell) : Cell :=
 match c with
 | .sl nm s l => (match nm with | none => condA (Nat.beq s 0) (.sl none sz l) c | some _ => c)
 | c => c
def CS.norm (s : CS) (c : Cell) : Cell :=
 match s with
 | .sl sz => normSl sz c
 | _ => c
def VS.app {X R : Type} : (s : VS) → AV → s.T X → (X → Option R) → Option R
 | .one s, v, j, k => (match v with | .one c => s.app (s.norm c) j k | _ => none)
 | .agg s, v, j, k => (match v with | .agg cs => s.app cs j k | _ => none)
 | .undef, v, j, k => (match v with | .undef => k j | _ => none)
def FrS.T (X : Type) : List (Nat × VS) → Type
 | [] => X
 | s :: r => s.2.T (FrS.T X r)
def FrS.lam {X : Type} : (l : List (Nat × VS)) → (List (Nat × AV) → X) → FrS.T X l
 | [], f => f []
 | s :: r, f => s.2.lam fun v => FrS.lam r fun fr => f ((s.1, v) :: fr)
def FrS.app {X R : Type} : (l : List (Nat × VS)) → List (Nat × AV) → FrS.T X l → (X → Option R) → Option R
 | [], fr, j, k => (match fr with | [] => k j | _ :: _ => none)
 | s :: r, fr, j, k => (match fr with | [] => none | v :: q => condA (Nat.beq v.1 s.1) (s.2.app v.2 j fun j' => FrS.app r q j' k) none)
def HpS.T (X : Type) : List LS → Type
 | [] => X
 | s :: r => s.T (HpS.T X r)
def HpS.lam {X : Type} : (l : List LS) → (List (List Cell) → X) → HpS.T X l
 | [], f => f []
 | s :: r, f => s.lam fun cs => HpS.lam r fun H => f (cs :: H)
def HpS.app {X R : Type} : (l : List LS) → List (List Cell) → HpS.T X l → (X → Option R) → Option R
 | [], H, j, k => (match H with | [] => k j | _ :: _ => none)
 | s :: r, H, j, k => (match H with | [] => none | cs :: q => s.app cs j fun j' => HpS.app r q j' k)
def setP (t : Nat) (v : AV) : List (Nat × AV) → List (Nat × AV)
 | [] => []
 | (s, u) :: r => condA (Nat.beq s t) ((s, v) :: r) ((s, u) :: setP t v r)
def splitP {R : Type} : List Nat → (St → Option R) → St → Option R
 | [], k, st => k st
 | t :: r, k, st => (match lk st.fr t with
  | some (.one c) => castP c (splitP r k ⟨setP t (.one .nilp) st.fr, st.H, st.G⟩) fun b o => splitP r k ⟨setP t (.one (.gptr b o)) st.fr, st.H, st.G⟩
  | _ => none)
structure SS where
 fr : List (Nat × VS)
 H : List LS
 G : Bool
 ps : List Nat
def gT (X : Type) : Bool → Type
 | true => List (List Cell) → X
 | false => X
def gLam {X : Type} : (b : Bool) → (Option (List (List Cell)) → X) → gT X b
 | true, f => fun G => f (some G)
 | false, f => f none
def gApp {X R : Type} : (b : Bool) → Option (List (List Cell)) → gT X b → (X → Option R) → Option R
 | true, G, j, k => (match G with | some G => k (j G) | none => none)
 | false, G, j, k => (match G with | some _ => none | none => k j)
def SS.T (R : Type) (s : SS) : Type := FrS.T (HpS.T (gT (Option R) s.G) s.H) s.fr
def SS.lam0 {R : Type} (s : SS) (k : St → Option R) : s.T R := FrS.lam s.fr fun fr => HpS.lam s.H fun H => gLam s.G fun G => k ⟨fr, H, G⟩
def SS.lam {R : Type} (s : SS) (k : St → Option R) : s.T R := s.lam0 (splitP s.ps k)
def SS.app {R : Type} (s : SS) (st : St) (j : s.T R) : Option R :=
 FrS.app s.fr st.fr j fun j1 => HpS.app s.H st.H j1 fun j2 => gApp s.G st.G j2 fun j3 => j3
def SS.bot {R : Type} (s : SS) : s.T R := s.lam0 fun _ => none
def joinK {α β : Type} (j : α) (f : α → β) : β := f j
def loopJ {α : Type} (bot : α) (F : α → α) : Nat → α
 | 0 => bot
 | m + 1 => F (loopJ bot F m)
structure FI where
 body : Code
 res : List ResultVar
 hints : List (Nat × List Nat × Nat)
structure Env where
 T : List (Nat × TI)
 boxed : List Nat
 selfs : List Nat
 prim : FuncId → Option (List AV → Option AV)
 primH : FuncId → Option (List AV → List Cell → Option (AV × List Cell))
 primS : FuncId → Option (List AV → List Cell → Option AV)
 named : List FuncId
 refNm : FuncId → List (Nat × Nat)
 eqs : List Nat
 gm : List FuncId
 gal : List Nat
 tak : List Nat
 primG : FuncId → Option (List AV → List (List Cell) → Option AV)
def Env.box (E : Env) (l gal tak : List Nat) : Env := ⟨E.T, l, E.selfs, E.prim, E.primH, E.primS, E.named, E.refNm, E.eqs, E.gm, gal, tak, E.primG⟩
def Env.isG (E : Env) (f : FuncId) : Bool := E.gm.any (Nat.beq f)
def ty : List (Nat × TI) → Nat → Option TI
 | [], _ => none
 | (t, v) :: r, s => condA (Nat.beq t s) (some v) <| ty r s
def tyN (T : List (Nat × TI)) (t : Nat) : Option TI := match ty T t with | some (.tup _) => none | r => r
abbrev CallF := FuncId → List AV → Heap → Option (AV × Heap)
section
variable {R : Type} (E : Env) (call : CallF)
def buildGen (pl : Nat → Option (Nat × Nat)) : List Cell → List (Nat × AV) → Option (List Cell)
 | cs, [] => some cs
 | cs, (i, v) :: r =>
  match pl i, v.cells? with
  | some (o, n), some new => condA (Nat.beq new.length n && Nat.ble (o + n) cs.length) (buildGen pl (setCells cs o new) r) <| none
  | _, _ => none
def fieldPl (fs : List (Nat × Nat × TypeId)) (i : Nat) : Option (Nat × Nat) := match fs[i]? with | some (o, n, _) => some (o, n) | none => none
def itemPl (sz i : Nat) : Option (Nat × Nat) := some (i * sz, sz)
def evs (st : St) : List (Nat × Operand) → Option (List (Nat × AV))
 | [] => some []
 | (i, x) :: r => match ev st x, evs st r with
  | some v, some l => some ((i, v) :: l)
  | _, _ => none
def evl (st : St) : List Operand → Option (List AV)
 | [] => some []
 | x :: r => match ev st x, evl st r with
  | some v, some l => some (v :: l)
  | _, _ => none
def castV1 (t : TI) (v : V1) (k : V1 → Option R) : Option R :=
 match t with
 | .struct l _ => (match v with | .agg cs => castXs l cs fun cs' => k (.agg cs') | _ => none)
 | .arr l _ _ _ => (match v with | .agg cs => castXs l cs fun cs' => k (.agg cs') | _ => none)
 | t => (match v with | .one c => castC t c fun c' => k (.one c') | _ => none)
def castVs : List TI → List V1 → (List V1 → Option R) → Option R
 | [], vs, k => (match vs with | [] => k [] | _ => none)
 | t :: ts, vs, k => (match vs with | [] => none | v :: r => castV1 t v fun v' => castVs ts r fun r' => k (v' :: r'))
def castV (t : TI) (v : AV) (k : AV → Option R) : Option R :=
 match t with
 | .tup ts => (match v with | .tup vs => castVs ts vs fun vs' => k (.tup vs') | _ => none)
 | t => (match v with
  | .one c => castV1 t (.one c) fun v' => k v'.av
  | .agg cs => castV1 t (.agg cs) fun v' => k v'.av
  | _ => none)
end
end AX
end Go.Proofs.YtnkppakkeobegaaGreatDoor
namespace Go.Proofs.YtnkppakkeobegaaGreatDoor
namespace AX
inductive Ex where
 | normal
 | exit (id : Nat)
 | goto (l : Nat)
 | ret
def hasPtr : Cell → Bool
 | .ptr _ _ => true
 | .eptr _ => true
 | .selfp _ => true
 | .bsl _ _ _ => true
 | .bptr _ _ => true
 | .mapr _ => true
 | .row _ => true
 | .map _ _ => true
 | .own _ _ _ => true
 | _ => false
def plainB : List Cell → Bool
 | .row _ :: _ => false
 | .map _ _ :: _ => false
 | .selfp _ :: _ => false
 | _ => true
def V1.hasPtr (v : V1) : Bool := v.cells.any AX.hasPtr
def AV.hasPtr : AV → Bool
 | .one c => AX.hasPtr c
 | .agg cs => cs.any AX.hasPtr
 | .tup vs => vs.any V1.hasPtr
 | .undef => false
def AV.bare (v : AV) : AV := v.map Cell.bare
def reName1 (d : Nat) : Cell → Cell
 | .sl (some n) sz cs => .sl (some ⟨d, 0, n.elem⟩) sz cs
 | c => c
def reNameV (d : Nat) : AV → AV
 | .one c => .one (reName1 d c)
 | .agg cs => .agg (cs.map Cell.bare)
 | .tup (.one c :: r) => .tup (.one (reName1 d c) :: r.map (V1.map Cell.bare))
 | .tup vs => .tup (vs.map (V1.map Cell.bare))
 | .undef => .undef
def St.clear (st : St) (d : Nat) : St := st.strike (bornAt d)
def St.fix (st : St) (x : Operand) (b : Bool) : St :=
 match x with
 | .tmp t => st.put (some t) (.one (.bool b))
 | _ => st
def St.drop (st : St) (x : Operand) : St :=
 match x with
 | .tmp t => ⟨rm st.fr t, st.H, st.G⟩
 | _ => st
def setBox (H : Heap) (b o : Nat) (new : List Cell) : Option Heap :=
 match H[b]? with
 | some cs => condA (plainB cs && Nat.ble (o + new.length) cs.length) (some (H.set b (setCells cs o new))) <| none
 | none => none
def refsOf : List AV → List Nat → Option (List Nat)
 | [], acc => some acc
 | a :: r, acc =>
  match a with
  | .one (.ptr b _) => refsOf r (condA (acc.any (Nat.beq b)) (acc) <| acc ++ [b])
  | a => condA (a.hasPtr) (none) <| refsOf r acc
def ixOf : List Nat → Nat → Nat
 | [], _ => 0
 | c :: r, b => condA (Nat.beq c b) (0) <| ixOf r b + 1
def refArg (bs : List Nat) : AV → AV
 | .one (.ptr b o) => .one (.ptr (ixOf bs b) o)
 | a => a.bare
def ownAt (own : List (Nat × Nat)) (i j : Nat) : Bool := own.any fun p => Nat.beq p.1 i && Nat.beq p.2 j
def enterCells (own : List (Nat × Nat)) (i : Nat) : Nat → List Cell → List (Nm × Nm) → Option (List Cell × List (Nm × Nm))
  | _, [], es => some ([], es)
  | j, c :: r, es =>
    condA (hasPtr c) (none) <| 
    condA (ownAt own i j) (      (match c with
       | .sl (some L) sz cs => condA (es.any (fun p => isNm L p.2 || isNm ⟨boxSlot i, j, L.elem⟩ p.1)) (none) <| 
         (match enterCells own i (j + 1) r ((⟨boxSlot i, j, L.elem⟩, L) :: es) with
          | some (r', es') => some (.sl (some ⟨boxSlot i, j, L.elem⟩) sz cs :: r', es')
          | none => none)
       | _ => none)) <|
    
      (match enterCells own i (j + 1) r es with
       | some (r', es') => some (c.bare :: r', es')
       | none => none)
def enterH (own : List (Nat × Nat)) (H : Heap) : Nat → List Nat → List (Nm × Nm) → Option (Heap × List (Nm × Nm))
  | _, [], es => some ([], es)
  | i, b :: bs, es =>
    (match H[b]? with
     | none => none
     | some cs => (match enterCells own i 0 cs es with
       | none => none
       | some (cs', es') => (match enterH own H (i + 1) bs es' with
         | none => none
         | some (H', l) => some (cs' :: H', l))))
def goesN (bs : List Nat) (es : List (Nm × Nm)) (n : Nm) : Bool := es.any (fun p => isNm n p.2) || bs.any fun b => bornAt (boxSlot b) n
section
variable {R : Type}
def castLike (c d : Cell) (k : Cell → Option R) : Option R :=
 match c with
 | .int kd _ => castI kd d fun n => k (.int kd n)
 | .bool _ => castB d fun b => k (.bool b)
 | .str _ => castS d fun l => k (.str l)
 | .sl _ sz _ => castL sz d fun _ cs => k (.sl none sz cs)
 | .err _ => castE d fun b => k (.err b)
 | _ => none
def leaveCells (own : List (Nat × Nat)) (i b : Nat) : Nat → List Cell → List Cell → (List Cell → Option R) → Option R
  | _, [], cs, k => (match cs with | [] => k [] | _ => none)
  | j, c :: r, cs, k => (match cs with
    | [] => none
    | d :: s =>
      condA (ownAt own i j) (        (match c with
         | .sl (some L) sz _ => castN L.elem sz d fun cs => leaveCells own i b (j + 1) r s fun r' => k (.sl (some ⟨boxSlot b, j, L.elem⟩) sz cs :: r')
         | _ => none)) <|
      castLike c d fun d' => leaveCells own i b (j + 1) r s fun r' => k (d' :: r'))
def leaveH (own : List (Nat × Nat)) (H : Heap) : Nat → List Nat → Heap → Heap → (Heap → Option R) → Option R
 | _, [], H1, HH, k => (match H1 with | [] => k HH | _ => none)
 | i, b :: bs, H1, HH, k => (match H1 with
  | [] => none
  | cs :: H1' => (match H[b]? with
   | none => none
   | some old => leaveCells own i b 0 old cs fun cs' => leaveH own H (i + 1) bs H1' (HH.set b cs') k))
end
def canonCells (i : Nat) : Nat → List Cell → List Cell
 | _, [] => []
 | j, c :: r => c.strike (fun L => !(Nat.beq L.slot (boxSlot i) && Nat.beq L.ix j)) :: canonCells i (j + 1) r
def canonH : Nat → Heap → Heap
 | _, [] => []
 | i, b :: r => canonCells i 0 b :: canonH (i + 1) r
def eqFs (eq : Nat → List Cell → List Cell → Option Bool) (xs ys : List Cell) : List (Nat × Nat × TypeId) → Option Bool
  | [] => some true
  | (o, n, t) :: r =>
    (match eq t ((xs.drop o).take n) ((ys.drop o).take n) with
     | some a => (match eqFs eq xs ys r with
       | some b => some (a && b)
       | none => none)
     | none => none)
def eqT (T : List (Nat × TI)) (ok : List Nat) : Nat → Nat → List Cell → List Cell → Option Bool
  | 0, _, _, _ => none
  | d + 1, t, xs, ys =>
    (match tyN T t with
     | some (.struct _ fs) => condA (ok.any (Nat.beq t)) (eqFs (eqT T ok d) xs ys fs) <| none
     | some (.int k) =>
       (match xs, ys with
        | [.int k1 a], [.int k2 b] => if k1 = k ∧ k2 = k then some (a == b) else none
        | _, _ => none)
     | some .str =>
       (match xs, ys with
        | [.str a], [.str b] => some (a == b)
        | _, _ => none)
     | some .bool =>
       (match xs, ys with
        | [.bool a], [.bool b] => some (a == b)
        | _, _ => none)
     | _ => none)
def binE {R : Type} (E : Env) (t : Nat) (yc : Bool) (op : BinOp) (a b : AV) (k : Cell → Option R) : Option R :=
  match a, b with
  | .agg xs, .agg ys =>
    (match tyN E.T t with
     | some (.struct _ _) => (match eqT E.T E.eqs 8 t xs ys with
       | some r => (match op with
         | .eql => k (.bool r)
         | .neq => k (.bool (!r))
         | _ => none)
       | none => none)
     | _ => none)
  | .one x, .one y => binK (ty E.T t) yc op (.one x) (.one y) k
  | _, _ => none
section
variable {R : Type} (E : Env) (call : CallF)
def born (full : Bool) (d : Option Nat) (e : TypeId) (sz : Nat) (cs : List Cell) (st : St) (k : AV → St → Option R) : Option R :=
 condA (full) ((match d with
  | some d => k (.one (.sl (some ⟨d, 0, e⟩) sz cs)) (st.clear d)
  | none => none)) <|
 k (.one (.sl none sz cs)) st
def packK (t : TI) (l : List Cell) (k : AV → Option R) : Option R :=
 condA (t.isAgg) (k (.agg l)) <| (match l with | [c] => k (.one c) | _ => none)
def loadK (t : TI) (st : St) (p : AV) (k : AV → Option R) : Option R :=
  match p with
  | .one (.ptr b o) =>
    (match st.H[b]? with
     | some cs => condA (Nat.ble (o + t.leaves.length) cs.length) (castCs t.leaves (cs.drop o) fun l => packK t l k) <| none
     | none => none)
  | .one (.eptr cs) => castDs t.leaves cs fun l => packK t l k
  | _ => none
def dataK : List Cell → (List Cell → Option R) → Option R
 | [], k => k []
 | c :: r, k => condA (hasPtr c) (none) <| dataK r fun r' => k (c.bare :: r')
def partsK : List (Nat × AV) → (List (Nat × AV) → Option R) → Option R
 | [], k => k []
 | (i, v) :: r, k => (match v.cells? with
  | some cs => dataK cs fun cs' => partsK r fun r' => k ((i, .agg cs') :: r')
  | none => none)
def appendK (full : Bool) (d : Option Nat) (e : TypeId) (sz bytes : Nat) (s : AV) (new : List Cell) (st : St) (k : AV → St → Option R) : Option R :=
  condA (full) (    (match s, d with
     | .one (.sl (some n) s cs), some d =>
       condA ((Nat.beq s sz || Nat.beq s 0) && Nat.beq n.elem e) (         guardB (decide ((cs.length + new.length) * bytes ≤ rowLim)) (k (.one (.sl (some ⟨d, 0, e⟩) sz (cs ++ new))) ((st.strike (isNm n)).clear d))) <|
       none
     | _, _ => none)) <|
  none
def boundK (st : St) (x : Option Operand) (k : Option Int → Option R) : Option R :=
 match x with
 | none => k none
 | some y => (match asInt? (ev st y) with | some n => k (some n) | none => none)
def boundsK (st : St) (lo hi : Option Operand) (k : Option Int → Option Int → Option R) : Option R := boundK st lo fun a => boundK st hi fun b => k a b
def selfZ (t : TypeId) (zs : List Cell) : List Cell :=
 match zs with
 | [a, c] => (match a with | .nilp => [.selfp t, c] | a => [a, c])
 | zs => zs
def namesIn : List Cell → Nm → Bool
 | [], _ => false
 | .sl (some L) _ _ :: r, n => isNm L n || namesIn r n
 | _ :: r, n => namesIn r n
def toG : Cell → Cell
 | .sl (some L) sz l => .own L.elem sz l
 | c => c
def nodupNm : List Cell → Bool
 | [] => true
 | .sl (some L) _ _ :: r => !(namesIn r L) && nodupNm r
 | _ :: r => nodupNm r
def okG (cs : List Cell) : Bool := !(cs.any hasPtr) && nodupNm cs
def galloc (st : St) (cs : List Cell) (k : AV → St → Option R) : Option R :=
 match st.G with
 | none => none
 | some G => k (.one (.gptr G.length 0)) ⟨strikeFr (namesIn cs) st.fr, strikeH (namesIn cs) st.H, some (G ++ [cs.map toG])⟩
def gobj (G : Option Heap) (b : Nat) (k : Heap → List Cell → Option R) : Option R :=
 match G with
 | none => none
 | some G => (match G[b]? with | some cs => k G cs | none => none)
def castGL (sz : Nat) (c : Cell) (k : List Cell → Option R) : Option R :=
 match c with
 | .own _ s l => condA (Nat.beq s sz) (k l) none
 | .sl _ s l => condA (Nat.beq s sz || Nat.beq s 0) (k l) none
 | _ => none
def castG (t : TI) (c : Cell) (k : Cell → Option R) : Option R :=
 match t with
 | .slice _ sz => castGL sz c fun l => k (.sl none sz l)
 | t => castD t c k
def castGs : List TI → List Cell → (List Cell → Option R) → Option R
 | [], _, k => k []
 | t :: ts, cs, k => (match cs with | [] => none | c :: r => castG t c fun c' => castGs ts r fun r' => k (c' :: r'))
def castOwn (e : TypeId) (sz : Nat) (c : Cell) (k : List Cell → Option R) : Option R :=
 match c with
 | .own e' s l => condA (Nat.beq s sz && Nat.beq e' e) (k l) none
 | _ => none
def castNm (L : Nm) (sz : Nat) (c : Cell) (k : List Cell → Option R) : Option R :=
 match c with
 | .sl (some n) s cs => condA ((Nat.beq s sz || Nat.beq s 0) && (isNm n L && Nat.beq n.elem L.elem)) (k cs) <| none
 | _ => none
def castSp (b : Nat) (c : Cell) (k : Option R) : Option R :=
 match c with
 | .selfp b' => condA (Nat.beq b' b) k <| none
 | _ => none
def likeCells : List Cell → List Cell → (List Cell → Option R) → Option R
  | [], cs, k => (match cs with | [] => k [] | _ => none)
  | c :: r, cs, k => (match cs with
    | [] => none
    | d :: s =>
      (match c with
       | .sl (some L) sz _ => castNm L sz d fun cs => likeCells r s fun r' => k (.sl (some L) sz cs :: r')
       | .selfp t => castSp t d (likeCells r s fun r' => k (.selfp t :: r'))
       | c => castLike c d fun d' => likeCells r s fun r' => k (d' :: r')))
def isBoxed (E : Env) (d : Option Nat) : Bool := match d with | some d => E.boxed.any (Nat.beq d) | none => false
def rowK (H : Heap) (b : Nat) (k : List Cell → Option R) : Option R :=
 match H[b]? with
 | some cs => (match cs with | c :: r => (match c, r with | .row xs, [] => k xs | _, _ => none) | [] => none)
 | none => none
def keyEq (a b : Cell) : Option Bool :=
 match a, b with
 | .int k x, .int k' y => condA (decide (k = k')) (some (x == y)) none
 | .str x, .str y => some (x == y)
 | .bool x, .bool y => some (x == y)
 | _, _ => none
def findE (key : Cell) : List (Cell × Cell × Nat) → Nat → Option (Option (Nat × Cell))
 | [], _ => some none
 | (k, v, _) :: r, i =>
  match keyEq key k with
  | some true => some (some (i, v))
  | some false => findE key r (i + 1)
  | none => none
def setVal (ks : List (Cell × Cell × Nat)) (i : Nat) (v : Cell) : List (Cell × Cell × Nat) := ks.modify i fun e => (e.1, v, e.2.2)
def lookK (key : Cell) (ks : List (Cell × Cell × Nat)) (z : Cell) (k : Cell → Bool → Option R) : Option R :=
 match findE key ks 0 with
 | some (some (_, v)) => k v true
 | some none => k z false
 | none => none
def updK (key v : Cell) (ck : Nat) (ks : List (Cell × Cell × Nat)) (k : Nat → List (Cell × Cell × Nat) → Option R) : Option R :=
 match findE key ks 0 with
 | some (some (i, _)) => k ck (setVal ks i v)
 | some none => k (ck + 1) (ks ++ [(key, v, ck)])
 | none => none
def mapK (H : Heap) (b : Nat) (k : Nat → List (Cell × Cell × Nat) → Option R) : Option R :=
 match H[b]? with
 | some cs => (match cs with | c :: r => (match c, r with | .map ck ks, [] => k ck ks | _, _ => none) | [] => none)
 | none => none
def keyT : TI → Bool
 | .int _ => true
 | .str => true
 | .bool => true
 | _ => false
def rowAt (cs : List Cell) (o : Nat) (k : Cell → Option R) : Option R :=
 match cs[o]? with
 | some c => k c
 | none => none
def loadR (t : TI) (cs : List Cell) (o : Nat) (k : AV → Option R) : Option R :=
 condA (Nat.beq t.leaves.length 1) (rowAt cs o fun c => castDs t.leaves [c] fun l => packK t l k) <|
 condA (Nat.ble (o + t.leaves.length) cs.length) (castDs t.leaves (cs.drop o) fun l => packK t l k) <| none
def putR (cs : List Cell) (o : Nat) (new : List Cell) (k : List Cell → Option R) : Option R :=
 match new with
 | [c] => condA (Nat.blt o cs.length) (k (cs.set o c)) <| none
 | new => condA (Nat.ble (o + new.length) cs.length) (k (setCells cs o new)) <| none
def loadG (t : TI) (cs : List Cell) (o : Nat) (k : AV → Option R) : Option R :=
 condA (Nat.beq t.leaves.length 1) (rowAt cs o fun c => castGs t.leaves [c] fun l => packK t l k) <|
 condA (Nat.ble (o + t.leaves.length) cs.length) (castGs t.leaves (cs.drop o) fun l => packK t l k) <| none
def inL (l : List Nat) (d : Option Nat) : Bool := match d with | some d => l.any (Nat.beq d) | none => false
def takeG (t : TI) (st : St) (d : Option Nat) (G : Heap) (b : Nat) (cs : List Cell) (o : Nat) (k : AV → St → Option R) : Option R :=
 match d, t with
 | some d, .slice e sz => rowAt cs o fun c => castOwn e sz c fun l => k (.one (.sl (some ⟨d, 0, e⟩) sz l)) ⟨(st.clear d).fr, (st.clear d).H, some (G.set b (cs.set o (.sl none sz l)))⟩
 | _, _ => none
def cutOwn (e : TypeId) (sz : Nat) (nm : Option Nm) (cs : List Cell) (d : Option Nat) (lo hi : Option Operand) (st : St) (k : AV → St → Option R) : Option R :=
 match d, nm, hi with
 | some d, some L, none => condA (Nat.beq L.elem e) (boundK st lo fun lo' => cutK (cs.length / sz) lo' none fun p _ => k (.one (.sl (some ⟨d, 0, e⟩) sz (cs.drop (p * sz)))) ((st.strike (isNm L)).clear d)) none
 | _, _, _ => none
def callG (f : FuncId) (o : Oper) (args : List AV) (st : St) (k : AV → St → Option R) : Option R :=
  condA (args.any AV.hasPtr) none <|
  match st.G with
  | none => none
  | some G => (match call f (args.map AV.bare) G with
    | none => none
    | some (v, G') =>
      condA (E.named.any (Nat.beq f)) ((match o.dst, ty E.T o.type with
        | some d, some (.slice e sz) => (match v with
          | .one c => castN e sz c fun cs => k (.one (.sl (some ⟨d, 0, e⟩) sz cs)) ⟨(st.clear d).fr, (st.clear d).H, some G'⟩
          | _ => none)
        | some d, some (.tup (.slice e sz :: ts)) => (match v with
          | .tup (.one c :: r) => castN e sz c fun cs => castVs ts r fun r' => condA (r'.any V1.hasPtr) (none) <| k (.tup (.one (.sl (some ⟨d, 0, e⟩) sz cs) :: r'.map (V1.map Cell.bare))) ⟨(st.clear d).fr, (st.clear d).H, some G'⟩
          | _ => none)
        | _, _ => none)) <|
      (match ty E.T o.type with
       | some t => castV t v fun v' => condA (v'.hasPtr) (none) <| k v'.bare ⟨st.fr, st.H, some G'⟩
       | none => none))
def callA (full : Bool) (f : FuncId) (o : Oper) (args : List AV) (st : St) (k : AV → St → Option R) : Option R :=
          (match E.primG f with
           | some p =>
             (match st.G with
              | some G => condA (args.any AV.hasPtr) (none) <|
                (match p (args.map AV.bare) G with
                 | some v => (match ty E.T o.type with
                   | some t => castV t v fun v' => condA (v'.hasPtr) (none) <| k v'.bare st
                   | none => none)
                 | none => none)
              | none => none)
           | none =>
           match E.prim f with
           | some p =>
             condA (args.any AV.hasPtr) (none) <| 
             (match p (args.map AV.bare) with
              | some v => (match ty E.T o.type with
                | some t => castV t v fun v' => condA (v'.hasPtr) (none) <| k v'.bare st
                | none => none)
              | none => none)
           | none =>
           (match E.primH f with
            | some p => condA (full) ((match args with
              | .one (.ptr b 0) :: rest =>
                condA (rest.any AV.hasPtr) none <|
                (match st.H[b]? with
                 | some old => (match p (.one (.ptr b 0) :: rest.map AV.bare) old with
                   | some (v, new) => likeCells old new fun new' =>
                     (match ty E.T o.type with
                      | some t => castV t v fun v' => condA (v'.hasPtr) (none) <| k v'.bare ⟨strikeFr (namesIn old) st.fr, (strikeH (namesIn old) st.H).set b new', st.G⟩
                      | none => none)
                   | none => none)
                 | none => none)
              | _ => none)) <| none
            | none =>
              (match E.primS f with
               | some p => condA (full) ((match args with
                 | .one (.ptr b 0) :: rest =>
                   condA (rest.any AV.hasPtr) none <|
                   (match st.H[b]? with
                    | some old => (match p (.one (.ptr b 0) :: rest.map AV.bare) old with
                      | some v =>
                        (match ty E.T o.type with
                         | some t => castV t v fun v' => condA (v'.hasPtr) (none) <| k v'.bare (st.strike (namesIn old))
                         | none => none)
                      | none => none)
                    | none => none)
                 | _ => none)) <| none
               | none =>
                condA (E.isG f) (condA full (callG E call f o args st k) none) <|
                condA (args.any AV.hasPtr) (              (condA (full) (               (match refsOf args [] with
                   | none => none
                   | some bs => (match enterH (E.refNm f) st.H 0 bs [] with
                     | none => none
                     | some (H0, es) => (match call f (args.map (refArg bs)) H0 with
                       | none => none
                       | some (v, H1) => leaveH (E.refNm f) st.H 0 bs H1 (strikeH (goesN bs es) st.H) fun H' =>
                         (match ty E.T o.type with
                          | some t => castV t v fun v' => condA (v'.hasPtr) (none) <| k v'.bare ⟨strikeFr (goesN bs es) st.fr, H', st.G⟩
                          | none => none))))) <|
                 none)) <| 
                (match call f (args.map AV.bare) [] with
                 | some (v, _) =>
                   condA (full && E.named.any (Nat.beq f)) (                  (match o.dst, ty E.T o.type with
                      | some d, some (.slice e sz) => (match v with
                        | .one c => castN e sz c fun cs => k (.one (.sl (some ⟨d, 0, e⟩) sz cs)) (st.clear d)
                        | _ => none)
                      | some d, some (.tup (.slice e sz :: ts)) => (match v with
                        | .tup (.one c :: r) => castN e sz c fun cs => castVs ts r fun r' => condA (r'.any V1.hasPtr) (none) <| k (.tup (.one (.sl (some ⟨d, 0, e⟩) sz cs) :: r'.map (V1.map Cell.bare))) (st.clear d)
                        | _ => none)
                      | some d, some (.struct l _) => (match v with
                        | .one _ => none
                        | .agg cs => aggN d true 0 l cs fun cs' => k (.agg cs') (st.clear d)
                        | _ => none)
                      | _, _ => none)) <|
                
                     (match ty E.T o.type with
                      | some t => castV t v fun v' => condA (v'.hasPtr) (none) <| k v'.bare st
                      | none => none)
                 | none => none))))
def castClo (c : Cell) (k : FuncId → Nat → List Cell → Option R) : Option R := match c with | .clo f n cs => k f n cs | _ => none
def cloCells : List AV → (List Cell → Option R) → Option R
 | [], k => k []
 | v :: r, k => (match v with | .one c => condA (hasPtr c) none (cloCells r fun cs => k (c.bare :: cs)) | _ => none)
def nilSlot : Nat := 999999
def isGp (st : St) (x : Operand) : Bool := match ev st x with | some (.one (.gptr _ _)) => true | _ => false
def aop (full : Bool) (o : Oper) (st : St) (k : AV → St → Option R) : Option R :=
  match o.op with
  | .move x | .assign x =>
    (match x with
     | .const (.slice none 0 0) =>
       (match ty E.T o.type with
        | some (.slice e sz) => born full o.dst e sz [] st k
        | _ => none)
     | x => (match ev st x with
       | some v => k v st
       | none => none))
  | .pick c a b =>
    (match ev st c with
     | some (.one (.bool t)) =>
       (match t with
        | true => (match ev st a with | some v => k v (st.fix c true) | none => none)
        | false => (match ev st b with | some v => k v (st.fix c false) | none => none))
     | _ => none)
  | .alloc t =>
    condA (full) (condA (inL E.gal o.dst) (match o.dst, tyN E.T t with
      | some d, some ti => galloc (st.clear d) (zeros d 0 ti.leaves) k
      | _, _ => none) (match tyN E.T t with
      | some ti => k (.one (.ptr st.H.length 0)) ⟨(st.clear (boxSlot st.H.length)).fr, (st.clear (boxSlot st.H.length)).H ++ [condA (E.selfs.any (Nat.beq t)) (selfZ t (zeros (boxSlot st.H.length) 0 ti.leaves)) <| zeros (boxSlot st.H.length) 0 ti.leaves], st.G⟩
      | none => none)) <| none
  | .box t x =>
    condA (full) (condA (inL E.gal o.dst) (match tyN E.T t, ev st x with
      | some ti, some v => (match v.cells? with
        | some cs => condA (Nat.beq cs.length ti.leaves.length && okG cs) (galloc st cs k) none
        | none => none)
      | _, _ => none) (match tyN E.T t, ev (st.clear (boxSlot st.H.length)) x with
      | some ti, some v => (match v.cells? with
        | some cs => condA (Nat.beq cs.length ti.leaves.length) (k (.one (.ptr st.H.length 0)) ⟨(st.clear (boxSlot st.H.length)).fr, (st.clear (boxSlot st.H.length)).H ++ [cs], st.G⟩) <| none
        | none => none)
      | _, _ => none)) <| none
  | .build t parts =>
    (match ty E.T t with
     | some (.struct l fs) => (match (condA (full) (o.dst) <| none) with
       | some d => (match evs (st.clear d) parts.toList with
         | some ps => (match buildGen (fieldPl fs) (zeros d 0 l) ps with
           | some cs => k (.agg cs) (st.clear d)
           | none => none)
         | none => none)
       | none => (match evs st parts.toList with
         | some ps => (match buildGen (fieldPl fs) (zerosU l) ps with
           | some cs => k (.agg cs) st
           | none => none)
         | none => none))
     | _ => none)
  | .buildSlice t len parts =>
    (match ty E.T t, evs st parts.toList with
     | some (.slice e sz), some ps =>
       (match tyN E.T e with
        | some ti => partsK ps fun ps' => condA (Nat.blt 0 (len * sz) && Nat.ble (len * sz) 1000000) ((match buildGen (itemPl sz) (List.replicate len (zerosU ti.leaves)).flatten ps' with
          | some cs => born full o.dst e sz cs st k
          | none => none)) <| none
        | none => none)
     | _, _ => none)
  | .makeSlice t x y => condA (full) (
    (match ty E.T t, ev st x, ev st y with
     | some (.slice e sz), some (.one (.int kx n)), some (.one (.int ky m)) =>
       (match tyN E.T e with
        | some ti => condA (decide (kx = .i64) && decide (ky = .i64) && decide (n = m) && decide (0 ≤ n) && decide (n.toNat * sz ≤ 1000000))
           (k (.one (.bsl st.H.length sz n.toNat)) ⟨st.fr, st.H ++ [[.row (List.replicate n.toNat (zerosU ti.leaves)).flatten]], st.G⟩) <| none
        | none => none)
     | _, _, _ => none)) <| none
  | .makeMap t r => condA (full) (
    (match ty E.T t, r with
     | some (.map _ _), none => k (.one (.mapr st.H.length)) ⟨st.fr, st.H ++ [[.map 0 []]], st.G⟩
     | _, _ => none)) <| none
  | .lookup t x y ok =>
    (match ty E.T t, ev st x, ev st y with
     | some (.map kt et), some (.one (.mapr b)), some (.one key) =>
       (match tyN E.T kt, tyN E.T et with
        | some kti, some eti =>
          condA (keyT kti && (!eti.isAgg && !hasPtr key)) (castD kti key fun key' => mapK st.H b fun _ ks => lookK key' ks (zeroU eti) fun c there => castD eti c fun c' =>
            condA ok (k (.tup [.one c', .one (.bool there)]) st) (k (.one c') st)) none
        | _, _ => none)
     | _, _, _ => none)
  | .mapUpdate t m x y | .insert t m x y => condA (full) (
    (match ty E.T t, ev st m, ev st x, ev st y with
     | some (.map kt et), some (.one (.mapr b)), some (.one key), some (.one v) =>
       (match tyN E.T kt, tyN E.T et with
        | some kti, some eti =>
          condA (keyT kti && (!eti.isAgg && (!hasPtr key && !hasPtr v))) (castD kti key fun key' => castD eti v fun v' => mapK st.H b fun ck ks => updK key' v' ck ks fun ck' ks' => k .undef ⟨st.fr, st.H.set b [.map ck' ks'], st.G⟩) none
        | _, _ => none)
     | _, _, _, _ => none)) <| none
  | .load t a =>
    (match ty E.T t, ev st a with
     | some ti, some p =>
       (match p with
        | .one (.bptr b oo) => rowK st.H b fun cs => loadR ti cs oo fun v => k v st
        | .one (.gptr b oo) => gobj st.G b fun G cs => condA (inL E.tak o.dst) (condA full (takeG ti st o.dst G b cs oo k) none) (loadG ti cs oo fun v => k v st)
        | p => loadK ti st p fun v => k v st)
     | _, _ => none)
  | .store t a x => condA (full) (condA (!(notNilRow x) && isGp st a) (match ty E.T t, ev (st.clear nilSlot) a with
     | some (.slice e sz), some (.one (.gptr b oo)) => gobj (st.clear nilSlot).G b fun G cs => putR cs oo ([.sl (some ⟨nilSlot, 0, e⟩) sz []].map toG) fun cs' => k .undef ⟨strikeFr (namesIn [.sl (some ⟨nilSlot, 0, e⟩) sz []]) (st.clear nilSlot).fr, strikeH (namesIn [.sl (some ⟨nilSlot, 0, e⟩) sz []]) (st.clear nilSlot).H, some (G.set b cs')⟩
     | _, _ => none) <|    (match tyN E.T t, ev st a, ev st x with
     | some ti, some (.one (.ptr b oo)), some v => (match v.cells? with
       | some cs => condA (Nat.beq cs.length ti.leaves.length) ((match setBox st.H b oo cs with
         | some H' => k .undef ⟨st.fr, H', st.G⟩
         | none => none)) <| none
       | none => none)
     | some ti, some (.one (.gptr b oo)), some v => (match v.cells? with
       | some new => condA (Nat.beq new.length ti.leaves.length && okG new) (gobj st.G b fun G cs => putR cs oo (new.map toG) fun cs' => k .undef ⟨strikeFr (namesIn new) st.fr, strikeH (namesIn new) st.H, some (G.set b cs')⟩) none
       | none => none)
     | some ti, some (.one (.bptr b oo)), some v => (match v.cells? with
       | some cs => condA (Nat.beq cs.length ti.leaves.length) (dataK cs fun cs' => rowK st.H b fun xs => putR xs oo cs' fun xs' => k .undef ⟨st.fr, st.H.set b [.row xs'], st.G⟩) <| none
       | none => none)
     | _, _, _ => none)) <| none
  | .nilCheck x =>
    (match ev st x with
     | some (.one (.ptr b oo)) => k (.one (.ptr b oo)) st
     | some (.one (.eptr cs)) => k (.one (.eptr cs)) st
     | some (.one (.bptr b oo)) => k (.one (.bptr b oo)) st
     | some (.one (.gptr b oo)) => k (.one (.gptr b oo)) st
     | _ => none)
  | .binOp op t x y _ =>
    (match ev st x, ev st y with
     | some a, some b => binE E t (isConstO y) op a b fun c => k (.one c) st
     | _, _ => none)
  | .unOp op _ x =>
    (match ev st x with
     | some a => (match unA op a with
       | some c => k (.one c) st
       | none => none)
     | _ => none)
  | .convert src dst x =>
    (match ty E.T src, ty E.T dst, ev st x with
     | some (.int _), some (.int kd), some (.one (.int _ n)) => k (.one (.int kd (kd.wrap n))) st
     | some .str, some (.slice e sz), some (.one (.str l)) => condA (Nat.beq sz 1) ((match ty E.T e with
       | some (.int .u8) => condA (isBoxed E o.dst) (condA full (k (.one (.bsl st.H.length 1 l.length)) ⟨st.fr, st.H ++ [[.row (byteCells l)]], st.G⟩) <| none) <| k (.one (.sl none 1 (byteCells l))) st
       | _ => none)) <| none
     | some (.slice e sz), some .str, some (.one (.bsl b _ n)) => condA (Nat.beq sz 1) ((match ty E.T e with
       | some (.int .u8) => rowK st.H b fun cs => condA (Nat.ble n cs.length) (bytesK (cs.take n) fun l => k (.one (.str l)) st) <| none
       | _ => none)) <| none
     | some (.slice e sz), some .str, some (.one (.sl _ s cs)) => condA (Nat.beq sz 1 && (Nat.beq s sz || Nat.beq s 0)) ((match ty E.T e with
       | some (.int .u8) => bytesK cs fun l => k (.one (.str l)) st
       | _ => none)) <| none
     | some (.slice e sz), some (.slice _ _), some (.one (.sl (some L) s cs)) => condA full (condA (Nat.beq src dst && (Nat.beq s sz || Nat.beq s 0) && Nat.blt 0 cs.length) ((match ty E.T e with
       | some (.int .u8) => k (.one (.sl none s cs)) (st.strike (isNm L))
       | _ => none)) none) none
     | _, _, _ => none)
  | .slice t x lo hi none =>
    (match ty E.T t, ev st x with
     | some .str, some (.one (.str l)) =>
       boundsK st lo hi fun lo' hi' => cutK l.length lo' hi' fun a b => k (.one (.str ((l.take b).drop a))) st
     | some (.slice e sz), some (.one (.sl nm s cs)) => condA (Nat.beq s sz || Nat.beq s 0) (condA (inL E.tak o.dst) (condA full (cutOwn e sz nm cs o.dst lo hi st k) none) <|       boundsK st lo hi fun lo' hi' => cutK (cs.length / sz) lo' hi' fun a b => k (.one (.sl none sz ((cs.take (b * sz)).drop (a * sz)))) st) <| none
     | _, _ => none)
  | .fieldAddr t x f =>
    (match ty E.T t, ev st x with
     | some (.struct _ fs), some (.one (.ptr b oo)) => (match fs[f]? with | some (o', _, _) => k (.one (.ptr b (oo + o'))) st | none => none)
     | some (.struct _ fs), some (.one (.eptr cs)) => (match fs[f]? with | some (o', n, _) => k (.one (.eptr ((cs.drop o').take n))) st | none => none)
     | some (.struct _ fs), some (.one (.bptr b oo)) => (match fs[f]? with | some (o', _, _) => k (.one (.bptr b (oo + o'))) st | none => none)
     | some (.struct _ fs), some (.one (.gptr b oo)) => (match fs[f]? with | some (o', _, _) => k (.one (.gptr b (oo + o'))) st | none => none)
     | _, _ => none)
  | .field t x f =>
    (match ty E.T t, ev st x with
     | some (.struct _ fs), some (.agg cs) => (match fs[f]? with
       | some (o', n, t') => (match tyN E.T t' with
         | some ti => condA (ti.isAgg) (k (.agg ((cs.drop o').take n)) st) <| (match cs[o']? with | some c => k (.one c) st | none => none)
         | none => none)
       | none => none)
     | _, _ => none)
  | .indexAddr t x i =>
    (match ty E.T t, ev st x, ev st i with
     | some (.slice _ sz), some (.one (.sl _ s cs)), some (.one (.int _ n)) => condA (Nat.beq s sz || Nat.beq s 0) (       condA (Nat.beq sz 1) (itemK cs n fun c => k (.one (.eptr [c])) st) <| 
       guardB (decide (0 ≤ n) && decide (n.toNat * sz + sz ≤ cs.length)) (k (.one (.eptr ((cs.drop (n.toNat * sz)).take sz))) st)) <| none
     | some (.slice _ sz), some (.one (.bsl b _ m)), some (.one (.int _ n)) => guardB (decide (0 ≤ n) && decide (n.toNat < m)) (k (.one (.bptr b (n.toNat * sz))) st)
     | some (.arr _ len sz _), some (.one (.gptr b oo)), some (.one (.int _ n)) => guardB (decide (0 ≤ n) && decide (n.toNat < len)) (k (.one (.gptr b (oo + n.toNat * sz))) st)
     | some (.arr _ len sz _), some (.one (.ptr b oo)), some (.one (.int _ n)) => condA (isConstO i) (guardB (decide (0 ≤ n) && decide (n.toNat < len)) (k (.one (.ptr b (oo + n.toNat * sz))) st)) (splitI len 0 n fun j => k (.one (.ptr b (oo + j * sz))) st)
     | _, _, _ => none)
  | .index t x i =>
    (match ty E.T t, ev st x, ev st i with
     | some .str, some (.one (.str l)), some (.one (.int _ n)) => itemK l n fun c => k (.one (.int .u8 (c.toNat : Int))) st
     | _, _, _ => none)
  | .makeFunc fn first captured =>
    (match fn with
     | .func f => (match evl st (first.toList ++ captured.toList) with
       | some vs => cloCells vs fun cs => k (.one (.clo f first.size cs)) st
       | none => none)
     | _ => none)
  | .extract t i =>
    (match ev st t with
     | some (.tup vs) => (match vs[i]? with | some v => k v.av st | none => none)
     | _ => none)
  | .call c =>
    (match c.callee with
     | .builtin .len => (match c.argTypes.toList, evl st c.args.toList with
       | [t], some [x] => (match ty E.T t, x with
         | some .str, .one (.str l) => k (.one (.int .i64 (l.length : Int))) st
         | some (.slice _ _), .one (.sl _ sz cs) => k (.one (.int .i64 ((cs.length / sz : Nat) : Int))) st
         | some (.slice _ _), .one (.bsl _ _ n) => k (.one (.int .i64 (n : Int))) st
         | _, _ => none)
       | _, _ => none)
     | .builtin .max => (match evl st c.args.toList with
       | some [.one (.int kd x), .one (.int kd' y)] => condA (decide (kd = kd')) (k (.one (.int kd (maxI x y))) st) none
       | _ => none)
     | .builtin .min => (match evl st c.args.toList with
       | some [.one (.int kd x), .one (.int kd' y)] => condA (decide (kd = kd')) (k (.one (.int kd (minI x y))) st) none
       | _ => none)
     | .builtin .append => (match c.argTypes.toList, evl st c.args.toList with
       | [t, t'], some [s, x] =>
         (match ty E.T t, ty E.T t' with
          | some (.slice e sz), some (.slice _ _) =>
            (match x with
             | .one (.sl _ s' cs) => condA (Nat.beq t t' && (Nat.beq s' sz || Nat.beq s' 0)) (appendK full o.dst e sz 1000 s cs st k) <| none
             | _ => none)
          | _, _ => none)
       | _, _ => none)
     | .value x =>
       (match evl st c.args.toList with
        | some args => (match x with
          | .func f => callA E call full f o args st k
          | x => (match ev st x with
            | some (.one c) => castClo c fun f n cs => callA E call full f o ((cs.take n).map AV.one ++ args ++ (cs.drop n).map AV.one) st k
            | _ => none))
        | none => none)
     | _ => none)
  | _ => none

def dstOf (ops : Array Oper) (j : Nat) : Option Nat := (ops[j]?).bind (·.dst)
def aops (all : Array Oper) : List Oper → (St → Option R) → St → Option R
  | [], k, st => k st
  | o :: r, k, st =>
    match o.guard with
    | none => aop E call true o st fun v st' => aops all r k (st'.put o.dst v)
    | some (j, want) =>
      (match dstOf all j with
       | none => none
       | some d => (match lk st.fr d with
         | some (.one (.bool b)) =>
           (match b with
            | true => condA (want) (aop E call true o (st.fix (.tmp d) true) fun v st' => aops all r k (st'.put o.dst v)) <| aops all r k ((st.fix (.tmp d) true).put o.dst .undef)
            | false => condA (want) (aops all r k ((st.fix (.tmp d) false).put o.dst .undef)) <| aop E call true o (st.fix (.tmp d) false) fun v st' => aops all r k (st'.put o.dst v))
         | some .undef => aops all r k (st.put o.dst .undef)
         | _ => none))
def only (l : List Nat) : List (Nat × AV) → List (Nat × AV)
 | [] => []
 | (s, v) :: r => condA (l.any (Nat.beq s)) ((s, v) :: only l r) <| only l r
def allocOf : Op → Option TypeId
 | .alloc t => some t
 | _ => none
def aheads (all : Array Oper) : List Oper → (St → Option R) → St → Option R
  | [], k, st => k st
  | o :: r, k, st =>
    match o.dst with
    | none => none
    | some e =>
    match o.guard with
    | none => (match allocOf o.op with
      | some t => (match tyN E.T t with
        | some _ => aheads all r k ⟨rm st.fr e, st.H, st.G⟩
        | none => none)
      | none => aop E call false o ⟨only (o.looksAt all) st.fr, st.H, st.G⟩ fun v _ => aheads all r k (st.put (some e) v))
    | some (j, want) =>
      (match dstOf all j with
       | none => none
       | some d => (match lk st.fr d with
         | some (.one (.bool b)) =>
           (match b with
            | true => condA (want) (aop E call false o ⟨only (o.looksAt all) (st.fix (.tmp d) true).fr, st.H, st.G⟩ fun v _ => aheads all r k ((st.fix (.tmp d) true).put (some e) v)) <| aheads all r k ((st.fix (.tmp d) true).put (some e) .undef)
            | false => condA (want) (aheads all r k ((st.fix (.tmp d) false).put (some e) .undef)) <| aop E call false o ⟨only (o.looksAt all) (st.fix (.tmp d) false).fr, st.H, st.G⟩ fun v _ => aheads all r k ((st.fix (.tmp d) false).put (some e) v))
         | some .undef => aheads all r k (st.put (some e) .undef)
         | _ => none))

def indepOp (b0 : Nat) (st : St) (o : Oper) : Bool :=
 match o.op with
 | .load _ a => (match ev st a with | some (.one (.ptr b _)) => !(Nat.beq b b0) | some (.one (.eptr _)) => true | _ => false)
 | .move _ | .assign _ | .build _ _ | .nilCheck _ | .binOp _ _ _ _ _ | .unOp _ _ _ | .fieldAddr _ _ _ | .field _ _ _ | .extract _ _ | .index _ _ _ => true
 | _ => false
def plainC : Cell → Bool
 | .int _ _ => true
 | .bool _ => true
 | .str _ => true
 | _ => false
def storesAt (b0 : Nat) (all : Array Oper) (st : St) : List Oper → Bool
  | [] => false
  | o :: _ =>
    (match o.guard, o.dst, o.op with
     | none, none, .store _ a x => (match ev ⟨only (o.looksAt all) st.fr, st.H, st.G⟩ a, ev ⟨only (o.looksAt all) st.fr, st.H, st.G⟩ x with
       | some (.one (.ptr b _)), some v => Nat.beq b b0 && (match v.cells? with | some cs => cs.all plainC | none => false)
       | _, _ => false)
     | _, _, _ => false)
def aheadsI (b0 : Nat) (all : Array Oper) : List Oper → (St → Option R) → St → Option R
  | [], k, st => k st
  | o :: r, k, st =>
    match o.dst, o.guard with
    | some e, none => condA (indepOp b0 ⟨only (o.looksAt all) st.fr, st.H, st.G⟩ o)
        (match aop E call false o ⟨only (o.looksAt all) st.fr, st.H, st.G⟩ (fun v _ => some v) with
         | some v => aheadsI b0 all r k (st.put (some e) v)
         | none => none) none
    | _, _ => none
def plainQ : Cell → Bool
 | .int _ _ => true
 | .bool _ => true
 | .str _ => true
 | .ptr _ _ => true
 | _ => false
def V1.plainP : V1 → Bool
 | .one c => plainQ c
 | .agg cs => cs.all plainQ
def AV.plainP : AV → Bool
 | .one c => plainQ c
 | .agg cs => cs.all plainQ
 | .tup vs => vs.all V1.plainP
 | .undef => true
def keepFr (fr : List (Nat × AV)) : List Nat → List (Nat × AV)
 | [] => []
 | d :: r => (match lk fr d with
  | some v => condA v.plainP ((d, v) :: keepFr fr r) (keepFr fr r)
  | none => keepFr fr r)
def rmAll (fr : List (Nat × AV)) : List Nat → List (Nat × AV)
 | [] => fr
 | d :: r => rm (rmAll fr r) d
def dstL : List Oper → List Nat
 | [] => []
 | o :: r => (match o.dst with
  | some d => d :: dstL r
  | none => dstL r)
def aloneB (e : Nat) (l : List Oper) : Bool := (dstL l).all fun d => !(Nat.beq d e)
def aheadsA (p s : Nat) (all : Array Oper) (k : St → Option R) (st : St) : Option R :=
 match all.toList.drop p with
 | [] => none
 | o :: _ => (match allocOf o.op, o.guard, o.dst with
  | some _, none, some e =>
   condA (!(inL E.gal (some e)) && Nat.blt p s && (aloneB e (all.toList.take p) && aloneB e ((all.toList.take s).drop (p + 1))))
    (aheads E call all (all.toList.take s) (fun st2 => aop E call true o ⟨keepFr st2.fr (dstL (all.toList.take s)) ++ rmAll st.fr (dstL (all.toList.take s)), st.H, st.G⟩ fun v st3 => aops E call all (all.toList.drop s) k (st3.put (some e) v)) st) none
  | _, _, _ => none)
def pickFr (fr : List (Nat × AV)) : List Nat → List (Nat × AV)
  | [] => []
  | s :: r =>
    condA (Nat.ble 10000000 s) (      (match lk fr (s - 10000000) with
       | none => pickFr fr r
       | some v => (s - 10000000, v.bare) :: pickFr fr r)) <|
    
      (match lk fr s with
       | none => pickFr fr r
       | some (.one c) => (s, .one c) :: pickFr fr r
       | some v => (s, v.bare) :: pickFr fr r)
def setFr (s : Nat) (v : AV) : List (Nat × AV) → List (Nat × AV)
 | [] => []
 | (t, u) :: r => condA (Nat.beq t s) ((t, v) :: setFr s v r) <| (t, u) :: setFr s v r
def eitherNm (L N n : Nm) : Bool := isNm L n || isNm N n
def renSlot (st : St) (s : Nat) : St :=
 match lk st.fr s with
 | some (.one (.sl (some L) sz cs)) =>
  condA (isNm L ⟨s, 0, L.elem⟩) (st) <|
   ⟨setFr s (.one (.sl (some ⟨s, 0, L.elem⟩) sz cs)) (strikeFr (eitherNm L ⟨s, 0, L.elem⟩) st.fr), strikeH (eitherNm L ⟨s, 0, L.elem⟩) st.H, st.G⟩
 | _ => st
def renCell (b : Nat) (st : St) (i : Nat) : St :=
  match st.H[b]? with
  | some cs =>
    (match cs[i]? with
     | some (.sl (some L) sz xs) =>
       condA (isNm L ⟨boxSlot b, i, L.elem⟩) (st) <| 
         ⟨strikeFr (eitherNm L ⟨boxSlot b, i, L.elem⟩) st.fr, (strikeH (eitherNm L ⟨boxSlot b, i, L.elem⟩) st.H).set b ((cs.map (Cell.strike (eitherNm L ⟨boxSlot b, i, L.elem⟩))).set i (.sl (some ⟨boxSlot b, i, L.elem⟩) sz xs)), st.G⟩
     | _ => st)
  | none => st
def renBox (st : St) (b : Nat) : St :=
 match st.H[b]? with
 | some cs => (List.range cs.length).foldl (renCell b) st
 | none => st
def ptrBelow (n : Nat) : Cell → Bool
 | .ptr b _ => Nat.blt b n
 | .bsl b _ _ => Nat.blt b n
 | .bptr b _ => Nat.blt b n
 | .mapr b => Nat.blt b n
 | _ => true
def AV.ptrBelow (n : Nat) : AV → Bool
 | .one c => AX.ptrBelow n c
 | .agg cs => cs.all (AX.ptrBelow n)
 | .tup vs => vs.all fun v => v.cells.all (AX.ptrBelow n)
 | .undef => true
def prune (keep : List Nat) (hk : Nat) (st : St) : Option St :=
 condA ((pickFr st.fr keep).all (fun p => p.2.ptrBelow hk) && (st.H.take hk).all (fun b => b.all (ptrBelow hk))) (    some ((List.range (st.H.take hk).length).foldl renBox (keep.foldl renSlot ⟨pickFr st.fr keep, st.H.take hk, st.G⟩))) <| none
def hintOf : List (Nat × List Nat × Nat) → Nat → Option (List Nat × Nat)
 | [], _ => none
 | (i, h) :: r, id => condA (Nat.beq i id) (some h) <| hintOf r id
def pruneAt (hints : List (Nat × List Nat × Nat)) (id : Nat) (st : St) : Option St :=
 match hintOf hints id with
 | none => some st
 | some (keep, hk) => prune keep hk st
def condSt (hints : List (Nat × List Nat × Nat)) (c : Operand) (b : Bool) (st : St) : St :=
 match c with
 | .tmp s => (match hintOf hints (3000000 + s) with
  | none => st.drop (.tmp s)
  | some _ => st.fix (.tmp s) b)
 | c => st.drop c
def planOf : Nat → Nat → List (Nat × Nat)
 | 0, _ => []
 | f + 1, n => ((n % 4096) / 8, n % 8) :: planOf f (n / 4096)
def seqBase : Nat := 1099511627776
def clsOf : List (Nat × Nat) → Nat → Nat
 | [], _ => 2
 | (i, c) :: r, j => condA (Nat.beq i j) c (clsOf r j)
def stillOp : Op → Bool
 | .move x => notNilRow x
 | .assign x => notNilRow x
 | .pick _ _ _ => true
 | .nilCheck _ => true
 | .extract _ _ => true
 | .fieldAddr _ _ _ => true
 | _ => false
def refCallK (o : Oper) (t : Nat) (st : St) (k : AV → St → Option R) : Option R :=
  match o.op with
  | .call c => (match c.callee, evl st c.args.toList, lk st.fr t with
    | .value (.func f), some asl, some (.one (.ptr bb _)) => condA (E.isG f || ((E.prim f).isSome || ((E.primH f).isSome || (E.primS f).isSome))) none
      (match refsOf asl [] with
       | none => none
       | some bs => condA (inL bs (some bb)) none (match enterH (E.refNm f) st.H 0 bs [] with
         | none => none
         | some (H0, es) => (match call f (asl.map (refArg bs)) H0 with
           | none => none
           | some (v, H1) => leaveH (E.refNm f) st.H 0 bs H1 (strikeH (goesN bs es) st.H) fun H' =>
             (match ty E.T o.type with
              | some t => castV t v fun v' => condA (v'.hasPtr) (none) <| k v'.bare ⟨strikeFr (goesN bs es) st.fr, H', st.G⟩
              | none => none))))
    | _, _, _ => none)
  | _ => none
def boxAt (st : St) (s b : Nat) : Bool := match lk st.fr s with | some (.one (.ptr bb _)) => Nat.beq bb b | _ => false
def boxNot (st : St) (s b : Nat) : Bool := match lk st.fr s with | some (.one (.ptr bb _)) => !(Nat.beq bb b) | _ => false
def plainBoxK (st : St) (b : Nat) (x : Option R) : Option R := match st.H[b]? with
 | some (.str _ :: _) => x
 | some (.int _ _ :: _) => x
 | some (.bool _ :: _) => x
 | _ => none
def seqAt (t : Nat) (st : St) (x : Option R) : Option R := condA (Nat.beq t 0) x (match lk st.fr (t - 1) with | some (.one (.ptr _ _)) => x | _ => none)
def stillAt (o : Op) (st : St) : Bool :=
 match o with
 | .nilCheck x => (match ev st x with | some (.one (.ptr _ _)) => true | some (.one (.gptr _ _)) => true | _ => false)
 | .fieldAddr _ x _ => (match ev st x with | some (.one (.ptr _ _)) => true | some (.one (.gptr _ _)) => true | _ => false)
 | _ => true
def seqRun (t c : Nat) (o : Oper) (st : St) (k : AV → St → Option R) : Option R :=
 match c with
 | 0 => condA (stillOp o.op && stillAt o.op st) (aop E call true o st k) none
 | 1 => (match o.op with
  | .load _ a => (match ev st a with
   | some (.one (.ptr b _)) => condA (Nat.beq t 0 || boxAt st (t - 1) b) (plainBoxK st b (aop E call true o st k)) none
   | some (.one (.gptr _ _)) => condA (Nat.beq t 0) (aop E call true o st k) none
   | _ => none)
  | _ => none)
 | 2 => aop E call true o st k
 | 3 => condA (Nat.beq t 0) (aop E call false o st k) none
 | 5 => (match o.op with
  | .load _ a => (match ev st a with
   | some (.one (.ptr b _)) => plainBoxK st b (aop E call true o st k)
   | some (.one (.gptr _ _)) => aop E call true o st k
   | _ => none)
  | _ => none)
 | 6 => condA (Nat.beq t 0) none (match o.op with
  | .store _ a _ => (match ev st a with
   | some (.one (.ptr b _)) => condA (boxNot st (t - 1) b) (plainBoxK st b (aop E call true o st k)) none
   | _ => none)
  | _ => none)
 | _ => condA (Nat.beq t 0) none (refCallK E call o (t - 1) st k)
def aseq (all : Array Oper) (t : Nat) : List (Nat × Nat) → (St → Option R) → St → Option R
  | [], k, st => k st
  | (i, c) :: r, k, st =>
    (match all[i]? with
     | none => none
     | some o =>
      (match o.guard with
       | none => seqRun E call t c o st fun v st' => aseq all t r k (st'.put o.dst v)
       | some (j, want) =>
         (match dstOf all j with
          | none => none
          | some d => (match lk st.fr d with
            | some (.one (.bool b)) =>
              (match b with
               | true => condA (want) (seqRun E call t c o (st.fix (.tmp d) true) fun v st' => aseq all t r k (st'.put o.dst v)) <| aseq all t r k ((st.fix (.tmp d) true).put o.dst .undef)
               | false => condA (want) (aseq all t r k ((st.fix (.tmp d) false).put o.dst .undef)) <| seqRun E call t c o (st.fix (.tmp d) false) fun v st' => aseq all t r k (st'.put o.dst v))
            | some .undef => aseq all t r k (st.put o.dst .undef)
            | _ => none))))
def regionK (hd : Nat) (ops : Array Oper) (k : St → Option R) (st : St) : Option R :=
 condA (Nat.ble seqBase hd) (seqAt ((hd - seqBase) % 4096) st (aseq E call ops ((hd - seqBase) % 4096) (planOf ops.size ((hd - seqBase) / 4096)) k st)) <|
 condA (Nat.ble 1000000 hd) (aheadsA E call (hd / 1000000 - 1) (hd % 1000000) ops k st) <|
 condA (Nat.ble 1000 hd)
  (aheadsI E call (hd / 1000 - 1) ops (ops.toList.take (hd % 1000)) (fun st1 => condA (storesAt (hd / 1000 - 1) ops st1 (ops.toList.drop (hd % 1000))) (aops E call ops (ops.toList.drop (hd % 1000)) k st1) none) st) <|
 aheads E call ops (ops.toList.take hd) (aops E call ops (ops.toList.drop hd) k) st
def firstRegion : Code → Nat
 | .region id _ _ => id
 | .seq a b => (match a with | .label _ => firstRegion b | .skip => firstRegion b | a => firstRegion a)
 | .cond _ a _ => firstRegion a
 | .block _ c | .loop c | .scope c => firstRegion c
 | _ => 0
def loopKey (c : Code) : Nat := 1000000 + firstRegion c
def kSeq (b : (Ex → St → Option R) → St → Option R) (k : Ex → St → Option R) : Ex → St → Option R
 | .normal, st => b k st
 | .exit i, st => k (.exit i) st
 | .goto l, st => k (.goto l) st
 | .ret, st => k .ret st
def kBlk (id : Nat) (k : Ex → St → Option R) : Ex → St → Option R
 | .normal, st => k .normal st
 | .exit i, st => condA (Nat.beq i id) (k .normal st) <| k (.exit i) st
 | .goto l, st => k (.goto l) st
 | .ret, st => k .ret st
def kGoto (l : Nat) (b : St → Option R) (k : Ex → St → Option R) : Ex → St → Option R
 | .normal, st => k .normal st
 | .exit i, st => k (.exit i) st
 | .goto l', st => condA (Nat.beq l' l) (b st) <| none
 | .ret, st => k .ret st
def forceNm (id : Nat) (o : Option Nm) (k : Option Nm → Option R) : Option R :=
 match o with
 | none => k none
 | some n => (match n with | ⟨a, b, c⟩ => k (some ⟨a, b, c⟩))
def forceCell (id : Nat) (c : Cell) (k : Cell → Option R) : Option R :=
 match c with
 | .int kd n => k (.int kd n)
 | .bool b => k (.bool b)
 | .str l => k (.str l)
 | .sl nm sz cs => forceNm id nm fun nm => k (.sl nm sz cs)
 | .nilp => k .nilp
 | .ptr b o => k (.ptr b o)
 | .eptr cs => k (.eptr cs)
 | .err b => k (.err b)
 | .selfp b => k (.selfp b)
 | .bsl b sz n => k (.bsl b sz n)
 | .bptr b o => k (.bptr b o)
 | .mapr b => k (.mapr b)
 | .nilm => k .nilm
 | .row cs => k (.row cs)
 | .map ck ks => k (.map ck ks)
 | .gptr b o => k (.gptr b o)
 | .gmap b => k (.gmap b)
 | .own e sz cs => k (.own e sz cs)
 | .clo f n cs => k (.clo f n cs)
 | .nilf => k .nilf
def forceCells (id : Nat) : List Cell → (List Cell → Option R) → Option R
 | [], k => k []
 | c :: r, k => forceCell id c fun c' => forceCells id r fun r' => k (c' :: r')
def forceV1 (id : Nat) (v : V1) (k : V1 → Option R) : Option R :=
 match v with
 | .one c => forceCell id c fun c' => k (.one c')
 | .agg cs => forceCells id cs fun cs' => k (.agg cs')
def forceV1s (id : Nat) : List V1 → (List V1 → Option R) → Option R
 | [], k => k []
 | c :: r, k => forceV1 id c fun c' => forceV1s id r fun r' => k (c' :: r')
def forceAV (id : Nat) (v : AV) (k : AV → Option R) : Option R :=
 match v with
 | .one c => forceCell id c fun c' => k (.one c')
 | .agg cs => forceCells id cs fun cs' => k (.agg cs')
 | .tup vs => forceV1s id vs fun vs' => k (.tup vs')
 | .undef => k .undef
def forceFr (id : Nat) : List (Nat × AV) → (List (Nat × AV) → Option R) → Option R
 | [], k => k []
 | p :: r, k => (match p with | (s, v) => forceAV id v fun v' => forceFr id r fun r' => k ((s, v') :: r'))
def forceH (id : Nat) : Heap → (Heap → Option R) → Option R
 | [], k => k []
 | b :: r, k => forceCells id b fun b' => forceH id r fun r' => k (b' :: r')
def forceSt (id : Nat) (st : St) (k : St → Option R) : Option R :=
 match st with
 | ⟨fr, H, G⟩ => forceFr id fr fun fr' => forceH id H fun H' => k ⟨fr', H', G⟩
theorem forceCell_eq (id : Nat) (c : Cell) (k : Cell → Option R) : forceCell id c k = k c := by
 cases c with
 | sl nm sz cs => cases nm <;> rfl
 | _ => rfl
theorem forceCells_eq (id : Nat) : ∀ (l : List Cell) (k : List Cell → Option R), forceCells id l k = k l
 | [], _ => rfl
 | c :: r, k => by rw [forceCells, forceCell_eq, forceCells_eq id r]
theorem forceV1_eq (id : Nat) (v : V1) (k : V1 → Option R) : forceV1 id v k = k v := by
 cases v with
 | one c => rw [forceV1, forceCell_eq]
 | agg cs => rw [forceV1, forceCells_eq]
theorem forceV1s_eq (id : Nat) : ∀ (l : List V1) (k : List V1 → Option R), forceV1s id l k = k l
 | [], _ => rfl
 | c :: r, k => by rw [forceV1s, forceV1_eq, forceV1s_eq id r]
theorem forceAV_eq (id : Nat) (v : AV) (k : AV → Option R) : forceAV id v k = k v := by
 cases v with
 | one c => rw [forceAV, forceCell_eq]
 | agg cs => rw [forceAV, forceCells_eq]
 | tup vs => rw [forceAV, forceV1s_eq]
 | undef => rfl
theorem forceFr_eq (id : Nat) : ∀ (l : List (Nat × AV)) (k : List (Nat × AV) → Option R), forceFr id l k = k l
 | [], _ => rfl
 | (s, v) :: r, k => by rw [forceFr]; simp only [forceAV_eq, forceFr_eq id r]
theorem forceH_eq (id : Nat) : ∀ (l : Heap) (k : Heap → Option R), forceH id l k = k l
 | [], _ => rfl
 | b :: r, k => by rw [forceH, forceCells_eq, forceH_eq id r]
theorem forceSt_eq (id : Nat) (st : St) (k : St → Option R) : forceSt id st k = k st := by
 cases st; rw [forceSt]; simp only [forceFr_eq, forceH_eq]
def prK (id : Nat) (pr : St → Option St) (f : St → Option R) (st : St) : Option R :=
 match pr st with
 | none => none
 | some st1 => forceSt id st1 f
def joinOf : List (Nat × SS) → Nat → Option SS
 | [], _ => none
 | (i, h) :: r, id => condA (Nat.beq i id) (some h) <| joinOf r id
def seqKey (b : Code) : Nat := 2000000 + firstRegion b
def heads : List (Nat × Nat) → Nat → Nat
 | [], _ => 0
 | (i, h) :: r, id => condA (Nat.beq i id) (h) <| heads r id
def aexec (hints : List (Nat × List Nat × Nat)) (shs : List (Nat × SS)) (hds : List (Nat × Nat)) (n : Nat) : Code → (Ex → St → Option R) → St → Option R
  | .skip, k, st => k .normal st
  | .label _, k, st => k .normal st
  | .exit id, k, st => k (.exit id) st
  | .goto l, k, st => k (.goto l) st
  | .ret, k, st => k .ret st
  | .region id ops draw, k, st =>
    regionK E call (condA (draw) (heads hds id) <| 0) ops (prK id (pruneAt hints id) (k .normal)) st
  | .seq a b, k, st =>
    (match joinOf shs (seqKey b) with
     | none => aexec hints shs hds n a (kSeq (aexec hints shs hds n b) k) st
     | some s => joinK (s.lam (aexec hints shs hds n b k)) fun j => aexec hints shs hds n a (kSeq (fun _ => prK (seqKey b) (pruneAt hints (seqKey b)) fun st1 => s.app st1 j) k) st)
  | .cond c a b, k, st =>
    (match ev st c with
     | some (.one (.bool t)) => (match t with | true => aexec hints shs hds n a k (condSt hints c true st) | false => aexec hints shs hds n b k (condSt hints c false st))
     | _ => none)
  | .block id c, k, st => aexec hints shs hds n c (kBlk id k) st
  | .loop c, k, st =>
    (match joinOf shs (loopKey c) with
     | none => none
     | some s => prK (loopKey c) (pruneAt hints (loopKey c)) (fun st1 => s.app st1 (loopJ s.bot (fun self => s.lam (aexec hints shs hds n c (kSeq (fun _ => prK (loopKey c) (pruneAt hints (loopKey c)) fun st2 => s.app st2 self) k))) n)) st)
  | .scope c, k, st =>
    (match c with
     | .seq (.label l) b =>
       (match joinOf shs (loopKey b) with
        | none => none
        | some s => prK (loopKey b) (pruneAt hints (loopKey b)) (fun st1 => s.app st1 (loopJ s.bot (fun self => s.lam (aexec hints shs hds n b (kGoto l (prK (loopKey b) (pruneAt hints (loopKey b)) fun st2 => s.app st2 self) k))) n)) st)
     | _ => none)
  | .rangeFunc .., _, _ => none
  | .refuse _, _, _ => none
end
def sub : Code → List Nat → Code
 | c, [] => c
 | .seq a b, i :: p => match i with | 0 => sub a p | _ => sub b p
 | .cond _ a b, i :: p => match i with | 0 => sub a p | _ => sub b p
 | .block _ c, _ :: p => sub c p
 | .loop c, _ :: p => sub c p
 | .scope c, _ :: p => sub c p
 | c, _ => c
def bodyOf (f : Func) : Code := f.body.getD .skip
def resOf (st : St) : ResultVar → Option V1
 | .tmp t => (match lk st.fr t with
  | some (.one c) => some (.one c)
  | some (.agg cs) => some (.agg cs)
  | _ => none)
 | .cell _ _ => none
def resCell (E : Env) (st : St) : ResultVar → Option V1
 | .cell a t => (match lk st.fr a, ty E.T t with
  | some p, some ti => loadK ti st p fun v => (match v with | .one c => some (V1.one c) | .agg cs => some (V1.agg cs) | _ => none)
  | _, _ => none)
 | r => resOf st r
def ress (E : Env) (st : St) : List ResultVar → Option (List V1)
 | [] => some []
 | r :: l => (match resCell E st r, ress E st l with
  | some v, some vs => some (v :: vs)
  | _, _ => none)
structure FX extends FI where
 hds : List (Nat × Nat)
 nt : Nat
 bxs : List Nat
 gal : List Nat
 tak : List Nat
 shs : List (Nat × SS)
def outH (h0 : Nat) (H : Heap) (G : Option Heap) : Heap := match G with | none => canonH 0 (H.take h0) | some G => G
def kEnd (E : Env) (h0 : Nat) (res : List ResultVar) : Ex → St → Option (AV × Heap)
 | .normal, st | .ret, st => (match ress E st res with
  | some [v] => some (v.av, outH h0 st.H st.G)
  | some vs => some (.tup vs, outH h0 st.H st.G)
  | none => none)
 | _, _ => none
def argFr : Nat → List AV → List (Nat × AV)
 | _, [] => []
 | i, a :: r => (i, a) :: argFr (i + 1) r
def inH (b : Bool) (H : Heap) : Heap := condA b [] H
def inG (b : Bool) (H : Heap) : Option Heap := condA b (some H) none
def instOf : List AV → Nat
 | [] => 0
 | .one (.clo f _ _) :: _ => f + 1
 | _ :: r => instOf r
def instShs (q : Nat) (l : List (Nat × SS)) : List (Nat × SS) := l.map fun x => (x.1 - q * 10000000, x.2)
def acall (E : Env) (fx : FuncId → Option FX) : Nat → CallF
 | 0, _, _, _ => none
 | n + 1, f, args, H => match fx f with
  | none => none
  | some x => condA (Nat.ble args.length x.nt && x.hints.all (fun h => Nat.ble (inH (E.isG f) H).length h.2.2))
   (aexec (E.box x.bxs x.gal x.tak) (acall E fx n) x.hints (instShs (instOf args) x.shs) x.hds (n + 1) x.body (kEnd E (inH (E.isG f) H).length x.res) ⟨argFr 0 args, inH (E.isG f) H, inG (E.isG f) H⟩) <| none
def phOf (s : Nat) : List Ph := List.replicate s (.rng 0 1) ++ [.wr]
def waitsOn (o : Oper) (i : Nat) : Bool := o.after.any fun e => Region.binds .any e && e.on == i
def loadFree (ops : Array Oper) (plan : List (Nat × Nat)) (listed : Array Bool) (i : Nat) : Bool :=
 (List.range ops.size).all fun j => j == i || listed.getD j true || (match ops[j]? with | some o => waitsOn o i || o.after.any (fun e => Region.binds .any e && (match ops[e.on]? with | some o' => waitsOn o' i | none => false)) | none => true) || !(Nat.beq (clsOf plan j) 2)
def seqOkGo (ops : Array Oper) (plan : List (Nat × Nat)) : List (Nat × Nat) → Array Bool → Bool
 | [], listed => (Region.ready .any ops listed).isEmpty
 | (i, c) :: r, listed =>
  (Region.ready .any ops listed).contains i &&
  (condA (Nat.beq c 0) (Region.free .any ops listed i) <| condA (Nat.beq c 1) (Region.free .any ops listed i && loadFree ops plan listed i) <| (Region.ready .any ops listed == [i])) &&
  Nat.beq (clsOf plan i) c && seqOkGo ops plan r (listed.setIfInBounds i true)
def seqOk (ops : Array Oper) (t nt : Nat) (plan : List (Nat × Nat)) : Bool :=
 Region.noSelect ops && (ops.toList.all fun o => match o.dst with | some d => Nat.blt d nt && !(Nat.beq (d + 1) t) | none => true) && seqOkGo ops plan plan (Array.replicate ops.size false)
def okShape (ops : Array Oper) (h nt : Nat) : Bool := condA (Nat.ble seqBase h) (seqOk ops ((h - seqBase) % 4096) nt (planOf ops.size ((h - seqBase) / 4096))) <| condA (Nat.ble 1000000 h) (shapeOk ops (h % 1000000) nt) <| condA (Nat.ble 1000 h) (phaseOk ops (h % 1000 + 1) nt (phOf (h % 1000))) <| shapeOk ops h nt
def okCode (nt : Nat) (hds : List (Nat × Nat)) : Code → Bool
 | .region id ops draw => (ops.toList.all fun o => match o.dst with | some d => Nat.blt d nt | none => true) && (!draw || okShape ops (heads hds id) nt)
 | .seq a b => okCode nt hds a && okCode nt hds b
 | .cond _ a b => okCode nt hds a && okCode nt hds b
 | .block _ c => okCode nt hds c
 | .loop c => okCode nt hds c
 | .scope c => okCode nt hds c
 | _ => true
end AX
end Go.Proofs.YtnkppakkeobegaaGreatDoor
namespace Go.Proofs.YtnkppakkeobegaaGreatDoor
namespace AX
open Go.RowKit
def _root_.Go.Value.ob : Value → Option Nat
 | .slice (some a) _ cap => if cap = 0 then none else some a.block
 | _ => none
def _root_.Go.Value.offOf : Value → Nat
 | .slice (some a) _ _ => a.off
 | _ => 0
def _root_.Go.World.ownsAt (w : World) (_base : Nat) (e : TypeId) (size : Nat) (v : Value) (n : Nat) (xs : List Value) : Prop :=
  xs.length = n * size ∧
  ((n = 0 ∧ (v = .slice none 0 0 ∨ ∃ a, v = .slice (some a) 0 0)) ∨
   ∃ g off cap cur, v = .slice (some ⟨g, off, none⟩) n cap ∧ 0 < cap ∧ w.heap[g]? = some (.cells cur e (0, 0)) ∧ n ≤ cap ∧ cap ≤ maxLen ∧ off + cap * size ≤ cur.size ∧ (cur.toList.drop off).take (n * size) = xs)
theorem _root_.Go.World.ownsAt_nil (w : World) (base : Nat) (e : TypeId) (size : Nat) : w.ownsAt base e size (.slice none 0 0) 0 [] := ⟨by simp, .inl ⟨rfl, .inl rfl⟩⟩
theorem _root_.Go.World.ownsAt.lt {w : World} {base : Nat} {e : TypeId} {size : Nat} {v : Value} {n : Nat} {xs : List Value} (h : w.ownsAt base e size v n xs) : ∀ k, v.ob = some k → 0 ≤ k ∧ k < w.heap.size := fun k hk => by
 rcases h.2 with ⟨_, rfl | ⟨a, rfl⟩⟩ | ⟨g, off, cap, cur, rfl, _, hg, _⟩
 · cases hk
 · simp [Value.ob] at hk
 · simp only [Value.ob] at hk
   split at hk
   · cases hk
   · cases hk; exact ⟨Nat.zero_le _, (Array.getElem?_eq_some_iff.1 hg).1⟩
theorem _root_.Go.World.ownsRow.at {w : World} {base : Nat} {e : TypeId} {size : Nat} {v : Value} {n : Nat} {xs : List Value} (h : w.ownsRow base e size v n xs) : w.ownsAt base e size v n xs := by
 refine ⟨h.1, ?_⟩
 rcases h.2 with ⟨rfl, rfl⟩ | ⟨g, cap, cur, rfl, _, h1, h2, h3, h4, h5⟩
 · exact .inl ⟨rfl, .inl rfl⟩
 · by_cases hc : cap = 0
   · subst hc
     obtain rfl : n = 0 := by omega
     exact .inl ⟨rfl, .inr ⟨_, rfl⟩⟩
   · exact .inr ⟨g, 0, cap, cur, rfl, by omega, h1, h2, h3, by omega, by simpa using h5⟩
theorem ob_own {v : Value} {b : Nat} (h : v.ob = some b) : v.ownBlock = some b := by
 unfold Value.ob at h
 split at h
 · split at h
   · cases h
   · exact h
 · cases h
theorem _root_.Go.World.ownsAt.cells {w : World} {base : Nat} {e : TypeId} {size : Nat} {v : Value} {n : Nat} {xs : List Value} (h : w.ownsAt base e size v n xs) {g : Nat} (hg : v.ob = some g) : ∀ j u, xs[j]? = some u → w.cell? ⟨g, v.offOf + j, none⟩ = some u := fun j u hu => by
 rcases h.2 with ⟨_, rfl | ⟨a, rfl⟩⟩ | ⟨g', off, cap, cur, rfl, hc, hgg, _, _, _, ht⟩
 · cases hg
 · simp [Value.ob] at hg
 · simp only [Value.ob] at hg
   rw [if_neg (by omega)] at hg
   cases hg
   rw [cell_of_row w _ _ cur e (0, 0) hgg]
   rw [← ht, List.getElem?_take] at hu
   split at hu
   · rw [List.getElem?_drop] at hu; simpa [Value.offOf] using hu
   · cases hu
structure Mem where
 p : Nat → Nat → Prop
 gx : List Nat
 gw : Nat → Nat → Option (TypeId × Value)
instance : CoeFun Mem fun _ => Nat → Nat → Prop := ⟨Mem.p⟩
structure Gh where
 M : Mem
 bx : List Nat
 ow : Nm → Option Value
inductive Rd (M : Mem) (w : World) : Value → Cell → Prop
 | int (k : IntKind) (n : Int) : Rd M w (.int k n) (.int k n)
 | bool (b : Bool) : Rd M w (.bool b) (.bool b)
 | str (l : List UInt8) : Rd M w (.string ⟨l.toArray⟩) (.str l)
 | nilp : Rd M w (.pointer none) .nilp
 | nilm : Rd M w (.map none) .nilm
 | nilf : Rd M w .nilFunc .nilf
 | gptr (b o blk : Nat) : M.gx[b]? = some blk → Rd M w (.pointer (some ⟨blk, o, none⟩)) (.gptr b o)
 | gmap (b blk : Nat) : M.gx[b]? = some blk → Rd M w (.map (some blk)) (.gmap b)
 | clo (f : FuncId) (first captured : Array Value) (cs : List Cell) : (first.toList ++ captured.toList).length = cs.length → (∀ (i : Nat) v c, (first.toList ++ captured.toList)[i]? = some v → cs[i]? = some c → Rd M w v c) → Rd M w (.func (.func f) first captured) (.clo f first.size cs)
 | errN : Rd M w .nilIface (.err false)
 | errS (t : TypeId) (v : Value) : Rd M w (.iface t v) (.err true)
 | slN (sz : Nat) : Rd M w (.slice none 0 0) (.sl none sz [])
 | sl0 (a : Addr) (cap sz : Nat) : 0 < sz → Rd M w (.slice (some a) 0 cap) (.sl none sz [])
 | sl (b off len cap sz : Nat) (f : Nat → Value) (cs : List Cell) : 0 < sz → cs.length = len * sz → len ≤ cap →
  (∀ i, i < cs.length → M b (off + i) ∧ w.cell? ⟨b, off + i, none⟩ = some (f i)) → (∀ i c, cs[i]? = some c → Rd M w (f i) c) →
  Rd M w (.slice (some ⟨b, off, none⟩) len cap) (.sl none sz cs)
inductive Rc (g : Gh) (w : World) : Value → Cell → Prop
 | data {v c} : Rd g.M w v c → Rc g w v c
 | own {v sz cs} (L : Nm) : g.ow L = some v → Rd g.M w v (.sl none sz cs) → Rc g w v (.sl (some L) sz cs)
 | ptr (b o blk : Nat) : g.bx[b]? = some blk → Rc g w (.pointer (some ⟨blk, o, none⟩)) (.ptr b o)
 | bsl (b sz n blk cap : Nat) : g.bx[b]? = some blk → 0 < sz → n ≤ cap → Rc g w (.slice (some ⟨blk, 0, none⟩) n cap) (.bsl b sz n)
 | bptr (b o blk : Nat) : g.bx[b]? = some blk → Rc g w (.pointer (some ⟨blk, o, none⟩)) (.bptr b o)
 | mapr (b blk : Nat) : g.bx[b]? = some blk → Rc g w (.map (some blk)) (.mapr b)
 | eptr (blk o : Nat) (f : Nat → Value) (cs : List Cell) : (∀ i, i < cs.length → g.M blk (o + i) ∧ w.cell? ⟨blk, o + i, none⟩ = some (f i)) → (∀ i c, cs[i]? = some c → Rd g.M w (f i) c) →
  Rc g w (.pointer (some ⟨blk, o, none⟩)) (.eptr cs)
def RvA (g : Gh) (w : World) (vs : Array Value) (cs : List Cell) : Prop := vs.size = cs.length ∧ ∀ (i : Nat) v c, vs[i]? = some v → cs[i]? = some c → Rc g w v c
def Rv1 (g : Gh) (w : World) (v : Value) : V1 → Prop
 | .one c => Rc g w v c
 | .agg cs => ∃ vs, v = .agg vs ∧ RvA g w vs cs
def Rv (g : Gh) (w : World) (v : Value) : AV → Prop
 | .one c => Rc g w v c
 | .agg cs => ∃ vs, v = .agg vs ∧ RvA g w vs cs
 | .tup xs => ∃ vs, v = .tuple vs ∧ vs.size = xs.length ∧ ∀ (i : Nat) u x, vs[i]? = some u → xs[i]? = some x → Rv1 g w u x
 | .undef => v = undef
theorem Rv1.av {g : Gh} {w : World} {v : Value} {x : V1} (h : Rv1 g w v x) : Rv g w v x.av := by cases x <;> exact h
structure Kp (M : Mem) (w : World) (M' : Mem) (w' : World) : Prop where
 kp : ∀ b j, M b j → M' b j ∧ w'.cell? ⟨b, j, none⟩ = w.cell? ⟨b, j, none⟩
 gx : M.gx <+: M'.gx
instance {M M' : Mem} {w w' : World} : CoeFun (Kp M w M' w') fun _ => ∀ b j, M b j → M' b j ∧ w'.cell? ⟨b, j, none⟩ = w.cell? ⟨b, j, none⟩ := ⟨Kp.kp⟩
theorem Kp.at {M M' : Mem} {w w' : World} (h : Kp M w M' w') {b blk : Nat} (hb : M.gx[b]? = some blk) : M'.gx[b]? = some blk := by
 obtain ⟨t, e⟩ := h.gx
 rw [← e, List.getElem?_append_left (List.getElem?_eq_some_iff.1 hb).1]; exact hb
theorem Kp.refl (M : Mem) (w : World) : Kp M w M w := ⟨fun _ _ h => ⟨h, rfl⟩, List.prefix_refl _⟩
theorem Kp.trans {M M' M'' : Mem} {w w' w'' : World} (h : Kp M w M' w') (k : Kp M' w' M'' w'') : Kp M w M'' w'' := ⟨fun b j hb =>
 ⟨(k b j (h b j hb).1).1, (k b j (h b j hb).1).2.trans (h b j hb).2⟩, h.gx.trans k.gx⟩
theorem Rd.kept {M M' : Mem} {w w' : World} {v : Value} {c : Cell} (h : Rd M w v c) (hk : Kp M w M' w') : Rd M' w' v c := by
 induction h with
 | int k n => exact .int k n
 | bool b => exact .bool b
 | str l => exact .str l
 | nilp => exact .nilp
 | nilm => exact .nilm
 | nilf => exact .nilf
 | gptr b o blk h => exact .gptr b o blk (hk.at h)
 | gmap b blk h => exact .gmap b blk (hk.at h)
 | clo f first captured cs h1 _ ih => exact .clo f first captured cs h1 ih
 | errN => exact .errN
 | errS t v => exact .errS t v
 | slN sz => exact .slN sz
 | sl0 a cap sz h => exact .sl0 a cap sz h
 | sl b off len cap sz f cs h1 h2 h3 h5 _ ih => exact .sl b off len cap sz f cs h1 h2 h3 (fun i hi => ⟨(hk _ _ (h5 i hi).1).1, (hk _ _ (h5 i hi).1).2.trans (h5 i hi).2⟩) ih
theorem Rd.one {M : Mem} {w : World} {v : Value} {c : Cell} (h : Rd M w v c) : v.oneCell' = true := by cases h <;> rfl
theorem Rd.bare {M : Mem} {w : World} {v : Value} {c : Cell} (h : Rd M w v c) : Rd M w v c.bare := by cases h <;> first | exact .slN _ | exact .sl0 _ _ _ ‹_› | exact .sl _ _ _ _ _ _ _ ‹_› ‹_› ‹_› ‹_› ‹_› | exact .gptr _ _ _ ‹_› | exact .gmap _ _ ‹_› | exact .clo _ _ _ _ ‹_› ‹_› | constructor
theorem strike_none (c : Cell) : c.strike (fun _ => false) = c := by cases c with | sl nm sz cs => cases nm <;> rfl | _ => rfl
theorem Rc.strike {g g' : Gh} {w w' : World} {v : Value} {c : Cell} {p : Nm → Bool} (h : Rc g w v c) (hk : Kp g.M w g'.M w') (hb : ∀ (b blk : Nat), g.bx[b]? = some blk → g'.bx[b]? = some blk)
 (ho : ∀ L u, p L = false → g.ow L = some u → g'.ow L = some u) : Rc g' w' v (c.strike p) := by
 cases h with
 | data h =>
  have h2 := h.kept hk
  have e : c.strike p = c := by cases h <;> rfl
  rw [e]; exact .data h2
 | own L h1 h2 =>
  cases hp : p L with
  | true => simp only [Cell.strike, hp, condA_true]; exact .data (h2.kept hk)
  | false => simp only [Cell.strike, hp, condA_false]; exact .own L (ho L _ hp h1) (h2.kept hk)
 | ptr b o blk h1 => exact .ptr b o blk (hb b blk h1)
 | bsl b sz n blk cap h1 h2 h3 => exact .bsl b sz n blk cap (hb b blk h1) h2 h3
 | bptr b o blk h1 => exact .bptr b o blk (hb b blk h1)
 | mapr b blk h1 => exact .mapr b blk (hb b blk h1)
 | eptr blk o f cs h1 h2 => exact .eptr blk o f cs (fun i hi => ⟨(hk _ _ (h1 i hi).1).1, (hk _ _ (h1 i hi).1).2.trans (h1 i hi).2⟩) (fun i c hc => (h2 i c hc).kept hk)
theorem Rc.kept {g g' : Gh} {w w' : World} {v : Value} {c : Cell} (h : Rc g w v c) (hk : Kp g.M w g'.M w') (hb : ∀ (b blk : Nat), g.bx[b]? = some blk → g'.bx[b]? = some blk)
 (ho : ∀ L u, g.ow L = some u → g'.ow L = some u) : Rc g' w' v c := by
 have := h.strike (p := fun _ => false) hk hb (fun L u _ => ho L u)
 rwa [strike_none] at this
theorem Rc.bare {g g' : Gh} {w w' : World} {v : Value} {c : Cell} (h : Rc g w v c) (hk : Kp g.M w g'.M w') (hb : ∀ (b blk : Nat), g.bx[b]? = some blk → g'.bx[b]? = some blk) : Rc g' w' v c.bare := by
 have h2 := h.strike (p := fun _ => true) (g' := ⟨g'.M, g'.bx, g'.ow⟩) hk hb (fun L u h => by cases h)
 have e : c.strike (fun _ => true) = c.bare := by cases c with | sl nm sz cs => cases nm <;> rfl | _ => rfl
 rwa [e] at h2
theorem RvA.map {g g' : Gh} {w w' : World} {vs : Array Value} {cs : List Cell} {f : Cell → Cell} (h : RvA g w vs cs) (hf : ∀ v c, Rc g w v c → Rc g' w' v (f c)) : RvA g' w' vs (cs.map f) := by
 refine ⟨by rw [List.length_map]; exact h.1, fun i v c hv hc => ?_⟩
 rw [List.getElem?_map] at hc
 cases hi : cs[i]? with
 | none => rw [hi] at hc; cases hc
 | some c0 => rw [hi] at hc; cases hc; exact hf _ _ (h.2 i v c0 hv hi)
theorem Rv1.map {g g' : Gh} {w w' : World} {v : Value} {x : V1} {f : Cell → Cell} (h : Rv1 g w v x) (hf : ∀ v c, Rc g w v c → Rc g' w' v (f c)) : Rv1 g' w' v (x.map f) := by
 cases x with
 | one c => exact hf _ _ h
 | agg cs => obtain ⟨vs, rfl, h⟩ := h; exact ⟨vs, rfl, h.map hf⟩
theorem Rv.map {g g' : Gh} {w w' : World} {v : Value} {x : AV} {f : Cell → Cell} (h : Rv g w v x) (hf : ∀ v c, Rc g w v c → Rc g' w' v (f c)) : Rv g' w' v (x.map f) := by
 cases x with
 | one c => exact hf _ _ h
 | agg cs => obtain ⟨vs, rfl, h⟩ := h; exact ⟨vs, rfl, h.map hf⟩
 | tup xs =>
  obtain ⟨vs, rfl, h1, h2⟩ := h
  refine ⟨vs, rfl, by rw [List.length_map]; exact h1, fun i u x hu hx => ?_⟩
  rw [List.getElem?_map] at hx
  cases hi : xs[i]? with
  | none => rw [hi] at hx; cases hx
  | some x0 => rw [hi] at hx; cases hx; exact (h2 i u x0 hu hi).map hf
 | undef => exact h
theorem map_id_of {x : AV} {f : Cell → Cell} (hf : ∀ c, f c = c) : x.map f = x := by
 have e : f = id := funext hf
 subst e
 cases x with
 | tup vs =>
  show AV.tup (vs.map (V1.map id)) = AV.tup vs
  congr 1
  have : (V1.map id) = id := by funext v; cases v <;> simp [V1.map]
  rw [this, List.map_id]
 | _ => simp [AV.map]
theorem Rv.kept {g g' : Gh} {w w' : World} {v : Value} {x : AV} (h : Rv g w v x) (hk : Kp g.M w g'.M w') (hb : ∀ (b blk : Nat), g.bx[b]? = some blk → g'.bx[b]? = some blk)
 (ho : ∀ L u, g.ow L = some u → g'.ow L = some u) : Rv g' w' v x := by
 have h2 := h.map (f := id) (g' := g') (w' := w') (fun v c hc => hc.kept hk hb ho)
 have e : x.map id = x := map_id_of (fun _ => rfl)
 rwa [e] at h2
def MapIs (M : Mem) (w : World) (es : Array MapEntry) (ks : List (Cell × Cell × Nat)) : Prop :=
 es.size = ks.length ∧ ∀ (i : Nat) e c, es[i]? = some e → ks[i]? = some c → Rd M w e.key c.1 ∧ Rd M w e.val c.2.1 ∧ e.born = c.2.2
inductive BoxIs (g : Gh) (w : World) (blk : Nat) : List Cell → Prop
 | cells (vs : Array Value) (e : TypeId) (cs : List Cell) : w.heap[blk]? = some (.cells vs e (0, 0)) → RvA g w vs cs → BoxIs g w blk cs
 | row (vs : Array Value) (e : TypeId) (fz : Nat × Nat) (cs : List Cell) : w.heap[blk]? = some (.cells vs e fz) → (fz = (0, 0) ∨ vs.size ≤ fz.1) → cs.length ≤ vs.size →
  (∀ (i : Nat) v c, vs[i]? = some v → cs[i]? = some c → Rd g.M w v c) → BoxIs g w blk [.row cs]
 | bld (t : TypeId) (p v : Value) (c : Cell) : w.heap[blk]? = some (.cells #[p, v] t (0, 0)) → (p = .pointer none ∨ p = .pointer (some ⟨blk, 0, none⟩)) → Rc g w v c → BoxIs g w blk [.selfp t, c]
 | map (es : Array MapEntry) (ck : Nat) (ks : List (Cell × Cell × Nat)) : w.heap[blk]? = some (.map es ck) → MapIs g.M w es ks → BoxIs g w blk [.map ck ks]
theorem BoxIs.lt {g : Gh} {w : World} {blk : Nat} {cs : List Cell} (h : BoxIs g w blk cs) : blk < w.heap.size := by
 cases h with
 | cells _ _ _ h => exact (Array.getElem?_eq_some_iff.1 h).1
 | row _ _ _ _ h => exact (Array.getElem?_eq_some_iff.1 h).1
 | bld _ _ _ _ h => exact (Array.getElem?_eq_some_iff.1 h).1
 | map _ _ _ h => exact (Array.getElem?_eq_some_iff.1 h).1
theorem BoxIs.map' {g g' : Gh} {w w' : World} {blk : Nat} {cs : List Cell} {f : Cell → Cell} (h : BoxIs g w blk cs) (hw : w'.heap[blk]? = w.heap[blk]?) (hk : Kp g.M w g'.M w')
 (hf : ∀ v c, Rc g w v c → Rc g' w' v (f c)) (hr : ∀ cs, f (.row cs) = .row cs) (hm : ∀ ck ks, f (.map ck ks) = .map ck ks) (hs : ∀ t, f (.selfp t) = .selfp t) : BoxIs g' w' blk (cs.map f) := by
 cases h with
 | cells vs e cs h1 h2 => exact .cells vs e _ (by rw [hw]; exact h1) (h2.map hf)
 | row vs e fz cs h1 h2 h3 h4 =>
  rw [List.map_cons, List.map_nil, hr]
  exact .row vs e fz cs (by rw [hw]; exact h1) h2 h3 fun i v c hv hc => (h4 i v c hv hc).kept hk
 | bld t p v c h1 h2 h3 =>
  rw [List.map_cons, List.map_cons, List.map_nil, hs]
  exact .bld t p v _ (by rw [hw]; exact h1) h2 (hf _ _ h3)
 | map es ck ks h1 h2 =>
  rw [List.map_cons, List.map_nil, hm]
  exact .map es ck ks (by rw [hw]; exact h1) ⟨h2.1, fun i e c he hc => ⟨(h2.2 i e c he hc).1.kept hk, (h2.2 i e c he hc).2.1.kept hk, (h2.2 i e c he hc).2.2⟩⟩
theorem BoxIs.strike {g g' : Gh} {w w' : World} {blk : Nat} {cs : List Cell} {p : Nm → Bool} (h : BoxIs g w blk cs) (hw : w'.heap[blk]? = w.heap[blk]?) (hk : Kp g.M w g'.M w')
 (hf : ∀ v c, Rc g w v c → Rc g' w' v (c.strike p)) : BoxIs g' w' blk (cs.map (Cell.strike p)) := h.map' hw hk hf (fun _ => rfl) (fun _ _ => rfl) (fun _ => rfl)
theorem BoxIs.same {g g' : Gh} {w w' : World} {blk : Nat} {cs : List Cell} (h : BoxIs g w blk cs) (hw : w'.heap[blk]? = w.heap[blk]?) (hk : Kp g.M w g'.M w')
 (hf : ∀ v c, Rc g w v c → Rc g' w' v c) : BoxIs g' w' blk cs := by
 have := h.map' (f := id) hw hk hf (fun _ => rfl) (fun _ _ => rfl) (fun _ => rfl)
 rwa [List.map_id] at this
class Inv where
 I : World → Prop
 below : ∀ w w', I w → Below w.heap.size w w' → I w'
variable [Inv]
structure Base where
 w0 : World
 M0 : Mem
 D : Nat → Prop
 nt : Nat
 bx0 : List Nat
 gm : Bool
 keepI : ∀ w' : World, w'.os = w0.os → w'.tape = w0.tape → w'.output = w0.output → w0.heap.size ≤ w'.heap.size → (∀ k, k < w0.heap.size → ¬ D k → w'.heap[k]? = w0.heap[k]?) → Inv.I w'
structure Fr (B : Base) (g : Gh) (w : World) : Prop where
 os : w.os = B.w0.os
 tape : w.tape = B.w0.tape
 output : w.output = B.w0.output
 size : B.w0.heap.size ≤ w.heap.size
 block : ∀ k, k < B.w0.heap.size → ¬ B.D k → w.heap[k]? = B.w0.heap[k]?
 kp : Kp B.M0 B.w0 g.M w
 old : ∀ b j, b < B.w0.heap.size → ¬ B.D b → g.M b j → B.M0 b j
structure OwOk (P : Program) (g : Gh) (w : World) : Prop where
 row : ∀ L v, g.ow L = some v → ∃ n xs, w.ownsAt 0 L.elem (P.cellsOf L.elem) v n xs ∧ ∀ b j, v.ob = some b → g.M b j → j < v.offOf + n * P.cellsOf L.elem
 ne : ∀ L L' v v', L ≠ L' → g.ow L = some v → g.ow L' = some v' → v.ob = none ∨ v.ob ≠ v'.ob
structure BxOk (H : Heap) (g : Gh) (w : World) : Prop where
 len : g.bx.length = H.length
 nodup : g.bx.Nodup
 M : ∀ blk ∈ g.bx, ∀ j, ¬ g.M blk j
 ow : ∀ L v b, g.ow L = some v → v.ob = some b → b ∉ g.bx
 box : ∀ (i : Nat) cs, H[i]? = some cs → ∃ blk, g.bx[i]? = some blk ∧ BoxIs g w blk cs
inductive Gc (M : Mem) (w : World) (i j : Nat) (v : Value) : Cell → Prop
 | data {c} : Rd M w v c → Gc M w i j v c
 | own {sz cs} (e : TypeId) : M.gw i j = some (e, v) → Rd M w v (.sl none sz cs) → Gc M w i j v (.own e sz cs)
theorem Gc.kept {M M' : Mem} {w w' : World} {i j : Nat} {v : Value} {c : Cell} (h : Gc M w i j v c) (hk : Kp M w M' w') (hg : ∀ e, M.gw i j = some (e, v) → M'.gw i j = some (e, v)) : Gc M' w' i j v c := by
 cases h with
 | data h => exact .data (h.kept hk)
 | own e h1 h2 => exact .own e (hg e h1) (h2.kept hk)
inductive ObjIs (M : Mem) (w : World) (i blk : Nat) : List Cell → Prop
 | cells (vs : Array Value) (e : TypeId) (cs : List Cell) : w.heap[blk]? = some (.cells vs e (0, 0)) → vs.size = cs.length → (∀ (j : Nat) v c, vs[j]? = some v → cs[j]? = some c → Gc M w i j v c) → ObjIs M w i blk cs
theorem ObjIs.lt {M : Mem} {w : World} {i blk : Nat} {cs : List Cell} (h : ObjIs M w i blk cs) : blk < w.heap.size := by
 cases h with
 | cells _ _ _ h => exact (Array.getElem?_eq_some_iff.1 h).1
theorem ObjIs.kept {M M' : Mem} {w w' : World} {i blk : Nat} {cs : List Cell} (h : ObjIs M w i blk cs) (hk : Kp M w M' w') (hw : w'.heap[blk]? = w.heap[blk]?) (hg : ∀ j e v, M.gw i j = some (e, v) → M'.gw i j = some (e, v)) : ObjIs M' w' i blk cs := by
 cases h with
 | cells vs e cs h1 h2 h3 => exact .cells vs e cs (hw.trans h1) h2 fun j v c hv hc => (h3 j v c hv hc).kept hk fun e => hg j e v
def Pb (M : Mem) (b : Nat) : Prop := b ∈ M.gx ∨ ∃ i j e v, M.gw i j = some (e, v) ∧ v.ob = some b
structure GOk (P : Program) (g : Gh) (G : Heap) (w : World) : Prop where
 len : g.M.gx.length = G.length
 nodup : g.M.gx.Nodup
 obj : ∀ (i : Nat) cs, G[i]? = some cs → ∃ blk, g.M.gx[i]? = some blk ∧ ObjIs g.M w i blk cs
 out : ∀ blk ∈ g.M.gx, ∀ j, ¬ g.M blk j
 row : ∀ i j e v, g.M.gw i j = some (e, v) → ∃ n xs, w.ownsAt 0 e (P.cellsOf e) v n xs ∧ ∀ b, v.ob = some b → b ∉ g.M.gx ∧ ∀ k, g.M b k → k < v.offOf + n * P.cellsOf e
 rne : ∀ i j i' j' e e' v v' b, g.M.gw i j = some (e, v) → g.M.gw i' j' = some (e', v') → v.ob = some b → v'.ob = some b → i = i' ∧ j = j'
 bx : ∀ b, Pb g.M b → b ∉ g.bx
 ow : ∀ L u b, g.ow L = some u → u.ob = some b → ¬ Pb g.M b
def GkOk (P : Program) (B : Base) (g : Gh) (G : Option Heap) (w : World) : Prop :=
 match G with
 | none => B.gm = false ∧ g.M.gx = B.M0.gx ∧ g.M.gw = B.M0.gw
 | some G => B.gm = true ∧ GOk P g G w ∧ ∀ b, Pb g.M b → B.D b ∨ B.w0.heap.size ≤ b
theorem GOk.lt {P : Program} {g : Gh} {G : Heap} {w : World} (h : GOk P g G w) {b : Nat} (hb : Pb g.M b) : b < w.heap.size := by
 rcases hb with hb | ⟨i, j, e, v, h1, h2⟩
 · obtain ⟨i, hi⟩ := List.getElem?_of_mem hb
   have hlt : i < G.length := by rw [← h.len]; exact (List.getElem?_eq_some_iff.1 hi).1
   obtain ⟨blk', h1, h2⟩ := h.obj i _ (List.getElem?_eq_getElem hlt)
   rw [hi] at h1; cases h1
   exact h2.lt
 · obtain ⟨n, xs, h3, _⟩ := h.row i j e v h1
   exact (h3.lt b h2).2
structure Sim (P : Program) (B : Base) (g : Gh) (st : St) (a : Act) (w : World) : Prop where
 frame : ∀ s v, lk st.fr s = some v → Rv g w (a.tmps.getD s undef) v
 size : a.tmps.size = B.nt
 defers : a.defers = []
 live : ∀ b j, g.M b j → b < w.heap.size
 bx : BxOk st.H g w
 ow : OwOk P g w
 fr : Fr B g w
 bxB : ∀ blk ∈ g.bx, B.D blk ∨ B.w0.heap.size ≤ blk
 owB : ∀ L v b, g.ow L = some v → v.ob = some b → B.D b ∨ B.w0.heap.size ≤ b
 pre : B.bx0 <+: g.bx
 gk : GkOk P B g st.G w
theorem Sim.inv {P : Program} {B : Base} {g : Gh} {st : St} {a : Act} {w : World} (S : Sim P B g st a w) : Inv.I w :=
 B.keepI _ S.fr.os S.fr.tape S.fr.output S.fr.size S.fr.block
structure Grow (g : Gh) (w : World) (M' : Mem) (w' : World) : Prop where
 below : Below w.heap.size w w'
 sub : ∀ b j, g.M b j → M' b j
 old : ∀ b j, b < w.heap.size → M' b j → g.M b j
 live : ∀ b j, M' b j → b < w'.heap.size
 same : M'.gx = g.M.gx ∧ M'.gw = g.M.gw
omit [Inv] in
theorem Grow.refl {g : Gh} {w : World} (hl : ∀ b j, g.M b j → b < w.heap.size) : Grow g w g.M w := ⟨Below.refl _ _, fun _ _ h => h, fun _ _ _ h => h, hl, rfl, rfl⟩
omit [Inv] in
theorem Grow.kp {g : Gh} {w w' : World} {M' : Mem} (h : Grow g w M' w') (hl : ∀ b j, g.M b j → b < w.heap.size) : Kp g.M w M' w' := ⟨fun b j hb => ⟨h.sub b j hb, h.below.cell (p := ⟨b, j, none⟩) (hl b j hb)⟩, by rw [h.same.1]; exact List.prefix_refl _⟩
omit [Inv] in
theorem Grow.trans {g : Gh} {w w' w'' : World} {M' M'' : Mem} (h : Grow g w M' w') (k : Grow ⟨M', g.bx, g.ow⟩ w' M'' w'') : Grow g w M'' w'' :=
 ⟨h.below.trans (k.below.mono h.below.size), fun b j hb => k.sub b j (h.sub b j hb), fun b j hb hm => h.old b j hb (k.old b j (Nat.lt_of_lt_of_le hb h.below.size) hm), k.live, k.same.1.trans h.same.1, k.same.2.trans h.same.2⟩
omit [Inv] in
theorem Rv.grow {g : Gh} {w w' : World} {M' : Mem} {v : Value} {x : AV} (h : Rv g w v x) (hg : Grow g w M' w') (hl : ∀ b j, g.M b j → b < w.heap.size) : Rv ⟨M', g.bx, g.ow⟩ w' v x :=
 h.kept (hg.kp hl) (fun _ _ h => h) (fun _ _ h => h)
omit [Inv] in
theorem ownsRow_block {w w' : World} {B sz n : Nat} {e : TypeId} {v : Value} {xs : List Value} (h : w.ownsAt B e sz v n xs) (hb : ∀ b, v.ob = some b → w'.heap[b]? = w.heap[b]?) : w'.ownsAt B e sz v n xs := by
 refine ⟨h.1, ?_⟩
 rcases h.2 with h1 | ⟨g, off, cap, cur, rfl, h0, h2, h3, h4⟩
 · exact .inl h1
 · exact .inr ⟨g, off, cap, cur, rfl, h0, (hb g (by simp [Value.ob]; omega)).trans h2, h3, h4⟩
omit [Inv] in
theorem Pb.same {M M' : Mem} (h : M'.gx = M.gx ∧ M'.gw = M.gw) {b : Nat} : Pb M' b ↔ Pb M b := by unfold Pb; rw [h.1, h.2]
def Og (G : Option Heap) (M : Mem) (b : Nat) : Prop := G.isSome = true ∧ Pb M b
theorem GkOk.olt {P : Program} {B : Base} {g : Gh} {G : Option Heap} {w : World} (h : GkOk P B g G w) {b : Nat} (hb : Og G g.M b) : b < w.heap.size := by
 cases G with
 | none => exact absurd hb.1 (by simp)
 | some G => exact h.2.1.lt hb.2
theorem GkOk.obx {P : Program} {B : Base} {g : Gh} {G : Option Heap} {w : World} (h : GkOk P B g G w) (b : Nat) (hb : Og G g.M b) : b ∉ g.bx := by
 cases G with
 | none => exact absurd hb.1 (by simp)
 | some G => exact h.2.1.bx b hb.2
theorem GkOk.oow {P : Program} {B : Base} {g : Gh} {G : Option Heap} {w : World} (h : GkOk P B g G w) (L : Nm) (u : Value) (b : Nat) (h1 : g.ow L = some u) (h2 : u.ob = some b) : ¬ Og G g.M b := by
 cases G with
 | none => exact fun hb => absurd hb.1 (by simp)
 | some G => exact fun hb => h.2.1.ow L u b h1 h2 hb.2
theorem GkOk.keep {P : Program} {B : Base} {g g' : Gh} {G : Option Heap} {w w' : World} (h : GkOk P B g G w) (hs : g'.M.gx = g.M.gx ∧ g'.M.gw = g.M.gw) (hk : Kp g.M w g'.M w') (hw : ∀ b, Og G g.M b → w'.heap[b]? = w.heap[b]?)
 (hM : ∀ b j, Og G g.M b → g'.M b j → g.M b j) (hb : ∀ b, Og G g.M b → b ∉ g'.bx) (ho : ∀ L u b, g'.ow L = some u → u.ob = some b → ¬ Og G g.M b) : GkOk P B g' G w' := by
 cases G with
 | none => exact ⟨h.1, hs.1.trans h.2.1, hs.2.trans h.2.2⟩
 | some G =>
  have og : ∀ b, Pb g.M b → Og (some G) g.M b := fun b h => ⟨rfl, h⟩
  obtain ⟨hgm, h, hD⟩ := h
  refine ⟨hgm, ⟨?_, ?_, fun i cs hi => ?_, fun blk hbk j hm => ?_, fun i j e v hv => ?_, fun i j i' j' e e' v v' b h1 h2 => ?_, fun b hp => ?_, fun L u b h1 h2 hp => ?_⟩, fun b hp => hD b ((Pb.same hs).1 hp)⟩
  · rw [hs.1]; exact h.len
  · rw [hs.1]; exact h.nodup
  · obtain ⟨blk, h1, h2⟩ := h.obj i cs hi
    exact ⟨blk, by rw [hs.1]; exact h1, h2.kept hk (hw blk (og _ (.inl (List.mem_of_getElem? h1)))) fun j e v hv => by rw [hs.2]; exact hv⟩
  · rw [hs.1] at hbk; exact h.out blk hbk j (hM blk j (og _ (.inl hbk)) hm)
  · rw [hs.2] at hv
    obtain ⟨n, xs, h1, h2⟩ := h.row i j e v hv
    refine ⟨n, xs, ownsRow_block h1 fun b hb => hw b (og _ (.inr ⟨i, j, e, v, hv, hb⟩)), fun b hb => ⟨by rw [hs.1]; exact (h2 b hb).1, fun k hm => (h2 b hb).2 k (hM b k (og _ (.inr ⟨i, j, e, v, hv, hb⟩)) hm)⟩⟩
  · rw [hs.2] at h1 h2; exact h.rne i j i' j' e e' v v' b h1 h2
  · exact hb b (og _ ((Pb.same hs).1 hp))
  · exact ho L u b h1 h2 (og _ ((Pb.same hs).1 hp))
theorem Sim.grow {P : Program} {B : Base} {g : Gh} {st : St} {a : Act} {w w' : World} {M' : Mem} (S : Sim P B g st a w) (h : Grow g w M' w') : Sim P B ⟨M', g.bx, g.ow⟩ st a w' := by
 have hk := h.kp S.live
 have hbl : ∀ blk ∈ g.bx, blk < w.heap.size := fun blk hb => by
  obtain ⟨i, hi⟩ := List.getElem?_of_mem hb
  have hlt : i < st.H.length := by rw [← S.bx.len]; exact (List.getElem?_eq_some_iff.1 hi).1
  obtain ⟨blk', h1, h2⟩ := S.bx.box i _ (List.getElem?_eq_getElem hlt)
  rw [hi] at h1; cases h1
  exact h2.lt
 have hol : ∀ L v b, g.ow L = some v → v.ob = some b → b < w.heap.size := fun L v b hL hb => by
  obtain ⟨n, xs, h1, _⟩ := S.ow.row L v hL
  exact (h1.lt b hb).2
 exact {
  frame := fun s v hs => (S.frame s v hs).grow h S.live
  size := S.size
  defers := S.defers
  live := h.live
  bx := {
   len := S.bx.len
   nodup := S.bx.nodup
   M := fun blk hb j hm => S.bx.M blk hb j (h.old blk j (hbl blk hb) hm)
   ow := S.bx.ow
   box := fun i cs hi => by
    obtain ⟨blk, h1, h2⟩ := S.bx.box i cs hi
    exact ⟨blk, h1, h2.same (h.below.block blk h2.lt) hk fun v c hc => hc.kept hk (fun _ _ h => h) (fun _ _ h => h)⟩ }
  ow := {
   row := fun L v hL => by
    obtain ⟨n, xs, h1, h2⟩ := S.ow.row L v hL
    exact ⟨n, xs, ownsRow_block h1 fun b hb => h.below.block b (hol L v b hL hb), fun b j hb hm => h2 b j hb (h.old b j (hol L v b hL hb) hm)⟩
   ne := S.ow.ne }
  fr := {
   os := h.below.os.trans S.fr.os
   tape := h.below.tape.trans S.fr.tape
   output := h.below.output.trans S.fr.output
   size := Nat.le_trans S.fr.size h.below.size
   block := fun k hk hD => (h.below.block k (Nat.lt_of_lt_of_le hk S.fr.size)).trans (S.fr.block k hk hD)
   kp := S.fr.kp.trans hk
   old := fun b j hb hD hm => S.fr.old b j hb hD (h.old b j (Nat.lt_of_lt_of_le hb S.fr.size) hm) }
  bxB := S.bxB
  owB := S.owB
  pre := S.pre
  gk := S.gk.keep h.same hk (fun b hb => h.below.block b (S.gk.olt hb)) (fun b j hb hm => h.old b j (S.gk.olt hb) hm) S.gk.obx S.gk.oow }
omit [Inv] in
theorem lk_rm (fr : List (Nat × AV)) (d s : Nat) : lk (rm fr d) s = if d = s then none else lk fr s := by
 induction fr with
 | nil => simp [rm, lk]
 | cons x r ih =>
  obtain ⟨t, v⟩ := x
  simp only [rm, lk]
  cases h : Nat.beq t d with
  | true =>
   have := Nat.eq_of_beq_eq_true h
   subst this
   simp only [condA_true, ih]
   by_cases hs : t = s
   · simp [hs]
   · have h2 : Nat.beq t s = false := by cases h3 : Nat.beq t s with | false => rfl | true => exact absurd (Nat.eq_of_beq_eq_true h3) hs
     simp [hs, h2]
  | false =>
   simp only [condA_false, lk, ih]
   cases h2 : Nat.beq t s with
   | true =>
    have := Nat.eq_of_beq_eq_true h2
    subst this
    have : d ≠ t := fun e => by subst e; rw [Nat.beq_refl] at h; cases h
    simp [this]
   | false => rfl
theorem Sim.put {P : Program} {B : Base} {g : Gh} {st : St} {a : Act} {w : World} {d : Option Nat} {v : Value} {x : AV} (S : Sim P B g st a w) (hd : ∀ t, d = some t → t < B.nt) (hv : Rv g w v x) : Sim P B g (st.put d x) (a.put d v) w := by
 cases d with
 | none => exact S
 | some d =>
  have hlt := hd d rfl
  refine ⟨fun s y hs => ?_, by simp [Act.put, S.size], S.defers, S.live, S.bx, S.ow, S.fr, S.bxB, S.owB, S.pre, S.gk⟩
  simp only [St.put, lk] at hs
  have hgd : (a.put (some d) v).tmps.getD s undef = if d = s then v else a.tmps.getD s undef := by
   simp only [Act.put, Array.getD_eq_getD_getElem?, Array.getElem?_setIfInBounds, S.size]
   by_cases h : d = s
   · subst h; simp [hlt]
   · simp [h]
  rw [hgd]
  cases hb : Nat.beq d s with
  | true =>
   rw [hb] at hs
   have := Nat.eq_of_beq_eq_true hb
   subst this
   simp only [condA_true, Option.some.injEq] at hs
   subst hs
   simpa using hv
  | false =>
   rw [hb] at hs
   have hne : d ≠ s := fun e => by subst e; rw [Nat.beq_refl] at hb; cases hb
   simp only [condA_false, lk_rm, if_neg hne] at hs
   rw [if_neg hne]
   exact S.frame s y hs
omit [Inv] in
theorem acst_rv {g : Gh} {w : World} {v : Value} {x : AV} (h : acst v = some x) : Rv g w v x := by
 unfold acst at h
 split at h <;> simp only [Option.some.injEq, reduceCtorEq] at h <;> subst h
 · exact .data (.int _ _)
 · exact .data (.bool _)
 · rename_i s
   have : s = ⟨s.data.toList.toArray⟩ := by cases s; simp
   show Rc g w (.string s) (.str s.data.toList)
   conv => lhs; rw [this]
   exact .data (.str _)
 · exact .data (.slN 0)
 · exact .data .nilp
 · exact .data .errN
 · exact .data .nilf
theorem Sim.ev {P : Program} {B : Base} {g : Gh} {st : St} {a : Act} {w : World} {x : Operand} {v : AV} (S : Sim P B g st a w) (h : AX.ev st x = some v) : Rv g w (a.eval x) v := by
 cases x with
 | tmp t => exact S.frame t v h
 | const c => exact acst_rv h
 | global n => cases h
 | func n => cases h; exact .data (.clo n #[] #[] [] rfl fun i v c hv => by simp at hv)
end AX
end Go.Proofs.YtnkppakkeobegaaGreatDoor
namespace Go.Proofs.YtnkppakkeobegaaGreatDoor
namespace AX
variable [Inv]
open Go.RowKit
def leafOk : TI → Value → Bool
 | .bool, .bool b => !b
 | .int k, .int k' n => decide (k = k') && decide (n = 0)
 | .str, .string s => s.data.toList.isEmpty
 | .slice _ _, .slice none 0 0 => true
 | .ptr, .pointer none => true
 | .err, .nilIface => true
 | .map _ _, .map none => true
 | .fn, .nilFunc => true
 | _, _ => false
def leavesOk : List TI → List Value → Bool
 | [], [] => true
 | t :: ts, v :: vs => leafOk t v && leavesOk ts vs
 | _, _ => false
def fieldsOk (P : Program) (n : Nat) : List (Nat × Nat × TypeId) → List Field → Bool
 | [], [] => true
 | (o, m, t) :: r, f :: fs => Nat.beq f.offset o && Nat.beq (P.cellsOf f.type) m && Nat.beq f.type t && Nat.blt 0 m && Nat.ble (o + m) n && fieldsOk P n r fs
 | _, _ => false
def zeroSz (P : Program) (e sz : Nat) : Bool := match P.info? e with | some i => (match i.zero with | some z => Nat.beq z.cells.size sz | none => false) | none => false
def zeroPlain (P : Program) (e : TypeId) : Bool := match P.info? e with | some i => (match i.zero with | some (.agg _) => false | some _ => true | none => false) | none => false
def descOk (P : Program) : TI → TypeDesc → Bool
 | .bool, .bool => true
 | .int k, .int k' => decide (k = k')
 | .str, .string => true
 | .slice e sz, .slice e' => Nat.beq e e' && Nat.beq (P.cellsOf e) sz && Nat.blt 0 sz && Nat.ble (P.bytesOf e) 1000 && zeroSz P e sz
 | .ptr, .pointer _ => true
 | .err, .interface _ => true
 | .fn, .func _ _ _ => true
 | .map k e, .map k' e' => Nat.beq k k' && Nat.beq e e' && zeroPlain P e
 | .struct l fs, .struct fields => fieldsOk P l.length fs fields.toList
 | .arr l len sz e, .array n e' => Nat.beq len n && Nat.beq e e' && Nat.beq (P.cellsOf e) sz && Nat.blt 0 sz && Nat.beq l.length (len * sz) && (P.info? e).isSome
 | _, _ => false
def tiOk (P : Program) (t : TypeId) (ti : TI) : Bool :=
 match ti with
 | .tup _ => true
 | ti =>
  match P.info? t, P.underlying t with
  | some i, some d => Nat.beq i.size ti.leaves.length && descOk P ti d && (match i.zero with | some z => leavesOk ti.leaves z.cells.toList | none => false)
  | _, _ => false
def tysOk (P : Program) : List (Nat × TI) → Bool
 | [] => true
 | (t, ti) :: r => tiOk P t ti && tysOk P r
omit [Inv] in
theorem ty_ok {P : Program} {T : List (Nat × TI)} (h : tysOk P T = true) {t : Nat} {ti : TI} (ht : ty T t = some ti) : tiOk P t ti = true := by
 induction T with
 | nil => cases ht
 | cons x r ih =>
  obtain ⟨t', ti'⟩ := x
  simp only [tysOk, Bool.and_eq_true] at h
  simp only [ty] at ht
  cases hb : Nat.beq t' t with
  | true =>
   rw [hb] at ht
   have := Nat.eq_of_beq_eq_true hb
   subst this
   simp only [condA_true, Option.some.injEq] at ht
   subst ht
   exact h.1
  | false => rw [hb] at ht; exact ih h.2 ht
structure TyIs (P : Program) (t : TypeId) (ti : TI) : Prop where
 ex : ∃ i d z, P.info? t = some i ∧ P.underlying t = some d ∧ i.size = ti.leaves.length ∧ descOk P ti d = true ∧ i.zero = some z ∧ leavesOk ti.leaves z.cells.toList = true
omit [Inv] in
theorem tyIs_of {P : Program} {t : TypeId} {ti : TI} (h : tiOk P t ti = true) (hn : ∀ ts, ti ≠ .tup ts) : TyIs P t ti := by
 have h2 : (match P.info? t, P.underlying t with
  | some i, some d => Nat.beq i.size ti.leaves.length && descOk P ti d && (match i.zero with | some z => leavesOk ti.leaves z.cells.toList | none => false)
  | _, _ => false) = true := by
  cases ti <;> first | exact h | exact absurd rfl (hn _)
 clear h
 split at h2
 · rename_i i d hi hd
   simp only [Bool.and_eq_true] at h2
   obtain ⟨⟨h3, h4⟩, h5⟩ := h2
   split at h5
   · rename_i z hz
     exact ⟨i, d, z, hi, hd, Nat.eq_of_beq_eq_true h3, h4, hz, h5⟩
   · cases h5
 · cases h2
omit [Inv] in
theorem leavesOk_len : ∀ (ts : List TI) (vs : List Value), leavesOk ts vs = true → vs.length = ts.length
 | [], [], _ => rfl
 | t :: ts, v :: vs, h => by
  simp only [leavesOk, Bool.and_eq_true] at h
  simp [leavesOk_len ts vs h.2]
 | [], _ :: _, h => by cases h
 | _ :: _, [], h => by cases h
omit [Inv] in
theorem leaf_zero {M : Mem} {w : World} {t : TI} {v : Value} (h : leafOk t v = true) : ∀ c, (zerosU [t])[0]? = some c → Rd M w v c := by
 intro c hc
 simp only [zerosU, List.getElem?_cons_zero, Option.some.injEq] at hc
 subst hc
 unfold leafOk at h
 split at h
 · rename_i b; cases b with
   | false => exact .bool false
   | true => cases h
 · simp only [Bool.and_eq_true, decide_eq_true_eq] at h
   obtain ⟨rfl, rfl⟩ := h
   exact .int _ 0
 · rename_i s
   have : s = ⟨#[]⟩ := by
    cases s with | mk d => simp at h; simp [h]
   subst this
   exact .str []
 · exact .slN _
 · exact .nilp
 · exact .errN
 · exact .nilm
 · exact .nilf
 · cases h
omit [Inv] in
theorem zeros_data {M : Mem} {w : World} : ∀ (ts : List TI) (vs : List Value), leavesOk ts vs = true → (zerosU ts).length = vs.length ∧ ∀ (i : Nat) v c, vs[i]? = some v → (zerosU ts)[i]? = some c → Rd M w v c
 | [], [], _ => ⟨rfl, fun i v c h => by simp at h⟩
 | t :: ts, v :: vs, h => by
  simp only [leavesOk, Bool.and_eq_true] at h
  obtain ⟨h1, h2⟩ := zeros_data ts vs h.2 (M := M) (w := w)
  refine ⟨by simp [zerosU, h1], fun i u c hu hc => ?_⟩
  cases i with
  | zero =>
   simp only [List.getElem?_cons_zero, Option.some.injEq] at hu
   subst hu
   exact leaf_zero h.1 c hc
  | succ i => exact h2 i u c (by simpa using hu) (by simpa [zerosU] using hc)
 | [], _ :: _, h => by cases h
 | _ :: _, [], h => by cases h
variable {R : Type}
omit [Inv] in
theorem castI_some {kd : IntKind} {c : Cell} {k : Int → Option R} {r : R} (h : castI kd c k = some r) : ∃ n, c = .int kd n ∧ k n = some r := by
 unfold castI at h
 split at h
 · split at h
   · rename_i hk; subst hk; exact ⟨_, rfl, h⟩
   · cases h
 · cases h
omit [Inv] in
theorem castB_some {c : Cell} {k : Bool → Option R} {r : R} (h : castB c k = some r) : ∃ b, c = .bool b ∧ k b = some r := by
 unfold castB at h; split at h
 · exact ⟨_, rfl, h⟩
 · cases h
omit [Inv] in
theorem castS_some {c : Cell} {k : List UInt8 → Option R} {r : R} (h : castS c k = some r) : ∃ l, c = .str l ∧ k l = some r := by
 unfold castS at h; split at h
 · exact ⟨_, rfl, h⟩
 · cases h
omit [Inv] in
theorem castE_some {c : Cell} {k : Bool → Option R} {r : R} (h : castE c k = some r) : ∃ b, c = .err b ∧ k b = some r := by
 unfold castE at h; split at h
 · exact ⟨_, rfl, h⟩
 · cases h
omit [Inv] in
theorem castL_some {sz : Nat} {c : Cell} {k : Option Nm → List Cell → Option R} {r : R} (h : castL sz c k = some r) : ∃ nm s cs, c = .sl nm s cs ∧ (s = sz ∨ s = 0) ∧ k nm cs = some r := by
 unfold castL at h
 split at h
 · rename_i nm s cs
   cases hb : Nat.beq s sz with
   | true => rw [hb] at h; exact ⟨nm, s, cs, rfl, .inl (Nat.eq_of_beq_eq_true hb), by simpa using h⟩
   | false =>
    rw [hb] at h
    cases hz : Nat.beq s 0 with
    | true => rw [hz] at h; exact ⟨nm, s, cs, rfl, .inr (Nat.eq_of_beq_eq_true hz), by simpa using h⟩
    | false => rw [hz] at h; cases h
 · cases h
omit [Inv] in
theorem Rd.sized {M : Mem} {w : World} {v : Value} {nm : Option Nm} {s sz : Nat} {cs : List Cell} (h : Rd M w v (.sl nm s cs)) (hs : s = sz ∨ s = 0) : Rd M w v (.sl nm sz cs) := by
 rcases hs with rfl | rfl
 · exact h
 · cases h with
   | slN => exact .slN sz
   | sl0 _ _ _ h0 => omega
   | sl _ _ _ _ _ _ _ h0 => omega
omit [Inv] in
theorem Rc.sized {g : Gh} {w : World} {v : Value} {nm : Option Nm} {s sz : Nat} {cs : List Cell} (h : Rc g w v (.sl nm s cs)) (hs : s = sz ∨ s = 0) : Rc g w v (.sl nm sz cs) := by
 cases h with
 | data h => exact .data (h.sized hs)
 | own L h1 h2 => exact .own L h1 (h2.sized hs)
omit [Inv] in
theorem castD_sound {M : Mem} {w : World} {v : Value} {c : Cell} {t : TI} {k : Cell → Option R} {r : R} (h : castD t c k = some r) (hv : Rd M w v c) : ∃ c', k c' = some r ∧ Rd M w v c' := by
 unfold castD at h
 split at h
 · obtain ⟨n, rfl, h1⟩ := castI_some h; exact ⟨_, h1, hv⟩
 · obtain ⟨n, rfl, h1⟩ := castB_some h; exact ⟨_, h1, hv⟩
 · obtain ⟨n, rfl, h1⟩ := castS_some h; exact ⟨_, h1, hv⟩
 · obtain ⟨nm, s, cs, rfl, hs, h⟩ := castL_some h
   refine ⟨_, h, ?_⟩
   have := hv.sized hs
   cases this with
   | slN => exact .slN _
   | sl0 _ _ _ h0 => exact .sl0 _ _ _ h0
   | sl _ _ _ _ _ _ _ h1 h2 h3 h4 h5 => exact .sl _ _ _ _ _ _ _ h1 h2 h3 h4 h5
 · obtain ⟨n, rfl, h1⟩ := castE_some h; exact ⟨_, h1, hv⟩
 · split at h
   · exact ⟨_, h, hv⟩
   · exact ⟨_, h, hv⟩
   · cases h
 · split at h
   · exact ⟨_, h, hv⟩
   · exact ⟨_, h, hv⟩
   · cases h
 · split at h
   · exact ⟨_, h, hv⟩
   · exact ⟨_, h, hv⟩
   · cases h
 · cases h
omit [Inv] in
theorem castC_sound {g : Gh} {w : World} {v : Value} {c : Cell} {t : TI} {k : Cell → Option R} {r : R} (h : castC t c k = some r) (hv : Rc g w v c) : ∃ c', k c' = some r ∧ Rc g w v c' := by
 unfold castC at h
 split at h
 · obtain ⟨nm, s, cs, rfl, hs, h⟩ := castL_some h
   exact ⟨_, h, hv.sized hs⟩
 · split at h
   · exact ⟨_, h, hv⟩
   · exact ⟨_, h, hv⟩
   · exact ⟨_, h, hv⟩
   · exact ⟨_, h, hv⟩
   · cases h
 · split at h
   · exact ⟨_, h, hv⟩
   · exact ⟨_, h, hv⟩
   · exact ⟨_, h, hv⟩
   · cases h
 · unfold castD at h
   split at h
   · obtain ⟨n, rfl, h1⟩ := castI_some h; exact ⟨_, h1, hv⟩
   · obtain ⟨n, rfl, h1⟩ := castB_some h; exact ⟨_, h1, hv⟩
   · obtain ⟨n, rfl, h1⟩ := castS_some h; exact ⟨_, h1, hv⟩
   · rename_i h1 h2 h3; exact absurd rfl (h1 _ _)
   · obtain ⟨n, rfl, h1⟩ := castE_some h; exact ⟨_, h1, hv⟩
   · rename_i h1 h2 h3; exact absurd rfl (h3 _ _)
   · rename_i h1 h2 h3; exact absurd rfl h2
   · split at h
     · exact ⟨_, h, hv⟩
     · exact ⟨_, h, hv⟩
     · cases h
   · cases h
def RdL (M : Mem) (w : World) (vs : List Value) (cs : List Cell) : Prop := vs.length = cs.length ∧ ∀ (i : Nat) v c, vs[i]? = some v → cs[i]? = some c → Rd M w v c
def RcL (g : Gh) (w : World) (vs : List Value) (cs : List Cell) : Prop := vs.length = cs.length ∧ ∀ (i : Nat) v c, vs[i]? = some v → cs[i]? = some c → Rc g w v c
omit [Inv] in
theorem RvA.toL {g : Gh} {w : World} {vs : Array Value} {cs : List Cell} (h : RvA g w vs cs) : RcL g w vs.toList cs := ⟨by simpa using h.1, fun i v c hv hc => h.2 i v c (by simpa using hv) hc⟩
omit [Inv] in
theorem RcL.toA {g : Gh} {w : World} {vs : List Value} {cs : List Cell} (h : RcL g w vs cs) : RvA g w vs.toArray cs := ⟨by simpa using h.1, fun i v c hv hc => h.2 i v c (by simpa using hv) hc⟩
omit [Inv] in
theorem RdL.toC {g : Gh} {w : World} {vs : List Value} {cs : List Cell} (h : RdL g.M w vs cs) : RcL g w vs cs := ⟨h.1, fun i v c hv hc => .data (h.2 i v c hv hc)⟩
omit [Inv] in
theorem castDs_sound {M : Mem} {w : World} : ∀ (ts : List TI) (vs : List Value) (cs : List Cell) {k : List Cell → Option R} {r : R}, castDs ts cs k = some r → RdL M w vs cs →
 ts.length ≤ cs.length ∧ ∃ cs', k cs' = some r ∧ RdL M w (vs.take ts.length) cs'
 | [], vs, cs, k, r, h, hv => ⟨Nat.zero_le _, [], h, by simp, fun i v c hv hc => by simp at hc⟩
 | t :: ts, vs, [], k, r, h, hv => by cases h
 | t :: ts, [], c :: cs, k, r, h, hv => by have := hv.1; simp at this
 | t :: ts, v :: vs, c :: cs, k, r, h, hv => by
  simp only [castDs] at h
  obtain ⟨c', h1, h2⟩ := castD_sound h (hv.2 0 v c rfl rfl)
  obtain ⟨h3, cs', h4, h5⟩ := castDs_sound ts vs cs h1 ⟨by have := hv.1; simpa using this, fun i v c hi hc => hv.2 (i + 1) v c hi hc⟩
  refine ⟨by simp; omega, c' :: cs', h4, by simp [h5.1], fun i u d hu hd => ?_⟩
  cases i with
  | zero => simp at hu hd; subst hu; subst hd; exact h2
  | succ i => exact h5.2 i u d (by simpa using hu) (by simpa using hd)
omit [Inv] in
theorem castCs_sound {g : Gh} {w : World} : ∀ (ts : List TI) (vs : List Value) (cs : List Cell) {k : List Cell → Option R} {r : R}, castCs ts cs k = some r → RcL g w vs cs →
 ts.length ≤ cs.length ∧ ∃ cs', k cs' = some r ∧ RcL g w (vs.take ts.length) cs'
 | [], vs, cs, k, r, h, hv => ⟨Nat.zero_le _, [], h, by simp, fun i v c hv hc => by simp at hc⟩
 | t :: ts, vs, [], k, r, h, hv => by cases h
 | t :: ts, [], c :: cs, k, r, h, hv => by have := hv.1; simp at this
 | t :: ts, v :: vs, c :: cs, k, r, h, hv => by
  simp only [castCs] at h
  obtain ⟨c', h1, h2⟩ := castC_sound h (hv.2 0 v c rfl rfl)
  obtain ⟨h3, cs', h4, h5⟩ := castCs_sound ts vs cs h1 ⟨by have := hv.1; simpa using this, fun i v c hi hc => hv.2 (i + 1) v c hi hc⟩
  refine ⟨by simp; omega, c' :: cs', h4, by simp [h5.1], fun i u d hu hd => ?_⟩
  cases i with
  | zero => simp at hu hd; subst hu; subst hd; exact h2
  | succ i => exact h5.2 i u d (by simpa using hu) (by simpa using hd)
omit [Inv] in
theorem castXs_sound {g : Gh} {w : World} : ∀ (ts : List TI) (vs : List Value) (cs : List Cell) {k : List Cell → Option R} {r : R}, castXs ts cs k = some r → RcL g w vs cs →
 ∃ cs', k cs' = some r ∧ RcL g w vs cs'
 | [], vs, [], k, r, h, hv => ⟨[], h, hv⟩
 | [], vs, c :: cs, k, r, h, hv => by cases h
 | t :: ts, vs, [], k, r, h, hv => by cases h
 | t :: ts, [], c :: cs, k, r, h, hv => by have := hv.1; simp at this
 | t :: ts, v :: vs, c :: cs, k, r, h, hv => by
  simp only [castXs] at h
  obtain ⟨c', h1, h2⟩ := castC_sound h (hv.2 0 v c rfl rfl)
  obtain ⟨cs', h4, h5⟩ := castXs_sound ts vs cs h1 ⟨by have := hv.1; simpa using this, fun i v c hi hc => hv.2 (i + 1) v c hi hc⟩
  refine ⟨c' :: cs', h4, by simp [h5.1], fun i u d hu hd => ?_⟩
  cases i with
  | zero => simp at hu hd; subst hu; subst hd; exact h2
  | succ i => exact h5.2 i u d (by simpa using hu) (by simpa using hd)
end AX
end Go.Proofs.YtnkppakkeobegaaGreatDoor
namespace Go.Proofs.YtnkppakkeobegaaGreatDoor
namespace AX
variable [Inv]
open Go.RowKit
variable {P : Program} {R : Type}
def PureS (P : Program) (g : Gh) (w : World) (a : Act) (o : Oper) (av : AV) : Prop :=
 ∀ (K : Act → World → Prop) (Q : Exit → Act → World → Prop), (∀ v w' M', Grow g w M' w' → Rv ⟨M', g.bx, g.ow⟩ w' v av → K (a.put o.dst v) w') → o.wp P a w K Q
omit [Inv] in
theorem wp_value {o : Oper} {a : Act} {K : Act → World → Prop} {Q : Exit → Act → World → Prop} {w w' : World} {v : Value} (h : (execOp a.eval o).run P w = .ok (.value v) w') (hk : K (a.put o.dst v) w') : o.wp P a w K Q := by
 unfold Oper.wp; rw [h]; exact hk
omit [Inv] in
theorem run_v {s : Sem Value} {w w' : World} {v : Value} (h : s.run P w = .ok v w') : (do pure (Next.value (← s)) : Sem Next).run P w = .ok (.value v) w' := by
 simp [h]
theorem pure_same {B : Base} {g : Gh} {st : St} {a : Act} {w : World} {o : Oper} {v : Value} {av : AV} (S : Sim P B g st a w) (h : (execOp a.eval o).run P w = .ok (.value v) w) (hv : Rv g w v av) : PureS P g w a o av :=
 fun _ _ hK => wp_value h (hK v w g.M (Grow.refl S.live) hv)
theorem pure_same_v {B : Base} {g : Gh} {st : St} {a : Act} {w : World} {o : Oper} {v : Value} {av : AV} {s : Sem Value} (S : Sim P B g st a w) (he : execOp a.eval o = (do pure (Next.value (← s)) : Sem Next)) (h : s.run P w = .ok v w) (hv : Rv g w v av) : PureS P g w a o av :=
 pure_same S (by rw [he]; exact run_v h) hv
omit [Inv] in
theorem strOp_sound {M : Mem} {w : World} {op : BinOp} {x y : List UInt8} {c : Cell} (h : strOp op x y = some c) : ∃ v, (Op.stringOp op ⟨x.toArray⟩ ⟨y.toArray⟩).run P w = .ok v w ∧ Rd M w v c := by
 have e1 : (⟨x.toArray⟩ : ByteArray).toList = x := by rw [ByteArray.toList_eq]
 have e2 : (⟨y.toArray⟩ : ByteArray).toList = y := by rw [ByteArray.toList_eq]
 unfold strOp at h
 unfold Op.stringOp
 rw [e1, e2]
 cases op <;> simp only [reduceCtorEq] at h
 case add =>
  cases hd : decide (x.length + y.length ≤ strLim) with
  | false => rw [hd] at h; cases h
  | true =>
   rw [hd] at h
   simp only [condA_true, Option.some.injEq] at h
   subst h
   have hle : x.length + y.length ≤ strLim := of_decide_eq_true hd
   unfold strLim at hle
   have hs : ((⟨x.toArray⟩ : ByteArray).size + (⟨y.toArray⟩ : ByteArray).size : Nat) = x.length + y.length := by show x.toArray.size + y.toArray.size = _; simp
   refine ⟨.string ⟨(x ++ y).toArray⟩, ?_, .str _⟩
   rw [hs]
   have hn : ¬ (((x.length + y.length : Nat) : Int) > IntKind.i64.max) := by
    have : IntKind.i64.max = 9223372036854775807 := rfl
    rw [this]; omega
   simp only [if_neg hn, Sem.run_pure]
   rfl
 all_goals (simp only [Option.some.injEq] at h; subst h; exact ⟨_, rfl, .bool _⟩)
omit [Inv] in
theorem intOp_sound {M : Mem} {w : World} {op : BinOp} {xt : TypeId} {kd : IntKind} {x y : Int} {c : Cell} (h : intOp op kd x y = some c) : ∃ v, (binOp op xt (.int kd x) (.int kd y)).run P w = .ok v w ∧ Rd M w v c := by
 unfold intOp at h
 cases op
 case quo | rem =>
  by_cases hy : y = 0
  · subst hy; simp at h
  · rw [decide_eq_false hy] at h
    simp only [condA_false, Option.some.injEq] at h
    subst h
    exact ⟨_, by simp only [binOp, Op.intDiv, hy, if_false, ne_eq, not_true]; rfl, .int _ _⟩
 all_goals simp only [reduceCtorEq, Option.some.injEq] at h
 all_goals subst h
 all_goals first
  | exact ⟨_, by simp only [binOp, Op.intArith, Op.intBits, Op.intCmp, ne_eq, not_true, if_false]; rfl, .int _ _⟩
  | exact ⟨_, by simp only [binOp, Op.intCmp, ne_eq, not_true, if_false]; rfl, .bool _⟩
omit [Inv] in
theorem shOp_sound {M : Mem} {w : World} {op : BinOp} {xt : TypeId} {kd kd' : IntKind} {x y : Int} {c : Cell} (ho : op = .shl ∨ op = .shr) (h : shOp op kd x y = some c) : ∃ v, (binOp op xt (.int kd x) (.int kd' y)).run P w = .ok v w ∧ Rd M w v c := by
 unfold shOp at h
 by_cases hy : y < 0
 · rw [decide_eq_true hy] at h; cases h
 · rw [decide_eq_false hy] at h
   simp only [condA_false] at h
   rcases ho with rfl | rfl <;> simp only [Option.some.injEq] at h <;> subst h
   · exact ⟨_, by simp only [binOp, Op.shift, hy, if_false]; rfl, .int _ _⟩
   · exact ⟨_, by simp only [binOp, Op.shift, hy, if_false]; rfl, .int _ _⟩
omit [Inv] in
theorem TyIs.is_bool {t : TypeId} (h : TyIs P t .bool) : P.underlying t = some .bool := by
 obtain ⟨i, d, z, _, h2, _, h4, _⟩ := h.ex
 cases d <;> simp only [descOk, reduceCtorEq] at h4
 exact h2
omit [Inv] in
theorem TyIs.is_int {t : TypeId} {k : IntKind} (h : TyIs P t (.int k)) : P.underlying t = some (.int k) := by
 obtain ⟨i, d, z, _, h2, _, h4, _⟩ := h.ex
 cases d <;> simp only [descOk, reduceCtorEq] at h4
 rw [decide_eq_true_eq] at h4; subst h4; exact h2
omit [Inv] in
theorem TyIs.is_str {t : TypeId} (h : TyIs P t .str) : P.underlying t = some .string := by
 obtain ⟨i, d, z, _, h2, _, h4, _⟩ := h.ex
 cases d <;> simp only [descOk, reduceCtorEq] at h4
 exact h2
omit [Inv] in
theorem TyIs.is_ptr {t : TypeId} (h : TyIs P t .ptr) : ∃ e, P.underlying t = some (.pointer e) := by
 obtain ⟨i, d, z, _, h2, _, h4, _⟩ := h.ex
 cases d <;> simp only [descOk, reduceCtorEq] at h4
 exact ⟨_, h2⟩
omit [Inv] in
theorem TyIs.is_err {t : TypeId} (h : TyIs P t .err) : ∃ ms, P.underlying t = some (.interface ms) := by
 obtain ⟨i, d, z, _, h2, _, h4, _⟩ := h.ex
 cases d <;> simp only [descOk, reduceCtorEq] at h4
 exact ⟨_, h2⟩
omit [Inv] in
theorem zeroSz_some {e sz : Nat} (h : zeroSz P e sz = true) : ∃ i, P.info? e = some i := by
 unfold zeroSz at h
 split at h
 · exact ⟨_, ‹_›⟩
 · cases h
omit [Inv] in
theorem TyIs.is_slice {t e : TypeId} {sz : Nat} (h : TyIs P t (.slice e sz)) : P.underlying t = some (.slice e) ∧ P.cellsOf e = sz ∧ 0 < sz ∧ P.bytesOf e ≤ 1000 ∧ ∃ i, P.info? e = some i := by
 obtain ⟨i, d, z, _, h2, _, h4, _⟩ := h.ex
 cases d <;> simp only [descOk, reduceCtorEq] at h4
 simp only [Bool.and_eq_true] at h4
 obtain ⟨⟨⟨⟨h5, h6⟩, h7⟩, h8⟩, h9⟩ := h4
 have := Nat.eq_of_beq_eq_true h5
 subst this
 exact ⟨h2, Nat.eq_of_beq_eq_true h6, Nat.lt_of_lt_of_le Nat.zero_lt_one (by simpa [Nat.blt] using h7), by simpa using h8, zeroSz_some h9⟩
omit [Inv] in
theorem TyIs.elem_zero {t e : TypeId} {sz : Nat} (h : TyIs P t (.slice e sz)) {i : TypeInfo} (hi : P.info? e = some i) : ∃ z, i.zero = some z ∧ z.cells.size = sz := by
 obtain ⟨i', d, z, _, h2, _, h4, _⟩ := h.ex
 cases d <;> simp only [descOk, reduceCtorEq] at h4
 simp only [Bool.and_eq_true] at h4
 have h9 := h4.2
 unfold zeroSz at h9
 rw [hi] at h9
 simp only [] at h9
 split at h9
 · exact ⟨_, ‹_›, Nat.eq_of_beq_eq_true h9⟩
 · cases h9
omit [Inv] in
theorem run_equal_bool {t : TypeId} {x y : Bool} {w : World} (h : P.underlying t = some .bool) : (Op.equal t (.bool x) (.bool y)).run P w = .ok (x == y) w :=
 (fun d => show (Op.equalIn (d + 1) t (.bool x) (.bool y)).run P w = .ok (x == y) w by simp [Op.equalIn, run_underlying h]) 9999
omit [Inv] in
theorem run_equal_ptrs {t e : TypeId} {x : Option Addr} {w : World} (h : P.underlying t = some (.pointer e)) : (Op.equal t (.pointer x) (.pointer none)).run P w = .ok x.isNone w :=
 (fun d => show (Op.equalIn (d + 1) t (.pointer x) (.pointer none)).run P w = .ok x.isNone w by cases x <;> simp [Op.equalIn, run_underlying h]) 9999
omit [Inv] in
theorem run_equal_ifn {t : TypeId} {ms : Array (String × TypeId)} {w : World} (h : P.underlying t = some (.interface ms)) : (Op.equal t .nilIface .nilIface).run P w = .ok true w :=
 (fun d => show (Op.equalIn (d + 1) t .nilIface .nilIface).run P w = .ok true w by simp [Op.equalIn, run_underlying h]) 9999
omit [Inv] in
theorem run_equal_ifs {t u : TypeId} {v : Value} {ms : Array (String × TypeId)} {w : World} (h : P.underlying t = some (.interface ms)) : (Op.equal t (.iface u v) .nilIface).run P w = .ok false w :=
 (fun d => show (Op.equalIn (d + 1) t (.iface u v) .nilIface).run P w = .ok false w by simp [Op.equalIn, run_underlying h]) 9999
omit [Inv] in
theorem Rc.int_inv {g : Gh} {w : World} {v : Value} {k : IntKind} {n : Int} (h : Rc g w v (.int k n)) : v = .int k n := by cases h with | data h => cases h; rfl
omit [Inv] in
theorem Rc.bool_inv {g : Gh} {w : World} {v : Value} {b : Bool} (h : Rc g w v (.bool b)) : v = .bool b := by cases h with | data h => cases h; rfl
omit [Inv] in
theorem Rc.str_inv {g : Gh} {w : World} {v : Value} {l : List UInt8} (h : Rc g w v (.str l)) : v = .string ⟨l.toArray⟩ := by cases h with | data h => cases h; rfl
omit [Inv] in
theorem Rc.nilp_inv {g : Gh} {w : World} {v : Value} (h : Rc g w v .nilp) : v = .pointer none := by cases h with | data h => cases h; rfl
omit [Inv] in
theorem Rc.errF_inv {g : Gh} {w : World} {v : Value} (h : Rc g w v (.err false)) : v = .nilIface := by cases h with | data h => cases h; rfl
omit [Inv] in
theorem Rc.err_inv {g : Gh} {w : World} {v : Value} {b : Bool} (h : Rc g w v (.err b)) : (b = false ∧ v = .nilIface) ∨ (b = true ∧ ∃ t u, v = .iface t u) := by
 cases h with
 | data h => cases h with
  | errN => exact .inl ⟨rfl, rfl⟩
  | errS t u => exact .inr ⟨rfl, t, u, rfl⟩
omit [Inv] in
theorem Rc.ptr_inv {g : Gh} {w : World} {v : Value} {b o : Nat} (h : Rc g w v (.ptr b o)) : ∃ blk, v = .pointer (some ⟨blk, o, none⟩) ∧ g.bx[b]? = some blk := by
 cases h with
 | data h => cases h
 | ptr _ _ blk h => exact ⟨blk, rfl, h⟩
omit [Inv] in
theorem Rc.gptr_inv {g : Gh} {w : World} {v : Value} {b o : Nat} (h : Rc g w v (.gptr b o)) : ∃ blk, v = .pointer (some ⟨blk, o, none⟩) ∧ g.M.gx[b]? = some blk := by cases h with | data h => cases h with | gptr _ _ blk hb => exact ⟨blk, rfl, hb⟩
omit [Inv] in
theorem binA_sound {T : List (Nat × TI)} (hT : tysOk P T = true) {g : Gh} {w : World} {op : BinOp} {t : TypeId} {x y : Operand} {u v : Value} {a b : AV} {c : Cell} (h : binA (ty T t) (isConstO y) op a b = some c)
 (hu : Rv g w u a) (hv : Rv g w v b) : ∃ r, (do eqGuard op t x y u v; binOp op t u v : Sem Value).run P w = .ok r w ∧ Rc g w r c := by
 unfold binA at h
 split at h
 · rename_i k1 x1 k2 y1
   obtain rfl := Rc.int_inv hu
   obtain rfl := Rc.int_inv hv
   split at h
   · obtain ⟨r, h1, h2⟩ := shOp_sound (P := P) (M := g.M) (w := w) (xt := t) (kd' := k2) (.inl rfl) h
     exact ⟨r, by simp [eqGuard, h1], .data h2⟩
   · obtain ⟨r, h1, h2⟩ := shOp_sound (P := P) (M := g.M) (w := w) (xt := t) (kd' := k2) (.inr rfl) h
     exact ⟨r, by simp [eqGuard, h1], .data h2⟩
   · split at h
     · rename_i hk
       subst hk
       obtain ⟨r, h1, h2⟩ := intOp_sound (P := P) (M := g.M) (w := w) (xt := t) h
       refine ⟨r, ?_, .data h2⟩
       simp [eqGuard, h1]
       try (split <;> simp [h1])
     · cases h
 · obtain rfl := Rc.str_inv hu
   obtain rfl := Rc.str_inv hv
   obtain ⟨r, h1, h2⟩ := strOp_sound (P := P) (M := g.M) (w := w) h
   refine ⟨r, ?_, .data h2⟩
   have e : ∀ A B : ByteArray, (binOp op t (.string A) (.string B)) = Op.stringOp op A B := fun A B => by cases op <;> rfl
   simp [eqGuard, e, h1]
   try (split <;> simp [h1])
 · obtain rfl := Rc.bool_inv hu
   obtain rfl := Rc.bool_inv hv
   split at h
   · rename_i ht
     have := (tyIs_of (ty_ok hT ht) (by simp)).is_bool
     simp only [Option.some.injEq] at h; subst h
     exact ⟨_, by simp [eqGuard, binOp, run_equal_bool this], .data (.bool _)⟩
   · rename_i ht
     have := (tyIs_of (ty_ok hT ht) (by simp)).is_bool
     simp only [Option.some.injEq] at h; subst h
     exact ⟨_, by simp [eqGuard, binOp, run_equal_bool this], .data (.bool _)⟩
   · cases h
 · obtain rfl := Rc.errF_inv hv
   split at h
   · rename_i ht hy
     obtain ⟨ms, hi⟩ := (tyIs_of (ty_ok hT ht) (by simp)).is_err
     simp only [Option.some.injEq] at h; subst h
     cases y <;> simp only [isConstO, reduceCtorEq] at hy
     rcases Rc.err_inv hu with ⟨rfl, rfl⟩ | ⟨rfl, tt, uu, rfl⟩
     · exact ⟨_, by simp [eqGuard, binOp, run_equal_ifn hi], .data (.bool _)⟩
     · exact ⟨_, by simp [eqGuard, binOp, run_equal_ifs hi], .data (.bool _)⟩
   · rename_i ht hy
     obtain ⟨ms, hi⟩ := (tyIs_of (ty_ok hT ht) (by simp)).is_err
     simp only [Option.some.injEq] at h; subst h
     cases y <;> simp only [isConstO, reduceCtorEq] at hy
     rcases Rc.err_inv hu with ⟨rfl, rfl⟩ | ⟨rfl, tt, uu, rfl⟩
     · exact ⟨_, by simp [eqGuard, binOp, run_equal_ifn hi], .data (.bool _)⟩
     · exact ⟨_, by simp [eqGuard, binOp, run_equal_ifs hi], .data (.bool _)⟩
   · cases h
 · obtain rfl := Rc.nilp_inv hu
   obtain rfl := Rc.nilp_inv hv
   split at h
   · rename_i ht
     obtain ⟨e, hp⟩ := (tyIs_of (ty_ok hT ht) (by simp)).is_ptr
     simp only [Option.some.injEq] at h; subst h
     exact ⟨_, by simp [eqGuard, binOp, run_equal_ptrs hp], .data (.bool _)⟩
   · rename_i ht
     obtain ⟨e, hp⟩ := (tyIs_of (ty_ok hT ht) (by simp)).is_ptr
     simp only [Option.some.injEq] at h; subst h
     exact ⟨_, by simp [eqGuard, binOp, run_equal_ptrs hp], .data (.bool _)⟩
   · cases h
 · obtain rfl := Rc.nilp_inv hv
   obtain ⟨blk, rfl, hb⟩ := Rc.ptr_inv hu
   split at h
   · rename_i ht
     obtain ⟨e, hp⟩ := (tyIs_of (ty_ok hT ht) (by simp)).is_ptr
     simp only [Option.some.injEq] at h; subst h
     exact ⟨_, by simp [eqGuard, binOp, run_equal_ptrs hp], .data (.bool _)⟩
   · rename_i ht
     obtain ⟨e, hp⟩ := (tyIs_of (ty_ok hT ht) (by simp)).is_ptr
     simp only [Option.some.injEq] at h; subst h
     exact ⟨_, by simp [eqGuard, binOp, run_equal_ptrs hp], .data (.bool _)⟩
   · cases h
 · obtain rfl := Rc.nilp_inv hv
   obtain ⟨blk, rfl, hb⟩ := Rc.gptr_inv hu
   split at h
   · rename_i ht
     obtain ⟨e, hp⟩ := (tyIs_of (ty_ok hT ht) (by simp)).is_ptr
     simp only [Option.some.injEq] at h; subst h
     exact ⟨_, by simp [eqGuard, binOp, run_equal_ptrs hp], .data (.bool _)⟩
   · rename_i ht
     obtain ⟨e, hp⟩ := (tyIs_of (ty_ok hT ht) (by simp)).is_ptr
     simp only [Option.some.injEq] at h; subst h
     exact ⟨_, by simp [eqGuard, binOp, run_equal_ptrs hp], .data (.bool _)⟩
   · cases h
 · cases h
omit [Inv] in
theorem unA_sound {g : Gh} {w : World} {op : UnOp} {u : Value} {a : AV} {c : Cell} (h : unA op a = some c) (hu : Rv g w u a) : ∃ r, (Op.unary op u).run P w = .ok r w ∧ Rc g w r c := by
 unfold unA at h
 split at h
 · obtain rfl := Rc.bool_inv hu
   simp only [Option.some.injEq] at h; subst h
   exact ⟨_, rfl, .data (.bool _)⟩
 · obtain rfl := Rc.int_inv hu
   simp only [Option.some.injEq] at h; subst h
   exact ⟨_, rfl, .data (.int _ _)⟩
 · cases h
end AX
end Go.Proofs.YtnkppakkeobegaaGreatDoor
namespace Go.Proofs.YtnkppakkeobegaaGreatDoor
namespace AX
variable [Inv]
open Go.RowKit
variable {P : Program} {R : Type}
omit [Inv] in
theorem TyIs.agg {t : TypeId} {ti : TI} (h : TyIs P t ti) {w : World} : (isAgg t).run P w = .ok ti.isAgg w := by
 obtain ⟨i, d, z, _, h2, _, h4, _⟩ := h.ex
 cases ti <;> cases d <;> simp only [descOk, reduceCtorEq] at h4 <;> simp [isAgg, run_underlying h2, TI.isAgg]
omit [Inv] in
theorem TyIs.size {t : TypeId} {ti : TI} (h : TyIs P t ti) {w : World} : (sizeOf t).run P w = .ok ti.leaves.length w := by
 obtain ⟨i, d, z, h1, _, h3, _⟩ := h.ex
 simp [sizeOf, typeInfo, h1, h3]
omit [Inv] in
theorem TyIs.cells {t : TypeId} {ti : TI} (h : TyIs P t ti) : P.cellsOf t = ti.leaves.length := by
 obtain ⟨i, d, z, h1, _, h3, _⟩ := h.ex
 simp [Program.cellsOf, h1, h3]
omit [Inv] in
theorem run_sizeOf {e : TypeId} {i : TypeInfo} (h : P.info? e = some i) {w : World} : (sizeOf e).run P w = .ok (P.cellsOf e) w := by
 simp [sizeOf, typeInfo, h, Program.cellsOf]
omit [Inv] in
theorem tup_no {_g : Gh} {_w : World} {ts : List TI} {_vs : List Value} {cs : List Cell} {k : List Cell → Option R} {r : R} (h : castCs [.tup ts] cs k = some r) : False := by
 cases cs with
 | nil => cases h
 | cons c cs => simp only [castCs] at h; cases h
omit [Inv] in
theorem tup_no' {ts : List TI} {cs : List Cell} {k : List Cell → Option R} {r : R} (h : castDs [.tup ts] cs k = some r) : False := by
 cases cs with
 | nil => cases h
 | cons c cs => simp only [castDs] at h; cases h
omit [Inv] in
theorem run_loadVar {t : TypeId} {ti : TI} (hti : TyIs P t ti) {w : World} {a : Addr} {vs : List Value} (hl : vs.length = ti.leaves.length) (hv : ∀ (j : Nat) v, vs[j]? = some v → w.cell? (a.add j) = some v) :
 (loadVar t a).run P w = .ok (if ti.isAgg then .agg vs.toArray else vs.headD undef) w := by
 unfold loadVar
 simp only [Sem.run_bind, hti.agg, Result.andThen_ok]
 cases hA : ti.isAgg with
 | true =>
  have hr := run_loadCells_list (P := P) w a vs hv
  rw [hl] at hr
  simp [hti.size, hr]
 | false =>
  have h1 : ti.leaves = [ti] := by cases ti <;> first | rfl | cases hA
  rw [h1] at hl
  obtain ⟨v, rfl⟩ : ∃ v, vs = [v] := by
   cases vs with
   | nil => cases hl
   | cons v vs => cases vs with
    | nil => exact ⟨v, rfl⟩
    | cons _ _ => simp at hl
  have := hv 0 v rfl
  have e : a.add 0 = a := by simp [Addr.add]
  rw [e] at this
  simp [load, Sem.run, this]
theorem loadK_sound {B : Base} {g : Gh} {st : St} {a : Act} {w : World} {t : TypeId} {ti : TI} (S : Sim P B g st a w) (hti : tiOk P t ti = true) {p : AV} {v : Value} (hv : Rv g w v p) {k : AV → Option R} {r : R} (h : loadK ti st p k = some r) :
 ∃ av u, k av = some r ∧ (Instr.loadAt t v).run P w = .ok u w ∧ Rv g w u av := by
 have fin : ∀ (vs : List Value) (l : List Cell), RcL g w vs l → vs.length = ti.leaves.length → packK ti l k = some r →
  ∃ av, k av = some r ∧ Rv g w (if ti.isAgg then .agg vs.toArray else vs.headD undef) av := by
  intro vs l hR hl hk
  unfold packK at hk
  cases hA : ti.isAgg with
  | true => rw [hA] at hk; exact ⟨_, hk, vs.toArray, rfl, hR.toA⟩
  | false =>
   rw [hA] at hk
   simp only [condA_false] at hk
   split at hk
   · rename_i c
     have := hR.1
     cases vs with
     | nil => cases this
     | cons v vs => exact ⟨_, hk, hR.2 0 v c rfl rfl⟩
   · cases hk
 unfold loadK at h
 split at h
 · rename_i b o
   obtain ⟨blk, rfl, hb⟩ := Rc.ptr_inv hv
   split at h
   · rename_i cs hcs
     obtain ⟨blk', h1, h2⟩ := S.bx.box b cs hcs
     rw [hb] at h1; cases h1
     cases hle : Nat.ble (o + ti.leaves.length) cs.length with
     | false => rw [hle] at h; cases h
     | true =>
      rw [hle] at h
      simp only [condA_true] at h
      have hle2 : o + ti.leaves.length ≤ cs.length := Nat.le_of_ble_eq_true hle
      have odd : ∀ c, cs = [c] → (∀ t (k : Cell → Option R) r, castC t c k ≠ some r) → ∃ av u, k av = some r ∧ (Instr.loadAt t (.pointer (some ⟨blk, o, none⟩))).run P w = .ok u w ∧ Rv g w u av := fun c hc hno => by
       subst hc
       have hnt : ∀ ts, ti ≠ .tup ts := fun ts e => by subst e; exact tup_no (_g := g) (_w := w) (_vs := []) h
       have hT := tyIs_of hti hnt
       cases hlv : ti.leaves with
       | nil =>
        rw [hlv, castCs] at h
        obtain ⟨av, h7, h8⟩ := fin [] [] ⟨rfl, fun i v c hv => by cases hv⟩ (by rw [hlv]; rfl) h
        refine ⟨av, _, h7, ?_, h8⟩
        simp only [Instr.loadAt, Instr.sureAddr, Sem.run_bind, Sem.run_pure, Result.andThen_ok]
        exact run_loadVar hT (by rw [hlv]; rfl) fun j u hu => by cases hu
       | cons t0 ts0 =>
        rw [hlv] at h hle2
        have ho : o = 0 := by simp at hle2; omega
        subst ho
        rw [List.drop_zero, castCs] at h
        exact absurd h (hno _ _ _)
      cases h2 with
      | row vs e fz cs0 _ _ _ _ => exact odd _ rfl fun t k r => by cases t <;> simp [castC, castD, castI, castB, castS, castL, castE]
      | map es ck ks _ _ => exact odd _ rfl fun t k r => by cases t <;> simp [castC, castD, castI, castB, castS, castL, castE]
      | bld t' p' v' c' h2 h3 h4 =>
       have hnt : ∀ ts, ti ≠ .tup ts := fun ts e => by subst e; exact tup_no (_g := g) (_w := w) (_vs := []) h
       have hT := tyIs_of hti hnt
       cases hlv : ti.leaves with
       | nil =>
        rw [hlv, castCs] at h
        obtain ⟨av, h7, h8⟩ := fin [] [] ⟨rfl, fun i v c hv => by cases hv⟩ (by rw [hlv]; rfl) h
        refine ⟨av, _, h7, ?_, h8⟩
        simp only [Instr.loadAt, Instr.sureAddr, Sem.run_bind, Sem.run_pure, Result.andThen_ok]
        exact run_loadVar hT (by rw [hlv]; rfl) fun j u hu => by cases hu
       | cons t0 ts0 =>
        rw [hlv] at h hle2
        simp at hle2
        have ho : o = 1 ∨ o = 0 := by omega
        rcases ho with rfl | rfl
        · have h9 : RcL g w [v'] [c'] := ⟨rfl, fun i v c hv hc => by cases i with | zero => simp at hv hc; subst hv; subst hc; exact h4 | succ i => simp at hv⟩
          rw [← hlv] at h
          have h : castCs ti.leaves [c'] (fun l => packK ti l k) = some r := h
          obtain ⟨_, l, h5, h6⟩ := castCs_sound _ _ _ h h9
          have hl1 : ti.leaves.length = 1 := by
           have h9 := Nat.le_of_ble_eq_true hle
           have h10 : ti.leaves.length = ts0.length + 1 := by rw [hlv]; rfl
           have h11 : [Cell.selfp t', c'].length = 2 := rfl
           omega
          have htk : [v'].take ti.leaves.length = [v'] := by rw [hl1]; rfl
          rw [htk] at h6
          obtain ⟨av, h7, h8⟩ := fin _ l h6 hl1.symm h5
          refine ⟨av, _, h7, ?_, h8⟩
          simp only [Instr.loadAt, Instr.sureAddr, Sem.run_bind, Sem.run_pure, Result.andThen_ok]
          refine run_loadVar hT hl1.symm fun j u hu => ?_
          rw [Addr.add_lit, cell_of_row w blk (1 + j) _ t' (0, 0) h2]
          cases j with
          | zero => simpa using hu
          | succ j => simp at hu
        · rw [List.drop_zero, castCs] at h
          exfalso
          cases t0 <;> simp [castC, castD, castI, castB, castS, castL, castE] at h
      | cells vs e _ h2 h3' =>
      obtain ⟨h3, h4⟩ := h3'
      have hR : RcL g w (vs.toList.drop o) (cs.drop o) := ⟨by simp [h3], fun i v c hv hc => by
       rw [List.getElem?_drop] at hv hc
       exact h4 (o + i) v c (by simpa using hv) hc⟩
      have hnt : ∀ ts, ti ≠ .tup ts := fun ts e => by subst e; exact tup_no (_g := g) (_w := w) (_vs := []) h
      have hT := tyIs_of hti hnt
      obtain ⟨_, l, h5, h6⟩ := castCs_sound _ _ _ h hR
      have hl : ((vs.toList.drop o).take ti.leaves.length).length = ti.leaves.length := by simp; omega
      obtain ⟨av, h7, h8⟩ := fin _ l h6 hl h5
      refine ⟨av, _, h7, ?_, h8⟩
      simp only [Instr.loadAt, Instr.sureAddr, Sem.run_bind, Sem.run_pure, Result.andThen_ok]
      refine run_loadVar hT hl fun j u hu => ?_
      rw [Addr.add_lit, cell_of_row w blk (o + j) vs e (0, 0) h2]
      rw [List.getElem?_take] at hu
      split at hu
      · rw [List.getElem?_drop] at hu; simpa using hu
      · cases hu
   · cases h
 · rename_i cs
   cases hv with
   | data hd => cases hd
   | eptr blk o f _ hf hc =>
    have hnt : ∀ ts, ti ≠ .tup ts := fun ts e => by subst e; exact tup_no' h
    have hT := tyIs_of hti hnt
    have hR : RdL g.M w (List.ofFn fun i : Fin cs.length => f i) cs := ⟨by simp, fun i v c hv hcc => by
     rw [List.getElem?_ofFn] at hv
     split at hv
     · cases hv; exact hc i c hcc
     · cases hv⟩
    obtain ⟨hle, l, h5, h6⟩ := castDs_sound _ _ _ h hR
    have hl : ((List.ofFn fun i : Fin cs.length => f i).take ti.leaves.length).length = ti.leaves.length := by simp; omega
    obtain ⟨av, h7, h8⟩ := fin _ l h6.toC hl h5
    refine ⟨av, _, h7, ?_, h8⟩
    simp only [Instr.loadAt, Instr.sureAddr, Sem.run_bind, Sem.run_pure, Result.andThen_ok]
    refine run_loadVar hT hl fun j u hu => ?_
    rw [List.getElem?_take] at hu
    split at hu
    · rw [List.getElem?_ofFn] at hu
      split at hu
      · rename_i hj
        cases hu
        rw [Addr.add_lit]; exact (hf j hj).2
      · cases hu
    · cases hu
 · cases h
end AX
end Go.Proofs.YtnkppakkeobegaaGreatDoor
namespace Go.Proofs.YtnkppakkeobegaaGreatDoor
namespace AX
variable [Inv]
open Go.RowKit
variable {P : Program} {R : Type}
inductive All2 {α β : Type} (R : α → β → Prop) : List α → List β → Prop
 | nil : All2 R [] []
 | cons {a : α} {b : β} {xs : List α} {bs : List β} : R a b → All2 R xs bs → All2 R (a :: xs) (b :: bs)
def RA (C : Value → Cell → Prop) (vs : Array Value) (cs : List Cell) : Prop := vs.size = cs.length ∧ ∀ (i : Nat) v c, vs[i]? = some v → cs[i]? = some c → C v c
omit [Inv] in
theorem setCells_rel {C : Value → Cell → Prop} {vs : Array Value} {cs new : List Cell} {u : Value} {off : Nat} (h : RA C vs cs) (hn : RA C u.cells new) (hle : off + new.length ≤ cs.length) :
 RA C (u.cells.zipIdx.foldl (fun cs (x : Value × Nat) => cs.setIfInBounds (off + x.2) x.1) vs) (setCells cs off new) := by
 obtain ⟨h1, h2⟩ := Go.Great.foldl_set off u.cells.toList 0 vs
 have e : u.cells.zipIdx.foldl (fun cs (x : Value × Nat) => cs.setIfInBounds (off + x.2) x.1) vs = (u.cells.toList.zipIdx 0).foldl (fun cs (x : Value × Nat) => cs.setIfInBounds (off + x.2) x.1) vs := by
  rw [← Array.foldl_toList]; simp
 rw [e]
 have hnl : u.cells.size = new.length := hn.1
 refine ⟨by rw [h1, h.1]; unfold setCells; simp; omega, fun i v c hv hc => ?_⟩
 rw [h2 i] at hv
 simp only [Nat.add_zero, Array.length_toList] at hv
 unfold setCells at hc
 rw [List.append_assoc, List.getElem?_append, List.length_take, Nat.min_eq_left (by omega)] at hc
 split at hc
 · rename_i hlt
   rw [if_neg (by omega)] at hv
   rw [List.getElem?_take, if_pos hlt] at hc
   exact h.2 i v c hv hc
 · rename_i hge
   rw [List.getElem?_append] at hc
   split at hc
   · rename_i hlt
     rw [if_pos ⟨by omega, by omega, by have := h.1; omega⟩] at hv
     exact hn.2 (i - off) v c (by simpa using hv) hc
   · rename_i hge2
     rw [if_neg (by omega)] at hv
     rw [List.getElem?_drop] at hc
     exact h.2 i v c hv (by rw [show off + new.length + (i - off - new.length) = i by omega] at hc; exact hc)
omit [Inv] in
theorem cells_rel {g : Gh} {w : World} {v : Value} {x : AV} {cs : List Cell} (h : Rv g w v x) (hc : x.cells? = some cs) : RvA g w v.cells cs := by
 cases x with
 | one c =>
  simp only [AV.cells?, Option.some.injEq] at hc
  subst hc
  have hone : v.cells = #[v] := by
   cases h with
   | data h => cases h <;> rfl
   | own L _ h => cases h <;> rfl
   | ptr => rfl
   | eptr => rfl
   | bsl => rfl
   | bptr => rfl
   | mapr => rfl
  rw [hone]
  refine ⟨rfl, fun i u d hu hd => ?_⟩
  cases i with
  | zero => simp at hu hd; subst hu; subst hd; exact h
  | succ i => simp at hd
 | agg l =>
  simp only [AV.cells?, Option.some.injEq] at hc
  subst hc
  obtain ⟨vs, rfl, h⟩ := h
  exact h
 | tup l => cases hc
 | undef => cases hc
omit [Inv] in
theorem fill_rel {C : Value → Cell → Prop} {pl place : Nat → Option (Nat × Nat)} (hp : ∀ i q, pl i = some q → place i = some q) : ∀ (ps : List (Nat × AV)) (qs : List (Nat × Value)) (cs : List Cell) (vs : Array Value) (cs' : List Cell),
 RA C vs cs → All2 (fun p q => q.1 = p.1 ∧ ∀ l, p.2.cells? = some l → RA C q.2.cells l) ps qs → buildGen pl cs ps = some cs' → ∃ vs', Instr.fill place vs qs = some vs' ∧ RA C vs' cs'
 | [], _, cs, vs, cs', h, .nil, hb => by
  simp only [buildGen, Option.some.injEq] at hb
  subst hb
  exact ⟨vs, rfl, h⟩
 | (i, x) :: ps, _, cs, vs, cs', h, .cons (b := q) (bs := qs) hq hr, hb => by
  obtain ⟨i', v⟩ := q
  obtain ⟨rfl, hv⟩ := hq
  simp only [buildGen] at hb
  split at hb
  · rename_i o n new hpl hnew
    cases hc : Nat.beq new.length n && Nat.ble (o + n) cs.length with
    | false => rw [hc] at hb; cases hb
    | true =>
     rw [hc] at hb
     simp only [condA_true] at hb
     simp only [Bool.and_eq_true] at hc
     have hn : new.length = n := Nat.eq_of_beq_eq_true hc.1
     have hle : o + n ≤ cs.length := Nat.le_of_ble_eq_true hc.2
     subst hn
     have hcr := hv _ hnew
     obtain ⟨vs', h1, h2⟩ := fill_rel hp ps qs _ _ cs' (setCells_rel h hcr hle) hr hb
     refine ⟨vs', ?_, h2⟩
     simp only [Instr.fill, hp _ _ hpl]
     rw [if_neg]
     · exact h1
     · have h5 : v.cells.size = new.length := hcr.1
       have h6 : vs.size = cs.length := h.1
       simp [h5, h6]; omega
  · cases hb
theorem evs_rel {B : Base} {g : Gh} {st : St} {a : Act} {w : World} (S : Sim P B g st a w) : ∀ (l : List (Nat × Operand)) (ps : List (Nat × AV)), evs st l = some ps → All2 (fun p q => q.1 = p.1 ∧ ∀ l, p.2.cells? = some l → RA (Rc g w) q.2.cells l) ps (l.map fun x => (x.1, a.eval x.2))
 | [], ps, h => by simp only [evs, Option.some.injEq] at h; subst h; exact .nil
 | (i, x) :: r, ps, h => by
  simp only [evs] at h
  split at h
  · rename_i v l hv hl
    simp only [Option.some.injEq] at h; subst h
    exact .cons ⟨rfl, fun l hc => cells_rel (S.ev hv) hc⟩ (evs_rel S r l hl)
  · cases h
theorem evl_rel {B : Base} {g : Gh} {st : St} {a : Act} {w : World} (S : Sim P B g st a w) : ∀ (l : List Operand) (ps : List AV), evl st l = some ps → All2 (fun p q => Rv g w q p) ps (l.map a.eval)
 | [], ps, h => by simp only [evl, Option.some.injEq] at h; subst h; exact .nil
 | x :: r, ps, h => by
  simp only [evl] at h
  split at h
  · rename_i v l hv hl
    simp only [Option.some.injEq] at h; subst h
    exact .cons (S.ev hv) (evl_rel S r l hl)
  · cases h
omit [Inv] in
theorem fieldsOk_get {n : Nat} : ∀ (fs : List (Nat × Nat × TypeId)) (fields : List Field), fieldsOk P n fs fields = true → ∀ (i o m : Nat) (t : TypeId), fs[i]? = some (o, m, t) → ∃ f : Field, fields[i]? = some f ∧ f.offset = o ∧ P.cellsOf f.type = m ∧ f.type = t ∧ 0 < m ∧ o + m ≤ n
 | [], _, _, i, o, m, t, h => by simp at h
 | _ :: _, [], h, _, _, _, _, _ => by cases h
 | (o', m', t') :: fs, f :: fields, h, i, o, m, t, hi => by
  simp only [fieldsOk, Bool.and_eq_true] at h
  obtain ⟨⟨⟨⟨⟨h1, h2⟩, h3⟩, h4⟩, h5⟩, h6⟩ := h
  cases i with
  | zero =>
   simp only [List.getElem?_cons_zero, Option.some.injEq, Prod.mk.injEq] at hi
   obtain ⟨rfl, rfl, rfl⟩ := hi
   exact ⟨f, rfl, Nat.eq_of_beq_eq_true h1, Nat.eq_of_beq_eq_true h2, Nat.eq_of_beq_eq_true h3, Nat.lt_of_lt_of_le Nat.zero_lt_one (by simpa [Nat.blt] using h4), Nat.le_of_ble_eq_true h5⟩
  | succ i => exact fieldsOk_get fs fields h6 i o m t (by simpa using hi)
omit [Inv] in
theorem fields_places {n : Nat} : ∀ (fs : List (Nat × Nat × TypeId)) (fields : List Field), fieldsOk P n fs fields = true → ∃ places, fields.mapM (fun f => (P.info? f.type).map fun i => (f.offset, i.size)) = some places ∧ places = fs.map fun q => (q.1, q.2.1)
 | [], [], _ => ⟨[], rfl, rfl⟩
 | [], _ :: _, h => by cases h
 | _ :: _, [], h => by cases h
 | (o', m', t') :: fs, f :: fields, h => by
  simp only [fieldsOk, Bool.and_eq_true] at h
  obtain ⟨⟨⟨⟨⟨h1, h2⟩, h3⟩, h4⟩, h5⟩, h6⟩ := h
  obtain ⟨pl, h7, h8⟩ := fields_places fs fields h6
  have e1 := Nat.eq_of_beq_eq_true h1
  have e2 := Nat.eq_of_beq_eq_true h2
  have h4' : 0 < m' := Nat.lt_of_lt_of_le Nat.zero_lt_one (by simpa [Nat.blt] using h4)
  cases hi : P.info? f.type with
  | none => simp [Program.cellsOf, hi] at e2; omega
  | some i =>
   have e3 : i.size = m' := by simpa [Program.cellsOf, hi] using e2
   refine ⟨(o', m') :: pl, ?_, by simp [h8]⟩
   simp [List.mapM_cons, hi, h7, e1, e3]
theorem build_sound {B : Base} {g : Gh} {st : St} {a : Act} {w : World} {t : TypeId} {l : List TI} {fs : List (Nat × Nat × TypeId)} {parts : Array (Nat × Operand)} {ps : List (Nat × AV)} {cs z0 : List Cell} (S : Sim P B g st a w) (hT : TyIs P t (.struct l fs)) (hz0 : ∀ zs : Array Value, leavesOk l zs.toList = true → RvA g w zs z0)
 (hp : evs st parts.toList = some ps) (hb : buildGen (fieldPl fs) z0 ps = some cs) :
 ∃ vs, (Instr.build t (parts.map fun (i, x) => (i, a.eval x))).run P w = .ok (.agg vs) w ∧ RvA g w vs cs := by
 obtain ⟨i, d, z, h1, h2, h3, h4, h5, h6⟩ := hT.ex
 cases d <;> simp only [descOk, reduceCtorEq] at h4
 rename_i fields
 obtain ⟨places, hpl, hpe⟩ := fields_places fs fields.toList h4
 have hpp : ∀ (i : Nat) q, fieldPl fs i = some q → places.toArray[i]? = some q := fun i q hq => by
  unfold fieldPl at hq
  split at hq
  · rename_i o n t' hf
    simp only [Option.some.injEq] at hq
    subst hq
    subst hpe
    simp [hf]
  · cases hq
 obtain ⟨vs, h7, h8⟩ := fill_rel (place := fun i => places.toArray[i]?) hpp ps _ _ _ cs (hz0 z.cells h6) (evs_rel S _ _ hp) hb
 refine ⟨vs, run_build w t _ vs ?_, h8⟩
 unfold Program.built
 have hpl2 : List.mapM (fun f => Option.map (fun i => (f.offset, i.size)) (P.info? f.type)) fields.toList = some places := hpl
 simp only [h1, h2, h5, hpl2]
 have : (Array.map (fun (x : Nat × Operand) => (x.1, a.eval x.2)) parts).toList = parts.toList.map fun x => (x.1, a.eval x.2) := by simp
 rw [this]
 exact h7
end AX
end Go.Proofs.YtnkppakkeobegaaGreatDoor
namespace Go.Proofs.YtnkppakkeobegaaGreatDoor
namespace AX
variable [Inv]
open Go.RowKit
variable {P : Program} {R : Type}
def Mem.row (M : Mem) (b n : Nat) : Mem := ⟨fun b' j => M b' j ∨ (b' = b ∧ j < n), M.gx, M.gw⟩
omit [Inv] in
theorem fresh_row {g : Gh} {w w' : World} {cs : List Cell} {f : Nat → Value} {len cap sz : Nat} (hl : ∀ b j, g.M b j → b < w.heap.size) (hb : Below w.heap.size w w') (hlt : w.heap.size < w'.heap.size) (hcell : ∀ j, j < cs.length → w'.cell? ⟨w.heap.size, j, none⟩ = some (f j))
 (hR : ∀ (j : Nat) c, cs[j]? = some c → Rd g.M w (f j) c) (hn : cs.length = len * sz) (hz : 0 < sz) (hc : len ≤ cap) :
 Grow g w (g.M.row w.heap.size cs.length) w' ∧ Rd (g.M.row w.heap.size cs.length) w' (.slice (some ⟨w.heap.size, 0, none⟩) len cap) (.sl none sz cs) := by
 have hG : Grow g w (g.M.row w.heap.size cs.length) w' := ⟨hb, fun b j h => .inl h, fun b j hlt h => h.elim id fun h => by omega, fun b j h => h.elim (fun h => Nat.lt_of_lt_of_le (hl b j h) hb.size) fun h => by omega, rfl, rfl⟩
 refine ⟨hG, .sl _ 0 len cap sz f cs hz hn hc (fun i hi => ⟨.inr ⟨rfl, by omega⟩, by rw [Nat.zero_add]; exact hcell i hi⟩) fun i c hi => (hR i c hi).kept (hG.kp hl)⟩
omit [Inv] in
theorem Rc.toData {g : Gh} {w : World} {v : Value} {c : Cell} (h : Rc g w v c) (hp : hasPtr c = false) : Rd g.M w v c.bare := by
 cases h with
 | data h => exact h.bare
 | own L h1 h2 => exact h2
 | ptr => cases hp
 | eptr => cases hp
 | bsl => cases hp
 | bptr => cases hp
 | mapr => cases hp
omit [Inv] in
theorem dataK_some {g : Gh} {w : World} : ∀ (vs : List Value) (cs : List Cell) {k : List Cell → Option R} {r : R}, dataK cs k = some r → RcL g w vs cs → ∃ cs', k cs' = some r ∧ RdL g.M w vs cs'
 | vs, [], k, r, h, hR => ⟨[], h, hR.1, fun i v c _ hc => by simp at hc⟩
 | [], c :: cs, k, r, h, hR => by have := hR.1; simp at this
 | v :: vs, c :: cs, k, r, h, hR => by
  simp only [dataK] at h
  cases hp : hasPtr c with
  | true => rw [hp] at h; cases h
  | false =>
   rw [hp] at h
   simp only [condA_false] at h
   obtain ⟨cs', h1, h2⟩ := dataK_some vs cs h ⟨by have := hR.1; simpa using this, fun i v c hi hc => hR.2 (i + 1) v c hi hc⟩
   refine ⟨_, h1, by simp [h2.1], fun i u d hu hd => ?_⟩
   cases i with
   | zero => simp at hu hd; subst hu; subst hd; exact (hR.2 0 v c rfl rfl).toData hp
   | succ i => exact h2.2 i u d (by simpa using hu) (by simpa using hd)
omit [Inv] in
theorem partsK_some {g : Gh} {w : World} : ∀ (ps : List (Nat × AV)) (qs : List (Nat × Value)) {k : List (Nat × AV) → Option R} {r : R}, partsK ps k = some r → All2 (fun p q => q.1 = p.1 ∧ ∀ l, p.2.cells? = some l → RA (Rc g w) q.2.cells l) ps qs →
 ∃ ps', k ps' = some r ∧ All2 (fun p q => q.1 = p.1 ∧ ∀ l, p.2.cells? = some l → RA (Rd g.M w) q.2.cells l) ps' qs
 | [], _, k, r, h, .nil => ⟨[], h, .nil⟩
 | (i, x) :: ps, _, k, r, h, .cons (b := q) (bs := qs) hq hr => by
  simp only [partsK] at h
  split at h
  · rename_i cs hcs
    have hA := hq.2 cs hcs
    obtain ⟨cs', h1, h2⟩ := dataK_some (g := g) (w := w) q.2.cells.toList cs h ⟨by simpa using hA.1, fun i v c hv hc => hA.2 i v c (by simpa using hv) hc⟩
    obtain ⟨ps', h3, h4⟩ := partsK_some ps qs h1 hr
    refine ⟨_, h3, .cons ⟨hq.1, fun l hl => ?_⟩ h4⟩
    simp only [AV.cells?, Option.some.injEq] at hl
    subst hl
    exact ⟨by simpa using h2.1, fun i v c hv hc => h2.2 i v c (by simpa using hv) hc⟩
  · cases h
omit [Inv] in
theorem zeros_rep {M : Mem} {w : World} {ts : List TI} {z : Value} {_e : TypeId} (hz : leavesOk ts z.cells.toList = true) (n : Nat) (hpos : 0 < n * ts.length) :
 RA (Rd M w) ((Array.range (n * ts.length)).map (z.cells[· % z.cells.size]!)) (List.replicate n (zerosU ts)).flatten := by
 obtain ⟨h1, h2⟩ := zeros_data (M := M) (w := w) ts z.cells.toList hz
 have hzl : z.cells.size = ts.length := by have := leavesOk_len ts z.cells.toList hz; simpa using this
 have hul : (zerosU ts).length = ts.length := by rw [h1]; simpa using hzl
 have ht : 0 < ts.length := Nat.pos_of_ne_zero fun h => by rw [h] at hpos; simp at hpos
 have hfl : ∀ n i, i < n * ts.length → (List.replicate n (zerosU ts)).flatten[i]? = (zerosU ts)[i % ts.length]? := by
  intro n
  induction n with
  | zero => intro i hi; simp at hi
  | succ n ih =>
   intro i hi
   rw [List.replicate_succ, List.flatten_cons, List.getElem?_append, hul]
   split
   · rename_i hlt; rw [Nat.mod_eq_of_lt hlt]
   · rename_i hge
     rw [Nat.succ_mul] at hi
     rw [ih (i - ts.length) (by omega)]
     congr 1
     exact (Nat.mod_eq_sub_mod (by omega)).symm
 refine ⟨by simp [hul], fun i v c hv hc => ?_⟩
 have hi : i < n * ts.length := by
  rcases Nat.lt_or_ge i (n * ts.length) with h | h
  · exact h
  · simp [h] at hv
 rw [hfl n i hi] at hc
 have hm : i % ts.length < ts.length := Nat.mod_lt _ ht
 have hv2 : v = z.cells[i % z.cells.size]! := by
  simp [hi] at hv
  exact hv.symm
 subst hv2
 refine h2 (i % ts.length) _ c ?_ hc
 rw [hzl]
 simp [hzl, hm]
theorem buildSlice_sound {B : Base} {g : Gh} {st : St} {a : Act} {w : World} {t e : TypeId} {sz len : Nat} {ti : TI} {parts : Array (Nat × Operand)} {ps : List (Nat × AV)} {k : List Cell → Option R} {r : R} (S : Sim P B g st a w) (hT : TyIs P t (.slice e sz)) (hE : TyIs P e ti)
 (hp : evs st parts.toList = some ps) (h1 : 0 < len * sz) (h2 : len * sz ≤ 1000000)
 (hb : partsK ps (fun ps' => match buildGen (itemPl sz) (List.replicate len (zerosU ti.leaves)).flatten ps' with | some cs => k cs | none => none) = some r) :
 ∃ cs vs, k cs = some r ∧ (Instr.buildSlice t len (parts.map fun (i, x) => (i, a.eval x))).run P w = .ok (.slice (some ⟨w.heap.size, 0, none⟩) len len) (w.alloc (.cells vs e)) ∧ RA (Rd g.M w) vs cs ∧ vs.size = len * sz := by
 obtain ⟨hu, hsz, hz0, _, _⟩ := hT.is_slice
 obtain ⟨ie, d, z, h3, _, h5, _, h6, h7⟩ := hE.ex
 have hisz : ie.size = sz := by rw [← hsz]; simp [Program.cellsOf, h3]
 obtain ⟨ps', h8, h9⟩ := partsK_some ps _ hb (evs_rel S _ _ hp)
 split at h8
 · rename_i cs hcs
   have hts : ti.leaves.length = sz := by rw [← h5, hisz]
   have hzr := zeros_rep (M := g.M) (w := w) (_e := e) h7 len (by rw [hts]; exact h1)
   obtain ⟨vs, h10, h11⟩ := fill_rel (place := fun i => some (i * sz, sz)) (fun i q hq => hq) ps' _ _ _ cs hzr h9 hcs
   refine ⟨cs, vs, h8, ?_, h11, ?_⟩
   · have hpe : (Array.map (fun (x : Nat × Operand) => (x.1, a.eval x.2)) parts).toList = parts.toList.map fun x => (x.1, a.eval x.2) := by simp
     refine run_buildSlice w t e len _ vs ie z hu h3 h6 (by rw [hisz]; omega) (by rw [hisz]; omega) ?_
     rw [hpe, hisz]
     rw [hts] at h10
     exact h10
   · have hl : ∀ (pl : Nat → Option (Nat × Nat)) (ps : List (Nat × AV)) (cs cs' : List Cell), buildGen pl cs ps = some cs' → cs'.length = cs.length := by
      intro pl ps
      induction ps with
      | nil => intro cs cs' h; simp only [buildGen, Option.some.injEq] at h; rw [h]
      | cons p ps ih =>
       intro cs cs' h
       obtain ⟨i, x⟩ := p
       simp only [buildGen] at h
       split at h
       · rename_i o n new _ _
         cases hc : Nat.beq new.length n && Nat.ble (o + n) cs.length with
         | false => rw [hc] at h; cases h
         | true =>
          rw [hc] at h
          simp only [condA_true] at h
          simp only [Bool.and_eq_true] at hc
          have h12 : new.length = n := Nat.eq_of_beq_eq_true hc.1
          have h13 : o + n ≤ cs.length := Nat.le_of_ble_eq_true hc.2
          rw [ih _ _ h]; unfold setCells; simp; omega
       · cases h
     have := h11.1
     rw [this, hl _ _ _ _ hcs, ← hzr.1]
     simp [hts]
 · cases h8
omit [Inv] in
theorem run_asIntOf {kd : IntKind} {n : Int} {w : World} : (asIntOf (.int kd n)).run P w = .ok (kd, n) w := rfl
omit [Inv] in
theorem indexSl_sound {g : Gh} {w : World} {t e : TypeId} {sz s : Nat} {nm : Option Nm} {cs : List Cell} {v : Value} {kd : IntKind} {n : Int} (hT : TyIs P t (.slice e sz)) (hv : Rc g w v (.sl nm s cs)) (hs : s = sz ∨ s = 0) (h0 : 0 ≤ n) (hn : n.toNat * sz + sz ≤ cs.length) :
 ∃ u, (Instr.indexAt t v (.int kd n)).run P w = .ok u w ∧ Rc g w u (.eptr ((cs.drop (n.toNat * sz)).take sz)) := by
 obtain ⟨hu, hsz, hz0, _, i, hi⟩ := hT.is_slice
 have hR : Rd g.M w v (.sl none sz cs) := by
  have := hv.sized hs
  cases this with
  | data h => exact h.bare
  | own L _ h => exact h
 cases hR with
 | slN => simp at hn; omega
 | sl0 => simp at hn; omega
 | sl b off len cap _ f _ h1 h2 h3 h4 h5 =>
  have hlt : n < (len : Int) := by
   have : n.toNat * sz + sz ≤ len * sz := by omega
   have h6 : (n.toNat + 1) * sz ≤ len * sz := by rw [Nat.add_mul]; omega
   have := Nat.le_of_mul_le_mul_right h6 hz0
   omega
  refine ⟨.pointer (some ⟨b, off + n.toNat * sz, none⟩), ?_, .eptr b (off + n.toNat * sz) (fun i => f (n.toNat * sz + i)) _ (fun i hi => ?_) fun i c hc => ?_⟩
  · simp [Instr.indexAt, run_asIntOf, run_underlying hu, h0, hlt, run_sizeOf hi, hsz, Addr.add_lit]
  · simp only [List.length_take, List.length_drop] at hi
    have := h4 (n.toNat * sz + i) (by omega)
    rw [← Nat.add_assoc] at this
    exact this
  · rw [List.getElem?_take] at hc
    split at hc
    · rw [List.getElem?_drop] at hc; exact h5 _ c hc
    · cases hc
omit [Inv] in
theorem TyIs.is_arr {t e : TypeId} {l : List TI} {len sz : Nat} (h : TyIs P t (.arr l len sz e)) : P.underlying t = some (.array len e) ∧ P.cellsOf e = sz ∧ ∃ i, P.info? e = some i := by
 obtain ⟨i, d, z, _, h2, _, h4, _⟩ := h.ex
 cases d <;> simp only [descOk, reduceCtorEq] at h4
 simp only [Bool.and_eq_true] at h4
 obtain ⟨⟨⟨⟨⟨h5, h6⟩, h7⟩, _⟩, _⟩, h9⟩ := h4
 have e1 := Nat.eq_of_beq_eq_true h5
 have e2 := Nat.eq_of_beq_eq_true h6
 subst e1; subst e2
 exact ⟨h2, Nat.eq_of_beq_eq_true h7, Option.isSome_iff_exists.1 h9⟩
omit [Inv] in
theorem indexArr_sound {g : Gh} {w : World} {t e : TypeId} {l : List TI} {sz len b o : Nat} {v : Value} {kd : IntKind} {n : Int} (hT : TyIs P t (.arr l len sz e)) (hv : Rc g w v (.ptr b o)) (h0 : 0 ≤ n) (hn : n.toNat < len) :
 ∃ u, (Instr.indexAt t v (.int kd n)).run P w = .ok u w ∧ Rc g w u (.ptr b (o + n.toNat * sz)) := by
 obtain ⟨hu, hsz, i, hi⟩ := hT.is_arr
 obtain ⟨blk, rfl, hb⟩ := hv.ptr_inv
 have hlt : n < (len : Int) := by omega
 refine ⟨.pointer (some ⟨blk, o + n.toNat * sz, none⟩), ?_, .ptr b _ blk hb⟩
 simp [Instr.indexAt, Instr.sureAddr, run_asIntOf, run_underlying hu, h0, hlt, run_sizeOf hi, hsz, Addr.add_lit]
omit [Inv] in
theorem itemK_some {α : Type} {l : List α} {i : Int} {k : α → Option R} {r : R} (h : itemK l i k = some r) : ∃ x, 0 ≤ i ∧ l[i.toNat]? = some x ∧ k x = some r := by
 unfold itemK at h
 by_cases h0 : 0 ≤ i
 · rw [decide_eq_true h0] at h
   simp only [condA_true] at h
   split at h
   · exact ⟨_, h0, ‹_›, h⟩
   · cases h
 · rw [decide_eq_false h0] at h; cases h
omit [Inv] in
theorem guardB_some {b : Bool} {k : Option R} {r : R} (h : guardB b k = some r) : b = true ∧ k = some r := by
 cases b with
 | true => exact ⟨rfl, h⟩
 | false => cases h
omit [Inv] in
theorem indexStr_sound {g : Gh} {w : World} {t : TypeId} {l : List UInt8} {v : Value} {kd : IntKind} {n : Int} {c : UInt8} (hu : P.underlying t = some .string) (hv : Rc g w v (.str l)) (h0 : 0 ≤ n) (hc : l[n.toNat]? = some c) :
 (Instr.index t v (.int kd n)).run P w = .ok (.int .u8 (c.toNat : Int)) w := by
 obtain rfl := hv.str_inv
 have hlt : n.toNat < l.length := (List.getElem?_eq_some_iff.1 hc).1
 have e : (⟨l.toArray⟩ : ByteArray)[n.toNat]? = some c := by
  show (if h : _ then _ else _) = _
  have hs : n.toNat < (⟨l.toArray⟩ : ByteArray).size := by show n.toNat < l.toArray.size; simpa using hlt
  simp only [hs, dif_pos]
  have : l[n.toNat] = c := (List.getElem?_eq_some_iff.1 hc).2
  exact congrArg some this
 simp [Instr.index, run_asIntOf, run_underlying hu, h0, e]
end AX
end Go.Proofs.YtnkppakkeobegaaGreatDoor
namespace Go.Proofs.YtnkppakkeobegaaGreatDoor
namespace AX
variable [Inv]
open Go.RowKit
variable {P : Program} {R : Type}
def BoundIs (a : Act) (x : Option Operand) (o : Option Int) : Prop := (x = none ∧ o = none) ∨ ∃ y n kd, x = some y ∧ o = some n ∧ a.eval y = .int kd n
omit [Inv] in
theorem cutK_some {len : Nat} {lo hi : Option Int} {k : Nat → Nat → Option R} {r : R} (h : cutK len lo hi k = some r) :
 ∃ p q, k p q = some r ∧ p ≤ q ∧ q ≤ len ∧ ((lo = none ∧ p = 0) ∨ ∃ n, lo = some n ∧ 0 ≤ n ∧ p = n.toNat) ∧ ((hi = none ∧ q = len) ∨ ∃ n, hi = some n ∧ 0 ≤ n ∧ q = n.toNat) := by
 unfold cutK at h
 split at h
 · exact ⟨0, len, h, Nat.zero_le _, Nat.le_refl _, .inl ⟨rfl, rfl⟩, .inl ⟨rfl, rfl⟩⟩
 · rename_i a
   by_cases hc : 0 ≤ a ∧ a.toNat ≤ len
   · rw [decide_eq_true hc] at h
     exact ⟨a.toNat, len, h, hc.2, Nat.le_refl _, .inr ⟨a, rfl, hc.1, rfl⟩, .inl ⟨rfl, rfl⟩⟩
   · rw [decide_eq_false hc] at h; cases h
 · rename_i b
   by_cases hc : 0 ≤ b ∧ b.toNat ≤ len
   · rw [decide_eq_true hc] at h
     exact ⟨0, b.toNat, h, Nat.zero_le _, hc.2, .inl ⟨rfl, rfl⟩, .inr ⟨b, rfl, hc.1, rfl⟩⟩
   · rw [decide_eq_false hc] at h; cases h
 · rename_i a b
   by_cases hc : 0 ≤ a ∧ a ≤ b ∧ b.toNat ≤ len
   · rw [decide_eq_true hc] at h
     exact ⟨a.toNat, b.toNat, h, by omega, hc.2.2, .inr ⟨a, rfl, hc.1, rfl⟩, .inr ⟨b, rfl, by omega, rfl⟩⟩
   · rw [decide_eq_false hc] at h; cases h
omit [Inv] in
theorem run_sliceBound {kd : IntKind} {n : Int} {y : Nat} {c : BoundsCode} {w : World} (h0 : 0 ≤ n) (h1 : n.toNat ≤ y) : (Instr.sliceBound (.int kd n) y c).run P w = .ok n.toNat w := by
 have : n ≤ (y : Int) := by omega
 simp [Instr.sliceBound, run_asIntOf, h0, this]
omit [Inv] in
theorem run_sliceBounds {a : Act} {lo hi : Option Operand} {lo' hi' : Option Int} {isS : Bool} {len cap p q : Nat} {w : World} (hl : BoundIs a lo lo') (hh : BoundIs a hi hi') (hpq : p ≤ q) (hq : q ≤ len) (hc : len ≤ cap)
 (hp : (lo' = none ∧ p = 0) ∨ ∃ n, lo' = some n ∧ 0 ≤ n ∧ p = n.toNat) (hqq : (hi' = none ∧ q = len) ∨ ∃ n, hi' = some n ∧ 0 ≤ n ∧ q = n.toNat) :
 (Instr.sliceBounds isS len cap (lo.map a.eval) (hi.map a.eval) none).run P w = .ok (p, q, cap) w := by
 unfold Instr.sliceBounds
 rcases hh with ⟨rfl, rfl⟩ | ⟨y, n, kd, rfl, rfl, he⟩
 · rcases hqq with ⟨_, rfl⟩ | ⟨n, h, _⟩
   · rcases hl with ⟨rfl, rfl⟩ | ⟨y2, n2, kd2, rfl, rfl, he2⟩
     · rcases hp with ⟨_, rfl⟩ | ⟨n, h, _⟩
       · simp
       · cases h
     · rcases hp with ⟨h, _⟩ | ⟨n, h, h0, rfl⟩
       · cases h
       · cases h
         simp [he2, run_sliceBound h0 hpq]
   · cases h
 · rcases hqq with ⟨h, _⟩ | ⟨n', h, h0, rfl⟩
   · cases h
   · cases h
     have hb := run_sliceBound (P := P) (kd := kd) (y := cap) (c := if isS = true then .sliceAcap else .sliceAlen) (w := w) h0 (by omega)
     rcases hl with ⟨rfl, rfl⟩ | ⟨y2, n2, kd2, rfl, rfl, he2⟩
     · rcases hp with ⟨_, rfl⟩ | ⟨n, h, _⟩
       · simp [he, hb]
       · cases h
     · rcases hp with ⟨h, _⟩ | ⟨n3, h, h3, rfl⟩
       · cases h
       · cases h
         simp [he, he2, hb, run_sliceBound h3 hpq]
omit [Inv] in
theorem sliceStr_sound {g : Gh} {w : World} {a : Act} {t : TypeId} {l : List UInt8} {v : Value} {lo hi : Option Operand} {lo' hi' : Option Int} {p q : Nat} (hu : P.underlying t = some .string) (hv : Rc g w v (.str l)) (hl : BoundIs a lo lo') (hh : BoundIs a hi hi') (hpq : p ≤ q) (hq : q ≤ l.length)
 (hp : (lo' = none ∧ p = 0) ∨ ∃ n, lo' = some n ∧ 0 ≤ n ∧ p = n.toNat) (hqq : (hi' = none ∧ q = l.length) ∨ ∃ n, hi' = some n ∧ 0 ≤ n ∧ q = n.toNat) :
 (Instr.sliceAt t v (lo.map a.eval) (hi.map a.eval) none).run P w = .ok (.string ⟨((l.take q).drop p).toArray⟩) w := by
 obtain rfl := hv.str_inv
 have hs : (⟨l.toArray⟩ : ByteArray).size = l.length := by show l.toArray.size = _; simp
 have hb := run_sliceBounds (P := P) (isS := false) (w := w) hl hh hpq hq (Nat.le_refl _) hp hqq
 rw [← hs] at hb
 have he : (⟨l.toArray⟩ : ByteArray).extract p q = ⟨((l.take q).drop p).toArray⟩ := by
  apply ByteArray.ext
  rw [ByteArray.data_extract]
  apply Array.toList_inj.1
  rw [Array.toList_extract]
  show List.extract l p q = (l.take q).drop p
  rw [List.drop_take]
 simp [Instr.sliceAt, Instr.slice, run_underlying hu, hb, he]
omit [Inv] in
theorem sliceSl_sound {g : Gh} {w : World} {a : Act} {t e : TypeId} {sz s : Nat} {nm : Option Nm} {cs : List Cell} {v : Value} {lo hi : Option Operand} {lo' hi' : Option Int} {p q : Nat} (hT : TyIs P t (.slice e sz)) (hv : Rc g w v (.sl nm s cs)) (hs : s = sz ∨ s = 0)
 (hl : BoundIs a lo lo') (hh : BoundIs a hi hi') (hpq : p ≤ q) (hq : q ≤ cs.length / sz)
 (hp : (lo' = none ∧ p = 0) ∨ ∃ n, lo' = some n ∧ 0 ≤ n ∧ p = n.toNat) (hqq : (hi' = none ∧ q = cs.length / sz) ∨ ∃ n, hi' = some n ∧ 0 ≤ n ∧ q = n.toNat) :
 ∃ u, (Instr.sliceAt t v (lo.map a.eval) (hi.map a.eval) none).run P w = .ok u w ∧ Rd g.M w u (.sl none sz ((cs.take (q * sz)).drop (p * sz))) := by
 obtain ⟨hu, hsz, hz0, _, i, hi2⟩ := hT.is_slice
 have hR : Rd g.M w v (.sl none sz cs) := by
  have := hv.sized hs
  cases this with
  | data h => exact h.bare
  | own L _ h => exact h
 cases hR with
 | slN =>
  simp only [List.length_nil, Nat.zero_div] at hq hqq
  obtain rfl : q = 0 := by omega
  obtain rfl : p = 0 := by omega
  have hb := run_sliceBounds (P := P) (isS := true) (w := w) (len := 0) (cap := 0) hl hh hpq hq (Nat.le_refl _) hp hqq
  refine ⟨.slice none 0 0, ?_, by simp; exact .slN sz⟩
  simp [Instr.sliceAt, Instr.slice, run_underlying hu, hb, run_sizeOf hi2]
 | sl0 a0 cap _ h0 =>
  simp only [List.length_nil, Nat.zero_div] at hq hqq
  obtain rfl : q = 0 := by omega
  obtain rfl : p = 0 := by omega
  have hb := run_sliceBounds (P := P) (isS := true) (w := w) (len := 0) (cap := cap) hl hh hpq hq (Nat.zero_le _) hp hqq
  refine ⟨.slice (some a0) 0 cap, ?_, by simp; exact .sl0 a0 cap sz h0⟩
  simp [Instr.sliceAt, Instr.slice, run_underlying hu, hb, run_sizeOf hi2, Addr.add]
 | sl b off len cap _ f _ h1 h2 h3 h4 h5 =>
  have hlen : cs.length / sz = len := by rw [h2, Nat.mul_div_cancel _ hz0]
  rw [hlen] at hq hqq
  have hb := run_sliceBounds (P := P) (isS := true) (w := w) (len := len) (cap := cap) hl hh hpq hq h3 hp hqq
  have hpq2 : p * sz ≤ q * sz := Nat.mul_le_mul_right _ hpq
  have hq2 : q * sz ≤ len * sz := Nat.mul_le_mul_right _ hq
  have hcl : ((cs.take (q * sz)).drop (p * sz)).length = (q - p) * sz := by rw [List.length_drop, List.length_take, Nat.sub_mul]; omega
  refine ⟨.slice (some (if cap = p then ⟨b, off, none⟩ else ⟨b, off + p * sz, none⟩)) (q - p) (cap - p), ?_, ?_⟩
  · simp [Instr.sliceAt, Instr.slice, run_underlying hu, hb, run_sizeOf hi2, hsz, Addr.add_lit]
    split <;> rfl
  · by_cases hcp : cap = p
    · obtain rfl : q = p := by omega
      have e0 : (cs.take (q * sz)).drop (q * sz) = [] := List.eq_nil_of_length_eq_zero (by rw [hcl]; simp)
      rw [e0, if_pos hcp]
      exact .sl b off (q - q) (cap - q) sz f [] h1 (by simp) (by omega) (fun i hi => by simp at hi) fun i c hc => by simp at hc
    · rw [if_neg hcp]
      refine .sl b (off + p * sz) (q - p) (cap - p) sz (fun i => f (p * sz + i)) _ h1 hcl (by omega) (fun i hi => ?_) fun i c hc => ?_
      · rw [hcl, Nat.sub_mul] at hi
        have := h4 (p * sz + i) (by omega)
        rw [← Nat.add_assoc] at this
        exact this
      · rw [List.getElem?_drop, List.getElem?_take] at hc
        split at hc
        · exact h5 _ c hc
        · cases hc
omit [Inv] in
theorem len_sound {g : Gh} {w : World} {x : AV} {v : Value} {n : Int} {t ty : TypeId} (h : lenA x = some n) (hv : Rv g w v x) (hu : (∃ l, x = .one (.str l) ∧ P.underlying t = some .string) ∨ ∃ nm s cs e, x = .one (.sl nm s cs) ∧ P.underlying t = some (.slice e)) :
 (Builtin.len_ #[t] ty #[v]).run P w = .ok (.int .i64 n) w := by
 rcases hu with ⟨l, rfl, hu⟩ | ⟨nm, s, cs, e, rfl, hu⟩
 · obtain rfl := Rc.str_inv hv
   simp only [lenA, Option.some.injEq] at h
   subst h
   have hs : (⟨l.toArray⟩ : ByteArray).size = l.length := by show l.toArray.size = _; simp
   simp [Builtin.len_, run_underlying hu, goInt, hs]
 · simp only [lenA, Option.some.injEq] at h
   subst h
   have hR : Rd g.M w v (.sl none s cs) := by
    cases hv with
    | data h => exact h.bare
    | own L _ h => exact h
   cases hR with
   | slN => simp [Builtin.len_, run_underlying hu, goInt]
   | sl0 => simp [Builtin.len_, run_underlying hu, goInt]
   | sl b off len cap _ f _ h1 h2 h3 h4 h5 =>
    have hlen : cs.length / s = len := by rw [h2, Nat.mul_div_cancel _ h1]
    simp [Builtin.len_, run_underlying hu, goInt, hlen]
end AX
end Go.Proofs.YtnkppakkeobegaaGreatDoor
namespace Go.Proofs.YtnkppakkeobegaaGreatDoor
namespace AX
variable [Inv]
open Go.RowKit
variable {P : Program} {R : Type}
omit [Inv] in
theorem Rc.dataSl {g : Gh} {w : World} {v : Value} {nm : Option Nm} {s : Nat} {cs : List Cell} (hv : Rc g w v (.sl nm s cs)) : Rd g.M w v (.sl none s cs) := by
 cases hv with
 | data h => exact h.bare
 | own L _ h => exact h
omit [Inv] in
theorem Rd.int_inv {M : Mem} {w : World} {v : Value} {k : IntKind} {n : Int} (h : Rd M w v (.int k n)) : v = .int k n := by cases h; rfl
omit [Inv] in
theorem bytesK_some : ∀ (cs : List Cell) {k : List UInt8 → Option R} {r : R}, bytesK cs k = some r → ∃ xs : List Int, cs = xs.map (Cell.int .u8) ∧ k (xs.map fun n => UInt8.ofNat n.toNat) = some r
 | [], k, r, h => ⟨[], rfl, h⟩
 | c :: cs, k, r, h => by
  simp only [bytesK] at h
  obtain ⟨n, rfl, h1⟩ := castI_some h
  obtain ⟨xs, rfl, h2⟩ := bytesK_some cs h1
  exact ⟨n :: xs, rfl, h2⟩
omit [Inv] in
theorem strOfNums_eq (xs : List Int) : strOfNums xs = ⟨(xs.map fun n => UInt8.ofNat n.toNat).toArray⟩ := by
 unfold strOfNums; rfl
omit [Inv] in
theorem run_convert_bytes_none (w : World) (src e : TypeId) (hs : P.underlying src = some (.slice e)) (he : P.underlying e = some (.int .u8)) (a : Addr) (cap : Nat) (dst : TypeId) (hd : P.underlying dst = some .string) :
 (convert src dst (.slice (some a) 0 cap)).run P w = .ok (.string ⟨([] : List UInt8).toArray⟩) w := by
 rw [run_convert_bytes_string w src dst e _ 0 cap hs he hd]
 have hl : (loadCells a 0).run P w = .ok #[] w := by
  have := run_loadCells_list (P := P) w a [] (fun j v hj => by simp at hj)
  simpa using this
 simp [Conv.bytesToString, hl]
 rfl
omit [Inv] in
theorem convBS_sound {g : Gh} {w : World} {src dst e : TypeId} {nm : Option Nm} {s sz : Nat} {cs : List Cell} {v : Value} {k : List UInt8 → Option R} {r : R} (hS : TyIs P src (.slice e sz)) (hD : P.underlying dst = some .string) (hE : P.underlying e = some (.int .u8)) (hsz : sz = 1)
 (hv : Rc g w v (.sl nm s cs)) (hs : s = sz ∨ s = 0) (h : bytesK cs k = some r) : ∃ l, k l = some r ∧ (convert src dst v).run P w = .ok (.string ⟨l.toArray⟩) w := by
 obtain ⟨xs, rfl, hk⟩ := bytesK_some cs h
 obtain ⟨hu, _⟩ := hS.is_slice
 have hR := (hv.sized hs).dataSl
 refine ⟨_, hk, ?_⟩
 subst hsz
 generalize hcs : xs.map (Cell.int IntKind.u8) = cs at hR
 cases hR with
 | slN =>
  obtain rfl : xs = [] := by simpa using hcs
  rw [run_convert_bytes_nil w src e hu hE 0 0 dst hD]
  rfl
 | sl0 a0 cap _ _ =>
  obtain rfl : xs = [] := by simpa using hcs
  exact run_convert_bytes_none w src e hu hE a0 cap dst hD
 | sl b off len cap _ f _ h1 h2 h3 h4 h5 =>
  subst hcs
  have hl : xs.length = len := by simpa using h2
  rw [run_convert_bytes_arg w src e hu hE b off len cap xs hl (fun i hi => by
   have h6 := h5 i (.int .u8 (xs.getD i 0)) (by simp [List.getD, show i < xs.length by omega])
   have h7 := (h4 i (by simpa using (by omega : i < xs.length))).2
   rw [h7, h6.int_inv]) dst hD, strOfNums_eq]
omit [Inv] in
theorem convSB_sound {g : Gh} {w : World} {src dst e : TypeId} {l : List UInt8} {v : Value} {u : TypeDesc} (hl : ∀ b j, g.M b j → b < w.heap.size) (hS : P.underlying src = some u) (hD : P.underlying dst = some (.slice e)) (hE : P.underlying e = some (.int .u8)) (hv : Rc g w v (.str l)) :
 ∃ x w', (convert src dst v).run P w = .ok x w' ∧ Grow g w (g.M.row w.heap.size (byteCells l).length) w' ∧ Rd (g.M.row w.heap.size (byteCells l).length) w' x (.sl none 1 (byteCells l)) := by
 obtain rfl := hv.str_inv
 have hs : (⟨l.toArray⟩ : ByteArray).size = l.length := by show l.toArray.size = _; simp
 have hbl : (byteCells l).length = l.length := by simp [byteCells]
 refine ⟨_, _, Lib.run_convert_string_bytes w src dst e ⟨l.toArray⟩ hS hD hE, ?_⟩
 refine fresh_row (f := fun j => .int .u8 ((l.getD j 0).toNat : Int)) hl ⟨rfl, rfl, rfl, by rw [Lib.bytesWorld_size]; omega, fun k hk => Lib.bytesWorld_at_old w e _ k hk⟩ (by rw [Lib.bytesWorld_size]; omega) (fun j hj => ?_) (fun j c hc => ?_) ?_ (by omega) ?_
 · rw [hbl] at hj
   rw [Lib.bytesWorld_cell w e _ j (by rw [hs]; exact hj)]
 · simp only [byteCells, List.getElem?_map] at hc
   cases hj : l[j]? with
   | none => rw [hj] at hc; cases hc
   | some b =>
    rw [hj] at hc
    simp only [Option.map_some, Option.some.injEq] at hc
    subst hc
    have : l.getD j 0 = b := by simp [List.getD, hj]
    rw [this]
    exact .int _ _
 · rw [hbl, hs]; simp
 · rw [hs]; have := grownCap_ge w (⟨l.toArray⟩ : ByteArray).size 0 e; rw [hs] at this; exact this
omit [Inv] in
theorem fieldPlace_run {a : Addr} {f : Field} {n : Nat} {w : World} (hi : P.cellsOf f.type = n) (hn : 0 < n) : (fieldPlace a f).run P w = .ok (a.add f.offset) w := by
 cases h : P.info? f.type with
 | none => simp [Program.cellsOf, h] at hi; omega
 | some i =>
  have hz := run_sizeOf (w := w) h
  rw [hi] at hz
  have hne : n ≠ 0 := by omega
  simp [fieldPlace, hz, hne]
omit [Inv] in
theorem TyIs.is_struct {t : TypeId} {l : List TI} {fs : List (Nat × Nat × TypeId)} (h : TyIs P t (.struct l fs)) : ∃ fields : Array Field, P.underlying t = some (.struct fields) ∧ fieldsOk P l.length fs fields.toList = true := by
 obtain ⟨i, d, z, _, h2, _, h4, _⟩ := h.ex
 cases d <;> simp only [descOk, reduceCtorEq] at h4
 exact ⟨_, h2, h4⟩
omit [Inv] in
theorem fieldAddr_sound {g : Gh} {w : World} {t t' : TypeId} {l : List TI} {fs : List (Nat × Nat × TypeId)} {x : Cell} {v : Value} {f o n : Nat} {c : Cell} (hT : TyIs P t (.struct l fs)) (hf : fs[f]? = some (o, n, t')) (hv : Rc g w v x)
 (hc : (∃ b p, x = .ptr b p ∧ c = .ptr b (p + o)) ∨ ∃ cs, x = .eptr cs ∧ c = .eptr ((cs.drop o).take n)) :
 ∃ u, (Instr.fieldAt t v f).run P w = .ok u w ∧ Rc g w u c := by
 obtain ⟨fields, hu, hok⟩ := hT.is_struct
 obtain ⟨fd, h1, rfl, h3, h4, h5, h6⟩ := fieldsOk_get fs fields.toList hok f o n t' hf
 have h1' : fields[f]? = some fd := by simpa using h1
 rcases hc with ⟨b, p, rfl, rfl⟩ | ⟨cs, rfl, rfl⟩
 · obtain ⟨blk, rfl, hb⟩ := hv.ptr_inv
   refine ⟨.pointer (some ⟨blk, p + fd.offset, none⟩), ?_, .ptr b _ blk hb⟩
   simp [Instr.fieldAt, Instr.sureAddr, run_underlying hu, h1', fieldPlace_run h3 h5, Addr.add_lit]
 · cases hv with
   | data h => cases h
   | eptr blk p f' _ h7 h8 =>
    refine ⟨.pointer (some ⟨blk, p + fd.offset, none⟩), ?_, .eptr blk _ (fun i => f' (fd.offset + i)) _ (fun i hi => ?_) fun i c hc => ?_⟩
    · simp [Instr.fieldAt, Instr.sureAddr, run_underlying hu, h1', fieldPlace_run h3 h5, Addr.add_lit]
    · simp only [List.length_take, List.length_drop] at hi
      have := h7 (fd.offset + i) (by omega)
      rw [← Nat.add_assoc] at this
      exact this
    · rw [List.getElem?_take] at hc
      split at hc
      · rw [List.getElem?_drop] at hc; exact h8 _ c hc
      · cases hc
omit [Inv] in
theorem field_sound {g : Gh} {w : World} {t t' : TypeId} {l : List TI} {fs : List (Nat × Nat × TypeId)} {cs : List Cell} {v : Value} {f o n : Nat} {ti : TI} (hT : TyIs P t (.struct l fs)) (hf : fs[f]? = some (o, n, t')) (hti : TyIs P t' ti) (hv : Rv g w v (.agg cs)) :
 (ti.isAgg = true → ∃ u, (Instr.field t v f).run P w = .ok u w ∧ Rv g w u (.agg ((cs.drop o).take n))) ∧
 (ti.isAgg = false → ∀ c, cs[o]? = some c → ∃ u, (Instr.field t v f).run P w = .ok u w ∧ Rv g w u (.one c)) := by
 obtain ⟨vs, rfl, hvs⟩ := hv
 obtain ⟨fields, hu, hok⟩ := hT.is_struct
 obtain ⟨fd, h1, rfl, h3, h4, h5, h6⟩ := fieldsOk_get fs fields.toList hok f o n t' hf
 have h1' : fields[f]? = some fd := by simpa using h1
 subst h4
 have hsz := hti.size (w := w)
 have hcl := hti.cells
 refine ⟨fun hA => ?_, fun hA c hc => ?_⟩
 · have hag := hti.agg (w := w)
   rw [hA] at hag
   refine ⟨.agg (vs.extract fd.offset (fd.offset + ti.leaves.length)), ?_, _, rfl, ?_⟩
   · simp [Instr.field, run_underlying hu, h1', part, asAgg, hag, hsz]
   · rw [← hcl, h3]
     refine ⟨by simp [hvs.1]; omega, fun i u c hu hc => ?_⟩
     rw [List.getElem?_take] at hc
     split at hc
     · rename_i hlt
       rw [List.getElem?_drop] at hc
       refine hvs.2 (fd.offset + i) u c ?_ hc
       rw [Array.getElem?_extract] at hu
       split at hu
       · exact hu
       · cases hu
     · cases hc
 · have hag := hti.agg (w := w)
   rw [hA] at hag
   have hlt : fd.offset < vs.size := by rw [hvs.1]; exact (List.getElem?_eq_some_iff.1 hc).1
   refine ⟨vs[fd.offset], ?_, hvs.2 fd.offset _ c (Array.getElem?_eq_getElem hlt) hc⟩
   simp [Instr.field, run_underlying hu, h1', part, asAgg, hag, hlt]
end AX
end Go.Proofs.YtnkppakkeobegaaGreatDoor
namespace Go.Proofs.YtnkppakkeobegaaGreatDoor
namespace AX
variable [Inv]
open Go.RowKit
variable {P : Program} {R : Type}
omit [Inv] in
theorem lk_strike (p : Nm → Bool) (fr : List (Nat × AV)) (s : Nat) : lk (strikeFr p fr) s = (lk fr s).map (AV.map (Cell.strike p)) := by
 induction fr with
 | nil => rfl
 | cons x r ih =>
  obtain ⟨t, v⟩ := x
  simp only [strikeFr, lk]
  cases Nat.beq t s with
  | true => rfl
  | false => exact ih
omit [Inv] in
theorem strikeH_get (p : Nm → Bool) (H : Heap) (i : Nat) : (strikeH p H)[i]? = (H[i]?).map (List.map (Cell.strike p)) := by
 induction H generalizing i with
 | nil => rfl
 | cons b r ih => cases i with
  | zero => rfl
  | succ i => exact ih i
omit [Inv] in
theorem strikeH_len (p : Nm → Bool) (H : Heap) : (strikeH p H).length = H.length := by induction H with | nil => rfl | cons b r ih => simp [strikeH, ih]
theorem Sim.move {B : Base} {g g' : Gh} {st : St} {a : Act} {w w' : World} {p : Nm → Bool} (S : Sim P B g st a w) (hk : Kp g.M w g'.M w') (hbx : g'.bx = g.bx) (hbox : ∀ blk ∈ g.bx, w'.heap[blk]? = w.heap[blk]?)
 (hM : ∀ blk ∈ g.bx, ∀ j, ¬ g'.M blk j) (how : ∀ L u, p L = false → g.ow L = some u → g'.ow L = some u) (hOw : OwOk P g' w') (hobx : ∀ L v b, g'.ow L = some v → v.ob = some b → b ∉ g.bx)
 (hoB : ∀ L v b, g'.ow L = some v → v.ob = some b → B.D b ∨ B.w0.heap.size ≤ b) (hfr : Fr B g' w') (hl : ∀ b j, g'.M b j → b < w'.heap.size) (hgk : GkOk P B g' st.G w') : Sim P B g' (st.strike p) a w' := by
 have hb : ∀ (b blk : Nat), g.bx[b]? = some blk → g'.bx[b]? = some blk := fun b blk h => by rw [hbx]; exact h
 have hc : ∀ v c, Rc g w v c → Rc g' w' v (c.strike p) := fun v c h => h.strike hk hb how
 exact {
  frame := fun s v hs => by
   simp only [St.strike, lk_strike] at hs
   cases hx : lk st.fr s with
   | none => rw [hx] at hs; cases hs
   | some x =>
    rw [hx] at hs
    simp only [Option.map_some, Option.some.injEq] at hs
    subst hs
    exact (S.frame s x hx).map hc
  size := S.size
  defers := S.defers
  live := hl
  bx := {
   len := by rw [hbx, S.bx.len]; exact (strikeH_len p st.H).symm
   nodup := by rw [hbx]; exact S.bx.nodup
   M := by rw [hbx]; exact hM
   ow := by rw [hbx]; exact hobx
   box := fun i cs hi => by
    simp only [St.strike, strikeH_get] at hi
    cases hx : st.H[i]? with
    | none => rw [hx] at hi; cases hi
    | some cs0 =>
     rw [hx] at hi
     simp only [Option.map_some, Option.some.injEq] at hi
     subst hi
     obtain ⟨blk, h1, h2⟩ := S.bx.box i cs0 hx
     exact ⟨blk, hb i blk h1, h2.strike (hbox blk (List.mem_of_getElem? h1)) hk hc⟩ }
  ow := hOw
  fr := hfr
  bxB := by rw [hbx]; exact S.bxB
  owB := hoB
  pre := by rw [hbx]; exact S.pre
  gk := hgk }
omit [Inv] in
theorem bornAt_slot {d : Nat} {L : Nm} : bornAt d L = true ↔ L.slot = d := by
 unfold bornAt; exact ⟨Nat.eq_of_beq_eq_true, fun h => by rw [h]; exact Nat.beq_refl d⟩
def Gh.give (g : Gh) (d : Nat) (f : Nm → Option Value) : Gh := ⟨g.M, g.bx, fun L => condA (bornAt d L) (f L) <| g.ow L⟩
omit [Inv] in
theorem give_here {g : Gh} {d : Nat} {f : Nm → Option Value} {L : Nm} (h : L.slot = d) : (g.give d f).ow L = f L := by
 simp [Gh.give, bornAt_slot.2 h]
omit [Inv] in
theorem give_else {g : Gh} {d : Nat} {f : Nm → Option Value} {L : Nm} (h : bornAt d L = false) : (g.give d f).ow L = g.ow L := by
 simp [Gh.give, h]
omit [Inv] in
theorem give_cases {g : Gh} {d : Nat} {f : Nm → Option Value} {L : Nm} {v : Value} (h : (g.give d f).ow L = some v) : (L.slot = d ∧ f L = some v) ∨ (bornAt d L = false ∧ g.ow L = some v) := by
 cases hb : bornAt d L with
 | true => rw [give_here (bornAt_slot.1 hb)] at h; exact .inl ⟨bornAt_slot.1 hb, h⟩
 | false => rw [give_else hb] at h; exact .inr ⟨rfl, h⟩
theorem Sim.give {B : Base} {g : Gh} {st : St} {a : Act} {w : World} {d : Nat} {f : Nm → Option Value} (S : Sim P B g st a w)
 (hrow : ∀ L v, L.slot = d → f L = some v → ∃ n xs, w.ownsAt 0 L.elem (P.cellsOf L.elem) v n xs ∧ ∀ b j, v.ob = some b → g.M b j → j < v.offOf + n * P.cellsOf L.elem)
 (hne : ∀ L L' v v', L.slot = d → L'.slot = d → L ≠ L' → f L = some v → f L' = some v' → v.ob = none ∨ v.ob ≠ v'.ob)
 (hnew : ∀ L v b, L.slot = d → f L = some v → v.ob = some b → b ∉ g.bx ∧ (∀ L' v', g.ow L' = some v' → v'.ob ≠ some b) ∧ (B.D b ∨ B.w0.heap.size ≤ b) ∧ ¬ Og st.G g.M b) :
 Sim P B (g.give d f) (st.clear d) a w := by
 refine S.move (Kp.refl _ _) rfl (fun _ _ => rfl) (fun blk hb j => S.bx.M blk hb j) (fun L u hp h => by rw [give_else hp]; exact h) ⟨fun L v h => ?_, fun L L' v v' hL h h' => ?_⟩ (fun L v b h hb => ?_) (fun L v b h hb => ?_) ?_ S.live ?_
 · rcases give_cases h with ⟨h1, h2⟩ | ⟨_, h2⟩
   · exact hrow L v h1 h2
   · exact S.ow.row L v h2
 · rcases give_cases h with ⟨h1, h2⟩ | ⟨_, h2⟩ <;> rcases give_cases h' with ⟨h3, h4⟩ | ⟨_, h4⟩
   · exact hne L L' v v' h1 h3 hL h2 h4
   · cases hb : v.ob with
     | none => exact .inl rfl
     | some b => exact .inr fun e => (hnew L v b h1 h2 hb).2.1 L' v' h4 e.symm
   · cases hb : v'.ob with
     | none =>
      cases hv : v.ob with
      | none => exact .inl rfl
      | some b => exact .inr (by simp)
     | some b => exact .inr (by have := (hnew L' v' b h3 h4 hb).2.1 L v h2; exact this)
   · exact S.ow.ne L L' v v' hL h2 h4
 · rcases give_cases h with ⟨h1, h2⟩ | ⟨_, h2⟩
   · exact (hnew L v b h1 h2 hb).1
   · exact S.bx.ow L v b h2 hb
 · rcases give_cases h with ⟨h1, h2⟩ | ⟨_, h2⟩
   · exact (hnew L v b h1 h2 hb).2.2.1
   · exact S.owB L v b h2 hb
 · exact ⟨S.fr.os, S.fr.tape, S.fr.output, S.fr.size, S.fr.block, S.fr.kp, S.fr.old⟩
 · refine S.gk.keep ⟨rfl, rfl⟩ (Kp.refl _ _) (fun _ _ => rfl) (fun _ _ _ h => h) S.gk.obx fun L v b h hb => ?_
   rcases give_cases h with ⟨h1, h2⟩ | ⟨_, h2⟩
   · exact (hnew L v b h1 h2 hb).2.2.2
   · exact S.gk.oow L v b h2 hb
def nameIs (L : Nm) (v : Value) : Nm → Option Value := fun L' => if L' = L then some v else none
omit [Inv] in
theorem nameIs_some {L L' : Nm} {v u : Value} (h : nameIs L v L' = some u) : L' = L ∧ v = u := by
 unfold nameIs at h
 split at h
 · rename_i e; cases h; exact ⟨e, rfl⟩
 · cases h
theorem Sim.born {B : Base} {g : Gh} {st : St} {a : Act} {w : World} {d : Nat} {e : TypeId} {v : Value} {n : Nat} {xs : List Value} (S : Sim P B g st a w) (ix : Nat) (hrow : w.ownsAt 0 e (P.cellsOf e) v n xs) (hM : ∀ b j, v.ob = some b → g.M b j → j < v.offOf + n * P.cellsOf e)
 (hnew : ∀ b, v.ob = some b → b ∉ g.bx ∧ (∀ L' v', g.ow L' = some v' → v'.ob ≠ some b) ∧ (B.D b ∨ B.w0.heap.size ≤ b) ∧ ¬ Og st.G g.M b) :
 Sim P B (g.give d (nameIs ⟨d, ix, e⟩ v)) (st.clear d) a w := by
 refine S.give (fun L u _ h => ?_) (fun L L' u u' _ _ hL h h' => ?_) (fun L u b _ h hb => ?_)
 · obtain ⟨rfl, rfl⟩ := nameIs_some h; exact ⟨n, xs, hrow, hM⟩
 · obtain ⟨rfl, rfl⟩ := nameIs_some h
   obtain ⟨rfl, rfl⟩ := nameIs_some h'
   exact absurd rfl hL
 · obtain ⟨rfl, rfl⟩ := nameIs_some h; exact hnew b hb
end AX
end Go.Proofs.YtnkppakkeobegaaGreatDoor
namespace Go.Proofs.YtnkppakkeobegaaGreatDoor
namespace AX
variable [Inv]
open Go.RowKit
variable {P : Program} {R : Type}
omit [Inv] in
theorem setRow_size (w : World) (g : Nat) (cs : Array Value) : (w.setRow g cs).heap.size = w.heap.size := by simp [World.setRow]
omit [Inv] in
theorem run_append_room_at {w : World} (t ty e : TypeId) (i : TypeInfo) (ht : P.underlying t = some (.slice e)) (hi : P.info? e = some i)
 (g off sLen sCap : Nat) (cur : Array Value) (hg : w.heap[g]? = some (.cells cur e (0, 0)))
 (a : Addr) (m c : Nat) (news : List Value) (hl : news.length = m * i.size) (hnews : ∀ j u, news[j]? = some u → w.cell? (a.add j) = some u) (h1 : ∀ u ∈ news, u.oneCell' = true)
 (hroom : sLen + m ≤ sCap) (hfit : off + sLen * i.size + news.length ≤ cur.size) :
 (Builtin.append_ #[t, t] ty #[.slice (some ⟨g, off, none⟩) sLen sCap, .slice (some a) m c]).run P w =
  .ok (.slice (some ⟨g, off, none⟩) (sLen + m) sCap) (w.setRow g (cur.toList.take (off + sLen * i.size) ++ news ++ cur.toList.drop (off + sLen * i.size + news.length)).toArray) := by
 have hf := run_firstCells_some (P := P) w i.size m a m c news hl hnews
 have hst := run_storeCells_at P g (off + sLen * i.size) e news 0 cur w hg (by simpa using hfit) h1
 simp only [Nat.add_zero] at hst
 simp [Builtin.append_, run_underlying ht, sizeOf, typeInfo, hi, Builtin.lenOf, hroom, hf, Addr.add_lit, hst]
omit [Inv] in
theorem ob_fresh {b n cap : Nat} : (Value.slice (some ⟨b, 0, none⟩) n cap).ob = none ∨ (Value.slice (some ⟨b, 0, none⟩) n cap).ob = some b := by
 simp only [Value.ob]
 by_cases h : cap = 0
 · rw [if_pos h]; exact .inl rfl
 · rw [if_neg h]; exact .inr rfl
omit [Inv] in
theorem run_append_own2 {w : World} (t ty e : TypeId) (i : TypeInfo) (z : Value) (size bytes : Nat) (ht : P.underlying t = some (.slice e)) (hi : P.info? e = some i) (hz : i.zero = some z)
 (hsize : i.size = size) (hby : i.bytes = bytes) (hzs : z.cells.size = size) (hsz : 0 < size)
 (v : Value) (n : Nat) (xs : List Value) (hown : w.ownsAt 0 e size v n xs)
 (a : Addr) (m c : Nat) (news : List Value) (hl : news.length = m * size) (hnews : ∀ j u, news[j]? = some u → w.cell? (a.add j) = some u) (h1 : ∀ u ∈ news, u.oneCell' = true)
 (h63 : n + m ≤ maxLen) (hbytes : (n + m) * bytes ≤ 140737488355328) :
 ∃ v' w', (Builtin.append_ #[t, t] ty #[v, .slice (some a) m c]).run P w = .ok v' w' ∧ w'.ownsAt 0 e size v' (n + m) (xs ++ news) ∧ w.grownBy w' v.ob ∧
  (∀ b, v.ob = some b → ∀ j, j < v.offOf + n * size → w'.cell? ⟨b, j, none⟩ = w.cell? ⟨b, j, none⟩) ∧ (v'.ob = none ∨ (v'.ob = v.ob ∧ v'.offOf = v.offOf) ∨ v'.ob = some w.heap.size) := by
 subst hsize
 subst hby
 have hsmall : n + m ≤ 9223372036854775807 := by simp only [maxLen] at h63; omega
 have hlen : (xs ++ news).length = (n + m) * i.size := by rw [List.length_append, hown.1, hl, Nat.add_mul]
 have grown : ∀ (old : Nat), old < n + m → ∀ (row : Option Nat),
  (w.drew.alloc (.cells (xs.toArray ++ news.toArray ++ Builtin.zeroCells z.cells (grownCap w (n + m) old e - (n + m))) e)).ownsAt 0 e i.size
   (.slice (some ⟨w.heap.size, 0, none⟩) (n + m) (grownCap w (n + m) old e)) (n + m) (xs ++ news) ∧
  w.grownBy (w.drew.alloc (.cells (xs.toArray ++ news.toArray ++ Builtin.zeroCells z.cells (grownCap w (n + m) old e - (n + m))) e)) row := by
  intro old ho row
  have hge := grownCap_ge w (n + m) old e
  have hcm : grownCap w (n + m) old e ≤ maxLen := grownCap_le_maxLen w (n + m) old e h63
  refine ⟨World.ownsRow.at ⟨hlen, .inr ⟨w.heap.size, _, _, rfl, Nat.zero_le _, heap_alloc_new w.drew _, hge, hcm, ?_, ?_⟩⟩, ⟨rfl, rfl, rfl, by simp, fun k hk _ => Below.heap_alloc w.drew _ k hk⟩⟩
  · simp only [Array.size_append, List.size_toArray, size_zeroCells, hzs, hown.1, hl, ← Nat.add_mul]
    congr 1
    omega
  · simp only [Array.toList_append, List.append_assoc]
    rw [← List.append_assoc, ← hlen]
    exact List.take_left
 have grow : ∀ (b : Addr) (cap : Nat), (∀ j u, xs[j]? = some u → w.cell? (b.add j) = some u) → cap < n + m → v = .slice (some b) n cap →
  ∃ v' w', (Builtin.append_ #[t, t] ty #[v, .slice (some a) m c]).run P w = .ok v' w' ∧ w'.ownsAt 0 e i.size v' (n + m) (xs ++ news) ∧ w.grownBy w' v.ob ∧
  (∀ b, v.ob = some b → ∀ j, j < v.offOf + n * i.size → w'.cell? ⟨b, j, none⟩ = w.cell? ⟨b, j, none⟩) ∧ (v'.ob = none ∨ (v'.ob = v.ob ∧ v'.offOf = v.offOf) ∨ v'.ob = some w.heap.size) := fun b cap holds hcap hv => by
  have hr := run_append_grow (P := P) w t ty e i z ht hi hz b n cap xs hown.1 holds a m c news hl hnews (by omega) (by omega) (growslice_fits (by omega) hbytes)
  have hgr := grown cap (by omega) v.ob
  rw [hv]
  rw [hv] at hgr
  refine ⟨_, _, hr, hgr.1, hgr.2, fun b' hb j hj => ?_, ob_fresh.imp id .inr⟩
  have hlt : b' < w.heap.size := by rw [← hv] at hb; exact (hown.lt b' hb).2
  exact World.cell?_of_block (w := w) (Below.heap_alloc w.drew _ b' hlt)
 rcases hown.2 with ⟨rfl, rfl | ⟨b, rfl⟩⟩ | ⟨g, off, cap, cur, rfl, hc0, hg, hnc, hcm, hcs, htake⟩
 · have hx : xs = [] := List.eq_nil_of_length_eq_zero (by simpa using hown.1)
   subst hx
   by_cases hm : m = 0
   · subst hm
     have hn : news = [] := List.eq_nil_of_length_eq_zero (by simpa using hl)
     subst hn
     refine ⟨.slice none 0 0, w, ?_, World.ownsAt_nil w 0 e i.size, ⟨rfl, rfl, rfl, Nat.le_refl _, fun _ _ _ => rfl⟩, fun b h => (by cases h), .inl rfl⟩
     simp [Builtin.append_, run_underlying ht, sizeOf, typeInfo, hi, Builtin.lenOf, Builtin.firstCells, loadCells, loadCellsFrom]
   · have hr := run_append_nil (P := P) w t ty e i z ht hi hz a m c news hl hnews (by omega) (by omega) (by have hb := hbytes; simp only [Nat.zero_add] at hb; omega)
     have hgr := grown 0 (by omega) (Value.ob (.slice none 0 0))
     simp only [Nat.zero_add, List.nil_append, Array.empty_append] at hgr ⊢
     exact ⟨_, _, hr, hgr.1, hgr.2, fun b h => (by cases h), ob_fresh.imp id .inr⟩
 · have hx : xs = [] := List.eq_nil_of_length_eq_zero (by simpa using hown.1)
   by_cases hm : m = 0
   · subst hm
     have hn : news = [] := List.eq_nil_of_length_eq_zero (by simpa using hl)
     subst hn hx
     refine ⟨.slice (some b) 0 0, w, ?_, ⟨by simp, .inl ⟨rfl, .inr ⟨b, rfl⟩⟩⟩, ⟨rfl, rfl, rfl, Nat.le_refl _, fun _ _ _ => rfl⟩, fun b h => (by simp [Value.ob] at h), .inl (by simp [Value.ob])⟩
     simp [Builtin.append_, run_underlying ht, sizeOf, typeInfo, hi, Builtin.lenOf, Builtin.firstCells, loadCells, loadCellsFrom, storeCells]
   · exact grow b 0 (fun j u h => by rw [hx] at h; simp at h) (by omega) rfl
 · by_cases hroom : n + m ≤ cap
   · have hmul : (n + m) * i.size ≤ cap * i.size := Nat.mul_le_mul_right _ hroom
     rw [Nat.add_mul] at hmul
     have hfit : off + n * i.size + news.length ≤ cur.size := by rw [hl]; omega
     have hr := run_append_room_at (P := P) t ty e i ht hi g off n cap cur hg a m c news hl hnews h1 hroom hfit
     have hob : ∀ k, (Value.slice (some ⟨g, off, none⟩) k cap).ob = some g := fun k => by simp only [Value.ob]; rw [if_neg (by omega)]
     refine ⟨_, _, hr, ⟨hlen, .inr ⟨g, off, cap, _, rfl, hc0, setRow_heap w g cur _ e _ hg, hroom, hcm, ?_, ?_⟩⟩, ⟨rfl, rfl, rfl, by simp, fun k _ hk => setRow_other w g k _ (fun e => hk (by rw [hob, e]))⟩, fun b hb j hj => ?_, .inr (.inl ⟨by rw [hob, hob], rfl⟩)⟩
     · simp only [List.size_toArray, List.length_append, List.length_take, List.length_drop, Array.length_toList]
       omega
     · rw [List.append_assoc, List.drop_append, List.length_take, Array.length_toList, show off - min (off + n * i.size) cur.size = 0 by omega, List.drop_zero, List.drop_take, show off + n * i.size - off = n * i.size by omega, htake, ← List.append_assoc, ← hlen]
       exact List.take_left
     · rw [hob, Option.some.injEq] at hb
       subst hb
       rw [cell_of_row _ g j _ e _ (setRow_heap w g cur _ e _ hg), cell_of_row w g j cur e _ hg]
       have hj : j < off + n * i.size := hj
       simp only [List.getElem?_toArray]
       rw [List.append_assoc, List.getElem?_append_left (by simp; omega), List.getElem?_take, if_pos hj]
       simp
   · have holds : ∀ j u, xs[j]? = some u → w.cell? ((⟨g, off, none⟩ : Addr).add j) = some u := fun j u hu => by
      rw [Addr.add_lit]
      exact hown.cells (g := g) (by simp only [Value.ob]; rw [if_neg (by omega)]) j u hu
     exact grow ⟨g, off, none⟩ cap holds (by omega) rfl
omit [Inv] in
theorem run_append_none {w : World} (t ty e : TypeId) (i : TypeInfo) (ht : P.underlying t = some (.slice e)) (hi : P.info? e = some i) {size n : Nat} {v : Value} {xs : List Value} (hown : w.ownsAt 0 e size v n xs) :
 (Builtin.append_ #[t, t] ty #[v, .slice none 0 0]).run P w = .ok v w := by
 rcases hown.2 with ⟨rfl, rfl | ⟨b, rfl⟩⟩ | ⟨g, off, cap, cur, rfl, hc0, hg, hnc, hcm, hcs, htake⟩
 · simp [Builtin.append_, run_underlying ht, sizeOf, typeInfo, hi, Builtin.lenOf, Builtin.firstCells]
 · simp [Builtin.append_, run_underlying ht, sizeOf, typeInfo, hi, Builtin.lenOf, Builtin.firstCells, storeCells]
 · simp [Builtin.append_, run_underlying ht, sizeOf, typeInfo, hi, Builtin.lenOf, Builtin.firstCells, hnc, storeCells]
omit [Inv] in
theorem own_data {g : Gh} {w : World} {v : Value} {e : TypeId} {n sz : Nat} {xs : List Value} {cs : List Cell} (hown : w.ownsAt 0 e sz v n xs) (hR : Rd g.M w v (.sl none sz cs)) : RdL g.M w xs cs ∧ cs.length = n * sz := by
 have nil : n = 0 → cs = [] → RdL g.M w xs cs ∧ cs.length = n * sz := fun hn hc => by
  subst hn hc
  have hx : xs = [] := List.eq_nil_of_length_eq_zero (by simpa using hown.1)
  subst hx
  exact ⟨⟨rfl, fun i v c h => by simp at h⟩, by simp⟩
 rcases hown.2 with ⟨rfl, rfl | ⟨b, rfl⟩⟩ | ⟨b, off, cap, cur, rfl, hc0, hg, hnc, hcm, hcs, htake⟩
 · cases hR
   exact nil rfl rfl
 · cases hR with
   | sl0 => exact nil rfl rfl
   | sl _ _ _ _ _ f _ h1 h2 => exact nil rfl (List.eq_nil_of_length_eq_zero (by simpa using h2))
 · have hc := hown.cells (g := b) (by simp only [Value.ob]; rw [if_neg (by omega)])
   cases hR with
   | sl0 _ _ _ h0 => exact nil rfl rfl
   | sl _ _ _ _ _ f _ h1 h2 h3 h4 h5 =>
    refine ⟨⟨by rw [hown.1, h2], fun i v c hv hcc => ?_⟩, h2⟩
    have hi : i < cs.length := (List.getElem?_eq_some_iff.1 hcc).1
    have e1 := hc i v hv
    have e2 := (h4 i hi).2
    rw [show (Value.slice (some ⟨b, off, none⟩) n cap).offOf = off from rfl, e2] at e1
    cases e1
    exact h5 i c hcc
theorem append_sound {B : Base} {g : Gh} {st : St} {a : Act} {w : World} {t ty e : TypeId} {sz s s' : Nat} {N : Nm} {nm' : Option Nm} {cs new : List Cell} {v u : Value} {d : Nat} (S : Sim P B g st a w) (hT : TyIs P t (.slice e sz)) {z : Value} {i : TypeInfo} (hi : P.info? e = some i) (hz : i.zero = some z) (hzs : z.cells.size = sz)
 (hv : Rc g w v (.sl (some N) s cs)) (hs : s = sz ∨ s = 0) (hN : N.elem = e) (hu : Rc g w u (.sl nm' s' new)) (hs' : s' = sz ∨ s' = 0) (hlim : (cs.length + new.length) * 1000 ≤ rowLim) :
 ∃ v' w' g', (Builtin.append_ #[t, t] ty #[v, u]).run P w = .ok v' w' ∧ Rc g' w' v' (.sl (some ⟨d, 0, e⟩) sz (cs ++ new)) ∧ Sim P B g' ((st.strike (isNm N)).clear d) a w' := by
 obtain ⟨hun, hsz, hz0, hby, _⟩ := hT.is_slice
 have hvs := hv.sized hs
 have hRv := hvs.dataSl
 have hRu := (hu.sized hs').dataSl
 obtain ⟨hown0, hRv'⟩ : g.ow N = some v ∧ Rd g.M w v (.sl none sz cs) := by
  cases hvs with
  | data h => cases h
  | own _ h1 h2 => exact ⟨h1, h2⟩
 obtain ⟨n, xs, hrow, hMb⟩ := S.ow.row N v hown0
 rw [hN, hsz] at hrow hMb
 obtain ⟨hxs, hcl⟩ := own_data hrow hRv
 have hsz' : i.size = sz := by rw [← hsz]; simp [Program.cellsOf, hi]
 have hby' : i.bytes ≤ 1000 := by have := hby; simpa [Program.bytesOf, hi] using this
 -- the new items
 have key : ∃ (v' : Value) (w' : World) (m : Nat) (news : List Value), (Builtin.append_ #[t, t] ty #[v, u]).run P w = .ok v' w' ∧ RdL g.M w news new ∧ new.length = m * sz ∧ w'.ownsAt 0 e sz v' (n + m) (xs ++ news) ∧ w.grownBy w' v.ob ∧
  (∀ b, v.ob = some b → ∀ j, j < v.offOf + n * sz → w'.cell? ⟨b, j, none⟩ = w.cell? ⟨b, j, none⟩) ∧ (v'.ob = none ∨ (v'.ob = v.ob ∧ v'.offOf = v.offOf) ∨ v'.ob = some w.heap.size) := by
  cases hRu with
  | slN =>
   refine ⟨v, w, 0, [], run_append_none t ty e i hun hi hrow, ⟨rfl, fun i v c h => by simp at h⟩, by simp, by simpa using hrow, ⟨rfl, rfl, rfl, Nat.le_refl _, fun _ _ _ => rfl⟩, fun _ _ _ _ => rfl, .inr (.inl ⟨rfl, rfl⟩)⟩
  | sl0 a0 cap _ _ =>
   have hle : n ≤ cs.length := by rw [hcl]; exact Nat.le_mul_of_pos_right _ hz0
   have hr40 : rowLim = 1099511627776 := rfl
   have hnm : n + 0 ≤ 1099511627 := by omega
   obtain ⟨v', w', e1, e2, e3, e4, e5⟩ := run_append_own2 (P := P) (w := w) t ty e i z sz i.bytes hun hi hz hsz' rfl hzs hz0 v n xs hrow a0 0 cap [] (by simp) (fun j u hj => by simp at hj) (fun u hu => by simp at hu) (by simp [maxLen]; omega) (Nat.le_trans (Nat.mul_le_mul_left _ hby') (by omega))
   exact ⟨v', w', 0, [], e1, ⟨rfl, fun i v c h => by simp at h⟩, by simp, by simpa using e2, e3, e4, e5⟩
  | sl b off len cap _ f _ h1 h2 h3 h4 h5 =>
   have hnl : (List.ofFn fun i : Fin new.length => f i).length = len * sz := by simp [h2]
   have hRd : RdL g.M w (List.ofFn fun i : Fin new.length => f i) new := ⟨by simp, fun i v c hv hc => by
    rw [List.getElem?_ofFn] at hv
    split at hv
    · cases hv; exact h5 i c hc
    · cases hv⟩
   have hle : n ≤ cs.length ∧ len ≤ new.length := ⟨by rw [hcl]; exact Nat.le_mul_of_pos_right _ hz0, by rw [h2]; exact Nat.le_mul_of_pos_right _ hz0⟩
   have hr40 : rowLim = 1099511627776 := rfl
   have hnm : n + len ≤ 1099511627 := by omega
   obtain ⟨v', w', e1, e2, e3, e4, e5⟩ := run_append_own2 (P := P) (w := w) t ty e i z sz i.bytes hun hi hz hsz' rfl hzs hz0 v n xs hrow ⟨b, off, none⟩ len cap _ hnl (fun j u hj => by
    rw [List.getElem?_ofFn] at hj
    split at hj
    · rename_i hlt; cases hj; rw [Addr.add_lit]; exact (h4 j hlt).2
    · cases hj) (fun u hu => by
      obtain ⟨j, hj⟩ := List.getElem?_of_mem hu
      obtain ⟨c, hc⟩ : ∃ c, new[j]? = some c := by
       have := (List.getElem?_eq_some_iff.1 hj).1
       simp at this
       exact ⟨_, List.getElem?_eq_getElem this⟩
      exact (hRd.2 j u c hj hc).one) (by simp only [maxLen]; omega) (by
      have : (n + len) * i.bytes ≤ 1099511627 * 1000 := Nat.mul_le_mul hnm hby'
      omega)
   exact ⟨v', w', len, _, e1, hRd, h2, e2, e3, e4, e5⟩
 obtain ⟨v', w', m, news, hrun, hnews, hml, hrow', hgr, hpre, hblk⟩ := key
 have hol : ∀ L x b, g.ow L = some x → x.ob = some b → b < w.heap.size := fun L x b hL hb => by
  obtain ⟨k, ys, h1, _⟩ := S.ow.row L x hL
  exact (h1.lt b hb).2
 -- the new memory
 let M' : Mem := ⟨fun b j => g.M b j ∨ (v'.ob = some b ∧ j < v'.offOf + (n + m) * sz), g.M.gx, g.M.gw⟩
 have hkp : Kp g.M w M' w' := ⟨fun b j hb => ⟨.inl hb, by
  by_cases hvb : v.ob = some b
  · exact hpre b hvb j (hMb b j hvb hb)
  · exact World.cell?_of_block (w := w) (hgr.block b (S.live b j hb) (fun h => hvb h.symm))⟩, List.prefix_refl _⟩
 have hother : ∀ L x, L ≠ N → g.ow L = some x → ∀ b, x.ob = some b → v.ob ≠ some b ∧ v'.ob ≠ some b := fun L x hL hx b hb => by
  have h1 : v.ob ≠ some b := by
   rcases S.ow.ne L N x v hL hx hown0 with h | h
   · rw [h] at hb; cases hb
   · rw [← hb]; exact fun e => h e.symm
  refine ⟨h1, ?_⟩
  rcases hblk with h | h | h
  · rw [h]; simp
  · rw [h.1]; exact h1
  · rw [h]; have := hol L x b hx hb; intro e; cases e; omega
 have hboxne : ∀ blk ∈ g.bx, v.ob ≠ some blk ∧ v'.ob ≠ some blk := fun blk hb => by
  have h1 : v.ob ≠ some blk := fun e => S.bx.ow N v blk hown0 e hb
  refine ⟨h1, ?_⟩
  rcases hblk with h | h | h
  · rw [h]; simp
  · rw [h.1]; exact h1
  · rw [h]
    intro e
    cases e
    obtain ⟨i, hi⟩ := List.getElem?_of_mem hb
    have hlt : i < st.H.length := by rw [← S.bx.len]; exact (List.getElem?_eq_some_iff.1 hi).1
    obtain ⟨blk', h1, h2⟩ := S.bx.box i _ (List.getElem?_eq_getElem hlt)
    rw [hi] at h1; cases h1
    have := h2.lt
    omega
 have hboxlt : ∀ blk ∈ g.bx, blk < w.heap.size := fun blk hb => by
  obtain ⟨i, hi⟩ := List.getElem?_of_mem hb
  have hlt : i < st.H.length := by rw [← S.bx.len]; exact (List.getElem?_eq_some_iff.1 hi).1
  obtain ⟨blk', h1, h2⟩ := S.bx.box i _ (List.getElem?_eq_getElem hlt)
  rw [hi] at h1; cases h1
  exact h2.lt
 have hvB : ∀ b, v'.ob = some b → B.D b ∨ B.w0.heap.size ≤ b := fun b hb => by
  rcases hblk with h | h | h
  · rw [h] at hb; cases hb
  · rw [h.1] at hb; exact S.owB N v b hown0 hb
  · rw [h] at hb; cases hb; exact .inr S.fr.size
 let g1 : Gh := ⟨M', g.bx, fun L => if L = N then none else g.ow L⟩
 have hOg : ∀ b, Og st.G g.M b → v.ob ≠ some b ∧ v'.ob ≠ some b := fun b hb => by
  have h1 : v.ob ≠ some b := fun e => S.gk.oow N v b hown0 e hb
  refine ⟨h1, ?_⟩
  rcases hblk with h | h | h
  · rw [h]; simp
  · rw [h.1]; exact h1
  · rw [h]; have := S.gk.olt hb; intro e; cases e; omega
 have S1 : Sim P B g1 (st.strike (isNm N)) a w' := by
  refine S.move (g' := g1) hkp rfl (fun blk hb => hgr.block blk (hboxlt blk hb) (fun h => (hboxne blk hb).1 h.symm)) (fun blk hb j hm => ?_) (fun L x hp hx => ?_) ⟨fun L x hx => ?_, fun L L' x x' hL hx hx' => ?_⟩ (fun L x b hx hb => ?_) (fun L x b hx hb => ?_) ?_ (fun b j hm => ?_) (S.gk.keep ⟨rfl, rfl⟩ hkp (fun b hb => hgr.block b (S.gk.olt hb) (fun h => (hOg b hb).1 h.symm)) (fun b j hb hm => ?_) S.gk.obx fun L x b hx hb => ?_)
  · rcases hm with hm | ⟨hm, _⟩
    · exact S.bx.M blk hb j hm
    · exact (hboxne blk hb).2 hm
  · have hne : L ≠ N := fun e => by
     subst e
     unfold isNm at hp
     simp [Nat.beq_refl] at hp
    show (if L = N then none else g.ow L) = some x
    rw [if_neg hne]; exact hx
  · have hne : L ≠ N := fun e => by subst e; simp [g1] at hx
    have hx' : g.ow L = some x := by simpa [g1, hne] using hx
    obtain ⟨k, ys, h1, h2⟩ := S.ow.row L x hx'
    refine ⟨k, ys, ownsRow_block h1 fun b hb => hgr.block b (hol L x b hx' hb) (fun h => (hother L x hne hx' b hb).1 h.symm), fun b j hb hm => ?_⟩
    rcases hm with hm | ⟨hm, _⟩
    · exact h2 b j hb hm
    · exact absurd hm (hother L x hne hx' b hb).2
  · have hne : L ≠ N := fun e => by subst e; simp [g1] at hx
    have hne' : L' ≠ N := fun e => by subst e; simp [g1] at hx'
    exact S.ow.ne L L' x x' hL (by simpa [g1, hne] using hx) (by simpa [g1, hne'] using hx')
  · have hne : L ≠ N := fun e => by subst e; simp [g1] at hx
    exact S.bx.ow L x b (by simpa [g1, hne] using hx) hb
  · have hne : L ≠ N := fun e => by subst e; simp [g1] at hx
    exact S.owB L x b (by simpa [g1, hne] using hx) hb
  · refine ⟨hgr.os.trans S.fr.os, hgr.tape.trans S.fr.tape, hgr.output.trans S.fr.output, Nat.le_trans S.fr.size hgr.size, fun k hk hD => ?_, S.fr.kp.trans hkp, fun b j hb hD hm => ?_⟩
    · rw [hgr.block k (Nat.lt_of_lt_of_le hk S.fr.size) (fun h => ?_)]
      · exact S.fr.block k hk hD
      · rcases S.owB N v k hown0 h.symm with h2 | h2
        · exact hD h2
        · omega
    · rcases hm with hm | ⟨hm, _⟩
      · exact S.fr.old b j hb hD hm
      · rcases hvB b hm with h2 | h2
        · exact absurd h2 hD
        · omega
  · rcases hm with hm | ⟨hm, _⟩
    · exact Nat.lt_of_lt_of_le (S.live b j hm) hgr.size
    · exact (hrow'.lt b hm).2
  · rcases hm with hm | ⟨hm, _⟩
    · exact hm
    · exact absurd hm (hOg b hb).2
  · have hne : L ≠ N := fun e => by subst e; simp [g1] at hx
    exact S.gk.oow L x b (by simpa [g1, hne] using hx) hb
 have S2 : Sim P B (g1.give d (nameIs ⟨d, 0, e⟩ v')) ((st.strike (isNm N)).clear d) a w' := by
  refine S1.born (d := d) (e := e) (n := n + m) (xs := xs ++ news) 0 (by rw [hsz]; exact hrow') (fun b j hb hm => ?_) (fun b hb => ⟨fun hx => (hboxne b hx).2 hb, fun L x hx hxb => ?_, hvB b hb, fun ho => (hOg b ho).2 hb⟩)
  · rw [hsz]
    rcases hm with hm | ⟨_, hm⟩
    · have hbl := S.live b j hm
      rcases hblk with h | h | h
      · rw [h] at hb; cases hb
      · rw [h.1] at hb
        have := hMb b j hb hm
        have h2 : n * sz ≤ (n + m) * sz := Nat.mul_le_mul_right _ (by omega)
        rw [h.2]; omega
      · rw [h] at hb; cases hb; omega
    · exact hm
  · have hne : L ≠ N := fun e => by subst e; simp [g1] at hx
    exact (hother L x hne (by simpa [g1, hne] using hx) b hxb).2 hb
 refine ⟨v', w', _, hrun, .own ⟨d, 0, e⟩ ((give_here (L := ⟨d, 0, e⟩) rfl).trans (by simp [nameIs])) ?_, S2⟩
 -- the whole
 have hall : RdL M' w' (xs ++ news) (cs ++ new) := ⟨by rw [List.length_append, List.length_append, hxs.1, hnews.1], fun i x c hx hc => by
  rw [List.getElem?_append] at hx hc
  rw [hxs.1] at hx
  split at hc
  · rename_i hlt
    rw [if_pos hlt] at hx
    exact (hxs.2 i x c hx hc).kept hkp
  · rename_i hlt
    rw [if_neg hlt] at hx
    exact (hnews.2 _ x c hx hc).kept hkp⟩
 have hnil : n + m = 0 → cs ++ new = [] := fun h0 => List.eq_nil_of_length_eq_zero (by rw [List.length_append, hcl, hml, ← Nat.add_mul, h0]; simp)
 rcases hrow'.2 with ⟨h0, rfl | ⟨b, rfl⟩⟩ | ⟨b, off, cap, cur, rfl, hc0, hg, hnc, hcm, hcs, htake⟩
 · rw [hnil h0]
   exact .slN sz
 · rw [hnil h0]
   exact .sl0 b 0 sz hz0
 · have hob : (Value.slice (some ⟨b, off, none⟩) (n + m) cap).ob = some b := by simp only [Value.ob]; rw [if_neg (by omega)]
   have hcells := hrow'.cells (g := b) hob
   have hlen : (xs ++ news).length = (cs ++ new).length := hall.1
   refine .sl b off (n + m) cap sz (fun j => (xs ++ news).getD j undef) _ hz0 (by rw [List.length_append, hcl, hml, Nat.add_mul]) hnc (fun j hj => ⟨.inr ⟨hob, by show off + j < off + (n + m) * sz; rw [List.length_append, hcl, hml, ← Nat.add_mul] at hj; omega⟩, ?_⟩) (fun j c hc => ?_)
   · have hx : (xs ++ news)[j]? = some ((xs ++ news).getD j undef) := by simp [List.getD, List.getElem?_eq_getElem (show j < (xs ++ news).length by omega)]
     exact hcells j _ hx
   · have hj : j < (cs ++ new).length := (List.getElem?_eq_some_iff.1 hc).1
     have hx : (xs ++ news)[j]? = some ((xs ++ news).getD j undef) := by simp [List.getD, List.getElem?_eq_getElem (show j < (xs ++ news).length by omega)]
     exact hall.2 j _ c hx hc
omit [Inv] in
theorem Rc.one {g : Gh} {w : World} {v : Value} {c : Cell} (h : Rc g w v c) : v.oneCell' = true := by
 cases h with
 | data h => exact h.one
 | own L _ h => exact h.one
 | ptr => rfl
 | eptr => rfl
 | bsl => rfl
 | bptr => rfl
 | mapr => rfl
omit [Inv] in
theorem setBox_some {H H' : Heap} {b o : Nat} {new : List Cell} (h : setBox H b o new = some H') : ∃ cs, H[b]? = some cs ∧ o + new.length ≤ cs.length ∧ H' = H.set b (setCells cs o new) ∧ plainB cs = true := by
 unfold setBox at h
 split at h
 · rename_i cs hcs
   cases hc : plainB cs && Nat.ble (o + new.length) cs.length with
   | false => rw [hc] at h; cases h
   | true =>
    rw [hc] at h
    simp only [condA_true, Option.some.injEq] at h
    rw [Bool.and_eq_true] at hc
    exact ⟨cs, hcs, Nat.le_of_ble_eq_true hc.2, h.symm, hc.1⟩
 · cases h
omit [Inv] in
theorem nodup_at {l : List Nat} {i j x : Nat} (h : l.Nodup) (h1 : l[i]? = some x) (h2 : l[j]? = some x) : i = j := by
 obtain ⟨hi, e1⟩ := List.getElem?_eq_some_iff.1 h1
 obtain ⟨hj, e2⟩ := List.getElem?_eq_some_iff.1 h2
 have hp := List.pairwise_iff_getElem.1 h
 rcases Nat.lt_trichotomy i j with hlt | heq | hlt
 · exact absurd (e1.trans e2.symm) (hp i j hi hj hlt)
 · exact heq
 · exact absurd (e2.trans e1.symm) (hp j i hj hi hlt)
theorem store_sound {B : Base} {g : Gh} {st : St} {a : Act} {w : World} {t : TypeId} {b o : Nat} {x : AV} {new : List Cell} {H' : Heap} {p v : Value} (S : Sim P B g st a w) (hti : (sizeOf t).run P w = .ok new.length w)
 (hp : Rc g w p (.ptr b o)) (hx : Rv g w v x) (hc : x.cells? = some new) (hs : setBox st.H b o new = some H') :
 ∃ w', (Instr.storeAt t p v).run P w = .ok () w' ∧ Sim P B g ⟨st.fr, H', st.G⟩ a w' := by
 obtain ⟨blk, rfl, hb⟩ := hp.ptr_inv
 obtain ⟨cs, hcs, hle, rfl, hpl⟩ := setBox_some hs
 obtain ⟨blk', h1, h2⟩ := S.bx.box b cs hcs
 rw [hb] at h1; cases h1
 cases h2 with
 | row vs e fz cs0 _ _ _ _ => cases hpl
 | map es ck ks _ _ => cases hpl
 | bld t' p' v' c' _ _ _ => cases hpl
 | cells vs e _ h2 h3 =>
 have hA := cells_rel hx hc
 have hst := run_storeCells_at P blk o e v.cells.toList 0 vs w h2 (by have := hA.1; have := h3.1; simp; omega) (fun u hu => by
  obtain ⟨j, hj⟩ := List.getElem?_of_mem hu
  have hlt : j < v.cells.size := by have := (List.getElem?_eq_some_iff.1 hj).1; simpa using this
  obtain ⟨c, hcc⟩ : ∃ c, new[j]? = some c := ⟨_, List.getElem?_eq_getElem (by rw [← hA.1]; exact hlt)⟩
  exact (hA.2 j u c (by simpa using hj) hcc).one)
 simp only [Nat.add_zero] at hst
 refine ⟨w.setRow blk (vs.toList.take o ++ v.cells.toList ++ vs.toList.drop (o + v.cells.toList.length)).toArray, ?_, ?_⟩
 · simp only [Instr.storeAt, Instr.sureAddr, storeVar, Sem.run_bind, Sem.run_pure, Result.andThen_ok, hti]
   rw [if_neg (by rw [hA.1]; simp)]
   simpa using hst
 · generalize hw' : w.setRow blk (vs.toList.take o ++ v.cells.toList ++ vs.toList.drop (o + v.cells.toList.length)).toArray = w'
   have hmem : blk ∈ g.bx := List.mem_of_getElem? hb
   have hkp : Kp g.M w g.M w' := ⟨fun b' j hm => ⟨hm, by
    subst hw'
    exact World.cell?_of_block (w := w) (setRow_other w blk b' _ (fun e => S.bx.M blk hmem j (by rw [← e]; exact hm)))⟩, List.prefix_refl _⟩
   have hoth : ∀ k, k ≠ blk → w'.heap[k]? = w.heap[k]? := fun k hk => by subst hw'; exact setRow_other w blk k _ hk
   have hsz : w'.heap.size = w.heap.size := by subst hw'; exact setRow_size _ _ _
   have hc' : ∀ v c, Rc g w v c → Rc g w' v c := fun v c h => h.kept hkp (fun _ _ h => h) (fun _ _ h => h)
   have hvs' : RvA g w' ((vs.toList.take o ++ v.cells.toList ++ vs.toList.drop (o + v.cells.toList.length)).toArray) (setCells cs o new) := by
    have hl := hA.1
    have hl2 := h3.1
    refine ⟨by unfold setCells; simp; omega, fun i u c hu hcc => ?_⟩
    unfold setCells at hcc
    simp only [List.getElem?_toArray] at hu
    rw [List.append_assoc, List.getElem?_append, List.length_take] at hu hcc
    have e1 : min o vs.toList.length = o := by simp; omega
    have e2 : min o cs.length = o := by omega
    rw [e1] at hu
    rw [e2] at hcc
    split at hcc
    · rename_i hlt
      rw [if_pos hlt, List.getElem?_take, if_pos hlt] at hu
      rw [List.getElem?_take, if_pos hlt] at hcc
      exact hc' _ _ (h3.2 i u c (by simpa using hu) hcc)
    · rename_i hge
      rw [if_neg hge] at hu
      rw [List.getElem?_append] at hu hcc
      have e3 : v.cells.toList.length = new.length := by simpa using hl
      rw [e3] at hu
      split at hcc
      · rename_i hlt
        rw [if_pos hlt] at hu
        exact hc' _ _ (hA.2 _ u c (by simpa using hu) hcc)
      · rename_i hge2
        rw [if_neg hge2] at hu
        rw [List.getElem?_drop] at hu hcc
        exact hc' _ _ (h3.2 _ u c (by simpa using hu) hcc)
   refine ⟨fun s y hs => (S.frame s y hs).kept hkp (fun _ _ h => h) (fun _ _ h => h), S.size, S.defers, fun b' j hm => by rw [hsz]; exact S.live b' j hm, ?_, ?_, ?_, S.bxB, S.owB, S.pre, S.gk.keep ⟨rfl, rfl⟩ hkp (fun b' hb' => hoth b' (fun e => S.gk.obx b' hb' (by rw [e]; exact hmem))) (fun _ _ _ h => h) S.gk.obx S.gk.oow⟩
   · refine ⟨by simp [S.bx.len], S.bx.nodup, S.bx.M, S.bx.ow, fun i cs' hi => ?_⟩
     rw [List.getElem?_set] at hi
     split at hi
     · rename_i hib
       subst hib
       split at hi
       · cases hi
         refine ⟨blk, hb, .cells _ e _ ?_ hvs'⟩
         subst hw'
         exact setRow_heap w blk vs _ e _ h2
       · cases hi
     · rename_i hib
       obtain ⟨blk2, h4, h5⟩ := S.bx.box i cs' hi
       have hne : blk2 ≠ blk := fun e => by
        subst e
        exact hib (nodup_at S.bx.nodup h4 hb).symm
       exact ⟨blk2, h4, h5.same (hoth blk2 hne) hkp hc'⟩
   · refine ⟨fun L u hL => ?_, S.ow.ne⟩
     obtain ⟨n, xs, h4, h5⟩ := S.ow.row L u hL
     exact ⟨n, xs, ownsRow_block h4 fun b' hb' => hoth b' (fun e => S.bx.ow L u b' hL hb' (by rw [e]; exact hmem)), h5⟩
   · refine ⟨by subst hw'; exact S.fr.os, by subst hw'; exact S.fr.tape, by subst hw'; exact S.fr.output, by rw [hsz]; exact S.fr.size, fun k hk hD => ?_, S.fr.kp.trans hkp, S.fr.old⟩
     rw [hoth k (fun e => ?_)]
     · exact S.fr.block k hk hD
     · subst e
       rcases S.bxB k hmem with h | h
       · exact hD h
       · omega
omit [Inv] in
theorem zeros_get : ∀ (sl i0 : Nat) (ts : List TI) (i : Nat), (zeros sl i0 ts)[i]? = (ts[i]?).map (TI.zeroCell sl (i0 + i))
 | sl, i0, [], i => by simp [zeros]
 | sl, i0, t :: ts, 0 => by simp [zeros]
 | sl, i0, t :: ts, i + 1 => by
  simp only [zeros, List.getElem?_cons_succ]
  rw [zeros_get sl (i0 + 1) ts i, show i0 + 1 + i = i0 + (i + 1) by omega]
omit [Inv] in
theorem leaf_zeroN {g : Gh} {w : World} {t : TI} {v : Value} {sl ix : Nat} (h : leafOk t v = true) (ho : ∀ e, g.ow ⟨sl, ix, e⟩ = some (.slice none 0 0)) : Rc g w v (t.zeroCell sl ix) := by
 unfold leafOk at h
 split at h
 · rename_i b; cases b with
   | false => exact .data (.bool false)
   | true => cases h
 · simp only [Bool.and_eq_true, decide_eq_true_eq] at h
   obtain ⟨rfl, rfl⟩ := h
   exact .data (.int _ 0)
 · rename_i s
   have : s = ⟨#[]⟩ := by
    cases s with | mk d => simp at h; simp [h]
   subst this
   exact .data (.str [])
 · exact .own _ (ho _) (.slN _)
 · exact .data .nilp
 · exact .data .errN
 · exact .data .nilm
 · exact .data .nilf
 · cases h
omit [Inv] in
theorem leavesOk_get : ∀ (ts : List TI) (vs : List Value), leavesOk ts vs = true → ∀ (i : Nat) t v, ts[i]? = some t → vs[i]? = some v → leafOk t v = true
 | [], [], _, i, t, v, h, _ => by simp at h
 | t :: ts, v :: vs, h, i, t', v', ht, hv => by
  simp only [leavesOk, Bool.and_eq_true] at h
  cases i with
  | zero => simp at ht hv; subst ht; subst hv; exact h.1
  | succ i => exact leavesOk_get ts vs h.2 i t' v' (by simpa using ht) (by simpa using hv)
 | [], _ :: _, h, _, _, _, _, _ => by cases h
 | _ :: _, [], h, _, _, _, _, _ => by cases h
omit [Inv] in
theorem zeros_own {g : Gh} {w : World} {l : List TI} {zs : Array Value} {sl : Nat} (h : leavesOk l zs.toList = true) (ho : ∀ L : Nm, L.slot = sl → g.ow L = some (.slice none 0 0)) : RvA g w zs (zeros sl 0 l) := by
 refine ⟨?_, fun j u c hu hc => ?_⟩
 · have : ∀ sl i ts, (zeros sl i ts).length = ts.length := fun sl i ts => by induction ts generalizing i with | nil => rfl | cons t ts ih => simp [zeros, ih]
   rw [this]
   have := leavesOk_len _ _ h; simpa using this
 · rw [zeros_get] at hc
   cases hj : l[j]? with
   | none => rw [hj] at hc; cases hc
   | some lf =>
    rw [hj] at hc
    simp only [Option.map_some, Option.some.injEq] at hc
    subst hc
    exact leaf_zeroN (leavesOk_get _ _ h j lf u hj (by simpa using hu)) (fun e => ho _ rfl)
omit [Inv] in
theorem zerosU_rel {g : Gh} {w : World} {l : List TI} {zs : Array Value} (h : leavesOk l zs.toList = true) : RvA g w zs (zerosU l) := by
 obtain ⟨hzl, hz⟩ := zeros_data (M := g.M) (w := w) l zs.toList h
 exact ⟨by simpa using hzl.symm, fun i v c hv hc => .data (hz i v c (by simpa using hv) hc)⟩
theorem Sim.nils {B : Base} {g : Gh} {st : St} {a : Act} {w : World} {d : Nat} (S : Sim P B g st a w) : Sim P B (g.give d fun _ => some (.slice none 0 0)) (st.clear d) a w := by
 refine S.give (fun L v _ h => ?_) (fun L L' v v' _ _ _ h _ => ?_) (fun L v b _ h hb => ?_)
 · cases h; exact ⟨0, [], World.ownsAt_nil _ _ _ _, fun b j h => by cases h⟩
 · cases h; exact .inl rfl
 · cases h; cases hb
theorem Sim.lose {B : Base} {g : Gh} {st : St} {a : Act} {w : World} {d : Nat} (S : Sim P B g st a w) : Sim P B (g.give d fun _ => none) (st.clear d) a w :=
 S.give (fun L v _ h => by cases h) (fun L L' v v' _ _ _ h _ => by cases h) (fun L v b _ h hb => by cases h)
theorem newBox_gen {B : Base} {g1 : Gh} {st1 : St} {a : Act} {w w' : World} {cs : List Cell} (S1 : Sim P B g1 st1 a w) (n : Nat) (hn : w.heap.size ≤ n) (hbel : Below w.heap.size w w') (hsz1 : n < w'.heap.size) (hA : BoxIs ⟨g1.M, g1.bx ++ [n], g1.ow⟩ w' n cs) :
 (g1.bx ++ [n])[st1.H.length]? = some n ∧ Sim P B ⟨g1.M, g1.bx ++ [n], g1.ow⟩ ⟨st1.fr, st1.H ++ [cs], st1.G⟩ a w' := by
 have S2 := S1.grow (w' := w') (M' := g1.M) ⟨hbel, fun _ _ h => h, fun _ _ _ h => h, fun b j h => by have := S1.live b j h; omega, rfl, rfl⟩
 have hbxlt : ∀ blk ∈ g1.bx, blk < w.heap.size := fun blk hb => by
  obtain ⟨i, hi⟩ := List.getElem?_of_mem hb
  have hlt : i < st1.H.length := by rw [← S1.bx.len]; exact (List.getElem?_eq_some_iff.1 hi).1
  obtain ⟨blk', h1, h2⟩ := S1.bx.box i _ (List.getElem?_eq_getElem hlt)
  rw [hi] at h1; cases h1
  exact h2.lt
 have holt : ∀ L v b, g1.ow L = some v → v.ob = some b → b < w.heap.size := fun L v b hL hb => by
  obtain ⟨n, xs, h1, _⟩ := S1.ow.row L v hL
  exact (h1.lt b hb).2
 have hcc : ∀ v c, Rc ⟨g1.M, g1.bx, g1.ow⟩ w' v c → Rc ⟨g1.M, g1.bx ++ [n], g1.ow⟩ w' v c := fun v c h =>
  h.kept (Kp.refl _ _) (fun b blk hb => by
   show (g1.bx ++ [n])[b]? = some blk
   rw [List.getElem?_append_left (List.getElem?_eq_some_iff.1 hb).1]; exact hb) (fun _ _ h => h)
 refine ⟨?_, ?_⟩
 · show (g1.bx ++ [n])[st1.H.length]? = _
   rw [← S1.bx.len]; simp
 · refine ⟨fun s v hs => (S2.frame s v hs).map (f := id) (fun v c h => hcc v c h) |> fun h => ?_, S2.size, S2.defers, S2.live, ?_, ⟨S2.ow.row, S2.ow.ne⟩, ⟨S2.fr.os, S2.fr.tape, S2.fr.output, S2.fr.size, S2.fr.block, S2.fr.kp, S2.fr.old⟩, fun blk hb => ?_, S2.owB, S2.pre.trans (List.prefix_append _ _), S1.gk.keep ⟨rfl, rfl⟩ (Grow.kp (g := g1) (M' := g1.M) ⟨hbel, fun _ _ h => h, fun _ _ _ h => h, fun b j h => by have := S1.live b j h; omega, rfl, rfl⟩ S1.live) (fun b hb => hbel.block b (S1.gk.olt hb)) (fun _ _ _ h => h) (fun b hb hm => ?_) S1.gk.oow⟩
   · have e : v.map id = v := map_id_of (fun _ => rfl)
     rwa [e] at h
   · refine ⟨by simp [S1.bx.len], ?_, fun blk hb j hm => ?_, fun L v b hL hb hmem => ?_, fun i cs' hi => ?_⟩
     · rw [List.nodup_append]
       refine ⟨S1.bx.nodup, by simp, fun x hx y hy => ?_⟩
       simp at hy; subst hy
       have := hbxlt x hx; omega
     · rw [List.mem_append] at hb
       rcases hb with hb | hb
       · exact S1.bx.M blk hb j hm
       · simp at hb; subst hb; have := S1.live _ j hm; omega
     · rw [List.mem_append] at hmem
       rcases hmem with hm | hm
       · exact S1.bx.ow L v b hL hb hm
       · simp at hm; subst hm; have := holt L v _ hL hb; omega
     · rw [List.getElem?_append] at hi
       split at hi
       · rename_i hlt
         obtain ⟨blk, h7, h8⟩ := S2.bx.box i cs' hi
         refine ⟨blk, ?_, h8.same rfl (Kp.refl _ _) hcc⟩
         show (g1.bx ++ [n])[i]? = _
         rw [List.getElem?_append_left (by rw [S1.bx.len]; exact hlt)]; exact h7
       · rename_i hge
         have hi0 : i = st1.H.length := by
          have := (List.getElem?_eq_some_iff.1 hi).1
          simp at this; omega
         subst hi0
         simp at hi
         subst hi
         refine ⟨n, ?_, hA⟩
         show (g1.bx ++ [n])[st1.H.length]? = _
         rw [← S1.bx.len]; simp
   · rw [List.mem_append] at hb
     rcases hb with hb | hb
     · exact S1.bxB blk hb
     · simp at hb; subst hb; exact .inr (Nat.le_trans S1.fr.size hn)
   · rw [List.mem_append] at hm
     rcases hm with hm | hm
     · exact S1.gk.obx b hb hm
     · simp at hm; subst hm; have := S1.gk.olt hb; omega
theorem newBox_sound {B : Base} {g1 : Gh} {st1 : St} {a : Act} {w : World} {t : TypeId} {vs : Array Value} {cs : List Cell} (S1 : Sim P B g1 st1 a w) (hA : RvA g1 w vs cs) :
 Rc ⟨g1.M, g1.bx ++ [w.heap.size], g1.ow⟩ (w.alloc (.cells vs t)) (.pointer (some ⟨w.heap.size, 0, none⟩)) (.ptr st1.H.length 0) ∧ Sim P B ⟨g1.M, g1.bx ++ [w.heap.size], g1.ow⟩ ⟨st1.fr, st1.H ++ [cs], st1.G⟩ a (w.alloc (.cells vs t)) := by
 have hkw : Kp g1.M w g1.M (w.alloc (.cells vs t)) := Grow.kp (g := g1) (M' := g1.M) ⟨(Below.refl _ w).alloc (Nat.le_refl _) (.cells vs t), fun _ _ h => h, fun _ _ _ h => h, fun b j h => by have := S1.live b j h; simp; omega, rfl, rfl⟩ S1.live
 obtain ⟨h1, h2⟩ := newBox_gen (cs := cs) S1 w.heap.size (Nat.le_refl _) ((Below.refl _ _).alloc (Nat.le_refl _) (.cells vs t)) (by simp) (.cells vs t cs (heap_alloc_new w _) ⟨hA.1, fun j u c hu hc => (hA.2 j u c hu hc).kept hkw (fun b blk hb => by
  show (g1.bx ++ [w.heap.size])[b]? = some blk
  rw [List.getElem?_append_left (List.getElem?_eq_some_iff.1 hb).1]; exact hb) (fun _ _ h => h)⟩)
 exact ⟨.ptr _ 0 w.heap.size h1, h2⟩
theorem alloc_sound {B : Base} {g : Gh} {st : St} {a : Act} {w : World} {t : TypeId} {ti : TI} (S : Sim P B g st a w) (hT : TyIs P t ti) (q : Bool) :
 ∃ v w' g', (Instr.alloc t true (.tuple #[])).run P w = .ok v w' ∧ Rc g' w' v (.ptr st.H.length 0) ∧ Sim P B g' ⟨(st.clear (boxSlot st.H.length)).fr, (st.clear (boxSlot st.H.length)).H ++ [condA q (selfZ t (zeros (boxSlot st.H.length) 0 ti.leaves)) <| zeros (boxSlot st.H.length) 0 ti.leaves], st.G⟩ a w' := by
 obtain ⟨i, d, z, h1, h2, h3, h4, h5, h6⟩ := hT.ex
 have hlen : (st.clear (boxSlot st.H.length)).H.length = st.H.length := strikeH_len _ _
 have hz := zeros_own (g := g.give (boxSlot st.H.length) fun _ => some (.slice none 0 0)) (w := w) (sl := boxSlot st.H.length) h6 fun L hL => give_here hL
 have hrun : (Instr.alloc t true (.tuple #[])).run P w = .ok (.pointer (some ⟨w.heap.size, 0, none⟩)) (w.alloc (.cells z.cells t)) := by simp [Instr.alloc, zeroValue, typeInfo, h1, h5, newVar, newRow]
 have S1 := S.nils (d := boxSlot st.H.length)
 have plain : ∃ v w' g', (Instr.alloc t true (.tuple #[])).run P w = .ok v w' ∧ Rc g' w' v (.ptr st.H.length 0) ∧ Sim P B g' ⟨(st.clear (boxSlot st.H.length)).fr, (st.clear (boxSlot st.H.length)).H ++ [zeros (boxSlot st.H.length) 0 ti.leaves], st.G⟩ a w' := by
  obtain ⟨h7, h8⟩ := newBox_sound (t := t) S1 hz
  rw [hlen] at h7
  exact ⟨_, _, _, hrun, h7, h8⟩
 cases q with
 | false => exact plain
 | true =>
  simp only [condA_true]
  generalize hzs : zeros (boxSlot st.H.length) 0 ti.leaves = zs at plain hz
  unfold selfZ
  split
  · rename_i x c
    split
    · obtain ⟨hs, hc⟩ := hz
      have hs : z.cells.size = 2 := hs
      obtain ⟨p, v, hpv⟩ : ∃ p v, z.cells = #[p, v] := by
       refine ⟨z.cells[0], z.cells[1], ?_⟩
       apply Array.ext
       · simp [hs]
       · intro i hi1 hi2
         match i with
         | 0 => rfl
         | 1 => rfl
         | n + 2 => simp at hi2; omega
      rw [hpv] at hc
      have hp := Rc.nilp_inv (hc 0 p _ rfl rfl)
      have hv := hc 1 v c rfl rfl
      have hgr : Grow (g.give (boxSlot st.H.length) fun _ => some (.slice none 0 0)) w g.M (w.alloc (.cells z.cells t)) := ⟨(Below.refl _ w).alloc (Nat.le_refl _) (.cells z.cells t), fun _ _ h => h, fun _ _ _ h => h, fun b j h => by have := S.live b j h; simp; omega, rfl, rfl⟩
      obtain ⟨h7, h8⟩ := newBox_gen (cs := [.selfp t, c]) S1 w.heap.size (Nat.le_refl _) ((Below.refl _ w).alloc (Nat.le_refl _) (.cells z.cells t)) (by simp) (.bld t p v c (by rw [← hpv]; exact heap_alloc_new w _) (.inl hp) (hv.kept (hgr.kp S.live) (fun b blk hb => by
       show ((g.give (boxSlot st.H.length) fun _ => some (.slice none 0 0)).bx ++ [w.heap.size])[b]? = some blk
       rw [List.getElem?_append_left (List.getElem?_eq_some_iff.1 hb).1]; exact hb) (fun _ _ h => h)))
      rw [hlen] at h7
      exact ⟨_, _, _, hrun, .ptr _ 0 _ h7, h8⟩
    · exact plain
  · exact plain
theorem adopt_sound {B : Base} {g : Gh} {st : St} {a : Act} {w w' : World} {t : TypeId} {ti : TI} {z : Array Value} {blk : Nat} (S : Sim P B g st a w) (h6 : leavesOk ti.leaves z.toList = true) (hge : w.heap.size ≤ blk) (hbel : Below w.heap.size w w') (hblk : w'.heap[blk]? = some (.cells z t)) (q : Bool) :
 ∃ g', Rc g' w' (.pointer (some ⟨blk, 0, none⟩)) (.ptr st.H.length 0) ∧ Sim P B g' ⟨(st.clear (boxSlot st.H.length)).fr, (st.clear (boxSlot st.H.length)).H ++ [condA q (selfZ t (zeros (boxSlot st.H.length) 0 ti.leaves)) <| zeros (boxSlot st.H.length) 0 ti.leaves], st.G⟩ a w' := by
 have hlt : blk < w'.heap.size := (Array.getElem?_eq_some_iff.1 hblk).1
 have hlen : (st.clear (boxSlot st.H.length)).H.length = st.H.length := strikeH_len _ _
 have hz := zeros_own (g := g.give (boxSlot st.H.length) fun _ => some (.slice none 0 0)) (w := w) (sl := boxSlot st.H.length) h6 fun L hL => give_here hL
 have S1 := S.nils (d := boxSlot st.H.length)
 have hgr : Grow (g.give (boxSlot st.H.length) fun _ => some (.slice none 0 0)) w g.M w' := ⟨hbel, fun _ _ h => h, fun _ _ _ h => h, fun b j h => Nat.lt_of_lt_of_le (S.live b j h) hbel.size, rfl, rfl⟩
 have hkc : ∀ v c, Rc (g.give (boxSlot st.H.length) fun _ => some (.slice none 0 0)) w v c → Rc ⟨g.M, (g.give (boxSlot st.H.length) fun _ => some (.slice none 0 0)).bx ++ [blk], (g.give (boxSlot st.H.length) fun _ => some (.slice none 0 0)).ow⟩ w' v c := fun v c h =>
  h.kept (hgr.kp S.live) (fun b k hb => by
   show ((g.give (boxSlot st.H.length) fun _ => some (.slice none 0 0)).bx ++ [blk])[b]? = some k
   rw [List.getElem?_append_left (List.getElem?_eq_some_iff.1 hb).1]; exact hb) (fun _ _ h => h)
 have plain : ∃ g', Rc g' w' (.pointer (some ⟨blk, 0, none⟩)) (.ptr st.H.length 0) ∧ Sim P B g' ⟨(st.clear (boxSlot st.H.length)).fr, (st.clear (boxSlot st.H.length)).H ++ [zeros (boxSlot st.H.length) 0 ti.leaves], st.G⟩ a w' := by
  obtain ⟨h7, h8⟩ := newBox_gen (cs := zeros (boxSlot st.H.length) 0 ti.leaves) S1 blk hge hbel hlt (.cells z t _ hblk ⟨hz.1, fun j u c hu hc => hkc _ _ (hz.2 j u c hu hc)⟩)
  rw [hlen] at h7
  exact ⟨_, .ptr _ 0 _ h7, h8⟩
 cases q with
 | false => exact plain
 | true =>
  simp only [condA_true]
  generalize hzs : zeros (boxSlot st.H.length) 0 ti.leaves = zs at plain hz
  unfold selfZ
  split
  · rename_i x c
    split
    · obtain ⟨hs, hc⟩ := hz
      have hs : z.size = 2 := hs
      obtain ⟨p, v, rfl⟩ : ∃ p v, z = #[p, v] := by
       refine ⟨z[0], z[1], ?_⟩
       apply Array.ext
       · simp [hs]
       · intro i hi1 hi2
         match i with
         | 0 => rfl
         | 1 => rfl
         | n + 2 => simp at hi2; omega
      have hp := Rc.nilp_inv (hc 0 p _ rfl rfl)
      have hv := hc 1 v c rfl rfl
      obtain ⟨h7, h8⟩ := newBox_gen (cs := [.selfp t, c]) S1 blk hge hbel hlt (.bld t p v c hblk (.inl hp) (hkc _ _ hv))
      rw [hlen] at h7
      exact ⟨_, .ptr _ 0 _ h7, h8⟩
    · exact plain
  · exact plain
theorem plainQ_rc {g g' : Gh} {w w' : World} {v : Value} {c : Cell} (h : Rc g w v c) (hp : plainQ c = true) (hb : ∀ b blk : Nat, g.bx[b]? = some blk → g'.bx[b]? = some blk) : Rc g' w' v c := by
 cases h with
 | data hd =>
  cases hd <;> first
   | exact .data (.int _ _)
   | exact .data (.bool _)
   | exact .data (.str _)
   | simp [plainQ] at hp
 | ptr b o blk hbk => exact .ptr b o blk (hb _ _ hbk)
 | _ => simp [plainQ] at hp
theorem plainA_rc {g g' : Gh} {w w' : World} {vs : Array Value} {cs : List Cell} (h : RvA g w vs cs) (hp : cs.all plainQ = true) (hb : ∀ b blk : Nat, g.bx[b]? = some blk → g'.bx[b]? = some blk) : RvA g' w' vs cs :=
 ⟨h.1, fun i v c hv hc => plainQ_rc (h.2 i v c hv hc) (List.all_eq_true.1 hp c (List.mem_of_getElem? hc)) hb⟩
theorem plain1_rc {g g' : Gh} {w w' : World} {v : Value} {x : V1} (h : Rv1 g w v x) (hp : x.plainP = true) (hb : ∀ b blk : Nat, g.bx[b]? = some blk → g'.bx[b]? = some blk) : Rv1 g' w' v x := by
 cases x with
 | one c => exact plainQ_rc h hp hb
 | agg cs => obtain ⟨vs, rfl, h1⟩ := h; exact ⟨vs, rfl, plainA_rc h1 hp hb⟩
theorem plain_rc {g g' : Gh} {w w' : World} {v : Value} {x : AV} (h : Rv g w v x) (hp : x.plainP = true) (hb : ∀ b blk : Nat, g.bx[b]? = some blk → g'.bx[b]? = some blk) : Rv g' w' v x := by
 cases x with
 | one c => exact plainQ_rc h hp hb
 | agg cs => obtain ⟨vs, rfl, h1⟩ := h; exact ⟨vs, rfl, plainA_rc h1 hp hb⟩
 | tup xs => obtain ⟨vs, rfl, h1, h2⟩ := h; exact ⟨vs, rfl, h1, fun i u y hu hy => plain1_rc (h2 i u y hu hy) (List.all_eq_true.1 hp y (List.mem_of_getElem? hy)) hb⟩
 | undef => exact h
theorem lk_app {a b : List (Nat × AV)} {s : Nat} {v : AV} (h : lk (a ++ b) s = some v) : lk a s = some v ∨ lk b s = some v := by
 induction a with
 | nil => exact .inr h
 | cons x r ih =>
  obtain ⟨t, u⟩ := x
  simp only [List.cons_append, lk] at h ⊢
  cases hb : Nat.beq t s with
  | true => rw [hb] at h; exact .inl h
  | false => rw [hb] at h; simp only [condA_false] at h ⊢; exact ih h
theorem lk_keep {fr : List (Nat × AV)} {s : Nat} {v : AV} : ∀ {ds : List Nat}, lk (keepFr fr ds) s = some v → s ∈ ds ∧ lk fr s = some v ∧ v.plainP = true
 | [], h => by cases h
 | d :: r, h => by
  have tail : lk (keepFr fr r) s = some v → s ∈ d :: r ∧ lk fr s = some v ∧ v.plainP = true := fun h => by
   obtain ⟨h1, h2⟩ := lk_keep h
   exact ⟨List.mem_cons_of_mem _ h1, h2⟩
  simp only [keepFr] at h
  split at h
  · rename_i u hu
    cases hp : u.plainP with
    | false => rw [hp] at h; exact tail h
    | true =>
     rw [hp, condA_true] at h
     simp only [lk] at h
     cases hb : Nat.beq d s with
     | true =>
      rw [hb] at h
      have := Nat.eq_of_beq_eq_true hb
      subst this
      cases h
      exact ⟨List.mem_cons_self, hu, hp⟩
     | false => rw [hb] at h; exact tail h
  · exact tail h
theorem lk_rmAll {fr : List (Nat × AV)} {s : Nat} {v : AV} : ∀ {ds : List Nat}, lk (rmAll fr ds) s = some v → s ∉ ds ∧ lk fr s = some v
 | [], h => ⟨by simp, h⟩
 | d :: r, h => by
  simp only [rmAll] at h
  rw [lk_rm] at h
  split at h
  · cases h
  · rename_i hne
    obtain ⟨h1, h2⟩ := lk_rmAll h
    exact ⟨fun hm => by rcases List.mem_cons.1 hm with rfl | hm; exact hne rfl; exact h1 hm, h2⟩
theorem box_sound {B : Base} {g : Gh} {st : St} {a : Act} {w : World} {t : TypeId} {x : Operand} {v : AV} {cs : List Cell} (S : Sim P B g st a w) (hx : ev (st.clear (boxSlot st.H.length)) x = some v) (hc : v.cells? = some cs) :
 ∃ u w' g', (Instr.box t (a.eval x)).run P w = .ok u w' ∧ Rc g' w' u (.ptr st.H.length 0) ∧ Sim P B g' ⟨(st.clear (boxSlot st.H.length)).fr, (st.clear (boxSlot st.H.length)).H ++ [cs], st.G⟩ a w' := by
 have hlen : (st.clear (boxSlot st.H.length)).H.length = st.H.length := strikeH_len _ _
 have S1 := S.lose (d := boxSlot st.H.length)
 obtain ⟨h7, h8⟩ := newBox_sound (t := t) S1 (cells_rel (S1.ev hx) hc)
 rw [hlen] at h7
 exact ⟨_, _, _, by simp [Instr.box, newVar, newRow], h7, h8⟩
end AX
end Go.Proofs.YtnkppakkeobegaaGreatDoor
namespace Go.Proofs.YtnkppakkeobegaaGreatDoor
namespace AX
variable [Inv]
open Go.RowKit
variable {P : Program} {R : Type}
omit [Inv] in
theorem rowK_some {H : Heap} {b : Nat} {k : List Cell → Option R} {r : R} (h : rowK H b k = some r) : ∃ xs, H[b]? = some [.row xs] ∧ k xs = some r := by
 unfold rowK at h
 split at h
 · rename_i cs hcs
   split at h
   · rename_i c r'
     split at h
     · rename_i xs
       exact ⟨xs, hcs, h⟩
     · cases h
   · cases h
 · cases h
omit [Inv] in
theorem Rc.bptr_inv {g : Gh} {w : World} {v : Value} {b o : Nat} (h : Rc g w v (.bptr b o)) : ∃ blk, v = .pointer (some ⟨blk, o, none⟩) ∧ g.bx[b]? = some blk := by
 cases h with
 | data h => cases h
 | bptr _ _ blk h => exact ⟨blk, rfl, h⟩
omit [Inv] in
theorem Rc.bsl_inv {g : Gh} {w : World} {v : Value} {b sz n : Nat} (h : Rc g w v (.bsl b sz n)) : ∃ blk cap, v = .slice (some ⟨blk, 0, none⟩) n cap ∧ g.bx[b]? = some blk ∧ 0 < sz ∧ n ≤ cap := by
 cases h with
 | data h => cases h
 | bsl _ _ _ blk cap h1 h2 h3 => exact ⟨blk, cap, rfl, h1, h2, h3⟩
omit [Inv] in
theorem BoxIs.row_inv {g : Gh} {w : World} {blk : Nat} {xs : List Cell} (h : BoxIs g w blk [.row xs]) : ∃ vs e fz, w.heap[blk]? = some (.cells vs e fz) ∧ (fz = (0, 0) ∨ vs.size ≤ fz.1) ∧ xs.length ≤ vs.size ∧
 ∀ (i : Nat) v c, vs[i]? = some v → xs[i]? = some c → Rd g.M w v c := by
 cases h with
 | row vs e fz _ h1 h2 h3 h4 => exact ⟨vs, e, fz, h1, h2, h3, h4⟩
 | cells vs e _ h1 h2 =>
  obtain ⟨h3, h4⟩ := h2
  have h3 : vs.size = 1 := h3
  obtain ⟨u, hu⟩ : ∃ u, vs[0]? = some u := ⟨_, Array.getElem?_eq_getElem (by omega)⟩
  have := h4 0 u (.row xs) hu rfl
  cases this with
  | data h => cases h
omit [Inv] in
theorem packK_sound {g : Gh} {w : World} {ti : TI} {k : AV → Option R} {r : R} (vs : List Value) (l : List Cell) (hR : RcL g w vs l) (hk : packK ti l k = some r) :
 ∃ av, k av = some r ∧ Rv g w (if ti.isAgg then .agg vs.toArray else vs.headD undef) av := by
 unfold packK at hk
 cases hA : ti.isAgg with
 | true => rw [hA] at hk; exact ⟨_, hk, vs.toArray, rfl, hR.toA⟩
 | false =>
  rw [hA] at hk
  simp only [condA_false] at hk
  split at hk
  · rename_i c
    have := hR.1
    cases vs with
    | nil => cases this
    | cons v vs => exact ⟨_, hk, hR.2 0 v c rfl rfl⟩
  · cases hk
omit [Inv] in
theorem castDs_take : ∀ (ts : List TI) (cs : List Cell) {k : List Cell → Option R}, castDs ts cs k = castDs ts (cs.take ts.length) k
 | [], cs, k => rfl
 | t :: ts, [], k => rfl
 | t :: ts, c :: cs, k => by
  simp only [castDs, List.length_cons, List.take_succ_cons]
  congr 1
  funext c'
  exact castDs_take ts cs
theorem loadR_sound {B : Base} {g : Gh} {st : St} {a : Act} {w : World} {t : TypeId} {ti : TI} (S : Sim P B g st a w) (hti : tiOk P t ti = true) {b o : Nat} {xs : List Cell} {v : Value} (hv : Rc g w v (.bptr b o)) (hb : st.H[b]? = some [.row xs]) {k : AV → Option R} {r : R} (h : loadR ti xs o k = some r) :
 ∃ av u, k av = some r ∧ (Instr.loadAt t v).run P w = .ok u w ∧ Rv g w u av := by
 obtain ⟨blk, rfl, h1⟩ := hv.bptr_inv
 obtain ⟨blk', h2, h3⟩ := S.bx.box b _ hb
 rw [h1] at h2; cases h2
 obtain ⟨vs, e, fz, h4, _, h5, h6⟩ := h3.row_inv
 have fin : ∀ n cs, n = ti.leaves.length → o + n ≤ xs.length → cs = (xs.drop o).take n → castDs ti.leaves cs (fun l => packK ti l k) = some r → ∃ av u, k av = some r ∧ (Instr.loadAt t (.pointer (some ⟨blk, o, none⟩))).run P w = .ok u w ∧ Rv g w u av := fun n cs hn hle hcs hk => by
  have hR : RdL g.M w ((vs.toList.drop o).take n) cs := by
   subst hcs
   refine ⟨by simp; omega, fun i v c hv hc => ?_⟩
   rw [List.getElem?_take] at hv hc
   split at hv
   · rename_i hi
     rw [if_pos hi] at hc
     rw [List.getElem?_drop] at hv hc
     exact h6 (o + i) v c (by simpa using hv) hc
   · cases hv
  have hnt : ∀ ts, ti ≠ .tup ts := fun ts e => by subst e; exact tup_no' hk
  have hT := tyIs_of hti hnt
  obtain ⟨hle2, l, h7, h8⟩ := castDs_sound _ _ _ hk hR
  have htk : (((vs.toList.drop o).take n).take ti.leaves.length) = (vs.toList.drop o).take n := by rw [← hn, List.take_take, Nat.min_self]
  rw [htk] at h8
  obtain ⟨av, h9, h10⟩ := packK_sound _ l h8.toC h7
  refine ⟨av, _, h9, ?_, h10⟩
  simp only [Instr.loadAt, Instr.sureAddr, Sem.run_bind, Sem.run_pure, Result.andThen_ok]
  refine run_loadVar hT (by simp; omega) fun j u hu => ?_
  rw [Addr.add_lit, cell_of_row w blk (o + j) vs e fz h4]
  rw [List.getElem?_take] at hu
  split at hu
  · rw [List.getElem?_drop] at hu; simpa using hu
  · cases hu
 unfold loadR at h
 cases hl : Nat.beq ti.leaves.length 1 with
 | true =>
  rw [hl] at h
  simp only [condA_true] at h
  have hl := Nat.eq_of_beq_eq_true hl
  unfold rowAt at h
  split at h
  · rename_i c hc
    have hlt := (List.getElem?_eq_some_iff.1 hc).1
    refine fin 1 [c] hl.symm hlt ?_ h
    rw [List.drop_eq_getElem_cons hlt, (List.getElem?_eq_some_iff.1 hc).2]
    rfl
  · cases h
 | false =>
  rw [hl] at h
  simp only [condA_false] at h
  cases hle : Nat.ble (o + ti.leaves.length) xs.length with
  | false => rw [hle] at h; cases h
  | true =>
   rw [hle] at h
   simp only [condA_true] at h
   have hle := Nat.le_of_ble_eq_true hle
   have hnt : ∀ ts, ti ≠ .tup ts := fun ts e => by subst e; exact tup_no' h
   rw [castDs_take] at h
   exact fin _ _ rfl hle rfl h
omit [Inv] in
theorem run_store_row (q o : Nat) (t : TypeId) (fz : Nat × Nat) : ∀ (vs : List Value) (i : Nat) (cur : Array Value) (w : World), w.heap[q]? = some (.cells cur t fz) → (fz = (0, 0) ∨ cur.size ≤ fz.1) → o + i + vs.length ≤ cur.size → (∀ v ∈ vs, v.oneCell' = true) →
 ∃ cur' : Array Value, (storeCells ⟨q, o, none⟩ vs i).run P w = .ok () (w.setRow q cur') ∧ cur'.size = cur.size ∧ ∀ j, cur'[j]? = if o + i ≤ j ∧ j < o + i + vs.length then vs[j - (o + i)]? else cur[j]?
 | [], i, cur, w, hg, _, _, _ => by
  refine ⟨cur, ?_, rfl, fun j => ?_⟩
  · rw [setRow_self w q cur t fz hg]; simp only [storeCells, Sem.run_pure]
  · rw [if_neg (by intro h; have := h.1; have := h.2; simp at this; omega)]
 | v :: rest, i, cur, w, hg, hfz, hl, h1 => by
  rw [List.length_cons] at hl
  have hi : o + i < cur.size := by omega
  have hadd : (⟨q, o, none⟩ : Addr).add i = ⟨q, o + i, none⟩ := by rw [Addr.add_lit]
  have hcell : w.cell? ⟨q, o + i, none⟩ = some cur[o + i] := by simp [World.cell?, hg, hi]
  have hfro : w.frozen? ⟨q, o + i, none⟩ = false := by
   obtain ⟨lo, hi'⟩ := fz
   simp only [World.frozen?, hg, Bool.and_eq_false_iff, decide_eq_false_iff_not]
   rcases hfz with h | h
   · cases h; right; omega
   · left; have h : cur.size ≤ lo := h; omega
  have hst : (store ((⟨q, o, none⟩ : Addr).add i) v).run P w = .ok () (w.setRow q (cur.setIfInBounds (o + i) v)) := by
   rw [hadd, run_store P w _ v _ (h1 v (by simp)), hcell]
   simp [hfro, setCell_eq_setRow w q (o + i) cur t fz v hg]
  obtain ⟨cur', h2, h3, h4⟩ := run_store_row q o t fz rest (i + 1) (cur.setIfInBounds (o + i) v) (w.setRow q (cur.setIfInBounds (o + i) v)) (setRow_heap w q cur _ t _ hg) (by simpa using hfz) (by simp; omega) (fun x hx => h1 x (by simp [hx]))
  refine ⟨cur', ?_, by rw [h3]; simp, fun j => ?_⟩
  · simp only [storeCells, Sem.run_bind, hst, Result.andThen_ok, h2, setRow_setRow]
  · rw [h4 j]
    by_cases hj : o + (i + 1) ≤ j ∧ j < o + (i + 1) + rest.length
    · rw [if_pos hj, if_pos (by simp; omega), show j - (o + i) = (j - (o + (i + 1))) + 1 by omega, List.getElem?_cons_succ]
    · rw [if_neg hj]
      by_cases hj2 : j = o + i
      · subst hj2
        rw [if_pos (by simp)]
        simp [hi]
      · rw [if_neg (by simp; omega), Array.getElem?_setIfInBounds_ne (by omega)]
omit [Inv] in
theorem putR_some {cs new : List Cell} {o : Nat} {k : List Cell → Option R} {r : R} (h : putR cs o new k = some r) : ∃ cs', k cs' = some r ∧ o + new.length ≤ cs.length ∧ cs'.length = cs.length ∧ ∀ j, cs'[j]? = if o ≤ j ∧ j < o + new.length then new[j - o]? else cs[j]? := by
 unfold putR at h
 split at h
 · rename_i c
   cases hb : Nat.blt o cs.length with
   | false => rw [hb] at h; cases h
   | true =>
    rw [hb] at h
    simp only [condA_true] at h
    have hb : o < cs.length := Nat.le_of_ble_eq_true hb
    refine ⟨_, h, by simp; omega, by simp, fun j => ?_⟩
    rw [List.getElem?_set]
    by_cases hj : o = j
    · subst hj; simp [hb]
    · rw [if_neg hj, if_neg (by simp; omega)]
 · cases hb : Nat.ble (o + new.length) cs.length with
   | false => rw [hb] at h; cases h
   | true =>
    rw [hb] at h
    simp only [condA_true] at h
    have hb := Nat.le_of_ble_eq_true hb
    refine ⟨_, h, hb, by unfold setCells; simp; omega, fun j => ?_⟩
    unfold setCells
    rw [List.append_assoc, List.getElem?_append, List.length_take, Nat.min_eq_left (by omega)]
    by_cases h1 : j < o
    · rw [if_pos h1, List.getElem?_take, if_pos h1, if_neg (by omega)]
    · rw [if_neg h1, List.getElem?_append]
      by_cases h2 : j - o < new.length
      · rw [if_pos h2, if_pos (by omega)]
      · rw [if_neg h2, if_neg (by omega), List.getElem?_drop]
        congr 1; omega
theorem Sim.turnBox {B : Base} {g : Gh} {st : St} {a : Act} {w w' : World} {b blk : Nat} {cs : List Cell} (S : Sim P B g st a w) (hb : g.bx[b]? = some blk) (hos : w'.os = w.os) (htp : w'.tape = w.tape) (hout : w'.output = w.output) (hsz : w.heap.size ≤ w'.heap.size)
 (hoth : ∀ k, k < w.heap.size → k ≠ blk → w'.heap[k]? = w.heap[k]?) (hbox : (∀ v c, Rc g w v c → Rc g w' v c) → BoxIs g w' blk cs) : Sim P B g ⟨st.fr, st.H.set b cs, st.G⟩ a w' := by
 have hmem : blk ∈ g.bx := List.mem_of_getElem? hb
 have hkp : Kp g.M w g.M w' := ⟨fun b' j hm => ⟨hm, World.cell?_of_block (w := w) (hoth b' (S.live b' j hm) (fun e => S.bx.M blk hmem j (by rw [← e]; exact hm)))⟩, List.prefix_refl _⟩
 have hc' : ∀ v c, Rc g w v c → Rc g w' v c := fun v c h => h.kept hkp (fun _ _ h => h) (fun _ _ h => h)
 refine ⟨fun s y hs => (S.frame s y hs).kept hkp (fun _ _ h => h) (fun _ _ h => h), S.size, S.defers, fun b' j hm => Nat.lt_of_lt_of_le (S.live b' j hm) hsz, ?_, ?_, ?_, S.bxB, S.owB, S.pre, S.gk.keep ⟨rfl, rfl⟩ hkp (fun b' hb' => hoth b' (S.gk.olt hb') (fun e => S.gk.obx b' hb' (by rw [e]; exact hmem))) (fun _ _ _ h => h) S.gk.obx S.gk.oow⟩
 · refine ⟨by simp [S.bx.len], S.bx.nodup, S.bx.M, S.bx.ow, fun i cs' hi => ?_⟩
   rw [List.getElem?_set] at hi
   split at hi
   · rename_i hib
     subst hib
     split at hi
     · cases hi
       exact ⟨blk, hb, hbox hc'⟩
     · cases hi
   · rename_i hib
     obtain ⟨blk2, h4, h5⟩ := S.bx.box i cs' hi
     have hne : blk2 ≠ blk := fun e => by
      subst e
      exact hib (nodup_at S.bx.nodup h4 hb).symm
     exact ⟨blk2, h4, h5.same (hoth blk2 h5.lt hne) hkp hc'⟩
 · refine ⟨fun L u hL => ?_, S.ow.ne⟩
   obtain ⟨n, xs, h4, h5⟩ := S.ow.row L u hL
   exact ⟨n, xs, ownsRow_block h4 fun b' hb' => hoth b' (h4.lt b' hb').2 (fun e => S.bx.ow L u b' hL hb' (by rw [e]; exact hmem)), h5⟩
 · refine ⟨hos.trans S.fr.os, htp.trans S.fr.tape, hout.trans S.fr.output, Nat.le_trans S.fr.size hsz, fun k hk hD => ?_, S.fr.kp.trans hkp, S.fr.old⟩
   rw [hoth k (Nat.lt_of_lt_of_le hk S.fr.size) (fun e => ?_)]
   · exact S.fr.block k hk hD
   · subst e
     rcases S.bxB k hmem with h | h
     · exact hD h
     · omega
theorem storeR_sound {B : Base} {g : Gh} {st : St} {a : Act} {w : World} {t : TypeId} {b o : Nat} {x : AV} {new xs : List Cell} {p v : Value} (S : Sim P B g st a w) (hti : (sizeOf t).run P w = .ok new.length w)
 (hp : Rc g w p (.bptr b o)) (hx : Rv g w v x) (hc : x.cells? = some new) (hb : st.H[b]? = some [.row xs]) {k : List Cell → Option R} {r : R} (hk : dataK new (fun new' => putR xs o new' k) = some r) :
 ∃ xs' w', k xs' = some r ∧ (Instr.storeAt t p v).run P w = .ok () w' ∧ Sim P B g ⟨st.fr, st.H.set b [.row xs'], st.G⟩ a w' := by
 obtain ⟨blk, rfl, h1⟩ := hp.bptr_inv
 obtain ⟨blk', h2, h3⟩ := S.bx.box b _ hb
 rw [h1] at h2; cases h2
 obtain ⟨vs, e, fz, h4, h4', h5, h6⟩ := h3.row_inv
 have hA := cells_rel hx hc
 obtain ⟨new', h7, h8⟩ := dataK_some v.cells.toList new hk hA.toL
 obtain ⟨xs', h9, h10, h11, h12⟩ := putR_some h7
 have hnl : v.cells.toList.length = new'.length := h8.1
 have hvl : v.cells.toList.length = new.length := hA.toL.1
 obtain ⟨cur', h13, h14, h15⟩ := run_store_row (P := P) blk o e fz v.cells.toList 0 vs w h4 h4' (by omega) (fun u hu => by
  obtain ⟨j, hj⟩ := List.getElem?_of_mem hu
  have hlt : j < v.cells.toList.length := (List.getElem?_eq_some_iff.1 hj).1
  obtain ⟨c, hcc⟩ : ∃ c, new[j]? = some c := ⟨_, List.getElem?_eq_getElem (by omega)⟩
  exact (hA.2 j u c (by simpa using hj) hcc).one)
 refine ⟨xs', _, h9, ?_, S.turnBox (w' := w.setRow blk cur') h1 rfl rfl rfl (by rw [setRow_size]; exact Nat.le_refl _) (fun k _ hk => setRow_other w blk k _ hk) fun hc' => ?_⟩
 · simp only [Instr.storeAt, Instr.sureAddr, storeVar, Sem.run_bind, Sem.run_pure, Result.andThen_ok, hti]
   rw [if_neg (by simpa using hvl)]
   simpa using h13
 · have hkp : Kp g.M w g.M (w.setRow blk cur') := ⟨fun b' j hm => ⟨hm, World.cell?_of_block (w := w) (setRow_other w blk b' _ (fun e => S.bx.M blk (List.mem_of_getElem? h1) j (by rw [← e]; exact hm)))⟩, List.prefix_refl _⟩
   refine .row cur' e fz xs' (setRow_heap w blk vs _ e _ h4) (by rw [h14]; exact h4') (by omega) fun i u c hu hcc => ?_
   rw [h15] at hu
   rw [h12] at hcc
   simp only [Nat.add_zero, hnl] at hu
   split at hu
   · rename_i hi
     rw [if_pos hi] at hcc
     exact (h8.2 (i - o) u c hu hcc).kept hkp
   · rename_i hi
     rw [if_neg hi] at hcc
     exact (h6 i u c hu hcc).kept hkp
theorem newRow_sound {B : Base} {g : Gh} {st : St} {a : Act} {w w' : World} {xs : List Cell} {vs : Array Value} {e : TypeId} {fz : Nat × Nat} {n sz cap : Nat} (S : Sim P B g st a w) (hbel : Below w.heap.size w w') (hsz1 : w.heap.size < w'.heap.size) (hh : w'.heap[w.heap.size]? = some (.cells vs e fz))
 (hfz : fz = (0, 0) ∨ vs.size ≤ fz.1) (hl : xs.length ≤ vs.size) (hR : ∀ (i : Nat) v c, vs[i]? = some v → xs[i]? = some c → Rd g.M w v c) (hs : 0 < sz) (hn : n ≤ cap) :
 ∃ g', Rc g' w' (.slice (some ⟨w.heap.size, 0, none⟩) n cap) (.bsl st.H.length sz n) ∧ Sim P B g' ⟨st.fr, st.H ++ [[.row xs]], st.G⟩ a w' := by
 have hkw : Kp g.M w g.M w' := Grow.kp (g := g) (M' := g.M) ⟨hbel, fun _ _ h => h, fun _ _ _ h => h, fun b j h => by have := S.live b j h; omega, rfl, rfl⟩ S.live
 obtain ⟨h1, h2⟩ := newBox_gen (cs := [.row xs]) S w.heap.size (Nat.le_refl _) hbel hsz1 (.row vs e fz xs hh hfz hl fun i v c hv hc => (hR i v c hv hc).kept hkw)
 exact ⟨_, .bsl _ sz n _ cap h1 hs hn, h2⟩
omit [Inv] in
theorem indexRow_run {w : World} {t e : TypeId} {sz m blk cap : Nat} {kd : IntKind} {n : Int} (hT : TyIs P t (.slice e sz)) (h0 : 0 ≤ n) (hn : n.toNat < m) :
 (Instr.indexAt t (.slice (some ⟨blk, 0, none⟩) m cap) (.int kd n)).run P w = .ok (.pointer (some ⟨blk, n.toNat * sz, none⟩)) w := by
 obtain ⟨hu, hsz, hz0, _, i, hi⟩ := hT.is_slice
 have hlt : n < (m : Int) := by omega
 simp [Instr.indexAt, run_asIntOf, run_underlying hu, h0, hlt, run_sizeOf hi, hsz, Addr.add_lit]
omit [Inv] in
theorem lenRow_run {w : World} {t ty e : TypeId} {n cap blk : Nat} (hu : P.underlying t = some (.slice e)) : (Builtin.len_ #[t] ty #[.slice (some ⟨blk, 0, none⟩) n cap]).run P w = .ok (.int .i64 n) w := by
 simp [Builtin.len_, run_underlying hu, goInt]
theorem convRow_sound {B : Base} {g : Gh} {st : St} {a : Act} {w : World} {src dst e : TypeId} {l : List UInt8} {v : Value} {u : TypeDesc} (S : Sim P B g st a w) (hS : P.underlying src = some u) (hD : P.underlying dst = some (.slice e)) (hE : P.underlying e = some (.int .u8)) (hv : Rc g w v (.str l)) :
 ∃ x w' g', (convert src dst v).run P w = .ok x w' ∧ Rc g' w' x (.bsl st.H.length 1 l.length) ∧ Sim P B g' ⟨st.fr, st.H ++ [[.row (byteCells l)]], st.G⟩ a w' := by
 obtain rfl := hv.str_inv
 have hs : (⟨l.toArray⟩ : ByteArray).size = l.length := by show l.toArray.size = _; simp
 have hcs : l.length ≤ (Lib.bytesCells w e ⟨l.toArray⟩).size := by simp [Lib.bytesCells]
 have hcap : l.length ≤ grownCap w (⟨l.toArray⟩ : ByteArray).size 0 e := by
  have := grownCap_ge w (⟨l.toArray⟩ : ByteArray).size 0 e
  omega
 obtain ⟨g', h1, h2⟩ := newRow_sound (xs := byteCells l) (n := l.length) (sz := 1) (cap := grownCap w (⟨l.toArray⟩ : ByteArray).size 0 e) S (w' := Lib.bytesWorld w e ⟨l.toArray⟩) ⟨rfl, rfl, rfl, by rw [Lib.bytesWorld_size]; omega, fun k hk => Lib.bytesWorld_at_old w e _ k hk⟩ (by rw [Lib.bytesWorld_size]; omega) (Lib.bytesWorld_at_new w e _) (.inr (Nat.le_refl _)) (by simpa [byteCells] using hcs) (fun i v c hv hc => by
  simp only [byteCells, List.getElem?_map] at hc
  cases hj : l[i]? with
  | none => rw [hj] at hc; cases hc
  | some x =>
   rw [hj] at hc
   simp only [Option.map_some, Option.some.injEq] at hc
   subst hc
   have hlt : i < l.length := (List.getElem?_eq_some_iff.1 hj).1
   have hx := (List.getElem?_eq_some_iff.1 hj).2
   have hc2 := Lib.bytesWorld_cell w e ⟨l.toArray⟩ i (by rw [hs]; exact hlt)
   rw [cell_of_row _ _ i _ e _ (Lib.bytesWorld_at_new w e _), hv] at hc2
   cases hc2
   have : (l.getD i 0) = x := by simp [List.getD, hj]
   show Rd g.M w (.int .u8 (((⟨l.toArray⟩ : ByteArray).data.toList.getD i 0).toNat : Int)) _
   simp only [List.toList_toArray, this]
   exact .int _ _) Nat.zero_lt_one hcap
 refine ⟨_, _, g', Lib.run_convert_string_bytes w src dst e ⟨l.toArray⟩ hS hD hE, ?_, h2⟩
 have e1 : (⟨w.heap.size, 0, none⟩ : Addr) = ⟨w.heap.size, 0, none⟩ := rfl
 rw [show (⟨l.toArray⟩ : ByteArray).size = l.length from hs] at h1 ⊢
 exact h1
theorem rowStr_sound {B : Base} {g : Gh} {st : St} {a : Act} {w : World} {src dst e : TypeId} {b sz n : Nat} {xs : List Cell} {v : Value} {k : List UInt8 → Option R} {r : R} (S : Sim P B g st a w) (hS : P.underlying src = some (.slice e)) (hD : P.underlying dst = some .string) (hE : P.underlying e = some (.int .u8))
 (hv : Rc g w v (.bsl b sz n)) (hb : st.H[b]? = some [.row xs]) (h : bytesK (xs.take n) k = some r) (hn : n ≤ xs.length) : ∃ l, k l = some r ∧ (convert src dst v).run P w = .ok (.string ⟨l.toArray⟩) w := by
 obtain ⟨blk, cap, rfl, h1, _, _⟩ := hv.bsl_inv
 obtain ⟨blk', h2, h3⟩ := S.bx.box b _ hb
 rw [h1] at h2; cases h2
 obtain ⟨vs, e', fz, h4, _, h5, h6⟩ := h3.row_inv
 obtain ⟨ys, hys, hk⟩ := bytesK_some _ h
 refine ⟨_, hk, ?_⟩
 have hyl : ys.length = n := by
  have := congrArg List.length hys
  simp at this; omega
 rw [run_convert_bytes_arg w src e hS hE blk 0 n cap ys hyl (fun i hi => by
  have hxi : xs[i]? = some (.int .u8 (ys.getD i 0)) := by
   have h7 : (xs.take n)[i]? = some (Cell.int .u8 (ys.getD i 0)) := by
    rw [hys]; simp [List.getD, show i < ys.length by omega]
   rw [List.getElem?_take, if_pos hi] at h7
   exact h7
  have hlt : i < vs.size := by omega
  have h8 := h6 i vs[i] _ (Array.getElem?_eq_getElem hlt) hxi
  rw [Nat.zero_add, cell_of_row w blk i vs e' fz h4, Array.getElem?_eq_getElem hlt, h8.int_inv]) dst hD, strOfNums_eq]
omit [Inv] in
theorem mapK_some {H : Heap} {b : Nat} {k : Nat → List (Cell × Cell × Nat) → Option R} {r : R} (h : mapK H b k = some r) : ∃ ck ks, H[b]? = some [.map ck ks] ∧ k ck ks = some r := by
 unfold mapK at h
 split at h
 · rename_i cs hcs
   split at h
   · rename_i c r'
     split at h
     · rename_i ck ks
       exact ⟨ck, ks, hcs, h⟩
     · cases h
   · cases h
 · cases h
omit [Inv] in
theorem Rc.mapr_inv {g : Gh} {w : World} {v : Value} {b : Nat} (h : Rc g w v (.mapr b)) : ∃ blk, v = .map (some blk) ∧ g.bx[b]? = some blk := by
 cases h with
 | data h => cases h
 | mapr _ blk h => exact ⟨blk, rfl, h⟩
omit [Inv] in
theorem BoxIs.map_inv {g : Gh} {w : World} {blk ck : Nat} {ks : List (Cell × Cell × Nat)} (h : BoxIs g w blk [.map ck ks]) : ∃ es, w.heap[blk]? = some (.map es ck) ∧ MapIs g.M w es ks := by
 cases h with
 | map es _ _ h1 h2 => exact ⟨es, h1, h2⟩
 | cells vs e _ h1 h2 =>
  obtain ⟨h3, h4⟩ := h2
  have h3 : vs.size = 1 := h3
  obtain ⟨u, hu⟩ : ∃ u, vs[0]? = some u := ⟨_, Array.getElem?_eq_getElem (by omega)⟩
  have := h4 0 u (.map ck ks) hu rfl
  cases this with
  | data h => cases h
inductive KeyIs : TypeDesc → Value → Cell → Prop
 | int (k : IntKind) (n : Int) : KeyIs (.int k) (.int k n) (.int k n)
 | str (l : List UInt8) : KeyIs .string (.string ⟨l.toArray⟩) (.str l)
 | bool (b : Bool) : KeyIs .bool (.bool b) (.bool b)
omit [Inv] in
theorem keyIs_of {t : TypeId} {kti : TI} (hT : TyIs P t kti) (hk : keyT kti = true) {M : Mem} {w : World} {v : Value} {c c' : Cell} (hv : Rd M w v c) (h : castD kti c some = some c') : ∃ d, P.underlying t = some d ∧ KeyIs d v c' ∧ Rd M w v c' := by
 cases kti with
 | int k =>
  refine ⟨_, hT.is_int, ?_⟩
  obtain ⟨n, rfl, h1⟩ := castI_some h
  cases h1
  cases hv
  exact ⟨.int _ _, .int _ _⟩
 | str =>
  refine ⟨_, hT.is_str, ?_⟩
  obtain ⟨n, rfl, h1⟩ := castS_some h
  cases h1
  cases hv
  exact ⟨.str _, .str _⟩
 | bool =>
  refine ⟨_, hT.is_bool, ?_⟩
  obtain ⟨n, rfl, h1⟩ := castB_some h
  cases h1
  cases hv
  exact ⟨.bool _, .bool _⟩
 | _ => cases hk
omit [Inv] in
theorem ba_eq (a b : List UInt8) : ((⟨a.toArray⟩ : ByteArray) == ⟨b.toArray⟩) = (a == b) := by
 show (a.toArray == b.toArray) = _
 rw [Bool.eq_iff_iff, beq_iff_eq, beq_iff_eq]
 exact ⟨fun h => by simpa using h, fun h => by rw [h]⟩
omit [Inv] in
theorem keyEq_now {d : TypeDesc} {v u : Value} {c c0 : Cell} {q : Bool} {M : Mem} {w : World} (hk : KeyIs d v c) (hu : Rd M w u c0) (h : keyEq c c0 = some q) : Instr.sameNow d v u = some q ∧ (q = true → u = v) := by
 cases hk with
 | int k n =>
  cases c0 <;> simp only [keyEq, reduceCtorEq] at h
  rename_i k' n'
  cases hu
  by_cases hkk : k = k'
  · subst hkk
    rw [decide_eq_true rfl, condA_true] at h
    cases h
    refine ⟨by simp [Instr.sameNow], fun h => ?_⟩
    rw [beq_iff_eq] at h; rw [h]
  · rw [decide_eq_false hkk, condA_false] at h; cases h
 | str l =>
  cases c0 <;> simp only [keyEq, reduceCtorEq] at h
  rename_i l'
  cases hu
  cases h
  refine ⟨by simp only [Instr.sameNow, ba_eq], fun h => ?_⟩
  rw [beq_iff_eq] at h; rw [h]
 | bool b =>
  cases c0 <;> simp only [keyEq, reduceCtorEq] at h
  rename_i b'
  cases hu
  cases h
  refine ⟨by simp [Instr.sameNow], fun h => ?_⟩
  rw [beq_iff_eq] at h; rw [h]
def MapL (M : Mem) (w : World) (es : List MapEntry) (ks : List (Cell × Cell × Nat)) : Prop :=
 es.length = ks.length ∧ ∀ (i : Nat) e c, es[i]? = some e → ks[i]? = some c → Rd M w e.key c.1 ∧ Rd M w e.val c.2.1 ∧ e.born = c.2.2
omit [Inv] in
theorem find_rel {d : TypeDesc} {v : Value} {c : Cell} {M : Mem} {w : World} (hk : KeyIs d v c) : ∀ (es : List MapEntry) (ks : List (Cell × Cell × Nat)) (i : Nat) (q : Option (Nat × Cell)), MapL M w es ks → findE c ks i = some q →
 (q = none ∧ Instr.findNow d v es i = some none) ∨ ∃ j x e, q = some (i + j, x) ∧ es[j]? = some e ∧ Instr.findNow d v es i = some (some (i + j, e.val)) ∧ Rd M w e.val x ∧ e.key = v
 | [], [], i, q, _, h => by cases h; exact .inl ⟨rfl, rfl⟩
 | [], _ :: _, i, q, hL, h => by have := hL.1; simp at this
 | _ :: _, [], i, q, hL, h => by have := hL.1; simp at this
 | e :: es, (k0, x0, b0) :: ks, i, q, hL, h => by
  obtain ⟨h1, h2, _⟩ := hL.2 0 e _ rfl rfl
  simp only [findE] at h
  cases hq : keyEq c k0 with
  | none => rw [hq] at h; cases h
  | some r0 =>
   obtain ⟨h3, h4⟩ := keyEq_now hk h1 hq
   rw [hq] at h
   cases r0 with
   | true =>
    simp only [Option.some.injEq] at h
    subst h
    exact .inr ⟨0, x0, e, rfl, rfl, by simp only [Instr.findNow, h3, Nat.add_zero], h2, h4 rfl⟩
   | false =>
    simp only at h
    have hL' : MapL M w es ks := ⟨by have := hL.1; simpa using this, fun j e c he hc => hL.2 (j + 1) e c (by simpa using he) (by simpa using hc)⟩
    rcases find_rel hk es ks (i + 1) q hL' h with ⟨h5, h6⟩ | ⟨j, x, e', h5, h6, h7, h8, h9⟩
    · exact .inl ⟨h5, by simp only [Instr.findNow, h3]; exact h6⟩
    · exact .inr ⟨j + 1, x, e', by rw [h5]; congr 2; omega, by simpa using h6, by simp only [Instr.findNow, h3]; rw [h7]; congr 3; omega, h8, h9⟩
omit [Inv] in
theorem run_findKey {kt : TypeId} {d : TypeDesc} {v : Value} {es : List MapEntry} {q : Option (Nat × Value)} {w : World} (hu : P.underlying kt = some d) (h : Instr.findNow d v es 0 = some q) : (Instr.findKey kt v es).run P w = .ok q w := by
 simp [Instr.findKey, run_underlying hu, h]
omit [Inv] in
theorem run_checkKey {kt : TypeId} {d : TypeDesc} {v : Value} {c : Cell} {w : World} (e : Bool) (hu : P.underlying kt = some d) (hk : KeyIs d v c) : (Instr.checkKey e 10000 kt v).run P w = .ok () w := by
 obtain ⟨n, hn⟩ : ∃ n, 10000 = n + 1 := ⟨9999, rfl⟩
 rw [hn]
 cases hk <;> simp [Instr.checkKey, run_underlying hu]
omit [Inv] in
theorem same_bits {d : TypeDesc} {v : Value} {c : Cell} (hk : KeyIs d v c) : Instr.sameBits 10000 v v = true := by
 cases hk <;> simp [Instr.sameBits, ba_eq]
omit [Inv] in
theorem run_getMap {w : World} {blk ck : Nat} {es : Array MapEntry} (h : w.heap[blk]? = some (.map es ck)) : (getObj blk).run P w = .ok (.map es ck) w := by
 simp [getObj, Sem.run, h]
omit [Inv] in
theorem TyIs.is_map {t k e : TypeId} (h : TyIs P t (.map k e)) : P.underlying t = some (.map k e) ∧ zeroPlain P e = true := by
 obtain ⟨i, d, z, _, h2, _, h4, _⟩ := h.ex
 cases d <;> simp only [descOk, reduceCtorEq] at h4
 simp only [Bool.and_eq_true] at h4
 obtain ⟨⟨h5, h6⟩, h7⟩ := h4
 have := Nat.eq_of_beq_eq_true h5
 subst this
 have := Nat.eq_of_beq_eq_true h6
 subst this
 exact ⟨h2, h7⟩
omit [Inv] in
theorem zero_one {t : TypeId} {ti : TI} (hT : TyIs P t ti) (ha : ti.isAgg = false) (hz : zeroPlain P t = true) {M : Mem} {w : World} : ∃ z, (zeroValue t).run P w = .ok z w ∧ Rd M w z (zeroU ti) := by
 obtain ⟨i, d, z, h1, h2, h3, h4, h5, h6⟩ := hT.ex
 have hl : ti.leaves = [ti] := by cases ti <;> first | rfl | cases ha
 rw [hl] at h6
 refine ⟨z, by simp [zeroValue, typeInfo, h1, h5], ?_⟩
 have hzd := zeros_data (M := M) (w := w) [ti] z.cells.toList h6
 have hc : z.cells.toList = [z] := by
  unfold zeroPlain at hz
  rw [h1] at hz
  simp only [h5] at hz
  cases z <;> first | rfl | cases hz
 rw [hc] at hzd
 have := hzd.2 0 z _ rfl rfl
 cases ti <;> exact this
theorem lookup_sound {B : Base} {g : Gh} {st : St} {a : Act} {w : World} {t kt et : TypeId} {kti eti : TI} {b : Nat} {x y : Value} {key key' c : Cell} {ck : Nat} {ks : List (Cell × Cell × Nat)} {ok there : Bool} (S : Sim P B g st a w) (hT : TyIs P t (.map kt et)) (hK : TyIs P kt kti) (hE : TyIs P et eti)
 (hkt : keyT kti = true) (hea : eti.isAgg = false) (hx : Rc g w x (.mapr b)) (hy : Rd g.M w y key) (hc : castD kti key some = some key') (hb : st.H[b]? = some [.map ck ks])
 (h : lookK key' ks (zeroU eti) (fun c t => some (c, t)) = some (c, there)) : ∃ v, (Instr.lookup t x y ok).run P w = .ok (if ok then .tuple #[v, .bool there] else v) w ∧ Rd g.M w v c := by
 obtain ⟨hu, hzp⟩ := hT.is_map
 obtain ⟨blk, rfl, hbx⟩ := hx.mapr_inv
 obtain ⟨blk', h1, h2⟩ := S.bx.box b _ hb
 rw [hbx] at h1; cases h1
 obtain ⟨es, h3, h4⟩ := h2.map_inv
 obtain ⟨d, hd, hki, _⟩ := keyIs_of hK hkt hy hc
 have hML : MapL g.M w es.toList ks := ⟨by simpa using h4.1, fun i e c he hc => h4.2 i e c (by simpa using he) hc⟩
 unfold lookK at h
 cases hf : findE key' ks 0 with
 | none => rw [hf] at h; cases h
 | some q =>
  rw [hf] at h
  rcases find_rel hki es.toList ks 0 q hML hf with ⟨rfl, h6⟩ | ⟨j, z, e, rfl, _, h7, h8, _⟩
  · simp only [Option.some.injEq, Prod.mk.injEq] at h
    obtain ⟨rfl, rfl⟩ := h
    obtain ⟨z, hz1, hz2⟩ := zero_one (M := g.M) (w := w) hE hea hzp
    refine ⟨z, ?_, hz2⟩
    cases ok <;> simp [Instr.lookup, run_underlying hu, run_getMap h3, run_checkKey _ hd hki, run_findKey hd h6, hz1, Result.andThen]
  · simp only [Option.some.injEq, Prod.mk.injEq] at h
    obtain ⟨rfl, rfl⟩ := h
    refine ⟨e.val, ?_, h8⟩
    cases ok <;> simp [Instr.lookup, run_underlying hu, run_getMap h3, run_checkKey _ hd hki, run_findKey hd h7, Result.andThen]
theorem update_sound {B : Base} {g : Gh} {st : St} {a : Act} {w : World} {t kt et : TypeId} {kti : TI} {b : Nat} {x y u : Value} {key key' v : Cell} {ck ck' : Nat} {ks ks' : List (Cell × Cell × Nat)} (S : Sim P B g st a w) (hT : TyIs P t (.map kt et)) (hK : TyIs P kt kti)
 (hkt : keyT kti = true) (hx : Rc g w x (.mapr b)) (hy : Rd g.M w y key) (hv : Rd g.M w u v) (hc : castD kti key some = some key') (hb : st.H[b]? = some [.map ck ks])
 (h : updK key' v ck ks (fun a b => some (a, b)) = some (ck', ks')) : ∃ w', (Instr.mapUpdate t x y u).run P w = .ok () w' ∧ Sim P B g ⟨st.fr, st.H.set b [.map ck' ks'], st.G⟩ a w' := by
 obtain ⟨hu, _⟩ := hT.is_map
 obtain ⟨blk, rfl, hbx⟩ := hx.mapr_inv
 obtain ⟨blk', h1, h2⟩ := S.bx.box b _ hb
 rw [hbx] at h1; cases h1
 obtain ⟨es, h3, h4⟩ := h2.map_inv
 have hlt : blk < w.heap.size := (Array.getElem?_eq_some_iff.1 h3).1
 obtain ⟨d, hd, hki, hy'⟩ := keyIs_of hK hkt hy hc
 have hML : MapL g.M w es.toList ks := ⟨by simpa using h4.1, fun i e c he hc => h4.2 i e c (by simpa using he) hc⟩
 have turn : ∀ (es' : Array MapEntry) (ck2 : Nat) (ks2 : List (Cell × Cell × Nat)), MapIs g.M w es' ks2 → Sim P B g ⟨st.fr, st.H.set b [.map ck2 ks2], st.G⟩ a { w with heap := w.heap.setIfInBounds blk (.map es' ck2) } := fun es' ck2 ks2 hm => by
  refine S.turnBox hbx rfl rfl rfl (by simp) (fun k _ hk => by simp only [Array.getElem?_setIfInBounds_ne (Ne.symm hk)]) fun hc' => ?_
  have hkp : Kp g.M w g.M { w with heap := w.heap.setIfInBounds blk (.map es' ck2) } := ⟨fun b' j hm => ⟨hm, World.cell?_of_block (w := w) (by
   have hne : b' ≠ blk := fun e => S.bx.M blk (List.mem_of_getElem? hbx) j (by rw [← e]; exact hm)
   simp only [Array.getElem?_setIfInBounds_ne (Ne.symm hne)])⟩, List.prefix_refl _⟩
  exact .map es' ck2 ks2 (by simp [hlt]) ⟨hm.1, fun i e c he hc => ⟨(hm.2 i e c he hc).1.kept hkp, (hm.2 i e c he hc).2.1.kept hkp, (hm.2 i e c he hc).2.2⟩⟩
 have setO : ∀ o, (setObj blk o).run P w = .ok () { w with heap := w.heap.setIfInBounds blk o } := fun o => by simp [setObj, Sem.run, h3]
 unfold updK at h
 cases hf : findE key' ks 0 with
 | none => rw [hf] at h; cases h
 | some q =>
  rw [hf] at h
  rcases find_rel hki es.toList ks 0 q hML hf with ⟨rfl, h6⟩ | ⟨j, z, e, rfl, hje, h7, h8, h9⟩
  · simp only [Option.some.injEq, Prod.mk.injEq] at h
    obtain ⟨rfl, rfl⟩ := h
    refine ⟨_, ?_, turn (es.push { key := y, val := u, born := ck }) (ck + 1) (ks ++ [(key', v, ck)]) ⟨by simp [h4.1], fun i e c he hcc => ?_⟩⟩
    · simp [Instr.mapUpdate, run_underlying hu, run_getMap h3, run_checkKey _ hd hki, run_findKey hd h6, setO, Result.andThen]
    · rw [Array.getElem?_push] at he
      rw [List.getElem?_append] at hcc
      split at he
      · rename_i hi
        rw [if_neg (by rw [hi, h4.1]; omega)] at hcc
        rw [hi, h4.1, Nat.sub_self] at hcc
        simp at he hcc
        subst he; subst hcc
        exact ⟨hy', hv, rfl⟩
      · have hi : i < es.size := (Array.getElem?_eq_some_iff.1 he).1
        rw [if_pos (by rw [← h4.1]; exact hi)] at hcc
        exact h4.2 i e c he hcc
  · simp only [Option.some.injEq, Prod.mk.injEq, Nat.zero_add] at h
    obtain ⟨rfl, rfl⟩ := h
    have hje' : es[j]? = some e := by simpa using hje
    subst h9
    refine ⟨_, ?_, turn (es.modify j fun x => { x with key := e.key, val := u }) ck (setVal ks j v) ⟨by simp [setVal, h4.1], fun i x c hx hcc => ?_⟩⟩
    · have hst : (Instr.keyThatStays e.key e.key).run P w = .ok e.key w := by simp [Instr.keyThatStays, same_bits hki]
      simp only [Nat.zero_add] at h7
      simp [Instr.mapUpdate, run_underlying hu, run_getMap h3, run_checkKey _ hd hki, run_findKey hd h7, hje', hst, setO, Result.andThen]
    · simp only [setVal] at hcc
      rw [Array.getElem?_modify] at hx
      rw [List.getElem?_modify] at hcc
      cases hk0 : ks[i]? with
      | none => rw [hk0] at hcc; simp at hcc
      | some c0 =>
       rw [hk0] at hcc
       by_cases hij : j = i
       · subst hij
         rw [if_pos rfl, hje'] at hx
         simp only [Option.map_some, Option.some.injEq] at hx
         simp at hcc
         subst hx; subst hcc
         have := h4.2 j e c0 hje' hk0
         exact ⟨this.1, hv, this.2.2⟩
       · rw [if_neg hij] at hx
         simp [hij] at hcc
         subst hcc
         exact h4.2 i x c0 hx hk0
theorem newMap_sound {B : Base} {g : Gh} {st : St} {a : Act} {w : World} (S : Sim P B g st a w) : ∃ g', Rc g' (w.alloc (.map #[] 0)) (.map (some w.heap.size)) (.mapr st.H.length) ∧ Sim P B g' ⟨st.fr, st.H ++ [[.map 0 []]], st.G⟩ a (w.alloc (.map #[] 0)) := by
 obtain ⟨h1, h2⟩ := newBox_gen (cs := [.map 0 []]) S w.heap.size (Nat.le_refl _) ((Below.refl _ w).alloc (Nat.le_refl _) (.map #[] 0)) (by simp) (.map #[] 0 [] (heap_alloc_new w _) ⟨rfl, fun i e c he hc => by simp at he⟩)
 exact ⟨_, .mapr _ _ h1, h2⟩
end AX
end Go.Proofs.YtnkppakkeobegaaGreatDoor
