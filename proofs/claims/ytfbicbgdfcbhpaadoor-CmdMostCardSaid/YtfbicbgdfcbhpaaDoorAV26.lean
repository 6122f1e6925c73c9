/-
  Short names in which the printed functions are written, and what they are on known values.
-/
import Derived.Test.YtfbicbgdfcbhpaaDoorAV24
set_option maxRecDepth 20000
set_option linter.unusedVariables false
set_option linter.unusedSimpArgs false
set_option linter.unusedSectionVars false
namespace Go.Proofs.YtfbicbgdfcbhpaaDoor
namespace AX
/-- a piece of code by its place: 0 the first part, 1 the second -/
def child (i : Nat) : Code → Code
  | .seq a b => match i with | 0 => a | _ => b
  | .cond _ a b => match i with | 0 => a | _ => b
  | .block _ c => c
  | .loop c => c
  | .scope c => c
  | c => c
def setChild (i : Nat) (c x : Code) : Code :=
  match c with
  | .seq a b => (match i with | 0 => .seq x b | _ => .seq a x)
  | .cond o a b => (match i with | 0 => .cond o x b | _ => .cond o a x)
  | .block k _ => .block k x
  | .loop _ => .loop x
  | .scope _ => .scope x
  | c => c
def piece : List Nat → Code → Code
  | [], c => c
  | i :: p, c => piece p (child i c)
/-- a piece of code in place of another, by its place -/
def hole : Code → List Nat → Code → Code
  | _, [], x => x
  | c, i :: p, x => setChild i c (hole (child i c) p x)
abbrev OR := Option RR
abbrev LB := List UInt8
abbrev LC := List Cell
section
variable {R : Type}
def cI (kd : IntKind) (l : List Cell) (k : Int → List Cell → Option R) : Option R := consK l fun c r => castI kd c fun n => k n r
def cB (l : List Cell) (k : Bool → List Cell → Option R) : Option R := consK l fun c r => castB c fun n => k n r
def cS (l : List Cell) (k : List UInt8 → List Cell → Option R) : Option R := consK l fun c r => castS c fun n => k n r
def cE (l : List Cell) (k : Bool → List Cell → Option R) : Option R := consK l fun c r => castE c fun n => k n r
def cL (sz : Nat) (l : List Cell) (k : List Cell → List Cell → Option R) : Option R := consK l fun c r => castL sz c fun _ n => k n r
def oI (kd : IntKind) (v : AV) (k : Int → Option R) : Option R := castOne v fun c => castI kd c k
def oB (v : AV) (k : Bool → Option R) : Option R := castOne v fun c => castB c k
def oS (v : AV) (k : List UInt8 → Option R) : Option R := castOne v fun c => castS c k
def oE (v : AV) (k : Bool → Option R) : Option R := castOne v fun c => castE c k
def oL (sz : Nat) (v : AV) (k : List Cell → Option R) : Option R := castOne v fun c => castL sz c fun _ l => k l
def zI (kd : IntKind) (l : List V1) (k : Int → List V1 → Option R) : Option R := consK l fun z r => oneV z fun c => castI kd c fun n => k n r
def zB (l : List V1) (k : Bool → List V1 → Option R) : Option R := consK l fun z r => oneV z fun c => castB c fun n => k n r
def zS (l : List V1) (k : List UInt8 → List V1 → Option R) : Option R := consK l fun z r => oneV z fun c => castS c fun n => k n r
def zE (l : List V1) (k : Bool → List V1 → Option R) : Option R := consK l fun z r => oneV z fun c => castE c fun n => k n r
def zL (sz : Nat) (l : List V1) (k : List Cell → List V1 → Option R) : Option R := consK l fun z r => oneV z fun c => castL sz c fun _ n => k n r
@[simp] theorem cI_cons (kd : IntKind) (n : Int) (r : List Cell) (k : Int → List Cell → Option R) : cI kd (.int kd n :: r) k = k n r := if_pos rfl
@[simp] theorem cB_cons (n : Bool) (r : List Cell) (k : Bool → List Cell → Option R) : cB (.bool n :: r) k = k n r := rfl
@[simp] theorem cS_cons (n : List UInt8) (r : List Cell) (k : List UInt8 → List Cell → Option R) : cS (.str n :: r) k = k n r := rfl
@[simp] theorem cE_cons (n : Bool) (r : List Cell) (k : Bool → List Cell → Option R) : cE (.err n :: r) k = k n r := rfl
@[simp] theorem castL_one (nm : Option Nm) (sz : Nat) (n : List Cell) (k : Option Nm → List Cell → Option R) : castL sz (.sl nm sz n) k = k nm n := by
  unfold castL; simp only [Nat.beq_refl, Bool.true_or, condA_true]
@[simp] theorem castN_one (a b e sz : Nat) (n : List Cell) (k : List Cell → Option R) : castN e sz (.sl (some ⟨a, b, e⟩) sz n) k = k n := by
  unfold castN; simp only [Nat.beq_refl, Bool.true_or, Bool.true_and, condA_true]
@[simp] theorem castI_one (kd : IntKind) (n : Int) (k : Int → Option R) : castI kd (.int kd n) k = k n := if_pos rfl
@[simp] theorem castB_one (n : Bool) (k : Bool → Option R) : castB (.bool n) k = k n := rfl
@[simp] theorem castS_one (n : List UInt8) (k : List UInt8 → Option R) : castS (.str n) k = k n := rfl
@[simp] theorem castE_one (n : Bool) (k : Bool → Option R) : castE (.err n) k = k n := rfl
@[simp] theorem cL_cons (nm : Option Nm) (sz : Nat) (n : List Cell) (r : List Cell) (k : List Cell → List Cell → Option R) : cL sz (.sl nm sz n :: r) k = k n r := castL_one nm sz n fun _ n => k n r
@[simp] theorem oI_one (kd : IntKind) (n : Int) (k : Int → Option R) : oI kd (.one (.int kd n)) k = k n := if_pos rfl
@[simp] theorem oB_one (n : Bool) (k : Bool → Option R) : oB (.one (.bool n)) k = k n := rfl
@[simp] theorem oS_one (n : List UInt8) (k : List UInt8 → Option R) : oS (.one (.str n)) k = k n := rfl
@[simp] theorem oE_one (n : Bool) (k : Bool → Option R) : oE (.one (.err n)) k = k n := rfl
@[simp] theorem oL_one (nm : Option Nm) (sz : Nat) (n : List Cell) (k : List Cell → Option R) : oL sz (.one (.sl nm sz n)) k = k n := castL_one nm sz n fun _ n => k n
@[simp] theorem zI_cons (kd : IntKind) (n : Int) (r : List V1) (k : Int → List V1 → Option R) : zI kd (.one (.int kd n) :: r) k = k n r := if_pos rfl
@[simp] theorem zB_cons (n : Bool) (r : List V1) (k : Bool → List V1 → Option R) : zB (.one (.bool n) :: r) k = k n r := rfl
@[simp] theorem zS_cons (n : List UInt8) (r : List V1) (k : List UInt8 → List V1 → Option R) : zS (.one (.str n) :: r) k = k n r := rfl
@[simp] theorem zE_cons (n : Bool) (r : List V1) (k : Bool → List V1 → Option R) : zE (.one (.err n) :: r) k = k n r := rfl
@[simp] theorem zL_cons (nm : Option Nm) (sz : Nat) (n : List Cell) (r : List V1) (k : List Cell → List V1 → Option R) : zL sz (.one (.sl nm sz n) :: r) k = k n r := castL_one nm sz n fun _ n => k n r
@[simp] theorem consK_cons {α : Type} (c : α) (r : List α) (k : α → List α → Option R) : consK (c :: r) k = k c r := rfl
@[simp] theorem nilK_nil {α : Type} (k : Option R) : nilK ([] : List α) k = k := rfl
@[simp] theorem castOne_one (c : Cell) (k : Cell → Option R) : castOne (.one c) k = k c := rfl
@[simp] theorem castAgg_agg (c : List Cell) (k : List Cell → Option R) : castAgg (.agg c) k = k c := rfl
@[simp] theorem castTup_tup (c : List V1) (k : List V1 → Option R) : castTup (.tup c) k = k c := rfl
@[simp] theorem oneV_one (c : Cell) (k : Cell → Option R) : oneV (.one c) k = k c := rfl
@[simp] theorem aggV_agg (c : List Cell) (k : List Cell → Option R) : aggV (.agg c) k = k c := rfl
theorem callK_some {call : CallF} {f : FuncId} {args : List AV} {v : AV} {H : Heap} (h : call f args [] = some (v, H)) (k : AV → Option R) : callK call f args k = k v := by
  unfold callK; rw [h]
theorem callRK_some {call : CallF} {f : FuncId} {args : List AV} {H H1 : Heap} {v : AV} (h : call f args H = some (v, H1)) (k : AV → Heap → Option R) : callRK call f args H k = k v H1 := by
  unfold callRK; rw [h]
theorem primK_some {p : List AV → Option AV} {args : List AV} {v : AV} (h : p args = some v) (k : AV → Option R) : primK p args k = k v := by
  unfold primK; rw [h]
theorem primHK_some {p : List AV → List Cell → Option (AV × List Cell)} {args : List AV} {old new : List Cell} {v : AV} (h : p args old = some (v, new)) (k : AV → List Cell → Option R) : primHK p args old k = k v new := by
  unfold primHK; rw [h]
theorem primSK_some {p : List AV → List Cell → Option AV} {args : List AV} {old : List Cell} {v : AV} (h : p args old = some v) (k : AV → Option R) : primSK p args old k = k v := by
  unfold primSK; rw [h]
@[simp] theorem castNm_one (L : Nm) (sz : Nat) (n : List Cell) (k : List Cell → Option R) : castNm L sz (.sl (some L) sz n) k = k n := by
  unfold castNm; simp only [Nat.beq_refl, Bool.true_or, Bool.true_and, condA_true, isNm]
@[simp] theorem castSp_one (b : Nat) (k : Option R) : castSp b (.selfp b) k = k := by
  unfold castSp; simp only [Nat.beq_refl, condA_true]
theorem rowAt_at {cs : List Cell} {o : Nat} (h : o < cs.length) {k : Cell → Option R} : rowAt cs o k = k cs[o] := by
  unfold rowAt; rw [List.getElem?_eq_getElem h]
theorem rowAt_some {cs : List Cell} {o : Nat} {c : Cell} (h : cs[o]? = some c) {k : Cell → Option R} : rowAt cs o k = k c := by
  unfold rowAt; rw [h]
theorem wrap_ok {x : Int} (h1 : -9223372036854775808 ≤ x) (h2 : x < 9223372036854775808) : IntKind.wrap .i64 x = x := by rw [IntKind.wrap_i64]; omega
theorem item_at {α : Type} {l : List α} {i : Nat} (h : i < l.length) {k : α → Option R} : itemK l (i : Int) k = k l[i] := by
  unfold itemK
  rw [decide_eq_true (by omega), condA_true, Int.toNat_natCast, List.getElem?_eq_getElem h]
theorem item_some {α : Type} {l : List α} {i : Int} {j : Nat} {a : α} (hi : i = j) (h : l[j]? = some a) (k : α → Option R) : itemK l i k = k a := by
  subst hi; unfold itemK
  rw [decide_eq_true (by omega), condA_true, Int.toNat_natCast, h]
@[simp] theorem guard_true {k : Option R} : guardB true k = k := rfl
theorem byteCells_len (l : List UInt8) : (byteCells l).length = l.length := by simp [byteCells]
theorem byteCells_get {l : List UInt8} {i : Nat} (h : i < l.length) : (byteCells l)[i]'(by rw [byteCells_len]; exact h) = .int .u8 (l[i].toNat : Int) := by simp [byteCells]
theorem item_byte {l : List UInt8} {i : Nat} (h : i < l.length) {k : Cell → Option R} : itemK (byteCells l) (i : Int) k = k (.int .u8 (l[i].toNat : Int)) := by
  rw [item_at (by rw [byteCells_len]; exact h), byteCells_get h]
theorem guard_ok {b : Bool} {k : Option R} (h : b = true) : guardB b k = k := by rw [h]; rfl
end
end AX
end Go.Proofs.YtfbicbgdfcbhpaaDoor
