/-
  AV26, Row, Row2, RowCard.
-/
import Derived.Test.YtfbicbgdfcbhpaaGreatDoorCt07
import Derived.Test.YtfbicbgdfcbhpaaGreatDoorRows
import Derived.Test.YtfbicbgdfcbhpaaGreatDoorCt00
import Derived.HandedShaped
import Derived.Shelf.Vars
import Derived.Test.YtfbicbgdfcbhpaaGreatDoorCards
import Derived.Test.YtfbicbgdfcbhpaaGreatDoorTie
import Derived.SevenTiedAt
import Derived.JoinedCond
import Derived.Deep.DeepHandedRow
import Derived.LaidLaws
import Derived.Lib.LaidU8
set_option maxRecDepth 20000
set_option linter.unusedVariables false
set_option linter.unusedSimpArgs false
set_option linter.unusedSectionVars false
namespace Go.Proofs.YtfbicbgdfcbhpaaGreatDoor
namespace AX
def child (i : Nat) : Code → Code
 | .seq a b => match i with | 0 => a | _ => b
 | .cond _ a b => match i with | 0 => a | _ => b
 | .block _ c => c
 | .loop c => c
 | .scope c => c
 | c => c
def setChild (i : Nat) (c x : Code) : Code :=
 match c with
 | .seq a b => (match i with | 0 => .seq x b | _ => .seq a x)
 | .cond o a b => (match i with | 0 => .cond o x b | _ => .cond o a x)
 | .block k _ => .block k x
 | .loop _ => .loop x
 | .scope _ => .scope x
 | c => c
def piece : List Nat → Code → Code
 | [], c => c
 | i :: p, c => piece p (child i c)
def hole : Code → List Nat → Code → Code
 | _, [], x => x
 | c, i :: p, x => setChild i c (hole (child i c) p x)
abbrev OR := Option RR
abbrev LB := List UInt8
abbrev LC := List Cell
section
variable {R : Type}
def cS (l : List Cell) (k : List UInt8 → List Cell → Option R) : Option R := consK l fun c r => castS c fun n => k n r
def oI (kd : IntKind) (v : AV) (k : Int → Option R) : Option R := castOne v fun c => castI kd c k
def oB (v : AV) (k : Bool → Option R) : Option R := castOne v fun c => castB c k
def oS (v : AV) (k : List UInt8 → Option R) : Option R := castOne v fun c => castS c k
def oL (sz : Nat) (v : AV) (k : List Cell → Option R) : Option R := castOne v fun c => castL sz c fun _ l => k l
def zI (kd : IntKind) (l : List V1) (k : Int → List V1 → Option R) : Option R := consK l fun z r => oneV z fun c => castI kd c fun n => k n r
def zB (l : List V1) (k : Bool → List V1 → Option R) : Option R := consK l fun z r => oneV z fun c => castB c fun n => k n r
def zS (l : List V1) (k : List UInt8 → List V1 → Option R) : Option R := consK l fun z r => oneV z fun c => castS c fun n => k n r
def zE (l : List V1) (k : Bool → List V1 → Option R) : Option R := consK l fun z r => oneV z fun c => castE c fun n => k n r
@[simp] theorem cS_cons (n : List UInt8) (r : List Cell) (k : List UInt8 → List Cell → Option R) : cS (.str n :: r) k = k n r := rfl
@[simp] theorem castL_one (nm : Option Nm) (sz : Nat) (n : List Cell) (k : Option Nm → List Cell → Option R) : castL sz (.sl nm sz n) k = k nm n := by
 unfold castL; simp only [Nat.beq_refl, Bool.true_or, condA_true]
@[simp] theorem castI_one (kd : IntKind) (n : Int) (k : Int → Option R) : castI kd (.int kd n) k = k n := if_pos rfl
@[simp] theorem castS_one (n : List UInt8) (k : List UInt8 → Option R) : castS (.str n) k = k n := rfl
@[simp] theorem oI_one (kd : IntKind) (n : Int) (k : Int → Option R) : oI kd (.one (.int kd n)) k = k n := if_pos rfl
@[simp] theorem oB_one (n : Bool) (k : Bool → Option R) : oB (.one (.bool n)) k = k n := rfl
@[simp] theorem oS_one (n : List UInt8) (k : List UInt8 → Option R) : oS (.one (.str n)) k = k n := rfl
@[simp] theorem oL_one (nm : Option Nm) (sz : Nat) (n : List Cell) (k : List Cell → Option R) : oL sz (.one (.sl nm sz n)) k = k n := castL_one nm sz n fun _ n => k n
@[simp] theorem zI_cons (kd : IntKind) (n : Int) (r : List V1) (k : Int → List V1 → Option R) : zI kd (.one (.int kd n) :: r) k = k n r := if_pos rfl
@[simp] theorem zB_cons (n : Bool) (r : List V1) (k : Bool → List V1 → Option R) : zB (.one (.bool n) :: r) k = k n r := rfl
@[simp] theorem zS_cons (n : List UInt8) (r : List V1) (k : List UInt8 → List V1 → Option R) : zS (.one (.str n) :: r) k = k n r := rfl
@[simp] theorem zE_cons (n : Bool) (r : List V1) (k : Bool → List V1 → Option R) : zE (.one (.err n) :: r) k = k n r := rfl
@[simp] theorem consK_cons {α : Type} (c : α) (r : List α) (k : α → List α → Option R) : consK (c :: r) k = k c r := rfl
@[simp] theorem nilK_nil {α : Type} (k : Option R) : nilK ([] : List α) k = k := rfl
@[simp] theorem castAgg_agg (c : List Cell) (k : List Cell → Option R) : castAgg (.agg c) k = k c := rfl
@[simp] theorem castTup_tup (c : List V1) (k : List V1 → Option R) : castTup (.tup c) k = k c := rfl
@[simp] theorem aggV_agg (c : List Cell) (k : List Cell → Option R) : aggV (.agg c) k = k c := rfl
theorem callK_some {call : CallF} {f : FuncId} {args : List AV} {v : AV} {H : Heap} (h : call f args [] = some (v, H)) (k : AV → Option R) : callK call f args k = k v := by
 unfold callK; rw [h]
theorem callRK_some {call : CallF} {f : FuncId} {args : List AV} {H H1 : Heap} {v : AV} (h : call f args H = some (v, H1)) (k : AV → Heap → Option R) : callRK call f args H k = k v H1 := by
 unfold callRK; rw [h]
theorem primK_some {p : List AV → Option AV} {args : List AV} {v : AV} (h : p args = some v) (k : AV → Option R) : primK p args k = k v := by
 unfold primK; rw [h]
theorem rowAt_at {cs : List Cell} {o : Nat} (h : o < cs.length) {k : Cell → Option R} : rowAt cs o k = k cs[o] := by
 unfold rowAt; rw [List.getElem?_eq_getElem h]
theorem wrap_ok {x : Int} (h1 : -9223372036854775808 ≤ x) (h2 : x < 9223372036854775808) : IntKind.wrap .i64 x = x := by rw [IntKind.wrap_i64]; omega
theorem item_at {α : Type} {l : List α} {i : Nat} (h : i < l.length) {k : α → Option R} : itemK l (i : Int) k = k l[i] := by
 unfold itemK
 rw [decide_eq_true (by omega), condA_true, Int.toNat_natCast, List.getElem?_eq_getElem h]
theorem item_some {α : Type} {l : List α} {i : Int} {j : Nat} {a : α} (hi : i = j) (h : l[j]? = some a) (k : α → Option R) : itemK l i k = k a := by
 subst hi; unfold itemK
 rw [decide_eq_true (by omega), condA_true, Int.toNat_natCast, h]
theorem byteCells_len (l : List UInt8) : (byteCells l).length = l.length := by simp [byteCells]
theorem byteCells_get {l : List UInt8} {i : Nat} (h : i < l.length) : (byteCells l)[i]'(by rw [byteCells_len]; exact h) = .int .u8 (l[i].toNat : Int) := by simp [byteCells]
theorem item_byte {l : List UInt8} {i : Nat} (h : i < l.length) {k : Cell → Option R} : itemK (byteCells l) (i : Int) k = k (.int .u8 (l[i].toNat : Int)) := by
 rw [item_at (by rw [byteCells_len]; exact h), byteCells_get h]
theorem guard_ok {b : Bool} {k : Option R} (h : b = true) : guardB b k = k := by rw [h]; rfl
end
end AX
end Go.Proofs.YtfbicbgdfcbhpaaGreatDoor
set_option maxRecDepth 20000
set_option linter.unusedVariables false
set_option linter.unusedSimpArgs false
set_option linter.unusedSectionVars false
namespace Go.Proofs.YtfbicbgdfcbhpaaGreatDoor
open Go.ChangeShapes Go.WideShapes Go.ChangeAt Go.RowKit
theorem own : ownKnob Tryz.prog.godebug = none := by kernel_rfl
theorem laid : laidOutB Tryz.prog = true := by kernel_rfl
theorem boolT : Tryz.prog.underlying 4 = some .bool := by kernel_rfl
section
variable {H : Type} {enc : TypeId × Value → H} {P : Program} {W W' : World}
theorem trodAll_below (hl : laidOutB P = true) (hb : Below W.heap.size W W') {sp : Nat → Bool} : ∀ {ts : List TypeId} {vs : List Value} {ds : List (DataW H)} {ps : List MemPlace},
 (ts.all fun t => P.readableRec t && decide (t < P.types.size)) = true → DataW.TrodAll enc P W 0 (fun _ => true) true ts vs ds ps → (∀ x ∈ ps, x.block < W.heap.size) → (∀ x ∈ ps, sp x.block = true) →
 DataW.TrodAll enc P W' 0 sp true ts vs ds ps
 | [], [], [], _, _, h, _, _ => h
 | t :: ts, v :: vs, d :: ds, ps, hr, h, hlt, hsp => by
  obtain ⟨p, q, h1, h2, rfl⟩ := h
  simp only [List.all_cons, Bool.and_eq_true, decide_eq_true_eq] at hr
  exact ⟨p, q, WideElems.Trod_stays hl hr.1.1 hr.1.2 h1 (fun x hx => hb.same (hlt x (by simp [hx]))) (fun x hx => hsp x (by simp [hx])),
   trodAll_below hl hb hr.2 h2 (fun x hx => hlt x (by simp [hx])) (fun x hx => hsp x (by simp [hx])), rfl⟩
 | [], _ :: _, _, _, _, h, _, _ => h.elim
 | [], [], _ :: _, _, _, h, _, _ => h.elim
 | _ :: _, [], _, _, _, h, _, _ => h.elim
 | _ :: _, _ :: _, [], _, _, h, _, _ => h.elim
theorem trodAll_length {base : Nat} {spare : Nat → Bool} {held : Bool} : ∀ {ts : List TypeId} {vs : List Value} {ds : List (DataW H)} {ps : List MemPlace},
 DataW.TrodAll enc P W base spare held ts vs ds ps → ds.length = ts.length
 | [], [], [], _, _ => rfl
 | t :: ts, v :: vs, d :: ds, ps, h => by
  obtain ⟨p, q, h1, h2, rfl⟩ := h
  simp [trodAll_length h2]
 | [], _ :: _, _, _, h => h.elim
 | [], [], _ :: _, _, h => h.elim
 | _ :: _, [], _, _, h => h.elim
 | _ :: _, _ :: _, [], _, h => h.elim
end
end Go.Proofs.YtfbicbgdfcbhpaaGreatDoor
set_option maxRecDepth 20000
set_option linter.unusedVariables false
set_option linter.unusedSimpArgs false
set_option linter.unusedSectionVars false
namespace Go.Proofs.YtfbicbgdfcbhpaaGreatDoor
open Go.ChangeShapes Go.WideShapes Go.ChangeAt Go.RowKit
def MaxLenAt (w : World) : Prop := ∃ m, w.cell? ⟨0, 0, none⟩ = some (.int .i64 m)
theorem MaxLenAt.of {W : World} (h : W.ShapedOpen Tryz.prog) : MaxLenAt W :=
 cell_of_shapedOpen_int (t := 3) (zero := #[.int .i64 0]) h (of_decide_eq_true (by kernel_rfl)) (by kernel_rfl) rfl (by kernel_rfl) (by kernel_rfl) (by kernel_rfl)
theorem MaxLenAt.below {w w' : World} (h : MaxLenAt w) (hb : Below w.heap.size w w') : MaxLenAt w' := by
 obtain ⟨m, hm⟩ := h
 exact ⟨m, (hb.cell (p := ⟨0, 0, none⟩) (World.block_lt_of_cell? w _ hm)).trans hm⟩
end Go.Proofs.YtfbicbgdfcbhpaaGreatDoor
set_option maxRecDepth 20000
set_option linter.unusedVariables false
set_option linter.unusedSimpArgs false
set_option linter.unusedSectionVars false
namespace Go.Proofs.YtfbicbgdfcbhpaaGreatDoor
open Go.ChangeShapes Go.WideShapes Go.ChangeAt Go.RowKit
theorem wants_none {ts : Array TypeId} (h : (ts.all fun t => !Tryz.prog.wantsStandIn t) = true) : ∀ (j : Nat) (t : TypeId), ts[j]? = some t → Tryz.prog.wantsStandIn t = false := fun j t ht => by
 rw [Array.all_eq_true] at h
 obtain ⟨hj, rfl⟩ := Array.getElem?_eq_some_iff.1 ht
 simpa using h j hj
noncomputable def lowN : Nat := (World.holding Tryz.prog default ⟨#[], #[], []⟩).heap.size
def putCells (h : Array Obj) (g : Nat) (cs : Array Value) : Array Obj := h.modify g fun
 | .cells _ t frozen => .cells cs t frozen
 | o => o
noncomputable def laidWorld (os : Os) : World :=
 let w0 := World.holding Tryz.prog os ⟨#[.cells #[.string ⟨#[118, 97, 108, 117, 101, 32, 111, 117, 116, 32, 111, 102, 32, 114, 97, 110, 103, 101]⟩] 182, .cells #[.string ⟨#[105, 110, 118, 97, 108, 105, 100, 32, 115, 121, 110, 116, 97, 120]⟩] 182], #[], []⟩
 { w0 with heap := putCells (putCells (putCells (putCells (putCells (putCells (putCells (w0.heap) 6 #[.int .u8 0, .int .u8 1, .int .u8 28, .int .u8 2, .int .u8 29, .int .u8 14, .int .u8 24, .int .u8 3, .int .u8 30, .int .u8 22, .int .u8 20, .int .u8 15, .int .u8 25, .int .u8 17, .int .u8 4, .int .u8 8, .int .u8 31, .int .u8 27, .int .u8 13, .int .u8 23, .int .u8 21, .int .u8 19, .int .u8 16, .int .u8 7, .int .u8 26, .int .u8 12, .int .u8 18, .int .u8 6, .int .u8 11, .int .u8 5, .int .u8 10, .int .u8 9]) 7 #[.int .u8 0, .int .u8 1, .int .u8 56, .int .u8 2, .int .u8 57, .int .u8 49, .int .u8 28, .int .u8 3, .int .u8 61, .int .u8 58, .int .u8 42, .int .u8 50, .int .u8 38, .int .u8 29, .int .u8 17, .int .u8 4, .int .u8 62, .int .u8 47, .int .u8 59, .int .u8 36, .int .u8 45, .int .u8 43, .int .u8 51, .int .u8 22, .int .u8 53, .int .u8 39, .int .u8 33, .int .u8 30, .int .u8 24, .int .u8 18, .int .u8 12, .int .u8 5, .int .u8 63, .int .u8 55, .int .u8 48, .int .u8 27, .int .u8 60, .int .u8 41, .int .u8 37, .int .u8 16, .int .u8 46, .int .u8 35, .int .u8 44, .int .u8 21, .int .u8 52, .int .u8 32, .int .u8 23, .int .u8 11, .int .u8 54, .int .u8 26, .int .u8 40, .int .u8 15, .int .u8 34, .int .u8 20, .int .u8 31, .int .u8 10, .int .u8 25, .int .u8 14, .int .u8 19, .int .u8 9, .int .u8 13, .int .u8 8, .int .u8 7, .int .u8 6]) 1 #[.int .u64 1, .int .u64 10, .int .u64 100, .int .u64 1000, .int .u64 10000, .int .u64 100000, .int .u64 1000000, .int .u64 10000000, .int .u64 100000000, .int .u64 1000000000, .int .u64 10000000000, .int .u64 100000000000, .int .u64 1000000000000, .int .u64 10000000000000, .int .u64 100000000000000, .int .u64 1000000000000000, .int .u64 10000000000000000, .int .u64 100000000000000000, .int .u64 1000000000000000000, .int .u64 10000000000000000000]) 3 #[.int .u8 128, .int .u8 191, .int .u8 160, .int .u8 191, .int .u8 128, .int .u8 159, .int .u8 144, .int .u8 191, .int .u8 128, .int .u8 143, .int .u8 0, .int .u8 0, .int .u8 0, .int .u8 0, .int .u8 0, .int .u8 0, .int .u8 0, .int .u8 0, .int .u8 0, .int .u8 0, .int .u8 0, .int .u8 0, .int .u8 0, .int .u8 0, .int .u8 0, .int .u8 0, .int .u8 0, .int .u8 0, .int .u8 0, .int .u8 0, .int .u8 0, .int .u8 0]) 5 #[.iface 180 (.pointer (some ⟨lowN + 0, 0, none⟩))]) 4 #[.iface 180 (.pointer (some ⟨lowN + 1, 0, none⟩))]) 2 (Lib.firstTab.map fun z => Value.int .u8 z).toArray }
end Go.Proofs.YtfbicbgdfcbhpaaGreatDoor
