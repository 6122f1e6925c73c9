/-
  Row, Row2, RowCard.
-/
import Derived.Test.YtnkppakkeobegaaGreatDoorRows
import Derived.Test.YtnkppakkeobegaaGreatDoorZC00
import Derived.HandedShaped
import Derived.Shelf.Vars
import Derived.Test.YtnkppakkeobegaaGreatDoorCards
import Derived.Test.YtnkppakkeobegaaGreatDoorTie
import Derived.SevenTiedAt
import Derived.JoinedCond
import Derived.Deep.DeepHandedRow
import Derived.LaidLaws
import Derived.Lib.LaidU8
set_option maxRecDepth 20000
set_option linter.unusedVariables false
set_option linter.unusedSimpArgs false
set_option linter.unusedSectionVars false
namespace Go.Proofs.YtnkppakkeobegaaGreatDoor
open Go.ChangeShapes Go.WideShapes Go.ChangeAt Go.RowKit
theorem own : ownKnob Tryz.prog.godebug = none := by kernel_rfl
theorem laid : laidOutB Tryz.prog = true := by kernel_rfl
theorem boolT : Tryz.prog.underlying 4 = some .bool := by kernel_rfl
section
variable {H : Type} {enc : TypeId × Value → H} {P : Program} {W W' : World}
theorem trodAll_below (hl : laidOutB P = true) (hb : Below W.heap.size W W') {sp : Nat → Bool} : ∀ {ts : List TypeId} {vs : List Value} {ds : List (DataW H)} {ps : List MemPlace},
 (ts.all fun t => P.readableRec t && decide (t < P.types.size)) = true → DataW.TrodAll enc P W 0 (fun _ => true) true ts vs ds ps → (∀ x ∈ ps, x.block < W.heap.size) → (∀ x ∈ ps, sp x.block = true) →
 DataW.TrodAll enc P W' 0 sp true ts vs ds ps
 | [], [], [], _, _, h, _, _ => h
 | t :: ts, v :: vs, d :: ds, ps, hr, h, hlt, hsp => by
  obtain ⟨p, q, h1, h2, rfl⟩ := h
  simp only [List.all_cons, Bool.and_eq_true, decide_eq_true_eq] at hr
  exact ⟨p, q, WideElems.Trod_stays hl hr.1.1 hr.1.2 h1 (fun x hx => hb.same (hlt x (by simp [hx]))) (fun x hx => hsp x (by simp [hx])),
   trodAll_below hl hb hr.2 h2 (fun x hx => hlt x (by simp [hx])) (fun x hx => hsp x (by simp [hx])), rfl⟩
 | [], _ :: _, _, _, _, h, _, _ => h.elim
 | [], [], _ :: _, _, _, h, _, _ => h.elim
 | _ :: _, [], _, _, _, h, _, _ => h.elim
 | _ :: _, _ :: _, [], _, _, h, _, _ => h.elim
theorem trodAll_length {base : Nat} {spare : Nat → Bool} {held : Bool} : ∀ {ts : List TypeId} {vs : List Value} {ds : List (DataW H)} {ps : List MemPlace},
 DataW.TrodAll enc P W base spare held ts vs ds ps → ds.length = ts.length
 | [], [], [], _, _ => rfl
 | t :: ts, v :: vs, d :: ds, ps, h => by
  obtain ⟨p, q, h1, h2, rfl⟩ := h
  simp [trodAll_length h2]
 | [], _ :: _, _, _, h => h.elim
 | [], [], _ :: _, _, h => h.elim
 | _ :: _, [], _, _, h => h.elim
 | _ :: _, _ :: _, [], _, h => h.elim
end
end Go.Proofs.YtnkppakkeobegaaGreatDoor
set_option maxRecDepth 20000
set_option linter.unusedVariables false
set_option linter.unusedSimpArgs false
set_option linter.unusedSectionVars false
namespace Go.Proofs.YtnkppakkeobegaaGreatDoor
open Go.ChangeShapes Go.WideShapes Go.ChangeAt Go.RowKit
def MaxLenAt (w : World) : Prop := ∃ m, w.cell? ⟨0, 0, none⟩ = some (.int .i64 m)
theorem MaxLenAt.of {W : World} (h : W.ShapedOpen Tryz.prog) : MaxLenAt W :=
 cell_of_shapedOpen_int (t := 3) (zero := #[.int .i64 0]) h (of_decide_eq_true (by kernel_rfl)) (by kernel_rfl) rfl (by kernel_rfl) (by kernel_rfl) (by kernel_rfl)
theorem MaxLenAt.below {w w' : World} (h : MaxLenAt w) (hb : Below w.heap.size w w') : MaxLenAt w' := by
 obtain ⟨m, hm⟩ := h
 exact ⟨m, (hb.cell (p := ⟨0, 0, none⟩) (World.block_lt_of_cell? w _ hm)).trans hm⟩
end Go.Proofs.YtnkppakkeobegaaGreatDoor
set_option maxRecDepth 20000
set_option linter.unusedVariables false
set_option linter.unusedSimpArgs false
set_option linter.unusedSectionVars false
namespace Go.Proofs.YtnkppakkeobegaaGreatDoor
open Go.ChangeShapes Go.WideShapes Go.ChangeAt Go.RowKit
theorem wants_none {ts : Array TypeId} (h : (ts.all fun t => !Tryz.prog.wantsStandIn t) = true) : ∀ (j : Nat) (t : TypeId), ts[j]? = some t → Tryz.prog.wantsStandIn t = false := fun j t ht => by
 rw [Array.all_eq_true] at h
 obtain ⟨hj, rfl⟩ := Array.getElem?_eq_some_iff.1 ht
 simpa using h j hj
noncomputable def lowN : Nat := (World.holding Tryz.prog default ⟨#[], #[], []⟩).heap.size
def putCells (h : Array Obj) (g : Nat) (cs : Array Value) : Array Obj := h.modify g fun
 | .cells _ t frozen => .cells cs t frozen
 | o => o
noncomputable def laidWorld (os : Os) : World :=
 let w0 := World.holding Tryz.prog os ⟨#[.cells #[.string ⟨#[118, 97, 108, 117, 101, 32, 111, 117, 116, 32, 111, 102, 32, 114, 97, 110, 103, 101]⟩] 235, .cells #[.string ⟨#[105, 110, 118, 97, 108, 105, 100, 32, 115, 121, 110, 116, 97, 120]⟩] 235, .cells #[.string ⟨#[98, 121, 116, 101, 115, 46, 66, 117, 102, 102, 101, 114, 58, 32, 116, 111, 111, 32, 108, 97, 114, 103, 101]⟩] 235], #[], []⟩
 { w0 with heap := putCells (putCells (putCells (putCells (putCells (putCells (putCells (putCells (w0.heap) 5 #[.int .u8 0, .int .u8 1, .int .u8 28, .int .u8 2, .int .u8 29, .int .u8 14, .int .u8 24, .int .u8 3, .int .u8 30, .int .u8 22, .int .u8 20, .int .u8 15, .int .u8 25, .int .u8 17, .int .u8 4, .int .u8 8, .int .u8 31, .int .u8 27, .int .u8 13, .int .u8 23, .int .u8 21, .int .u8 19, .int .u8 16, .int .u8 7, .int .u8 26, .int .u8 12, .int .u8 18, .int .u8 6, .int .u8 11, .int .u8 5, .int .u8 10, .int .u8 9]) 6 #[.int .u8 0, .int .u8 1, .int .u8 56, .int .u8 2, .int .u8 57, .int .u8 49, .int .u8 28, .int .u8 3, .int .u8 61, .int .u8 58, .int .u8 42, .int .u8 50, .int .u8 38, .int .u8 29, .int .u8 17, .int .u8 4, .int .u8 62, .int .u8 47, .int .u8 59, .int .u8 36, .int .u8 45, .int .u8 43, .int .u8 51, .int .u8 22, .int .u8 53, .int .u8 39, .int .u8 33, .int .u8 30, .int .u8 24, .int .u8 18, .int .u8 12, .int .u8 5, .int .u8 63, .int .u8 55, .int .u8 48, .int .u8 27, .int .u8 60, .int .u8 41, .int .u8 37, .int .u8 16, .int .u8 46, .int .u8 35, .int .u8 44, .int .u8 21, .int .u8 52, .int .u8 32, .int .u8 23, .int .u8 11, .int .u8 54, .int .u8 26, .int .u8 40, .int .u8 15, .int .u8 34, .int .u8 20, .int .u8 31, .int .u8 10, .int .u8 25, .int .u8 14, .int .u8 19, .int .u8 9, .int .u8 13, .int .u8 8, .int .u8 7, .int .u8 6]) 2 #[.int .u64 1, .int .u64 10, .int .u64 100, .int .u64 1000, .int .u64 10000, .int .u64 100000, .int .u64 1000000, .int .u64 10000000, .int .u64 100000000, .int .u64 1000000000, .int .u64 10000000000, .int .u64 100000000000, .int .u64 1000000000000, .int .u64 10000000000000, .int .u64 100000000000000, .int .u64 1000000000000000, .int .u64 10000000000000000, .int .u64 100000000000000000, .int .u64 1000000000000000000, .int .u64 10000000000000000000]) 8 #[.int .u8 128, .int .u8 191, .int .u8 160, .int .u8 191, .int .u8 128, .int .u8 159, .int .u8 144, .int .u8 191, .int .u8 128, .int .u8 143, .int .u8 0, .int .u8 0, .int .u8 0, .int .u8 0, .int .u8 0, .int .u8 0, .int .u8 0, .int .u8 0, .int .u8 0, .int .u8 0, .int .u8 0, .int .u8 0, .int .u8 0, .int .u8 0, .int .u8 0, .int .u8 0, .int .u8 0, .int .u8 0, .int .u8 0, .int .u8 0, .int .u8 0, .int .u8 0]) 4 #[.iface 233 (.pointer (some ⟨lowN + 0, 0, none⟩))]) 3 #[.iface 233 (.pointer (some ⟨lowN + 1, 0, none⟩))]) 1 #[.iface 233 (.pointer (some ⟨lowN + 2, 0, none⟩))]) 7 (Lib.firstTab.map fun z => Value.int .u8 z).toArray }
end Go.Proofs.YtnkppakkeobegaaGreatDoor
