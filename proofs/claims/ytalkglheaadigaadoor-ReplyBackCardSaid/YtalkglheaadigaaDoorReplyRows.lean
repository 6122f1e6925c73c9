/-
  Rows of strings in a reply: small lemmas.
-/
import Derived.Test.YtalkglheaadigaaDoorReplyRead
import Derived.Test.YtalkglheaadigaaDoorPhase
import Derived.Test.YtalkglheaadigaaDoorLowerG
set_option maxRecDepth 20000
set_option linter.unusedVariables false
set_option linter.unusedSimpArgs false
set_option linter.unusedSectionVars false
namespace Go.Proofs.YtalkglheaadigaaDoor
open Go.ChangeShapes Go.WideShapes Go.ChangeAt Go.RowKit

/-- A row of the call's own lies behind the blocks that change. -/
theorem own_newN {X Y : World} {bs : Array Obj} {d e' : Nat} {B sz : Nat} {e : TypeId} {v : Value} {n : Nat} {xs : List Value} (h : (app X bs d).ownsRow B e sz v n xs) (hs : X.heap.size = Y.heap.size) (hB : X.heap.size ≤ B) : (app Y bs e').ownsRow B e sz v n xs := by
  refine ⟨h.1, ?_⟩
  rcases h.2 with h1 | ⟨g, cap, cur, h1, h2, h3, h4⟩
  · exact .inl h1
  · refine .inr ⟨g, cap, cur, h1, h2, ?_, h4⟩
    rw [← h3]
    show (Y.heap ++ bs)[g]? = (X.heap ++ bs)[g]?
    rw [Array.getElem?_append_right (by omega), Array.getElem?_append_right (by omega), hs]
theorem own_swap {w : World} {o o' : Obj} {bs : Array Obj} {d d' : Nat} {e : TypeId} {v : Value} {n : Nat} {xs : List Value} (h : (app (w.alloc o) bs d).ownsRow (w.heap.size + 1) e 1 v n xs) : (app (w.alloc o') bs d').ownsRow (w.heap.size + 1) e 1 v n xs := own_newN h (by simp) (by simp)
def strCells8 (ss : List ByteArray) : List Value := ss.map .string
theorem infoStr8 : (Tryd.prog.info? 9).map (fun i => (i.zero, i.size, i.bytes)) = some (some (.string ⟨#[]⟩), 1, 16) := by kernel_rfl
end Go.Proofs.YtalkglheaadigaaDoor
