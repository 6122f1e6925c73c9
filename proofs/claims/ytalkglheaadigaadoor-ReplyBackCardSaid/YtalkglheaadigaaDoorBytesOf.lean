/-
  '[]byte(s)': a new row that holds the bytes; a test of all bytes, from a place on. (AddrGood and HeadGood have these too: strike them there where a seat holds both.)
-/
import Derived.Test.YtalkglheaadigaaDoorProg
import Derived.Test.YtalkglheaadigaaDoorBase
import Derived.Lib.ConvBytes
import Derived.Laws.IdiomStrings
import Derived.OwnWalk
set_option maxRecDepth 20000
set_option linter.unusedVariables false
set_option linter.unusedSimpArgs false
set_option linter.unusedSectionVars false
namespace Go.Proofs.YtalkglheaadigaaDoor
open Go.ChangeShapes Go.WideShapes Go.ChangeAt Go.RowKit

theorem bytes_of (w : World) (s : ByteArray) : ∃ W cap, (convert 9 34 (.string s)).run Tryd.prog w = .ok (.slice (some ⟨w.heap.size, 0, none⟩) s.size cap) W ∧
    (∀ j (h : j < s.size), W.cell? ⟨w.heap.size, j, none⟩ = some (.int .u8 (s[j].toNat : Int))) ∧ Below w.heap.size w W := by
  refine ⟨_, _, run_bytes_of_string (P := Tryd.prog) w 9 34 5 s rfl rfl rfl, fun j h => ?_, by (repeat' (first | (with_reducible exact Below.refl _ _) | (with_reducible refine Below.app ?_ ?_ _ _) | (with_reducible refine Below.alloc ?_ ?_ _) | (with_reducible refine Below.drew ?_) | (with_reducible refine Below.setCell ?_ ?_ _) | (with_reducible assumption) | omega | (simp; omega) | (simp; done)))⟩
  exact (World.cell?_alloc_mark w.drew _ _ _ j).trans (bytesRow_at s _ j h)
theorem all_drop {f : UInt8 → Bool} {l : List UInt8} {k : Nat} (h : k < l.length) : (l.drop k).all f = (f l[k] && (l.drop (k + 1)).all f) := by
  rw [List.drop_eq_getElem_cons h, List.all_cons]
theorem str_empty (s : ByteArray) : (s.data.toList == []) = s.data.toList.isEmpty := by cases s.data.toList <;> rfl
end Go.Proofs.YtalkglheaadigaaDoor
