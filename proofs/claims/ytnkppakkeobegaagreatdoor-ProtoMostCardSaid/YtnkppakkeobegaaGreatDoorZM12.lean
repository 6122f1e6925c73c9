/-
  ReplyEnh, BytesOf.
-/
import Derived.Test.YtnkppakkeobegaaGreatDoorZM11
import Derived.Test.YtnkppakkeobegaaGreatDoorProg
import Derived.Test.YtnkppakkeobegaaGreatDoorZM00
import Derived.Lib.ConvBytes
import Derived.Laws.IdiomStrings
import Derived.OwnWalk
set_option maxRecDepth 20000
set_option linter.unusedVariables false
set_option linter.unusedSimpArgs false
set_option linter.unusedSectionVars false
namespace Go.Proofs.YtnkppakkeobegaaGreatDoor
theorem splitK_le : ∀ (k : Nat) (t x : List UInt8), x ∈ Lib.splitK [46] 0 k t → x.length ≤ t.length
 | 0, t, x, h => by
  rw [Lib.splitK, List.mem_singleton] at h; subst h; exact Nat.le_refl _
 | k + 1, t, x, h => by
  rw [Lib.splitK] at h
  split at h
  · rw [List.mem_singleton] at h; subst h; exact Nat.le_refl _
  · rcases List.mem_cons.1 h with rfl | h2
    · rw [List.length_take]; omega
    · have := splitK_le k _ x h2
      rw [List.length_drop] at this; omega
theorem split_le (t x : List UInt8) (h : x ∈ Lib.split t [46]) : x.length ≤ t.length := splitK_le _ _ _ h
def enhQ (l : List UInt8) : Option (Nat × Nat × Nat) := match Lib.split l [46] with
 | [p, q, r] => if (canonB p && (canonB q && (canonB r && decide (valN 0 p = 2 ∨ valN 0 p = 4 ∨ valN 0 p = 5)))) = true then some (valN 0 p, valN 0 q, valN 0 r) else none
 | _ => none
theorem enhQ_three {l p q r : List UInt8} (h : Lib.split l [46] = [p, q, r]) : enhQ l = if (canonB p && (canonB q && (canonB r && decide (valN 0 p = 2 ∨ valN 0 p = 4 ∨ valN 0 p = 5)))) = true then some (valN 0 p, valN 0 q, valN 0 r) else none := by
 unfold enhQ; rw [h]
theorem enhQ_other {l : List UInt8} (h : (Lib.split l [46]).length ≠ 3) : enhQ l = none := by
 unfold enhQ
 split
 · next p q r e => rw [e] at h; simp at h
 · rfl
end Go.Proofs.YtnkppakkeobegaaGreatDoor
set_option maxRecDepth 20000
set_option linter.unusedVariables false
set_option linter.unusedSimpArgs false
set_option linter.unusedSectionVars false
namespace Go.Proofs.YtnkppakkeobegaaGreatDoor
open Go.ChangeShapes Go.WideShapes Go.ChangeAt Go.RowKit
theorem bytes_of (w : World) (s : ByteArray) : ∃ W cap, (convert 9 26 (.string s)).run Tryz.prog w = .ok (.slice (some ⟨w.heap.size, 0, none⟩) s.size cap) W ∧
 (∀ j (h : j < s.size), W.cell? ⟨w.heap.size, j, none⟩ = some (.int .u8 (s[j].toNat : Int))) ∧ Below w.heap.size w W := by
 refine ⟨_, _, run_bytes_of_string (P := Tryz.prog) w 9 26 5 s rfl rfl rfl, fun j h => ?_, by (repeat' (first | (with_reducible exact Below.refl _ _) | (with_reducible refine Below.app ?_ ?_ _ _) | (with_reducible refine Below.alloc ?_ ?_ _) | (with_reducible refine Below.drew ?_) | (with_reducible refine Below.setCell ?_ ?_ _) | (with_reducible assumption) | omega | (simp; omega) | (simp; done)))⟩
 exact (World.cell?_alloc_mark w.drew _ _ _ j).trans (bytesRow_at s _ j h)
theorem all_drop {f : UInt8 → Bool} {l : List UInt8} {k : Nat} (h : k < l.length) : (l.drop k).all f = (f l[k] && (l.drop (k + 1)).all f) := by
 rw [List.drop_eq_getElem_cons h, List.all_cons]
end Go.Proofs.YtnkppakkeobegaaGreatDoor
