/-
  PmS1.
-/
import Derived.Test.YtnkppakkeobegaaGreatDoorZM20
set_option maxRecDepth 20000
set_option linter.unusedVariables false
set_option linter.unusedSimpArgs false
set_option linter.unusedSectionVars false
namespace Go.Proofs.YtnkppakkeobegaaGreatDoor
namespace AX
theorem pmr_f1 (K : Bool → Int → Cell → Int → Int → Heap → OR) (x : Int) : pmR (acall AXE AXF 1001000) 1001001 K false x 3 0 1 1 pmG_f1 = K false x (.gptr 3 0) 2 2 pmG_f2 := by kernel_rfl
theorem pmr_f9 (K : Bool → Int → Cell → Int → Int → Heap → OR) (x : Int) : pmR (acall AXE AXF 1001000) 1001001 K false x 3 0 9 9 pmG_f9 = K false x (.gptr 3 0) 10 10 pmG_f10 := by kernel_rfl
theorem pmr_f17 (K : Bool → Int → Cell → Int → Int → Heap → OR) (x : Int) : pmR (acall AXE AXF 1001000) 1001001 K false x 3 0 17 17 pmG_f17 = K false x (.gptr 3 0) 18 18 pmG_f18 := by kernel_rfl
theorem pmr_f25 (K : Bool → Int → Cell → Int → Int → Heap → OR) (x : Int) : pmR (acall AXE AXF 1001000) 1001001 K false x 3 0 20 25 pmG_f25 = K false x (.gptr 3 0) 20 26 pmG_f26 := by kernel_rfl
theorem pme_f4 : ok1 (pmJ (acall AXE AXF 1001000) 1001001 false 4 (.gptr 3 0) 4 pmG_f4) = true := by kernel_rfl
theorem pme_f12 : ok1 (pmJ (acall AXE AXF 1001000) 1001001 false 12 (.gptr 3 0) 12 pmG_f12) = true := by kernel_rfl
theorem pme_f20 : ok1 (pmJ (acall AXE AXF 1001000) 1001001 false 20 (.gptr 3 0) 20 pmG_f20) = true := by kernel_rfl
theorem pme_f28 : ok1 (pmJ (acall AXE AXF 1001000) 1001001 false 28 (.gptr 3 0) 20 pmG_f28) = true := by kernel_rfl
theorem pmr_t5 (K : Bool → Int → Cell → Int → Int → Heap → OR) (x : Int) : pmR (acall AXE AXF 1001000) 1001001 K true x 3 0 5 5 pmG_t5 = K true x (.gptr 3 0) 6 6 pmG_t6 := by kernel_rfl
theorem pmr_t13 (K : Bool → Int → Cell → Int → Int → Heap → OR) (x : Int) : pmR (acall AXE AXF 1001000) 1001001 K true x 3 0 13 13 pmG_t13 = K true x (.gptr 3 0) 14 14 pmG_t14 := by kernel_rfl
theorem pmr_t21 (K : Bool → Int → Cell → Int → Int → Heap → OR) (x : Int) : pmR (acall AXE AXF 1001000) 1001001 K true x 3 0 20 21 pmG_t21 = K true x (.gptr 3 0) 20 22 pmG_t22 := by kernel_rfl
theorem pmr_t29 (K : Bool → Int → Cell → Int → Int → Heap → OR) (x : Int) : pmR (acall AXE AXF 1001000) 1001001 K true x 3 0 20 29 pmG_t29 = K true x (.gptr 3 0) 20 30 pmG_t30 := by kernel_rfl
theorem pme_t8 : ok1 (pmJ (acall AXE AXF 1001000) 1001001 true 8 (.gptr 3 0) 8 pmG_t8) = true := by kernel_rfl
theorem pme_t16 : ok1 (pmJ (acall AXE AXF 1001000) 1001001 true 16 (.gptr 3 0) 16 pmG_t16) = true := by kernel_rfl
theorem pme_t24 : ok1 (pmJ (acall AXE AXF 1001000) 1001001 true 24 (.gptr 3 0) 20 pmG_t24) = true := by kernel_rfl
theorem pms_t (K : Bool → Int → Cell → Int → Int → Heap → OR) (x : Int) (h1 : decide (x < (1 : Int)) = false) (h2 : decide (x > (30 : Int)) = false) : pmS (acall AXE AXF 1001000) 1001001 K true x [] = K true x (.gptr 3 0) 0 0 pmG_t0 := by
 unfold pmS
 rw [h1, h2]
 kernel_rfl
end AX
end Go.Proofs.YtnkppakkeobegaaGreatDoor
