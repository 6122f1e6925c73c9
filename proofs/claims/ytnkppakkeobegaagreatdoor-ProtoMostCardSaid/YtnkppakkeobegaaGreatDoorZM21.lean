/-
  PmS0.
-/
import Derived.Test.YtnkppakkeobegaaGreatDoorZM20
set_option maxRecDepth 20000
set_option linter.unusedVariables false
set_option linter.unusedSimpArgs false
set_option linter.unusedSectionVars false
namespace Go.Proofs.YtnkppakkeobegaaGreatDoor
namespace AX
theorem pmr_f0 (K : Bool → Int → Cell → Int → Int → Heap → OR) (x : Int) : pmR (acall AXE AXF 1001000) 1001001 K false x 3 0 0 0 pmG_f0 = K false x (.gptr 3 0) 1 1 pmG_f1 := by kernel_rfl
theorem pmr_f8 (K : Bool → Int → Cell → Int → Int → Heap → OR) (x : Int) : pmR (acall AXE AXF 1001000) 1001001 K false x 3 0 8 8 pmG_f8 = K false x (.gptr 3 0) 9 9 pmG_f9 := by kernel_rfl
theorem pmr_f16 (K : Bool → Int → Cell → Int → Int → Heap → OR) (x : Int) : pmR (acall AXE AXF 1001000) 1001001 K false x 3 0 16 16 pmG_f16 = K false x (.gptr 3 0) 17 17 pmG_f17 := by kernel_rfl
theorem pmr_f24 (K : Bool → Int → Cell → Int → Int → Heap → OR) (x : Int) : pmR (acall AXE AXF 1001000) 1001001 K false x 3 0 20 24 pmG_f24 = K false x (.gptr 3 0) 20 25 pmG_f25 := by kernel_rfl
theorem pme_f3 : ok1 (pmJ (acall AXE AXF 1001000) 1001001 false 3 (.gptr 3 0) 3 pmG_f3) = true := by kernel_rfl
theorem pme_f11 : ok1 (pmJ (acall AXE AXF 1001000) 1001001 false 11 (.gptr 3 0) 11 pmG_f11) = true := by kernel_rfl
theorem pme_f19 : ok1 (pmJ (acall AXE AXF 1001000) 1001001 false 19 (.gptr 3 0) 19 pmG_f19) = true := by kernel_rfl
theorem pme_f27 : ok1 (pmJ (acall AXE AXF 1001000) 1001001 false 27 (.gptr 3 0) 20 pmG_f27) = true := by kernel_rfl
theorem pmr_t4 (K : Bool → Int → Cell → Int → Int → Heap → OR) (x : Int) : pmR (acall AXE AXF 1001000) 1001001 K true x 3 0 4 4 pmG_t4 = K true x (.gptr 3 0) 5 5 pmG_t5 := by kernel_rfl
theorem pmr_t12 (K : Bool → Int → Cell → Int → Int → Heap → OR) (x : Int) : pmR (acall AXE AXF 1001000) 1001001 K true x 3 0 12 12 pmG_t12 = K true x (.gptr 3 0) 13 13 pmG_t13 := by kernel_rfl
theorem pmr_t20 (K : Bool → Int → Cell → Int → Int → Heap → OR) (x : Int) : pmR (acall AXE AXF 1001000) 1001001 K true x 3 0 20 20 pmG_t20 = K true x (.gptr 3 0) 20 21 pmG_t21 := by kernel_rfl
theorem pmr_t28 (K : Bool → Int → Cell → Int → Int → Heap → OR) (x : Int) : pmR (acall AXE AXF 1001000) 1001001 K true x 3 0 20 28 pmG_t28 = K true x (.gptr 3 0) 20 29 pmG_t29 := by kernel_rfl
theorem pme_t7 : ok1 (pmJ (acall AXE AXF 1001000) 1001001 true 7 (.gptr 3 0) 7 pmG_t7) = true := by kernel_rfl
theorem pme_t15 : ok1 (pmJ (acall AXE AXF 1001000) 1001001 true 15 (.gptr 3 0) 15 pmG_t15) = true := by kernel_rfl
theorem pme_t23 : ok1 (pmJ (acall AXE AXF 1001000) 1001001 true 23 (.gptr 3 0) 20 pmG_t23) = true := by kernel_rfl
theorem pms_f (K : Bool → Int → Cell → Int → Int → Heap → OR) (x : Int) (h1 : decide (x < (1 : Int)) = false) (h2 : decide (x > (30 : Int)) = false) : pmS (acall AXE AXF 1001000) 1001001 K false x [] = K false x (.gptr 3 0) 0 0 pmG_f0 := by
 unfold pmS
 rw [h1, h2]
 kernel_rfl
end AX
end Go.Proofs.YtnkppakkeobegaaGreatDoor
