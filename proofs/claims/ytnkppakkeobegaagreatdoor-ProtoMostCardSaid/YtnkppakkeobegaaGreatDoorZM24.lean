/-
  PmS3.
-/
import Derived.Test.YtnkppakkeobegaaGreatDoorZM20
set_option maxRecDepth 20000
set_option linter.unusedVariables false
set_option linter.unusedSimpArgs false
set_option linter.unusedSectionVars false
namespace Go.Proofs.YtnkppakkeobegaaGreatDoor
namespace AX
theorem pmr_f3 (K : Bool → Int → Cell → Int → Int → Heap → OR) (x : Int) : pmR (acall AXE AXF 1001000) 1001001 K false x 3 0 3 3 pmG_f3 = K false x (.gptr 3 0) 4 4 pmG_f4 := by kernel_rfl
theorem pmr_f11 (K : Bool → Int → Cell → Int → Int → Heap → OR) (x : Int) : pmR (acall AXE AXF 1001000) 1001001 K false x 3 0 11 11 pmG_f11 = K false x (.gptr 3 0) 12 12 pmG_f12 := by kernel_rfl
theorem pmr_f19 (K : Bool → Int → Cell → Int → Int → Heap → OR) (x : Int) : pmR (acall AXE AXF 1001000) 1001001 K false x 3 0 19 19 pmG_f19 = K false x (.gptr 3 0) 20 20 pmG_f20 := by kernel_rfl
theorem pmr_f27 (K : Bool → Int → Cell → Int → Int → Heap → OR) (x : Int) : pmR (acall AXE AXF 1001000) 1001001 K false x 3 0 20 27 pmG_f27 = K false x (.gptr 3 0) 20 28 pmG_f28 := by kernel_rfl
theorem pme_f6 : ok1 (pmJ (acall AXE AXF 1001000) 1001001 false 6 (.gptr 3 0) 6 pmG_f6) = true := by kernel_rfl
theorem pme_f14 : ok1 (pmJ (acall AXE AXF 1001000) 1001001 false 14 (.gptr 3 0) 14 pmG_f14) = true := by kernel_rfl
theorem pme_f22 : ok1 (pmJ (acall AXE AXF 1001000) 1001001 false 22 (.gptr 3 0) 20 pmG_f22) = true := by kernel_rfl
theorem pme_f30 : ok1 (pmJ (acall AXE AXF 1001000) 1001001 false 30 (.gptr 3 0) 20 pmG_f30) = true := by kernel_rfl
theorem pmr_t7 (K : Bool → Int → Cell → Int → Int → Heap → OR) (x : Int) : pmR (acall AXE AXF 1001000) 1001001 K true x 3 0 7 7 pmG_t7 = K true x (.gptr 3 0) 8 8 pmG_t8 := by kernel_rfl
theorem pmr_t15 (K : Bool → Int → Cell → Int → Int → Heap → OR) (x : Int) : pmR (acall AXE AXF 1001000) 1001001 K true x 3 0 15 15 pmG_t15 = K true x (.gptr 3 0) 16 16 pmG_t16 := by kernel_rfl
theorem pmr_t23 (K : Bool → Int → Cell → Int → Int → Heap → OR) (x : Int) : pmR (acall AXE AXF 1001000) 1001001 K true x 3 0 20 23 pmG_t23 = K true x (.gptr 3 0) 20 24 pmG_t24 := by kernel_rfl
theorem pme_t2 : ok1 (pmJ (acall AXE AXF 1001000) 1001001 true 2 (.gptr 3 0) 2 pmG_t2) = true := by kernel_rfl
theorem pme_t10 : ok1 (pmJ (acall AXE AXF 1001000) 1001001 true 10 (.gptr 3 0) 10 pmG_t10) = true := by kernel_rfl
theorem pme_t18 : ok1 (pmJ (acall AXE AXF 1001000) 1001001 true 18 (.gptr 3 0) 18 pmG_t18) = true := by kernel_rfl
theorem pme_t26 : ok1 (pmJ (acall AXE AXF 1001000) 1001001 true 26 (.gptr 3 0) 20 pmG_t26) = true := by kernel_rfl
theorem pms_high (K : Bool → Int → Cell → Int → Int → Heap → OR) (l : Bool) (x : Int) (h1 : decide (x < (1 : Int)) = false) (h2 : decide (x > (30 : Int)) = true) : ok1 (pmS (acall AXE AXF 1001000) 1001001 K l x []) = true := by
 unfold pmS
 rw [h1, h2]
 kernel_rfl
end AX
end Go.Proofs.YtnkppakkeobegaaGreatDoor
