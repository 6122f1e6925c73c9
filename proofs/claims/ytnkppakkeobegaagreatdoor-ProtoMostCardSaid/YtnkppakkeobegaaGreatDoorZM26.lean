/-
  PmS5.
-/
import Derived.Test.YtnkppakkeobegaaGreatDoorZM20
set_option maxRecDepth 20000
set_option linter.unusedVariables false
set_option linter.unusedSimpArgs false
set_option linter.unusedSectionVars false
namespace Go.Proofs.YtnkppakkeobegaaGreatDoor
namespace AX
theorem pmr_f5 (K : Bool → Int → Cell → Int → Int → Heap → OR) (x : Int) : pmR (acall AXE AXF 1001000) 1001001 K false x 3 0 5 5 pmG_f5 = K false x (.gptr 3 0) 6 6 pmG_f6 := by kernel_rfl
theorem pmr_f13 (K : Bool → Int → Cell → Int → Int → Heap → OR) (x : Int) : pmR (acall AXE AXF 1001000) 1001001 K false x 3 0 13 13 pmG_f13 = K false x (.gptr 3 0) 14 14 pmG_f14 := by kernel_rfl
theorem pmr_f21 (K : Bool → Int → Cell → Int → Int → Heap → OR) (x : Int) : pmR (acall AXE AXF 1001000) 1001001 K false x 3 0 20 21 pmG_f21 = K false x (.gptr 3 0) 20 22 pmG_f22 := by kernel_rfl
theorem pmr_f29 (K : Bool → Int → Cell → Int → Int → Heap → OR) (x : Int) : pmR (acall AXE AXF 1001000) 1001001 K false x 3 0 20 29 pmG_f29 = K false x (.gptr 3 0) 20 30 pmG_f30 := by kernel_rfl
theorem pme_f8 : ok1 (pmJ (acall AXE AXF 1001000) 1001001 false 8 (.gptr 3 0) 8 pmG_f8) = true := by kernel_rfl
theorem pme_f16 : ok1 (pmJ (acall AXE AXF 1001000) 1001001 false 16 (.gptr 3 0) 16 pmG_f16) = true := by kernel_rfl
theorem pme_f24 : ok1 (pmJ (acall AXE AXF 1001000) 1001001 false 24 (.gptr 3 0) 20 pmG_f24) = true := by kernel_rfl
theorem pmr_t1 (K : Bool → Int → Cell → Int → Int → Heap → OR) (x : Int) : pmR (acall AXE AXF 1001000) 1001001 K true x 3 0 1 1 pmG_t1 = K true x (.gptr 3 0) 2 2 pmG_t2 := by kernel_rfl
theorem pmr_t9 (K : Bool → Int → Cell → Int → Int → Heap → OR) (x : Int) : pmR (acall AXE AXF 1001000) 1001001 K true x 3 0 9 9 pmG_t9 = K true x (.gptr 3 0) 10 10 pmG_t10 := by kernel_rfl
theorem pmr_t17 (K : Bool → Int → Cell → Int → Int → Heap → OR) (x : Int) : pmR (acall AXE AXF 1001000) 1001001 K true x 3 0 17 17 pmG_t17 = K true x (.gptr 3 0) 18 18 pmG_t18 := by kernel_rfl
theorem pmr_t25 (K : Bool → Int → Cell → Int → Int → Heap → OR) (x : Int) : pmR (acall AXE AXF 1001000) 1001001 K true x 3 0 20 25 pmG_t25 = K true x (.gptr 3 0) 20 26 pmG_t26 := by kernel_rfl
theorem pme_t4 : ok1 (pmJ (acall AXE AXF 1001000) 1001001 true 4 (.gptr 3 0) 4 pmG_t4) = true := by kernel_rfl
theorem pme_t12 : ok1 (pmJ (acall AXE AXF 1001000) 1001001 true 12 (.gptr 3 0) 12 pmG_t12) = true := by kernel_rfl
theorem pme_t20 : ok1 (pmJ (acall AXE AXF 1001000) 1001001 true 20 (.gptr 3 0) 20 pmG_t20) = true := by kernel_rfl
theorem pme_t28 : ok1 (pmJ (acall AXE AXF 1001000) 1001001 true 28 (.gptr 3 0) 20 pmG_t28) = true := by kernel_rfl
end AX
end Go.Proofs.YtnkppakkeobegaaGreatDoor
