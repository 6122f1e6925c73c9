/-
  PmS2.
-/
import Derived.Test.YtnkppakkeobegaaGreatDoorZM20
set_option maxRecDepth 20000
set_option linter.unusedVariables false
set_option linter.unusedSimpArgs false
set_option linter.unusedSectionVars false
namespace Go.Proofs.YtnkppakkeobegaaGreatDoor
namespace AX
theorem pmr_f2 (K : Bool → Int → Cell → Int → Int → Heap → OR) (x : Int) : pmR (acall AXE AXF 1001000) 1001001 K false x 3 0 2 2 pmG_f2 = K false x (.gptr 3 0) 3 3 pmG_f3 := by kernel_rfl
theorem pmr_f10 (K : Bool → Int → Cell → Int → Int → Heap → OR) (x : Int) : pmR (acall AXE AXF 1001000) 1001001 K false x 3 0 10 10 pmG_f10 = K false x (.gptr 3 0) 11 11 pmG_f11 := by kernel_rfl
theorem pmr_f18 (K : Bool → Int → Cell → Int → Int → Heap → OR) (x : Int) : pmR (acall AXE AXF 1001000) 1001001 K false x 3 0 18 18 pmG_f18 = K false x (.gptr 3 0) 19 19 pmG_f19 := by kernel_rfl
theorem pmr_f26 (K : Bool → Int → Cell → Int → Int → Heap → OR) (x : Int) : pmR (acall AXE AXF 1001000) 1001001 K false x 3 0 20 26 pmG_f26 = K false x (.gptr 3 0) 20 27 pmG_f27 := by kernel_rfl
theorem pme_f5 : ok1 (pmJ (acall AXE AXF 1001000) 1001001 false 5 (.gptr 3 0) 5 pmG_f5) = true := by kernel_rfl
theorem pme_f13 : ok1 (pmJ (acall AXE AXF 1001000) 1001001 false 13 (.gptr 3 0) 13 pmG_f13) = true := by kernel_rfl
theorem pme_f21 : ok1 (pmJ (acall AXE AXF 1001000) 1001001 false 21 (.gptr 3 0) 20 pmG_f21) = true := by kernel_rfl
theorem pme_f29 : ok1 (pmJ (acall AXE AXF 1001000) 1001001 false 29 (.gptr 3 0) 20 pmG_f29) = true := by kernel_rfl
theorem pmr_t6 (K : Bool → Int → Cell → Int → Int → Heap → OR) (x : Int) : pmR (acall AXE AXF 1001000) 1001001 K true x 3 0 6 6 pmG_t6 = K true x (.gptr 3 0) 7 7 pmG_t7 := by kernel_rfl
theorem pmr_t14 (K : Bool → Int → Cell → Int → Int → Heap → OR) (x : Int) : pmR (acall AXE AXF 1001000) 1001001 K true x 3 0 14 14 pmG_t14 = K true x (.gptr 3 0) 15 15 pmG_t15 := by kernel_rfl
theorem pmr_t22 (K : Bool → Int → Cell → Int → Int → Heap → OR) (x : Int) : pmR (acall AXE AXF 1001000) 1001001 K true x 3 0 20 22 pmG_t22 = K true x (.gptr 3 0) 20 23 pmG_t23 := by kernel_rfl
theorem pme_t1 : ok1 (pmJ (acall AXE AXF 1001000) 1001001 true 1 (.gptr 3 0) 1 pmG_t1) = true := by kernel_rfl
theorem pme_t9 : ok1 (pmJ (acall AXE AXF 1001000) 1001001 true 9 (.gptr 3 0) 9 pmG_t9) = true := by kernel_rfl
theorem pme_t17 : ok1 (pmJ (acall AXE AXF 1001000) 1001001 true 17 (.gptr 3 0) 17 pmG_t17) = true := by kernel_rfl
theorem pme_t25 : ok1 (pmJ (acall AXE AXF 1001000) 1001001 true 25 (.gptr 3 0) 20 pmG_t25) = true := by kernel_rfl
theorem pms_low (K : Bool → Int → Cell → Int → Int → Heap → OR) (l : Bool) (x : Int) (h1 : decide (x < (1 : Int)) = true) : ok1 (pmS (acall AXE AXF 1001000) 1001001 K l x []) = true := by
 unfold pmS
 rw [h1]
 kernel_rfl
end AX
end Go.Proofs.YtnkppakkeobegaaGreatDoor
