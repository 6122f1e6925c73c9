/-
  PmS4.
-/
import Derived.Test.YtnkppakkeobegaaGreatDoorZM20
set_option maxRecDepth 20000
set_option linter.unusedVariables false
set_option linter.unusedSimpArgs false
set_option linter.unusedSectionVars false
namespace Go.Proofs.YtnkppakkeobegaaGreatDoor
namespace AX
theorem pmr_f4 (K : Bool → Int → Cell → Int → Int → Heap → OR) (x : Int) : pmR (acall AXE AXF 1001000) 1001001 K false x 3 0 4 4 pmG_f4 = K false x (.gptr 3 0) 5 5 pmG_f5 := by kernel_rfl
theorem pmr_f12 (K : Bool → Int → Cell → Int → Int → Heap → OR) (x : Int) : pmR (acall AXE AXF 1001000) 1001001 K false x 3 0 12 12 pmG_f12 = K false x (.gptr 3 0) 13 13 pmG_f13 := by kernel_rfl
theorem pmr_f20 (K : Bool → Int → Cell → Int → Int → Heap → OR) (x : Int) : pmR (acall AXE AXF 1001000) 1001001 K false x 3 0 20 20 pmG_f20 = K false x (.gptr 3 0) 20 21 pmG_f21 := by kernel_rfl
theorem pmr_f28 (K : Bool → Int → Cell → Int → Int → Heap → OR) (x : Int) : pmR (acall AXE AXF 1001000) 1001001 K false x 3 0 20 28 pmG_f28 = K false x (.gptr 3 0) 20 29 pmG_f29 := by kernel_rfl
theorem pme_f7 : ok1 (pmJ (acall AXE AXF 1001000) 1001001 false 7 (.gptr 3 0) 7 pmG_f7) = true := by kernel_rfl
theorem pme_f15 : ok1 (pmJ (acall AXE AXF 1001000) 1001001 false 15 (.gptr 3 0) 15 pmG_f15) = true := by kernel_rfl
theorem pme_f23 : ok1 (pmJ (acall AXE AXF 1001000) 1001001 false 23 (.gptr 3 0) 20 pmG_f23) = true := by kernel_rfl
theorem pmr_t0 (K : Bool → Int → Cell → Int → Int → Heap → OR) (x : Int) : pmR (acall AXE AXF 1001000) 1001001 K true x 3 0 0 0 pmG_t0 = K true x (.gptr 3 0) 1 1 pmG_t1 := by kernel_rfl
theorem pmr_t8 (K : Bool → Int → Cell → Int → Int → Heap → OR) (x : Int) : pmR (acall AXE AXF 1001000) 1001001 K true x 3 0 8 8 pmG_t8 = K true x (.gptr 3 0) 9 9 pmG_t9 := by kernel_rfl
theorem pmr_t16 (K : Bool → Int → Cell → Int → Int → Heap → OR) (x : Int) : pmR (acall AXE AXF 1001000) 1001001 K true x 3 0 16 16 pmG_t16 = K true x (.gptr 3 0) 17 17 pmG_t17 := by kernel_rfl
theorem pmr_t24 (K : Bool → Int → Cell → Int → Int → Heap → OR) (x : Int) : pmR (acall AXE AXF 1001000) 1001001 K true x 3 0 20 24 pmG_t24 = K true x (.gptr 3 0) 20 25 pmG_t25 := by kernel_rfl
theorem pme_t3 : ok1 (pmJ (acall AXE AXF 1001000) 1001001 true 3 (.gptr 3 0) 3 pmG_t3) = true := by kernel_rfl
theorem pme_t11 : ok1 (pmJ (acall AXE AXF 1001000) 1001001 true 11 (.gptr 3 0) 11 pmG_t11) = true := by kernel_rfl
theorem pme_t19 : ok1 (pmJ (acall AXE AXF 1001000) 1001001 true 19 (.gptr 3 0) 19 pmG_t19) = true := by kernel_rfl
theorem pme_t27 : ok1 (pmJ (acall AXE AXF 1001000) 1001001 true 27 (.gptr 3 0) 20 pmG_t27) = true := by kernel_rfl
end AX
end Go.Proofs.YtnkppakkeobegaaGreatDoor
