/-
  PmS6, PmS7.
-/
import Derived.Test.YtnkppakkeobegaaGreatDoorZM20
set_option maxRecDepth 20000
set_option linter.unusedVariables false
set_option linter.unusedSimpArgs false
set_option linter.unusedSectionVars false
namespace Go.Proofs.YtnkppakkeobegaaGreatDoor
namespace AX
theorem pmr_f6 (K : Bool → Int → Cell → Int → Int → Heap → OR) (x : Int) : pmR (acall AXE AXF 1001000) 1001001 K false x 3 0 6 6 pmG_f6 = K false x (.gptr 3 0) 7 7 pmG_f7 := by kernel_rfl
theorem pmr_f14 (K : Bool → Int → Cell → Int → Int → Heap → OR) (x : Int) : pmR (acall AXE AXF 1001000) 1001001 K false x 3 0 14 14 pmG_f14 = K false x (.gptr 3 0) 15 15 pmG_f15 := by kernel_rfl
theorem pmr_f22 (K : Bool → Int → Cell → Int → Int → Heap → OR) (x : Int) : pmR (acall AXE AXF 1001000) 1001001 K false x 3 0 20 22 pmG_f22 = K false x (.gptr 3 0) 20 23 pmG_f23 := by kernel_rfl
theorem pme_f1 : ok1 (pmJ (acall AXE AXF 1001000) 1001001 false 1 (.gptr 3 0) 1 pmG_f1) = true := by kernel_rfl
theorem pme_f9 : ok1 (pmJ (acall AXE AXF 1001000) 1001001 false 9 (.gptr 3 0) 9 pmG_f9) = true := by kernel_rfl
theorem pme_f17 : ok1 (pmJ (acall AXE AXF 1001000) 1001001 false 17 (.gptr 3 0) 17 pmG_f17) = true := by kernel_rfl
theorem pme_f25 : ok1 (pmJ (acall AXE AXF 1001000) 1001001 false 25 (.gptr 3 0) 20 pmG_f25) = true := by kernel_rfl
theorem pmr_t2 (K : Bool → Int → Cell → Int → Int → Heap → OR) (x : Int) : pmR (acall AXE AXF 1001000) 1001001 K true x 3 0 2 2 pmG_t2 = K true x (.gptr 3 0) 3 3 pmG_t3 := by kernel_rfl
theorem pmr_t10 (K : Bool → Int → Cell → Int → Int → Heap → OR) (x : Int) : pmR (acall AXE AXF 1001000) 1001001 K true x 3 0 10 10 pmG_t10 = K true x (.gptr 3 0) 11 11 pmG_t11 := by kernel_rfl
theorem pmr_t18 (K : Bool → Int → Cell → Int → Int → Heap → OR) (x : Int) : pmR (acall AXE AXF 1001000) 1001001 K true x 3 0 18 18 pmG_t18 = K true x (.gptr 3 0) 19 19 pmG_t19 := by kernel_rfl
theorem pmr_t26 (K : Bool → Int → Cell → Int → Int → Heap → OR) (x : Int) : pmR (acall AXE AXF 1001000) 1001001 K true x 3 0 20 26 pmG_t26 = K true x (.gptr 3 0) 20 27 pmG_t27 := by kernel_rfl
theorem pme_t5 : ok1 (pmJ (acall AXE AXF 1001000) 1001001 true 5 (.gptr 3 0) 5 pmG_t5) = true := by kernel_rfl
theorem pme_t13 : ok1 (pmJ (acall AXE AXF 1001000) 1001001 true 13 (.gptr 3 0) 13 pmG_t13) = true := by kernel_rfl
theorem pme_t21 : ok1 (pmJ (acall AXE AXF 1001000) 1001001 true 21 (.gptr 3 0) 20 pmG_t21) = true := by kernel_rfl
theorem pme_t29 : ok1 (pmJ (acall AXE AXF 1001000) 1001001 true 29 (.gptr 3 0) 20 pmG_t29) = true := by kernel_rfl
end AX
end Go.Proofs.YtnkppakkeobegaaGreatDoor
set_option maxRecDepth 20000
set_option linter.unusedVariables false
set_option linter.unusedSimpArgs false
set_option linter.unusedSectionVars false
namespace Go.Proofs.YtnkppakkeobegaaGreatDoor
namespace AX
theorem pmr_f7 (K : Bool → Int → Cell → Int → Int → Heap → OR) (x : Int) : pmR (acall AXE AXF 1001000) 1001001 K false x 3 0 7 7 pmG_f7 = K false x (.gptr 3 0) 8 8 pmG_f8 := by kernel_rfl
theorem pmr_f15 (K : Bool → Int → Cell → Int → Int → Heap → OR) (x : Int) : pmR (acall AXE AXF 1001000) 1001001 K false x 3 0 15 15 pmG_f15 = K false x (.gptr 3 0) 16 16 pmG_f16 := by kernel_rfl
theorem pmr_f23 (K : Bool → Int → Cell → Int → Int → Heap → OR) (x : Int) : pmR (acall AXE AXF 1001000) 1001001 K false x 3 0 20 23 pmG_f23 = K false x (.gptr 3 0) 20 24 pmG_f24 := by kernel_rfl
theorem pme_f2 : ok1 (pmJ (acall AXE AXF 1001000) 1001001 false 2 (.gptr 3 0) 2 pmG_f2) = true := by kernel_rfl
theorem pme_f10 : ok1 (pmJ (acall AXE AXF 1001000) 1001001 false 10 (.gptr 3 0) 10 pmG_f10) = true := by kernel_rfl
theorem pme_f18 : ok1 (pmJ (acall AXE AXF 1001000) 1001001 false 18 (.gptr 3 0) 18 pmG_f18) = true := by kernel_rfl
theorem pme_f26 : ok1 (pmJ (acall AXE AXF 1001000) 1001001 false 26 (.gptr 3 0) 20 pmG_f26) = true := by kernel_rfl
theorem pmr_t3 (K : Bool → Int → Cell → Int → Int → Heap → OR) (x : Int) : pmR (acall AXE AXF 1001000) 1001001 K true x 3 0 3 3 pmG_t3 = K true x (.gptr 3 0) 4 4 pmG_t4 := by kernel_rfl
theorem pmr_t11 (K : Bool → Int → Cell → Int → Int → Heap → OR) (x : Int) : pmR (acall AXE AXF 1001000) 1001001 K true x 3 0 11 11 pmG_t11 = K true x (.gptr 3 0) 12 12 pmG_t12 := by kernel_rfl
theorem pmr_t19 (K : Bool → Int → Cell → Int → Int → Heap → OR) (x : Int) : pmR (acall AXE AXF 1001000) 1001001 K true x 3 0 19 19 pmG_t19 = K true x (.gptr 3 0) 20 20 pmG_t20 := by kernel_rfl
theorem pmr_t27 (K : Bool → Int → Cell → Int → Int → Heap → OR) (x : Int) : pmR (acall AXE AXF 1001000) 1001001 K true x 3 0 20 27 pmG_t27 = K true x (.gptr 3 0) 20 28 pmG_t28 := by kernel_rfl
theorem pme_t6 : ok1 (pmJ (acall AXE AXF 1001000) 1001001 true 6 (.gptr 3 0) 6 pmG_t6) = true := by kernel_rfl
theorem pme_t14 : ok1 (pmJ (acall AXE AXF 1001000) 1001001 true 14 (.gptr 3 0) 14 pmG_t14) = true := by kernel_rfl
theorem pme_t22 : ok1 (pmJ (acall AXE AXF 1001000) 1001001 true 22 (.gptr 3 0) 20 pmG_t22) = true := by kernel_rfl
theorem pme_t30 : ok1 (pmJ (acall AXE AXF 1001000) 1001001 true 30 (.gptr 3 0) 20 pmG_t30) = true := by kernel_rfl
end AX
end Go.Proofs.YtnkppakkeobegaaGreatDoor
