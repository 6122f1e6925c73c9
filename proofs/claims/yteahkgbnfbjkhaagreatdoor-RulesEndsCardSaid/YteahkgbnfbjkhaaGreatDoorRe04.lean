/-
  RulesEndsC.
-/
import Derived.Test.YteahkgbnfbjkhaaGreatDoorRe03
set_option maxRecDepth 20000
set_option linter.unusedVariables false
set_option linter.unusedSimpArgs false
set_option linter.unusedSectionVars false
namespace Go.Proofs.YteahkgbnfbjkhaaGreatDoor
open Go.ChangeMaps Go.ChangeShapes Go.WideShapes Go.ChangeAt Go.RowKit
set_option maxRecDepth 100000 in
theorem rulesEnds_lib (W : World) (h : laidMetH Tryz.prog Rows.rulesEndsRow.laid W) (hsh : W.ShapedOpen Tryz.prog) : LibAt W := by
 have h2 : laidMet Tryz.prog Rows.rulesEndsRow.laid W := h
 exact LibAt.of (by kernel_rfl) rfl rfl h2 hsh
set_option maxRecDepth 1000000 in
theorem rulesEnds_laid (os : Os) (args : Array Value) : laidMet Tryz.prog Rows.rulesEndsRow.laid ((laidWorld os).forCall (fun _ _ => 0) ⟨#[], args, []⟩).memory :=
 laidMet_of_run' 8 (by kernel_rfl) (by kernel_rfl)
end Go.Proofs.YteahkgbnfbjkhaaGreatDoor
