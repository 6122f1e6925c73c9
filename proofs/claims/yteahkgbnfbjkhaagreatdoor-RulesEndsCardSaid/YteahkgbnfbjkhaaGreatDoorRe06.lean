/-
  RulesEndsB.
-/
import Derived.Test.YteahkgbnfbjkhaaGreatDoorRe03
set_option maxRecDepth 20000
set_option linter.unusedVariables false
set_option linter.unusedSimpArgs false
set_option linter.unusedSectionVars false
namespace Go.Proofs.YteahkgbnfbjkhaaGreatDoor
open Go.ChangeMaps Go.ChangeShapes Go.WideShapes Go.ChangeAt Go.RowKit
set_option maxRecDepth 100000 in
theorem rulesEnds_holds_of (hrow : Rows.RulesEndsSaid) : Rows.RulesEndsCardSaid :=
 Claim7.holds_tied_plain_at .later [] [.data, .data, .data, .data, .sentinel, .sentinel, .sentinel, .pinned] true (true, "5ff94a98d1a929c79ba50acf78f755e9f43f7e335b1c975d8b71047daa105804") true
  hrow (fun _ h => by cases h) (by kernel_rfl) (fun _ h => by cases h) rulesEnds_row_tie rfl ⟨rfl, rfl⟩ (by kernel_rfl) rfl
  (fun f fn hf hfn => by
   obtain rfl : f = 3 := Option.some.inj ((show Tryz.prog.funcNamed Rows.rulesEndsRow.func = some 3 by kernel_rfl).symm.trans hf) |>.symm
   obtain rfl : fn = Tryz.f3 := (Option.some.inj (Tryz.func3.symm.trans hfn)).symm
   exact ⟨by kernel_rfl, fun j t ht => (wants_none (by kernel_rfl)) j t ht⟩)
  (by kernel_rfl)
end Go.Proofs.YteahkgbnfbjkhaaGreatDoor
