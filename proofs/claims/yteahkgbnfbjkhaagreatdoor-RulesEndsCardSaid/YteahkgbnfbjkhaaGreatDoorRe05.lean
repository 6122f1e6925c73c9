/-
  RulesEndsA.
-/
import Derived.Test.YteahkgbnfbjkhaaGreatDoorRe03
import Derived.Test.YteahkgbnfbjkhaaGreatDoorRe04
set_option maxRecDepth 20000
set_option linter.unusedVariables false
set_option linter.unusedSimpArgs false
set_option linter.unusedSectionVars false
namespace Go.Proofs.YteahkgbnfbjkhaaGreatDoor
open Go.ChangeMaps Go.ChangeShapes Go.WideShapes Go.ChangeAt Go.RowKit
theorem and2 {a b : Bool} (ha : a = true) (hb : b = true) : (a && b) = true := by rw [ha, hb]; rfl
set_option maxRecDepth 1000000 in
theorem rulesEnds_f1 : (Rows.rulesEndsRow.inPlace == Tryz.pinned.checked.prog.inPlace 3) = true := by kernel_rfl
set_option maxRecDepth 1000000 in
theorem rulesEnds_f2 : (Rows.rulesEndsRow.unfollowed == Tryz.pinned.checked.prog.unfollowed 3) = true := by kernel_rfl
set_option maxRecDepth 1000000 in
theorem rulesEnds_f3 : (Rows.rulesEndsRow.recurses == Tryz.pinned.checked.prog.recurses 3) = true := by kernel_rfl
set_option maxRecDepth 1000000 in
theorem rulesEnds_f4 : (Rows.rulesEndsRow.named == Tryz.pinned.checked.prog.varsNamed 3) = true := by kernel_rfl
set_option maxRecDepth 1000000 in
theorem rulesEnds_closed : joinedFacts Tryz.pinned.checked.prog 3 Tryz.f3 (OpenSpec.ofChange Rows.rulesEndsSpec).bare Rows.rulesEndsRow = true := by
  unfold joinedFacts
  repeat' (with_reducible refine and2 ?_ ?_)
  all_goals first
    | with_reducible exact rulesEnds_f1
    | with_reducible exact rulesEnds_f2
    | with_reducible exact rulesEnds_f3
    | with_reducible exact rulesEnds_f4
    | kernel_rfl
set_option maxRecDepth 100000 in
theorem rulesEnds_row_of (hlaw : LawWalk4 3 Tryz.f3) : Rows.RulesEndsSaid :=
 OpenClaim.holds_of_cond 3 Tryz.f3 rfl rfl rfl rfl rfl rfl rfl ⟨rfl, rfl, rfl, rfl, rfl⟩ rfl rfl rfl rfl rfl (by kernel_rfl) Tryz.func3 rulesEnds_closed
  (of_decide_eq_true (by kernel_rfl)) (by unfold Func.isWrapper; first | (rw [if_pos (by decide +kernel)]; kernel_rfl) | (rw [if_neg (by decide +kernel)]; exact ⟨rfl, rfl⟩))
  (fun os started H enc _ F0 => by
   rw [OpenClaim.pre_eq_preRow]
   exact law_lift4 (s := Rows.rulesEndsSpec) Tryz.func3 (by kernel_rfl) (by kernel_rfl) rfl (fun H ds hd => by match ds, hd with | [_, _, _, _, _], _ => rfl) (by kernel_rfl) os started H enc F0
    (witness_row_at (enc := enc) (C := Tryz.checked) false (laidWorld os) #[.string ⟨#[]⟩, .agg #[.slice none 0 0, .int .i64 0], .agg #[.int .i64 0, .int .i64 0, .string ⟨#[]⟩, .string ⟨#[]⟩, .slice none 0 0, .slice none 0 0, .slice none 0 0], .int .i64 0, .int .i64 0] rfl (by kernel_rfl) (by kernel_rfl) (by kernel_rfl)
     (OpenSpec.preRow_of_B rfl 8 (by kernel_rfl) (by kernel_rfl) (rulesEnds_laid os _))) rulesEnds_lib hlaw)
end Go.Proofs.YteahkgbnfbjkhaaGreatDoor
