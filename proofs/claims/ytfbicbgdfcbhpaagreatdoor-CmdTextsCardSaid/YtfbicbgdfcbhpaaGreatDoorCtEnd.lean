/-
  CmdTexts.
-/
import Derived.Test.YtfbicbgdfcbhpaaGreatDoorCt44
import Derived.Test.YtfbicbgdfcbhpaaGreatDoorCt09
set_option maxRecDepth 20000
set_option linter.unusedVariables false
set_option linter.unusedSimpArgs false
set_option linter.unusedSectionVars false
namespace Go.Proofs.YtfbicbgdfcbhpaaGreatDoor
open Go.ChangeMaps Go.ChangeShapes Go.WideShapes Go.ChangeAt Go.RowKit
theorem cmdTexts_law : LawWalk4 5 Tryz.f5 := by
 intro H enc W base args ds ps hA hval hlib
 refine AX.law_calls (m := 6) AX.AXE_ok (by kernel_rfl) AX.AXF_ok (by kernel_rfl) (fun xs hx => ?_) hA hval hlib
 rw [Tryz.params5] at hx
 obtain ⟨x, rfl, h1⟩ := hx.one
 obtain ⟨c, rfl, hs, hb⟩ := AX.fit_cmd (fs := [(0, 1, 3), (1, 1, 9), (2, 2, 38), (4, 1, 4), (5, 1, 3), (6, 1, 3)]) (by kernel_rfl) h1
 exact ⟨10001, AX.texts_law c hs hb⟩
set_option maxRecDepth 100000 in
theorem cmdTexts_lib (W : World) (h : laidMetH Tryz.prog Rows.cmdTextsRow.laid W) (hsh : W.ShapedOpen Tryz.prog) : LibAt W := by
 have h2 : laidMet Tryz.prog Rows.cmdTextsRow.laid W := h
 exact LibAt.of (by kernel_rfl) rfl rfl h2 hsh
set_option maxRecDepth 1000000 in
theorem cmdTexts_laid (os : Os) (args : Array Value) : laidMet Tryz.prog Rows.cmdTextsRow.laid ((laidWorld os).forCall (fun _ _ => 0) ⟨#[], args, []⟩).memory :=
 laidMet_of_run' 8 (by kernel_rfl) (by kernel_rfl)
set_option maxRecDepth 100000 in
theorem cmdTexts_row : Rows.CmdTextsSaid :=
 OpenClaim.holds_of_cond 5 Tryz.f5 rfl rfl rfl rfl rfl rfl rfl ⟨rfl, rfl, rfl, rfl, rfl⟩ rfl rfl rfl rfl rfl (by kernel_rfl) Tryz.func5 (by kernel_rfl)
  (of_decide_eq_true (by kernel_rfl)) (by unfold Func.isWrapper; first | (rw [if_pos (by decide +kernel)]; kernel_rfl) | (rw [if_neg (by decide +kernel)]; exact ⟨rfl, rfl⟩))
  (fun os started H enc _ F0 => by
   rw [OpenClaim.pre_eq_preRow]
   exact law_lift4 (s := Rows.cmdTextsSpec) Tryz.func5 (by kernel_rfl) (by kernel_rfl) rfl (fun H ds hd => by match ds, hd with | [_], _ => rfl) (by kernel_rfl) os started H enc F0
    (witness_row_at (enc := enc) (C := Tryz.checked) false (laidWorld os) #[.agg #[.int .i64 0, .string ⟨#[]⟩, .string ⟨#[]⟩, .string ⟨#[]⟩, .bool false, .int .i64 0, .int .i64 0]] rfl (by kernel_rfl) (by kernel_rfl) (by kernel_rfl)
     (OpenSpec.preRow_of_B rfl 8 (by kernel_rfl) (by kernel_rfl) (cmdTexts_laid os _))) cmdTexts_lib cmdTexts_law)
set_option maxRecDepth 100000 in
theorem cmdTexts_holds : Rows.CmdTextsCardSaid :=
 Claim7.holds_tied_plain_at .later [] [.data, .data, .data, .data, .sentinel, .sentinel, .pinned] true (true, "5aa9ecde70947d10225ee74916cd3a69417deef51b04a94c0b312775cc69d915") true
  cmdTexts_row (fun _ h => by cases h) (by kernel_rfl) (fun _ h => by cases h) cmdTexts_row_tie rfl ⟨rfl, rfl⟩ (by kernel_rfl) rfl
  (fun f fn hf hfn => by
   obtain rfl : f = 5 := Option.some.inj ((show Tryz.prog.funcNamed Rows.cmdTextsRow.func = some 5 by kernel_rfl).symm.trans hf) |>.symm
   obtain rfl : fn = Tryz.f5 := (Option.some.inj (Tryz.func5.symm.trans hfn)).symm
   exact ⟨by kernel_rfl, fun j t ht => (wants_none (by kernel_rfl)) j t ht⟩)
  (by kernel_rfl)
#print axioms cmdTexts_holds
end Go.Proofs.YtfbicbgdfcbhpaaGreatDoor
