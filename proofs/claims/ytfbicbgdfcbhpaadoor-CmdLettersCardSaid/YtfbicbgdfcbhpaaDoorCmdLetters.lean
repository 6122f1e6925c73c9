/-
  law06.CmdLetters: the claim.
-/
import Derived.Test.YtfbicbgdfcbhpaaDoorCmLetters
import Derived.Test.YtfbicbgdfcbhpaaDoorCxOk
import Derived.Test.YtfbicbgdfcbhpaaDoorCmFit
import Derived.Test.YtfbicbgdfcbhpaaDoorRow4
set_option maxRecDepth 20000
set_option linter.unusedVariables false
set_option linter.unusedSimpArgs false
set_option linter.unusedSectionVars false
namespace Go.Proofs.YtfbicbgdfcbhpaaDoor
open Go.ChangeMaps Go.ChangeShapes Go.WideShapes Go.ChangeAt Go.RowKit
theorem cmdLetters_law : LawWalk4 5 Tryd.f5 := by
  intro H enc W base args ds ps hA hval hlib
  refine AX.law_calls (m := 6) AX.AXE_ok (by kernel_rfl) AX.AXF_ok (by kernel_rfl) (fun xs hx => ?_) hA hval hlib
  rw [Tryd.params5] at hx
  obtain ⟨x, y, rfl, h1, h2⟩ := hx.two
  obtain ⟨l, rfl, hl⟩ := AX.fit_str (by kernel_rfl) h1
  obtain ⟨t, rfl⟩ := AX.fit_bools (e := 4) (by kernel_rfl) (by kernel_rfl) h2
  exact ⟨10001, AX.letters_law l t⟩

set_option maxRecDepth 100000 in
theorem cmdLetters_lib (W : World) (h : laidMetH Tryd.prog Rows.cmdLettersRow.laid W) (hsh : W.ShapedOpen Tryd.prog) : LibAt W := by
  have h2 : laidMet Tryd.prog Rows.cmdLettersRow.laid W := h
  exact LibAt.of (by kernel_rfl) rfl rfl h2 hsh
set_option maxRecDepth 1000000 in
theorem cmdLetters_laid (os : Os) (args : Array Value) : laidMet Tryd.prog Rows.cmdLettersRow.laid ((laidWorld os).forCall (fun _ _ => 0) ⟨#[], args, []⟩).memory :=
  laidMet_of_run' 8 (by kernel_rfl) (by kernel_rfl)
set_option maxRecDepth 100000 in
theorem cmdLetters_row : Rows.CmdLettersSaid :=
  OpenClaim.holds_of_cond 5 Tryd.f5 rfl rfl rfl rfl rfl rfl rfl ⟨rfl, rfl, rfl, rfl, rfl⟩ rfl rfl rfl rfl rfl (by kernel_rfl) Tryd.func5 (by kernel_rfl)
    (of_decide_eq_true (by kernel_rfl)) (by unfold Func.isWrapper; first | (rw [if_pos (by decide +kernel)]; kernel_rfl) | (rw [if_neg (by decide +kernel)]; exact ⟨rfl, rfl⟩))
    (fun os started H enc _ F0 => by
      rw [OpenClaim.pre_eq_preRow]
      exact law_lift4 (s := Rows.cmdLettersSpec) Tryd.func5 (by kernel_rfl) (by kernel_rfl) rfl (fun H ds hd => by match ds, hd with | [_, _], _ => rfl) (by kernel_rfl) os started H enc F0
        (witness_row_at (enc := enc) (C := Tryd.checked) false (laidWorld os) #[.string ⟨#[]⟩, .slice none 0 0] rfl (by kernel_rfl) (by kernel_rfl) (by kernel_rfl)
          (OpenSpec.preRow_of_B rfl 8 (by kernel_rfl) (by kernel_rfl) (cmdLetters_laid os _))) cmdLetters_lib cmdLetters_law)
set_option maxRecDepth 100000 in
theorem cmdLetters_holds : Rows.CmdLettersCardSaid :=
  Claim7.holds_tied_plain_at .later [] [.data, .data, .data, .data, .sentinel, .sentinel, .pinned] true (true, "26be4a89e273cfd0048183963a3103fb579f1cb268b2f44980b0d8acd37b2531") true
    cmdLetters_row (fun _ h => by cases h) (by kernel_rfl) (fun _ h => by cases h) cmdLetters_row_tie rfl ⟨rfl, rfl⟩ (by kernel_rfl) rfl
    (fun f fn hf hfn => by
      obtain rfl : f = 5 := Option.some.inj ((show Tryd.prog.funcNamed Rows.cmdLettersRow.func = some 5 by kernel_rfl).symm.trans hf) |>.symm
      obtain rfl : fn = Tryd.f5 := (Option.some.inj (Tryd.func5.symm.trans hfn)).symm
      exact ⟨by kernel_rfl, fun j t ht => (wants_none (by kernel_rfl)) j t ht⟩)
    (by kernel_rfl)
#print axioms cmdLetters_holds
end Go.Proofs.YtfbicbgdfcbhpaaDoor
