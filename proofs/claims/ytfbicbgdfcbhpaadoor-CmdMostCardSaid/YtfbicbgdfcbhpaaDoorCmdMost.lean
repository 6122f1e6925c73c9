/-
  law06.CmdMost: the claim.
-/
import Derived.Test.YtfbicbgdfcbhpaaDoorCmMost
import Derived.Test.YtfbicbgdfcbhpaaDoorCxOk
import Derived.Test.YtfbicbgdfcbhpaaDoorCmFit
import Derived.Test.YtfbicbgdfcbhpaaDoorRow4
set_option maxRecDepth 20000
set_option linter.unusedVariables false
set_option linter.unusedSimpArgs false
set_option linter.unusedSectionVars false
namespace Go.Proofs.YtfbicbgdfcbhpaaDoor
open Go.ChangeMaps Go.ChangeShapes Go.WideShapes Go.ChangeAt Go.RowKit
theorem cmdMost_law : LawWalk4 6 Tryd.f6 := by
  intro H enc W base args ds ps hA hval hlib
  refine AX.law_calls (m := 6) AX.AXE_ok (by kernel_rfl) AX.AXF_ok (by kernel_rfl) (fun xs hx => ?_) hA hval hlib
  rw [Tryd.params6] at hx
  obtain ⟨x, y, z, rfl, h1, h2, h3⟩ := hx.three
  obtain ⟨a, rfl, _⟩ := AX.fit_i64 (by kernel_rfl) h1
  obtain ⟨b, rfl, _⟩ := AX.fit_i64 (by kernel_rfl) h2
  obtain ⟨c, rfl⟩ := AX.fit_u8 (by kernel_rfl) h3
  exact ⟨10001, AX.most_law a b c⟩

set_option maxRecDepth 100000 in
theorem cmdMost_lib (W : World) (h : laidMetH Tryd.prog Rows.cmdMostRow.laid W) (hsh : W.ShapedOpen Tryd.prog) : LibAt W := by
  have h2 : laidMet Tryd.prog Rows.cmdMostRow.laid W := h
  exact LibAt.of (by kernel_rfl) rfl rfl h2 hsh
set_option maxRecDepth 1000000 in
theorem cmdMost_laid (os : Os) (args : Array Value) : laidMet Tryd.prog Rows.cmdMostRow.laid ((laidWorld os).forCall (fun _ _ => 0) ⟨#[], args, []⟩).memory :=
  laidMet_of_run' 8 (by kernel_rfl) (by kernel_rfl)
set_option maxRecDepth 100000 in
theorem cmdMost_row : Rows.CmdMostSaid :=
  OpenClaim.holds_of_cond 6 Tryd.f6 rfl rfl rfl rfl rfl rfl rfl ⟨rfl, rfl, rfl, rfl, rfl⟩ rfl rfl rfl rfl rfl (by kernel_rfl) Tryd.func6 (by kernel_rfl)
    (of_decide_eq_true (by kernel_rfl)) (by unfold Func.isWrapper; first | (rw [if_pos (by decide +kernel)]; kernel_rfl) | (rw [if_neg (by decide +kernel)]; exact ⟨rfl, rfl⟩))
    (fun os started H enc _ F0 => by
      rw [OpenClaim.pre_eq_preRow]
      exact law_lift4 (s := Rows.cmdMostSpec) Tryd.func6 (by kernel_rfl) (by kernel_rfl) rfl (fun H ds hd => by match ds, hd with | [_, _, _], _ => rfl) (by kernel_rfl) os started H enc F0
        (witness_row_at (enc := enc) (C := Tryd.checked) false (laidWorld os) #[.int .i64 0, .int .i64 0, .int .u8 0] rfl (by kernel_rfl) (by kernel_rfl) (by kernel_rfl)
          (OpenSpec.preRow_of_B rfl 8 (by kernel_rfl) (by kernel_rfl) (cmdMost_laid os _))) cmdMost_lib cmdMost_law)
set_option maxRecDepth 100000 in
theorem cmdMost_holds : Rows.CmdMostCardSaid :=
  Claim7.holds_tied_plain_at .later [] [.data, .data, .data, .data, .sentinel, .sentinel, .pinned] true (true, "26be4a89e273cfd0048183963a3103fb579f1cb268b2f44980b0d8acd37b2531") true
    cmdMost_row (fun _ h => by cases h) (by kernel_rfl) (fun _ h => by cases h) cmdMost_row_tie rfl ⟨rfl, rfl⟩ (by kernel_rfl) rfl
    (fun f fn hf hfn => by
      obtain rfl : f = 6 := Option.some.inj ((show Tryd.prog.funcNamed Rows.cmdMostRow.func = some 6 by kernel_rfl).symm.trans hf) |>.symm
      obtain rfl : fn = Tryd.f6 := (Option.some.inj (Tryd.func6.symm.trans hfn)).symm
      exact ⟨by kernel_rfl, fun j t ht => (wants_none (by kernel_rfl)) j t ht⟩)
    (by kernel_rfl)
#print axioms cmdMost_holds
end Go.Proofs.YtfbicbgdfcbhpaaDoor
