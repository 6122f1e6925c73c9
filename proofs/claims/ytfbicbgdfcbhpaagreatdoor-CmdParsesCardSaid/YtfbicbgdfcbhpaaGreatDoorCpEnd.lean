/-
  CmdParses.
-/
import Derived.Test.YtfbicbgdfcbhpaaGreatDoorCp44
import Derived.Test.YtfbicbgdfcbhpaaGreatDoorCp09
set_option maxRecDepth 20000
set_option linter.unusedVariables false
set_option linter.unusedSimpArgs false
set_option linter.unusedSectionVars false
namespace Go.Proofs.YtfbicbgdfcbhpaaGreatDoor
open Go.ChangeMaps Go.ChangeShapes Go.WideShapes Go.ChangeAt Go.RowKit
theorem cmdParses_law : LawWalk4 4 Tryz.f4 := by
  intro H enc W base args ds ps hA hval hlib
  refine AX.law_calls (m := 6) AX.AXE_ok (by kernel_rfl) AX.AXF_ok (by kernel_rfl) (fun xs hx => ?_) hA hval hlib
  rw [Tryz.params4] at hx
  obtain ⟨x, rfl, h1⟩ := hx.one
  obtain ⟨l, rfl, hl⟩ := AX.fit_str (by kernel_rfl) h1
  exact ⟨10001, AX.parses_law l⟩

set_option maxRecDepth 100000 in
theorem cmdParses_lib (W : World) (h : laidMetH Tryz.prog Rows.cmdParsesRow.laid W) (hsh : W.ShapedOpen Tryz.prog) : LibAt W := by
  have h2 : laidMet Tryz.prog Rows.cmdParsesRow.laid W := h
  exact LibAt.of (by kernel_rfl) rfl rfl h2 hsh
set_option maxRecDepth 1000000 in
theorem cmdParses_laid (os : Os) (args : Array Value) : laidMet Tryz.prog Rows.cmdParsesRow.laid ((laidWorld os).forCall (fun _ _ => 0) ⟨#[], args, []⟩).memory :=
  laidMet_of_run' 8 (by kernel_rfl) (by kernel_rfl)
set_option maxRecDepth 100000 in
theorem cmdParses_row : Rows.CmdParsesSaid :=
  OpenClaim.holds_of_cond 4 Tryz.f4 rfl rfl rfl rfl rfl rfl rfl ⟨rfl, rfl, rfl, rfl, rfl⟩ rfl rfl rfl rfl rfl (by kernel_rfl) Tryz.func4 (by kernel_rfl)
    (of_decide_eq_true (by kernel_rfl)) (by unfold Func.isWrapper; first | (rw [if_pos (by decide +kernel)]; kernel_rfl) | (rw [if_neg (by decide +kernel)]; exact ⟨rfl, rfl⟩))
    (fun os started H enc _ F0 => by
      rw [OpenClaim.pre_eq_preRow]
      exact law_lift4 (s := Rows.cmdParsesSpec) Tryz.func4 (by kernel_rfl) (by kernel_rfl) rfl (fun H ds hd => by match ds, hd with | [_], _ => rfl) (by kernel_rfl) os started H enc F0
        (witness_row_at (enc := enc) (C := Tryz.checked) false (laidWorld os) #[.string ⟨#[]⟩] rfl (by kernel_rfl) (by kernel_rfl) (by kernel_rfl)
          (OpenSpec.preRow_of_B rfl 8 (by kernel_rfl) (by kernel_rfl) (cmdParses_laid os _))) cmdParses_lib cmdParses_law)
set_option maxRecDepth 100000 in
theorem cmdParses_holds : Rows.CmdParsesCardSaid :=
  Claim7.holds_tied_plain_at .later [] [.data, .data, .data, .data, .sentinel, .sentinel, .pinned] true (true, "5aa9ecde70947d10225ee74916cd3a69417deef51b04a94c0b312775cc69d915") true
    cmdParses_row (fun _ h => by cases h) (by kernel_rfl) (fun _ h => by cases h) cmdParses_row_tie rfl ⟨rfl, rfl⟩ (by kernel_rfl) rfl
    (fun f fn hf hfn => by
      obtain rfl : f = 4 := Option.some.inj ((show Tryz.prog.funcNamed Rows.cmdParsesRow.func = some 4 by kernel_rfl).symm.trans hf) |>.symm
      obtain rfl : fn = Tryz.f4 := (Option.some.inj (Tryz.func4.symm.trans hfn)).symm
      exact ⟨by kernel_rfl, fun j t ht => (wants_none (by kernel_rfl)) j t ht⟩)
    (by kernel_rfl)
#print axioms cmdParses_holds
end Go.Proofs.YtfbicbgdfcbhpaaGreatDoor
