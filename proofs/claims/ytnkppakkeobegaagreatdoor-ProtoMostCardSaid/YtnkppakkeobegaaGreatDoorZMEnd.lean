/-
  ProtoMost.
-/
import Derived.Test.YtnkppakkeobegaaGreatDoorZM28
import Derived.Test.YtnkppakkeobegaaGreatDoorZM43
import Derived.Test.YtnkppakkeobegaaGreatDoorZM44
import Derived.Test.YtnkppakkeobegaaGreatDoorZM31
set_option maxRecDepth 20000
set_option linter.unusedVariables false
set_option linter.unusedSimpArgs false
set_option linter.unusedSectionVars false
namespace Go.Proofs.YtnkppakkeobegaaGreatDoor
open Go.ChangeMaps Go.ChangeShapes Go.WideShapes Go.ChangeAt Go.RowKit
theorem protoMost_law : LawWalk4 3 Tryz.f3 := by
 intro H enc W base args ds ps hA hval hlib
 refine AX.law_calls (m := 6) AX.AXE_ok (by kernel_rfl) AX.AXF_ok (by kernel_rfl) (fun xs hx => ?_) hA hval hlib
 rw [Tryz.params3] at hx
 obtain ⟨x, y, rfl, h1, h2⟩ := hx.two
 obtain ⟨a, rfl⟩ := AX.fit_bool (by kernel_rfl) h1
 obtain ⟨b, rfl, _⟩ := AX.fit_i64 (by kernel_rfl) h2
 exact ⟨1001001, AX.most a b⟩
set_option maxRecDepth 100000 in
theorem protoMost_lib (W : World) (h : laidMetH Tryz.prog Rows.protoMostRow.laid W) (hsh : W.ShapedOpen Tryz.prog) : LibAt W := by
 have h2 : laidMet Tryz.prog Rows.protoMostRow.laid W := h
 exact LibAt.of (by kernel_rfl) rfl rfl h2 hsh
set_option maxRecDepth 1000000 in
theorem protoMost_laid (os : Os) (args : Array Value) : laidMet Tryz.prog Rows.protoMostRow.laid ((laidWorld os).forCall (fun _ _ => 0) ⟨#[], args, []⟩).memory :=
 laidMet_of_run' 8 (by kernel_rfl) (by kernel_rfl)
set_option maxRecDepth 100000 in
theorem protoMost_row : Rows.ProtoMostSaid :=
 OpenClaim.holds_of_cond 3 Tryz.f3 rfl rfl rfl rfl rfl rfl rfl ⟨rfl, rfl, rfl, rfl, rfl⟩ rfl rfl rfl rfl rfl (by kernel_rfl) Tryz.func3 (by kernel_rfl)
  (of_decide_eq_true (by kernel_rfl)) (by unfold Func.isWrapper; first | (rw [if_pos (by decide +kernel)]; kernel_rfl) | (rw [if_neg (by decide +kernel)]; exact ⟨rfl, rfl⟩))
  (fun os started H enc _ F0 => by
   rw [OpenClaim.pre_eq_preRow]
   exact law_lift4 (s := Rows.protoMostSpec) Tryz.func3 (by kernel_rfl) (by kernel_rfl) rfl (fun H ds hd => by match ds, hd with | [_, _], _ => rfl) (by kernel_rfl) os started H enc F0
    (witness_row_at (enc := enc) (C := Tryz.checked) false (laidWorld os) #[.bool false, .int .i64 0] rfl (by kernel_rfl) (by kernel_rfl) (by kernel_rfl)
     (OpenSpec.preRow_of_B rfl 8 (by kernel_rfl) (by kernel_rfl) (protoMost_laid os _))) protoMost_lib protoMost_law)
set_option maxRecDepth 100000 in
theorem protoMost_holds : Rows.ProtoMostCardSaid :=
 Claim7.holds_tied_plain_at .later [] [.data, .data, .data, .data, .sentinel, .sentinel, .sentinel, .pinned] true (true, "6b886df5d9a4384a7e600a6042e6c426fd51ea69571e8880141fc30f6b6ef99b") true
  protoMost_row (fun _ h => by cases h) (by kernel_rfl) (fun _ h => by cases h) protoMost_row_tie rfl ⟨rfl, rfl⟩ (by kernel_rfl) rfl
  (fun f fn hf hfn => by
   obtain rfl : f = 3 := Option.some.inj ((show Tryz.prog.funcNamed Rows.protoMostRow.func = some 3 by kernel_rfl).symm.trans hf) |>.symm
   obtain rfl : fn = Tryz.f3 := (Option.some.inj (Tryz.func3.symm.trans hfn)).symm
   exact ⟨by kernel_rfl, fun j t ht => (wants_none (by kernel_rfl)) j t ht⟩)
  (by kernel_rfl)
#print axioms protoMost_holds
end Go.Proofs.YtnkppakkeobegaaGreatDoor
