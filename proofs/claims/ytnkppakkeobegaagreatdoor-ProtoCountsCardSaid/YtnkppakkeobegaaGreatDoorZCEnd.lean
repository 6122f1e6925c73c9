/-
  ProtoCounts.
-/
import Derived.Test.YtnkppakkeobegaaGreatDoorZC26
import Derived.Test.YtnkppakkeobegaaGreatDoorZC43
import Derived.Test.YtnkppakkeobegaaGreatDoorZC44
import Derived.Test.YtnkppakkeobegaaGreatDoorZC28
set_option maxRecDepth 20000
set_option linter.unusedVariables false
set_option linter.unusedSimpArgs false
set_option linter.unusedSectionVars false
namespace Go.Proofs.YtnkppakkeobegaaGreatDoor
open Go.ChangeMaps Go.ChangeShapes Go.WideShapes Go.ChangeAt Go.RowKit
namespace AX
theorem fit_rows {T : List (Nat × TI)} {t e : Nat} {x : AV} (ht : tyN T t = some (.slice e 1)) (he : tyN T e = some .str) (h : FitT T t x) : ∃ ls : List (List UInt8), x = .one (.sl none 1 (ls.map .str)) := by
 obtain ⟨ti, h1, h2⟩ := h
 rw [ht] at h1
 cases h1
 obtain ⟨c, rfl, hc⟩ := h2
 obtain ⟨ls, rfl, _⟩ := fit_row he hc
 exact ⟨ls, rfl⟩
end AX
theorem protoCounts_law : LawWalk4 5 Tryz.f5 := by
 intro H enc W base args ds ps hA hval hlib
 refine AX.law_calls (m := 6) AX.AXE_ok (by kernel_rfl) AX.AXF_ok (by kernel_rfl) (fun xs hx => ?_) hA hval hlib
 rw [Tryz.params5] at hx
 obtain ⟨x, y, z, rfl, h1, h2, h3⟩ := hx.three
 obtain ⟨a, rfl⟩ := AX.fit_bool (by kernel_rfl) h1
 obtain ⟨ls, rfl⟩ := AX.fit_rows (e := 9) (by kernel_rfl) (by kernel_rfl) h2
 obtain ⟨b, rfl⟩ := AX.fit_bool (by kernel_rfl) h3
 exact ⟨1001001, AX.counts a ls b⟩
set_option maxRecDepth 100000 in
theorem protoCounts_lib (W : World) (h : laidMetH Tryz.prog Rows.protoCountsRow.laid W) (hsh : W.ShapedOpen Tryz.prog) : LibAt W := by
 have h2 : laidMet Tryz.prog Rows.protoCountsRow.laid W := h
 exact LibAt.of (by kernel_rfl) rfl rfl h2 hsh
set_option maxRecDepth 1000000 in
theorem protoCounts_laid (os : Os) (args : Array Value) : laidMet Tryz.prog Rows.protoCountsRow.laid ((laidWorld os).forCall (fun _ _ => 0) ⟨#[], args, []⟩).memory :=
 laidMet_of_run' 8 (by kernel_rfl) (by kernel_rfl)
set_option maxRecDepth 100000 in
theorem protoCounts_row : Rows.ProtoCountsSaid :=
 OpenClaim.holds_of_cond 5 Tryz.f5 rfl rfl rfl rfl rfl rfl rfl ⟨rfl, rfl, rfl, rfl, rfl⟩ rfl rfl rfl rfl rfl (by kernel_rfl) Tryz.func5 (by kernel_rfl)
  (of_decide_eq_true (by kernel_rfl)) (by unfold Func.isWrapper; first | (rw [if_pos (by decide +kernel)]; kernel_rfl) | (rw [if_neg (by decide +kernel)]; exact ⟨rfl, rfl⟩))
  (fun os started H enc _ F0 => by
   rw [OpenClaim.pre_eq_preRow]
   exact law_lift4 (s := Rows.protoCountsSpec) Tryz.func5 (by kernel_rfl) (by kernel_rfl) rfl (fun H ds hd => by match ds, hd with | [_, _, _], _ => rfl) (by kernel_rfl) os started H enc F0
    (witness_row_at (enc := enc) (C := Tryz.checked) false (laidWorld os) #[.bool false, .slice none 0 0, .bool false] rfl (by kernel_rfl) (by kernel_rfl) (by kernel_rfl)
     (OpenSpec.preRow_of_B rfl 8 (by kernel_rfl) (by kernel_rfl) (protoCounts_laid os _))) protoCounts_lib protoCounts_law)
set_option maxRecDepth 100000 in
theorem protoCounts_holds : Rows.ProtoCountsCardSaid :=
 Claim7.holds_tied_plain_at .later [] [.data, .data, .data, .data, .sentinel, .sentinel, .sentinel, .pinned] true (true, "6b886df5d9a4384a7e600a6042e6c426fd51ea69571e8880141fc30f6b6ef99b") true
  protoCounts_row (fun _ h => by cases h) (by kernel_rfl) (fun _ h => by cases h) protoCounts_row_tie rfl ⟨rfl, rfl⟩ (by kernel_rfl) rfl
  (fun f fn hf hfn => by
   obtain rfl : f = 5 := Option.some.inj ((show Tryz.prog.funcNamed Rows.protoCountsRow.func = some 5 by kernel_rfl).symm.trans hf) |>.symm
   obtain rfl : fn = Tryz.f5 := (Option.some.inj (Tryz.func5.symm.trans hfn)).symm
   exact ⟨by kernel_rfl, fun j t ht => (wants_none (by kernel_rfl)) j t ht⟩)
  (by kernel_rfl)
#print axioms protoCounts_holds
end Go.Proofs.YtnkppakkeobegaaGreatDoor
