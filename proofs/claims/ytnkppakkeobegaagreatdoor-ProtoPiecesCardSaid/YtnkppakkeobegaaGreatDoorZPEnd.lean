/-
  ProtoPieces.
-/
import Derived.Test.YtnkppakkeobegaaGreatDoorZP27
import Derived.Test.YtnkppakkeobegaaGreatDoorZP43
import Derived.Test.YtnkppakkeobegaaGreatDoorZP44
import Derived.Test.YtnkppakkeobegaaGreatDoorZP28
set_option maxRecDepth 20000
set_option linter.unusedVariables false
set_option linter.unusedSimpArgs false
set_option linter.unusedSectionVars false
namespace Go.Proofs.YtnkppakkeobegaaGreatDoor
open Go.ChangeMaps Go.ChangeShapes Go.WideShapes Go.ChangeAt Go.RowKit
namespace AX
theorem fit_ints {T : List (Nat × TI)} {t e : Nat} {x : AV} (ht : tyN T t = some (.slice e 1)) (he : tyN T e = some (.int .i64)) (h : FitT T t x) : ∃ l : List Int, x = .one (.sl none 1 (l.map (Cell.int .i64))) := by
 obtain ⟨ti, h1, h2⟩ := h
 rw [ht] at h1
 cases h1
 obtain ⟨c, rfl, h3⟩ := h2
 cases h3 with
 | sl _ _ n cs ti h1 h2 h3 h4 h5 h6 =>
  rw [he] at h1
  cases h1
  obtain ⟨l, rfl, _⟩ := fit_i64s cs fun i c hc => h6 i 0 (.int .i64) c (by have := (List.getElem?_eq_some_iff.1 hc).1; omega) rfl (by simpa using hc)
  exact ⟨l, rfl⟩
theorem all2_four {α β : Type} {R : α → β → Prop} {a b c d : α} {l : List β} (h : All2 R [a, b, c, d] l) : ∃ x y z u, l = [x, y, z, u] ∧ R a x ∧ R b y ∧ R c z ∧ R d u := by
 cases h with
 | cons h1 h2 => obtain ⟨y, z, u, rfl, h3, h4, h5⟩ := h2.three; exact ⟨_, _, _, _, rfl, h1, h3, h4, h5⟩
end AX
theorem protoPieces_law : LawWalk4 4 Tryz.f4 := by
 intro H enc W base args ds ps hA hval hlib
 refine AX.law_calls (m := 6) AX.AXE_ok (by kernel_rfl) AX.AXF_ok (by kernel_rfl) (fun xs hx => ?_) hA hval hlib
 rw [Tryz.params4] at hx
 obtain ⟨x, y, z, u, rfl, h1, h2, h3, h4⟩ := AX.all2_four hx
 obtain ⟨a, rfl⟩ := AX.fit_bool (by kernel_rfl) h1
 obtain ⟨b, rfl⟩ := AX.fit_bytes (e := 5) (by kernel_rfl) (by kernel_rfl) h2
 obtain ⟨c, rfl⟩ := AX.fit_ints (e := 3) (by kernel_rfl) (by kernel_rfl) h3
 obtain ⟨d, rfl⟩ := AX.fit_bool (by kernel_rfl) h4
 exact ⟨1001001, AX.pieces a b c d⟩
set_option maxRecDepth 100000 in
theorem protoPieces_lib (W : World) (h : laidMetH Tryz.prog Rows.protoPiecesRow.laid W) (hsh : W.ShapedOpen Tryz.prog) : LibAt W := by
 have h2 : laidMet Tryz.prog Rows.protoPiecesRow.laid W := h
 exact LibAt.of (by kernel_rfl) rfl rfl h2 hsh
set_option maxRecDepth 1000000 in
theorem protoPieces_laid (os : Os) (args : Array Value) : laidMet Tryz.prog Rows.protoPiecesRow.laid ((laidWorld os).forCall (fun _ _ => 0) ⟨#[], args, []⟩).memory :=
 laidMet_of_run' 8 (by kernel_rfl) (by kernel_rfl)
set_option maxRecDepth 100000 in
theorem protoPieces_row : Rows.ProtoPiecesSaid :=
 OpenClaim.holds_of_cond 4 Tryz.f4 rfl rfl rfl rfl rfl rfl rfl ⟨rfl, rfl, rfl, rfl, rfl⟩ rfl rfl rfl rfl rfl (by kernel_rfl) Tryz.func4 (by kernel_rfl)
  (of_decide_eq_true (by kernel_rfl)) (by unfold Func.isWrapper; first | (rw [if_pos (by decide +kernel)]; kernel_rfl) | (rw [if_neg (by decide +kernel)]; exact ⟨rfl, rfl⟩))
  (fun os started H enc _ F0 => by
   rw [OpenClaim.pre_eq_preRow]
   exact law_lift4 (s := Rows.protoPiecesSpec) Tryz.func4 (by kernel_rfl) (by kernel_rfl) rfl (fun H ds hd => by match ds, hd with | [_, _, _, _], _ => rfl) (by kernel_rfl) os started H enc F0
    (witness_row_at (enc := enc) (C := Tryz.checked) false (laidWorld os) #[.bool false, .slice none 0 0, .slice none 0 0, .bool false] rfl (by kernel_rfl) (by kernel_rfl) (by kernel_rfl)
     (OpenSpec.preRow_of_B rfl 8 (by kernel_rfl) (by kernel_rfl) (protoPieces_laid os _))) protoPieces_lib protoPieces_law)
set_option maxRecDepth 100000 in
theorem protoPieces_holds : Rows.ProtoPiecesCardSaid :=
 Claim7.holds_tied_plain_at .later [] [.data, .data, .data, .data, .sentinel, .sentinel, .sentinel, .pinned] true (true, "6b886df5d9a4384a7e600a6042e6c426fd51ea69571e8880141fc30f6b6ef99b") true
  protoPieces_row (fun _ h => by cases h) (by kernel_rfl) (fun _ h => by cases h) protoPieces_row_tie rfl ⟨rfl, rfl⟩ (by kernel_rfl) rfl
  (fun f fn hf hfn => by
   obtain rfl : f = 4 := Option.some.inj ((show Tryz.prog.funcNamed Rows.protoPiecesRow.func = some 4 by kernel_rfl).symm.trans hf) |>.symm
   obtain rfl : fn = Tryz.f4 := (Option.some.inj (Tryz.func4.symm.trans hfn)).symm
   exact ⟨by kernel_rfl, fun j t ht => (wants_none (by kernel_rfl)) j t ht⟩)
  (by kernel_rfl)
#print axioms protoPieces_holds
end Go.Proofs.YtnkppakkeobegaaGreatDoor
