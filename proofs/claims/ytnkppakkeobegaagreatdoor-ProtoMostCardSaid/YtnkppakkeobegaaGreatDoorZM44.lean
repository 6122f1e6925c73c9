/-
  FwG.
-/
import Derived.Test.YtnkppakkeobegaaGreatDoorZM10
set_option maxRecDepth 20000
set_option linter.unusedVariables false
set_option linter.unusedSimpArgs false
set_option linter.unusedSectionVars false
namespace Go.Proofs.YtnkppakkeobegaaGreatDoor
open Go.ChangeMaps Go.ChangeShapes Go.WideShapes Go.ChangeAt Go.RowKit
namespace AX
theorem fit_bool {T : List (Nat × TI)} {t : Nat} {x : AV} (ht : tyN T t = some .bool) (h : FitT T t x) : ∃ b : Bool, x = .one (.bool b) := by
 obtain ⟨ti, h1, h2⟩ := h
 rw [ht] at h1
 cases h1
 obtain ⟨c, rfl, h3⟩ := h2
 cases h3
 exact ⟨_, rfl⟩
theorem fit_int {T : List (Nat × TI)} {c : Cell} (h : FitC T (.int .i64) c) : ∃ v : Int, c = .int .i64 v ∧ -9223372036854775808 ≤ v ∧ v ≤ 9223372036854775807 := by
 cases h with
 | int k n hn =>
  have h5 : IntKind.i64.min ≤ n ∧ n ≤ IntKind.i64.max := by simpa [Lit.wf] using hn
  have e1 : IntKind.i64.min = -9223372036854775808 := rfl
  have e2 : IntKind.i64.max = 9223372036854775807 := rfl
  exact ⟨n, rfl, by omega, by omega⟩
theorem fit_i64 {T : List (Nat × TI)} {t : Nat} {x : AV} (ht : tyN T t = some (.int .i64)) (h : FitT T t x) : ∃ v : Int, x = .one (.int .i64 v) ∧ -9223372036854775808 ≤ v ∧ v ≤ 9223372036854775807 := by
 obtain ⟨ti, h1, h2⟩ := h
 rw [ht] at h1
 cases h1
 obtain ⟨c, rfl, h3⟩ := h2
 obtain ⟨v, rfl, h4⟩ := fit_int h3
 exact ⟨v, rfl, h4⟩
end AX
end Go.Proofs.YtnkppakkeobegaaGreatDoor
