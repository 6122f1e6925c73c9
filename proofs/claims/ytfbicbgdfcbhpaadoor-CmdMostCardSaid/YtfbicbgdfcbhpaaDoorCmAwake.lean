/-
  Layer 06: awake answers true.
-/
import Derived.Test.YtfbicbgdfcbhpaaDoorCmParse
set_option maxRecDepth 20000
set_option linter.unusedVariables false
set_option linter.unusedSimpArgs false
set_option linter.unusedSectionVars false
namespace Go.Proofs.YtfbicbgdfcbhpaaDoor
open SC CM
namespace AX
theorem aw1 : (parseQ [109, 97, 105, 108, 32, 102, 114, 111, 109, 58, 60, 97, 64, 120, 62, 32, 115, 105, 122, 101, 61, 53]) = (⟨4, [], [97], [120], false, 5, 0⟩, 0) := by kernel_rfl
theorem aw2 : (parseQ [77, 65, 73, 76, 32, 70, 82, 79, 77, 58, 32, 60, 97, 64, 120, 62]).2 = 501 := by kernel_rfl
theorem aw3 : (parseQ [82, 67, 80, 84, 32, 84, 79, 58, 60, 97, 64, 120, 62, 32, 88]).2 = 555 := by kernel_rfl
theorem aw4 : (parseQ [70, 79, 79]).2 = 500 := by kernel_rfl
theorem awake_at (n : Nat) (hn : 6000 ≤ n) : acall AXE AXF (n + 1) 17 [] [] = some (.one (.bool true), []) := by
  rw [f17_eq]
  obtain ⟨k, rfl⟩ : ∃ k, n = k + 1 := ⟨n - 1, by omega⟩
  have h := fun l => Parse_at k l (by omega)
  have a1 := h [109, 97, 105, 108, 32, 102, 114, 111, 109, 58, 60, 97, 64, 120, 62, 32, 115, 105, 122, 101, 61, 53]
  have a2 := h [77, 65, 73, 76, 32, 70, 82, 79, 77, 58, 32, 60, 97, 64, 120, 62]
  have a3 := h [82, 67, 80, 84, 32, 84, 79, 58, 60, 97, 64, 120, 62, 32, 88]
  have a4 := h [70, 79, 79]
  unfold lineV at a1 a2 a3 a4
  rw [aw1] at a1
  rw [aw2] at a2
  rw [aw3] at a3
  rw [aw4] at a4
  rw [f17_L, f17_T]
  rw [callK_some a1, castTup_tup, consK_cons, aggV_agg, takeS_api_Cmd_cells_nil, nilK_nil, zI_cons, nilK_nil,
    callK_some a2, castTup_tup, consK_cons, aggV_agg, takeS_api_Cmd_cells_nil, nilK_nil, zI_cons, nilK_nil,
    callK_some a3, castTup_tup, consK_cons, aggV_agg, takeS_api_Cmd_cells_nil, nilK_nil, zI_cons, nilK_nil,
    callK_some a4, castTup_tup, consK_cons, aggV_agg, takeS_api_Cmd_cells_nil, nilK_nil, zI_cons, nilK_nil]
  rfl
end AX
end Go.Proofs.YtfbicbgdfcbhpaaDoor
