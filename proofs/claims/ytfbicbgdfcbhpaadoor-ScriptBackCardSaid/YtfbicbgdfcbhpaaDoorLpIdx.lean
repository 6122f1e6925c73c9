/-
  strings.IndexByte, for the reckoning.
-/
import Derived.Test.YtfbicbgdfcbhpaaDoorLpBase
import Derived.Test.YtfbicbgdfcbhpaaDoorShelf
set_option maxRecDepth 20000
set_option linter.unusedVariables false
set_option linter.unusedSimpArgs false
set_option linter.unusedSectionVars false
namespace Go.Proofs.YtfbicbgdfcbhpaaDoor
open Go.ChangeShapes Go.WideShapes Go.ChangeAt Go.RowKit
namespace AX
def pIndexByte : List AV → Option AV
  | [.one (.str l), .one (.int .u8 c)] => bif decide (l.length ≤ 100000000) then some (.one (.int .i64 (Lib.indexByte l c.toNat.toUInt8))) else none
  | _ => none
theorem pIndexByte_ok : PrimOk Tryd.prog 68 pIndexByte := by
  refine ⟨fun args v h M w vals hI hl hA => ?_, ⟨Tryd.f68, by kernel_rfl, by kernel_rfl, of_decide_eq_true (by kernel_rfl)⟩⟩
  unfold pIndexByte at h
  split at h
  · rename_i l c
    obtain ⟨hd, rfl⟩ := bif_some h
    obtain ⟨x, y, rfl, hx, hy⟩ := hA.two
    obtain rfl := Rc.str_inv hx
    obtain rfl := Rc.int_inv hy
    refine (Tryd.strings_IndexByte ⟨l.toArray⟩ c w).mono fun e w' ⟨h1, h2⟩ => ⟨_, M, h1, same_grow hl ?_, ?_⟩
    · rw [h2]; exact Below.refl _ _
    · exact .data (.int _ _)
  · cases h
end AX
end Go.Proofs.YtfbicbgdfcbhpaaDoor
