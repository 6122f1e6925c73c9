/-
  law08.awake answers true: by the reckoning.
-/
import Derived.Test.YtalkglheaadigaaDoorRxOk
set_option maxRecDepth 20000
set_option linter.unusedVariables false
set_option linter.unusedSimpArgs false
set_option linter.unusedSectionVars false
namespace Go.Proofs.YtalkglheaadigaaDoor
open Go.ChangeShapes Go.WideShapes Go.ChangeAt Go.RowKit
namespace AX
theorem aw_b1 : pBytes [.agg [.int .i64 (250 : Int), .str ([50, 46, 49, 46, 48] : List UInt8), .sl none 1 ([.str ([111, 107] : List UInt8)] : List Cell)]] =
    some (.tup [.one (.sl none 1 (AX.byteCells [50, 53, 48, 32, 50, 46, 49, 46, 48, 32, 111, 107, 13, 10])), .one (.int .i64 0)]) := by kernel_rfl
theorem aw_b2 : pBytes [.agg [.int .i64 (250 : Int), .str ([] : List UInt8), .sl none 1 ([.str ([97] : List UInt8), .str ([98] : List UInt8)] : List Cell)]] =
    some (.tup [.one (.sl none 1 (AX.byteCells [50, 53, 48, 45, 97, 13, 10, 50, 53, 48, 32, 98, 13, 10])), .one (.int .i64 0)]) := by kernel_rfl
theorem aw_r : pRead [.one (.sl none 1 (AX.byteCells [50, 53, 48, 45, 97, 13, 10, 50, 53, 48, 32, 98, 13, 10])), .one (.bool false)] =
    some (.tup [.agg [.int .i64 250, .str [], .sl none 1 [.str [97], .str [98]]], .one (.int .i64 14), .one (.int .i64 0)]) := by kernel_rfl
theorem awake_true (n : Nat) : acall AXE AXF (n + 6) 16 [] [] = some (.one (.bool true), []) := by kernel_rfl
end AX
end Go.Proofs.YtalkglheaadigaaDoor
