/-
  Layer 31: the reference's Number; lists of names, of numbers; slots.
-/
import Derived.Test.YtfbicbgdfcbhpaaDoorScLeaf
set_option maxRecDepth 20000
set_option linter.unusedVariables false
set_option linter.unusedSimpArgs false
set_option linter.unusedSectionVars false
namespace Go.Proofs.YtfbicbgdfcbhpaaDoor
open SC
namespace AX
def numAV (s : List UInt8) : AV := match numQ s with | some v => .tup [.one (.int .i64 v), .one (.bool true)] | none => .tup [.one (.int .i64 0), .one (.bool false)]
theorem Number_none {s : List UInt8} (h : magR s = none) : numQ s = none := by rw [← numR_eq]; unfold numR; rw [h]
theorem negR_at (s : List UInt8) (h : 0 < s.length) : ((s[0].toNat : Int) == 45) = negR s := by
  cases s with
  | nil => simp at h
  | cons c r =>
    unfold negR
    rw [Bool.eq_iff_iff]; simp; omega
end AX
end Go.Proofs.YtfbicbgdfcbhpaaDoor
