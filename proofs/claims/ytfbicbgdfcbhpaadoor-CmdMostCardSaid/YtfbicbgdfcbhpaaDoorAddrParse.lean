/-
  addr.Parse: what it gives.
-/
import Derived.Test.YtfbicbgdfcbhpaaDoorAddrTop
set_option maxRecDepth 20000
set_option linter.unusedVariables false
set_option linter.unusedSimpArgs false
set_option linter.unusedSectionVars false
namespace Go.Proofs.YtfbicbgdfcbhpaaDoor
open Go.ChangeShapes Go.WideShapes Go.ChangeAt Go.RowKit

/-- What a text is, if it is a mailbox: its local part, its domain, an error. -/
def parseP (s : ByteArray) : ByteArray × ByteArray × Int :=
  match mailboxP s.data.toList with
  | some (t, d, k) => if k = s.size then (if 64 < t.length ∨ 64 < d then (⟨#[]⟩, ⟨#[]⟩, 4) else (⟨t.toArray⟩, s.extract (k - d) k, 0)) else (⟨#[]⟩, ⟨#[]⟩, 3)
  | none => (⟨#[]⟩, ⟨#[]⟩, 3)
theorem end_at (w : World) (s : ByteArray) (A O : Obj) (T : TypeId) (bs bs' : Array Obj) (d d' : Nat) (m : Int) (lg : Bool) (x y : ByteArray) (ok : Bool) :
    Calls Tryd.prog 88 #[.pointer (some ⟨w.heap.size + 1, 0, none⟩), .agg #[.string x, .string y], .bool ok] (app ((app ((w.alloc A).alloc (.cells #[.string s, .int .i64 m, .bool lg] T)) bs d).alloc O) bs' d') fun r w' =>
      r = .returned (.tuple #[if ok && !lg then .agg #[.string x, .string y] else .agg #[.string ⟨#[]⟩, .string ⟨#[]⟩], .int .i64 (if ok then (if lg then 4 else 0) else 3)]) ∧ Below (app ((app ((w.alloc A).alloc (.cells #[.string s, .int .i64 m, .bool lg] T)) bs d).alloc O) bs' d').heap.size (app ((app ((w.alloc A).alloc (.cells #[.string s, .int .i64 m, .bool lg] T)) bs d).alloc O) bs' d') w' :=
  end_calls x y ok (((((RowIs.new_at _ _ _ _ (by simp))).app _ _).alloc _).app _ _)
end Go.Proofs.YtfbicbgdfcbhpaaDoor
