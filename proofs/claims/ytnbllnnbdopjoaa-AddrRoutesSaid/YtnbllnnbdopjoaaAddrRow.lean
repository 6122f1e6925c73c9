/-
  An argument of type api.Addr, opened.
-/
import Derived.Test.YtnbllnnbdopjoaaRow
import Derived.Test.YtnbllnnbdopjoaaOpen
import Derived.ChangeMaps5
namespace Go.Proofs.Ytnbllnnbdopjoaa
open Go.ChangeMaps Go.ChangeShapes Go.WideShapes Go.ChangeAt Go.RowKit
section
variable {H : Type} {enc : TypeId × Value → H} {w : World} {base : Nat} {spare : Nat → Bool} {held : Bool}
theorem open_addr {r : Reach} {b0 : Nat} {v : Value} {d : DataW H} {p : List MemPlace} (hv : Value.okWide Try.prog w r b0 24 v) (h : DataW.Trod enc Try.prog w base spare held 24 v d p) :
    ∃ x y : ByteArray, v = .agg #[.string x, .string y] ∧ x.size ≤ maxLen ∧ y.size ≤ maxLen := by
  obtain ⟨cs, rfl, hl, hf⟩ := open_agg Try.underlying24 hv h
  obtain ⟨m, y0, h0⟩ := hf 0 _ rfl 1 rfl
  obtain ⟨m1, y1, h1⟩ := hf 1 _ rfl 1 rfl
  obtain ⟨x, hx, hxs⟩ := isStr_of Try.underlying9 h0
  obtain ⟨y, hy, hys⟩ := isStr_of Try.underlying9 h1
  have hl2 : cs.length = 2 := hl
  match cs, hl2, hx, hy with
  | [a, b], _, hx, hy =>
    simp at hx hy
    subst hx hy
    exact ⟨x, y, rfl, hxs, hys⟩
end
end Go.Proofs.Ytnbllnnbdopjoaa
