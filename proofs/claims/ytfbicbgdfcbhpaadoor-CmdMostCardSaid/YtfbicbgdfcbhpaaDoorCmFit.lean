/-
  Arguments of a law: a byte, a number, a row of truth values.
-/
import Derived.Test.YtfbicbgdfcbhpaaDoorFitG
set_option maxRecDepth 20000
set_option linter.unusedVariables false
set_option linter.unusedSimpArgs false
set_option linter.unusedSectionVars false
namespace Go.Proofs.YtfbicbgdfcbhpaaDoor
namespace AX
theorem fit_u8 {T : List (Nat × TI)} {t : Nat} {x : AV} (ht : tyN T t = some (.int .u8)) (h : FitT T t x) : ∃ c : UInt8, x = .one (.int .u8 (c.toNat : Int)) := by
  obtain ⟨ti, h1, h2⟩ := h
  rw [ht] at h1
  cases h1
  obtain ⟨c, rfl, h3⟩ := h2
  obtain ⟨l, hl⟩ := fit_u8s (T := T) [c] fun i d hd => by
    match i, hd with
    | 0, hd => cases hd; exact h3
    | n + 1, hd => simp at hd
  match l, hl with
  | [b], hl =>
    refine ⟨b, ?_⟩
    simp only [AX.byteCells, List.map_cons, List.map_nil, List.cons.injEq, and_true] at hl
    rw [hl]
  | [], hl => simp [AX.byteCells] at hl
  | a :: b :: r, hl => simp [AX.byteCells] at hl
theorem fit_i64 {T : List (Nat × TI)} {t : Nat} {x : AV} (ht : tyN T t = some (.int .i64)) (h : FitT T t x) : ∃ v : Int, x = .one (.int .i64 v) ∧ -9223372036854775808 ≤ v ∧ v ≤ 9223372036854775807 := by
  obtain ⟨ti, h1, h2⟩ := h
  rw [ht] at h1
  cases h1
  obtain ⟨c, rfl, h3⟩ := h2
  obtain ⟨v, rfl, h4⟩ := fit_int h3
  exact ⟨v, rfl, h4⟩
theorem fit_bs {T : List (Nat × TI)} : ∀ cs : List Cell, (∀ (i : Nat) c, cs[i]? = some c → FitC T .bool c) → ∃ l : List Bool, cs = l.map Cell.bool
  | [], _ => ⟨[], rfl⟩
  | c :: cs, h => by
    obtain ⟨l, rfl⟩ := fit_bs cs fun i c hc => h (i + 1) c (by simpa using hc)
    have h0 := h 0 c rfl
    cases h0 with
    | bool b => exact ⟨b :: l, rfl⟩
theorem fit_bools {T : List (Nat × TI)} {t e : Nat} {x : AV} (ht : tyN T t = some (.slice e 1)) (he : tyN T e = some .bool) (h : FitT T t x) : ∃ l : List Bool, x = .one (.sl none 1 (l.map Cell.bool)) := by
  obtain ⟨ti, h1, h2⟩ := h
  rw [ht] at h1
  cases h1
  obtain ⟨c, rfl, h3⟩ := h2
  cases h3 with
  | sl _ _ n cs ti h1 h2 h3 h4 h5 h6 =>
    rw [he] at h1
    cases h1
    obtain ⟨l, rfl⟩ := fit_bs cs fun i c hc => h6 i 0 .bool c (by have := (List.getElem?_eq_some_iff.1 hc).1; omega) rfl (by simpa using hc)
    exact ⟨l, rfl⟩
end AX
end Go.Proofs.YtfbicbgdfcbhpaaDoor
