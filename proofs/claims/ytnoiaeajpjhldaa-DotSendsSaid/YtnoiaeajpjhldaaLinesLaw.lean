/-
  The two counts of line ends agree. No program.
-/
import Derived.Test.YtnoiaeajpjhldaaRefLines07
namespace Go.Proofs.Ytnoiaeajpjhldaa

theorem index_crlf : ∀ l : List UInt8, Lib.index l [13, 10] = match endQ false l with | some n => ((n : Nat) : Int) - 2 | none => -1
  | [] => by rfl
  | [c] => by
    have : endQ false [c] = none := by simp [endQ]
    rw [this, Lib.index]
    simp [List.isPrefixOf, Lib.index]
  | c :: d :: r => by
    have ih := index_crlf (d :: r)
    rw [endQ_two, Lib.index]
    by_cases h : c = 13 ∧ d = 10
    · obtain ⟨rfl, rfl⟩ := h
      simp [List.isPrefixOf]
    · have hp : ([13, 10] : List UInt8).isPrefixOf (c :: d :: r) = false := by
        simp only [List.isPrefixOf, Bool.and_true, Bool.and_eq_false_iff, beq_eq_false_iff_ne]
        by_cases hc : c = 13
        · right; intro e; exact h ⟨hc, e.symm⟩
        · left; intro e; exact hc e.symm
      rw [if_neg h, if_neg (by rw [hp]; simp), ih]
      cases hx : endQ false (d :: r) with
      | none => rfl
      | some n =>
        have hn : 2 ≤ n := by
          have h0 := endQ_le _ _ _ hx
          have : n ≠ 1 := by
            intro e
            subst e
            rw [endQ, if_neg (by simp)] at hx
            cases hy : endQ (decide (d = 13)) r with
            | none => rw [hy] at hx; cases hx
            | some k =>
              rw [hy] at hx
              have := endQ_le _ _ _ hy
              have hx : 1 + k = 1 := Option.some.inj hx
              omega
          omega
        simp only [Option.map_some]
        rw [if_neg (by simp; omega)]
        show (n : Int) - 2 + 1 = ((1 + n : Nat) : Int) - 2
        omega
theorem count_law : ∀ (f : Nat) (l : List UInt8), l.length < f → Lib.countFrom [13, 10] f l = cntQ l
  | 0, _, h => absurd h (Nat.not_lt_zero _)
  | f + 1, l, h => by
    rw [Lib.countFrom, index_crlf]
    cases hx : endQ false l with
    | none => rw [cntQ_none hx]; rfl
    | some n =>
      have hn := endQ_le _ _ _ hx
      have h2 : 2 ≤ n := by
        have := index_crlf l
        rw [hx] at this
        have := Lib.index_ge l [13, 10]
        simp only at *
        rcases Nat.lt_or_ge n 2 with h1 | h1
        · have : n = 1 := by omega
          subst this
          cases l with
          | nil => simp [endQ] at hx
          | cons c r =>
            rw [endQ, if_neg (by simp)] at hx
            cases hy : endQ (decide (c = 13)) r with
            | none => rw [hy] at hx; cases hx
            | some k =>
              rw [hy] at hx
              have := endQ_le _ _ _ hy
              have hx : 1 + k = 1 := Option.some.inj hx
              omega
        · exact h1
      rw [cntQ_some hx, if_neg (by simp; omega)]
      have e : (((n : Nat) : Int) - 2).toNat + ([13, 10] : List UInt8).length = n := by simp; omega
      simp only [] at e ⊢
      rw [e, count_law f (l.drop n) (by simp; omega)]
theorem lines_law (l : List UInt8) : linesN l = (cntQ l : Int) := by
  unfold linesN Lib.count
  rw [count_law _ _ (Nat.lt_succ_self _)]
end Go.Proofs.Ytnoiaeajpjhldaa
