/-
  The two ways of sending agree. No program.
-/
import Derived.Test.YtnoiaeajpjhldaaDotSendW
namespace Go.Proofs.Ytnoiaeajpjhldaa

def lineN (l : List UInt8) : Nat := (endQ false l).getD l.length
theorem lineN_pos {l : List UInt8} (h : l ≠ []) : 0 < lineN l ∧ lineN l ≤ l.length := by
  unfold lineN
  cases hx : endQ false l with
  | none =>
    have : 0 < l.length := List.length_pos_iff.2 h
    exact ⟨this, Nat.le_refl _⟩
  | some n => exact endQ_le _ _ _ hx
/-- The document's sending, line by line, but for the end. -/
def rsendQ (l : List UInt8) : List UInt8 :=
  if h : l = [] then [] else (if l.head? = some 46 then [46] else []) ++ (l.take (lineN l) ++ rsendQ (l.drop (lineN l)))
termination_by l.length
decreasing_by
  have := lineN_pos h
  simp; omega
theorem sendR_line : ∀ (l : List UInt8) (p : Bool), sendR false p l = match endQ p l with | some n => l.take n ++ sendR true false (l.drop n) | none => l
  | [], p => by rw [sendR, endQ]
  | c :: r, p => by
    have ih := sendR_line r (decide (c = 13))
    rw [sendR, endQ]
    by_cases h : p = true ∧ c = 10
    · obtain ⟨rfl, rfl⟩ := h
      simp
    · rw [if_neg h]
      have e : (decide (c = 10) && p) = false := by
        rw [Bool.and_eq_false_iff]
        by_cases hp : p = true
        · left; simp; exact fun hc => h ⟨hp, hc⟩
        · right; simpa using hp
      rw [e, ih]
      cases endQ (decide (c = 13)) r with
      | none => simp
      | some n => simp [Nat.add_comm 1 n]
theorem send_law : ∀ (m : Nat) (l : List UInt8), l.length ≤ m → rsendQ l = sendR true false l
  | m, [], _ => by rw [rsendQ]; simp [sendR]
  | 0, c :: r, h => by simp at h
  | m + 1, c :: r, h => by
    have hp := lineN_pos (l := c :: r) (by simp)
    have ih := send_law m ((c :: r).drop (lineN (c :: r))) (by simp at h ⊢; omega)
    rw [rsendQ, dif_neg (by simp), ih]
    have hs : sendR true false (c :: r) = (if c = 46 then [46] else []) ++ sendR false false (c :: r) := by
      rw [sendR, sendR]
      by_cases hc : c = 46 <;> simp [hc]
    rw [hs, sendR_line]
    have hh : (c :: r).head? = some c := rfl
    rw [hh]
    unfold lineN
    cases endQ false (c :: r) with
    | none =>
      simp only [Option.getD_none]
      rw [List.take_of_length_le (Nat.le_refl _), List.drop_of_length_le (Nat.le_refl _), sendR, List.append_nil]
      by_cases hc : c = 46 <;> simp [hc]
    | some n =>
      simp only [Option.getD_some]
      by_cases hc : c = 46 <;> simp [hc]
/-- Does a message end in CR LF? -/
def endsB (l : List UInt8) : Bool := decide (2 ≤ l.length) && (decide (l.getD (l.length - 2) 0 = 13) && decide (l.getD (l.length - 1) 0 = 10))
theorem ends_law : ∀ l : List UInt8, l ≠ [] → startR true false l = endsB l := by
  intro l h
  have e : l = l.dropLast ++ [l.getLast h] := (List.dropLast_concat_getLast h).symm
  have h1 : startR true false l = (decide (l.getLast h = 10) && prevR false l.dropLast) := by
    conv => lhs; rw [e]
    rw [startR_snoc]
  have hl : l.getD (l.length - 1) 0 = l.getLast h := by
    have : 0 < l.length := List.length_pos_iff.2 h
    rw [List.getLast_eq_getElem]
    simp [List.getD, show l.length - 1 < l.length by omega]
  rw [h1]
  unfold endsB
  rw [hl]
  by_cases h2 : 2 ≤ l.length
  · have hd : l.dropLast ≠ [] := by intro e2; have := congrArg List.length e2; simp at this; omega
    have e3 : l.dropLast = l.dropLast.dropLast ++ [l.dropLast.getLast hd] := (List.dropLast_concat_getLast hd).symm
    have h3 : prevR false l.dropLast = decide (l.getD (l.length - 2) 0 = 13) := by
      conv => lhs; rw [e3]
      rw [prevR_snoc, List.getLast_eq_getElem]
      have : l.dropLast[l.dropLast.length - 1]'(by have := List.length_pos_iff.2 hd; omega) = l.getD (l.length - 2) 0 := by
        simp [List.getD, List.getElem_dropLast, show l.length - 2 < l.length by omega, show l.length - 1 - 1 = l.length - 2 by omega]
      rw [this]
    rw [h3, decide_eq_true h2]
    cases decide (l.getLast h = 10) <;> simp
  · have : l.dropLast = [] := by apply List.eq_nil_of_length_eq_zero; simp; omega
    rw [this, prevR, decide_eq_false h2]
    simp
end Go.Proofs.Ytnoiaeajpjhldaa
