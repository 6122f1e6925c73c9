/-
  Kinds of bytes, and what a reader of mailboxes takes, in plain words: lists of bytes, no program.
-/
import Derived.Test.YtfbicbgdfcbhpaaDoorBase
set_option maxRecDepth 20000
set_option linter.unusedVariables false
set_option linter.unusedSimpArgs false
set_option linter.unusedSectionVars false
namespace Go.Proofs.YtfbicbgdfcbhpaaDoor

def letterB (c : UInt8) : Bool := decide ((97 ≤ c.toNat ∧ c.toNat ≤ 122) ∨ (65 ≤ c.toNat ∧ c.toNat ≤ 90))
def digitB (c : UInt8) : Bool := decide (48 ≤ c.toNat ∧ c.toNat ≤ 57)
def alnumB (c : UInt8) : Bool := letterB c || digitB c
def othersL : List UInt8 := [33, 35, 36, 37, 38, 39, 42, 43, 45, 47, 61, 63, 94, 95, 96, 123, 124, 125, 126]
def atomB (c : UInt8) : Bool := alnumB c || othersL.contains c
def plainB (c : UInt8) : Bool := decide (32 ≤ c.toNat ∧ c.toNat ≤ 126)
def labelB (c : UInt8) : Bool := alnumB c || c == 45

/-- How many bytes of a kind stand ahead. -/
def spanLen (f : UInt8 → Bool) : List UInt8 → Nat
  | [] => 0
  | c :: r => if f c = true then spanLen f r + 1 else 0
theorem spanLen_le (f : UInt8 → Bool) : ∀ l, spanLen f l ≤ l.length
  | [] => by simp [spanLen]
  | c :: r => by
    have := spanLen_le f r
    simp only [spanLen, List.length_cons]; split <;> omega
theorem spanLen_at (f : UInt8 → Bool) (l : List UInt8) (n : Nat) (h : n < l.length) : spanLen f (l.drop n) = if f l[n] = true then spanLen f (l.drop (n + 1)) + 1 else 0 := by
  rw [List.drop_eq_getElem_cons h, spanLen]
theorem spanLen_end (f : UInt8 → Bool) (l : List UInt8) (n : Nat) (h : l.length ≤ n) : spanLen f (l.drop n) = 0 := by
  rw [List.drop_of_length_le h, spanLen]

/-- Is that a label? -/
def labelOk (l : List UInt8) : Bool := !l.isEmpty && l.head? != some 45 && l.getLast? != some 45
/-- What follows the first label of a domain: how many bytes. -/
def domT : List UInt8 → Option Nat
  | [] => some 0
  | c :: r => if c = 46 then (if labelOk (r.take (spanLen labelB r)) = true then (domT (r.drop (spanLen labelB r))).map (spanLen labelB r + 1 + ·) else none) else some 0
termination_by l => l.length
decreasing_by simp; omega
/-- How many bytes the domain has with which a text begins. -/
def domP (l : List UInt8) : Option Nat := if labelOk (l.take (spanLen labelB l)) = true then (domT (l.drop (spanLen labelB l))).map (spanLen labelB l + ·) else none
/-- What follows the first atom. -/
def atomsT : List UInt8 → Option Nat
  | [] => some 0
  | c :: r => if c = 46 then (if spanLen atomB r = 0 then none else (atomsT (r.drop (spanLen atomB r))).map (spanLen atomB r + 1 + ·)) else some 0
termination_by l => l.length
decreasing_by simp; omega
/-- How many bytes the atoms have. -/
def atomsP (l : List UInt8) : Option Nat := if spanLen atomB l = 0 then none else (atomsT (l.drop (spanLen atomB l))).map (spanLen atomB l + ·)
/-- What stands between quotes, behind the first: what it tells, and how many bytes it has. -/
def quotedP : List UInt8 → Option (List UInt8 × Nat)
  | [] => none
  | [c] => if c = 34 then some ([], 1) else none
  | c :: d :: r =>
    if c = 34 then some ([], 1)
    else if c = 92 then (if plainB d = true then (quotedP r).map fun x => (d :: x.1, x.2 + 2) else none)
    else if plainB c = true then (quotedP (d :: r)).map fun x => (c :: x.1, x.2 + 1) else none
theorem quotedP_drop (l : List UInt8) (j : Nat) (h : j < l.length) : quotedP (l.drop j) =
    if l.getD j 0 = 34 then some ([], 1)
    else if l.getD j 0 = 92 then (if plainB (l.getD (j + 1) 0) = true then (quotedP (l.drop (j + 2))).map fun x => (l.getD (j + 1) 0 :: x.1, x.2 + 2) else none)
    else if plainB (l.getD j 0) = true then (quotedP (l.drop (j + 1))).map fun x => (l.getD j 0 :: x.1, x.2 + 1) else none := by
  have e0 : l.getD j 0 = l[j] := by simp [List.getD, h]
  rw [e0]
  rcases Nat.lt_or_ge (j + 1) l.length with h1 | h1
  · have e1 : l.getD (j + 1) 0 = l[j + 1] := by simp [List.getD, h1]
    rw [e1, List.drop_eq_getElem_cons h, List.drop_eq_getElem_cons h1, quotedP]
  · have e1 : l.getD (j + 1) 0 = 0 := by simp [List.getD, List.getElem?_eq_none h1]
    rw [e1, List.drop_eq_getElem_cons h, List.drop_of_length_le h1, List.drop_of_length_le (show l.length ≤ j + 2 by omega), quotedP, quotedP]
    have h0 : plainB 0 = false := rfl
    simp [h0]
theorem quotedP_le : ∀ (m : Nat) (l : List UInt8), l.length ≤ m → ∀ t k, quotedP l = some (t, k) → k ≤ l.length ∧ t.length < k
  | 0, l, hl, t, k, h => by obtain rfl : l = [] := List.eq_nil_of_length_eq_zero (by omega); rw [quotedP] at h; cases h
  | m + 1, [], _, t, k, h => by rw [quotedP] at h; cases h
  | m + 1, [c], _, t, k, h => by
    rw [quotedP] at h
    split at h
    · cases h; simp
    · cases h
  | m + 1, c :: d :: r, hl, t, k, h => by
    rw [quotedP] at h
    split at h
    · cases h; simp
    · split at h
      · split at h
        · cases hx : quotedP r with
          | none => rw [hx] at h; cases h
          | some y =>
            have := quotedP_le m r (by simp at hl; omega) y.1 y.2 hx
            rw [hx] at h
            simp only [Option.map_some, Option.some.injEq, Prod.mk.injEq] at h
            obtain ⟨rfl, rfl⟩ := h
            simp; omega
        · cases h
      · split at h
        · cases hx : quotedP (d :: r) with
          | none => rw [hx] at h; cases h
          | some y =>
            have := quotedP_le m (d :: r) (by simp at hl ⊢; omega) y.1 y.2 hx
            rw [hx] at h
            simp only [Option.map_some, Option.some.injEq, Prod.mk.injEq] at h
            obtain ⟨rfl, rfl⟩ := h
            simp at this ⊢; omega
        · cases h
/-- A local part: what it tells, and how many bytes it has. -/
def localP (l : List UInt8) : Option (List UInt8 × Nat) :=
  if l.getD 0 0 = 34 then (match quotedP (l.drop 1) with
    | some (t, k) => if t = [] then none else some (t, 1 + k)
    | none => none)
  else (atomsP l).map fun k => (l.take k, k)
/-- A mailbox: its local part, its domain's length, its own. -/
def mailboxP (l : List UInt8) : Option (List UInt8 × Nat × Nat) :=
  match localP l with
  | none => none
  | some (t, k) => if l.getD k 0 = 64 then (domP (l.drop (k + 1))).map fun d => (t, d, k + 1 + d) else none
theorem atomsP_pos {l : List UInt8} {k : Nat} (h : atomsP l = some k) : 0 < k ∧ k ≤ l.length := by
  have hT : ∀ m (l : List UInt8), l.length ≤ m → ∀ k, atomsT l = some k → k ≤ l.length := by
    intro m
    induction m with
    | zero => intro l hl k h; obtain rfl : l = [] := List.eq_nil_of_length_eq_zero (by omega); rw [atomsT] at h; cases h; simp
    | succ m ih =>
      intro l hl k h
      match l, h with
      | [], h => rw [atomsT] at h; cases h; simp
      | c :: r, h =>
        rw [atomsT] at h
        split at h
        · split at h
          · cases h
          · have hs := spanLen_le atomB r
            cases hx : atomsT (r.drop (spanLen atomB r)) with
            | none => rw [hx] at h; cases h
            | some y =>
              rw [hx] at h
              have := ih (r.drop (spanLen atomB r)) (by simp at hl ⊢; omega) y hx
              simp at h this ⊢
              omega
        · cases h; simp
  unfold atomsP at h
  split at h
  · cases h
  · have hs := spanLen_le atomB l
    cases hx : atomsT (l.drop (spanLen atomB l)) with
    | none => rw [hx] at h; cases h
    | some y =>
      rw [hx] at h
      have := hT _ _ (Nat.le_refl _) y hx
      simp at h this
      omega
end Go.Proofs.YtfbicbgdfcbhpaaDoor
