/-
  RpDefs, AddrPlain, QuotedF.
-/
import Derived.Test.YtnkppakkeobegaaGreatDoorZC12
import Derived.Test.YtnkppakkeobegaaGreatDoorZC13
import Derived.Test.YtnkppakkeobegaaGreatDoorZC00
set_option maxRecDepth 20000
set_option linter.unusedVariables false
set_option linter.unusedSimpArgs false
set_option linter.unusedSectionVars false
namespace Go.Proofs.YtnkppakkeobegaaGreatDoor
def fitsB (l : List UInt8) (code : Int) : Bool := match enhQ l with
 | some (a, _, _) => decide ((a : Int) = code.tdiv 100)
 | none => false
def goodR (code : Int) (e : List UInt8) (ss : List ByteArray) : Bool := codeB code && ((e.isEmpty || fitsB e code) && (!ss.isEmpty && ss.all fun s => lineB s.data.toList))
def lineL (sign : UInt8) (code : Int) (e : List UInt8) (s : List UInt8) : List UInt8 := Lib.itoa code ++ ([sign] ++ ((if e = [] then [] else e ++ [32]) ++ (s ++ [13, 10])))
def bytesL (code : Int) (e : List UInt8) : List ByteArray → List UInt8
 | [] => []
 | [s] => lineL 32 code e s.data.toList
 | s :: t :: r => lineL 45 code e s.data.toList ++ bytesL code e (t :: r)
end Go.Proofs.YtnkppakkeobegaaGreatDoor
set_option maxRecDepth 20000
set_option linter.unusedVariables false
set_option linter.unusedSimpArgs false
set_option linter.unusedSectionVars false
namespace Go.Proofs.YtnkppakkeobegaaGreatDoor
def digitB (c : UInt8) : Bool := decide (48 ≤ c.toNat ∧ c.toNat ≤ 57)
def plainB (c : UInt8) : Bool := decide (32 ≤ c.toNat ∧ c.toNat ≤ 126)
def quotedP : List UInt8 → Option (List UInt8 × Nat)
 | [] => none
 | [c] => if c = 34 then some ([], 1) else none
 | c :: d :: r =>
  if c = 34 then some ([], 1)
  else if c = 92 then (if plainB d = true then (quotedP r).map fun x => (d :: x.1, x.2 + 2) else none)
  else if plainB c = true then (quotedP (d :: r)).map fun x => (c :: x.1, x.2 + 1) else none
theorem quotedP_drop (l : List UInt8) (j : Nat) (h : j < l.length) : quotedP (l.drop j) =
 if l.getD j 0 = 34 then some ([], 1)
 else if l.getD j 0 = 92 then (if plainB (l.getD (j + 1) 0) = true then (quotedP (l.drop (j + 2))).map fun x => (l.getD (j + 1) 0 :: x.1, x.2 + 2) else none)
 else if plainB (l.getD j 0) = true then (quotedP (l.drop (j + 1))).map fun x => (l.getD j 0 :: x.1, x.2 + 1) else none := by
 have e0 : l.getD j 0 = l[j] := by simp [List.getD, h]
 rw [e0]
 rcases Nat.lt_or_ge (j + 1) l.length with h1 | h1
 · have e1 : l.getD (j + 1) 0 = l[j + 1] := by simp [List.getD, h1]
   rw [e1, List.drop_eq_getElem_cons h, List.drop_eq_getElem_cons h1, quotedP]
 · have e1 : l.getD (j + 1) 0 = 0 := by simp [List.getD, List.getElem?_eq_none h1]
   rw [e1, List.drop_eq_getElem_cons h, List.drop_of_length_le h1, List.drop_of_length_le (show l.length ≤ j + 2 by omega), quotedP, quotedP]
   have h0 : plainB 0 = false := rfl
   simp [h0]
theorem quotedP_le : ∀ (m : Nat) (l : List UInt8), l.length ≤ m → ∀ t k, quotedP l = some (t, k) → k ≤ l.length ∧ t.length < k
 | 0, l, hl, t, k, h => by obtain rfl : l = [] := List.eq_nil_of_length_eq_zero (by omega); rw [quotedP] at h; cases h
 | m + 1, [], _, t, k, h => by rw [quotedP] at h; cases h
 | m + 1, [c], _, t, k, h => by
  rw [quotedP] at h
  split at h
  · cases h; simp
  · cases h
 | m + 1, c :: d :: r, hl, t, k, h => by
  rw [quotedP] at h
  split at h
  · cases h; simp
  · split at h
    · split at h
      · cases hx : quotedP r with
        | none => rw [hx] at h; cases h
        | some y =>
         have := quotedP_le m r (by simp at hl; omega) y.1 y.2 hx
         rw [hx] at h
         simp only [Option.map_some, Option.some.injEq, Prod.mk.injEq] at h
         obtain ⟨rfl, rfl⟩ := h
         simp; omega
      · cases h
    · split at h
      · cases hx : quotedP (d :: r) with
        | none => rw [hx] at h; cases h
        | some y =>
         have := quotedP_le m (d :: r) (by simp at hl ⊢; omega) y.1 y.2 hx
         rw [hx] at h
         simp only [Option.map_some, Option.some.injEq, Prod.mk.injEq] at h
         obtain ⟨rfl, rfl⟩ := h
         simp at this ⊢; omega
      · cases h
end Go.Proofs.YtnkppakkeobegaaGreatDoor
set_option maxRecDepth 20000
set_option linter.unusedVariables false
set_option linter.unusedSimpArgs false
set_option linter.unusedSectionVars false
namespace Go.Proofs.YtnkppakkeobegaaGreatDoor
def quotedF : List UInt8 → Nat
 | [] => 0
 | [_] => 1
 | c :: d :: r =>
  if c = 34 then 1
  else if c = 92 then (if plainB d = true then quotedF r + 2 else 1)
  else if plainB c = true then quotedF (d :: r) + 1 else 1
theorem quotedF_drop (l : List UInt8) (j : Nat) (h : j < l.length) : quotedF (l.drop j) =
 if l.getD j 0 = 34 then 1
 else if l.getD j 0 = 92 then (if plainB (l.getD (j + 1) 0) = true then quotedF (l.drop (j + 2)) + 2 else 1)
 else if plainB (l.getD j 0) = true then quotedF (l.drop (j + 1)) + 1 else 1 := by
 have e0 : l.getD j 0 = l[j] := by simp [List.getD, h]
 rw [e0]
 rcases Nat.lt_or_ge (j + 1) l.length with h1 | h1
 · have e1 : l.getD (j + 1) 0 = l[j + 1] := by simp [List.getD, h1]
   rw [e1, List.drop_eq_getElem_cons h, List.drop_eq_getElem_cons h1, quotedF]
 · have e1 : l.getD (j + 1) 0 = 0 := by simp [List.getD, List.getElem?_eq_none h1]
   rw [e1, List.drop_eq_getElem_cons h, List.drop_of_length_le h1, quotedF, quotedF]
   have h0 : plainB 0 = false := rfl
   simp [h0]
end Go.Proofs.YtnkppakkeobegaaGreatDoor
