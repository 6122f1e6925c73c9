/-
  Layer 31: data are read back in the reference.
-/
import Derived.Test.YtfbicbgdfcbhpaaDoorScUnq
set_option maxRecDepth 20000
set_option linter.unusedVariables false
set_option linter.unusedSimpArgs false
set_option linter.unusedSectionVars false
namespace Go.Proofs.YtfbicbgdfcbhpaaDoor
open SC
namespace AX
def nibV (c : UInt8) : Int := if 48 ≤ c.toNat ∧ c.toNat ≤ 57 then (c.toNat : Int) - 48 else if 97 ≤ c.toNat ∧ c.toNat ≤ 102 then (c.toNat : Int) - 87 else -1
/-- one byte of data, by the reference -/
def stepD : List UInt8 → Option (UInt8 × Nat)
  | [] => none
  | x :: r => if x = 92 then (match r with
      | [] => none
      | y :: r2 => if y = 114 then some (13, 2) else if y = 110 then some (10, 2) else if y = 120 then (match r2 with
          | a :: b :: _ => if 0 ≤ nibV a ∧ 0 ≤ nibV b then some (UInt8.ofNat (IntKind.wrap .u8 (IntKind.wrap .i64 ((IntKind.wrap .i64 ((16 : Int) * nibV a)) + nibV b))).toNat, 4) else none
          | _ => none) else some (y, 2)) else some (x, 1)
theorem stepD_hex (c : UInt8) : 0 ≤ nibV (hexd (c.toNat / 16)) ∧ 0 ≤ nibV (hexd (c.toNat % 16)) ∧ UInt8.ofNat (IntKind.wrap .u8 (IntKind.wrap .i64 ((IntKind.wrap .i64 ((16 : Int) * nibV (hexd (c.toNat / 16)))) + nibV (hexd (c.toNat % 16))))).toNat = c := by
  have h : ∀ n : Fin 256, 0 ≤ nibV (hexd (n.val / 16)) ∧ 0 ≤ nibV (hexd (n.val % 16)) ∧ UInt8.ofNat (IntKind.wrap .u8 (IntKind.wrap .i64 ((IntKind.wrap .i64 ((16 : Int) * nibV (hexd (n.val / 16)))) + nibV (hexd (n.val % 16))))).toNat = UInt8.ofNat n.val := by decide +kernel
  have := h ⟨c.toNat, c.toNat_lt⟩
  simpa using this
theorem stepD_esc (c : UInt8) (r : List UInt8) : ∃ k, stepD (esc c ++ r) = some (c, k) ∧ k = (esc c).length := by
  rcases esc_cases c with ⟨e, h⟩ | ⟨e, h⟩ | ⟨e, h⟩ | ⟨e, h⟩ | e <;> rw [e]
  · refine ⟨2, ?_, rfl⟩
    rcases h with rfl | rfl <;> rfl
  · refine ⟨1, ?_, rfl⟩
    simp only [List.cons_append, List.nil_append, stepD]; rw [if_neg h]
  · refine ⟨2, ?_, rfl⟩; subst h; rfl
  · refine ⟨2, ?_, rfl⟩; subst h; rfl
  · refine ⟨4, ?_, rfl⟩
    obtain ⟨h1, h2, h3⟩ := stepD_hex c
    show (if 0 ≤ nibV (hexd (c.toNat / 16)) ∧ 0 ≤ nibV (hexd (c.toNat % 16)) then some (UInt8.ofNat _, 4) else none) = _
    rw [if_pos ⟨h1, h2⟩, h3]
theorem stepD_le {t : List UInt8} {c : UInt8} {k : Nat} (h : stepD t = some (c, k)) : 0 < k ∧ k ≤ t.length := by
  unfold stepD at h
  split at h
  · cases h
  · split at h
    · split at h
      · cases h
      · split at h
        · cases h; simp
        · split at h
          · cases h; simp
          · split at h
            · split at h
              · split at h
                · cases h; simp
                · cases h
              · cases h
            · cases h; simp
    · cases h; simp
end AX
end Go.Proofs.YtfbicbgdfcbhpaaDoor
