/-
  addr.Domain: what it gives.
-/
import Derived.Test.YtfbicbgdfcbhpaaDoorMailbox
set_option maxRecDepth 20000
set_option linter.unusedVariables false
set_option linter.unusedSimpArgs false
set_option linter.unusedSectionVars false
namespace Go.Proofs.YtfbicbgdfcbhpaaDoor
open Go.ChangeShapes Go.WideShapes Go.ChangeAt Go.RowKit

theorem rd_alloc_at (w : World) (b : Nat) (c c' : Array Value) (T : TypeId) (h : b = w.heap.size) : rd (w.alloc (.cells c T)) b c' = w.alloc (.cells c' T) := by subst h; exact rd_alloc_own w c c' T
attribute [go_sem] rd_alloc_at
/-- Is that a domain? -/
def domainB (l : List UInt8) : Bool := domP l == some l.length && decide (l.length ≤ 64)
theorem domP_le {l : List UInt8} {k : Nat} (h : domP l = some k) : k ≤ l.length := by
  have hT : ∀ m (l : List UInt8), l.length ≤ m → ∀ k, domT l = some k → k ≤ l.length := by
    intro m
    induction m with
    | zero => intro l hl k h; obtain rfl : l = [] := List.eq_nil_of_length_eq_zero (by omega); rw [domT] at h; cases h; simp
    | succ m ih =>
      intro l hl k h
      match l, h with
      | [], h => rw [domT] at h; cases h; simp
      | c :: r, h =>
        rw [domT] at h
        split at h
        · split at h
          · have hs := spanLen_le labelB r
            cases hx : domT (r.drop (spanLen labelB r)) with
            | none => rw [hx] at h; cases h
            | some y =>
              rw [hx] at h
              have := ih (r.drop (spanLen labelB r)) (by simp at hl ⊢; omega) y hx
              simp at h this ⊢
              omega
          · cases h
        · cases h; simp
  unfold domP at h
  split at h
  · have hs := spanLen_le labelB l
    cases hx : domT (l.drop (spanLen labelB l)) with
    | none => rw [hx] at h; cases h
    | some y =>
      rw [hx] at h
      have := hT _ _ (Nat.le_refl _) y hx
      simp at h this
      omega
  · cases h

set_option maxHeartbeats 2000000 in
theorem domain_calls (s : ByteArray) (hs : s.size ≤ 140000000000000) (w : World) : Calls Tryd.prog 39 #[.string s] w fun r w' => r = .returned (.bool (domainB s.data.toList)) ∧ Below w.heap.size w w' := by
  have hlen : s.data.toList.length = s.size := by simp
  have hrow := RowIs.new_at w #[.string s, .int .i64 0, .bool false] 104 _ rfl
  unfold domainB
  rw [hlen]
  cases hp : domP s.data.toList with
  | none =>
    have hd := domain_no 0 hp rfl (Nat.zero_le _) (by omega) hrow
    rw [show ((none : Option Nat) == some s.size) = false from rfl, Bool.false_and]
    clear hp hrow hlen
    replace hd := Lib.hid hd
    go_enter Tryd.func39, Tryd.ntmps39
    go_wp2_with (go_at_call 63; ((refine hd.out.mono ?_); rintro r w1 ⟨n2, lg2, hn2, rfl, bs3, d3, rfl⟩))
    go_returns
    exact ⟨rfl, by (repeat' (first | (with_reducible exact Below.refl _ _) | (with_reducible refine Below.app ?_ ?_ _ _) | (with_reducible refine Below.alloc ?_ ?_ _) | (with_reducible refine Below.drew ?_) | (with_reducible refine Below.setCell ?_ ?_ _) | (with_reducible assumption) | omega | (simp; omega) | (simp; done)))⟩
  | some k =>
    have hd := domain_yes 0 k hp rfl (Nat.zero_le _) (by omega) hrow
    have hk := domP_le hp
    rw [hlen] at hk
    have he : ((some k : Option Nat) == some s.size) = decide (k = s.size) := by rw [Bool.eq_iff_iff]; simp
    rw [he]
    rw [Nat.zero_add, Bool.false_or] at hd
    clear hp hrow hlen he
    by_cases hks : k = s.size
    · subst hks
      replace hd := Lib.hid hd
      go_enter Tryd.func39, Tryd.ntmps39
      go_wp2_with (go_at_call 63; ((refine hd.out.mono ?_); rintro r w1 ⟨rfl, bs3, d3, rfl⟩))
      all_goals
        go_returns
        refine ⟨rb ?_, by (repeat' (first | (with_reducible exact Below.refl _ _) | (with_reducible refine Below.app ?_ ?_ _ _) | (with_reducible refine Below.alloc ?_ ?_ _) | (with_reducible refine Below.drew ?_) | (with_reducible refine Below.setCell ?_ ?_ _) | (with_reducible assumption) | omega | (simp; omega) | (simp; done)))⟩
        go_light
        first | (simp; done) | (rw [Bool.eq_iff_iff]; simp; omega)
    · have hks' : ((k : Int) == (s.size : Int)) = false := by simp; omega
      have hks2 : ¬ (k : Int) = s.size := by omega
      rw [decide_eq_false hks]
      replace hd := Lib.hid hd
      go_enter Tryd.func39, Tryd.ntmps39
      go_wp2_with (go_at_call 63; ((refine hd.out.mono ?_); rintro r w1 ⟨rfl, bs3, d3, rfl⟩))
      all_goals
        go_returns
        exact ⟨rfl, by (repeat' (first | (with_reducible exact Below.refl _ _) | (with_reducible refine Below.app ?_ ?_ _ _) | (with_reducible refine Below.alloc ?_ ?_ _) | (with_reducible refine Below.drew ?_) | (with_reducible refine Below.setCell ?_ ?_ _) | (with_reducible assumption) | omega | (simp; omega) | (simp; done)))⟩

end Go.Proofs.YtfbicbgdfcbhpaaDoor
