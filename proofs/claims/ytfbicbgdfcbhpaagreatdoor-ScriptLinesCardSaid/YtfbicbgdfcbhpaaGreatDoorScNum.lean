/-
  Layer 31: the reference's Number; lists of names, of numbers; slots.
-/
import Derived.Test.YtfbicbgdfcbhpaaGreatDoorScLeaf
set_option maxRecDepth 20000
set_option linter.unusedVariables false
set_option linter.unusedSimpArgs false
set_option linter.unusedSectionVars false
namespace Go.Proofs.YtfbicbgdfcbhpaaGreatDoor
open SC
namespace AX
def numAV (s : List UInt8) : AV := match numQ s with | some v => .tup [.one (.int .i64 v), .one (.bool true)] | none => .tup [.one (.int .i64 0), .one (.bool false)]
/-- the tail of the reference's Number -/
theorem Number_tail {call : CallF} {n : Nat} (s : List UInt8) (u : Nat) (hu : u ≤ 90071992547409930) (hin : ∀ v : Int, call 23 [.one (.int .i64 v)] [] = some (.one (.bool (inB v)), []))
    (hd : ∀ v : Int, inB v = true → call 25 [.one (.int .i64 v)] [] = some (.one (.str (Lib.itoa v)), [])) (hm : magR s = some u) :
    f86_L8 call n s (u : Int) (negR s) = some (numAV s, []) := by
  have key : ∀ v : Int, v = (if negR s then -(u : Int) else u) → f86_L11 call n s v = some (numAV s, []) := by
    intro v hv
    have hq : numQ s = if inB v = true ∧ Lib.itoa v = s then some v else none := by
      rw [← numR_eq]; unfold numR; rw [hm]; simp only []; rw [← hv]
    simp only [f86_T9, f86_L9, f86_T17, f86_L17, f86_T12, f86_L12, f86_T10, f86_L10, f86_T7, f86_L7, f86_T18, f86_L18, f86_T14, f86_L14, f86_T11, f86_L11, f86_T8, f86_L8, f86_T3, f86_L3, f86_T, f86_L, callK_some (hin v), oB_one]
    unfold numAV
    rw [hq]
    cases hb : inB v with
    | false => simp
    | true =>
      simp only [Bool.not_true, cond_false, callK_some (hd v hb), oS_one, true_and]
      by_cases hs : Lib.itoa v = s
      · rw [if_pos hs, hs, beq_self_eq_true]; rfl
      · rw [if_neg hs, show (Lib.itoa v == s) = false by simpa using hs]; rfl
  have hw : IntKind.wrap .i64 (0 - (u : Int)) = -(u : Int) := by rw [wrap_ok (by omega) (by omega)]; omega
  rw [f86_L8, f86_T8, hw]
  cases hn : negR s with
  | true => rw [cond_true]; exact key _ (by rw [hn]; rfl)
  | false => rw [cond_false]; exact key _ (by rw [hn]; rfl)
theorem Number_none {s : List UInt8} (h : magR s = none) : numQ s = none := by rw [← numR_eq]; unfold numR; rw [h]
theorem negR_at (s : List UInt8) (h : 0 < s.length) : ((s[0].toNat : Int) == 45) = negR s := by
  cases s with
  | nil => simp at h
  | cons c r =>
    unfold negR
    rw [Bool.eq_iff_iff]; simp; omega
/-- from a place on -/
theorem Number_loop {call : CallF} {n : Nat} (s : List UInt8) (hl : s.length ≤ 100000000) (hin : ∀ v : Int, call 23 [.one (.int .i64 v)] [] = some (.one (.bool (inB v)), []))
    (hd : ∀ v : Int, inB v = true → call 25 [.one (.int .i64 v)] [] = some (.one (.str (Lib.itoa v)), [])) : ∀ (m i u : Nat), i ≤ s.length → s.length < i + m → u ≤ 90071992547409930 →
    (0 < i ∨ negR s = false) → magR s = numL u (s.drop i) →
    f86_L3 call n m s (u : Int) (i : Int) = some (numAV s, [])
  | 0, i, u, h1, h2, _, _, _ => by omega
  | m + 1, i, u, h1, h2, hu, hi, hm => by
    have ih := Number_loop (call := call) (n := n) s hl hin hd m (i + 1)
    rw [f86_L3, f86_T3]
    by_cases h : i < s.length
    · rw [decide_eq_true (by omega), cond_true]
      have hno : (bif ((i : Int) == (0 : Int)) then itemK s (0 : Int) fun u1 => f86_L7 call n (f86_L3 call n m) s (u : Int) (i : Int) ((u1.toNat : Int) == 45) else f86_L7 call n (f86_L3 call n m) s (u : Int) (i : Int) false)
          = f86_L7 call n (f86_L3 call n m) s (u : Int) (i : Int) false := by
        by_cases h0 : i = 0
        · subst h0
          have hx := item_at (l := s) (i := 0) h (k := fun u1 => f86_L7 call n (f86_L3 call n m) s (u : Int) ((0 : Nat) : Int) ((u1.toNat : Int) == 45))
          have hneg : negR s = false := hi.resolve_left (by omega)
          rw [show (((0 : Nat) : Int) == 0) = true by rfl, cond_true]
          refine hx.trans ?_
          rw [negR_at s h, hneg]
        · rw [show ((i : Int) == 0) = false by simpa using h0, cond_false]
      rw [hno]
      simp only [f86_L7, f86_T7, cond_false, f86_L10, f86_T10, item_at h, f86_L12, f86_T12, f86_L9, f86_T9, f86_L17, f86_T17, cond_true]
      rw [List.drop_eq_getElem_cons h, numL] at hm
      by_cases hc : 48 ≤ s[i].toNat ∧ s[i].toNat ≤ 57 ∧ u ≤ 9007199254740992
      · rw [if_pos hc] at hm
        rw [decide_eq_false (by omega), cond_false, decide_eq_false (by omega), cond_false, decide_eq_false (by omega), cond_false, wrap_ok (x := (s[i].toNat : Int)) (by omega) (by omega), wrap_ok (x := 10 * (u : Int)) (by omega) (by omega),
          wrap_ok (x := 10 * (u : Int) + (s[i].toNat : Int)) (by omega) (by omega), wrap_ok (by omega) (by omega), wrap_ok (by omega) (by omega),
          show 10 * (u : Int) + (s[i].toNat : Int) - 48 = ((10 * u + (s[i].toNat - 48) : Nat) : Int) by omega, show ((i : Int) + 1) = ((i + 1 : Nat) : Int) by omega]
        exact ih _ (by omega) (by omega) (by omega) (.inl (by omega)) hm
      · rw [if_neg hc] at hm
        have hq := Number_none hm
        have hg : some (numAV s, ([] : Heap)) = some (.tup [.one (.int .i64 0), .one (.bool false)], []) := by unfold numAV; rw [hq]
        rw [hg]
        by_cases h1 : s[i].toNat < 48
        · rw [decide_eq_true (by omega), cond_true]
        · rw [decide_eq_false (by omega), cond_false]
          by_cases h2 : 57 < s[i].toNat
          · rw [decide_eq_true (by omega), cond_true]
          · rw [decide_eq_false (by omega), cond_false, decide_eq_true (by omega), cond_true]
    · rw [decide_eq_false (by omega), cond_false]
      rw [List.drop_of_length_le (by omega), numL] at hm
      by_cases h0 : 0 < s.length
      · have hx := item_at (l := s) (i := 0) h0 (k := fun u2 => f86_L8 call n s (u : Int) ((u2.toNat : Int) == 45))
        rw [decide_eq_true (by omega), cond_true]
        refine hx.trans ?_
        rw [negR_at s h0]
        exact Number_tail s u hu hin hd hm
      · rw [decide_eq_false (by omega), cond_false]
        have hneg : negR s = false := by
          cases s with
          | nil => rfl
          | cons c r => simp at h0
        have := Number_tail (n := n) s u hu hin hd hm
        rw [hneg] at this
        exact this
theorem Number_at (n : Nat) (s : List UInt8) (hl : s.length ≤ 100000000) (hn : s.length + 30 < n) (hn2 : n ≤ 800000000000) : acall AXE AXF (n + 1) 86 [.one (.str s)] [] = some (numAV s, []) := by
  obtain ⟨n, rfl⟩ : ∃ k, n = k + 1 := ⟨n - 1, by omega⟩
  have hin := fun v => in_at n v
  have hd := fun v hv => digits_at n v hv (by omega) (by omega)
  rw [f86_eq, f86_L, f86_T]
  generalize acall AXE AXF (n + 1) = call at *
  cases s with
  | nil => exact Number_loop [] hl hin hd _ 0 0 (by simp) (by simp) (by omega) (.inr rfl) rfl
  | cons c r =>
    by_cases hc : c.toNat = 45
    · have hm : magR (c :: r) = numL 0 r := by unfold magR; simp only []; rw [if_pos hc]
      rw [f86_L3, f86_T3, decide_eq_true (by first | (simp; done) | (simp; omega)), cond_true, show ((0 : Int) == 0) = true by rfl, cond_true]
      refine (item_at (l := c :: r) (i := 0) (by simp)).trans ?_
      rw [negR_at _ (by simp), show negR (c :: r) = true by unfold negR; simpa using hc, f86_L7, f86_T7, cond_true, f86_L9, f86_T9, wrap_ok (by omega) (by omega)]
      exact Number_loop (c :: r) hl hin hd _ 1 0 (by simp) (by simp at hn ⊢; omega) (by omega) (.inl (by omega)) (by rw [hm]; rfl)
    · exact Number_loop (c :: r) hl hin hd _ 0 0 (by simp) (by simp at hn ⊢; omega) (by omega) (.inr (by unfold negR; simpa using hc)) (by unfold magR; simp only []; rw [if_neg hc]; rfl)
end AX
end Go.Proofs.YtfbicbgdfcbhpaaGreatDoor
