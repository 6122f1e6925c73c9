/-
  Layer 31: what the small functions reckon: names, numbers.
-/
import Derived.Test.YtfbicbgdfcbhpaaGreatDoorSxFun
import Derived.Test.YtfbicbgdfcbhpaaGreatDoorScPure
set_option maxRecDepth 20000
set_option linter.unusedVariables false
set_option linter.unusedSimpArgs false
set_option linter.unusedSectionVars false
namespace Go.Proofs.YtfbicbgdfcbhpaaGreatDoor
namespace SC
def nameC (c : UInt8) : Bool := decide (97 ≤ c.toNat ∧ c.toNat ≤ 122) || decide (48 ≤ c.toNat ∧ c.toNat ≤ 57) || c == 46 || c == 45 || c == 95
def nameB (l : List UInt8) : Bool := l.all nameC && (decide (l ≠ []) && decide (l.length ≤ 32))
theorem nameC_iff (c : UInt8) : nameC c = true ↔ (97 ≤ c.toNat ∧ c.toNat ≤ 122) ∨ (48 ≤ c.toNat ∧ c.toNat ≤ 57) ∨ c.toNat = 46 ∨ c.toNat = 45 ∨ c.toNat = 95 := by
  have e : ∀ k : UInt8, (c == k) = decide (c.toNat = k.toNat) := fun k => by
    rw [Bool.eq_iff_iff]; simp [UInt8.toNat_inj]
  unfold nameC
  rw [e, e, e]
  simp [or_assoc]
end SC
open SC
namespace AX
theorem isName_loop {call : CallF} {n : Nat} (l : List UInt8) (hl : l.length ≤ 100000000) : ∀ (m i : Nat), i ≤ l.length → l.length < i + m →
    f90_L2 call n m l (byteCells l) (l.length : Int) (i : Int) = some (.one (.bool ((l.drop i).all nameC && (decide (l ≠ []) && decide (l.length ≤ 32)))), [])
  | 0, i, h1, h2 => by omega
  | m + 1, i, h1, h2 => by
    have ih := isName_loop (call := call) (n := n) l hl m (i + 1)
    simp only [f90_T11, f90_L11, f90_T12, f90_L12, f90_T9, f90_L9, f90_T16, f90_L16, f90_T15, f90_L15, f90_T14, f90_L14, f90_T13, f90_L13, f90_T10, f90_L10, f90_T7, f90_L7, f90_T8, f90_L8, f90_T2, f90_L2, f90_T, f90_L]
    by_cases h : i < l.length
    · have hc := nameC_iff l[i]
      rw [List.drop_eq_getElem_cons h, List.all_cons, item_byte h, wrap_ok (by omega) (by omega), show ((i : Int) + 1) = ((i + 1 : Nat) : Int) by omega, ih (by omega) (by omega)]
      generalize (l.drop (i + 1)).all nameC = R
      simp only [castI_one, Bool.cond_eq_ite, decide_eq_true_eq, beq_iff_eq, Bool.false_eq_true, if_false, if_true]
      rw [if_pos (show (i : Int) < (l.length : Int) by omega)]
      cases hn : nameC l[i] with
      | true =>
        rw [hn] at hc; simp only [true_iff] at hc
        (repeat' split) <;> first | (simp only [Bool.true_and, Bool.and_assoc]; done) | (exfalso; omega)
      | false =>
        rw [hn] at hc; simp only [Bool.false_eq_true, false_iff, not_or] at hc
        (repeat' split) <;> first | (simp only [Bool.false_and]; done) | (exfalso; omega)
    · rw [List.drop_of_length_le (by omega)]
      simp only [Bool.cond_eq_ite, decide_eq_true_eq, List.all_nil, Bool.true_and]
      rw [if_neg (show ¬ (i : Int) < (l.length : Int) by omega)]
      cases l with
      | nil => rfl
      | cons a r => simp; omega
theorem isName_at (n : Nat) (l : List UInt8) (hl : l.length ≤ 100000000) (hn : l.length < n) : acall AXE AXF (n + 1) 90 [.one (.str l)] [] = some (.one (.bool (nameB l)), []) := by
  rw [f90_eq, f90_L, f90_T, byteCells_len, Nat.div_one]
  exact isName_loop l hl _ 0 (by omega) (by omega)
theorem rName_loop {call : CallF} {n : Nat} (l : List UInt8) (hl : l.length ≤ 100000000) : ∀ (m i : Nat), i ≤ l.length → l.length < i + m →
    f85_L2 call n m l (i : Int) = some (.one (.bool ((l.drop i).all nameC && (decide (l ≠ []) && decide (l.length ≤ 32)))), [])
  | 0, i, h1, h2 => by omega
  | m + 1, i, h1, h2 => by
    have ih := rName_loop (call := call) (n := n) l hl m (i + 1)
    simp only [f85_T9, f85_L9, f85_T10, f85_L10, f85_T7, f85_L7, f85_T8, f85_L8, f85_T2, f85_L2, f85_T, f85_L]
    by_cases h : i < l.length
    · have hc := nameC_iff l[i]
      rw [List.drop_eq_getElem_cons h, List.all_cons, item_at h, wrap_ok (by omega) (by omega), show ((i : Int) + 1) = ((i + 1 : Nat) : Int) by omega, ih (by omega) (by omega)]
      generalize (l.drop (i + 1)).all nameC = R
      simp only [castI_one, Bool.cond_eq_ite, decide_eq_true_eq, beq_iff_eq, Bool.false_eq_true, if_false, if_true, Bool.not_eq_true', decide_eq_false_iff_not, bne_iff_ne]
      rw [if_pos (show (i : Int) < (l.length : Int) by omega)]
      cases hn : nameC l[i] with
      | true =>
        rw [hn] at hc; simp only [true_iff] at hc
        (repeat' split) <;> first | (simp only [Bool.true_and, Bool.and_assoc]; done) | (exfalso; omega)
      | false =>
        rw [hn] at hc; simp only [Bool.false_eq_true, false_iff, not_or] at hc
        (repeat' split) <;> first | (simp only [Bool.false_and]; done) | (exfalso; omega)
    · rw [List.drop_of_length_le (by omega)]
      simp only [Bool.cond_eq_ite, decide_eq_true_eq, List.all_nil, Bool.true_and]
      rw [if_neg (show ¬ (i : Int) < (l.length : Int) by omega)]
      cases l with
      | nil => rfl
      | cons a r => rw [if_pos (show ((a :: r).length : Int) ≥ 1 by simp only [List.length_cons]; omega)]; simp; omega
theorem rName_at (n : Nat) (l : List UInt8) (hl : l.length ≤ 100000000) (hn : l.length < n) : acall AXE AXF (n + 1) 85 [.one (.str l)] [] = some (.one (.bool (nameB l)), []) := by
  rw [f85_eq, f85_L, f85_T]
  exact rName_loop l hl _ 0 (by omega) (by omega)

/-! numbers -/
theorem atoi_range {l : List UInt8} {v : Int} (h : Lib.atoiAll l = .ok v) : -9223372036854775808 ≤ v ∧ v ≤ 9223372036854775807 := by
  unfold Lib.atoiAll at h
  split at h
  · cases h
  · rename_i c r
    simp only [] at h
    split at h
    · cases h
    · cases h
    · split at h
      · cases h
      · split at h
        · cases h
        · cases h
          split <;> omega
theorem number_at (n : Nat) (l : List UInt8) (hl : l.length ≤ 100000000) : acall AXE AXF (n + 1) 89 [.one (.str l)] [] = some (.tup [.one (.int .i64 (atoiV l).1), .one (.bool (numQ l).isSome)], []) := by
  rw [f89_eq]
  simp only [f89_T2, f89_L2, f89_T, f89_L]
  have hp : pAtoi [.one (.str l)] = some (.tup [.one (.int .i64 (atoiV l).1), .one (.err (atoiV l).2)]) := by
    simp only [pAtoi, decide_eq_true hl, cond_true]
  rw [primK_some hp]
  simp only [castTup_tup, zI_cons, zE_cons, nilK_nil]
  cases hx : Lib.atoiAll l with
  | ok v =>
    have e : atoiV l = (v, false) := by unfold atoiV; rw [hx]
    obtain ⟨h1, h2⟩ := atoi_range hx
    have hi : pItoa [.one (.int .i64 v)] = some (.one (.str (Lib.itoa v))) := by
      simp only [pItoa, decide_eq_true h1, decide_eq_true h2, Bool.and_self, cond_true]
    have hq : (numQ l).isSome = decide (Lib.itoa v = l ∧ inB v = true) := by
      unfold numQ; rw [hx]; simp only []; by_cases hv : Lib.itoa v = l ∧ inB v = true
      · rw [if_pos hv, decide_eq_true hv]; rfl
      · rw [if_neg hv, decide_eq_false hv]; rfl
    rw [e, hq]
    simp only [Bool.not_false, cond_true, primK_some hi, oS_one]
    by_cases h3 : Lib.itoa v = l
    · simp only [h3, beq_self_eq_true, cond_true, true_and, inB]
      by_cases h4 : -9007199254740992 ≤ v
      · rw [decide_eq_true (show v ≥ -9007199254740992 from h4)]
        simp only [cond_true, decide_eq_true h4, Bool.true_and, Bool.decide_eq_true]
      · rw [decide_eq_false (show ¬ v ≥ -9007199254740992 from h4)]
        simp only [cond_false, decide_eq_false h4, Bool.false_and, Bool.false_eq_true, decide_false]
    · rw [show (Lib.itoa v == l) = false by simpa using h3]
      simp only [cond_false, h3, false_and, decide_false]
  | _ =>
    have e : (atoiV l).2 = true := by unfold atoiV; rw [hx]
    have hq : numQ l = none := by unfold numQ; rw [hx]
    rw [e, hq]; rfl
theorem number_val {l : List UInt8} {v : Int} (h : numQ l = some v) : (atoiV l).1 = v := by
  obtain ⟨rfl, h2⟩ := numQ_iff.1 h
  unfold atoiV; rw [atoi_itoa h2]
theorem in_at (n : Nat) (v : Int) : acall AXE AXF (n + 1) 23 [.one (.int .i64 v)] [] = some (.one (.bool (inB v)), []) := by
  rw [f23_eq]
  simp only [f23_T1, f23_L1, f23_T, f23_L, inB]
  by_cases h4 : -9007199254740992 ≤ v
  · rw [decide_eq_true (show v ≥ -9007199254740992 from h4)]; rfl
  · rw [decide_eq_false (show ¬ v ≥ -9007199254740992 from h4)]; rfl
theorem dig_cell (u : Nat) (k : List UInt8 → OR) : bytesK ([.int .u8 (IntKind.wrap .u8 (IntKind.wrap .i64 ((48 : Int) + (Int.tmod (u : Int) (10 : Int)))))] : List Cell) k = k [UInt8.ofNat (48 + u % 10)] := by
  have e : IntKind.wrap .u8 (IntKind.wrap .i64 ((48 : Int) + (Int.tmod (u : Int) (10 : Int)))) = ((48 + u % 10 : Nat) : Int) := by
    rw [show Int.tmod (u : Int) 10 = ((u % 10 : Nat) : Int) by rw [Int.tmod_eq_emod_of_nonneg (by omega)]; omega, wrap_ok (by omega) (by omega), IntKind.wrap_u8]; omega
  rw [e]
  simp only [bytesK, castI_one, Int.toNat_natCast]
theorem digits_loop {call : CallF} {n : Nat} : ∀ (m u : Nat) (c : UInt8) (s : List UInt8), u < 10 ^ m → u ≤ 9007199254740992 → s.length + m ≤ 1000000000000 → c = UInt8.ofNat (48 + u % 10) →
    f25_L5 call n (m + 1) (u : Int) (c :: s) = some (.one (.str (Lib.decDigits u ++ s)), [])
  | m, u, c, s, h, h2, h3, h4 => by
    subst h4
    simp only [f25_T5, f25_L5, f25_T, f25_L]
    by_cases hu : u < 10
    · rw [decide_eq_false (by omega), cond_false, dec_small hu, Nat.mod_eq_of_lt hu]; rfl
    · have ed : IntKind.wrap .i64 (Int.tdiv (u : Int) (10 : Int)) = ((u / 10 : Nat) : Int) := by
        rw [Int.tdiv_eq_ediv_of_nonneg (by omega), wrap_ok (by omega) (by omega)]; omega
      rw [ed, dig_cell]
      cases m with
      | zero => simp at h; omega
      | succ m =>
        have ih := digits_loop (call := call) (n := n) m (u / 10) _ (UInt8.ofNat (48 + u % 10) :: s) (by rw [Nat.pow_succ] at h; omega) (by omega) (by simp; omega) rfl
        have hb : decide (([UInt8.ofNat (48 + u / 10 % 10)] : List UInt8).length + (UInt8.ofNat (48 + u % 10) :: s).length ≤ strLim) = true := decide_eq_true (by simp [strLim]; omega)
        simp only [f25_T5, f25_L5, f25_T, f25_L] at ih
        rw [decide_eq_true (show (u : Int) ≥ 10 by omega), cond_true, hb, cond_true, List.cons_append, List.nil_append]
        refine Eq.trans ?_ (ih.trans ?_)
        · rfl
        · rw [dec_big hu, List.append_assoc]; rfl
theorem digits_nat (n u : Nat) (hu : u ≤ 9007199254740992) (hn : 20 ≤ n) (hn2 : n ≤ 900000000000) : acall AXE AXF (n + 1) 25 [.one (.int .i64 (u : Int))] [] = some (.one (.str (Lib.itoa u)), []) := by
  rw [f25_eq, f25_L, f25_T, decide_eq_false (by omega), cond_false, dig_cell]
  have h : u < 10 ^ n := Nat.lt_of_lt_of_le (Nat.lt_of_le_of_lt hu (by decide : 9007199254740992 < 10 ^ 20)) (Nat.pow_le_pow_right (by decide) hn)
  rw [digits_loop n u _ [] h hu (by simp; omega) rfl, List.append_nil]
  rfl
theorem digits_at (n : Nat) (v : Int) (hv : inB v = true) (hn : 21 ≤ n) (hn2 : n ≤ 900000000000) : acall AXE AXF (n + 1) 25 [.one (.int .i64 v)] [] = some (.one (.str (Lib.itoa v)), []) := by
  rw [inB_iff] at hv
  by_cases h : v < 0
  · obtain ⟨n, rfl⟩ : ∃ k, n = k + 1 := ⟨n - 1, by omega⟩
    have h1 := digits_nat n v.natAbs (by omega) (by omega) (by omega)
    have e : IntKind.wrap .i64 (0 - v) = (v.natAbs : Int) := by rw [wrap_ok (by omega) (by omega)]; omega
    have e2 : Lib.itoa v = 45 :: Lib.itoa (v.natAbs : Int) := by
      unfold Lib.itoa; rw [if_pos h, if_neg (by omega)]; simp
    rw [f25_eq, f25_L, f25_T, decide_eq_true h, cond_true, e, callK_some h1, oS_one, e2]
    have hb : decide (([45] : List UInt8).length + (Lib.itoa (v.natAbs : Int)).length ≤ strLim) = true := decide_eq_true (by
      have : (Lib.itoa (v.natAbs : Int)).length ≤ 20 := by
        rw [show Lib.itoa (v.natAbs : Int) = Lib.decDigits v.natAbs by unfold Lib.itoa; rw [if_neg (by omega)]; simp]
        exact dec_len _ 19 (by omega)
      simp [strLim]; omega)
    rw [hb, cond_true]; rfl
  · obtain ⟨u, rfl⟩ : ∃ u : Nat, v = u := ⟨v.toNat, by omega⟩
    exact digits_nat n u (by omega) (by omega) hn2
end AX
end Go.Proofs.YtfbicbgdfcbhpaaGreatDoor
