/-
  Layer 31: what the small functions reckon: names, numbers.
-/
import Derived.Test.YtfbicbgdfcbhpaaDoorSxFun
import Derived.Test.YtfbicbgdfcbhpaaDoorScPure
set_option maxRecDepth 20000
set_option linter.unusedVariables false
set_option linter.unusedSimpArgs false
set_option linter.unusedSectionVars false
namespace Go.Proofs.YtfbicbgdfcbhpaaDoor
namespace SC
def nameC (c : UInt8) : Bool := decide (97 ≤ c.toNat ∧ c.toNat ≤ 122) || decide (48 ≤ c.toNat ∧ c.toNat ≤ 57) || c == 46 || c == 45 || c == 95
def nameB (l : List UInt8) : Bool := l.all nameC && (decide (l ≠ []) && decide (l.length ≤ 32))
theorem nameC_iff (c : UInt8) : nameC c = true ↔ (97 ≤ c.toNat ∧ c.toNat ≤ 122) ∨ (48 ≤ c.toNat ∧ c.toNat ≤ 57) ∨ c.toNat = 46 ∨ c.toNat = 45 ∨ c.toNat = 95 := by
  have e : ∀ k : UInt8, (c == k) = decide (c.toNat = k.toNat) := fun k => by
    rw [Bool.eq_iff_iff]; simp [UInt8.toNat_inj]
  unfold nameC
  rw [e, e, e]
  simp [or_assoc]
end SC
open SC
namespace AX
theorem isName_loop {call : CallF} {n : Nat} (l : List UInt8) (hl : l.length ≤ 100000000) : ∀ (m i : Nat), i ≤ l.length → l.length < i + m →
    f70_L2 call n m l (byteCells l) (l.length : Int) (i : Int) = some (.one (.bool ((l.drop i).all nameC && (decide (l ≠ []) && decide (l.length ≤ 32)))), [])
  | 0, i, h1, h2 => by omega
  | m + 1, i, h1, h2 => by
    have ih := isName_loop (call := call) (n := n) l hl m (i + 1)
    simp only [f70_T11, f70_L11, f70_T12, f70_L12, f70_T9, f70_L9, f70_T16, f70_L16, f70_T15, f70_L15, f70_T14, f70_L14, f70_T13, f70_L13, f70_T10, f70_L10, f70_T7, f70_L7, f70_T8, f70_L8, f70_T2, f70_L2, f70_T, f70_L]
    by_cases h : i < l.length
    · have hc := nameC_iff l[i]
      rw [List.drop_eq_getElem_cons h, List.all_cons, item_byte h, wrap_ok (by omega) (by omega), show ((i : Int) + 1) = ((i + 1 : Nat) : Int) by omega, ih (by omega) (by omega)]
      generalize (l.drop (i + 1)).all nameC = R
      simp only [castI_one, Bool.cond_eq_ite, decide_eq_true_eq, beq_iff_eq, Bool.false_eq_true, if_false, if_true]
      rw [if_pos (show (i : Int) < (l.length : Int) by omega)]
      cases hn : nameC l[i] with
      | true =>
        rw [hn] at hc; simp only [true_iff] at hc
        (repeat' split) <;> first | (simp only [Bool.true_and, Bool.and_assoc]; done) | (exfalso; omega)
      | false =>
        rw [hn] at hc; simp only [Bool.false_eq_true, false_iff, not_or] at hc
        (repeat' split) <;> first | (simp only [Bool.false_and]; done) | (exfalso; omega)
    · rw [List.drop_of_length_le (by omega)]
      simp only [Bool.cond_eq_ite, decide_eq_true_eq, List.all_nil, Bool.true_and]
      rw [if_neg (show ¬ (i : Int) < (l.length : Int) by omega)]
      cases l with
      | nil => rfl
      | cons a r => simp; omega
theorem isName_at (n : Nat) (l : List UInt8) (hl : l.length ≤ 100000000) (hn : l.length < n) : acall AXE AXF (n + 1) 70 [.one (.str l)] [] = some (.one (.bool (nameB l)), []) := by
  rw [f70_eq, f70_L, f70_T, byteCells_len, Nat.div_one]
  exact isName_loop l hl _ 0 (by omega) (by omega)
/-! numbers -/
theorem atoi_range {l : List UInt8} {v : Int} (h : Lib.atoiAll l = .ok v) : -9223372036854775808 ≤ v ∧ v ≤ 9223372036854775807 := by
  unfold Lib.atoiAll at h
  split at h
  · cases h
  · rename_i c r
    simp only [] at h
    split at h
    · cases h
    · cases h
    · split at h
      · cases h
      · split at h
        · cases h
        · cases h
          split <;> omega
theorem number_at (n : Nat) (l : List UInt8) (hl : l.length ≤ 100000000) : acall AXE AXF (n + 1) 69 [.one (.str l)] [] = some (.tup [.one (.int .i64 (atoiV l).1), .one (.bool (numQ l).isSome)], []) := by
  rw [f69_eq]
  simp only [f69_T2, f69_L2, f69_T, f69_L]
  have hp : pAtoi [.one (.str l)] = some (.tup [.one (.int .i64 (atoiV l).1), .one (.err (atoiV l).2)]) := by
    simp only [pAtoi, decide_eq_true hl, cond_true]
  rw [primK_some hp]
  simp only [castTup_tup, zI_cons, zE_cons, nilK_nil]
  cases hx : Lib.atoiAll l with
  | ok v =>
    have e : atoiV l = (v, false) := by unfold atoiV; rw [hx]
    obtain ⟨h1, h2⟩ := atoi_range hx
    have hi : pItoa [.one (.int .i64 v)] = some (.one (.str (Lib.itoa v))) := by
      simp only [pItoa, decide_eq_true h1, decide_eq_true h2, Bool.and_self, cond_true]
    have hq : (numQ l).isSome = decide (Lib.itoa v = l ∧ inB v = true) := by
      unfold numQ; rw [hx]; simp only []; by_cases hv : Lib.itoa v = l ∧ inB v = true
      · rw [if_pos hv, decide_eq_true hv]; rfl
      · rw [if_neg hv, decide_eq_false hv]; rfl
    rw [e, hq]
    simp only [Bool.not_false, cond_true, primK_some hi, oS_one]
    by_cases h3 : Lib.itoa v = l
    · simp only [h3, beq_self_eq_true, cond_true, true_and, inB]
      by_cases h4 : -9007199254740992 ≤ v
      · rw [decide_eq_true (show v ≥ -9007199254740992 from h4)]
        simp only [cond_true, decide_eq_true h4, Bool.true_and, Bool.decide_eq_true]
      · rw [decide_eq_false (show ¬ v ≥ -9007199254740992 from h4)]
        simp only [cond_false, decide_eq_false h4, Bool.false_and, Bool.false_eq_true, decide_false]
    · rw [show (Lib.itoa v == l) = false by simpa using h3]
      simp only [cond_false, h3, false_and, decide_false]
  | _ =>
    have e : (atoiV l).2 = true := by unfold atoiV; rw [hx]
    have hq : numQ l = none := by unfold numQ; rw [hx]
    rw [e, hq]; rfl
theorem number_val {l : List UInt8} {v : Int} (h : numQ l = some v) : (atoiV l).1 = v := by
  obtain ⟨rfl, h2⟩ := numQ_iff.1 h
  unfold atoiV; rw [atoi_itoa h2]
theorem dig_cell (u : Nat) (k : List UInt8 → OR) : bytesK ([.int .u8 (IntKind.wrap .u8 (IntKind.wrap .i64 ((48 : Int) + (Int.tmod (u : Int) (10 : Int)))))] : List Cell) k = k [UInt8.ofNat (48 + u % 10)] := by
  have e : IntKind.wrap .u8 (IntKind.wrap .i64 ((48 : Int) + (Int.tmod (u : Int) (10 : Int)))) = ((48 + u % 10 : Nat) : Int) := by
    rw [show Int.tmod (u : Int) 10 = ((u % 10 : Nat) : Int) by rw [Int.tmod_eq_emod_of_nonneg (by omega)]; omega, wrap_ok (by omega) (by omega), IntKind.wrap_u8]; omega
  rw [e]
  simp only [bytesK, castI_one, Int.toNat_natCast]
end AX
end Go.Proofs.YtfbicbgdfcbhpaaDoor
