/-
  ReplyNum.
-/
import Derived.Test.YtnkppakkeobegaaGreatDoorZP00
import Derived.Lib.AtoiAll
import Derived.Lib.AtoiTie
import Derived.Lib.ItoaMem
import Derived.Lib.Split
set_option maxRecDepth 20000
set_option linter.unusedVariables false
set_option linter.unusedSimpArgs false
set_option linter.unusedSectionVars false
namespace Go.Proofs.YtnkppakkeobegaaGreatDoor
def digC (c : UInt8) : Bool := decide (48 ≤ c.toNat ∧ c.toNat ≤ 57)
theorem dig_ok {c : UInt8} (h : digC c = true) : 48 ≤ c.toNat ∧ c.toNat ≤ 57 := of_decide_eq_true h
def valN (acc : Nat) : List UInt8 → Nat
 | [] => acc
 | c :: r => valN (acc * 10 + (c.toNat - 48)) r
def canonB (p : List UInt8) : Bool := p.all digC && (decide (1 ≤ p.length ∧ p.length ≤ 3) && (decide (p.length = 1) || !decide (p.head? = some 48)))
theorem valN_lt : ∀ (p : List UInt8) (acc k : Nat), p.all digC = true → acc < 10 ^ k → valN acc p < 10 ^ (k + p.length)
 | [], acc, k, _, h => h
 | c :: r, acc, k, ha, h => by
  rw [List.all_cons, Bool.and_eq_true] at ha
  have hc := dig_ok ha.1
  have := valN_lt r (acc * 10 + (c.toNat - 48)) (k + 1) ha.2 (by rw [Nat.pow_succ]; omega)
  rw [List.length_cons, show k + (r.length + 1) = k + 1 + r.length by omega]
  show valN (acc * 10 + (c.toNat - 48)) r < _
  exact this
theorem parse_val : ∀ (p : List UInt8) (acc k : Nat), p.all digC = true → acc < 10 ^ k → p.length + k ≤ 18 → Lib.parseUint10 acc p = .ok (valN acc p)
 | [], acc, k, _, _, _ => rfl
 | c :: r, acc, k, ha, h, hl => by
  rw [List.all_cons, Bool.and_eq_true] at ha
  have hc := dig_ok ha.1
  have h17 : (10 : Nat) ^ k ≤ 10 ^ 17 := Nat.pow_le_pow_right (by omega) (by simp at hl; omega)
  have h1 : acc * 10 + (c.toNat - 48) < 10 ^ (k + 1) := by rw [Nat.pow_succ]; omega
  rw [Lib.parseUint10, if_pos hc, if_neg (by omega), if_neg (by omega)]
  exact parse_val r _ (k + 1) ha.2 h1 (by simp at hl; omega)
theorem canon_parts {p : List UInt8} (h : canonB p = true) : p.all digC = true ∧ 1 ≤ p.length ∧ p.length ≤ 3 ∧ (p.length = 1 ∨ p.head? ≠ some 48) := by
 unfold canonB at h
 simp only [Bool.and_eq_true, Bool.or_eq_true, decide_eq_true_eq, Bool.not_eq_true', decide_eq_false_iff_not] at h
 exact ⟨h.1, h.2.1.1, h.2.1.2, h.2.2⟩
theorem canon_atoi {p : List UInt8} (h : canonB p = true) : Lib.atoiAll p = .ok (valN 0 p : Int) ∧ valN 0 p < 1000 := by
 obtain ⟨ha, h1, h3, _⟩ := canon_parts h
 have hv := valN_lt p 0 0 ha (by decide)
 have hv2 : valN 0 p < 1000 := Nat.lt_of_lt_of_le hv (Nat.pow_le_pow_right (by omega) (by omega) : (10 : Nat) ^ (0 + p.length) ≤ 10 ^ 3)
 refine ⟨?_, hv2⟩
 have hp := parse_val p 0 0 ha (by decide) (by omega)
 cases p with
 | nil => simp at h1
 | cons c r =>
  rw [List.all_cons, Bool.and_eq_true] at ha
  have hc := dig_ok ha.1
  unfold Lib.atoiAll
  simp only
  rw [if_neg (by omega), show Lib.parseMag (c :: r) = .ok (valN 0 (c :: r)) by unfold Lib.parseMag; rw [if_neg (by simp)]; exact hp]
  simp only
  rw [if_neg (by omega), if_neg (by omega), if_neg (by omega)]
theorem digit_back {c : UInt8} (h : digC c = true) {n : Nat} (hn : n = c.toNat - 48) : UInt8.ofNat (48 + n) = c := by
 have := dig_ok h
 subst hn
 rw [← UInt8.toNat_inj, UInt8.toNat_ofNat']
 omega
theorem canon_itoa {p : List UInt8} (h : canonB p = true) : Lib.itoa (valN 0 p : Int) = p := by
 rw [Lib.itoa_nonneg]
 obtain ⟨ha, h1, h3, h4⟩ := canon_parts h
 match p, h1, h3 with
 | [a], _, _ =>
  simp only [List.all_cons, List.all_nil, Bool.and_true] at ha
  have := dig_ok ha
  show Lib.decDigits (0 * 10 + (a.toNat - 48)) = _
  rw [Lib.decDigits_one (by omega), digit_back ha (by omega)]
 | [a, b], _, _ =>
  simp only [List.all_cons, List.all_nil, Bool.and_true, Bool.and_eq_true] at ha
  have ha1 := dig_ok ha.1
  have hb1 := dig_ok ha.2
  have hz : a.toNat ≠ 48 := by
   rcases h4 with h4 | h4
   · simp at h4
   · intro e; apply h4; simp; rw [← UInt8.toNat_inj]; exact e
  show Lib.decDigits ((0 * 10 + (a.toNat - 48)) * 10 + (b.toNat - 48)) = _
  rw [Lib.decDigits_two (by omega) (by omega), digit_back ha.1 (by omega), digit_back ha.2 (by omega)]
 | [a, b, c], _, _ =>
  simp only [List.all_cons, List.all_nil, Bool.and_true, Bool.and_eq_true] at ha
  have ha1 := dig_ok ha.1
  have hb1 := dig_ok ha.2.1
  have hc1 := dig_ok ha.2.2
  have hz : a.toNat ≠ 48 := by
   rcases h4 with h4 | h4
   · simp at h4
   · intro e; apply h4; simp; rw [← UInt8.toNat_inj]; exact e
  show Lib.decDigits (((0 * 10 + (a.toNat - 48)) * 10 + (b.toNat - 48)) * 10 + (c.toNat - 48)) = _
  rw [Lib.decDigits, dif_neg (by omega), Lib.decDigits_two (by omega) (by omega), digit_back ha.1 (by omega), digit_back ha.2.1 (by omega), digit_back ha.2.2 (by omega)]
  rfl
theorem dig_of {n : Nat} (h : n < 10) : digC (UInt8.ofNat (48 + n)) = true := by
 unfold digC
 rw [UInt8.toNat_ofNat', decide_eq_true_eq]; omega
theorem head_of {n : Nat} (h : n < 10) (h0 : n ≠ 0) : UInt8.ofNat (48 + n) ≠ 48 := by
 intro e
 have := congrArg UInt8.toNat e
 rw [UInt8.toNat_ofNat'] at this
 simp at this; omega
theorem dec_canon {v : Nat} (h : (Lib.decDigits v).length ≤ 3) : canonB (Lib.decDigits v) = true := by
 have hnn := Lib.decDigits_length v
 by_cases h1 : v < 10
 · rw [Lib.decDigits_one h1]
   have e1 := dig_of h1
   generalize UInt8.ofNat (48 + v) = a at *
   simp [canonB, e1]
 · by_cases h2 : v < 100
   · rw [Lib.decDigits_two h1 h2]
     have e0 := head_of (n := v / 10) (by omega) (by omega)
     have e1 := dig_of (show v / 10 < 10 by omega)
     have e2 := dig_of (show v % 10 < 10 by omega)
     generalize UInt8.ofNat (48 + v / 10) = a at *
     generalize UInt8.ofNat (48 + v % 10) = b at *
     simp [canonB, e0, e1, e2]
   · by_cases h3 : v < 1000
     · rw [Lib.decDigits, dif_neg h1, Lib.decDigits_two (by omega) (by omega)]
       have e0 := head_of (n := v / 10 / 10) (by omega) (by omega)
       have e1 := dig_of (show v / 10 / 10 < 10 by omega)
       have e2 := dig_of (show v / 10 % 10 < 10 by omega)
       have e3 := dig_of (show v % 10 < 10 by omega)
       generalize UInt8.ofNat (48 + v / 10 / 10) = a at *
       generalize UInt8.ofNat (48 + v / 10 % 10) = b at *
       generalize UInt8.ofNat (48 + v % 10) = c at *
       simp [canonB, e0, e1, e2, e3]
     · exfalso
       rw [Lib.nDigits_big h1, Lib.nDigits_big (by omega), Lib.nDigits_big (by omega)] at hnn
       have : 1 ≤ Lib.nDigits (v / 10 / 10 / 10) := by unfold Lib.nDigits; split <;> omega
       omega
theorem canon_of {p : List UInt8} {v : Int} (h3 : p.length ≤ 3) (h0 : 0 ≤ v) (hi : Lib.itoa v = p) : canonB p = true := by
 obtain ⟨n, rfl⟩ : ∃ n : Nat, v = n := ⟨v.toNat, by omega⟩
 rw [Lib.itoa_nonneg] at hi
 subst hi
 exact dec_canon h3
end Go.Proofs.YtnkppakkeobegaaGreatDoor
