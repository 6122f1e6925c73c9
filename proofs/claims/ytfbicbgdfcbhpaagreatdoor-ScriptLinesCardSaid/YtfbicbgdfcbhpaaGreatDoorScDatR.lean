/-
  Layer 31: data are read back in the reference.
-/
import Derived.Test.YtfbicbgdfcbhpaaGreatDoorScUnq
set_option maxRecDepth 20000
set_option linter.unusedVariables false
set_option linter.unusedSimpArgs false
set_option linter.unusedSectionVars false
namespace Go.Proofs.YtfbicbgdfcbhpaaGreatDoor
open SC
namespace AX
def nibV (c : UInt8) : Int := if 48 ≤ c.toNat ∧ c.toNat ≤ 57 then (c.toNat : Int) - 48 else if 97 ≤ c.toNat ∧ c.toNat ≤ 102 then (c.toNat : Int) - 87 else -1
theorem nibble_at (n : Nat) (c : UInt8) : acall AXE AXF (n + 1) 118 [.one (.int .u8 (c.toNat : Int))] [] = some (.one (.int .i64 (nibV c)), []) := by
  have hlt := c.toNat_lt
  have w0 : IntKind.wrap .i64 (c.toNat : Int) = (c.toNat : Int) := wrap_ok (by omega) (by omega)
  have w1 : ∀ k : Int, 0 ≤ k → k ≤ 100 → IntKind.wrap .i64 ((c.toNat : Int) - k) = (c.toNat : Int) - k := fun k h1 h2 => wrap_ok (by omega) (by omega)
  rw [f118_eq]
  simp only [f118_T2, f118_L2, f118_T5, f118_L5, f118_T7, f118_L7, f118_T6, f118_L6, f118_T4, f118_L4, f118_T3, f118_L3, f118_T1, f118_L1, f118_T, f118_L, w0, w1 48 (by omega) (by omega), w1 87 (by omega) (by omega), nibV, Bool.cond_eq_ite, decide_eq_true_eq, Bool.false_eq_true, if_false]
  (repeat' split) <;> first | rfl | (exfalso; omega)
/-- one byte of data, by the reference -/
def stepD : List UInt8 → Option (UInt8 × Nat)
  | [] => none
  | x :: r => if x = 92 then (match r with
      | [] => none
      | y :: r2 => if y = 114 then some (13, 2) else if y = 110 then some (10, 2) else if y = 120 then (match r2 with
          | a :: b :: _ => if 0 ≤ nibV a ∧ 0 ≤ nibV b then some (UInt8.ofNat (IntKind.wrap .u8 (IntKind.wrap .i64 ((IntKind.wrap .i64 ((16 : Int) * nibV a)) + nibV b))).toNat, 4) else none
          | _ => none) else some (y, 2)) else some (x, 1)
theorem stepD_hex (c : UInt8) : 0 ≤ nibV (hexd (c.toNat / 16)) ∧ 0 ≤ nibV (hexd (c.toNat % 16)) ∧ UInt8.ofNat (IntKind.wrap .u8 (IntKind.wrap .i64 ((IntKind.wrap .i64 ((16 : Int) * nibV (hexd (c.toNat / 16)))) + nibV (hexd (c.toNat % 16))))).toNat = c := by
  have h : ∀ n : Fin 256, 0 ≤ nibV (hexd (n.val / 16)) ∧ 0 ≤ nibV (hexd (n.val % 16)) ∧ UInt8.ofNat (IntKind.wrap .u8 (IntKind.wrap .i64 ((IntKind.wrap .i64 ((16 : Int) * nibV (hexd (n.val / 16)))) + nibV (hexd (n.val % 16))))).toNat = UInt8.ofNat n.val := by decide +kernel
  have := h ⟨c.toNat, c.toNat_lt⟩
  simpa using this
theorem stepD_esc (c : UInt8) (r : List UInt8) : ∃ k, stepD (esc c ++ r) = some (c, k) ∧ k = (esc c).length := by
  rcases esc_cases c with ⟨e, h⟩ | ⟨e, h⟩ | ⟨e, h⟩ | ⟨e, h⟩ | e <;> rw [e]
  · refine ⟨2, ?_, rfl⟩
    rcases h with rfl | rfl <;> rfl
  · refine ⟨1, ?_, rfl⟩
    simp only [List.cons_append, List.nil_append, stepD]; rw [if_neg h]
  · refine ⟨2, ?_, rfl⟩; subst h; rfl
  · refine ⟨2, ?_, rfl⟩; subst h; rfl
  · refine ⟨4, ?_, rfl⟩
    obtain ⟨h1, h2, h3⟩ := stepD_hex c
    show (if 0 ≤ nibV (hexd (c.toNat / 16)) ∧ 0 ≤ nibV (hexd (c.toNat % 16)) then some (UInt8.ofNat _, 4) else none) = _
    rw [if_pos ⟨h1, h2⟩, h3]
theorem stepD_le {t : List UInt8} {c : UInt8} {k : Nat} (h : stepD t = some (c, k)) : 0 < k ∧ k ≤ t.length := by
  unfold stepD at h
  split at h
  · cases h
  · split at h
    · split at h
      · cases h
      · split at h
        · cases h; simp
        · split at h
          · cases h; simp
          · split at h
            · split at h
              · split at h
                · cases h; simp
                · cases h
              · cases h
            · cases h; simp
    · cases h; simp
theorem dat_step {call : CallF} {n : Nat} (m : Nat) (s out t : List UInt8) (i : Nat) (hs : s.length ≤ 1000000) (hs2 : 2 ≤ s.length) (hi : 1 ≤ i) (ht : t ≠ []) (hl : t.length = s.length - 1 - i) (hit : ∀ (j : Nat) (h : j < t.length) (k : UInt8 → OR), itemK s ((i + j : Nat) : Int) k = k t[j])
    (hn : ∀ c : UInt8, call 118 [.one (.int .u8 (c.toNat : Int))] [] = some (.one (.int .i64 (nibV c)), [])) :
    f84_L7 call n (m + 1) s (s.length : Int) (byteCells out) (i : Int) = match stepD t with
      | none => unqR [] false
      | some (c, k) => f84_L22 call n (f84_L7 call n m) s (s.length : Int) (byteCells out) ((i + k : Nat) : Int) (c.toNat : Int) := by
  have w0 : IntKind.wrap .i64 ((s.length : Int) - 1) = ((s.length - 1 : Nat) : Int) := by rw [wrap_ok (by omega) (by omega)]; omega
  have w1 : IntKind.wrap .i64 ((i : Int) + 1) = ((i + 1 : Nat) : Int) := by
    have : 0 < t.length := List.length_pos_iff.2 ht
    rw [wrap_ok (by omega) (by omega)]; omega
  have w2 : IntKind.wrap .i64 (((i + 1 : Nat) : Int) + 1) = ((i + 2 : Nat) : Int) := by
    have : 0 < t.length := List.length_pos_iff.2 ht
    rw [wrap_ok (by omega) (by omega)]; omega
  have w3 : IntKind.wrap .i64 (((i + 2 : Nat) : Int) + 1) = ((i + 3 : Nat) : Int) := by
    have : 0 < t.length := List.length_pos_iff.2 ht
    rw [wrap_ok (by omega) (by omega)]; omega
  have w4 : IntKind.wrap .i64 (((i + 2 : Nat) : Int) + 2) = ((i + 4 : Nat) : Int) := by
    have : 0 < t.length := List.length_pos_iff.2 ht
    rw [wrap_ok (by omega) (by omega)]; omega
  simp only [f84_L7, f84_T7, w0, w1, w2, w3, w4]
  cases t with
  | nil => exact absurd rfl ht
  | cons x r =>
    have i0 := fun k => hit 0 (by simp) k
    simp only [List.length_cons] at hl
    rw [Nat.add_zero] at i0
    rw [decide_eq_true (by omega), cond_true, i0]
    simp only [stepD, List.getElem_cons_zero]
    by_cases h1 : x = 92
    · rw [if_pos h1, show ((x.toNat : Int) == 92) = true by rw [h1]; rfl, cond_true]
      cases r with
      | nil => rw [decide_eq_true (by simp at hl; omega)]; rfl
      | cons y r2 =>
        simp only [List.length_cons] at hl
        rw [decide_eq_false (by omega), cond_false, hit 1 (by simp)]
        simp only [List.getElem_cons_succ, List.getElem_cons_zero]
        by_cases h2 : y = 114
        · rw [if_pos h2, show ((y.toNat : Int) == 114) = true by rw [h2]; rfl]; rfl
        · rw [if_neg h2, show ((y.toNat : Int) == 114) = false from (byte_eq y 114).trans (decide_eq_false h2), cond_false]
          by_cases h3 : y = 110
          · rw [if_pos h3, show ((y.toNat : Int) == 110) = true by rw [h3]; rfl]; rfl
          · rw [if_neg h3, show ((y.toNat : Int) == 110) = false from (byte_eq y 110).trans (decide_eq_false h3), cond_false]
            by_cases h4 : y = 120
            · rw [if_pos h4, show ((y.toNat : Int) == 120) = true by rw [h4]; rfl, cond_true]
              match r2, hit, hl with
              | [], hit, hl => simp at hl; rw [decide_eq_true (by omega)]; rfl
              | [a], hit, hl => simp at hl; rw [decide_eq_true (by omega)]; rfl
              | a :: b :: r3, hit, hl =>
                simp only [List.length_cons] at hl
                have i2 := fun k => hit 2 (by simp) k
                have i3 := fun k => hit 3 (by simp) k
                simp only [List.getElem_cons_succ, List.getElem_cons_zero] at i2 i3
                rw [decide_eq_false (by omega), cond_false, i2, callK_some (hn a), oI_one]
                simp only []
                by_cases h5 : 0 ≤ nibV a
                · rw [decide_eq_false (by omega), cond_false, i3, callK_some (hn b), oI_one]
                  by_cases h6 : 0 ≤ nibV b
                  · rw [if_pos ⟨h5, h6⟩, decide_eq_false (by omega)]
                    simp only [f84_L23, f84_T23, cond_false, w3, w4]
                    rw [i2, callK_some (hn a), oI_one, i3, callK_some (hn b), oI_one, u8_nat]
                  · rw [if_neg (fun h => h6 h.2), decide_eq_true (by omega)]; rfl
                · rw [if_neg (fun h => h5 h.1), decide_eq_true (by omega)]; rfl
            · rw [if_neg h4, show ((y.toNat : Int) == 120) = false from (byte_eq y 120).trans (decide_eq_false h4)]; rfl
    · rw [if_neg h1, show ((x.toNat : Int) == 92) = false from (byte_eq x 92).trans (decide_eq_false h1)]; rfl
theorem dat_loop {call : CallF} {n : Nat} (s : List UInt8) (hs : s.length ≤ 1000000) (hs2 : 2 ≤ s.length) (hc : ∀ b : List UInt8, b.length ≤ 1000000 → call 26 [.one (.sl none 1 (byteCells b))] [] = some (.one (.str (quo b)), []))
    (hn : ∀ c : UInt8, call 118 [.one (.int .u8 (c.toNat : Int))] [] = some (.one (.int .i64 (nibV c)), [])) : ∀ (m i : Nat) (t out : List UInt8), t = (s.take (s.length - 1)).drop i → 1 ≤ i → i ≤ s.length - 1 → t.length < m → out.length ≤ i →
    ∃ o b, f84_L7 call n m s (s.length : Int) (byteCells out) (i : Int) = unqR o b ∧ (b = true → quo o = s ∧ o.length ≤ 4096) ∧ ∀ w, t = escs w → b = decide (quo (out ++ w) = s ∧ (out ++ w).length ≤ 4096)
  | 0, i, t, out, ht, hi, hi2, h1, h2 => by omega
  | m + 1, i, t, out, ht, hi, hi2, h1, h2 => by
    have hl : t.length = s.length - 1 - i := by rw [ht]; simp
    by_cases hne : t = []
    · have hi3 : i = s.length - 1 := by rw [hne] at hl; simp at hl; omega
      have w0 : IntKind.wrap .i64 ((s.length : Int) - 1) = ((s.length - 1 : Nat) : Int) := by rw [wrap_ok (by omega) (by omega)]; omega
      have nocons : ∀ w, t = escs w → w = [] := fun w hw => by
        cases w with
        | nil => rfl
        | cons c w => exfalso; rw [hne] at hw; rcases esc_cases c with ⟨e, _⟩ | ⟨e, _⟩ | ⟨e, _⟩ | ⟨e, _⟩ | e <;> simp [escs, e] at hw
      simp only [f84_L7, f84_T7, w0]
      rw [decide_eq_false (by omega), cond_false, callK_some (hc out (by omega)), oS_one, byteCells_len, Nat.div_one]
      simp only [f84_L26, f84_T26, f84_L30, f84_T30]
      by_cases h : quo out = s
      · rw [h, beq_self_eq_true, Bool.not_true, cond_false]
        by_cases h4 : out.length ≤ 4096
        · rw [decide_eq_false (by omega), cond_false]
          exact ⟨out, true, rfl, fun _ => ⟨h, h4⟩, fun w hw => by rw [nocons w hw, List.append_nil]; simp [h, h4]⟩
        · rw [decide_eq_true (by omega), cond_true]
          exact ⟨[], false, rfl, fun h => (by cases h), fun w hw => by rw [nocons w hw, List.append_nil]; simp [h4]⟩
      · rw [show (quo out == s) = false by simpa using h, Bool.not_false, cond_true, cond_true]
        exact ⟨[], false, rfl, fun h => (by cases h), fun w hw => by rw [nocons w hw, List.append_nil]; simp [h]⟩
    · have hit : ∀ (j : Nat) (h : j < t.length) (k : UInt8 → OR), itemK s ((i + j : Nat) : Int) k = k t[j] := fun j h k => by
        rw [item_at (by omega)]
        congr 1
        subst ht
        simp
      rw [dat_step m s out t i hs hs2 hi hne hl hit hn]
      cases hst : stepD t with
      | none =>
        refine ⟨[], false, rfl, fun h => (by cases h), fun w hw => ?_⟩
        cases w with
        | nil => exact absurd hw hne
        | cons c w =>
          obtain ⟨k, h3, _⟩ := stepD_esc c (escs w)
          rw [show esc c ++ escs w = escs (c :: w) by simp [escs], ← hw, hst] at h3
          cases h3
      | some x =>
        obtain ⟨c, k⟩ := x
        obtain ⟨hk0, hk⟩ := stepD_le hst
        obtain ⟨o, b, h3, h4, h5⟩ := dat_loop (n := n) s hs hs2 hc hn m (i + k) (t.drop k) (out ++ [c]) (by rw [ht, List.drop_drop]) (by omega) (by omega) (by rw [List.length_drop]; omega) (by simp; omega)
        refine ⟨o, b, ?_, h4, fun w hw => ?_⟩
        · simp only [f84_L22, f84_T22]
          have hg : (decide (((byteCells out).length + ([Cell.int .u8 (c.toNat : Int)] : List Cell).length) * 1000 ≤ rowLim)) = true := decide_eq_true (by rw [byteCells_len]; simp [rowLim]; omega)
          rw [hg, guard_true, show byteCells out ++ [Cell.int .u8 (c.toNat : Int)] = byteCells (out ++ [c]) from byteCells_app out [c], h3]
        · cases w with
          | nil => exact absurd hw hne
          | cons d w =>
            obtain ⟨k', h6, h7⟩ := stepD_esc d (escs w)
            have hw' : t = esc d ++ escs w := by rw [hw]; simp [escs]
            rw [← hw', hst] at h6
            cases h6
            have h9 := h5 w (by rw [hw', h7]; simp)
            rw [h9]; simp
theorem data_at (n : Nat) (s : List UInt8) (hs : s.length ≤ 1000000) (hn : 1000110 ≤ n) :
    ∃ o b, acall AXE AXF (n + 1) 84 [.one (.str s)] [] = unqR o b ∧ Tells s o b := by
  obtain ⟨n, rfl⟩ : ∃ k, n = k + 1 := ⟨n - 1, by omega⟩
  have hc := fun b hb => Data_at n b hb (by omega)
  have hnib := fun c => nibble_at n c
  rw [f84_eq, f84_L, f84_T]
  generalize acall AXE AXF (n + 1) = call at *
  have no : (∀ d, quo d ≠ s) → Tells s [] false := fun h => ⟨⟨fun e => (by cases e), fun ⟨d, h1, _⟩ => absurd h1 (h d)⟩, fun e => (by cases e)⟩
  have bad : f84_L2 call (n + 1 + 1) s (s.length : Int) true = unqR [] false := rfl
  by_cases h2 : s.length < 2
  · rw [decide_eq_true (by omega), cond_true, bad]
    exact ⟨[], false, rfl, no fun d hd => by rw [← hd] at h2; simp [quo] at h2; omega⟩
  · rw [decide_eq_false (by omega), cond_false]
    have hq := quotedB_iff s (by omega)
    have nq : quotedB s = false → ∀ d, quo d ≠ s := fun h d e => by rw [← e, quo_quoted] at h; cases h
    have e34 : ∀ c : UInt8, ((c.toNat : Int) != 34) = !decide (c = 34) := fun c => by rw [bne]; exact congrArg _ (byte_eq c 34)
    have hw : IntKind.wrap .i64 ((s.length : Int) - 1) = ((s.length - 1 : Nat) : Int) := by rw [wrap_ok (by omega) (by omega)]; omega
    rw [item_z (show 0 < s.length by omega), e34]
    by_cases h3 : s[0] = 34
    · rw [decide_eq_true h3, Bool.not_true, cond_false, hw, item_at (by omega), e34]
      by_cases h4 : s[s.length - 1] = 34
      · rw [decide_eq_true h4, Bool.not_true, f84_L2, f84_T2, cond_false]
        obtain ⟨o, b, h5, h6, h7⟩ := dat_loop (n := n + 1 + 1) s hs (by omega) hc hnib (n + 1 + 1) 1 _ [] rfl (by omega) (by omega) (by simp; omega) (by simp)
        refine ⟨o, b, h5, ⟨fun hb => ⟨o, h6 hb⟩, fun ⟨d, hd, hd4⟩ => ?_⟩, h6⟩
        rw [h7 d (by rw [mid_take s (by omega), ← hd, quo_mid])]
        simp [hd, hd4]
      · rw [decide_eq_false h4, Bool.not_false, bad]
        exact ⟨[], false, rfl, no (nq (by rw [hq, decide_eq_false h4, Bool.and_false]))⟩
    · rw [decide_eq_false h3, Bool.not_false, cond_true, bad]
      exact ⟨[], false, rfl, no (nq (by rw [hq, decide_eq_false h3, Bool.false_and]))⟩
end AX
end Go.Proofs.YtfbicbgdfcbhpaaGreatDoor
