/-
  Layer 31: data are read back, in the program and in the reference.
-/
import Derived.Test.YtfbicbgdfcbhpaaDoorScData
set_option maxRecDepth 20000
set_option linter.unusedVariables false
set_option linter.unusedSimpArgs false
set_option linter.unusedSectionVars false
namespace Go.Proofs.YtfbicbgdfcbhpaaDoor
open SC
namespace AX
def hexcI (p q : Int) : Int := IntKind.wrap .u8 (IntKind.wrap .i64 ((BitVec.toNat ((BitVec.ofInt (IntKind.bits .i64) (IntKind.wrap .i64 (p * ((2 : Int) ^ (min (Int.toNat (4 : Int)) (IntKind.bits .i64)))))) ||| (BitVec.ofInt (IntKind.bits .i64) (IntKind.wrap .i64 ((BitVec.toNat ((BitVec.ofInt (IntKind.bits .i64) q) &&& (BitVec.ofInt (IntKind.bits .i64) (15 : Int))) : Nat) : Int)))) : Nat) : Int))
def hexP (a b : UInt8) : UInt8 := UInt8.ofNat (hexcI (Lib.indexByte hexL a) (Lib.indexByte hexL b)).toNat
theorem u8_nat (z : Int) : ((UInt8.ofNat (IntKind.wrap .u8 z).toNat).toNat : Int) = IntKind.wrap .u8 z := by
  rw [IntKind.wrap_u8, UInt8.toNat_ofNat']; omega
theorem hexP_val (a b : UInt8) : ((hexP a b).toNat : Int) = hexcI (Lib.indexByte hexL a) (Lib.indexByte hexL b) := u8_nat _
theorem hexP_esc (c : UInt8) : hexP (hexd (c.toNat / 16)) (hexd (c.toNat % 16)) = c := by
  have h : ∀ n : Fin 256, hexP (hexd (n.val / 16)) (hexd (n.val % 16)) = UInt8.ofNat n.val := by decide +kernel
  have := h ⟨c.toNat, c.toNat_lt⟩
  simpa using this
/-- one byte of data, and how many bytes it takes -/
def stepP : List UInt8 → Option (UInt8 × Nat)
  | [] => none
  | x :: r => if x = 92 then (match r with
      | [] => none
      | y :: r2 => if y = 114 then some (13, 2) else if y = 110 then some (10, 2) else if y = 120 then (match r2 with
          | a :: b :: _ => some (hexP a b, 4)
          | _ => none) else some (y, 2)) else some (x, 1)
theorem esc_cases (c : UInt8) : (esc c = [92, c] ∧ (c = 34 ∨ c = 92)) ∨ (esc c = [c] ∧ c ≠ 92) ∨ (esc c = [92, 114] ∧ c = 13) ∨ (esc c = [92, 110] ∧ c = 10) ∨ esc c = [92, 120, hexd (c.toNat / 16), hexd (c.toNat % 16)] := by
  unfold esc
  by_cases c1 : c = 34 ∨ c = 92
  · rw [if_pos c1]; exact .inl ⟨rfl, c1⟩
  · rw [if_neg c1]
    by_cases c2 : 32 ≤ c.toNat ∧ c.toNat ≤ 126
    · rw [if_pos c2]; exact .inr (.inl ⟨rfl, fun e => c1 (.inr e)⟩)
    · rw [if_neg c2]
      by_cases c3 : c = 13
      · rw [if_pos c3]; exact .inr (.inr (.inl ⟨rfl, c3⟩))
      · rw [if_neg c3]
        by_cases c4 : c = 10
        · rw [if_pos c4]; exact .inr (.inr (.inr (.inl ⟨rfl, c4⟩)))
        · rw [if_neg c4]; exact .inr (.inr (.inr (.inr rfl)))
theorem stepP_esc (c : UInt8) (r : List UInt8) : ∃ k, stepP (esc c ++ r) = some (c, k) ∧ k = (esc c).length := by
  rcases esc_cases c with ⟨e, h⟩ | ⟨e, h⟩ | ⟨e, h⟩ | ⟨e, h⟩ | e <;> rw [e]
  · refine ⟨2, ?_, rfl⟩
    rcases h with rfl | rfl <;> rfl
  · refine ⟨1, ?_, rfl⟩
    simp only [List.cons_append, List.nil_append, stepP]; rw [if_neg h]
  · refine ⟨2, ?_, rfl⟩; subst h; rfl
  · refine ⟨2, ?_, rfl⟩; subst h; rfl
  · refine ⟨4, ?_, rfl⟩
    show some (hexP _ _, 4) = _
    rw [hexP_esc]
theorem stepP_le {t : List UInt8} {c : UInt8} {k : Nat} (h : stepP t = some (c, k)) : 0 < k ∧ k ≤ t.length := by
  unfold stepP at h
  split at h
  · cases h
  · split at h
    · split at h
      · cases h
      · split at h
        · cases h; simp
        · split at h
          · cases h; simp
          · split at h
            · split at h
              · cases h; simp
              · cases h
            · cases h; simp
    · cases h; simp
theorem pIdx_at (l : List UInt8) (c : UInt8) (hl : l.length ≤ 100000000) : pIndexByte [.one (.str l), .one (.int .u8 (c.toNat : Int))] = some (.one (.int .i64 (Lib.indexByte l c))) := by
  simp only [pIndexByte, decide_eq_true hl, cond_true]
  simp
theorem item_z {α : Type} {l : List α} (h : 0 < l.length) {k : α → OR} : itemK l (0 : Int) k = k l[0] := item_at (i := 0) h
theorem item_0 {x : UInt8} {r : List UInt8} {k : UInt8 → OR} : itemK (x :: r) (0 : Int) k = k x := item_some (j := 0) rfl rfl k
theorem item_1 {x y : UInt8} {r : List UInt8} {k : UInt8 → OR} : itemK (x :: y :: r) (1 : Int) k = k y := item_some (j := 1) rfl rfl k
theorem item_2 {x y z : UInt8} {r : List UInt8} {k : UInt8 → OR} : itemK (x :: y :: z :: r) (2 : Int) k = k z := item_some (j := 2) rfl rfl k
theorem item_3 {x y z u : UInt8} {r : List UInt8} {k : UInt8 → OR} : itemK (x :: y :: z :: u :: r) (3 : Int) k = k u := item_some (j := 3) rfl rfl k
def unqR (o : List UInt8) (b : Bool) : OR := some (.tup [.one (.sl (some ⟨2, 0, 5⟩) 1 (byteCells o)), .one (.bool b)], [])
theorem unq_step {call : CallF} {n : Nat} (m : Nat) (s out t : List UInt8) (ht : t ≠ []) :
    f44_L6 call n (m + 1) s (byteCells out) t = match stepP t with
      | none => unqR [] false
      | some (c, k) => f44_L24 call n (f44_L6 call n m) s (byteCells out) t (c.toNat : Int) (k : Int) := by
  have hexE : ([48, 49, 50, 51, 52, 53, 54, 55, 56, 57, 97, 98, 99, 100, 101, 102] : List UInt8) = hexL := rfl
  rw [f44_L6, f44_T6, hexE]
  cases t with
  | nil => exact absurd rfl ht
  | cons x r =>
    rw [show (!(x :: r == ([] : List UInt8))) = true by rfl, cond_true, item_0]
    simp only [stepP]
    by_cases h1 : x = 92
    · rw [if_pos h1, show ((x.toNat : Int) == 92) = true by rw [h1]; rfl, cond_true]
      cases r with
      | nil => rfl
      | cons y r2 =>
        rw [decide_eq_false (by simp; omega), cond_false, item_1]
        simp only []
        by_cases h2 : y = 114
        · rw [if_pos h2, show ((y.toNat : Int) == 114) = true by rw [h2]; rfl]; rfl
        · rw [if_neg h2, show ((y.toNat : Int) == 114) = false from (byte_eq y 114).trans (decide_eq_false h2), cond_false]
          by_cases h3 : y = 110
          · rw [if_pos h3, show ((y.toNat : Int) == 110) = true by rw [h3]; rfl]; rfl
          · rw [if_neg h3, show ((y.toNat : Int) == 110) = false from (byte_eq y 110).trans (decide_eq_false h3), cond_false]
            by_cases h4 : y = 120
            · rw [if_pos h4, show ((y.toNat : Int) == 120) = true by rw [h4]; rfl, cond_true]
              match r2 with
              | [] => rfl
              | [a] => rfl
              | a :: b :: r3 =>
                rw [decide_eq_false (by simp; omega), cond_false, item_2, primK_some (pIdx_at hexL a (by decide)), oI_one, item_3, primK_some (pIdx_at hexL b (by decide)), oI_one]
                simp only []
                rw [hexP_val]; rfl
            · rw [if_neg h4, show ((y.toNat : Int) == 120) = false from (byte_eq y 120).trans (decide_eq_false h4)]; rfl
    · rw [if_neg h1, show ((x.toNat : Int) == 92) = false from (byte_eq x 92).trans (decide_eq_false h1)]; rfl
theorem unq_loop {call : CallF} {n : Nat} (s : List UInt8) (hc : ∀ b : List UInt8, b.length ≤ 1000000 → call 54 [.one (.sl none 1 (byteCells b))] [] = some (.one (.str (quo b)), [])) : ∀ (m : Nat) (t out : List UInt8), t.length < m → out.length + t.length ≤ 1000000 →
    ∃ o b, f44_L6 call n m s (byteCells out) t = unqR o b ∧ (b = true → quo o = s ∧ o.length ≤ 4096) ∧ ∀ w, t = escs w → o = out ++ w ∧ b = decide (quo o = s ∧ o.length ≤ 4096)
  | 0, t, out, h1, h2 => by omega
  | m + 1, t, out, h1, h2 => by
    by_cases ht : t = []
    · subst ht
      refine ⟨out, decide (quo out = s ∧ out.length ≤ 4096), ?_, fun h => of_decide_eq_true h, fun w hw => ?_⟩
      · rw [f44_L6, f44_T6, show (!(([] : List UInt8) == [])) = false by rfl, cond_false, callK_some (hc out (by simp at h2; omega)), oS_one, byteCells_len, Nat.div_one]
        simp only [f44_L25, f44_T25]
        by_cases h : quo out = s
        · rw [h, beq_self_eq_true, cond_true]
          simp only [true_and, unqR]
          rw [show decide ((out.length : Int) ≤ 4096) = decide (out.length ≤ 4096) by rw [decide_eq_decide]; omega]
        · rw [show (quo out == s) = false by simpa using h, cond_false]
          simp only [h, false_and, decide_false, unqR]
      · cases w with
        | nil => exact ⟨by simp, rfl⟩
        | cons c w =>
          exfalso
          rcases esc_cases c with ⟨e, _⟩ | ⟨e, _⟩ | ⟨e, _⟩ | ⟨e, _⟩ | e <;> simp [escs, e] at hw
    · rw [unq_step m s out t ht]
      cases hs : stepP t with
      | none =>
        refine ⟨[], false, rfl, fun h => (by cases h), fun w hw => ?_⟩
        cases w with
        | nil => exact absurd hw ht
        | cons c w =>
          obtain ⟨k, h3, _⟩ := stepP_esc c (escs w)
          rw [show esc c ++ escs w = escs (c :: w) by simp [escs], ← hw, hs] at h3
          cases h3
      | some x =>
        obtain ⟨c, k⟩ := x
        obtain ⟨hk0, hk⟩ := stepP_le hs
        obtain ⟨o, b, h3, h4, h5⟩ := unq_loop (n := n) s hc m (t.drop k) (out ++ [c]) (by rw [List.length_drop]; omega) (by rw [List.length_drop]; simp; omega)
        refine ⟨o, b, ?_, h4, fun w hw => ?_⟩
        · simp only [f44_L24, f44_T24, f44_L26, f44_T26, Int.toNat_natCast, List.take_length]
          have hg : (decide (((byteCells out).length + ([Cell.int .u8 (c.toNat : Int)] : List Cell).length) * 1000 ≤ rowLim)) = true := decide_eq_true (by rw [byteCells_len]; simp [rowLim]; omega)
          rw [hg, guard_true, decide_eq_true ⟨by omega, hk⟩, cond_true, show byteCells out ++ [Cell.int .u8 (c.toNat : Int)] = byteCells (out ++ [c]) from byteCells_app out [c], h3]
        · cases w with
          | nil => exact absurd hw ht
          | cons d w =>
            obtain ⟨k', h6, h7⟩ := stepP_esc d (escs w)
            have hw' : t = esc d ++ escs w := by rw [hw]; simp [escs]
            rw [← hw', hs] at h6
            cases h6
            obtain ⟨h8, h9⟩ := h5 w (by rw [hw', h7]; simp)
            exact ⟨by rw [h8]; simp, h9⟩
/-- what data a text tells -/
def Tells (s : List UInt8) (o : List UInt8) (b : Bool) : Prop := (b = true ↔ ∃ d, quo d = s ∧ d.length ≤ 4096) ∧ (b = true → quo o = s ∧ o.length ≤ 4096)
theorem escs_inj {a b : List UInt8} : escs a = escs b → a = b := by
  induction a generalizing b with
  | nil =>
    intro h
    cases b with
    | nil => rfl
    | cons c w => exfalso; rcases esc_cases c with ⟨e, _⟩ | ⟨e, _⟩ | ⟨e, _⟩ | ⟨e, _⟩ | e <;> simp [escs, e] at h
  | cons c a ih =>
    intro h
    cases b with
    | nil => exfalso; rcases esc_cases c with ⟨e, _⟩ | ⟨e, _⟩ | ⟨e, _⟩ | ⟨e, _⟩ | e <;> simp [escs, e] at h
    | cons d b =>
      have h' : esc c ++ escs a = esc d ++ escs b := by simpa [escs] using h
      obtain ⟨k, h1, h2⟩ := stepP_esc c (escs a)
      obtain ⟨k', h3, h4⟩ := stepP_esc d (escs b)
      rw [h', h3] at h1
      cases h1
      have := List.append_cancel_left h'
      rw [ih this]
theorem quo_inj {a b : List UInt8} (h : quo a = quo b) : a = b := by
  apply escs_inj
  have := congrArg midL h
  rwa [quo_mid, quo_mid] at this
theorem mid_take (s : List UInt8) (h : 2 ≤ s.length) : (s.take (s.length - 1)).drop 1 = midL s := by
  unfold midL
  rw [List.dropLast_eq_take, List.length_drop, List.drop_take]
theorem quotedB_iff (s : List UInt8) (h : 2 ≤ s.length) : quotedB s = (decide (s[0]'(by omega) = 34) && decide (s[s.length - 1]'(by omega) = 34)) := by
  unfold quotedB
  have h1 : s.head? = some (s[0]'(by omega)) := by cases s with | nil => simp at h | cons a r => rfl
  have h2 : s.getLast? = some (s[s.length - 1]'(by omega)) := by rw [List.getLast?_eq_getElem?, List.getElem?_eq_getElem (by omega)]
  rw [h1, h2, decide_eq_true h, Bool.true_and]
  have e : ∀ a b : UInt8, (some a == some b) = decide (a = b) := fun a b => by rw [Bool.eq_iff_iff]; simp
  rw [e, e]
theorem unquoted_at (n : Nat) (s : List UInt8) (hs : s.length ≤ 1000000) (hn : 1000110 ≤ n) :
    ∃ o b, acall AXE AXF (n + 1) 44 [.one (.str s)] [] = unqR o b ∧ Tells s o b := by
  obtain ⟨n, rfl⟩ : ∃ k, n = k + 1 := ⟨n - 1, by omega⟩
  have hc := fun b hb => quoted_at n b hb (by omega)
  rw [f44_eq, f44_L, f44_T]
  generalize acall AXE AXF (n + 1) = call at *
  have no : (∀ d, quo d ≠ s) → Tells s [] false := fun h => ⟨⟨fun e => (by cases e), fun ⟨d, h1, _⟩ => absurd h1 (h d)⟩, fun e => (by cases e)⟩
  have bad : f44_L1 call (n + 1 + 1) s true = unqR [] false := rfl
  by_cases h2 : s.length < 2
  · rw [decide_eq_true (by omega), cond_true, bad]
    exact ⟨[], false, rfl, no fun d hd => by rw [← hd] at h2; simp [quo] at h2; omega⟩
  · rw [decide_eq_false (by omega), cond_false]
    have hq := quotedB_iff s (by omega)
    have nq : quotedB s = false → ∀ d, quo d ≠ s := fun h d e => by rw [← e, quo_quoted] at h; cases h
    have e34 : ∀ c : UInt8, ((c.toNat : Int) != 34) = !decide (c = 34) := fun c => by rw [bne]; exact congrArg _ (byte_eq c 34)
    have hw : IntKind.wrap .i64 ((s.length : Int) - 1) = ((s.length - 1 : Nat) : Int) := by rw [wrap_ok (by omega) (by omega)]; omega
    rw [item_z (show 0 < s.length by omega), e34]
    by_cases h3 : s[0] = 34
    · rw [decide_eq_true h3, Bool.not_true, cond_false, hw, item_at (by omega), e34]
      by_cases h4 : s[s.length - 1] = 34
      · rw [decide_eq_true h4, Bool.not_true, f44_L1, f44_T1, cond_false, hw]
        obtain ⟨o, b, h5, h6, h7⟩ := unq_loop (n := n + 1 + 1) s hc (n + 1 + 1) (midL s) [] (by rw [← mid_take s (by omega)]; simp; omega) (by rw [← mid_take s (by omega)]; simp; omega)
        refine ⟨o, b, ?_, ⟨fun hb => ⟨o, h6 hb⟩, fun ⟨d, hd, hd4⟩ => ?_⟩, h6⟩
        · rw [decide_eq_true ⟨by omega, by omega, by rw [Int.toNat_natCast]; omega⟩, cond_true, Int.toNat_natCast, show Int.toNat 1 = 1 by rfl, mid_take s (by omega)]
          exact h5
        · obtain ⟨h8, h9⟩ := h7 d (by rw [← hd, quo_mid])
          rw [h9, h8]; simp [hd, hd4]
      · rw [decide_eq_false h4, Bool.not_false, bad]
        exact ⟨[], false, rfl, no (nq (by rw [hq, decide_eq_false h4, Bool.and_false]))⟩
    · rw [decide_eq_false h3, Bool.not_false, cond_true, bad]
      exact ⟨[], false, rfl, no (nq (by rw [hq, decide_eq_false h3, Bool.false_and]))⟩
end AX
end Go.Proofs.YtfbicbgdfcbhpaaDoor
