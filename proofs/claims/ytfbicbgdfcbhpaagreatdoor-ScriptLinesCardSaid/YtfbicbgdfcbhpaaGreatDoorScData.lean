/-
  Layer 31: data in quotes, both ways, in the program and in the reference; pieces between blanks in the reference.
-/
import Derived.Test.YtfbicbgdfcbhpaaGreatDoorScLists
set_option maxRecDepth 20000
set_option linter.unusedVariables false
set_option linter.unusedSimpArgs false
set_option linter.unusedSectionVars false
namespace Go.Proofs.YtfbicbgdfcbhpaaGreatDoor
open SC
namespace AX
/-! split -/
theorem split_loop {call : CallF} {n : Nat} (s : List UInt8) (hl : s.length ≤ 100000000) : ∀ (m a i : Nat) (out : List (List UInt8)), a ≤ i → i ≤ s.length → s.length + 1 < i + m → (∀ x ∈ (s.drop a).take (i - a), x ≠ 32) → out.length ≤ i →
    f58_L4 call n m s (strs out) (a : Int) (i : Int) = some (.one (.sl (some ⟨2, 0, 9⟩) 1 (strs (out ++ spl 32 (s.drop a)))), [])
  | 0, a, i, out, h1, h2, h3, h4, h5 => by omega
  | m + 1, a, i, out, h1, h2, h3, h4, h5 => by
    have hst : ∀ x : List UInt8, strs out ++ [Cell.str x] = strs (out ++ [x]) := fun x => by simp [strs]
    have hcut : (s.take i).drop a = (s.drop a).take (i - a) := by rw [List.drop_take]
    have hg : ∀ x : List UInt8, (decide (((strs out).length + ([Cell.str x] : List Cell).length) * 1000 ≤ rowLim)) = true := fun x => decide_eq_true (by rw [strs_len]; simp [rowLim]; omega)
    have hd : (decide (0 ≤ (a : Int) ∧ (a : Int) ≤ (i : Int) ∧ i ≤ s.length)) = true := decide_eq_true ⟨by omega, by omega, h2⟩
    simp only [f58_T11, f58_L11, f58_T10, f58_L10, f58_T9, f58_L9, f58_T4, f58_L4, f58_T, f58_L]
    rw [decide_eq_true (show (i : Int) ≤ (s.length : Int) by omega), cond_true, wrap_ok (x := (i : Int) + 1) (by omega) (by omega)]
    by_cases h : i < s.length
    · rw [show ((i : Int) == (s.length : Int)) = false by simp; omega, cond_false, item_at h]
      by_cases hb : s[i] = 32
      · have hsp : s.drop a = (s.drop a).take (i - a) ++ 32 :: s.drop (i + 1) := by
          conv => lhs; rw [← List.take_append_drop (i - a) (s.drop a)]
          rw [List.drop_drop, show a + (i - a) = i by omega, List.drop_eq_getElem_cons h, hb]
        rw [show ((s[i].toNat : Int) == 32) = true by rw [hb]; rfl, cond_true, hsp, spl_hit _ _ h4]
        simp only [Int.toNat_natCast, hcut, hd, cond_true, hg, guard_true, hst]
        rw [show ((i : Int) + 1) = ((i + 1 : Nat) : Int) by omega, ← hcut, split_loop s hl m (i + 1) (i + 1) _ (by omega) (by omega) (by omega) (by simp) (by simp; omega)]
        simp
      · rw [show ((s[i].toNat : Int) == 32) = false by
          rw [beq_eq_false_iff_ne]; intro e; exact hb (UInt8.toNat_inj.1 (by simpa using (by omega : s[i].toNat = 32))), cond_false,
          show ((i : Int) + 1) = ((i + 1 : Nat) : Int) by omega, split_loop s hl m a (i + 1) out (by omega) (by omega) (by omega) (by
            intro x hx
            rw [show i + 1 - a = (i - a) + 1 by omega, List.take_add_one, List.getElem?_drop, show a + (i - a) = i by omega, List.getElem?_eq_getElem h] at hx
            rcases List.mem_append.1 hx with hx | hx
            · exact h4 x hx
            · simp at hx; subst hx; exact hb) (by omega)]
    · have hi : i = s.length := by omega
      have hrest : (s.drop a).take (i - a) = s.drop a := List.take_of_length_le (by rw [List.length_drop]; omega)
      rw [show ((i : Int) == (s.length : Int)) = true by simp; omega, cond_true]
      simp only [Int.toNat_natCast, hcut, hd, cond_true, hg, guard_true, hst, hrest]
      rw [hrest] at h4
      rw [spl_no h4, show ((i : Int) + 1) = ((i + 1 : Nat) : Int) by omega]
      obtain ⟨m, rfl⟩ : ∃ k, m = k + 1 := ⟨m - 1, by omega⟩
      simp only [f58_T11, f58_L11, f58_T10, f58_L10, f58_T9, f58_L9, f58_T4, f58_L4, f58_T, f58_L]
      rw [decide_eq_false (by omega), cond_false]
theorem split_at (n : Nat) (s : List UInt8) (hl : s.length ≤ 1000000) (hn : 1000100 ≤ n) : acall AXE AXF (n + 1) 58 [.one (.str s)] [] = some (.one (.sl (some ⟨2, 0, 9⟩) 1 (strs (spl 32 s))), []) := by
  rw [f58_eq, f58_L, f58_T]
  exact split_loop s (by omega) _ 0 0 [] (by omega) (by omega) (by omega) (by simp) (by simp)

/-! quotes -/
theorem byteCells_app (a b : List UInt8) : byteCells a ++ byteCells b = byteCells (a ++ b) := by simp [byteCells]
theorem bytesK_cells : ∀ (l : List UInt8) (k : List UInt8 → OR), bytesK (byteCells l) k = k l
  | [], k => rfl
  | c :: l, k => by
    show castI .u8 (.int .u8 (c.toNat : Int)) _ = _
    rw [castI_one]
    have := bytesK_cells l fun l => k (UInt8.ofNat (c.toNat : Int).toNat :: l)
    refine this.trans ?_
    simp
def hexL : List UInt8 := [48, 49, 50, 51, 52, 53, 54, 55, 56, 57, 97, 98, 99, 100, 101, 102]
theorem byte_eq (c k : UInt8) : ((c.toNat : Int) == (k.toNat : Int)) = decide (c = k) := by
  rw [Bool.eq_iff_iff, beq_iff_eq, decide_eq_true_eq, ← UInt8.toNat_inj]; omega
theorem hex_cells (c : UInt8) (k : UInt8 → UInt8 → OR) : (itemK hexL (Int.fdiv (c.toNat : Int) ((2 : Int) ^ (min (Int.toNat (4 : Int)) (IntKind.bits .u8)))) fun u1 =>
    itemK hexL (IntKind.wrap .u8 ((BitVec.toNat ((BitVec.ofInt (IntKind.bits .u8) (c.toNat : Int)) &&& (BitVec.ofInt (IntKind.bits .u8) (15 : Int))) : Nat) : Int)) fun u2 => k u1 u2) = k (hexd (c.toNat / 16)) (hexd (c.toNat % 16)) := by
  have h : ∀ n : Fin 256, Int.fdiv (n.val : Int) ((2 : Int) ^ (min (Int.toNat (4 : Int)) (IntKind.bits .u8))) = ((n.val / 16 : Nat) : Int) ∧ IntKind.wrap .u8 ((BitVec.toNat ((BitVec.ofInt (IntKind.bits .u8) (n.val : Int)) &&& (BitVec.ofInt (IntKind.bits .u8) (15 : Int))) : Nat) : Int) = ((n.val % 16 : Nat) : Int) ∧
    hexL[n.val / 16]? = some (hexd (n.val / 16)) ∧ hexL[n.val % 16]? = some (hexd (n.val % 16)) := by decide +kernel
  obtain ⟨h1, h2, h3, h4⟩ := h ⟨c.toNat, c.toNat_lt⟩
  rw [item_some h1 h3, item_some h2 h4]
theorem esc_len (c : UInt8) : (esc c).length ≤ 4 := by
  unfold esc; repeat' split
  all_goals simp
theorem quoted_loop {call : CallF} {n : Nat} (b : List UInt8) (hl : b.length ≤ 1000000) : ∀ (m i : Nat) (out : List UInt8), i ≤ b.length → b.length < i + m → out.length ≤ 4 * i + 1 →
    f53_L3 call n m (byteCells out) (byteCells b) (b.length : Int) (i : Int) = some (.one (.str (out ++ (escs (b.drop i) ++ [34]))), [])
  | 0, i, out, h1, h2, h3 => by omega
  | m + 1, i, out, h1, h2, h3 => by
    have ih := quoted_loop (call := call) (n := n) b hl m (i + 1)
    have hg : ∀ l : List UInt8, l.length ≤ 4 → (decide (((byteCells out).length + (byteCells l).length) * 1000 ≤ rowLim)) = true := fun l hl => decide_eq_true (by rw [byteCells_len, byteCells_len]; simp only [rowLim]; omega)
    by_cases h : i < b.length
    · have fin : ∀ l : List UInt8, l.length ≤ 4 → esc b[i] = l → (guardB (decide (((byteCells out).length + (byteCells l).length) * 1000 ≤ rowLim)) (f53_L10 call n (f53_L3 call n m) (byteCells out ++ byteCells l) (byteCells b) (b.length : Int) (i : Int))) = some (.one (.str (out ++ (escs (b.drop i) ++ [34]))), []) := by
        intro l hl4 he
        rw [hg l hl4, guard_true, byteCells_app, f53_L10, f53_T10, wrap_ok (by omega) (by omega), show ((i : Int) + 1) = ((i + 1 : Nat) : Int) by omega, ih _ (by omega) (by omega) (by simp; omega), List.drop_eq_getElem_cons h]
        simp [escs, he, -List.getElem_cons_drop]
      rw [f53_L3, f53_T3, decide_eq_true (by omega), cond_true, item_byte h, castI_one]
      by_cases c1 : b[i] = 34 ∨ b[i] = 92
      · have e : (bif ((b[i].toNat : Int) == 34) then f53_L9 call n (f53_L3 call n m) (byteCells out) (b[i].toNat : Int) (byteCells b) (b.length : Int) (i : Int) true else f53_L9 call n (f53_L3 call n m) (byteCells out) (b[i].toNat : Int) (byteCells b) (b.length : Int) (i : Int) ((b[i].toNat : Int) == 92)) = f53_L9 call n (f53_L3 call n m) (byteCells out) (b[i].toNat : Int) (byteCells b) (b.length : Int) (i : Int) true := by
          rcases c1 with c1 | c1 <;> rw [c1] <;> rfl
        rw [e, f53_L9, f53_T9, cond_true]
        exact fin [92, b[i]] (by simp) (by unfold esc; rw [if_pos c1])
      · have n1 : ((b[i].toNat : Int) == 34) = false := (byte_eq b[i] 34).trans (decide_eq_false fun e => c1 (.inl e))
        have n2 : ((b[i].toNat : Int) == 92) = false := (byte_eq b[i] 92).trans (decide_eq_false fun e => c1 (.inr e))
        rw [n1, cond_false, n2, f53_L9, f53_T9, cond_false]
        by_cases c2 : 32 ≤ b[i].toNat ∧ b[i].toNat ≤ 126
        · rw [decide_eq_true (show (b[i].toNat : Int) ≥ 32 by omega), cond_true, decide_eq_true (show (b[i].toNat : Int) ≤ 126 by omega), f53_L11, f53_T11, cond_true]
          exact fin [b[i]] (by simp) (by unfold esc; rw [if_neg c1, if_pos c2])
        · have e : (bif decide ((b[i].toNat : Int) ≥ 32) then f53_L11 call n (f53_L3 call n m) (byteCells out) (b[i].toNat : Int) (byteCells b) (b.length : Int) (i : Int) (decide ((b[i].toNat : Int) ≤ 126)) else f53_L11 call n (f53_L3 call n m) (byteCells out) (b[i].toNat : Int) (byteCells b) (b.length : Int) (i : Int) false) = f53_L11 call n (f53_L3 call n m) (byteCells out) (b[i].toNat : Int) (byteCells b) (b.length : Int) (i : Int) false := by
            by_cases h32 : (b[i].toNat : Int) ≥ 32
            · rw [decide_eq_true h32, cond_true, decide_eq_false (by omega)]
            · rw [decide_eq_false h32, cond_false]
          rw [e, f53_L11, f53_T11, cond_false, f53_L12, f53_T12]
          by_cases c3 : b[i] = 13
          · rw [show ((b[i].toNat : Int) == 13) = true by rw [c3]; rfl, cond_true]
            exact fin [92, 114] (by simp) (by unfold esc; rw [if_neg c1, if_neg c2, if_pos c3])
          · have n3 : ((b[i].toNat : Int) == 13) = false := (byte_eq b[i] 13).trans (decide_eq_false c3)
            rw [n3, cond_false, f53_L13, f53_T13]
            by_cases c4 : b[i] = 10
            · rw [show ((b[i].toNat : Int) == 10) = true by rw [c4]; rfl, cond_true]
              exact fin [92, 110] (by simp) (by unfold esc; rw [if_neg c1, if_neg c2, if_neg c3, if_pos c4])
            · have n4 : ((b[i].toNat : Int) == 10) = false := (byte_eq b[i] 10).trans (decide_eq_false c4)
              rw [n4, cond_false]
              refine (hex_cells b[i] _).trans ?_
              exact fin [92, 120, hexd (b[i].toNat / 16), hexd (b[i].toNat % 16)] (by simp) (by unfold esc; rw [if_neg c1, if_neg c2, if_neg c3, if_neg c4])
    · simp only [f53_L3, f53_T3]
      have := hg [34] (by simp)
      rw [decide_eq_false (by omega), cond_false, List.drop_of_length_le (by omega)]
      refine (guard_ok this).trans ?_
      refine (congrArg (fun x => bytesK x fun s3 => some (AV.one (.str s3), ([] : Heap))) (byteCells_app out [34])).trans ?_
      rw [bytesK_cells]; rfl
theorem quoted_at (n : Nat) (b : List UInt8) (hl : b.length ≤ 1000000) (hn : 1000100 ≤ n) : acall AXE AXF (n + 1) 53 [.one (.sl none 1 (byteCells b))] [] = some (.one (.str (quo b)), []) := by
  rw [f53_eq, f53_L, f53_T, byteCells_len, Nat.div_one]
  exact quoted_loop b hl _ 0 [34] (by omega) (by omega) (by simp)
/-- one piece of hexL -/
theorem hex_cut (v : Nat) (h : v < 16) : (hexL.take (v + 1)).drop v = [hexd v] := by
  have : ∀ n : Fin 16, (hexL.take (n.val + 1)).drop n.val = [hexd n.val] := by decide +kernel
  exact this ⟨v, h⟩
theorem Data_loop {call : CallF} {n : Nat} (b : List UInt8) (hl : b.length ≤ 1000000) : ∀ (m i : Nat) (out : List UInt8), i ≤ b.length → b.length < i + m → out.length ≤ 4 * i + 1 →
    f26_L4 call n m (byteCells b) hexL out (i : Int) = some (.one (.str (out ++ (escs (b.drop i) ++ [34]))), [])
  | 0, i, out, h1, h2, h3 => by omega
  | m + 1, i, out, h1, h2, h3 => by
    have ih := Data_loop (call := call) (n := n) b hl m (i + 1)
    have hg : ∀ k l : List UInt8, k.length ≤ out.length + 8 → l.length ≤ 4 → decide (k.length + l.length ≤ strLim) = true := fun k l hk hl => decide_eq_true (by simp only [strLim]; omega)
    by_cases h : i < b.length
    · have fin : ∀ l : List UInt8, l.length ≤ 4 → esc b[i] = l → f26_L11 call n (f26_L4 call n m) (byteCells b) hexL (out ++ l) (i : Int) = some (.one (.str (out ++ (escs (b.drop i) ++ [34]))), []) := by
        intro l hl4 he
        rw [f26_L11, f26_T11, wrap_ok (by omega) (by omega), show ((i : Int) + 1) = ((i + 1 : Nat) : Int) by omega, ih _ (by omega) (by omega) (by simp; omega), List.drop_eq_getElem_cons h]
        simp [escs, he, -List.getElem_cons_drop]
      have hb1 : ∀ k : List UInt8 → OR, bytesK ([.int .u8 (b[i].toNat : Int)] : List Cell) k = k [b[i]] := fun k => bytesK_cells [b[i]] k
      rw [f26_L4, f26_T4, byteCells_len, Nat.div_one, decide_eq_true (by omega), cond_true, item_byte h, castI_one]
      by_cases c1 : b[i] = 34 ∨ b[i] = 92
      · have e : (bif ((b[i].toNat : Int) == 34) then f26_L10 call n (f26_L4 call n m) (byteCells b) hexL out (i : Int) (b[i].toNat : Int) true else f26_L10 call n (f26_L4 call n m) (byteCells b) hexL out (i : Int) (b[i].toNat : Int) ((b[i].toNat : Int) == 92)) = f26_L10 call n (f26_L4 call n m) (byteCells b) hexL out (i : Int) (b[i].toNat : Int) true := by
          rcases c1 with c1 | c1 <;> rw [c1] <;> rfl
        rw [e, f26_L10, f26_T10, cond_true, hb1, hg _ _ (by omega) (by simp), cond_true, hg _ _ (by simp) (by simp), cond_true, List.append_assoc]
        exact fin [92, b[i]] (by simp) (by unfold esc; rw [if_pos c1])
      · have n1 : ((b[i].toNat : Int) == 34) = false := (byte_eq b[i] 34).trans (decide_eq_false fun e => c1 (.inl e))
        have n2 : ((b[i].toNat : Int) == 92) = false := (byte_eq b[i] 92).trans (decide_eq_false fun e => c1 (.inr e))
        rw [n1, cond_false, n2, f26_L10, f26_T10, cond_false]
        by_cases c2 : 32 ≤ b[i].toNat ∧ b[i].toNat ≤ 126
        · rw [decide_eq_true (show (b[i].toNat : Int) ≥ 32 by omega), cond_true, decide_eq_true (show (b[i].toNat : Int) ≤ 126 by omega), f26_L12, f26_T12, cond_true, hb1, hg _ _ (by omega) (by simp), cond_true]
          exact fin [b[i]] (by simp) (by unfold esc; rw [if_neg c1, if_pos c2])
        · have e : (bif decide ((b[i].toNat : Int) ≥ 32) then f26_L12 call n (f26_L4 call n m) (byteCells b) hexL out (i : Int) (b[i].toNat : Int) (decide ((b[i].toNat : Int) ≤ 126)) else f26_L12 call n (f26_L4 call n m) (byteCells b) hexL out (i : Int) (b[i].toNat : Int) false) = f26_L12 call n (f26_L4 call n m) (byteCells b) hexL out (i : Int) (b[i].toNat : Int) false := by
            by_cases h32 : (b[i].toNat : Int) ≥ 32
            · rw [decide_eq_true h32, cond_true, decide_eq_false (by omega)]
            · rw [decide_eq_false h32, cond_false]
          rw [e, f26_L12, f26_T12, cond_false, f26_L13, f26_T13]
          by_cases c3 : b[i] = 13
          · rw [show ((b[i].toNat : Int) == 13) = true by rw [c3]; rfl, cond_true, hg _ _ (by omega) (by simp), cond_true]
            exact fin [92, 114] (by simp) (by unfold esc; rw [if_neg c1, if_neg c2, if_pos c3])
          · have n3 : ((b[i].toNat : Int) == 13) = false := (byte_eq b[i] 13).trans (decide_eq_false c3)
            rw [n3, cond_false, f26_L14, f26_T14]
            by_cases c4 : b[i] = 10
            · rw [show ((b[i].toNat : Int) == 10) = true by rw [c4]; rfl, cond_true, hg _ _ (by omega) (by simp), cond_true]
              exact fin [92, 110] (by simp) (by unfold esc; rw [if_neg c1, if_neg c2, if_neg c3, if_pos c4])
            · have n4 : ((b[i].toNat : Int) == 10) = false := (byte_eq b[i] 10).trans (decide_eq_false c4)
              have hlt := b[i].toNat_lt
              have w1 : IntKind.wrap .u8 (Int.tdiv (b[i].toNat : Int) 16) = ((b[i].toNat / 16 : Nat) : Int) := by rw [Int.tdiv_eq_ediv_of_nonneg (by omega), IntKind.wrap_u8]; omega
              have w2 : IntKind.wrap .u8 (((b[i].toNat / 16 : Nat) : Int) + 1) = ((b[i].toNat / 16 + 1 : Nat) : Int) := by rw [IntKind.wrap_u8]; omega
              have w3 : Int.tmod (b[i].toNat : Int) 16 = ((b[i].toNat % 16 : Nat) : Int) := by rw [Int.tmod_eq_emod_of_nonneg (by omega)]; omega
              have w4 : IntKind.wrap .u8 (((b[i].toNat % 16 : Nat) : Int) + 1) = ((b[i].toNat % 16 + 1 : Nat) : Int) := by rw [IntKind.wrap_u8]; omega
              have hx : hexL.length = 16 := rfl
              simp only [n4, cond_false, w1, w2, w3, w4, Int.toNat_natCast, hex_cut _ (show b[i].toNat / 16 < 16 by omega), hex_cut _ (show b[i].toNat % 16 < 16 by omega), hx]
              rw [hg _ _ (by omega) (by simp), cond_true, decide_eq_true ⟨by omega, by omega, by omega⟩, cond_true, hg _ _ (by simp) (by simp), cond_true, decide_eq_true ⟨by omega, by omega, by omega⟩, cond_true, hg _ _ (by simp) (by simp), cond_true, List.append_assoc, List.append_assoc]
              exact fin [92, 120, hexd (b[i].toNat / 16), hexd (b[i].toNat % 16)] (by simp) (by unfold esc; rw [if_neg c1, if_neg c2, if_neg c3, if_neg c4])
    · rw [f26_L4, f26_T4, byteCells_len, Nat.div_one, decide_eq_false (by omega), cond_false, hg _ _ (by omega) (by simp), cond_true, List.drop_of_length_le (by omega)]; rfl
theorem Data_at (n : Nat) (b : List UInt8) (hl : b.length ≤ 1000000) (hn : 1000100 ≤ n) : acall AXE AXF (n + 1) 26 [.one (.sl none 1 (byteCells b))] [] = some (.one (.str (quo b)), []) := by
  rw [f26_eq, f26_L, f26_T]
  exact Data_loop b hl _ 0 [34] (by omega) (by omega) (by simp)
end AX
end Go.Proofs.YtfbicbgdfcbhpaaGreatDoor
