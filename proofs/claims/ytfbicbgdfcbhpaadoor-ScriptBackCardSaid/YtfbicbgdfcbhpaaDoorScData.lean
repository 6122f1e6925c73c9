/-
  Layer 31: data in quotes, both ways, in the program and in the reference; pieces between blanks in the reference.
-/
import Derived.Test.YtfbicbgdfcbhpaaDoorScLists
set_option maxRecDepth 20000
set_option linter.unusedVariables false
set_option linter.unusedSimpArgs false
set_option linter.unusedSectionVars false
namespace Go.Proofs.YtfbicbgdfcbhpaaDoor
open SC
namespace AX
/-! quotes -/
theorem byteCells_app (a b : List UInt8) : byteCells a ++ byteCells b = byteCells (a ++ b) := by simp [byteCells]
theorem bytesK_cells : ∀ (l : List UInt8) (k : List UInt8 → OR), bytesK (byteCells l) k = k l
  | [], k => rfl
  | c :: l, k => by
    show castI .u8 (.int .u8 (c.toNat : Int)) _ = _
    rw [castI_one]
    have := bytesK_cells l fun l => k (UInt8.ofNat (c.toNat : Int).toNat :: l)
    refine this.trans ?_
    simp
def hexL : List UInt8 := [48, 49, 50, 51, 52, 53, 54, 55, 56, 57, 97, 98, 99, 100, 101, 102]
theorem byte_eq (c k : UInt8) : ((c.toNat : Int) == (k.toNat : Int)) = decide (c = k) := by
  rw [Bool.eq_iff_iff, beq_iff_eq, decide_eq_true_eq, ← UInt8.toNat_inj]; omega
theorem hex_cells (c : UInt8) (k : UInt8 → UInt8 → OR) : (itemK hexL (Int.fdiv (c.toNat : Int) ((2 : Int) ^ (min (Int.toNat (4 : Int)) (IntKind.bits .u8)))) fun u1 =>
    itemK hexL (IntKind.wrap .u8 ((BitVec.toNat ((BitVec.ofInt (IntKind.bits .u8) (c.toNat : Int)) &&& (BitVec.ofInt (IntKind.bits .u8) (15 : Int))) : Nat) : Int)) fun u2 => k u1 u2) = k (hexd (c.toNat / 16)) (hexd (c.toNat % 16)) := by
  have h : ∀ n : Fin 256, Int.fdiv (n.val : Int) ((2 : Int) ^ (min (Int.toNat (4 : Int)) (IntKind.bits .u8))) = ((n.val / 16 : Nat) : Int) ∧ IntKind.wrap .u8 ((BitVec.toNat ((BitVec.ofInt (IntKind.bits .u8) (n.val : Int)) &&& (BitVec.ofInt (IntKind.bits .u8) (15 : Int))) : Nat) : Int) = ((n.val % 16 : Nat) : Int) ∧
    hexL[n.val / 16]? = some (hexd (n.val / 16)) ∧ hexL[n.val % 16]? = some (hexd (n.val % 16)) := by decide +kernel
  obtain ⟨h1, h2, h3, h4⟩ := h ⟨c.toNat, c.toNat_lt⟩
  rw [item_some h1 h3, item_some h2 h4]
theorem esc_len (c : UInt8) : (esc c).length ≤ 4 := by
  unfold esc; repeat' split
  all_goals simp
theorem quoted_loop {call : CallF} {n : Nat} (b : List UInt8) (hl : b.length ≤ 1000000) : ∀ (m i : Nat) (out : List UInt8), i ≤ b.length → b.length < i + m → out.length ≤ 4 * i + 1 →
    f54_L3 call n m (byteCells out) (byteCells b) (b.length : Int) (i : Int) = some (.one (.str (out ++ (escs (b.drop i) ++ [34]))), [])
  | 0, i, out, h1, h2, h3 => by omega
  | m + 1, i, out, h1, h2, h3 => by
    have ih := quoted_loop (call := call) (n := n) b hl m (i + 1)
    have hg : ∀ l : List UInt8, l.length ≤ 4 → (decide (((byteCells out).length + (byteCells l).length) * 1000 ≤ rowLim)) = true := fun l hl => decide_eq_true (by rw [byteCells_len, byteCells_len]; simp only [rowLim]; omega)
    by_cases h : i < b.length
    · have fin : ∀ l : List UInt8, l.length ≤ 4 → esc b[i] = l → (guardB (decide (((byteCells out).length + (byteCells l).length) * 1000 ≤ rowLim)) (f54_L10 call n (f54_L3 call n m) (byteCells out ++ byteCells l) (byteCells b) (b.length : Int) (i : Int))) = some (.one (.str (out ++ (escs (b.drop i) ++ [34]))), []) := by
        intro l hl4 he
        rw [hg l hl4, guard_true, byteCells_app, f54_L10, f54_T10, wrap_ok (by omega) (by omega), show ((i : Int) + 1) = ((i + 1 : Nat) : Int) by omega, ih _ (by omega) (by omega) (by simp; omega), List.drop_eq_getElem_cons h]
        simp [escs, he, -List.getElem_cons_drop]
      rw [f54_L3, f54_T3, decide_eq_true (by omega), cond_true, item_byte h, castI_one]
      by_cases c1 : b[i] = 34 ∨ b[i] = 92
      · have e : (bif ((b[i].toNat : Int) == 34) then f54_L9 call n (f54_L3 call n m) (byteCells out) (b[i].toNat : Int) (byteCells b) (b.length : Int) (i : Int) true else f54_L9 call n (f54_L3 call n m) (byteCells out) (b[i].toNat : Int) (byteCells b) (b.length : Int) (i : Int) ((b[i].toNat : Int) == 92)) = f54_L9 call n (f54_L3 call n m) (byteCells out) (b[i].toNat : Int) (byteCells b) (b.length : Int) (i : Int) true := by
          rcases c1 with c1 | c1 <;> rw [c1] <;> rfl
        rw [e, f54_L9, f54_T9, cond_true]
        exact fin [92, b[i]] (by simp) (by unfold esc; rw [if_pos c1])
      · have n1 : ((b[i].toNat : Int) == 34) = false := (byte_eq b[i] 34).trans (decide_eq_false fun e => c1 (.inl e))
        have n2 : ((b[i].toNat : Int) == 92) = false := (byte_eq b[i] 92).trans (decide_eq_false fun e => c1 (.inr e))
        rw [n1, cond_false, n2, f54_L9, f54_T9, cond_false]
        by_cases c2 : 32 ≤ b[i].toNat ∧ b[i].toNat ≤ 126
        · rw [decide_eq_true (show (b[i].toNat : Int) ≥ 32 by omega), cond_true, decide_eq_true (show (b[i].toNat : Int) ≤ 126 by omega), f54_L11, f54_T11, cond_true]
          exact fin [b[i]] (by simp) (by unfold esc; rw [if_neg c1, if_pos c2])
        · have e : (bif decide ((b[i].toNat : Int) ≥ 32) then f54_L11 call n (f54_L3 call n m) (byteCells out) (b[i].toNat : Int) (byteCells b) (b.length : Int) (i : Int) (decide ((b[i].toNat : Int) ≤ 126)) else f54_L11 call n (f54_L3 call n m) (byteCells out) (b[i].toNat : Int) (byteCells b) (b.length : Int) (i : Int) false) = f54_L11 call n (f54_L3 call n m) (byteCells out) (b[i].toNat : Int) (byteCells b) (b.length : Int) (i : Int) false := by
            by_cases h32 : (b[i].toNat : Int) ≥ 32
            · rw [decide_eq_true h32, cond_true, decide_eq_false (by omega)]
            · rw [decide_eq_false h32, cond_false]
          rw [e, f54_L11, f54_T11, cond_false, f54_L12, f54_T12]
          by_cases c3 : b[i] = 13
          · rw [show ((b[i].toNat : Int) == 13) = true by rw [c3]; rfl, cond_true]
            exact fin [92, 114] (by simp) (by unfold esc; rw [if_neg c1, if_neg c2, if_pos c3])
          · have n3 : ((b[i].toNat : Int) == 13) = false := (byte_eq b[i] 13).trans (decide_eq_false c3)
            rw [n3, cond_false, f54_L13, f54_T13]
            by_cases c4 : b[i] = 10
            · rw [show ((b[i].toNat : Int) == 10) = true by rw [c4]; rfl, cond_true]
              exact fin [92, 110] (by simp) (by unfold esc; rw [if_neg c1, if_neg c2, if_neg c3, if_pos c4])
            · have n4 : ((b[i].toNat : Int) == 10) = false := (byte_eq b[i] 10).trans (decide_eq_false c4)
              rw [n4, cond_false]
              refine (hex_cells b[i] _).trans ?_
              exact fin [92, 120, hexd (b[i].toNat / 16), hexd (b[i].toNat % 16)] (by simp) (by unfold esc; rw [if_neg c1, if_neg c2, if_neg c3, if_neg c4])
    · simp only [f54_L3, f54_T3]
      have := hg [34] (by simp)
      rw [decide_eq_false (by omega), cond_false, List.drop_of_length_le (by omega)]
      refine (guard_ok this).trans ?_
      refine (congrArg (fun x => bytesK x fun s3 => some (AV.one (.str s3), ([] : Heap))) (byteCells_app out [34])).trans ?_
      rw [bytesK_cells]; rfl
theorem quoted_at (n : Nat) (b : List UInt8) (hl : b.length ≤ 1000000) (hn : 1000100 ≤ n) : acall AXE AXF (n + 1) 54 [.one (.sl none 1 (byteCells b))] [] = some (.one (.str (quo b)), []) := by
  rw [f54_eq, f54_L, f54_T, byteCells_len, Nat.div_one]
  exact quoted_loop b hl _ 0 [34] (by omega) (by omega) (by simp)
/-- one piece of hexL -/
theorem hex_cut (v : Nat) (h : v < 16) : (hexL.take (v + 1)).drop v = [hexd v] := by
  have : ∀ n : Fin 16, (hexL.take (n.val + 1)).drop n.val = [hexd n.val] := by decide +kernel
  exact this ⟨v, h⟩
end AX
end Go.Proofs.YtfbicbgdfcbhpaaDoor
