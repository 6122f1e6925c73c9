/-
  law08.ReplyBytes answers true at all arguments: by the reckoning.
-/
import Derived.Test.YtalkglheaadigaaDoorRxAwake
set_option maxRecDepth 20000
set_option linter.unusedVariables false
set_option linter.unusedSimpArgs false
set_option linter.unusedSectionVars false
namespace Go.Proofs.YtalkglheaadigaaDoor
open Go.ChangeShapes Go.WideShapes Go.ChangeAt Go.RowKit
namespace AX
theorem strsOf_map : ∀ ls : List (List UInt8), strsOf (ls.map Cell.str) = some ls
  | [] => rfl
  | l :: ls => by simp [strsOf, strsOf_map ls]
theorem lasting_eq (n : Nat) (x : Int) : acall AXE AXF (n + 1) 29 [.one (.int .i64 x)] [] = some (.one (.bool (decide (x ≥ 500) && decide (x ≤ 599))), []) := by
  rw [f29_eq]
  unfold f29_L f29_T f29_L1 f29_T1
  cases decide (x ≥ 500) <;> rfl
theorem codes_eq (n : Nat) (a : Int) (b : List UInt8) (c : List Cell) : acall AXE AXF (n + 6) 27 [.one (.sl none 3 [.int .i64 a, .str b, .sl none 1 c, .int .i64 a, .str b, .sl none 1 c])] [] =
    some (.one (.sl (some ⟨2, 0, 3⟩) 1 [.int .i64 a, .int .i64 a]), []) := by kernel_rfl
theorem replyK_at {β : Type} (code : Int) (e : List UInt8) (ls : List (List UInt8)) (k : Int → List UInt8 → List (List UInt8) → Option β) : replyK [.agg [.int .i64 code, .str e, .sl none 1 (ls.map Cell.str)]] k = k code e ls := by
  simp only [replyK, strsOf_map]
theorem small_of {e : List UInt8} {ls : List (List UInt8)} {m : Nat} (h : few8B e (ls.map baOf) = true) (hm : 1000 ≤ m) : small m e ls = true := by
  obtain ⟨h1, h2, h3⟩ := few8_bd h
  simp only [small, Bool.and_eq_true, decide_eq_true_eq, List.all_eq_true]
  refine ⟨by omega, by have : ls.length ≤ 20 := by simpa using h1
                       omega, fun s hs => ?_⟩
  have h4 := h3 (baOf s) (List.mem_map.2 ⟨s, hs, rfl⟩)
  have h4 : s.toArray.size ≤ 500 := h4
  have h5 : s.length ≤ 500 := by simpa using h4
  omega
theorem bytesK_byteCells {R : Type} : ∀ (l : List UInt8) (k : List UInt8 → Option R), bytesK (AX.byteCells l) k = k l
  | [], _ => rfl
  | c :: l, k => by
    show castI .u8 (.int .u8 (c.toNat : Int)) (fun n => bytesK (AX.byteCells l) fun l => k (UInt8.ofNat n.toNat :: l)) = _
    simp only [castI, if_pos, bytesK_byteCells l, Int.toNat_natCast, UInt8.ofNat_toNat]
theorem pBytes_at {code : Int} {e : List UInt8} {ls : List (List UInt8)} (h : few8B e (ls.map baOf) = true) : pBytes [.agg [.int .i64 code, .str e, .sl none 1 (ls.map Cell.str)]] =
    some (bif goodR code e (ls.map baOf) then .tup [.one (.sl none 1 (AX.byteCells (bytesL code e (ls.map baOf)))), .one (.int .i64 0)] else .tup [.one (.sl none 0 []), .one (.int .i64 3)]) := by
  have hs := small_of h (Nat.le_refl 1000)
  unfold small at hs
  simp only [pBytes, strsOf_map, hs, cond_true]
  cases goodR code e (ls.map baOf) <;> rfl
theorem pRBytes_at {code : Int} {e : List UInt8} {ls : List (List UInt8)} (h : few8B e (ls.map baOf) = true) : pRBytes [.agg [.int .i64 code, .str e, .sl none 1 (ls.map Cell.str)]] =
    some (bif goodR code e (ls.map baOf) then .tup [.one (.sl none 1 (AX.byteCells (bytesL code e (ls.map baOf)))), .one (.int .i64 0)] else .tup [.one (.sl none 0 []), .one (.int .i64 3)]) := by
  unfold pRBytes
  rw [replyK_at, small_of h (Nat.le_refl _)]
  rfl
theorem pGood_at {code : Int} {e : List UInt8} {ls : List (List UInt8)} (h : few8B e (ls.map baOf) = true) : pGood [.agg [.int .i64 code, .str e, .sl none 1 (ls.map Cell.str)]] = some (.one (.bool (goodR code e (ls.map baOf)))) := by
  unfold pGood
  rw [replyK_at, small_of h (by omega)]
  rfl
theorem pEnh_at {s : List UInt8} (h : s.length ≤ 100) : pEnh [.one (.str s)] = some (enhAV (enhQ s)) := by
  have : decide (s.length ≤ 10000000) = true := by rw [decide_eq_true_eq]; omega
  simp only [pEnh, this, cond_true]
theorem pREnh_at {s : List UInt8} (h : s.length ≤ 100) : pREnh [.one (.str s)] = some (codeAV (enhQ s)) := by
  have : decide (s.length ≤ 10000000) = true := by rw [decide_eq_true_eq]; omega
  simp only [pREnh, this, cond_true]
theorem beq_self {α : Type} [BEq α] [ReflBEq α] (a : α) : (a == a) = true := BEq.rfl
theorem bytes_law (n : Nat) (code : Int) (e s : List UInt8) (ls : List (List UInt8)) (he : e.length ≤ maxLen) (hl : ls.length ≤ maxLen) :
    acall AXE AXF (n + 8) 6 [.agg [.int .i64 code, .str e, .sl none 1 (ls.map Cell.str)], .one (.str s)] [] = some (.one (.bool true), []) := by
  rw [show n + 8 = (n + 7) + 1 from rfl, f6_eq]
  have hfew : pFew [.agg [.int .i64 code, .str e, .sl none 1 (ls.map Cell.str)]] = some (.one (.bool (few8B e (ls.map baOf)))) := by
    unfold pFew
    have h1 : (decide (e.length ≤ maxLen) && decide (ls.length ≤ maxLen)) = true := by simp [he, hl]
    rw [replyK_at, h1]; rfl
  unfold f6_L f6_T
  rw [show n + 7 = (n + 1) + 6 from rfl]
  simp only [callK, awake_true, castOne, castB, primK, hfew, Bool.not_true, cond_false]
  cases hf : few8B e (ls.map baOf) with
  | false => rfl
  | true =>
    simp only [Bool.not_true, cond_false]
    unfold f6_L4 f6_T4
    have hlast : ∀ x, acall AXE AXF (n + 1 + 6) 29 [.one (.int .i64 x)] [] = some (.one (.bool (decide (x ≥ 500) && decide (x ≤ 599))), []) := fun x => lasting_eq (n + 6) x
    by_cases h100 : (s.length : Int) > 100
    · simp only [h100, decide_true, cond_true]; rfl
    · simp only [h100, decide_false, cond_false]
      have hs : s.length ≤ 100 := by omega
      simp only [primK, pBytes_at hf, pRBytes_at hf, pGood_at hf, show pRGood = pGood from rfl, pEnh_at hs, pREnh_at hs, callK, codes_eq, hlast]
      generalize bytesL code e (ls.map baOf) = B
      cases goodR code e (ls.map baOf) <;> rcases enhQ s with _ | ⟨a, b, c⟩ <;> simp only [cond_true, cond_false, enhAV, codeAV, castTup, consK, nilK, oneV, castOne, castAgg, castL, castI, castB, bytesK_byteCells, beq_self, if_pos, Nat.beq_refl, Bool.or_true, Bool.true_or, Bool.true_and, bytesK, guardB, itemK] <;> cases hq : decide (code ≥ 500) <;> simp [f6_L12, f6_T12]
end AX
end Go.Proofs.YtalkglheaadigaaDoor
