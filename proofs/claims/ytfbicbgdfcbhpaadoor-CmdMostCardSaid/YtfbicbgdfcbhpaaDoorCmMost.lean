/-
  law06.CmdMost answers true at all arguments: by the reckoning.
-/
import Derived.Test.YtfbicbgdfcbhpaaDoorCmAwake
set_option maxRecDepth 20000
set_option linter.unusedVariables false
set_option linter.unusedSimpArgs false
set_option linter.unusedSectionVars false
namespace Go.Proofs.YtfbicbgdfcbhpaaDoor
open SC CM
namespace AX
/-- the bytes behind the verb -/
def mostL (N : Nat) (at' : Int) (c : UInt8) : List UInt8 := if 0 ≤ at' ∧ at' < N then (List.replicate N 97).set at'.toNat c else List.replicate N 97
theorem mostL_len (N : Nat) (at' : Int) (c : UInt8) : (mostL N at' c).length = N := by unfold mostL; split <;> simp
theorem rep_print (N : Nat) : printL (List.replicate N 97) = true := by
  unfold printL
  rw [List.all_eq_true]
  intro x hx
  rw [(List.mem_replicate.1 hx).2]; rfl
theorem mostL_print (N : Nat) (at' : Int) (c : UInt8) : printL (mostL N at' c) = if 0 ≤ at' ∧ at' < N then printC c else true := by
  unfold mostL
  by_cases h : 0 ≤ at' ∧ at' < N
  · rw [if_pos h, if_pos h]
    have hk : at'.toNat < (List.replicate N (97 : UInt8)).length := by rw [List.length_replicate]; omega
    cases hc : printC c with
    | true =>
      refine List.all_eq_true.2 fun x hx => ?_
      rcases List.mem_or_eq_of_mem_set hx with hx | rfl
      · rw [(List.mem_replicate.1 hx).2]; rfl
      · exact hc
    | false =>
      cases hb : printL ((List.replicate N 97).set at'.toNat c) with
      | false => rfl
      | true =>
        have := List.all_eq_true.1 hb c (List.mem_set hk c)
        rw [hc] at this; cases this
  · rw [if_neg h, if_neg h]; exact rep_print N
theorem noop_parse (b : List UInt8) : parseQ ([78, 79, 79, 80, 32] ++ b) = if 510 < 5 + b.length ∨ printL b = false then (zeroC, 500) else (⟨8, b, [], [], false, -1, 0⟩, 0) := by
  have e : printL ([78, 79, 79, 80, 32] ++ b) = printL b := by
    show (printC 78 && (printC 79 && (printC 79 && (printC 80 && (printC 32 && printL b))))) = _
    rfl
  have hc : Lib.cut ([78, 79, 79, 80, 32] ++ b) [32] = ([78, 79, 79, 80], b, true) := cut_hit [78, 79, 79, 80] b (by decide)
  unfold parseQ
  rw [e, hc, List.length_append]
  by_cases h : 510 < 5 + b.length ∨ printL b = false
  · rw [if_pos h, if_pos (by simpa using h)]
  · rw [if_neg h, if_neg (by simpa using h)]; rfl
theorem most_row (N : Nat) : (List.replicate N ([.int .u8 (0 : Int)] : List Cell)).flatten = byteCells (List.replicate N 0) := by
  unfold byteCells
  induction N with
  | zero => rfl
  | succ k ih => rw [List.replicate_succ, List.flatten_cons, ih, List.replicate_succ]; rfl
theorem rep_set (k r : Nat) : (List.replicate k (97 : UInt8) ++ List.replicate (r + 1) 0).set k 97 = List.replicate (k + 1) 97 ++ List.replicate r 0 := by
  rw [List.set_append_right _ _ (by simp), List.length_replicate, Nat.sub_self, List.replicate_succ' (n := k), List.replicate_succ (n := r), List.set_cons_zero, List.append_assoc]
  rfl
structure MostCalls (call : CallF) : Prop where
  awake : call 17 [] [] = some (.one (.bool true), [])
  parse : ∀ l : List UInt8, call 19 [.one (.str l)] [] = lineV (parseQ l)
theorem most_end {call : CallF} {n : Nat} (hC : MostCalls call) (N : Nat) (hN : N ≤ 600) (at' : Int) (c : UInt8) : f6_L15 call n (N : Int) at' (c.toNat : Int) N (byteCells (mostL N at' c)) = some (.one (.bool true), []) := by
  have hl := mostL_len N at' c
  have hp := mostL_print N at' c
  have h2 := hC.parse ([78, 79, 79, 80, 32] ++ mostL N at' c)
  rw [noop_parse, hl, hp] at h2
  generalize mostL N at' c = b at hl hp h2 ⊢
  have ht : (byteCells b).take N = byteCells b := by rw [← hl]; exact take_byte b
  have hlim : decide (([78, 79, 79, 80, 32] : List UInt8).length + b.length ≤ strLim) = true := decide_eq_true (by
    rw [hl]
    have : (1000000 : Nat) ≤ strLim := by decide
    simp; omega)
  rw [f6_L15, f6_T15, byteCells_len, hl, show Nat.ble N N = true by simp, cond_true, ht, cm_bytesK, hlim, cond_true]
  have hc := printC_iff c
  -- what is asked
  have ask : ∀ (k : Int) (x : S_api_Cmd), f6_L16 call n (N : Int) at' (c.toNat : Int) N k (byteCells b) x = f6_L17 call n N k (decide (510 < 5 + N ∨ ((if 0 ≤ at' ∧ at' < N then printC c else true) = false))) (byteCells b) x := fun k x => by
    rw [f6_L16, f6_T16, wrap_ok (by omega) (by omega)]
    by_cases h1 : 510 < 5 + N
    · rw [decide_eq_true (by omega), cond_true, decide_eq_true (.inl h1)]
    · rw [decide_eq_false (by omega), cond_false]
      by_cases h2 : 0 ≤ at'
      · rw [decide_eq_true (by omega), cond_true]
        by_cases h3 : at' < N
        · rw [decide_eq_true (by omega), cond_true, if_pos ⟨h2, h3⟩]
          cases hb : printC c with
          | true =>
            rw [hb] at hc; simp only [true_iff] at hc
            rw [decide_eq_false (by omega), cond_false, decide_eq_false (by omega), decide_eq_false (by rintro (h | h); omega; cases h)]
          | false =>
            rw [hb] at hc; simp only [Bool.false_eq_true, false_iff] at hc
            rw [decide_eq_true (p := 510 < 5 + N ∨ false = false) (.inr rfl)]
            by_cases h4 : c.toNat < 32
            · rw [decide_eq_true (by omega), cond_true]
            · rw [decide_eq_false (by omega), cond_false, decide_eq_true (by omega)]
        · rw [decide_eq_false (by omega), cond_false, if_neg (fun h => h3 h.2), decide_eq_false (by rintro (h | h); omega; cases h)]
      · rw [decide_eq_false (by omega), cond_false, if_neg (fun h => h2 h.1), decide_eq_false (by rintro (h | h); omega; cases h)]
  generalize (if 0 ≤ at' ∧ at' < N then printC c else true) = pr at h2 ask
  by_cases h : 510 < 5 + N ∨ pr = false
  · rw [if_pos h] at h2
    rw [decide_eq_true h] at ask
    unfold lineV at h2
    rw [callK_some h2, castTup_tup, consK_cons, aggV_agg, takeS_api_Cmd_cells_nil, nilK_nil, zI_cons, nilK_nil, ask]
    rfl
  · rw [if_neg h] at h2
    rw [decide_eq_false h] at ask
    unfold lineV at h2
    rw [callK_some h2, castTup_tup, consK_cons, aggV_agg, takeS_api_Cmd_cells_nil, nilK_nil, zI_cons, nilK_nil, ask, f6_L17, f6_T17, cond_false, byteCells_len, hl, show Nat.ble N N = true by simp, ht, cm_bytesK]
    simp only [beq_self_eq_true, cond_true]
    rfl
theorem most_loop {call : CallF} {n : Nat} (hC : MostCalls call) (N : Nat) (hN : N ≤ 600) (at' : Int) (c : UInt8) : ∀ m i : Nat, i ≤ N → N < i + m →
    f6_L9 call n m (N : Int) at' (c.toNat : Int) N (i : Int) (byteCells (List.replicate i 97 ++ List.replicate (N - i) 0)) = some (.one (.bool true), [])
  | 0, i, h1, h2 => by omega
  | m + 1, i, h1, h2 => by
    rw [f6_L9, f6_T9]
    by_cases h : i < N
    · obtain ⟨r, hr⟩ : ∃ r, N - i = r + 1 := ⟨N - i - 1, by omega⟩
      rw [decide_eq_true (by omega), cond_true, guard_ok (by simp; omega), Int.toNat_natCast, Nat.mul_one, byteCells_len, (show Nat.blt i (List.replicate i (97 : UInt8) ++ List.replicate (N - i) (0 : UInt8)).length = true from Nat.blt_eq.symm ▸ (by simp; omega : i < (List.replicate i (97 : UInt8) ++ List.replicate (N - i) (0 : UInt8)).length)), cond_true,
        show (97 : Int) = ((97 : UInt8).toNat : Int) by rfl, set_byte, hr, rep_set, wrap_ok (by omega) (by omega), show ((i : Int) + 1) = ((i + 1 : Nat) : Int) by omega, show r = N - (i + 1) by omega]
      exact most_loop hC N hN at' c m (i + 1) (by omega) (by omega)
    · obtain rfl : i = N := by omega
      rw [decide_eq_false (by omega), cond_false, Nat.sub_self, List.replicate_zero, List.append_nil]
      have he := most_end (n := n) hC i hN at' c
      unfold mostL at he
      by_cases h0 : 0 ≤ at'
      · rw [decide_eq_true (by omega), cond_true]
        by_cases h1 : at' < i
        · rw [if_pos ⟨h0, h1⟩] at he
          rw [decide_eq_true (by omega), f6_L14, f6_T14, cond_true, guard_ok (by simp; omega), Nat.mul_one, byteCells_len, show Nat.blt at'.toNat (List.replicate i (97 : UInt8)).length = true by rw [Nat.blt_eq]; simp; omega, cond_true, set_byte]
          exact he
        · rw [if_neg (fun h => h1 h.2)] at he
          rw [decide_eq_false (by omega), f6_L14, f6_T14, cond_false]
          exact he
      · rw [if_neg (fun h => h0 h.1)] at he
        rw [decide_eq_false (by omega), cond_false, f6_L14, f6_T14, cond_false]
        exact he
theorem most_core {call : CallF} {n : Nat} (hn : 1000 ≤ n) (hC : MostCalls call) (a at' : Int) (c : UInt8) : f6_L call n a at' (c.toNat : Int) = some (.one (.bool true), []) := by
  rw [f6_L, f6_T, callK_some hC.awake, oB_one, Bool.not_true, cond_false]
  by_cases h : a < 0
  · rw [decide_eq_true h]; rfl
  · rw [decide_eq_false h, cond_false]
    by_cases h6 : 600 < a
    · rw [decide_eq_true (by omega)]; rfl
    · obtain ⟨N, rfl⟩ : ∃ N : Nat, a = N := ⟨a.toNat, by omega⟩
      rw [decide_eq_false (by omega), f6_L4, f6_T4, cond_false, Int.toNat_natCast, most_row,
        show (decide (IntKind.i64 = .i64) && decide (IntKind.i64 = .i64) && decide ((N : Int) = (N : Int)) && decide (0 ≤ (N : Int)) && decide (N * 1 ≤ 1000000)) = true by simp; omega, cond_true]
      have := most_loop (n := n) hC N (by omega) at' c n 0 (by omega) (by omega)
      simpa using this
theorem most_law (a at' : Int) (c : UInt8) : acall AXE AXF 10001 6 [.one (.int .i64 a), .one (.int .i64 at'), .one (.int .u8 (c.toNat : Int))] [] = some (.one (.bool true), []) := by
  rw [show (10001 : Nat) = 10000 + 1 from rfl, f6_eq]
  exact most_core (by omega) ⟨awake_at 9999 (by omega), fun l => Parse_at 9999 l (by omega)⟩ a at' c
end AX
end Go.Proofs.YtfbicbgdfcbhpaaDoor
