/-
  law31.ScriptBack answers true at all arguments: by the reckoning.
-/
import Derived.Test.YtfbicbgdfcbhpaaDoorScText
set_option maxRecDepth 20000
set_option linter.unusedVariables false
set_option linter.unusedSimpArgs false
set_option linter.unusedSectionVars false
namespace Go.Proofs.YtfbicbgdfcbhpaaDoor
open SC
namespace AX
theorem replicate_pevs (k : Nat) : pevs (List.replicate k runE) ++ (evP runE).cells = pevs (List.replicate (k + 1) runE) := by
  rw [pevs_snoc, List.replicate_succ']
theorem runs_len : ∀ k, (runsT k).length = 4 * k
  | 0 => rfl
  | k + 1 => by
    show (runsT k ++ (runL ++ [10])).length = _
    rw [List.length_append, runs_len k]; simp [runL]; omega
theorem runE_64 : I64 runE := ⟨by unfold i64B; decide, by unfold i64B; decide, by unfold i64B; decide, by unfold i64B; decide, by unfold i64B; decide, by unfold i64B; decide, fun v hv => by cases hv⟩
theorem runE_light : LightE runE := ⟨by decide, by decide, by decide, (fun l hl => by cases hl), by decide⟩
theorem pevs_tail (k : Nat) : ((pevs (List.replicate (k + 1) runE)).take ((k + 1) * 12)).drop ((Int.toNat (1 : Int)) * 12) = pevs (List.replicate k runE) := by
  rw [List.take_of_length_le (by rw [pevs_len, List.length_replicate]; omega)]
  have e : pevs (List.replicate (k + 1) runE) = (evP runE).cells ++ pevs (List.replicate k runE) := by rw [List.replicate_succ]; simp [pevs]
  rw [e, show (Int.toNat (1 : Int)) * 12 = (evP runE).cells.length from rfl, List.drop_left]
structure BackCalls (call : CallF) : Prop where
  awake : call 7 [] [] = some (.one (.bool true), [])
  light : ∀ e : PE, call 14 [.agg (evP e).cells] [] = some (.one (.bool (lightB e)), [])
  check : ∀ e : PE, I64 e → LightE e → call 15 [.agg (evP e).cells] [] = some (.one (.bool (lineQ e).isSome), [])
  text : ∀ l : List PE, (∀ e ∈ l, I64 e ∧ LightE e) → call 16 [.one (.sl none 12 (pevs l))] [] = some (textC l, [])
  parse : ∀ t : List UInt8, t.length < 900000 → ∃ nm, call 12 [.one (.str t)] [] = some (.tup [.one (.sl nm 12 (pevs (parseQ t).1)), .one (.int .i64 (parseQ t).2.1), .one (.int .i64 (parseQ t).2.2)], [])
  same : ∀ p q : PE, Thin p → call 10 [.agg (evP p).cells, .agg (evP q).cells] [] = some (.one (.bool (decide (p = q))), [])
theorem runs_loop {call : CallF} {n : Nat} (hC : BackCalls call) : ∀ m k : Nat, k ≤ 1001 → 1001 < k + m →
    f4_L39 call n m (pevs (List.replicate k runE)) (runsT k) (k : Int) = some (.one (.bool true), [])
  | 0, k, h1, h2 => by omega
  | m + 1, k, h1, h2 => by
    rw [f4_L39, f4_T39]
    by_cases h : k < 1001
    · have hg : decide (((pevs (List.replicate k runE)).length + ((evP runE).cells).length) * 1000 ≤ rowLim) = true := by
        refine decide_eq_true ?_
        rw [pevs_len, List.length_replicate]
        show (12 * k + 12) * 1000 ≤ 2 ^ 40
        omega
      have ih := runs_loop (n := n) hC m (k + 1) (by omega) (by omega)
      rw [decide_eq_true (by omega), cond_true]
      show guardB (decide (((pevs (List.replicate k runE)).length + ((evP runE).cells).length) * 1000 ≤ rowLim)) _ = _
      rw [hg, guard_true, strlim (by rw [runs_len]; simp; omega), cond_true, wrap_ok (by omega) (by omega), show ((k : Int) + 1) = ((k + 1 : Nat) : Int) by omega]
      have e := replicate_pevs k
      rw [← e] at ih
      exact ih
    · have hk : k = 1001 := by omega
      subst hk
      have hall : ∀ j, ∀ e ∈ List.replicate j runE, I64 e ∧ LightE e := fun j e he => by rw [List.eq_of_mem_replicate he]; exact ⟨runE_64, runE_light⟩
      obtain ⟨nm, hp⟩ := hC.parse (runsT 1001) (by rw [runs_len]; omega)
      have hq : parseQ (runsT 1001) = ([], 1001, 4) := by
        unfold parseQ
        rw [parse_runs 1001 0 [] (by simp) (by simp)]; rfl
      rw [hq] at hp
      have ht := hC.text (List.replicate 1001 runE) (hall _)
      have ht2 := hC.text (List.replicate 1000 runE) (hall _)
      have e1 : textC (List.replicate 1001 runE) = .tup [.one (.str []), .one (.int .i64 4)] := by unfold textC; rw [if_pos (by rw [List.length_replicate]; omega)]
      have e2 : textC (List.replicate 1000 runE) = .tup [.one (.str ([] ++ runsT 1000)), .one (.int .i64 0)] := by
        unfold textC; rw [if_neg (by rw [List.length_replicate]; omega), text_runs]; rfl
      rw [e1] at ht
      rw [e2] at ht2
      rw [decide_eq_false (by omega), cond_false, callK_some ht]
      simp only [castTup_tup, zS_cons, zI_cons, nilK_nil]
      rw [callK_some hp]
      simp only [castTup_tup, zL_cons, zI_cons, nilK_nil]
      rw [pevs_div, List.length_replicate, pevs_tail 1000, callK_some ht2]
      simp only [castTup_tup, zS_cons, zI_cons, nilK_nil]
      rfl
theorem backs_loop {call : CallF} {n : Nat} (hn : 2000 ≤ n) (hC : BackCalls call) (l : List PE) (hl : l.length ≤ 60) (hL : ∀ e ∈ l, LightE e) (many : Bool) : ∀ m i : Nat, i ≤ l.length → l.length < i + m →
    f4_L26 call n m (pevs l) many (pevs l) (i : Int) = some (.one (.bool true), [])
  | 0, i, h1, h2 => by omega
  | m + 1, i, h1, h2 => by
    rw [f4_L26, f4_T26, pevs_div]
    by_cases h : i < l.length
    · have hmem := hL _ (List.getElem_mem h)
      rw [decide_eq_true (by omega), cond_true, evs_guard h, guard_true, Int.toNat_natCast, pevs_at l i h, takeS_api_Event_cells_nil, guard_true, takeS_api_Event_cells_nil,
        callK_some (hC.same _ _ ⟨by have := hmem.tos; omega, by have := hmem.keep; omega⟩), oB_one, decide_eq_true rfl, Bool.not_true, cond_false, wrap_ok (by omega) (by omega), show ((i : Int) + 1) = ((i + 1 : Nat) : Int) by omega]
      exact backs_loop hn hC l hl hL many m (i + 1) (by omega) (by omega)
    · rw [decide_eq_false (by omega), cond_false]
      cases many with
      | false => rfl
      | true =>
        rw [Bool.not_true, cond_false]
        exact runs_loop hC n 0 (by omega) (by omega)
theorem take_all {l : List PE} {i : Nat} (h : i < l.length) : (l.take (i + 1)).all (fun e => (lineQ e).isSome) = ((l.take i).all (fun e => (lineQ e).isSome) && (lineQ l[i]).isSome) := by
  rw [List.take_succ_eq_append_getElem h, List.all_append]; simp
theorem checks_loop {call : CallF} {n : Nat} (hn : 2000 ≤ n) (hC : BackCalls call) (l : List PE) (hl : l.length ≤ 60) (hI : ∀ e ∈ l, I64 e) (many : Bool) : ∀ m i : Nat, i ≤ l.length → l.length < i + m → (∀ e ∈ l.take i, LightE e) →
    f4_L9 call n m (pevs l) many ((l.take i).all fun e => (lineQ e).isSome) (i : Int) = some (.one (.bool true), [])
  | 0, i, h1, h2, h3 => by omega
  | m + 1, i, h1, h2, h3 => by
    rw [f4_L9, f4_T9, pevs_div]
    by_cases h : i < l.length
    · have hmem := List.getElem_mem h
      rw [decide_eq_true (by omega), cond_true, evs_guard h, guard_true, Int.toNat_natCast, pevs_at l i h, takeS_api_Event_cells_nil, callK_some (hC.light _), oB_one]
      cases hb : lightB l[i] with
      | false => rfl
      | true =>
        have hLi := lightB_of hb
        have next : f4_L20 call n (f4_L9 call n m) (pevs l) many ((l.take (i + 1)).all fun e => (lineQ e).isSome) (i : Int) = some (.one (.bool true), []) := by
          rw [f4_L20, f4_T20, wrap_ok (by omega) (by omega), show ((i : Int) + 1) = ((i + 1 : Nat) : Int) by omega]
          refine checks_loop hn hC l hl hI many m (i + 1) (by omega) (by omega) fun e he => ?_
          rw [List.take_succ_eq_append_getElem h] at he
          rcases List.mem_append.1 he with he | he
          · exact h3 e he
          · rw [List.mem_singleton.1 he]; exact hLi
        rw [take_all h] at next
        rw [Bool.not_true, cond_false]
        cases hg : (l.take i).all fun e => (lineQ e).isSome with
        | false =>
          rw [hg, Bool.false_and] at next
          rw [cond_false]; exact next
        | true =>
          rw [hg, Bool.true_and] at next
          rw [cond_true, guard_true, takeS_api_Event_cells_nil, callK_some (hC.check _ (hI _ hmem) hLi), oB_one]
          exact next
    · have hi : i = l.length := by omega
      subst hi
      rw [List.take_length] at h3 ⊢
      have hall : ∀ e ∈ l, I64 e ∧ LightE e := fun e he => ⟨hI e he, h3 e he⟩
      have ht := hC.text l hall
      have e1 : textC l = textR [] (textQ l) := by unfold textC; rw [if_neg (by omega)]
      rw [e1] at ht
      rw [decide_eq_false (by omega), cond_false, callK_some ht, ← textQ_all]
      cases hq : textQ l with
      | none => rfl
      | some t =>
        have hlen := textQ_len l t hall hq
        have hm := Nat.mul_le_mul_right 12101 hl
        obtain ⟨nm, hp⟩ := hC.parse t (by omega)
        have hpq : parseQ t = (l, 0, 0) := by
          unfold parseQ
          rw [parse_text l t 0 [] hq (by simp; omega)]; rfl
        rw [hpq] at hp
        simp only [textR, castTup_tup, zS_cons, zI_cons, nilK_nil, List.nil_append, Option.isSome_some, Bool.not_true, cond_false]
        rw [callK_some hp]
        simp only [castTup_tup, zL_cons, zI_cons, nilK_nil]
        rw [show ((0 : Int) != 0) = false by rfl, cond_false, cond_false, cond_false, pevs_div, show (((l.length : Nat) : Int) != ((l.length : Nat) : Int)) = false by simp, f4_L22, f4_T22, cond_false]
        exact backs_loop hn hC l hl h3 many n 0 (by omega) (by omega)
theorem back_core {call : CallF} {n : Nat} (hn : 2000 ≤ n) (hC : BackCalls call) (l : List PE) (hI : ∀ e ∈ l, I64 e) (many : Bool) : f4_L call n (pevs l) many = some (.one (.bool true), []) := by
  rw [f4_L, f4_T, callK_some hC.awake, oB_one, Bool.not_true, cond_false, pevs_div]
  by_cases h : 60 < l.length
  · rw [decide_eq_true (by omega), cond_true]
  · rw [decide_eq_false (by omega), cond_false]
    exact checks_loop hn hC l (by omega) hI many n 0 (by omega) (by omega) fun e he => by simp at he
theorem awake_true : acall AXE AXF 1001000 7 [] [] = some (.one (.bool true), []) := by kernel_rfl
theorem back_law (l : List PE) (hI : ∀ e ∈ l, I64 e) (many : Bool) : acall AXE AXF 1001001 4 [.one (.sl none 12 (pevs l)), .one (.bool many)] [] = some (.one (.bool true), []) := by
  rw [show (1001001 : Nat) = 1001000 + 1 from rfl, f4_eq]
  exact back_core (by omega) ⟨awake_true, fun e => light_at 1000999 e (by omega), fun e h1 h2 => Check_at 1000999 e (h1.wf h2) (written_le h1 h2) (by omega), fun l hl => Text_at 1000999 l hl (by omega),
    fun t ht => Parse_at 1000999 t ht (by omega), fun p q hp => rSame_at 1000999 p q hp (by omega)⟩ l hI many
end AX
end Go.Proofs.YtfbicbgdfcbhpaaDoor
