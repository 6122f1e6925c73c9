/-
  law31.ScriptReads answers true at all arguments: by the reckoning.
-/
import Derived.Test.YtfbicbgdfcbhpaaDoorScParse
import Derived.Test.YtfbicbgdfcbhpaaDoorSxOk
set_option maxRecDepth 20000
set_option linter.unusedVariables false
set_option linter.unusedSimpArgs false
set_option linter.unusedSectionVars false
namespace Go.Proofs.YtfbicbgdfcbhpaaDoor
open SC
namespace AX
theorem pevs_at : ∀ (l : List PE) (i : Nat) (h : i < l.length), ((pevs l).drop (i * 12)).take 12 = (evP l[i]).cells
  | a :: r, 0, h => by
    show (((evP a).cells ++ pevs r).drop 0).take 12 = _
    rw [List.drop_zero]; rfl
  | a :: r, i + 1, h => by
    have ih := pevs_at r i (by simpa using h)
    have e : pevs (a :: r) = (evP a).cells ++ pevs r := by simp [pevs]
    rw [e, show (i + 1) * 12 = (evP a).cells.length + i * 12 by simp; omega, ← List.drop_drop, List.drop_left]
    simpa using ih
theorem parseS_small : ∀ (ls : List (List UInt8)) (i : Nat) (acc : List PE), Short 900000 ls → (∀ p ∈ acc, Thin p) → ∀ p ∈ (parseS ls i acc).1, Thin p
  | [], i, acc, hs, ha, p, hp => ha p (by simpa [parseS] using hp)
  | line :: r, i, acc, hs, ha, p, hp => by
    rw [parseS] at hp
    split at hp
    · exact parseS_small r _ acc hs.tail ha p hp
    · split at hp
      · simp at hp
      · rename_i e hq
        split at hp
        · simp at hp
        · refine parseS_small r _ _ hs.tail (fun q hq' => ?_) p hp
          rcases List.mem_append.1 hq' with hq' | hq'
          · exact ha q hq'
          · rw [List.mem_singleton] at hq'; subst hq'
            obtain ⟨_, h1⟩ := read_good (b := 900001) (by have := hs.2 line (by simp); omega) hq
            exact ⟨by have := h1.1.1; omega, by have := h1.2.1; omega⟩
theorem sames_loop {call : CallF} {n : Nat} (l : List PE) (hl : l.length ≤ 1000000) (hL : ∀ p ∈ l, Thin p) (hs : ∀ p q : PE, Thin p → call 10 [.agg (evP p).cells, .agg (evP q).cells] [] = some (.one (.bool (decide (p = q))), [])) (at_ er : Int) : ∀ (m i : Nat), i ≤ l.length → l.length < i + m →
    f3_L24 call n m (pevs l) (i : Int) ⟨pevs l, at_, er⟩ = some (.one (.bool true), [])
  | 0, i, h1, h2 => by omega
  | m + 1, i, h1, h2 => by
    have ih := sames_loop (n := n) l hl hL hs at_ er m (i + 1)
    rw [f3_L24, f3_T24, pevs_div]
    by_cases h : i < l.length
    · have hg : (decide (0 ≤ (i : Int)) && decide ((Int.toNat (i : Int)) * 12 + 12 ≤ (pevs l).length)) = true := by
        rw [Bool.and_eq_true, decide_eq_true_eq, decide_eq_true_eq, pevs_len, Int.toNat_natCast]; omega
      rw [decide_eq_true (by omega), cond_true, hg, guard_true, Int.toNat_natCast, pevs_at l i h, takeS_api_Event_cells_nil, guard_true, takeS_api_Event_cells_nil, callK_some (hs _ _ (hL _ (List.getElem_mem h))), oB_one, decide_eq_true rfl, Bool.not_true, cond_false, wrap_ok (by omega) (by omega), show ((i : Int) + 1) = ((i + 1 : Nat) : Int) by omega]
      exact ih (by omega) (by omega)
    · rw [decide_eq_false (by omega), cond_false]
theorem parseS_len : ∀ (ls : List (List UInt8)) (i : Nat) (acc : List PE), (parseS ls i acc).1.length ≤ acc.length + ls.length
  | [], i, acc => by simp [parseS]
  | line :: r, i, acc => by
    rw [parseS]
    split
    · have := parseS_len r (i + 1) acc; simp; omega
    · split
      · simp
      · rename_i e hq
        split
        · simp
        · have := parseS_len r (i + 1) (acc ++ [e]); simp at this ⊢; omega
theorem good_wf {e : PE} {b : Nat} (hb : b ≤ 100000) (hg : SC.Good e) (hs : Small b e) : Wf e := by
  have k : ∀ v : Int, inB v = true → i64B v := fun v h => by have := (inB_iff v).1 h; exact ⟨by omega, by omega⟩
  have h1 := hg.slot; have h2 := hg.code; have h3 := hg.data; have h4 := hs.1.1; have h5 := hs.2.1
  exact ⟨⟨by omega, by omega⟩, k _ hg.n, k _ hg.k, k _ hg.lb, k _ hg.lc, ⟨by omega, by omega⟩, fun v hv => k v (hg.keep v hv), by omega, by omega, by omega⟩
theorem reads_core {call : CallF} {n : Nat} (line text : List UInt8) (hl : line.length ≤ 2000) (ht : text.length ≤ 2000) (hn : 1000100 ≤ n) (haw : call 7 [] [] = some (.one (.bool true), []))
    (hr : ∃ cs, call 8 [.one (.str line)] [] = some (.tup [.agg cs, .one (.int .i64 (readR line).1)], []) ∧ EvCells cs (readR line).2)
    (hrr : ∃ cs, call 9 [.one (.str line)] [] = some (.agg cs, []) ∧ GotCells cs (readR line).1 (readR line).2)
    (hs : ∀ p q : PE, Thin p → call 10 [.agg (evP p).cells, .agg (evP q).cells] [] = some (.one (.bool (decide (p = q))), []))
    (hli : ∀ e : PE, Wf e → (writtenQ e).length ≤ 900000 → call 11 [.agg (evP e).cells] [] = some (.tup [.one (.str ((lineQ e).getD [])), .one (.bool (lineQ e).isSome)], []))
    (hp : ∃ nm, call 12 [.one (.str text)] [] = some (.tup [.one (.sl nm 12 (pevs (parseQ text).1)), .one (.int .i64 (parseQ text).2.1), .one (.int .i64 (parseQ text).2.2)], []))
    (hrp : Events (call 13 [.one (.str text)] []) (parseQ text)) :
    f3_L call n line text = some (.one (.bool true), []) := by
  rw [f3_L, f3_T, callK_some haw, oB_one, Bool.not_true, cond_false, decide_eq_false (by omega), cond_false, decide_eq_false (by omega), f3_L4, f3_T4, cond_false]
  -- the second half
  have half : f3_L17 call n text (pevs (parseQ text).1) (parseQ text).2.1 (parseQ text).2.2 = some (.one (.bool true), []) := by
    obtain ⟨cs, h1, h2⟩ := hrp
    have hz : ∀ z : Int, (z != z) = false := by simp
    have hsh : Short 900000 (spl 10 text) := spl_Short (by omega)
    have hlen := parseS_len (spl 10 text) 0 []
    have hcnt := spl_count (c := 10) text
    rw [f3_L17, f3_T17, callK_some h1, castAgg_agg, h2, nilK_nil, f3_L19, f3_T19]
    simp only [hz, cond_false]
    rw [f3_L20, f3_T20, cond_false]
    have hlen2 : (parseQ text).1.length ≤ 2001 := by unfold parseQ; simp at hlen; omega
    exact sames_loop (parseQ text).1 (by omega) (parseS_small _ _ _ hsh (fun p h => by cases h)) hs _ _ n 0 (by omega) (by omega)
  obtain ⟨nm, hp⟩ := hp
  obtain ⟨cs, h1, h2⟩ := hr
  obtain ⟨cs', h3, h4⟩ := hrr
  rw [callK_some h1]
  simp only [castTup_tup, consK_cons, aggV_agg]
  rw [h2]
  simp only [nilK_nil, zI_cons]
  rw [callK_some h3, castAgg_agg, h4, nilK_nil]
  have hL : Thin (readR line).2 := by
    unfold readR
    cases hq : readQ line with
    | error k => exact ⟨Nat.zero_le _, Nat.zero_le _⟩
    | ok e =>
      obtain ⟨_, h5⟩ := read_good (b := 2001) (by omega) hq
      exact ⟨by have := h5.1.1; simp only []; omega, by have := h5.2.1; simp only []; omega⟩
  simp only []
  rw [callK_some (hs _ _ hL), oB_one, decide_eq_true rfl, Bool.not_true, cond_false, show ((readR line).1 != (readR line).1) = false by simp, f3_L9, f3_T9, cond_false]
  cases hq : readQ line with
  | error k =>
    have hk := readQ_err hq
    have hr1 : readR line = (k, PE0) := by unfold readR; rw [hq]
    rw [hr1]
    simp only []
    rw [show (k == 0) = false by rcases hk with rfl | rfl <;> rfl, cond_false, callK_some hp]
    simp only [castTup_tup, zL_cons, zI_cons, nilK_nil]
    exact half
  | ok e =>
    rw [readR_ok hq]
    simp only []
    obtain ⟨hg, hsm⟩ := read_good (b := 2001) (by omega) hq
    obtain ⟨hro, hk1, hk17⟩ := round hq
    have hlq : lineQ e = some line := by unfold lineQ; rw [hro, if_pos ⟨hk1, hk17, hq⟩]
    rw [show ((0 : Int) == 0) = true by rfl, cond_true, callK_some (hli e (good_wf (by omega) hg hsm) (by rw [hro]; omega)), hlq]
    simp only [castTup_tup, zS_cons, zB_cons, nilK_nil, Option.getD_some, Option.isSome_some, beq_self_eq_true, Bool.not_true, cond_false]
    rw [f3_L15, f3_T15, cond_false, callK_some hp]
    simp only [castTup_tup, zL_cons, zI_cons, nilK_nil]
    exact half
theorem awake_true : acall AXE AXF 1001000 7 [] [] = some (.one (.bool true), []) := by kernel_rfl
theorem reads_law (line text : List UInt8) : acall AXE AXF 1001001 3 [.one (.str line), .one (.str text)] [] = some (.one (.bool true), []) := by
  rw [show (1001001 : Nat) = 1001000 + 1 from rfl, f3_eq]
  have haw := awake_true
  by_cases h : line.length ≤ 2000 ∧ text.length ≤ 2000
  · obtain ⟨hl, ht⟩ := h
    exact reads_core line text hl ht (by omega) haw (read_at 1000999 line (by omega) (by omega)) (rRead_at 1000999 line (by omega) (by omega) (by omega)) (fun p q hp => rSame_at 1000999 p q hp (by omega)) (fun e he hw => Line_at 1000999 e he hw (by omega)) (Parse_at 1000999 text (by omega) (by omega)) (rParse_at 1000999 text (by omega) (by omega) (by omega))
  · generalize acall AXE AXF 1001000 = call at haw
    rw [f3_L, f3_T, callK_some haw, oB_one, Bool.not_true, cond_false]
    have l4 : f3_L4 call (1001000 + 1) line text true = some (.one (.bool true), []) := rfl
    by_cases h1 : line.length ≤ 2000
    · rw [decide_eq_false (by omega), cond_false, decide_eq_true (by omega)]; exact l4
    · rw [decide_eq_true (by omega), cond_true]; exact l4
end AX
end Go.Proofs.YtfbicbgdfcbhpaaDoor
