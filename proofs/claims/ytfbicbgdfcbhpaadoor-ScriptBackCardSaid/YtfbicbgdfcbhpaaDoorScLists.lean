/-
  Layer 31: lists of names, of numbers; slots; pieces between blanks.
-/
import Derived.Test.YtfbicbgdfcbhpaaDoorScNum
set_option maxRecDepth 20000
set_option linter.unusedVariables false
set_option linter.unusedSimpArgs false
set_option linter.unusedSectionVars false
namespace Go.Proofs.YtfbicbgdfcbhpaaDoor
open SC
namespace AX
def strs (ls : List (List UInt8)) : List Cell := ls.map Cell.str
theorem strs_len (ls : List (List UInt8)) : (strs ls).length = ls.length := by simp [strs]
theorem item_str {ls : List (List UInt8)} {i : Nat} (h : i < ls.length) {k : Cell → OR} : itemK (strs ls) (i : Int) k = k (.str ls[i]) := by
  rw [item_at (by rw [strs_len]; exact h)]; simp [strs]
def ints (ns : List Int) : List Cell := ns.map (Cell.int .i64)
theorem ints_len (ls : List Int) : (ints ls).length = ls.length := by simp [ints]
theorem item_int {ls : List Int} {i : Nat} (h : i < ls.length) {k : Cell → OR} : itemK (ints ls) (i : Int) k = k (.int .i64 ls[i]) := by
  rw [item_at (by rw [ints_len]; exact h)]; simp [ints]
def Short (b : Nat) (ls : List (List UInt8)) : Prop := ls.length ≤ b ∧ ∀ l ∈ ls, l.length ≤ b
theorem allNames_loop {call : CallF} {n : Nat} (ls : List (List UInt8)) (hs : Short 1000000 ls) (hc : ∀ l : List UInt8, l.length ≤ 1000000 → call 70 [.one (.str l)] [] = some (.one (.bool (nameB l)), [])) : ∀ (m i : Nat), i ≤ ls.length → ls.length < i + m →
    f46_L2 call n m (strs ls) (ls.length : Int) (i : Int) = some (.one (.bool ((ls.drop i).all nameB)), [])
  | 0, i, h1, h2 => by omega
  | m + 1, i, h1, h2 => by
    have ih := allNames_loop (call := call) (n := n) ls hs hc m (i + 1)
    have hs1 := hs.1
    simp only [f46_T2, f46_L2, f46_T, f46_L]
    by_cases h : i < ls.length
    · rw [decide_eq_true (by omega), cond_true, item_str h, castS_one, callK_some (hc _ (hs.2 _ (List.getElem_mem h))), oB_one, List.drop_eq_getElem_cons h, List.all_cons, wrap_ok (by omega) (by omega), show ((i : Int) + 1) = ((i + 1 : Nat) : Int) by omega, ih (by omega) (by omega)]
      cases nameB ls[i] <;> rfl
    · rw [decide_eq_false (by omega), cond_false, List.drop_of_length_le (by omega)]; rfl
theorem allNames_at (n : Nat) (ls : List (List UInt8)) (hs : Short 1000000 ls) (hn : 1000002 ≤ n) : acall AXE AXF (n + 1) 46 [.one (.sl none 1 (strs ls))] [] = some (.one (.bool (ls.all nameB)), []) := by
  obtain ⟨n, rfl⟩ : ∃ k, n = k + 1 := ⟨n - 1, by omega⟩
  have hs1 := hs.1
  rw [f46_eq, f46_L, f46_T, strs_len, Nat.div_one]
  exact allNames_loop ls hs (fun l hl => isName_at n l (by omega) (by omega)) _ 0 (by omega) (by omega)
/-- the numbers that texts are -/
def numsQ : List (List UInt8) → Option (List Int)
  | [] => some []
  | w :: r => match numQ w, numsQ r with | some v, some l => some (v :: l) | _, _ => none
def keepH (e : S_api_Event) : Heap := [[.int .i64 e.fKind, .int .i64 e.fSlot, .int .i64 e.fN, .int .i64 e.fK, .bool e.fLmtp, .str e.fName, .int .i64 e.fLimit_Bytes, .int .i64 e.fLimit_Count, .sl none 1 e.fTo, .sl none 1 e.fData, .int .i64 e.fCode, .sl (some ⟨1000000, 11, 3⟩) 1 e.fKeep]]
theorem keep_loop {call : CallF} {n : Nat} (ls : List (List UInt8)) (hs : Short 1000000 ls) (hc : ∀ l : List UInt8, l.length ≤ 1000000 → call 69 [.one (.str l)] [] = some (.tup [.one (.int .i64 (atoiV l).1), .one (.bool (numQ l).isSome)], [])) : ∀ (m i : Nat) (e : S_api_Event) (ns : List Int), i ≤ ls.length → ls.length < i + m → e.fKeep = ints ns → ns.length ≤ i →
    ∃ e', f47_L2 call n m (strs ls) (ls.length : Int) (i : Int) e = some (.one (.bool (numsQ (ls.drop i)).isSome), keepH e') ∧ ∀ vs, numsQ (ls.drop i) = some vs → e' = { e with fKeep := ints (ns ++ vs) }
  | 0, i, e, ns, h1, h2, h3, h4 => by omega
  | m + 1, i, e, ns, h1, h2, h3, h4 => by
    have hs1 := hs.1
    by_cases h : i < ls.length
    · have hx := hc _ (hs.2 _ (List.getElem_mem h))
      rw [List.drop_eq_getElem_cons h]
      cases hq : numQ ls[i] with
      | none =>
        refine ⟨e, ?_, ?_⟩
        · simp only [f47_T2, f47_L2, f47_T, f47_L]
          rw [decide_eq_true (by omega), cond_true, item_str h, castS_one, callK_some hx, hq]
          simp only [numsQ, hq]
          rfl
        · intro vs hv; simp [numsQ, hq] at hv
      | some v =>
        have hval := number_val hq
        obtain ⟨e', h5, h6⟩ := keep_loop (call := call) (n := n) ls hs hc m (i + 1) { e with fKeep := ints (ns ++ [v]) } (ns ++ [v]) (by omega) (by omega) rfl (by simp; omega)
        have hsome : (numsQ (ls[i] :: ls.drop (i + 1))).isSome = (numsQ (ls.drop (i + 1))).isSome := by
          simp only [numsQ, hq]; cases numsQ (ls.drop (i + 1)) <;> rfl
        refine ⟨e', ?_, ?_⟩
        · rw [hsome, ← h5, f47_L2, f47_T2, decide_eq_true (by omega), cond_true, item_str h, castS_one, callK_some hx, hq, hval]
          simp only [castTup_tup, zI_cons, zB_cons, nilK_nil, Option.isSome_some, Bool.not_true, cond_false]
          rw [guard_ok (by rw [h3, ints_len]; simp [rowLim]; omega), wrap_ok (by omega) (by omega), h3]
          have : ints ns ++ [Cell.int .i64 v] = ints (ns ++ [v]) := by simp [ints]
          rw [this]
          rfl
        · intro vs hv
          simp only [numsQ, hq] at hv
          cases hr : numsQ (ls.drop (i + 1)) with
          | none => rw [hr] at hv; cases hv
          | some us =>
            rw [hr] at hv; cases hv
            rw [h6 us hr]; simp [ints]
    · refine ⟨e, ?_, ?_⟩
      · simp only [f47_T2, f47_L2, f47_T, f47_L]
        rw [decide_eq_false (by omega), cond_false, List.drop_of_length_le (by omega)]; rfl
      · intro vs hv
        rw [List.drop_of_length_le (by omega), numsQ] at hv
        cases hv
        simp [← h3]
theorem keep_at (n : Nat) (e : S_api_Event) (he : e.fKeep = []) (ls : List (List UInt8)) (hs : Short 1000000 ls) (hn : 1000002 ≤ n) :
    ∃ e', acall AXE AXF (n + 1) 47 [.one (.ptr 0 0), .one (.sl none 1 (strs ls))] (keepH e) = some (.one (.bool (numsQ ls).isSome), keepH e') ∧ ∀ vs, numsQ ls = some vs → e' = { e with fKeep := ints vs } := by
  obtain ⟨n, rfl⟩ : ∃ k, n = k + 1 := ⟨n - 1, by omega⟩
  have hs1 := hs.1
  obtain ⟨e', h1, h2⟩ := keep_loop (call := acall AXE AXF (n + 1)) (n := n + 1 + 1) ls hs (fun l hl => number_at n l (by omega)) (n + 1 + 1) 0 e [] (by omega) (by omega) he (by simp)
  refine ⟨e', ?_, fun vs hv => by simpa using h2 vs hv⟩
  rw [keepH, f47_eq, f47_L, f47_T, strs_len, Nat.div_one]
  exact h1
/-- a slot -/
def slotQ (s : List UInt8) : Option Int := match numQ s with | some v => if 0 ≤ v ∧ v ≤ 7 then some v else none | none => none
def unnameQ (s : List UInt8) (empty : Bool) : Option (List UInt8) := if s = [42] ∧ empty = true then some [] else if nameB s = true then some s else none
end AX
end Go.Proofs.YtfbicbgdfcbhpaaDoor
