/-
  Layer 31: a text's events, in the program and in the reference.
-/
import Derived.Test.YtfbicbgdfcbhpaaDoorScLine
set_option maxRecDepth 20000
set_option linter.unusedVariables false
set_option linter.unusedSimpArgs false
set_option linter.unusedSectionVars false
namespace Go.Proofs.YtfbicbgdfcbhpaaDoor
open SC
namespace AX
def pevs (l : List PE) : List Cell := l.flatMap fun p => (evP p).cells
theorem pevs_len (l : List PE) : (pevs l).length = 12 * l.length := by
  induction l with
  | nil => rfl
  | cons a r ih =>
    have : (pevs (a :: r)).length = (evP a).cells.length + (pevs r).length := by simp [pevs]; omega
    rw [this, ih]; simp; omega
theorem pevs_div (l : List PE) : (pevs l).length / 12 = l.length := by rw [pevs_len]; omega
theorem pevs_snoc (l : List PE) (p : PE) : pevs l ++ (evP p).cells = pevs (l ++ [p]) := by simp [pevs]
def skipB (line : List UInt8) : Bool := decide (line = []) || decide (line.head? = some 35)
noncomputable def parseS : List (List UInt8) → Nat → List PE → List PE × Int × Int
  | [], _, acc => (acc, 0, 0)
  | line :: r, i, acc => if skipB line = true then parseS r (i + 1) acc else match readQ line with
    | .error k => ([], ((i + 1 : Nat) : Int), k)
    | .ok e => if acc.length = 1000 then ([], ((i + 1 : Nat) : Int), 4) else parseS r (i + 1) (acc ++ [e])
theorem skip_test (line : List UInt8) (K : Bool → OR) : (bif (line == ([] : List UInt8)) then K true else itemK line (0 : Int) fun u3 => K ((u3.toNat : Int) == 35)) = K (skipB line) := by
  cases line with
  | nil => rfl
  | cons c r =>
    rw [show (c :: r == ([] : List UInt8)) = false by rfl, cond_false]
    refine item_0.trans ?_
    unfold skipB
    congr 1
    rw [show ((c.toNat : Int) == 35) = decide (c = 35) from byte_eq c 35]
    simp
theorem parse_loop {call : CallF} {n : Nat} (hr : ∀ l : List UInt8, l.length ≤ 900000 → ∃ cs, call 8 [.one (.str l)] [] = some (.tup [.agg cs, .one (.int .i64 (readR l).1)], []) ∧ EvCells cs (readR l).2)
    (ls : List (List UInt8)) (hs : Short 900000 ls) : ∀ (m i : Nat) (acc : List PE), i ≤ ls.length → ls.length < i + m → acc.length ≤ 1000 →
    ∃ nm, f12_L2 call n m (pevs acc) (strs ls) (ls.length : Int) (i : Int) = some (.tup [.one (.sl nm 12 (pevs (parseS (ls.drop i) i acc).1)), .one (.int .i64 (parseS (ls.drop i) i acc).2.1), .one (.int .i64 (parseS (ls.drop i) i acc).2.2)], [])
  | 0, i, acc, h1, h2, h3 => by omega
  | m + 1, i, acc, h1, h2, h3 => by
    have hs1 := hs.1
    have ih := parse_loop (n := n) hr ls hs m (i + 1)
    rw [f12_L2, f12_T2]
    by_cases h : i < ls.length
    · have hw : IntKind.wrap .i64 ((i : Int) + 1) = ((i + 1 : Nat) : Int) := by rw [wrap_ok (by omega) (by omega)]; omega
      rw [decide_eq_true (by omega), cond_true, item_str h, castS_one, List.drop_eq_getElem_cons h, parseS]
      have hst := skip_test ls[i] (fun b => f12_L8 call n (f12_L2 call n m) (pevs acc) (i : Int) ls[i] (strs ls) (ls.length : Int) (i : Int) b)
      rw [hst]
      cases hsk : skipB ls[i] with
      | true =>
        rw [if_pos rfl]
        obtain ⟨nm, h4⟩ := ih acc (by omega) (by omega) h3
        refine ⟨nm, ?_⟩
        rw [← h4, f12_L8, f12_T8, cond_true, f12_L11, f12_T11, hw]
      | false =>
        rw [if_neg (by simp), f12_L8, f12_T8, cond_false]
        obtain ⟨cs, h4, h5⟩ := hr ls[i] (hs.2 _ (List.getElem_mem h))
        rw [callK_some h4]
        simp only [castTup_tup, consK_cons, aggV_agg]
        rw [h5]
        simp only [nilK_nil, zI_cons]
        cases hq : readQ ls[i] with
        | error k =>
          have hk := readQ_err hq
          have hr1 : readR ls[i] = (k, PE0) := by unfold readR; rw [hq]
          rw [hr1]
          simp only []
          rw [show (k == 0) = false by rcases hk with rfl | rfl <;> rfl, cond_false]
          refine ⟨some ⟨2, 0, 30⟩, ?_⟩
          simp only [f12_L12, f12_T12, f12_L13, f12_T13, f12_L14, f12_T14, f12_L16, f12_T16, cond_false]
          rw [show (k != 0) = true by rcases hk with rfl | rfl <;> rfl, cond_true, hw]
          rfl
        | ok e =>
          rw [readR_ok hq]
          simp only []
          rw [show ((0 : Int) == 0) = true by rfl, cond_true, pevs_div]
          by_cases hk : acc.length = 1000
          · rw [if_pos hk, show (((acc.length : Nat) : Int) == 1000) = true by rw [hk]; rfl]
            refine ⟨some ⟨2, 0, 30⟩, ?_⟩
            simp only [f12_L12, f12_T12, f12_L13, f12_T13, f12_L14, f12_T14, f12_L16, f12_T16, cond_true]
            rw [show ((4 : Int) != 0) = true by rfl, cond_true, hw]
            rfl
          · rw [if_neg hk, show (((acc.length : Nat) : Int) == 1000) = false by rw [beq_eq_false_iff_ne]; omega]
            obtain ⟨nm, h6⟩ := ih (acc ++ [e]) (by omega) (by omega) (by simp; omega)
            refine ⟨nm, ?_⟩
            rw [← h6]
            simp only [f12_L12, f12_T12, f12_L13, f12_T13, f12_L14, f12_T14, f12_L17, f12_T17, cond_false]
            rw [show ((0 : Int) != 0) = false by rfl, cond_false, guard_ok (by rw [decide_eq_true_eq, pevs_len]; simp only [rowLim, List.length_cons, List.length_nil]; omega), hw]
            exact congrArg (fun z => f12_L2 call n m z (strs ls) (ls.length : Int) ((i + 1 : Nat) : Int)) (pevs_snoc acc e)
    · rw [decide_eq_false (by omega), cond_false, List.drop_of_length_le (by omega), parseS]
      exact ⟨_, rfl⟩
noncomputable def parseQ (text : List UInt8) : List PE × Int × Int := parseS (spl 10 text) 0 []
theorem spl_short {c : UInt8} : ∀ (l p : List UInt8), p ∈ spl c l → p.length ≤ l.length
  | [], p, h => by simp [spl] at h; subst h; simp
  | x :: r, p, h => by
    have ih := spl_short (c := c) r
    rw [spl] at h
    split at h
    · rcases List.mem_cons.1 h with rfl | h
      · simp
      · have := ih p h; simp; omega
    · split at h
      · rename_i h0 t0 e
        rcases List.mem_cons.1 h with rfl | h
        · have := ih h0 (by rw [e]; simp); simp; omega
        · have := ih p (by rw [e]; simp [h]); simp; omega
      · rename_i e; exact absurd e (spl_ne c r)
theorem spl_count {c : UInt8} : ∀ (l : List UInt8), (spl c l).length ≤ l.length + 1
  | [] => by simp [spl]
  | x :: r => by
    have ih := spl_count (c := c) r
    rw [spl]
    split
    · simp; omega
    · split
      · rename_i h0 t0 e; rw [e] at ih; simp at ih ⊢; omega
      · simp
theorem spl_Short {c : UInt8} {l : List UInt8} {b : Nat} (h : l.length < b) : Short b (spl c l) := ⟨by have := spl_count (c := c) l; omega, fun p hp => by have := spl_short l p hp; omega⟩
theorem Parse_at (n : Nat) (text : List UInt8) (hl : text.length < 900000) (hn : 1000500 ≤ n) : ∃ nm, acall AXE AXF (n + 1) 12 [.one (.str text)] [] = some (.tup [.one (.sl nm 12 (pevs (parseQ text).1)), .one (.int .i64 (parseQ text).2.1), .one (.int .i64 (parseQ text).2.2)], []) := by
  obtain ⟨n, rfl⟩ : ∃ k, n = k + 1 := ⟨n - 1, by omega⟩
  have hsh : Short 900000 (spl 10 text) := spl_Short hl
  have hs1 := hsh.1
  have := parse_loop (call := acall AXE AXF (n + 1)) (n := n + 1 + 1) (fun l hl => read_at n l hl (by omega)) (spl 10 text) hsh (n + 1 + 1) 0 [] (by omega) (by omega) (by simp)
  obtain ⟨nm, h⟩ := this
  refine ⟨nm, ?_⟩
  rw [f12_eq, f12_L, f12_T, primK_some (pSplit_at text 10 (by omega)), oL_one, strs_len, Nat.div_one]
  exact h
/-! the reference -/
end AX
end Go.Proofs.YtfbicbgdfcbhpaaDoor
