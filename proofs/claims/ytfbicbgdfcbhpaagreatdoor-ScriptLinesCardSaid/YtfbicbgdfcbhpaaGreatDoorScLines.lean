/-
  Layer 31: the reference's Line, and law31.ScriptLines.
-/
import Derived.Test.YtfbicbgdfcbhpaaGreatDoorScLine
set_option maxRecDepth 20000
set_option linter.unusedVariables false
set_option linter.unusedSimpArgs false
set_option linter.unusedSectionVars false
namespace Go.Proofs.YtfbicbgdfcbhpaaGreatDoor
open SC
namespace AX
structure LineCalls (call : CallF) : Prop where
  word : ∀ k : Nat, k < 18 → call 24 [.one (.int .i64 (k : Int))] [] = some (.one (.str (wordsL.getD k [])), [])
  dig : ∀ v : Int, inB v = true → call 25 [.one (.int .i64 v)] [] = some (.one (.str (Lib.itoa v)), [])
  inn : ∀ v : Int, call 23 [.one (.int .i64 v)] [] = some (.one (.bool (inB v)), [])
  name : ∀ s : List UInt8, call 27 [.one (.str s)] [] = some (.one (.str (namedQ s)), [])
  data : ∀ b : List UInt8, b.length ≤ 1000000 → call 26 [.one (.sl none 1 (byteCells b))] [] = some (.one (.str (quo b)), [])
  read : ∀ l : List UInt8, l.length ≤ 900000 → ∃ cs, call 28 [.one (.str l)] [] = some (.agg cs, []) ∧ GotCells cs (readR l).1 (readR l).2
  same : ∀ p q : PE, Thin p → call 12 [.agg (evP p).cells, .agg (evP q).cells] [] = some (.one (.bool (decide (p = q))), [])
/-- short texts -/
structure LightE (e : PE) : Prop where
  data : e.data.length ≤ 1000
  name : e.name.length ≤ 100
  tos : e.tos.length ≤ 20
  toEach : ∀ l ∈ e.tos, l.length ≤ 100
  keep : e.keep.length ≤ 60
/-- numbers in their bounds -/
structure Nums (e : PE) : Prop where
  n : inB e.n = true
  k : inB e.k = true
  lb : inB e.lb = true
  lc : inB e.lc = true
  slot : 0 ≤ e.slot ∧ e.slot ≤ 7
  code : 0 ≤ e.code ∧ e.code ≤ 17
theorem inB_small {v : Int} (h1 : 0 ≤ v) (h2 : v ≤ 17) : inB v = true := by rw [inB_iff]; omega
theorem itoa_short {v : Int} (h : inB v = true) : (Lib.itoa v).length ≤ 21 := by
  rw [inB_iff] at h
  unfold Lib.itoa
  split
  · have := dec_len v.natAbs 19 (by omega); simp; omega
  · have := dec_len v.toNat 19 (by omega); omega
theorem quo_len (b : List UInt8) : (quo b).length ≤ 4 * b.length + 2 := by
  have h : ∀ l : List UInt8, (escs l).length ≤ 4 * l.length := by
    intro l
    induction l with
    | nil => simp [escs]
    | cons c l ih => have := esc_len c; simp [escs] at ih ⊢; omega
  have := h b
  unfold quo; simp; omega
theorem named_len (s : List UInt8) : (namedQ s).length ≤ s.length + 1 := by unfold namedQ; split <;> simp
theorem word_len : ∀ k : Fin 18, (wordsL.getD k.val []).length ≤ 10 := by decide +kernel
theorem lim_ok {a b : List UInt8} (h : a.length + b.length ≤ 1000000000) : decide (a.length + b.length ≤ strLim) = true := decide_eq_true (by simp only [strLim]; omega)
/-- what the reference's Line tells -/
noncomputable def lineR (e : PE) : OR := some (.tup [.one (.str ((lineQ e).getD [])), .one (.bool (lineQ e).isSome)], [])
theorem lineR_none {e : PE} (h : lineQ e = none) : lineR e = some (.tup [.one (.str []), .one (.bool false)], []) := by unfold lineR; rw [h]; rfl
theorem L29_eq {call : CallF} {n : Nat} (hC : LineCalls call) (e : PE) (h1 : 1 ≤ e.kind) (h2 : e.kind ≤ 17) (hl : (writtenQ e).length ≤ 900000) : f9_L29 call n (writtenQ e) (evP e) = lineR e := by
  obtain ⟨cs, h3, h4⟩ := hC.read _ hl
  rw [f9_L29, f9_T29, callK_some h3, castAgg_agg, h4, nilK_nil, f9_L41, f9_T41]
  have no : f9_L44 call n (writtenQ e) true = some (.tup [.one (.str []), .one (.bool false)], []) := rfl
  cases hq : readQ (writtenQ e) with
  | error k =>
    have hk := readQ_err hq
    have hlq : lineQ e = none := by unfold lineQ; rw [hq, if_neg (fun h => by cases h.2.2)]
    rw [show (readR (writtenQ e)).1 = k by unfold readR; rw [hq], show (k != 0) = true by rcases hk with rfl | rfl <;> rfl, cond_true, no, lineR_none hlq]
  | ok p =>
    rw [readR_ok hq]
    obtain ⟨hg, hsmall⟩ := read_good (b := 900001) (by omega) hq
    simp only []
    rw [show ((0 : Int) != 0) = false by rfl, cond_false, callK_some (hC.same p e ⟨by have := hsmall.1.1; omega, by have := hsmall.2.1; omega⟩), oB_one]
    by_cases hpe : p = e
    · have hlq : lineQ e = some (writtenQ e) := by unfold lineQ; rw [if_pos ⟨h1, h2, by rw [hq, hpe]⟩]
      unfold lineR
      rw [decide_eq_true hpe, hlq]; rfl
    · have hlq : lineQ e = none := by unfold lineQ; rw [hq, if_neg (fun h => hpe (Except.ok.inj h.2.2))]
      rw [decide_eq_false hpe, Bool.not_false, no, lineR_none hlq]
theorem line_2 {call : CallF} {n : Nat} (hC : LineCalls call) (e : PE) (hL : LightE e) (hN : Nums e) (hk : e.kind = 2) : f9_L1 call n false (evP e) = f9_L29 call n (writtenQ e) (evP e) := by
  have hw : call 24 [.one (.int .i64 (2 : Int))] [] = some (.one (.str (wordsL.getD 2 [])), []) := hC.word 2 (by decide)
  have hwl : (wordsL.getD 2 []).length ≤ 10 := word_len ⟨2, by decide⟩
  have l0 := itoa_short (inB_small hN.slot.1 (by have := hN.slot.2; omega))
  have l1 := quo_len e.data
  have ln := hL.name
  have ld := hL.data
  have hwr : writtenQ e = Lib.join [wordsL.getD 2 [], Lib.itoa e.slot, quo e.data] [32] := by
    unfold writtenQ bodyW; rw [hk]; rfl
  rw [f9_L1, f9_T1, cond_false, show (evP e).fKind = 2 from hk, callK_some hw, oS_one]
  simp only [show ((2 : Int) == 1) = false by rfl, show ((2 : Int) == 2) = true by rfl, cond_true, cond_false]
  rw [lim_ok (by (try simp only [List.length_append, List.length_cons, List.length_nil]); omega)]
  rw [cond_true]
  rw [show (evP e).fSlot = e.slot by rfl]
  rw [callK_some (hC.dig e.slot (inB_small hN.slot.1 (by have := hN.slot.2; omega)))]
  rw [oS_one]
  rw [lim_ok (by (try simp only [List.length_append, List.length_cons, List.length_nil]); omega)]
  rw [cond_true]
  rw [lim_ok (by (try simp only [List.length_append, List.length_cons, List.length_nil]); omega)]
  rw [cond_true]
  rw [show (evP e).fData = byteCells e.data by rfl]
  rw [callK_some (hC.data e.data (by have := hL.data; omega))]
  rw [oS_one]
  rw [lim_ok (by (try simp only [List.length_append, List.length_cons, List.length_nil]); omega)]
  rw [cond_true]
  rw [hwr]
  congr 1
  simp only [join_two, Lib.join_one, List.append_assoc]
theorem line_3 {call : CallF} {n : Nat} (hC : LineCalls call) (e : PE) (hL : LightE e) (hN : Nums e) (hk : e.kind = 3) : f9_L1 call n false (evP e) = f9_L29 call n (writtenQ e) (evP e) := by
  have hw : call 24 [.one (.int .i64 (3 : Int))] [] = some (.one (.str (wordsL.getD 3 [])), []) := hC.word 3 (by decide)
  have hwl : (wordsL.getD 3 []).length ≤ 10 := word_len ⟨3, by decide⟩
  have l0 := itoa_short (inB_small hN.slot.1 (by have := hN.slot.2; omega))
  have ln := hL.name
  have ld := hL.data
  have hwr : writtenQ e = Lib.join [wordsL.getD 3 [], Lib.itoa e.slot] [32] := by
    unfold writtenQ bodyW; rw [hk]; rfl
  rw [f9_L1, f9_T1, cond_false, show (evP e).fKind = 3 from hk, callK_some hw, oS_one]
  simp only [show ((3 : Int) == 1) = false by rfl, show ((3 : Int) == 2) = false by rfl, show ((3 : Int) == 3) = true by rfl, cond_true, cond_false]
  rw [lim_ok (by (try simp only [List.length_append, List.length_cons, List.length_nil]); omega)]
  rw [cond_true]
  rw [show (evP e).fSlot = e.slot by rfl]
  rw [callK_some (hC.dig e.slot (inB_small hN.slot.1 (by have := hN.slot.2; omega)))]
  rw [oS_one]
  rw [lim_ok (by (try simp only [List.length_append, List.length_cons, List.length_nil]); omega)]
  rw [cond_true]
  rw [hwr]
  congr 1
  simp only [join_two, Lib.join_one, List.append_assoc]
theorem line_4 {call : CallF} {n : Nat} (hC : LineCalls call) (e : PE) (hL : LightE e) (hN : Nums e) (hk : e.kind = 4) : f9_L1 call n false (evP e) = f9_L29 call n (writtenQ e) (evP e) := by
  have hw : call 24 [.one (.int .i64 (4 : Int))] [] = some (.one (.str (wordsL.getD 4 [])), []) := hC.word 4 (by decide)
  have hwl : (wordsL.getD 4 []).length ≤ 10 := word_len ⟨4, by decide⟩
  have l0 := itoa_short hN.n
  have ln := hL.name
  have ld := hL.data
  have hwr : writtenQ e = Lib.join [wordsL.getD 4 [], Lib.itoa e.n] [32] := by
    unfold writtenQ bodyW; rw [hk]; rfl
  rw [f9_L1, f9_T1, cond_false, show (evP e).fKind = 4 from hk, callK_some hw, oS_one]
  simp only [show ((4 : Int) == 1) = false by rfl, show ((4 : Int) == 2) = false by rfl, show ((4 : Int) == 3) = false by rfl, show ((4 : Int) == 4) = true by rfl, cond_true, cond_false]
  rw [lim_ok (by (try simp only [List.length_append, List.length_cons, List.length_nil]); omega)]
  rw [cond_true]
  rw [show (evP e).fN = e.n by rfl]
  rw [callK_some (hC.dig e.n hN.n)]
  rw [oS_one]
  rw [lim_ok (by (try simp only [List.length_append, List.length_cons, List.length_nil]); omega)]
  rw [cond_true]
  rw [hwr]
  congr 1
  simp only [join_two, Lib.join_one, List.append_assoc]
theorem line_5 {call : CallF} {n : Nat} (hC : LineCalls call) (e : PE) (hL : LightE e) (hN : Nums e) (hk : e.kind = 5) : f9_L1 call n false (evP e) = f9_L29 call n (writtenQ e) (evP e) := by
  have hw : call 24 [.one (.int .i64 (5 : Int))] [] = some (.one (.str (wordsL.getD 5 [])), []) := hC.word 5 (by decide)
  have hwl : (wordsL.getD 5 []).length ≤ 10 := word_len ⟨5, by decide⟩
  have hwr : writtenQ e = Lib.join [wordsL.getD 5 []] [32] := by
    unfold writtenQ bodyW; rw [hk]; rfl
  rw [f9_L1, f9_T1, cond_false, show (evP e).fKind = 5 from hk, callK_some hw, oS_one]
  simp only [show ((5 : Int) == 1) = false by rfl, show ((5 : Int) == 2) = false by rfl, show ((5 : Int) == 3) = false by rfl, show ((5 : Int) == 4) = false by rfl, show ((5 : Int) == 15) = false by rfl, show ((5 : Int) == 6) = false by rfl, show ((5 : Int) == 7) = false by rfl, show ((5 : Int) == 8) = false by rfl, show ((5 : Int) == 9) = false by rfl, show ((5 : Int) == 12) = false by rfl, show ((5 : Int) == 10) = false by rfl, show ((5 : Int) == 11) = false by rfl, show ((5 : Int) == 14) = false by rfl, show ((5 : Int) == 16) = false by rfl, cond_true, cond_false]
  rw [hwr]
  rw [Lib.join_one]
theorem line_6 {call : CallF} {n : Nat} (hC : LineCalls call) (e : PE) (hL : LightE e) (hN : Nums e) (hk : e.kind = 6) : f9_L1 call n false (evP e) = f9_L29 call n (writtenQ e) (evP e) := by
  have hw : call 24 [.one (.int .i64 (6 : Int))] [] = some (.one (.str (wordsL.getD 6 [])), []) := hC.word 6 (by decide)
  have hwl : (wordsL.getD 6 []).length ≤ 10 := word_len ⟨6, by decide⟩
  have l0 := named_len e.name
  have l1 := itoa_short hN.lb
  have l2 := itoa_short hN.lc
  have ln := hL.name
  have ld := hL.data
  have hwr : writtenQ e = Lib.join [wordsL.getD 6 [], namedQ e.name, Lib.itoa e.lb, Lib.itoa e.lc] [32] := by
    unfold writtenQ bodyW; rw [hk]; rfl
  rw [f9_L1, f9_T1, cond_false, show (evP e).fKind = 6 from hk, callK_some hw, oS_one]
  simp only [show ((6 : Int) == 1) = false by rfl, show ((6 : Int) == 2) = false by rfl, show ((6 : Int) == 3) = false by rfl, show ((6 : Int) == 4) = false by rfl, show ((6 : Int) == 15) = false by rfl, show ((6 : Int) == 6) = true by rfl, cond_true, cond_false]
  rw [lim_ok (by (try simp only [List.length_append, List.length_cons, List.length_nil]); omega)]
  rw [cond_true]
  rw [show (evP e).fName = e.name by rfl]
  rw [callK_some (hC.name e.name)]
  rw [oS_one]
  rw [lim_ok (by (try simp only [List.length_append, List.length_cons, List.length_nil]); omega)]
  rw [cond_true]
  rw [lim_ok (by (try simp only [List.length_append, List.length_cons, List.length_nil]); omega)]
  rw [cond_true]
  rw [show (evP e).fLimit_Bytes = e.lb by rfl]
  rw [callK_some (hC.dig e.lb hN.lb)]
  rw [oS_one]
  rw [lim_ok (by (try simp only [List.length_append, List.length_cons, List.length_nil]); omega)]
  rw [cond_true]
  rw [lim_ok (by (try simp only [List.length_append, List.length_cons, List.length_nil]); omega)]
  rw [cond_true]
  rw [show (evP e).fLimit_Count = e.lc by rfl]
  rw [callK_some (hC.dig e.lc hN.lc)]
  rw [oS_one]
  rw [lim_ok (by (try simp only [List.length_append, List.length_cons, List.length_nil]); omega)]
  rw [cond_true]
  rw [hwr]
  congr 1
  simp only [join_two, Lib.join_one, List.append_assoc]
theorem line_7 {call : CallF} {n : Nat} (hC : LineCalls call) (e : PE) (hL : LightE e) (hN : Nums e) (hk : e.kind = 7) : f9_L1 call n false (evP e) = f9_L29 call n (writtenQ e) (evP e) := by
  have hw : call 24 [.one (.int .i64 (7 : Int))] [] = some (.one (.str (wordsL.getD 7 [])), []) := hC.word 7 (by decide)
  have hwl : (wordsL.getD 7 []).length ≤ 10 := word_len ⟨7, by decide⟩
  have l0 := named_len e.name
  have l1 := itoa_short hN.lb
  have l2 := itoa_short hN.lc
  have ln := hL.name
  have ld := hL.data
  have hwr : writtenQ e = Lib.join [wordsL.getD 7 [], namedQ e.name, Lib.itoa e.lb, Lib.itoa e.lc] [32] := by
    unfold writtenQ bodyW; rw [hk]; rfl
  rw [f9_L1, f9_T1, cond_false, show (evP e).fKind = 7 from hk, callK_some hw, oS_one]
  simp only [show ((7 : Int) == 1) = false by rfl, show ((7 : Int) == 2) = false by rfl, show ((7 : Int) == 3) = false by rfl, show ((7 : Int) == 4) = false by rfl, show ((7 : Int) == 15) = false by rfl, show ((7 : Int) == 6) = false by rfl, show ((7 : Int) == 7) = true by rfl, cond_true, cond_false]
  rw [lim_ok (by (try simp only [List.length_append, List.length_cons, List.length_nil]); omega)]
  rw [cond_true]
  rw [show (evP e).fName = e.name by rfl]
  rw [callK_some (hC.name e.name)]
  rw [oS_one]
  rw [lim_ok (by (try simp only [List.length_append, List.length_cons, List.length_nil]); omega)]
  rw [cond_true]
  rw [lim_ok (by (try simp only [List.length_append, List.length_cons, List.length_nil]); omega)]
  rw [cond_true]
  rw [show (evP e).fLimit_Bytes = e.lb by rfl]
  rw [callK_some (hC.dig e.lb hN.lb)]
  rw [oS_one]
  rw [lim_ok (by (try simp only [List.length_append, List.length_cons, List.length_nil]); omega)]
  rw [cond_true]
  rw [lim_ok (by (try simp only [List.length_append, List.length_cons, List.length_nil]); omega)]
  rw [cond_true]
  rw [show (evP e).fLimit_Count = e.lc by rfl]
  rw [callK_some (hC.dig e.lc hN.lc)]
  rw [oS_one]
  rw [lim_ok (by (try simp only [List.length_append, List.length_cons, List.length_nil]); omega)]
  rw [cond_true]
  rw [hwr]
  congr 1
  simp only [join_two, Lib.join_one, List.append_assoc]
theorem line_9 {call : CallF} {n : Nat} (hC : LineCalls call) (e : PE) (hL : LightE e) (hN : Nums e) (hk : e.kind = 9) : f9_L1 call n false (evP e) = f9_L29 call n (writtenQ e) (evP e) := by
  have hw : call 24 [.one (.int .i64 (9 : Int))] [] = some (.one (.str (wordsL.getD 9 [])), []) := hC.word 9 (by decide)
  have hwl : (wordsL.getD 9 []).length ≤ 10 := word_len ⟨9, by decide⟩
  have l0 := named_len e.name
  have ln := hL.name
  have ld := hL.data
  have hwr : writtenQ e = Lib.join [wordsL.getD 9 [], namedQ e.name] [32] := by
    unfold writtenQ bodyW; rw [hk]; rfl
  rw [f9_L1, f9_T1, cond_false, show (evP e).fKind = 9 from hk, callK_some hw, oS_one]
  simp only [show ((9 : Int) == 1) = false by rfl, show ((9 : Int) == 2) = false by rfl, show ((9 : Int) == 3) = false by rfl, show ((9 : Int) == 4) = false by rfl, show ((9 : Int) == 15) = false by rfl, show ((9 : Int) == 6) = false by rfl, show ((9 : Int) == 7) = false by rfl, show ((9 : Int) == 8) = false by rfl, show ((9 : Int) == 9) = true by rfl, cond_true, cond_false]
  rw [lim_ok (by (try simp only [List.length_append, List.length_cons, List.length_nil]); omega)]
  rw [cond_true]
  rw [show (evP e).fName = e.name by rfl]
  rw [callK_some (hC.name e.name)]
  rw [oS_one]
  rw [lim_ok (by (try simp only [List.length_append, List.length_cons, List.length_nil]); omega)]
  rw [cond_true]
  rw [hwr]
  congr 1
  simp only [join_two, Lib.join_one, List.append_assoc]
theorem line_10 {call : CallF} {n : Nat} (hC : LineCalls call) (e : PE) (hL : LightE e) (hN : Nums e) (hk : e.kind = 10) : f9_L1 call n false (evP e) = f9_L29 call n (writtenQ e) (evP e) := by
  have hw : call 24 [.one (.int .i64 (10 : Int))] [] = some (.one (.str (wordsL.getD 10 [])), []) := hC.word 10 (by decide)
  have hwl : (wordsL.getD 10 []).length ≤ 10 := word_len ⟨10, by decide⟩
  have l0 := named_len e.name
  have l1 := itoa_short hN.n
  have ln := hL.name
  have ld := hL.data
  have hwr : writtenQ e = Lib.join [wordsL.getD 10 [], namedQ e.name, Lib.itoa e.n] [32] := by
    unfold writtenQ bodyW; rw [hk]; rfl
  rw [f9_L1, f9_T1, cond_false, show (evP e).fKind = 10 from hk, callK_some hw, oS_one]
  simp only [show ((10 : Int) == 1) = false by rfl, show ((10 : Int) == 2) = false by rfl, show ((10 : Int) == 3) = false by rfl, show ((10 : Int) == 4) = false by rfl, show ((10 : Int) == 15) = false by rfl, show ((10 : Int) == 6) = false by rfl, show ((10 : Int) == 7) = false by rfl, show ((10 : Int) == 8) = false by rfl, show ((10 : Int) == 9) = false by rfl, show ((10 : Int) == 12) = false by rfl, show ((10 : Int) == 10) = true by rfl, cond_true, cond_false]
  rw [lim_ok (by (try simp only [List.length_append, List.length_cons, List.length_nil]); omega)]
  rw [cond_true]
  rw [show (evP e).fName = e.name by rfl]
  rw [callK_some (hC.name e.name)]
  rw [oS_one]
  rw [lim_ok (by (try simp only [List.length_append, List.length_cons, List.length_nil]); omega)]
  rw [cond_true]
  rw [lim_ok (by (try simp only [List.length_append, List.length_cons, List.length_nil]); omega)]
  rw [cond_true]
  rw [show (evP e).fN = e.n by rfl]
  rw [callK_some (hC.dig e.n hN.n)]
  rw [oS_one]
  rw [lim_ok (by (try simp only [List.length_append, List.length_cons, List.length_nil]); omega)]
  rw [cond_true]
  rw [hwr]
  congr 1
  simp only [join_two, Lib.join_one, List.append_assoc]
theorem line_11 {call : CallF} {n : Nat} (hC : LineCalls call) (e : PE) (hL : LightE e) (hN : Nums e) (hk : e.kind = 11) : f9_L1 call n false (evP e) = f9_L29 call n (writtenQ e) (evP e) := by
  have hw : call 24 [.one (.int .i64 (11 : Int))] [] = some (.one (.str (wordsL.getD 11 [])), []) := hC.word 11 (by decide)
  have hwl : (wordsL.getD 11 []).length ≤ 10 := word_len ⟨11, by decide⟩
  have l0 := named_len e.name
  have l1 := itoa_short hN.n
  have l2 := itoa_short hN.k
  have ln := hL.name
  have ld := hL.data
  have hwr : writtenQ e = Lib.join [wordsL.getD 11 [], namedQ e.name, Lib.itoa e.n, Lib.itoa e.k] [32] := by
    unfold writtenQ bodyW; rw [hk]; rfl
  rw [f9_L1, f9_T1, cond_false, show (evP e).fKind = 11 from hk, callK_some hw, oS_one]
  simp only [show ((11 : Int) == 1) = false by rfl, show ((11 : Int) == 2) = false by rfl, show ((11 : Int) == 3) = false by rfl, show ((11 : Int) == 4) = false by rfl, show ((11 : Int) == 15) = false by rfl, show ((11 : Int) == 6) = false by rfl, show ((11 : Int) == 7) = false by rfl, show ((11 : Int) == 8) = false by rfl, show ((11 : Int) == 9) = false by rfl, show ((11 : Int) == 12) = false by rfl, show ((11 : Int) == 10) = false by rfl, show ((11 : Int) == 11) = true by rfl, cond_true, cond_false]
  rw [lim_ok (by (try simp only [List.length_append, List.length_cons, List.length_nil]); omega)]
  rw [cond_true]
  rw [show (evP e).fName = e.name by rfl]
  rw [callK_some (hC.name e.name)]
  rw [oS_one]
  rw [lim_ok (by (try simp only [List.length_append, List.length_cons, List.length_nil]); omega)]
  rw [cond_true]
  rw [lim_ok (by (try simp only [List.length_append, List.length_cons, List.length_nil]); omega)]
  rw [cond_true]
  rw [show (evP e).fN = e.n by rfl]
  rw [callK_some (hC.dig e.n hN.n)]
  rw [oS_one]
  rw [lim_ok (by (try simp only [List.length_append, List.length_cons, List.length_nil]); omega)]
  rw [cond_true]
  rw [lim_ok (by (try simp only [List.length_append, List.length_cons, List.length_nil]); omega)]
  rw [cond_true]
  rw [show (evP e).fK = e.k by rfl]
  rw [callK_some (hC.dig e.k hN.k)]
  rw [oS_one]
  rw [lim_ok (by (try simp only [List.length_append, List.length_cons, List.length_nil]); omega)]
  rw [cond_true]
  rw [hwr]
  congr 1
  simp only [join_two, Lib.join_one, List.append_assoc]
theorem line_12 {call : CallF} {n : Nat} (hC : LineCalls call) (e : PE) (hL : LightE e) (hN : Nums e) (hk : e.kind = 12) : f9_L1 call n false (evP e) = f9_L29 call n (writtenQ e) (evP e) := by
  have hw : call 24 [.one (.int .i64 (12 : Int))] [] = some (.one (.str (wordsL.getD 12 [])), []) := hC.word 12 (by decide)
  have hwl : (wordsL.getD 12 []).length ≤ 10 := word_len ⟨12, by decide⟩
  have l0 := named_len e.name
  have ln := hL.name
  have ld := hL.data
  have hwr : writtenQ e = Lib.join [wordsL.getD 12 [], namedQ e.name] [32] := by
    unfold writtenQ bodyW; rw [hk]; rfl
  rw [f9_L1, f9_T1, cond_false, show (evP e).fKind = 12 from hk, callK_some hw, oS_one]
  simp only [show ((12 : Int) == 1) = false by rfl, show ((12 : Int) == 2) = false by rfl, show ((12 : Int) == 3) = false by rfl, show ((12 : Int) == 4) = false by rfl, show ((12 : Int) == 15) = false by rfl, show ((12 : Int) == 6) = false by rfl, show ((12 : Int) == 7) = false by rfl, show ((12 : Int) == 8) = false by rfl, show ((12 : Int) == 9) = false by rfl, show ((12 : Int) == 12) = true by rfl, cond_true, cond_false]
  rw [lim_ok (by (try simp only [List.length_append, List.length_cons, List.length_nil]); omega)]
  rw [cond_true]
  rw [show (evP e).fName = e.name by rfl]
  rw [callK_some (hC.name e.name)]
  rw [oS_one]
  rw [lim_ok (by (try simp only [List.length_append, List.length_cons, List.length_nil]); omega)]
  rw [cond_true]
  rw [hwr]
  congr 1
  simp only [join_two, Lib.join_one, List.append_assoc]
theorem line_13 {call : CallF} {n : Nat} (hC : LineCalls call) (e : PE) (hL : LightE e) (hN : Nums e) (hk : e.kind = 13) : f9_L1 call n false (evP e) = f9_L29 call n (writtenQ e) (evP e) := by
  have hw : call 24 [.one (.int .i64 (13 : Int))] [] = some (.one (.str (wordsL.getD 13 [])), []) := hC.word 13 (by decide)
  have hwl : (wordsL.getD 13 []).length ≤ 10 := word_len ⟨13, by decide⟩
  have hwr : writtenQ e = Lib.join [wordsL.getD 13 []] [32] := by
    unfold writtenQ bodyW; rw [hk]; rfl
  rw [f9_L1, f9_T1, cond_false, show (evP e).fKind = 13 from hk, callK_some hw, oS_one]
  simp only [show ((13 : Int) == 1) = false by rfl, show ((13 : Int) == 2) = false by rfl, show ((13 : Int) == 3) = false by rfl, show ((13 : Int) == 4) = false by rfl, show ((13 : Int) == 15) = false by rfl, show ((13 : Int) == 6) = false by rfl, show ((13 : Int) == 7) = false by rfl, show ((13 : Int) == 8) = false by rfl, show ((13 : Int) == 9) = false by rfl, show ((13 : Int) == 12) = false by rfl, show ((13 : Int) == 10) = false by rfl, show ((13 : Int) == 11) = false by rfl, show ((13 : Int) == 14) = false by rfl, show ((13 : Int) == 16) = false by rfl, cond_true, cond_false]
  rw [hwr]
  rw [Lib.join_one]
theorem line_14 {call : CallF} {n : Nat} (hC : LineCalls call) (e : PE) (hL : LightE e) (hN : Nums e) (hk : e.kind = 14) : f9_L1 call n false (evP e) = f9_L29 call n (writtenQ e) (evP e) := by
  have hw : call 24 [.one (.int .i64 (14 : Int))] [] = some (.one (.str (wordsL.getD 14 [])), []) := hC.word 14 (by decide)
  have hwl : (wordsL.getD 14 []).length ≤ 10 := word_len ⟨14, by decide⟩
  have l0 := itoa_short hN.n
  have l1 := itoa_short (inB_small hN.code.1 hN.code.2)
  have ln := hL.name
  have ld := hL.data
  have hwr : writtenQ e = Lib.join [wordsL.getD 14 [], Lib.itoa e.n, Lib.itoa e.code] [32] := by
    unfold writtenQ bodyW; rw [hk]; rfl
  rw [f9_L1, f9_T1, cond_false, show (evP e).fKind = 14 from hk, callK_some hw, oS_one]
  simp only [show ((14 : Int) == 1) = false by rfl, show ((14 : Int) == 2) = false by rfl, show ((14 : Int) == 3) = false by rfl, show ((14 : Int) == 4) = false by rfl, show ((14 : Int) == 15) = false by rfl, show ((14 : Int) == 6) = false by rfl, show ((14 : Int) == 7) = false by rfl, show ((14 : Int) == 8) = false by rfl, show ((14 : Int) == 9) = false by rfl, show ((14 : Int) == 12) = false by rfl, show ((14 : Int) == 10) = false by rfl, show ((14 : Int) == 11) = false by rfl, show ((14 : Int) == 14) = true by rfl, cond_true, cond_false]
  rw [lim_ok (by (try simp only [List.length_append, List.length_cons, List.length_nil]); omega)]
  rw [cond_true]
  rw [show (evP e).fN = e.n by rfl]
  rw [callK_some (hC.dig e.n hN.n)]
  rw [oS_one]
  rw [lim_ok (by (try simp only [List.length_append, List.length_cons, List.length_nil]); omega)]
  rw [cond_true]
  rw [lim_ok (by (try simp only [List.length_append, List.length_cons, List.length_nil]); omega)]
  rw [cond_true]
  rw [show (evP e).fCode = e.code by rfl]
  rw [callK_some (hC.dig e.code (inB_small hN.code.1 hN.code.2))]
  rw [oS_one]
  rw [lim_ok (by (try simp only [List.length_append, List.length_cons, List.length_nil]); omega)]
  rw [cond_true]
  rw [hwr]
  congr 1
  simp only [join_two, Lib.join_one, List.append_assoc]
theorem line_15 {call : CallF} {n : Nat} (hC : LineCalls call) (e : PE) (hL : LightE e) (hN : Nums e) (hk : e.kind = 15) : f9_L1 call n false (evP e) = f9_L29 call n (writtenQ e) (evP e) := by
  have hw : call 24 [.one (.int .i64 (15 : Int))] [] = some (.one (.str (wordsL.getD 15 [])), []) := hC.word 15 (by decide)
  have hwl : (wordsL.getD 15 []).length ≤ 10 := word_len ⟨15, by decide⟩
  have l0 := itoa_short hN.n
  have ln := hL.name
  have ld := hL.data
  have hwr : writtenQ e = Lib.join [wordsL.getD 15 [], Lib.itoa e.n] [32] := by
    unfold writtenQ bodyW; rw [hk]; rfl
  rw [f9_L1, f9_T1, cond_false, show (evP e).fKind = 15 from hk, callK_some hw, oS_one]
  simp only [show ((15 : Int) == 1) = false by rfl, show ((15 : Int) == 2) = false by rfl, show ((15 : Int) == 3) = false by rfl, show ((15 : Int) == 4) = false by rfl, show ((15 : Int) == 15) = true by rfl, cond_true, cond_false]
  rw [lim_ok (by (try simp only [List.length_append, List.length_cons, List.length_nil]); omega)]
  rw [cond_true]
  rw [show (evP e).fN = e.n by rfl]
  rw [callK_some (hC.dig e.n hN.n)]
  rw [oS_one]
  rw [lim_ok (by (try simp only [List.length_append, List.length_cons, List.length_nil]); omega)]
  rw [cond_true]
  rw [hwr]
  congr 1
  simp only [join_two, Lib.join_one, List.append_assoc]
theorem line_17 {call : CallF} {n : Nat} (hC : LineCalls call) (e : PE) (hL : LightE e) (hN : Nums e) (hk : e.kind = 17) : f9_L1 call n false (evP e) = f9_L29 call n (writtenQ e) (evP e) := by
  have hw : call 24 [.one (.int .i64 (17 : Int))] [] = some (.one (.str (wordsL.getD 17 [])), []) := hC.word 17 (by decide)
  have hwl : (wordsL.getD 17 []).length ≤ 10 := word_len ⟨17, by decide⟩
  have hwr : writtenQ e = Lib.join [wordsL.getD 17 []] [32] := by
    unfold writtenQ bodyW; rw [hk]; rfl
  rw [f9_L1, f9_T1, cond_false, show (evP e).fKind = 17 from hk, callK_some hw, oS_one]
  simp only [show ((17 : Int) == 1) = false by rfl, show ((17 : Int) == 2) = false by rfl, show ((17 : Int) == 3) = false by rfl, show ((17 : Int) == 4) = false by rfl, show ((17 : Int) == 15) = false by rfl, show ((17 : Int) == 6) = false by rfl, show ((17 : Int) == 7) = false by rfl, show ((17 : Int) == 8) = false by rfl, show ((17 : Int) == 9) = false by rfl, show ((17 : Int) == 12) = false by rfl, show ((17 : Int) == 10) = false by rfl, show ((17 : Int) == 11) = false by rfl, show ((17 : Int) == 14) = false by rfl, show ((17 : Int) == 16) = false by rfl, cond_true, cond_false]
  rw [hwr]
  rw [Lib.join_one]
theorem line_1 {call : CallF} {n : Nat} (hC : LineCalls call) (e : PE) (hL : LightE e) (hN : Nums e) (hk : e.kind = 1) : f9_L1 call n false (evP e) = f9_L29 call n (writtenQ e) (evP e) := by
  have hw : call 24 [.one (.int .i64 (1 : Int))] [] = some (.one (.str (wordsL.getD 1 [])), []) := hC.word 1 (by decide)
  have hwl : (wordsL.getD 1 []).length ≤ 10 := word_len ⟨1, by decide⟩
  have hs := inB_small hN.slot.1 (by have := hN.slot.2; omega)
  have l0 := itoa_short hs
  have hwr : writtenQ e = Lib.join [wordsL.getD 1 [], Lib.itoa e.slot, if e.lmtp then lmtpL else smtpL] [32] := by
    unfold writtenQ bodyW; rw [hk]; rfl
  rw [f9_L1, f9_T1, cond_false, show (evP e).fKind = 1 from hk, callK_some hw, oS_one]
  simp only [show ((1 : Int) == 1) = true by rfl, cond_true]
  rw [lim_ok (by (try simp only [List.length_append, List.length_cons, List.length_nil]); omega), cond_true, show (evP e).fSlot = e.slot by rfl, callK_some (hC.dig _ hs), oS_one, lim_ok (by (try simp only [List.length_append, List.length_cons, List.length_nil]); omega), cond_true, lim_ok (by (try simp only [List.length_append, List.length_cons, List.length_nil]); omega), cond_true, show (evP e).fLmtp = e.lmtp by rfl]
  rw [hwr]
  cases e.lmtp with
  | false =>
    rw [cond_false]
    congr 1 <;> first | done | (simp only [join_two, Lib.join_one, List.append_assoc]; rfl)
  | true =>
    rw [cond_true, callK_some hw, oS_one, lim_ok (by (try simp only [List.length_append, List.length_cons, List.length_nil]); omega), cond_true, callK_some (hC.dig _ hs), oS_one, lim_ok (by (try simp only [List.length_append, List.length_cons, List.length_nil]); omega), cond_true, lim_ok (by (try simp only [List.length_append, List.length_cons, List.length_nil]); omega), cond_true]
    congr 1 <;> first | done | (simp only [join_two, Lib.join_one, List.append_assoc]; rfl)
theorem tos_loop {call : CallF} {n : Nat} (e : PE) (hL : LightE e) : ∀ (m i : Nat) (s : List UInt8), i ≤ e.tos.length → e.tos.length < i + m → s.length ≤ 100000 + 200 * i →
    f9_L30 call n m s (i : Int) (evP e) = f9_L29 call n (s ++ Lib.joinTail [32] (e.tos.drop i)) (evP e)
  | 0, i, s, h1, h2, h3 => by omega
  | m + 1, i, s, h1, h2, h3 => by
    have ht := hL.tos
    have ih := tos_loop (call := call) (n := n) e hL m (i + 1)
    rw [f9_L30, f9_T30, show (evP e).fTo = strs e.tos by rfl, strs_len, Nat.div_one]
    by_cases h : i < e.tos.length
    · have hto := hL.toEach _ (List.getElem_mem h)
      rw [decide_eq_true (by omega), cond_true, lim_ok (by (try simp only [List.length_append, List.length_cons, List.length_nil]); omega), cond_true, item_str h, castS_one, lim_ok (by (try simp only [List.length_append, List.length_cons, List.length_nil]); omega), cond_true, wrap_ok (by omega) (by omega), show ((i : Int) + 1) = ((i + 1 : Nat) : Int) by omega, ih _ (by omega) (by omega) (by (try simp only [List.length_append, List.length_cons, List.length_nil]); omega), List.drop_eq_getElem_cons h]
      congr 1
      simp [Lib.joinTail, -List.getElem_cons_drop]
    · rw [decide_eq_false (by omega), cond_false, List.drop_of_length_le (by omega)]
      simp [Lib.joinTail]; rfl
theorem line_8 {call : CallF} {n : Nat} (hn : 100 ≤ n) (hC : LineCalls call) (e : PE) (hL : LightE e) (hN : Nums e) (hk : e.kind = 8) : f9_L1 call n false (evP e) = f9_L29 call n (writtenQ e) (evP e) := by
  have hw : call 24 [.one (.int .i64 (8 : Int))] [] = some (.one (.str (wordsL.getD 8 [])), []) := hC.word 8 (by decide)
  have hwl : (wordsL.getD 8 []).length ≤ 10 := word_len ⟨8, by decide⟩
  have l0 := named_len e.name
  have ln := hL.name
  have hwr : writtenQ e = Lib.join (wordsL.getD 8 [] :: namedQ e.name :: e.tos) [32] := by
    unfold writtenQ bodyW; rw [hk]
    show Lib.join (wordsL.getD 8 [] :: ([namedQ e.name] ++ (e.tos ++ []))) [32] = _
    rw [List.append_nil]; rfl
  rw [f9_L1, f9_T1, cond_false, show (evP e).fKind = 8 from hk, callK_some hw, oS_one]
  simp only [show ((8 : Int) == 1) = false by rfl, show ((8 : Int) == 2) = false by rfl, show ((8 : Int) == 3) = false by rfl, show ((8 : Int) == 4) = false by rfl, show ((8 : Int) == 15) = false by rfl, show ((8 : Int) == 6) = false by rfl, show ((8 : Int) == 7) = false by rfl, show ((8 : Int) == 8) = true by rfl, cond_true, cond_false]
  rw [lim_ok (by (try simp only [List.length_append, List.length_cons, List.length_nil]); omega), cond_true, show (evP e).fName = e.name by rfl, callK_some (hC.name e.name), oS_one, lim_ok (by (try simp only [List.length_append, List.length_cons, List.length_nil]); omega), cond_true]
  have ht := hL.tos
  have := tos_loop (call := call) (n := n) e hL n 0 ((wordsL.getD 8 [] ++ [32]) ++ namedQ e.name) (by omega) (by omega) (by (try simp only [List.length_append, List.length_cons, List.length_nil]); omega)
  refine this.trans ?_
  rw [hwr, Lib.join_cons, List.drop_zero]
  first | done | (congr 1; first | done | simp [Lib.joinTail])
theorem keep_loop2 {call : CallF} {n : Nat} (hC : LineCalls call) (e : PE) (hL : LightE e) : ∀ (m i : Nat) (s : List UInt8), i ≤ e.keep.length → e.keep.length < i + m → s.length ≤ 100000 + 200 * i →
    f9_L34 call n m s (i : Int) (evP e) = if (e.keep.drop i).all inB = true then f9_L29 call n (s ++ Lib.joinTail [32] ((e.keep.drop i).map Lib.itoa)) (evP e) else some (.tup [.one (.str []), .one (.bool false)], [])
  | 0, i, s, h1, h2, h3 => by omega
  | m + 1, i, s, h1, h2, h3 => by
    have ht := hL.keep
    have ih := keep_loop2 (call := call) (n := n) hC e hL m (i + 1)
    rw [f9_L34, f9_T34, show (evP e).fKeep = ints e.keep by rfl, ints_len, Nat.div_one]
    by_cases h : i < e.keep.length
    · rw [decide_eq_true (by omega), cond_true, item_int h, castI_one, callK_some (hC.inn _), oB_one, List.drop_eq_getElem_cons h, List.all_cons]
      cases hb : inB e.keep[i] with
      | false => rw [Bool.not_false, cond_true, Bool.false_and, if_neg (by simp)]
      | true =>
        have l0 := itoa_short hb
        rw [Bool.not_true, cond_false, lim_ok (by (try simp only [List.length_append, List.length_cons, List.length_nil]); omega), cond_true, item_int h, castI_one, callK_some (hC.dig _ hb), oS_one, lim_ok (by (try simp only [List.length_append, List.length_cons, List.length_nil]); omega), cond_true, wrap_ok (by omega) (by omega), show ((i : Int) + 1) = ((i + 1 : Nat) : Int) by omega, ih _ (by omega) (by omega) (by (try simp only [List.length_append, List.length_cons, List.length_nil]); omega), Bool.true_and]
        congr 2
        simp [Lib.joinTail, -List.getElem_cons_drop]
    · rw [decide_eq_false (by omega), cond_false, List.drop_of_length_le (by omega)]
      simp [Lib.joinTail]; rfl
theorem line_16 {call : CallF} {n : Nat} (hn : 100 ≤ n) (hC : LineCalls call) (e : PE) (hL : LightE e) (hN : Nums e) (hk : e.kind = 16) : f9_L1 call n false (evP e) = if e.keep.all inB = true then f9_L29 call n (writtenQ e) (evP e) else some (.tup [.one (.str []), .one (.bool false)], []) := by
  have hw : call 24 [.one (.int .i64 (16 : Int))] [] = some (.one (.str (wordsL.getD 16 [])), []) := hC.word 16 (by decide)
  have hwl : (wordsL.getD 16 []).length ≤ 10 := word_len ⟨16, by decide⟩
  have l0 := itoa_short hN.n
  have hwr : writtenQ e = Lib.join (wordsL.getD 16 [] :: Lib.itoa e.n :: e.keep.map Lib.itoa) [32] := by
    unfold writtenQ bodyW; rw [hk]
    show Lib.join (wordsL.getD 16 [] :: ([Lib.itoa e.n] ++ (e.keep.map Lib.itoa ++ []))) [32] = _
    rw [List.append_nil]; rfl
  rw [f9_L1, f9_T1, cond_false, show (evP e).fKind = 16 from hk, callK_some hw, oS_one]
  simp only [show ((16 : Int) == 1) = false by rfl, show ((16 : Int) == 2) = false by rfl, show ((16 : Int) == 3) = false by rfl, show ((16 : Int) == 4) = false by rfl, show ((16 : Int) == 15) = false by rfl, show ((16 : Int) == 6) = false by rfl, show ((16 : Int) == 7) = false by rfl, show ((16 : Int) == 8) = false by rfl, show ((16 : Int) == 9) = false by rfl, show ((16 : Int) == 12) = false by rfl, show ((16 : Int) == 10) = false by rfl, show ((16 : Int) == 11) = false by rfl, show ((16 : Int) == 14) = false by rfl, show ((16 : Int) == 16) = true by rfl, cond_true, cond_false]
  rw [lim_ok (by (try simp only [List.length_append, List.length_cons, List.length_nil]); omega), cond_true, show (evP e).fN = e.n by rfl, callK_some (hC.dig _ hN.n), oS_one, lim_ok (by (try simp only [List.length_append, List.length_cons, List.length_nil]); omega), cond_true]
  have ht := hL.keep
  have := keep_loop2 (call := call) (n := n) hC e hL n 0 ((wordsL.getD 16 [] ++ [32]) ++ Lib.itoa e.n) (by omega) (by omega) (by (try simp only [List.length_append, List.length_cons, List.length_nil]); omega)
  refine this.trans ?_
  rw [List.drop_zero, hwr, Lib.join_cons]
  congr 2
theorem line_none {e : PE} (h : ¬ (1 ≤ e.kind ∧ e.kind ≤ 17 ∧ SC.Good e)) : lineQ e = none := by
  unfold lineQ
  rw [if_neg]
  rintro ⟨h1, h2, h3⟩
  exact h ⟨h1, h2, (read_good (b := (writtenQ e).length + 1) (by omega) h3).1⟩
theorem line_core {call : CallF} {n : Nat} (hn : 100 ≤ n) (hC : LineCalls call) (e : PE) (hL : LightE e) (hl : (writtenQ e).length ≤ 900000) : f9_L call n (evP e) = lineR e := by
  have bad : f9_L1 call n true (evP e) = some (.tup [.one (.str []), .one (.bool false)], []) := rfl
  rw [f9_L, f9_T, bad, show (evP e).fKind = e.kind by rfl, show (evP e).fN = e.n by rfl, show (evP e).fK = e.k by rfl, show (evP e).fLimit_Bytes = e.lb by rfl, show (evP e).fLimit_Count = e.lc by rfl, show (evP e).fCode = e.code by rfl, show (evP e).fSlot = e.slot by rfl,
    callK_some (hC.inn _), oB_one, callK_some (hC.inn _), oB_one, callK_some (hC.inn _), oB_one, callK_some (hC.inn _), oB_one]
  by_cases h1 : 1 ≤ e.kind
  · rw [decide_eq_false (by omega), cond_false]
    by_cases h2 : e.kind ≤ 17
    · rw [decide_eq_false (by omega), cond_false]
      cases hn1 : inB e.n with
      | false => rw [Bool.not_false, cond_true, lineR_none (line_none fun h => by have := h.2.2.n; rw [hn1] at this; cases this)]
      | true =>
        rw [Bool.not_true, cond_false]
        cases hk1 : inB e.k with
        | false => rw [Bool.not_false, cond_true, lineR_none (line_none fun h => by have := h.2.2.k; rw [hk1] at this; cases this)]
        | true =>
          rw [Bool.not_true, cond_false]
          cases hb1 : inB e.lb with
          | false => rw [Bool.not_false, cond_true, lineR_none (line_none fun h => by have := h.2.2.lb; rw [hb1] at this; cases this)]
          | true =>
            rw [Bool.not_true, cond_false]
            cases hc1 : inB e.lc with
            | false => rw [Bool.not_false, cond_true, lineR_none (line_none fun h => by have := h.2.2.lc; rw [hc1] at this; cases this)]
            | true =>
              rw [Bool.not_true, cond_false]
              by_cases d1 : e.code < 0
              · rw [decide_eq_true d1, cond_true, lineR_none (line_none fun h => by have := h.2.2.code; omega)]
              · rw [decide_eq_false d1, cond_false]
                by_cases d2 : e.code > 17
                · rw [decide_eq_true d2, cond_true, lineR_none (line_none fun h => by have := h.2.2.code; omega)]
                · rw [decide_eq_false d2, cond_false]
                  by_cases d3 : e.slot < 0
                  · rw [decide_eq_true d3, cond_true, lineR_none (line_none fun h => by have := h.2.2.slot; omega)]
                  · rw [decide_eq_false d3, cond_false]
                    by_cases d4 : e.slot > 7
                    · rw [decide_eq_true d4, bad, lineR_none (line_none fun h => by have := h.2.2.slot; omega)]
                    · rw [decide_eq_false d4]
                      have hN : Nums e := ⟨hn1, hk1, hb1, hc1, by omega, by omega⟩
                      rw [← L29_eq (n := n) hC e h1 h2 hl]
                      obtain ⟨k, hk0, hk⟩ := kind_nat h1 h2
                      match k, hk0, hk with
                      | ⟨1, _⟩, _, hk => exact line_1 hC e hL hN hk
                      | ⟨2, _⟩, _, hk => exact line_2 hC e hL hN hk
                      | ⟨3, _⟩, _, hk => exact line_3 hC e hL hN hk
                      | ⟨4, _⟩, _, hk => exact line_4 hC e hL hN hk
                      | ⟨5, _⟩, _, hk => exact line_5 hC e hL hN hk
                      | ⟨6, _⟩, _, hk => exact line_6 hC e hL hN hk
                      | ⟨7, _⟩, _, hk => exact line_7 hC e hL hN hk
                      | ⟨9, _⟩, _, hk => exact line_9 hC e hL hN hk
                      | ⟨10, _⟩, _, hk => exact line_10 hC e hL hN hk
                      | ⟨11, _⟩, _, hk => exact line_11 hC e hL hN hk
                      | ⟨12, _⟩, _, hk => exact line_12 hC e hL hN hk
                      | ⟨13, _⟩, _, hk => exact line_13 hC e hL hN hk
                      | ⟨14, _⟩, _, hk => exact line_14 hC e hL hN hk
                      | ⟨15, _⟩, _, hk => exact line_15 hC e hL hN hk
                      | ⟨17, _⟩, _, hk => exact line_17 hC e hL hN hk
                      | ⟨8, _⟩, _, hk => exact line_8 hn hC e hL hN hk
                      | ⟨16, _⟩, _, hk =>
                        rw [line_16 hn hC e hL hN hk]
                        by_cases ha : e.keep.all inB = true
                        · rw [if_pos ha]
                        · rw [if_neg ha, L29_eq (n := n) hC e h1 h2 hl, lineR_none (line_none fun h => ha (List.all_eq_true.2 h.2.2.keep))]
                      | ⟨k + 18, h⟩, _, _ => omega
    · rw [decide_eq_true (by omega), cond_true, lineR_none (line_none fun h => h2 h.2.1)]
  · rw [decide_eq_true (by omega), cond_true, lineR_none (line_none fun h => h1 h.1)]
theorem rname_at (n : Nat) (s : List UInt8) : acall AXE AXF (n + 1) 27 [.one (.str s)] [] = some (.one (.str (namedQ s)), []) := by
  rw [f27_eq, f27_L, f27_T]
  unfold namedQ
  cases s <;> rfl
theorem lineCalls_at (n : Nat) (hn : 1000600 ≤ n) (hn2 : n ≤ 500000000000) : LineCalls (acall AXE AXF (n + 1)) :=
  ⟨fun k hk => word_at n k hk, fun v hv => digits_at n v hv (by omega) (by omega), fun v => in_at n v, fun s => rname_at n s, fun b hb => Data_at n b hb (by omega), fun l hl => rRead_at n l hl (by omega) (by omega), fun p q hp => rSame_at n p q hp (by omega)⟩
theorem rLine_at (n : Nat) (e : PE) (hL : LightE e) (hl : (writtenQ e).length ≤ 900000) (hn : 1000610 ≤ n) (hn2 : n ≤ 500000000000) : acall AXE AXF (n + 1) 9 [.agg (evP e).cells] [] = lineR e := by
  obtain ⟨n, rfl⟩ : ∃ k, n = k + 1 := ⟨n - 1, by omega⟩
  rw [f9_eq]
  exact line_core (by omega) (lineCalls_at n (by omega) (by omega)) e hL hl
end AX
end Go.Proofs.YtfbicbgdfcbhpaaGreatDoor
