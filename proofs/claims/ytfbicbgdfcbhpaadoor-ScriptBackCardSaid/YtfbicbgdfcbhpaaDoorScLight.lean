/-
  Layer 31: ref31.Light; how long a light event's line is; an event out of its type.
-/
import Derived.Test.YtfbicbgdfcbhpaaDoorScLine
import Derived.Test.YtfbicbgdfcbhpaaDoorFitG
set_option maxRecDepth 20000
set_option linter.unusedVariables false
set_option linter.unusedSimpArgs false
set_option linter.unusedSectionVars false
namespace Go.Proofs.YtfbicbgdfcbhpaaDoor
open SC
namespace AX
/-- short texts -/
structure LightE (e : PE) : Prop where
  data : e.data.length ≤ 1000
  name : e.name.length ≤ 100
  tos : e.tos.length ≤ 20
  toEach : ∀ l ∈ e.tos, l.length ≤ 100
  keep : e.keep.length ≤ 60
theorem quo_len (b : List UInt8) : (quo b).length ≤ 4 * b.length + 2 := by
  have h : ∀ l : List UInt8, (escs l).length ≤ 4 * l.length := by
    intro l
    induction l with
    | nil => simp [escs]
    | cons c l ih => have := esc_len c; simp [escs] at ih ⊢; omega
  have := h b
  unfold quo; simp; omega
theorem named_len (s : List UInt8) : (namedQ s).length ≤ s.length + 1 := by unfold namedQ; split <;> simp
theorem word_len : ∀ k : Fin 18, (wordsL.getD k.val []).length ≤ 10 := by decide +kernel
def lightB (e : PE) : Bool := decide (e.data.length ≤ 1000) && (decide (e.name.length ≤ 100) && (decide (e.tos.length ≤ 20) && (decide (e.keep.length ≤ 60) && e.tos.all fun l => decide (l.length ≤ 100))))
theorem light_loop {call : CallF} {n : Nat} (e : PE) (ht : e.tos.length ≤ 20) : ∀ (m i : Nat), i ≤ e.tos.length → e.tos.length < i + m →
    f14_L5 call n m (i : Int) (evP e) = some (.one (.bool ((e.tos.drop i).all fun l => decide (l.length ≤ 100))), [])
  | 0, i, h1, h2 => by omega
  | m + 1, i, h1, h2 => by
    have ih := light_loop (call := call) (n := n) e ht m (i + 1)
    rw [f14_L5, f14_T5, show (evP e).fTo = strs e.tos by rfl, strs_len, Nat.div_one]
    by_cases h : i < e.tos.length
    · rw [decide_eq_true (by omega), cond_true, item_str h, castS_one, List.drop_eq_getElem_cons h, List.all_cons, wrap_ok (by omega) (by omega), show ((i : Int) + 1) = ((i + 1 : Nat) : Int) by omega, ih (by omega) (by omega)]
      by_cases hl : e.tos[i].length ≤ 100
      · rw [decide_eq_false (by omega), decide_eq_true hl]; rfl
      · rw [decide_eq_true (by omega), decide_eq_false hl]; rfl
    · rw [decide_eq_false (by omega), cond_false, List.drop_of_length_le (by omega)]; rfl
theorem light_at (n : Nat) (e : PE) (hn : 100 ≤ n) : acall AXE AXF (n + 1) 14 [.agg (evP e).cells] [] = some (.one (.bool (lightB e)), []) := by
  rw [f14_eq, f14_L, f14_T, show (evP e).fData = byteCells e.data by rfl, show (evP e).fName = e.name by rfl, show (evP e).fTo = strs e.tos by rfl, show (evP e).fKeep = ints e.keep by rfl, byteCells_len, strs_len, ints_len, Nat.div_one, Nat.div_one, Nat.div_one]
  have bad : ∀ call, f14_L1 call (n + 1) true (evP e) = some (.one (.bool false), []) := fun call => rfl
  unfold lightB
  by_cases h1 : e.data.length ≤ 1000
  · rw [decide_eq_false (by omega), cond_false, decide_eq_true h1, Bool.true_and]
    by_cases h2 : e.name.length ≤ 100
    · rw [decide_eq_false (by omega), cond_false, decide_eq_true h2, Bool.true_and]
      by_cases h3 : e.tos.length ≤ 20
      · rw [decide_eq_false (by omega), cond_false, decide_eq_true h3, Bool.true_and]
        by_cases h4 : e.keep.length ≤ 60
        · rw [decide_eq_false (by omega), decide_eq_true h4, Bool.true_and, f14_L1, f14_T1, cond_false]
          exact light_loop e h3 _ 0 (by omega) (by omega)
        · rw [decide_eq_true (by omega), bad, decide_eq_false h4]; rfl
      · rw [decide_eq_true (by omega), cond_true, bad, decide_eq_false h3]; rfl
    · rw [decide_eq_true (by omega), cond_true, bad, decide_eq_false h2]; rfl
  · rw [decide_eq_true (by omega), cond_true, bad, decide_eq_false h1]; rfl
theorem lightB_of {e : PE} (h : lightB e = true) : LightE e := by
  unfold lightB at h
  simp only [Bool.and_eq_true, decide_eq_true_eq, List.all_eq_true] at h
  exact ⟨h.1, h.2.1, h.2.2.1, h.2.2.2.2, h.2.2.2.1⟩
/-- numbers that an int64 holds -/
structure I64 (e : PE) : Prop where
  slot : i64B e.slot
  n : i64B e.n
  k : i64B e.k
  lb : i64B e.lb
  lc : i64B e.lc
  code : i64B e.code
  keep : ∀ v ∈ e.keep, i64B v
theorem I64.wf {e : PE} (h : I64 e) (hL : LightE e) : Wf e := ⟨h.slot, h.n, h.k, h.lb, h.lc, h.code, h.keep, by have := hL.data; omega, by have := hL.keep; omega, by have := hL.tos; omega⟩
theorem itoa_64 {v : Int} (h : i64B v) : (Lib.itoa v).length ≤ 21 := by
  obtain ⟨h1, h2⟩ := h
  unfold Lib.itoa
  split
  · have := dec_len v.natAbs 19 (by omega); simp; omega
  · have := dec_len v.toNat 19 (by omega); omega
theorem join_le (b : Nat) : ∀ ws : List (List UInt8), (∀ w ∈ ws, w.length ≤ b) → (Lib.join ws [32]).length ≤ ws.length * (b + 1)
  | [], h => by simp [Lib.join_nil]
  | [a], h => by have := h a (by simp); rw [Lib.join_one]; simp; omega
  | a :: c :: r, h => by
    have h1 := h a (by simp)
    have ih := join_le b (c :: r) fun w hw => h w (.tail _ hw)
    rw [join_two, List.length_cons, Nat.add_mul, List.length_append, List.length_append]
    simp only [List.length_singleton]
    omega
theorem wordF_light {e : PE} (hI : I64 e) (hL : LightE e) (c : UInt8) : (wordF e c).length ≤ 60 ∧ ∀ w ∈ wordF e c, w.length ≤ 4100 := by
  have a1 := itoa_64 hI.slot; have a2 := itoa_64 hI.n; have a3 := itoa_64 hI.k; have a4 := itoa_64 hI.lb; have a5 := itoa_64 hI.lc; have a6 := itoa_64 hI.code
  have d := hL.data; have q := quo_len e.data; have nm := hL.name; have nl := named_len e.name; have t := hL.tos; have kp := hL.keep
  have one : ∀ x : List UInt8, x.length ≤ 4100 → ([x] : List (List UInt8)).length ≤ 60 ∧ ∀ w ∈ [x], w.length ≤ 4100 := fun x hx => ⟨by simp, fun w hw => by rw [List.mem_singleton] at hw; subst hw; exact hx⟩
  unfold wordF
  by_cases c1 : c = 115
  · rw [if_pos c1]; exact one _ (by omega)
  rw [if_neg c1]
  by_cases c2 : c = 112
  · rw [if_pos c2]; refine one _ ?_; split <;> decide
  rw [if_neg c2]
  by_cases c3 : c = 100
  · rw [if_pos c3]; exact one _ (by omega)
  rw [if_neg c3]
  by_cases c4 : c = 110
  · rw [if_pos c4]; exact one _ (by omega)
  rw [if_neg c4]
  by_cases c5 : c = 107
  · rw [if_pos c5]; exact one _ (by omega)
  rw [if_neg c5]
  by_cases c6 : c = 98
  · rw [if_pos c6]; exact one _ (by omega)
  rw [if_neg c6]
  by_cases c7 : c = 99
  · rw [if_pos c7]; exact one _ (by omega)
  rw [if_neg c7]
  by_cases c8 : c = 101
  · rw [if_pos c8]; exact one _ (by omega)
  rw [if_neg c8]
  by_cases c9 : c = 109
  · rw [if_pos c9]; exact one _ (by omega)
  rw [if_neg c9]
  by_cases c10 : c = 117
  · rw [if_pos c10]; exact one _ (by omega)
  rw [if_neg c10]
  by_cases c11 : c = 116
  · rw [if_pos c11]; exact ⟨by omega, fun w hw => by have := hL.toEach w hw; omega⟩
  rw [if_neg c11]
  by_cases c12 : c = 119
  · rw [if_pos c12]
    refine ⟨by simpa using kp, fun w hw => ?_⟩
    obtain ⟨v, hv, rfl⟩ := List.mem_map.1 hw
    have := itoa_64 (hI.keep v hv)
    omega
  rw [if_neg c12]
  exact ⟨by simp, fun w hw => by cases hw⟩
theorem flat_bound {e : PE} (hI : I64 e) (hL : LightE e) : ∀ f : List UInt8, (f.flatMap (wordF e)).length ≤ 60 * f.length ∧ ∀ w ∈ f.flatMap (wordF e), w.length ≤ 4100
  | [] => ⟨by simp, fun w hw => by simp at hw⟩
  | c :: f => by
    obtain ⟨h1, h2⟩ := flat_bound hI hL f
    obtain ⟨h3, h4⟩ := wordF_light hI hL c
    refine ⟨by rw [List.flatMap_cons, List.length_append, List.length_cons]; omega, fun w hw => ?_⟩
    rw [List.flatMap_cons] at hw
    rcases List.mem_append.1 hw with hw | hw
    · exact h4 w hw
    · exact h2 w hw
theorem forms_any (k : Nat) : (formsL.getD k []).length ≤ 3 := by
  by_cases h : k < 18
  · exact forms_three ⟨k, h⟩
  · rw [List.getD_eq_getElem?_getD, List.getElem?_eq_none (by show formsL.length ≤ k; rw [show formsL.length = 18 by rfl]; omega)]; simp
theorem words_any (k : Nat) : (wordsL.getD k []).length ≤ 10 := by
  by_cases h : k < 18
  · exact word_len ⟨k, h⟩
  · rw [List.getD_eq_getElem?_getD, List.getElem?_eq_none (by show wordsL.length ≤ k; rw [show wordsL.length = 18 by rfl]; omega)]; simp
theorem written_le {e : PE} (hI : I64 e) (hL : LightE e) : (writtenQ e).length ≤ 900000 := by
  obtain ⟨h1, h2⟩ := flat_bound hI hL (formsL.getD e.kind.toNat [])
  have h3 := forms_any e.kind.toNat
  have h4 := words_any e.kind.toNat
  have := join_le 4100 (wordsL.getD e.kind.toNat [] :: bodyW e) (fun w hw => by
    rcases List.mem_cons.1 hw with rfl | hw
    · omega
    · exact h2 w hw)
  unfold writtenQ
  refine Nat.le_trans this ?_
  have h5 : (bodyW e).length ≤ 180 := Nat.le_trans h1 (by omega)
  rw [List.length_cons]
  have := Nat.mul_le_mul_right (4100 + 1) (show (bodyW e).length + 1 ≤ 181 by omega)
  omega
/-- An event, out of its type. -/
theorem fit_event {T : List (Nat × TI)} {t e5 e9 e3 : Nat} {fs : List (Nat × Nat × TypeId)} {x : AV} (ht : tyN T t = some (.struct [.int .i64, .int .i64, .int .i64, .int .i64, .bool, .str, .int .i64, .int .i64, .slice e9 1, .slice e5 1, .int .i64, .slice e3 1] fs))
    (h9 : tyN T e9 = some .str) (h5 : tyN T e5 = some (.int .u8)) (h3 : tyN T e3 = some (.int .i64)) (h : FitT T t x) : ∃ e : PE, x = .agg (evP e).cells ∧ I64 e := by
  obtain ⟨ti, h1, h2⟩ := h
  rw [ht] at h1
  cases h1
  obtain ⟨cs, rfl, hl, hc⟩ := h2
  match cs, hl with
  | [c0, c1, c2, c3, c4, c5, c6, c7, c8, c9, c10, c11], _ =>
    obtain ⟨v0, rfl, _, _⟩ := fit_int (hc 0 _ c0 rfl rfl)
    obtain ⟨v1, rfl, a1⟩ := fit_int (hc 1 _ c1 rfl rfl)
    obtain ⟨v2, rfl, a2⟩ := fit_int (hc 2 _ c2 rfl rfl)
    obtain ⟨v3, rfl, a3⟩ := fit_int (hc 3 _ c3 rfl rfl)
    have hb := hc 4 _ c4 rfl rfl
    have hst := hc 5 _ c5 rfl rfl
    obtain ⟨v6, rfl, a6⟩ := fit_int (hc 6 _ c6 rfl rfl)
    obtain ⟨v7, rfl, a7⟩ := fit_int (hc 7 _ c7 rfl rfl)
    obtain ⟨ls, rfl, _⟩ := fit_row h9 (hc 8 _ c8 rfl rfl)
    have hd := hc 9 _ c9 rfl rfl
    obtain ⟨v10, rfl, a10⟩ := fit_int (hc 10 _ c10 rfl rfl)
    have hk := hc 11 _ c11 rfl rfl
    cases hb with
    | bool b =>
      cases hst with
      | str l _ =>
        cases hd with
        | sl _ _ nd cd td q1 q2 q3 q4 q5 q6 =>
          rw [h5] at q1; cases q1
          obtain ⟨bs, rfl⟩ := fit_u8s cd fun i c hc => q6 i 0 (.int .u8) c (by have := (List.getElem?_eq_some_iff.1 hc).1; omega) rfl (by simpa using hc)
          cases hk with
          | sl _ _ nk ck tk r1 r2 r3 r4 r5 r6 =>
            rw [h3] at r1; cases r1
            obtain ⟨ks, rfl, hks⟩ := fit_i64s ck fun i c hc => r6 i 0 (.int .i64) c (by have := (List.getElem?_eq_some_iff.1 hc).1; omega) rfl (by simpa using hc)
            exact ⟨⟨v0, v1, v2, v3, b, l, v6, v7, ls, bs, v10, ks⟩, rfl, ⟨a1, a2, a3, a6, a7, a10, hks⟩⟩
end AX
end Go.Proofs.YtfbicbgdfcbhpaaDoor
