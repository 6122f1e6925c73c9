/-
  Layer 31: script.Text, and law31.ScriptBack answers true at all arguments: by the reckoning.
-/
import Derived.Test.YtfbicbgdfcbhpaaDoorScLight
import Derived.Test.YtfbicbgdfcbhpaaDoorScBack
import Derived.Test.YtfbicbgdfcbhpaaDoorScSame
import Derived.Test.YtfbicbgdfcbhpaaDoorSxOk
import Derived.Test.YtfbicbgdfcbhpaaDoorLpBuild
set_option maxRecDepth 20000
set_option linter.unusedVariables false
set_option linter.unusedSimpArgs false
set_option linter.unusedSectionVars false
namespace Go.Proofs.YtfbicbgdfcbhpaaDoor
open SC
namespace AX
theorem pevs_at : ∀ (l : List PE) (i : Nat) (h : i < l.length), ((pevs l).drop (i * 12)).take 12 = (evP l[i]).cells
  | a :: r, 0, h => by
    show (((evP a).cells ++ pevs r).drop 0).take 12 = _
    rw [List.drop_zero]; rfl
  | a :: r, i + 1, h => by
    have ih := pevs_at r i (by simpa using h)
    have e : pevs (a :: r) = (evP a).cells ++ pevs r := by simp [pevs]
    rw [e, show (i + 1) * 12 = (evP a).cells.length + i * 12 by simp; omega, ← List.drop_drop, List.drop_left]
    simpa using ih
/-! how long a light event's line is -/
def wsum (ws : List (List UInt8)) : Nat := (ws.map fun w => w.length + 1).sum
theorem join_sum : ∀ ws : List (List UInt8), (Lib.join ws [32]).length ≤ wsum ws
  | [] => by simp [Lib.join_nil]
  | [a] => by rw [Lib.join_one]; simp [wsum]
  | a :: c :: r => by
    have ih := join_sum (c :: r)
    rw [join_two, List.length_append, List.length_append]
    simp only [wsum, List.map_cons, List.sum_cons, List.length_singleton] at ih ⊢
    omega
theorem wsum_le (b : Nat) : ∀ ws : List (List UInt8), (∀ w ∈ ws, w.length ≤ b) → wsum ws ≤ ws.length * (b + 1)
  | [], h => by simp [wsum]
  | a :: r, h => by
    have h1 := h a (by simp)
    have ih := wsum_le b r fun w hw => h w (.tail _ hw)
    simp only [wsum, List.map_cons, List.sum_cons, List.length_cons, Nat.add_mul, Nat.one_mul] at ih ⊢
    omega
theorem wsum_app (a b : List (List UInt8)) : wsum (a ++ b) = wsum a + wsum b := by simp [wsum]
theorem wordF_sum {e : PE} (hI : I64 e) (hL : LightE e) (c : UInt8) : wsum (wordF e c) ≤ 4003 := by
  have a1 := itoa_64 hI.slot; have a2 := itoa_64 hI.n; have a3 := itoa_64 hI.k; have a4 := itoa_64 hI.lb; have a5 := itoa_64 hI.lc; have a6 := itoa_64 hI.code
  have d := hL.data; have q := quo_len e.data; have nm := hL.name; have nl := named_len e.name; have t := hL.tos; have kp := hL.keep
  have one : ∀ x : List UInt8, x.length ≤ 4002 → wsum [x] ≤ 4003 := fun x hx => by simp [wsum]; omega
  unfold wordF
  by_cases c1 : c = 115
  · rw [if_pos c1]; exact one _ (by omega)
  rw [if_neg c1]
  by_cases c2 : c = 112
  · rw [if_pos c2]; refine one _ ?_; split <;> decide
  rw [if_neg c2]
  by_cases c3 : c = 100
  · rw [if_pos c3]; exact one _ (by omega)
  rw [if_neg c3]
  by_cases c4 : c = 110
  · rw [if_pos c4]; exact one _ (by omega)
  rw [if_neg c4]
  by_cases c5 : c = 107
  · rw [if_pos c5]; exact one _ (by omega)
  rw [if_neg c5]
  by_cases c6 : c = 98
  · rw [if_pos c6]; exact one _ (by omega)
  rw [if_neg c6]
  by_cases c7 : c = 99
  · rw [if_pos c7]; exact one _ (by omega)
  rw [if_neg c7]
  by_cases c8 : c = 101
  · rw [if_pos c8]; exact one _ (by omega)
  rw [if_neg c8]
  by_cases c9 : c = 109
  · rw [if_pos c9]; exact one _ (by omega)
  rw [if_neg c9]
  by_cases c10 : c = 117
  · rw [if_pos c10]; exact one _ (by omega)
  rw [if_neg c10]
  by_cases c11 : c = 116
  · rw [if_pos c11]
    have := wsum_le 100 e.tos hL.toEach
    have := Nat.mul_le_mul_right 101 t
    omega
  rw [if_neg c11]
  by_cases c12 : c = 119
  · rw [if_pos c12]
    have h1 := wsum_le 21 (e.keep.map Lib.itoa) fun w hw => by
      obtain ⟨v, hv, rfl⟩ := List.mem_map.1 hw
      exact itoa_64 (hI.keep v hv)
    rw [List.length_map] at h1
    have := Nat.mul_le_mul_right 22 kp
    omega
  rw [if_neg c12]
  simp [wsum]
theorem flat_sum {e : PE} (hI : I64 e) (hL : LightE e) : ∀ f : List UInt8, wsum (f.flatMap (wordF e)) ≤ 4003 * f.length
  | [] => by simp [wsum]
  | c :: f => by
    have h1 := flat_sum hI hL f
    have h2 := wordF_sum hI hL c
    rw [List.flatMap_cons, wsum_app, List.length_cons]
    omega
theorem written_small {e : PE} (hI : I64 e) (hL : LightE e) : (writtenQ e).length ≤ 12100 := by
  have h1 : wsum (bodyW e) ≤ _ := flat_sum hI hL (formsL.getD e.kind.toNat [])
  have h3 := forms_any e.kind.toNat
  have h4 := words_any e.kind.toNat
  have := join_sum (wordsL.getD e.kind.toNat [] :: bodyW e)
  unfold writtenQ
  refine Nat.le_trans this ?_
  have h5 : wsum (wordsL.getD e.kind.toNat [] :: bodyW e) = (wordsL.getD e.kind.toNat []).length + 1 + wsum (bodyW e) := by simp [wsum]
  omega
theorem lineQ_small {e : PE} (hI : I64 e) (hL : LightE e) {s : List UInt8} (h : lineQ e = some s) : s.length ≤ 12100 := by
  unfold lineQ at h
  split at h
  · cases h; exact written_small hI hL
  · cases h
theorem textQ_len : ∀ (l : List PE) (t : List UInt8), (∀ e ∈ l, I64 e ∧ LightE e) → textQ l = some t → t.length ≤ l.length * 12101
  | [], t, hl, h => by rw [textQ] at h; cases h; simp
  | e :: l, t, hl, h => by
    rw [textQ] at h
    cases hs : lineQ e with
    | none => rw [hs] at h; cases h
    | some s =>
      cases ht : textQ l with
      | none => rw [hs, ht] at h; cases h
      | some t' =>
        rw [hs, ht] at h; cases h
        have h1 := lineQ_small (hl e (by simp)).1 (hl e (by simp)).2 hs
        have h2 := textQ_len l t' (fun x hx => hl x (.tail _ hx)) ht
        simp only [List.length_append, List.length_cons, Nat.add_mul, Nat.one_mul]
        omega
theorem textQ_all : ∀ l : List PE, (textQ l).isSome = l.all fun e => (lineQ e).isSome
  | [] => rfl
  | e :: l => by
    have ih := textQ_all l
    rw [textQ, List.all_cons, ← ih]
    cases lineQ e with
    | none => rfl
    | some s => cases textQ l <;> rfl
/-! script.Text -/
def textR (acc : List UInt8) (q : Option (List UInt8)) : AV :=
  match q with
  | some t => .tup [.one (.str (acc ++ t)), .one (.int .i64 0)]
  | none => .tup [.one (.str []), .one (.int .i64 3)]
theorem pBW_at (acc s : List UInt8) (h : acc.length + s.length ≤ 140737488355328) : pBW [.one (.ptr 0 0), .one (.str s)] [.selfp 78, .sl (some ⟨1000000, 1, 5⟩) 1 (byteCells acc)] =
    some (.tup [.one (.int .i64 (s.length : Int)), .one (.err false)], [.selfp 78, .sl (some ⟨1000000, 1, 5⟩) 1 (byteCells (acc ++ s))]) := by
  have h1 : Nat.ble ((byteCells acc).length + s.length) 140737488355328 = true := by rw [byteCells_len]; exact Nat.ble_eq_true_of_le h
  have h2 : byteCells (acc ++ s) = byteCells acc ++ byteCells s := by simp [byteCells]
  unfold pBW
  simp only []
  rw [h1, h2]
  rfl
theorem pBS_at (acc : List UInt8) : pBS [.one (.ptr 0 0)] [.selfp 78, .sl (some ⟨1000000, 1, 5⟩) 1 (byteCells acc)] = some (.one (.str acc)) := by
  unfold pBS
  simp only [bytesX_cells]
  rfl
theorem evs_guard {l : List PE} {i : Nat} (h : i < l.length) : (decide (0 ≤ (i : Int)) && decide ((Int.toNat (i : Int)) * 12 + 12 ≤ (pevs l).length)) = true := by
  rw [Bool.and_eq_true, decide_eq_true_eq, decide_eq_true_eq, pevs_len, Int.toNat_natCast]; omega
theorem strlim {a b : Nat} (h : a + b ≤ 1000000000) : decide (a + b ≤ strLim) = true := decide_eq_true (by show _ ≤ 2 ^ 62; omega)
theorem text_loop {call : CallF} {n : Nat} (l : List PE) (hl : l.length ≤ 1000) (hL : ∀ e ∈ l, I64 e ∧ LightE e)
    (hli : ∀ e ∈ l, call 11 [.agg (evP e).cells] [] = some (.tup [.one (.str ((lineQ e).getD [])), .one (.bool (lineQ e).isSome)], [])) : ∀ (m i : Nat) (acc : List UInt8), i ≤ l.length → l.length < i + m → acc.length ≤ i * 12101 →
    f16_L6 call n m (pevs l) (l.length : Int) (i : Int) (byteCells acc) = some (textR acc (textQ (l.drop i)), [])
  | 0, i, acc, h1, h2, h3 => by omega
  | m + 1, i, acc, h1, h2, h3 => by
    rw [f16_L6, f16_T6]
    by_cases h : i < l.length
    · have hmem := List.getElem_mem h
      rw [decide_eq_true (by omega), cond_true, evs_guard h, guard_true, Int.toNat_natCast, pevs_at l i h, takeS_api_Event_cells_nil, callK_some (hli _ hmem)]
      simp only [castTup_tup, zS_cons, zB_cons, nilK_nil]
      rw [List.drop_eq_getElem_cons h, textQ]
      cases hq : lineQ l[i] with
      | none => rfl
      | some s =>
        have hs := lineQ_small (hL _ hmem).1 (hL _ hmem).2 hq
        have ha : acc.length ≤ 1000 * 12101 := Nat.le_trans h3 (Nat.mul_le_mul_right _ (by omega))
        have h12 : (i + 1) * 12101 = i * 12101 + 12101 := by rw [Nat.add_mul, Nat.one_mul]
        simp only [Option.getD_some, Option.isSome_some, Bool.not_true, cond_false]
        rw [strlim (by simp; omega), cond_true, primHK_some (pBW_at acc (s ++ [10]) (by simp; omega))]
        simp only [consK_cons, castSp_one, castNm_one, nilK_nil, castTup_tup, zI_cons, zE_cons]
        rw [wrap_ok (by omega) (by omega), show ((i : Int) + 1) = ((i + 1 : Nat) : Int) by omega, text_loop l hl hL hli m (i + 1) (acc ++ (s ++ [10])) (by omega) (by omega) (by simp; omega)]
        cases textQ (l.drop (i + 1)) with
        | none => rfl
        | some t => simp [textR]
    · rw [decide_eq_false (by omega), cond_false, primSK_some (pBS_at acc), List.drop_of_length_le (by omega)]
      show some (AV.tup [.one (.str acc), .one (.int .i64 0)], []) = _
      simp [textQ, textR]
noncomputable def textC (l : List PE) : AV := if 1000 < l.length then .tup [.one (.str []), .one (.int .i64 4)] else textR [] (textQ l)
theorem text_core {call : CallF} {n : Nat} (l : List PE) (hn : 1001 ≤ n) (hL : ∀ e ∈ l, I64 e ∧ LightE e)
    (hli : ∀ e ∈ l, call 11 [.agg (evP e).cells] [] = some (.tup [.one (.str ((lineQ e).getD [])), .one (.bool (lineQ e).isSome)], [])) : f16_L call n (pevs l) = some (textC l, []) := by
  rw [f16_L, f16_T, pevs_div]
  unfold textC
  by_cases h : 1000 < l.length
  · rw [decide_eq_true (by omega), cond_true, if_pos h]
  · rw [decide_eq_false (by omega), cond_false, if_neg h]
    exact text_loop l (by omega) hL hli n 0 [] (by omega) (by omega) (by simp)
theorem Text_at (n : Nat) (l : List PE) (hL : ∀ e ∈ l, I64 e ∧ LightE e) (hn : 1000510 ≤ n) : acall AXE AXF (n + 1) 16 [.one (.sl none 12 (pevs l))] [] = some (textC l, []) := by
  obtain ⟨n, rfl⟩ : ∃ k, n = k + 1 := ⟨n - 1, by omega⟩
  rw [f16_eq]
  exact text_core l (by omega) hL fun e he => Line_at n e ((hL e he).1.wf (hL e he).2) (written_le (hL e he).1 (hL e he).2) (by omega)
end AX
end Go.Proofs.YtfbicbgdfcbhpaaDoor
