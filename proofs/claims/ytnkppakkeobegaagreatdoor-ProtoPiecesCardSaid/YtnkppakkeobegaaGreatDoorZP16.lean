/-
  PgAddr.
-/
import Derived.Test.YtnkppakkeobegaaGreatDoorZP15
set_option maxRecDepth 20000
set_option linter.unusedVariables false
set_option linter.unusedSimpArgs false
set_option linter.unusedSectionVars false
namespace Go.Proofs.YtnkppakkeobegaaGreatDoor
namespace AX
theorem item_ex {α : Type} {l : List α} {i : Int} (h0 : 0 ≤ i) (h1 : i < (l.length : Int)) : ∃ a, a ∈ l ∧ ∀ k : α → OR, itemK l i k = k a := by
 obtain ⟨j, rfl⟩ : ∃ j : Nat, i = (j : Int) := ⟨i.toNat, by omega⟩
 exact ⟨l[j], List.getElem_mem (by omega), fun k => item_at (by omega)⟩
theorem cut_ok {β : Type} {p : Prop} [Decidable p] {x y : β} (h : p) : (bif decide p then x else y) = x := by rw [decide_eq_true h, cond_true]
theorem cut_no {β : Type} {p : Prop} [Decidable p] {x y : β} (h : ¬ p) : (bif decide p then x else y) = y := by rw [decide_eq_false h, cond_false]
theorem join_prop {α β : Type} {J : α} {f : α → β} (Pr : α → Prop) {Q : β → Prop} (h1 : Pr J) (h2 : ∀ j, Pr j → Q (f j)) : Q (joinK J f) := h2 J h1
structure In (w : S_addr_reader) : Prop where
 lo : 0 ≤ w.fat
 hi : w.fat ≤ (w.fs.length : Int)
 sm : w.fs.length ≤ 1000
structure To (w w' : S_addr_reader) : Prop where
 fs : w'.fs = w.fs
 lo : w.fat ≤ w'.fat
 hi : w'.fat ≤ (w.fs.length : Int)
theorem In.to {w w' : S_addr_reader} (h : In w) (t : To w w') : In w' := ⟨Int.le_trans h.lo t.lo, by rw [t.fs]; exact t.hi, by rw [t.fs]; exact h.sm⟩
theorem To.refl {w : S_addr_reader} (h : In w) : To w w := ⟨rfl, Int.le_refl _, h.hi⟩
theorem To.trans {a b c : S_addr_reader} (h : To a b) (k : To b c) : To a c := ⟨k.fs.trans h.fs, Int.le_trans h.lo k.lo, by rw [← h.fs]; exact k.hi⟩
theorem In.step {w : S_addr_reader} (h : In w) (hlt : w.fat < (w.fs.length : Int)) : IntKind.wrap .i64 (w.fat + 1) = w.fat + 1 ∧ To w { w with fat := w.fat + 1 } := by
 have := h.lo; have := h.hi; have := h.sm
 exact ⟨wrap_ok (by omega) (by omega), rfl, by show w.fat ≤ w.fat + 1; omega, by show w.fat + 1 ≤ _; omega⟩
theorem tot_take (n : Nat) {w : S_addr_reader} (a1 : Int) (h : In w) : ∃ b w', acall AXE AXF (n + 1) 145 [.one (.ptr 0 0), .one (.int .u8 a1)] [w.cells] = some (.one (.bool b), [w'.cells]) ∧ To w w' ∧ (b = true → w.fat < w'.fat) := by
 rw [f145_eq]
 unfold f145_L
 simp only [joinK_eq]
 by_cases hlt : w.fat < (w.fs.length : Int)
 · obtain ⟨u, _, hu⟩ := item_ex (l := w.fs) h.lo hlt
   obtain ⟨e1, e2⟩ := h.step hlt
   rw [cut_ok hlt, hu]
   cases hb : ((UInt8.toNat u : Int) == a1) with
   | true => exact ⟨true, _, by rw [e1]; rfl, e2, fun _ => by show w.fat < w.fat + 1; omega⟩
   | false => exact ⟨false, w, rfl, .refl h, fun h => by cases h⟩
 · rw [cut_no hlt]
   exact ⟨false, w, rfl, .refl h, fun h => by cases h⟩
theorem tot_next (n : Nat) {w : S_addr_reader} (h : In w) : ∃ c : Int, acall AXE AXF (n + 1) 65 [.one (.ptr 0 0)] [w.cells] = some (.one (.int .u8 c), [w.cells]) ∧ (c ≠ 0 → w.fat < (w.fs.length : Int)) := by
 rw [f65_eq]
 unfold f65_L
 have := h.hi
 by_cases he : w.fat = (w.fs.length : Int)
 · rw [show (w.fat == (w.fs.length : Int)) = true by rw [he]; exact beq_self_eq_true _]
   exact ⟨0, rfl, fun h => absurd rfl h⟩
 · obtain ⟨u, _, hu⟩ := item_ex (l := w.fs) (i := w.fat) h.lo (by omega)
   rw [show (w.fat == (w.fs.length : Int)) = false by simpa using he, cond_false, hu]
   exact ⟨_, rfl, fun _ => by omega⟩
theorem tot_letter (n : Nat) (c : Int) : ∃ b, acall AXE AXF (n + 1) 94 [.one (.int .u8 c)] [] = some (.one (.bool b), []) := by
 rw [f94_eq]
 unfold f94_L
 generalize decide (_ ≥ (97 : Int)) = x
 cases x with
 | true => exact ⟨_, rfl⟩
 | false => exact ⟨_, rfl⟩
theorem tot_digit (n : Nat) (c : Int) : ∃ b, acall AXE AXF (n + 1) 95 [.one (.int .u8 c)] [] = some (.one (.bool b), []) := by
 rw [f95_eq]
 unfold f95_L
 generalize decide (_ ≥ (48 : Int)) = x
 cases x with
 | true => exact ⟨_, rfl⟩
 | false => exact ⟨_, rfl⟩
theorem tot_lab1 (n : Nat) (c : UInt8) : ∃ b, acall AXE AXF (n + 2) 93 [.one (.int .u8 (c.toNat : Int))] [] = some (.one (.bool b), []) := by
 rw [f93_eq]
 unfold f93_L
 obtain ⟨x, hx⟩ := tot_letter n (c.toNat : Int)
 obtain ⟨y, hy⟩ := tot_digit n (c.toNat : Int)
 rw [callK_some hx, oB_one]
 cases x with
 | true => exact ⟨_, rfl⟩
 | false =>
  rw [cond_false, callK_some hy, oB_one]
  cases y with
  | true => exact ⟨_, rfl⟩
  | false => exact ⟨_, rfl⟩
theorem tot_atext (n : Nat) (c : UInt8) : ∃ b, acall AXE AXF (n + 2) 208 [.one (.int .u8 (c.toNat : Int))] [] = some (.one (.bool b), []) := by
 rw [f208_eq]
 unfold f208_L
 obtain ⟨x, hx⟩ := tot_letter n (c.toNat : Int)
 obtain ⟨y, hy⟩ := tot_digit n (c.toNat : Int)
 rw [callK_some hx, oB_one]
 cases x with
 | true => exact ⟨_, rfl⟩
 | false =>
  rw [cond_false, callK_some hy, oB_one]
  cases y with
  | true => exact ⟨_, rfl⟩
  | false =>
   have hc := c.toNat_lt
   rw [cond_false]
   have hp : pIndexByte [.one (.str [33, 35, 36, 37, 38, 39, 42, 43, 45, 47, 61, 63, 94, 95, 96, 123, 124, 125, 126]), .one (.int .u8 (c.toNat : Int))] = some (.one (.int .i64 (Lib.indexByte [33, 35, 36, 37, 38, 39, 42, 43, 45, 47, 61, 63, 94, 95, 96, 123, 124, 125, 126] (UInt8.ofNat (c.toNat : Int).toNat)))) := by
    show (bif decide (0 ≤ (c.toNat : Int)) && decide ((c.toNat : Int) < 256) then _ else _) = _
    rw [decide_eq_true (by omega), decide_eq_true (by omega)]; rfl
   rw [primK_some hp, oI_one]
   exact ⟨_, rfl⟩
theorem tot_run_loop {call : CallF} {n : Nat} {j1 : Int → S_addr_reader → OR} (hc : ∀ c : UInt8, ∃ b, call 93 [.one (.int .u8 (c.toNat : Int))] [] = some (.one (.bool b), [])) (x : Int) : ∀ (m : Nat) (w : S_addr_reader), In w → (w.fs.length : Int) - w.fat < m →
 ∃ w', loopJ (fun _ _ => none) (f92_B0 call n j1) m x w = j1 x w' ∧ To w w'
 | 0, w, h, hm => by have := h.hi; omega
 | m + 1, w, h, hm => by
  unfold loopJ
  unfold f92_B0
  by_cases hlt : w.fat < (w.fs.length : Int)
  · obtain ⟨u, _, hu⟩ := item_ex (l := w.fs) h.lo hlt
    obtain ⟨e1, e2⟩ := h.step hlt
    obtain ⟨b, hb⟩ := hc u
    rw [cut_ok hlt, hu, callK_some hb, oB_one]
    cases b with
    | true =>
     rw [cond_true, e1]
     obtain ⟨w', h1, h2⟩ := tot_run_loop (j1 := j1) (n := n) hc x m { w with fat := w.fat + 1 } (h.to e2) (by show (w.fs.length : Int) - (w.fat + 1) < m; omega)
     exact ⟨w', h1, e2.trans h2⟩
    | false => exact ⟨w, rfl, .refl h⟩
  · rw [cut_no hlt]; exact ⟨w, rfl, .refl h⟩
theorem tot_run1_loop {call : CallF} {n : Nat} {j1 : Int → S_addr_reader → OR} (hc : ∀ c : UInt8, ∃ b, call 208 [.one (.int .u8 (c.toNat : Int))] [] = some (.one (.bool b), [])) (x : Int) : ∀ (m : Nat) (w : S_addr_reader), In w → (w.fs.length : Int) - w.fat < m →
 ∃ w', loopJ (fun _ _ => none) (f92_1_B0 call n j1) m x w = j1 x w' ∧ To w w'
 | 0, w, h, hm => by have := h.hi; omega
 | m + 1, w, h, hm => by
  unfold loopJ
  unfold f92_1_B0
  by_cases hlt : w.fat < (w.fs.length : Int)
  · obtain ⟨u, _, hu⟩ := item_ex (l := w.fs) h.lo hlt
    obtain ⟨e1, e2⟩ := h.step hlt
    obtain ⟨b, hb⟩ := hc u
    rw [cut_ok hlt, hu, callK_some hb, oB_one]
    cases b with
    | true =>
     rw [cond_true, e1]
     obtain ⟨w', h1, h2⟩ := tot_run1_loop (j1 := j1) (n := n) hc x m { w with fat := w.fat + 1 } (h.to e2) (by show (w.fs.length : Int) - (w.fat + 1) < m; omega)
     exact ⟨w', h1, e2.trans h2⟩
    | false => exact ⟨w, rfl, .refl h⟩
  · rw [cut_no hlt]; exact ⟨w, rfl, .refl h⟩
theorem cut_len {l : List UInt8} {a b : Int} : ((l.take b.toNat).drop a.toNat).length ≤ l.length := by rw [List.length_drop, List.length_take]; omega
theorem tot_run {n : Nat} (hn : 1010 ≤ n) {w : S_addr_reader} (h : In w) : ∃ s w', acall AXE AXF (n + 1) 92 [.one (.ptr 0 0), .one (.clo 93 0 [])] [w.cells] = some (.one (.str s), [w'.cells]) ∧ To w w' ∧ s.length ≤ w.fs.length := by
 rw [f92_eq]
 unfold f92_L
 simp only [joinK_eq]
 obtain ⟨k, rfl⟩ : ∃ k, n = k + 2 := ⟨n - 2, by omega⟩
 have := h.lo; have := h.hi; have := h.sm
 obtain ⟨w', h1, h2⟩ := tot_run_loop (call := acall AXE AXF (k + 2)) (n := k + 2 + 1) (j1 := fun (x8 : Int) (x9 : S_addr_reader) => bif decide (0 ≤ x8 ∧ x8 ≤ x9.fat ∧ (Int.toNat x9.fat) ≤ (x9.fs).length) then (some (.one (.str ((x9.fs.take (Int.toNat x9.fat)).drop (Int.toNat x8))), [x9.cells])) else none) (fun c => tot_lab1 k c) w.fat (k + 2 + 1) w h (by omega)
 rw [h1]
 have e1 := h2.hi; have e2 := h2.lo; have e3 := h2.fs
 rw [cut_ok ⟨h.lo, e2, by rw [e3]; omega⟩]
 exact ⟨_, w', rfl, h2, by rw [e3]; exact cut_len⟩
theorem tot_run1 {n : Nat} (hn : 1010 ≤ n) {w : S_addr_reader} (h : In w) : ∃ s w', acall AXE AXF (n + 1) 92 [.one (.ptr 0 0), .one (.clo 208 0 [])] [w.cells] = some (.one (.str s), [w'.cells]) ∧ To w w' ∧ s.length ≤ w.fs.length := by
 rw [f92_1_eq]
 unfold f92_1_L
 simp only [joinK_eq]
 obtain ⟨k, rfl⟩ : ∃ k, n = k + 2 := ⟨n - 2, by omega⟩
 have := h.lo; have := h.hi; have := h.sm
 obtain ⟨w', h1, h2⟩ := tot_run1_loop (call := acall AXE AXF (k + 2)) (n := k + 2 + 1) (j1 := fun (x8 : Int) (x9 : S_addr_reader) => bif decide (0 ≤ x8 ∧ x8 ≤ x9.fat ∧ (Int.toNat x9.fat) ≤ (x9.fs).length) then (some (.one (.str ((x9.fs.take (Int.toNat x9.fat)).drop (Int.toNat x8))), [x9.cells])) else none) (fun c => tot_atext k c) w.fat (k + 2 + 1) w h (by omega)
 rw [h1]
 have e1 := h2.hi; have e2 := h2.lo; have e3 := h2.fs
 rw [cut_ok ⟨h.lo, e2, by rw [e3]; omega⟩]
 exact ⟨_, w', rfl, h2, by rw [e3]; exact cut_len⟩
theorem str_ne {s : List UInt8} (h : s ≠ []) : (s == ([] : List UInt8)) = false := by cases s with | nil => exact absurd rfl h | cons a r => rfl
theorem str_pos {s : List UInt8} (h : s ≠ []) : 0 < s.length := by cases s with | nil => exact absurd rfl h | cons a r => simp
theorem tot_label {n : Nat} (hn : 1020 ≤ n) {w : S_addr_reader} (h : In w) : ∃ b w', acall AXE AXF (n + 1) 64 [.one (.ptr 0 0)] [w.cells] = some (.one (.bool b), [w'.cells]) ∧ To w w' := by
 rw [f64_eq]
 unfold f64_L
 obtain ⟨k, rfl⟩ : ∃ k, n = k + 1 := ⟨n - 1, by omega⟩
 obtain ⟨s, w', h1, h2, h3⟩ := tot_run (n := k) (by omega) h
 have := h.sm
 rw [callRK_some h1, consK_cons, takeS_addr_reader_cells_nil, nilK_nil, nilK_nil, oS_one]
 by_cases hs : s = []
 · subst hs; exact ⟨_, w', rfl, h2⟩
 · have hp := str_pos hs
   obtain ⟨u, _, hu⟩ := item_ex (l := s) (i := 0) (by omega) (by omega)
   obtain ⟨v, _, hv⟩ := item_ex (l := s) (i := (s.length : Int) - 1) (by omega) (by omega)
   rw [str_ne hs, Bool.not_false, cond_true, hu, wrap_ok (by omega) (by omega), hv]
   generalize ((UInt8.toNat u : Int) != 45) = x
   cases x with
   | true => exact ⟨_, w', rfl, h2⟩
   | false => exact ⟨_, w', rfl, h2⟩
def pairOk (w : S_addr_reader) (r : OR) : Prop := ∃ s b w', r = some (.tup [.one (.str s), .one (.bool b)], [w'.cells]) ∧ To w w' ∧ s.length ≤ w.fs.length
theorem tot_dom_loop {call : CallF} {n : Nat} (hnx : ∀ w, In w → ∃ c : Int, call 65 [.one (.ptr 0 0)] [w.cells] = some (.one (.int .u8 c), [w.cells]) ∧ (c ≠ 0 → w.fat < (w.fs.length : Int)))
 (hlb : ∀ w, In w → ∃ b w', call 64 [.one (.ptr 0 0)] [w.cells] = some (.one (.bool b), [w'.cells]) ∧ To w w') (x : Int) (hx : 0 ≤ x) : ∀ (m : Nat) (w : S_addr_reader), In w → x ≤ w.fat → (w.fs.length : Int) - w.fat < m →
 pairOk w (loopJ (fun _ _ => none) (f45_B0 call n) m x w)
 | 0, w, h, h0, hm => by have := h.hi; omega
 | m + 1, w, h, h0, hm => by
  unfold loopJ
  unfold f45_B0 joinK
  obtain ⟨c, h1, h2⟩ := hnx w h
  have e0 := h.lo; have e1 := h.hi; have e2 := h.sm
  rw [callRK_some h1, consK_cons, takeS_addr_reader_cells_nil, nilK_nil, nilK_nil, oI_one]
  by_cases hc : c = 46
  · subst hc
    have hlt := h2 (by decide)
    obtain ⟨e3, e4⟩ := h.step hlt
    obtain ⟨b, w', h3, h4⟩ := hlb _ (h.to e4)
    rw [beq_self_eq_true, cond_true, e3, callRK_some h3, consK_cons, takeS_addr_reader_cells_nil, nilK_nil, nilK_nil, oB_one]
    have e5 := h4.lo
    have e6 : w.fat + 1 ≤ w'.fat := e5
    have e7 : To w w' := e4.trans h4
    cases b with
    | false => exact ⟨_, _, w', rfl, e7, Nat.zero_le _⟩
    | true =>
     rw [Bool.not_true, cond_false]
     obtain ⟨s, b, w2, h5, h6, h7⟩ := tot_dom_loop (n := n) hnx hlb x hx m w' (h.to e7) (by omega) (by rw [e7.fs]; omega)
     exact ⟨s, b, w2, h5, e7.trans h6, by rw [← e7.fs]; exact h7⟩
  · rw [show (c == 46) = false by simpa using hc, cond_false]
    have fin : ∀ lg, pairOk w (bif decide (0 ≤ x ∧ x ≤ ({ w with flarge := lg } : S_addr_reader).fat ∧ (Int.toNat ({ w with flarge := lg } : S_addr_reader).fat) ≤ (({ w with flarge := lg } : S_addr_reader).fs).length) then
     some (.tup [.one (.str ((({ w with flarge := lg } : S_addr_reader).fs.take (Int.toNat ({ w with flarge := lg } : S_addr_reader).fat)).drop (Int.toNat x))), .one (.bool true)], [({ w with flarge := lg } : S_addr_reader).cells]) else none) := fun lg => by
     rw [cut_ok ⟨hx, h0, by show w.fat.toNat ≤ w.fs.length; omega⟩]
     exact ⟨_, _, _, rfl, ⟨rfl, Int.le_refl _, h.hi⟩, cut_len⟩
    cases w.flarge with
    | true => exact fin true
    | false => exact fin _
theorem tot_domain {n : Nat} (hn : 1030 ≤ n) {w : S_addr_reader} (h : In w) : pairOk w (acall AXE AXF (n + 1) 45 [.one (.ptr 0 0)] [w.cells]) := by
 rw [f45_eq]
 unfold f45_L
 obtain ⟨k, rfl⟩ : ∃ k, n = k + 1 := ⟨n - 1, by omega⟩
 obtain ⟨b, w', h1, h2⟩ := tot_label (n := k) (by omega) h
 rw [callRK_some h1, consK_cons, takeS_addr_reader_cells_nil, nilK_nil, nilK_nil, oB_one]
 have := h.sm
 cases b with
 | false => exact ⟨_, _, w', rfl, h2, Nat.zero_le _⟩
 | true =>
  rw [Bool.not_true, cond_false]
  obtain ⟨s, b, w2, h5, h6, h7⟩ := tot_dom_loop (call := acall AXE AXF (k + 1)) (n := k + 1 + 1) (fun w h => tot_next k h) (fun w h => tot_label (n := k) (by omega) h) w.fat h.lo (k + 1 + 1) w' (h.to h2) h2.lo (by have := (h.to h2).hi; have := (h.to h2).lo; rw [h2.fs]; omega)
  exact ⟨s, b, w2, h5, h2.trans h6, by rw [← h2.fs]; exact h7⟩
theorem tot_atoms_loop {call : CallF} {n : Nat} (htk : ∀ w, In w → ∃ b w', call 145 [.one (.ptr 0 0), .one (.int .u8 46)] [w.cells] = some (.one (.bool b), [w'.cells]) ∧ To w w' ∧ (b = true → w.fat < w'.fat))
 (hrn : ∀ w, In w → ∃ s w', call 92 [.one (.ptr 0 0), .one (.clo 208 0 [])] [w.cells] = some (.one (.str s), [w'.cells]) ∧ To w w' ∧ s.length ≤ w.fs.length) (x : Int) (hx : 0 ≤ x) : ∀ (m : Nat) (w : S_addr_reader), In w → x ≤ w.fat → (w.fs.length : Int) - w.fat < m →
 pairOk w (loopJ (fun _ _ => none) (f196_B0 call n) m x w)
 | 0, w, h, h0, hm => by have := h.hi; omega
 | m + 1, w, h, h0, hm => by
  unfold loopJ
  unfold f196_B0
  obtain ⟨b, w1, h1, h2, h3⟩ := htk w h
  have e0 := h.lo; have e1 := h.hi; have e2 := h.sm
  have i1 := h.to h2
  have e3 := h2.lo; have e4 := h2.hi; have e5 := h2.fs
  rw [callRK_some h1, consK_cons, takeS_addr_reader_cells_nil, nilK_nil, nilK_nil, oB_one]
  cases b with
  | true =>
   obtain ⟨s, w2, h4, h5, h6⟩ := hrn w1 i1
   have e6 := h5.lo
   have e7 := h3 rfl
   rw [cond_true, callRK_some h4, consK_cons, takeS_addr_reader_cells_nil, nilK_nil, nilK_nil, oS_one]
   by_cases hs : s = []
   · subst hs; exact ⟨_, _, w2, rfl, h2.trans h5, Nat.zero_le _⟩
   · rw [str_ne hs, cond_false]
     have t := h2.trans h5
     obtain ⟨s, b, w3, h7, h8, h9⟩ := tot_atoms_loop (n := n) htk hrn x hx m w2 (h.to t) (by omega) (by rw [t.fs]; omega)
     exact ⟨s, b, w3, h7, t.trans h8, by rw [← t.fs]; exact h9⟩
  | false =>
   rw [cond_false, cut_ok ⟨hx, by omega, by rw [e5]; omega⟩]
   exact ⟨_, _, w1, rfl, h2, by rw [e5]; exact cut_len⟩
theorem tot_atoms {n : Nat} (hn : 1030 ≤ n) {w : S_addr_reader} (h : In w) : pairOk w (acall AXE AXF (n + 1) 196 [.one (.ptr 0 0)] [w.cells]) := by
 rw [f196_eq]
 unfold f196_L
 obtain ⟨k, rfl⟩ : ∃ k, n = k + 1 := ⟨n - 1, by omega⟩
 obtain ⟨s, w', h1, h2, _⟩ := tot_run1 (n := k) (by omega) h
 rw [callRK_some h1, consK_cons, takeS_addr_reader_cells_nil, nilK_nil, nilK_nil, oS_one]
 have := h.sm
 by_cases hs : s = []
 · subst hs; exact ⟨_, _, w', rfl, h2, Nat.zero_le _⟩
 · rw [str_ne hs, cond_false]
   obtain ⟨s, b, w2, h5, h6, h7⟩ := tot_atoms_loop (call := acall AXE AXF (k + 1)) (n := k + 1 + 1) (fun w h => tot_take k 46 h) (fun w h => tot_run1 (n := k) (by omega) h) w.fat h.lo (k + 1 + 1) w' (h.to h2) h2.lo (by have := (h.to h2).hi; have := (h.to h2).lo; rw [h2.fs]; omega)
   exact ⟨s, b, w2, h5, h2.trans h6, by rw [← h2.fs]; exact h7⟩
theorem quotedF_le : ∀ (m : Nat) (l : List UInt8), l.length ≤ m → quotedF l ≤ l.length
 | 0, l, hl => by obtain rfl : l = [] := List.eq_nil_of_length_eq_zero (by omega); simp [quotedF]
 | m + 1, [], _ => by simp [quotedF]
 | m + 1, [c], _ => by simp [quotedF]
 | m + 1, c :: d :: r, hl => by
  have h1 := quotedF_le m r (by simp at hl; omega)
  have h2 := quotedF_le m (d :: r) (by simp at hl ⊢; omega)
  simp only [List.length_cons] at h2
  unfold quotedF
  (repeat' split) <;> simp only [List.length_cons] <;> omega
theorem tot_quoted {w : S_addr_reader} (h : In w) : ∃ s b w', pQuoted [.one (.ptr 0 0)] w.cells = some (.tup [.one (.str s), .one (.bool b)], [.str w'.fs, .int .i64 w'.fat, .bool w'.flarge]) ∧ To w w' ∧ s.length ≤ w.fs.length := by
 have e0 := h.lo; have e1 := h.hi; have e2 := h.sm
 show ∃ s b w', (bif decide (0 ≤ w.fat) && (decide (w.fat.toNat ≤ w.fs.length) && decide (w.fs.length ≤ 1000000)) then _ else _) = _ ∧ _
 rw [decide_eq_true e0, decide_eq_true (by omega), decide_eq_true (by omega)]
 cases hq : quotedP (w.fs.drop w.fat.toNat) with
 | some x =>
  obtain ⟨t, k⟩ := x
  obtain ⟨k1, k2⟩ := quotedP_le _ _ (Nat.le_refl _) t k hq
  rw [List.length_drop] at k1
  exact ⟨t, true, ⟨w.fs, ((w.fat.toNat + k : Nat) : Int), w.flarge⟩, rfl, ⟨rfl, by show w.fat ≤ ((w.fat.toNat + k : Nat) : Int); omega, by show ((w.fat.toNat + k : Nat) : Int) ≤ _; omega⟩, by omega⟩
 | none =>
  have k1 := quotedF_le _ (w.fs.drop w.fat.toNat) (Nat.le_refl _)
  rw [List.length_drop] at k1
  exact ⟨[], false, ⟨w.fs, ((w.fat.toNat + quotedF (w.fs.drop w.fat.toNat) : Nat) : Int), w.flarge⟩, rfl, ⟨rfl, by show w.fat ≤ ((w.fat.toNat + quotedF (w.fs.drop w.fat.toNat) : Nat) : Int); omega, by show ((w.fat.toNat + quotedF (w.fs.drop w.fat.toNat) : Nat) : Int) ≤ _; omega⟩, Nat.zero_le _⟩
theorem tot_local {n : Nat} (hn : 1040 ≤ n) {w : S_addr_reader} (h : In w) : pairOk w (acall AXE AXF (n + 1) 177 [.one (.ptr 0 0)] [w.cells]) := by
 rw [f177_eq]
 unfold f177_L
 obtain ⟨k, rfl⟩ : ∃ k, n = k + 1 := ⟨n - 1, by omega⟩
 obtain ⟨b, w1, h1, h2, _⟩ := tot_take k 34 h
 refine join_prop (fun j => ∀ (s : List UInt8) (b : Bool) (w2 : S_addr_reader), To w w2 → s.length ≤ w.fs.length → pairOk w (j s b w2)) (Q := pairOk w) ?_ ?_
 · intro s b w2 t hl
   refine join_prop (fun j => ∀ (s : List UInt8) (b : Bool) (w2 : S_addr_reader), To w w2 → s.length ≤ w.fs.length → pairOk w (j s b w2)) (Q := pairOk w) ?_ ?_
   · intro s b w2 t hl
     cases b with
     | true => exact ⟨_, _, w2, rfl, t, hl⟩
     | false => exact ⟨_, _, w2, rfl, t, hl⟩
   · intro j hj
     have tt : ∀ lg, To w { w2 with flarge := lg } := fun lg => ⟨t.fs, t.lo, t.hi⟩
     cases w2.flarge with
     | true => exact hj _ _ _ (tt _) hl
     | false => exact hj _ _ _ (tt _) hl
 · intro j hj
   rw [callRK_some h1, consK_cons, takeS_addr_reader_cells_nil, nilK_nil, nilK_nil, oB_one]
   cases b with
   | true =>
    obtain ⟨s, b, w2, h3, h4, h5⟩ := tot_quoted (h.to h2)
    rw [cond_true, primHK_some h3, consK_cons, castS_one, consK_cons, castI_one, consK_cons, castB_one, nilK_nil, castTup_tup, zS_cons, zB_cons, nilK_nil]
    exact hj s b w2 (h2.trans h4) (by rw [← h2.fs]; exact h5)
   | false =>
    obtain ⟨s, b, w2, h3, h4, h5⟩ := tot_atoms (n := k) (by omega) (h.to h2)
    rw [cond_false, callRK_some h3, consK_cons, takeS_addr_reader_cells_nil, nilK_nil, nilK_nil, castTup_tup, zS_cons, zB_cons, nilK_nil]
    exact hj s b w2 (h2.trans h4) (by rw [← h2.fs]; exact h5)
theorem tot_route_loop {call : CallF} {n : Nat} (htk : ∀ (a : Int) w, In w → ∃ b w', call 145 [.one (.ptr 0 0), .one (.int .u8 a)] [w.cells] = some (.one (.bool b), [w'.cells]) ∧ To w w' ∧ (b = true → w.fat < w'.fat))
 (hdm : ∀ w, In w → pairOk w (call 45 [.one (.ptr 0 0)] [w.cells])) : ∀ (m : Nat) (w : S_addr_reader), In w → (w.fs.length : Int) - w.fat < m →
 ∃ b w', loopJ (fun _ => none) (f146_B0 call n) m w = some (.one (.bool b), [w'.cells]) ∧ To w w'
 | 0, w, h, hm => by have := h.hi; omega
 | m + 1, w, h, hm => by
  unfold loopJ
  unfold f146_B0
  obtain ⟨b, w1, h1, h2, h3⟩ := htk 64 w h
  have i1 := h.to h2
  rw [callRK_some h1, consK_cons, takeS_addr_reader_cells_nil, nilK_nil, nilK_nil, oB_one]
  cases b with
  | false => exact ⟨_, w1, rfl, h2⟩
  | true =>
   obtain ⟨s, b, w2, h4, h5, h6⟩ := hdm w1 i1
   have t2 := h2.trans h5
   have i2 := h.to t2
   rw [Bool.not_true, cond_false, callRK_some h4, consK_cons, takeS_addr_reader_cells_nil, nilK_nil, nilK_nil, castTup_tup, zS_cons, zB_cons, nilK_nil]
   cases b with
   | false => exact ⟨_, w2, rfl, t2⟩
   | true =>
    obtain ⟨b, w3, h7, h8, h9⟩ := htk 44 w2 i2
    have t3 := t2.trans h8
    have i3 := h.to t3
    rw [Bool.not_true, cond_false, callRK_some h7, consK_cons, takeS_addr_reader_cells_nil, nilK_nil, nilK_nil, oB_one]
    cases b with
    | false =>
     obtain ⟨b, w4, h10, h11, _⟩ := htk 58 w3 i3
     rw [Bool.not_false, cond_true, callRK_some h10, consK_cons, takeS_addr_reader_cells_nil, nilK_nil, nilK_nil, oB_one]
     exact ⟨_, w4, rfl, t3.trans h11⟩
    | true =>
     rw [Bool.not_true, cond_false]
     have e1 := h3 rfl; have e2 := h5.lo; have e3 := h8.lo
     obtain ⟨b, w4, h10, h11⟩ := tot_route_loop (n := n) htk hdm m w3 i3 (by rw [t3.fs]; omega)
     exact ⟨b, w4, h10, t3.trans h11⟩
theorem tot_route {n : Nat} (hn : 1040 ≤ n) {w : S_addr_reader} (h : In w) : ∃ b w', acall AXE AXF (n + 1) 146 [.one (.ptr 0 0)] [w.cells] = some (.one (.bool b), [w'.cells]) ∧ To w w' := by
 rw [f146_eq]
 unfold f146_L
 obtain ⟨k, rfl⟩ : ∃ k, n = k + 1 := ⟨n - 1, by omega⟩
 obtain ⟨c, h1, _⟩ := tot_next k h
 have := h.sm; have := h.lo
 rw [callRK_some h1, consK_cons, takeS_addr_reader_cells_nil, nilK_nil, nilK_nil, oI_one]
 generalize (c != 64) = x
 cases x with
 | true => exact ⟨_, w, rfl, .refl h⟩
 | false => exact tot_route_loop (n := k + 1 + 1) (fun a w h => tot_take k a h) (fun w h => tot_domain (n := k) (by omega) h) (k + 1 + 1) w h (by omega)
def mailOk (w : S_addr_reader) (r : OR) : Prop := ∃ s t b w', r = some (.tup [.agg [.str s, .str t], .one (.bool b)], [w'.cells]) ∧ To w w' ∧ s.length ≤ w.fs.length ∧ t.length ≤ w.fs.length
theorem tot_mailbox {n : Nat} (hn : 1050 ≤ n) {w : S_addr_reader} (h : In w) : mailOk w (acall AXE AXF (n + 1) 147 [.one (.ptr 0 0)] [w.cells]) := by
 rw [f147_eq]
 unfold f147_L
 obtain ⟨k, rfl⟩ : ∃ k, n = k + 1 := ⟨n - 1, by omega⟩
 obtain ⟨s, b, w1, h1, h2, h3⟩ := tot_local (n := k) (by omega) h
 have i1 := h.to h2
 rw [callRK_some h1, consK_cons, takeS_addr_reader_cells_nil, nilK_nil, nilK_nil, castTup_tup, zS_cons, zB_cons, nilK_nil]
 refine join_prop (fun j => ∀ (b : Bool) (w2 : S_addr_reader), To w w2 → mailOk w (j b w2 s [])) (Q := mailOk w) ?_ ?_
 · intro b w2 t2
   dsimp only
   cases b with
   | true => exact ⟨_, _, _, w2, rfl, t2, Nat.zero_le _, Nat.zero_le _⟩
   | false =>
    obtain ⟨t, b, w3, h6, h7, h8⟩ := tot_domain (n := k) (by omega) (h.to t2)
    rw [cond_false, callRK_some h6, consK_cons, takeS_addr_reader_cells_nil, nilK_nil, nilK_nil, castTup_tup, zS_cons, zB_cons, nilK_nil]
    exact ⟨_, _, _, w3, rfl, t2.trans h7, h3, by rw [← t2.fs]; exact h8⟩
 · intro j hj
   cases b with
   | false => exact hj true w1 h2
   | true =>
    obtain ⟨b, w2, h4, h5, _⟩ := tot_take k 64 i1
    rw [Bool.not_true, cond_false, callRK_some h4, consK_cons, takeS_addr_reader_cells_nil, nilK_nil, nilK_nil, oB_one]
    exact hj _ w2 (h2.trans h5)
theorem tot_end (n : Nat) (w : S_addr_reader) (s t : List UInt8) (b : Bool) : ∃ s' t' e, acall AXE AXF (n + 1) 148 [.one (.ptr 0 0), .agg [.str s, .str t], .one (.bool b)] [w.cells] = some (.tup [.agg [.str s', .str t'], .one (.int .i64 e)], [w.cells]) ∧ s'.length ≤ s.length ∧ t'.length ≤ t.length := by
 rw [f148_eq]
 unfold f148_L
 cases b with
 | false => exact ⟨_, _, _, rfl, Nat.zero_le _, Nat.zero_le _⟩
 | true =>
  rw [Bool.not_true, cond_false]
  cases w.flarge with
  | true => exact ⟨_, _, _, rfl, Nat.zero_le _, Nat.zero_le _⟩
  | false => exact ⟨_, _, _, rfl, Nat.le_refl _, Nat.le_refl _⟩
def readOk (l : List UInt8) (r : OR) : Prop := ∃ (s t : List UInt8) (k e : Int), r = some (.tup [.agg [.str s, .str t], .one (.int .i64 k), .one (.int .i64 e)], []) ∧ s.length ≤ 1000 ∧ t.length ≤ 1000 ∧ (e = 0 → 0 ≤ k ∧ k ≤ (l.length : Int))
theorem tot_read {n : Nat} (hn : 1060 ≤ n) (l : List UInt8) (hl : l.length ≤ 1000) (b : Bool) : readOk l (acall AXE AXF (n + 1) 129 [.one (.str l), .one (.bool b)] []) := by
 rw [f129_eq]
 unfold f129_L
 obtain ⟨k, rfl⟩ : ∃ k, n = k + 1 := ⟨n - 1, by omega⟩
 have i0 : In ⟨l, 0, false⟩ := ⟨Int.le_refl _, by show (0 : Int) ≤ (l.length : Int); omega, hl⟩
 obtain ⟨b1, w1, h1, h2, _⟩ := tot_take k 60 i0
 have i1 := i0.to h2
 refine join_prop (fun j => ∀ b5 : Bool, (b5 = true → 2 ≤ l.length) → readOk l (j l b5 [] [])) (Q := readOk l) ?_ ?_
 · intro b5 h5
   dsimp only
   cases b5 with
   | true => exact ⟨_, _, _, _, rfl, by simp, by simp, fun _ => ⟨by decide, by have := h5 rfl; omega⟩⟩
   | false =>
    rw [cond_false]
    refine join_prop (fun j => ∀ (b : Bool) (s t : List UInt8) (w : S_addr_reader), To ⟨l, 0, false⟩ w → s.length ≤ 1000 → t.length ≤ 1000 → readOk l (j b s t w)) (Q := readOk l) ?_ ?_
    · intro b s t w tw hs ht
      refine join_prop (fun j => ∀ (b : Bool) (s t : List UInt8) (w : S_addr_reader), To ⟨l, 0, false⟩ w → s.length ≤ 1000 → t.length ≤ 1000 → readOk l (j b s t w)) (Q := readOk l) ?_ ?_
      · intro b s t w tw hs ht
        refine join_prop (fun j => ∀ (e : Int) (s t : List UInt8) (w : S_addr_reader), To ⟨l, 0, false⟩ w → s.length ≤ 1000 → t.length ≤ 1000 → readOk l (j e s t w)) (Q := readOk l) ?_ ?_
        · intro e s t w tw hs ht
          dsimp only
          by_cases he : e = 0
          · subst he
            exact ⟨s, t, w.fat, 0, rfl, hs, ht, fun _ => ⟨tw.lo, tw.hi⟩⟩
          · rw [show (e != 0) = true by simpa using he]
            exact ⟨[], [], 0, e, rfl, by simp, by simp, fun h => absurd h he⟩
        · intro j hj
          have i2 := i0.to tw
          cases b with
          | true =>
           obtain ⟨b3, w3, h3, h4, _⟩ := tot_take k 62 i2
           obtain ⟨s', t', e, h5, h6, h7⟩ := tot_end k w3 s t b3
           rw [cond_true, callRK_some h3, consK_cons, takeS_addr_reader_cells_nil, nilK_nil, nilK_nil, oB_one, callRK_some h5, consK_cons, takeS_addr_reader_cells_nil, nilK_nil, nilK_nil, castTup_tup, consK_cons, aggV_agg, cS_cons, cS_cons, nilK_nil, zI_cons, nilK_nil]
           exact hj e s' t' w3 (tw.trans h4) (by omega) (by omega)
          | false =>
           obtain ⟨s', t', e, h5, h6, h7⟩ := tot_end k w s t false
           rw [cond_false, callRK_some h5, consK_cons, takeS_addr_reader_cells_nil, nilK_nil, nilK_nil, castTup_tup, consK_cons, aggV_agg, cS_cons, cS_cons, nilK_nil, zI_cons, nilK_nil]
           exact hj e s' t' w tw (by omega) (by omega)
      · intro j hj
        cases b with
        | false => exact hj false s t w tw hs ht
        | true =>
         obtain ⟨s, t, b3, w3, h5, h6, h7, h8⟩ := tot_mailbox (n := k) (by omega) (i0.to tw)
         have e := tw.fs
         rw [cond_true, callRK_some h5, consK_cons, takeS_addr_reader_cells_nil, nilK_nil, nilK_nil, castTup_tup, consK_cons, aggV_agg, cS_cons, cS_cons, nilK_nil, zB_cons, nilK_nil]
         rw [e] at h7 h8
         exact hj b3 s t w3 (tw.trans h6) (Nat.le_trans h7 hl) (Nat.le_trans h8 hl)
    · intro j hj
      rw [callRK_some h1, consK_cons, takeS_addr_reader_cells_nil, nilK_nil, nilK_nil, oB_one]
      cases b1 with
      | false => exact hj false [] [] w1 h2 (by simp) (by simp)
      | true =>
       obtain ⟨b2, w2, h3, h4⟩ := tot_route (n := k) (by omega) i1
       rw [cond_true, callRK_some h3, consK_cons, takeS_addr_reader_cells_nil, nilK_nil, nilK_nil, oB_one]
       exact hj b2 [] [] w2 (h2.trans h4) (by simp) (by simp)
 · intro j hj
   cases b with
   | false => exact hj false (fun h => by cases h)
   | true =>
    rw [cond_true, primK_some (p := pHasPrefix) (v := .one (.bool (([60, 62] : List UInt8).isPrefixOf l))) rfl, oB_one]
    refine hj _ fun hp => ?_
    obtain ⟨r, rfl⟩ := List.isPrefixOf_iff_prefix.1 hp
    simp
theorem tot_Domain {n : Nat} (hn : 1060 ≤ n) (l : List UInt8) (hl : l.length ≤ 1000) : ∃ b, acall AXE AXF (n + 1) 26 [.one (.str l)] [] = some (.one (.bool b), []) := by
 rw [f26_eq]
 unfold f26_L
 obtain ⟨k, rfl⟩ : ∃ k, n = k + 1 := ⟨n - 1, by omega⟩
 have i0 : In ⟨l, 0, false⟩ := ⟨Int.le_refl _, by show (0 : Int) ≤ (l.length : Int); omega, hl⟩
 obtain ⟨s, b, w, h1, h2, _⟩ := tot_domain (n := k) (by omega) i0
 rw [callRK_some h1, consK_cons, takeS_addr_reader_cells_nil, nilK_nil, nilK_nil, castTup_tup, zS_cons, zB_cons, nilK_nil]
 cases b with
 | false => exact ⟨_, rfl⟩
 | true =>
  rw [cond_true]
  generalize (w.fat == (l.length : Int)) = x
  cases x with
  | true => exact ⟨_, rfl⟩
  | false => exact ⟨_, rfl⟩
end AX
end Go.Proofs.YtnkppakkeobegaaGreatDoor
