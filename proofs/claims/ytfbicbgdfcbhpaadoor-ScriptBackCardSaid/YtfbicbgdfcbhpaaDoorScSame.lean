/-
  Layer 31: two events compared, in the program and in the reference.
-/
import Derived.Test.YtfbicbgdfcbhpaaDoorScRead2
set_option maxRecDepth 20000
set_option linter.unusedVariables false
set_option linter.unusedSimpArgs false
set_option linter.unusedSectionVars false
namespace Go.Proofs.YtfbicbgdfcbhpaaDoor
open SC
namespace AX
theorem drop_ne {α : Type} [DecidableEq α] {a b : List α} {i : Nat} (ha : i < a.length) (hb : i < b.length) : decide (a.drop i = b.drop i) = (decide (a[i] = b[i]) && decide (a.drop (i + 1) = b.drop (i + 1))) := by
  rw [List.drop_eq_getElem_cons ha, List.drop_eq_getElem_cons hb, Bool.eq_iff_iff]
  simp only [decide_eq_true_eq, Bool.and_eq_true, List.cons.injEq]
theorem sameInts_loop {call : CallF} {n : Nat} (a b : List Int) (hl : a.length = b.length) (hs : a.length ≤ 1000000) : ∀ (m i : Nat), i ≤ a.length → a.length < i + m →
    f30_L5 call n m (ints a) (ints b) (i : Int) = some (.one (.bool (decide (a.drop i = b.drop i))), [])
  | 0, i, h1, h2 => by omega
  | m + 1, i, h1, h2 => by
    have ih := sameInts_loop (call := call) (n := n) a b hl hs m (i + 1)
    rw [f30_L5, f30_T5, ints_len, Nat.div_one]
    by_cases h : i < a.length
    · rw [decide_eq_true (by omega), cond_true, item_int h, castI_one, item_int (by omega), castI_one, drop_ne h (by omega), wrap_ok (by omega) (by omega), show ((i : Int) + 1) = ((i + 1 : Nat) : Int) by omega, ih (by omega) (by omega)]
      by_cases he : a[i] = b[i]
      · rw [show (a[i] != b[i]) = false by simpa using he, decide_eq_true he]; rfl
      · rw [show (a[i] != b[i]) = true by simpa using he, decide_eq_false he]; rfl
    · rw [decide_eq_false (by omega), cond_false, List.drop_of_length_le (by omega), List.drop_of_length_le (by omega)]; rfl
theorem sameInts_at (n : Nat) (a b : List Int) (ha : a.length ≤ 1000000) (hn : 1000002 ≤ n) : acall AXE AXF (n + 1) 30 [.one (.sl none 1 (ints a)), .one (.sl none 1 (ints b))] [] = some (.one (.bool (decide (a = b))), []) := by
  rw [f30_eq, f30_L, f30_T, ints_len, ints_len, Nat.div_one, Nat.div_one]
  by_cases h : a.length = b.length
  · rw [show ((a.length : Int) != (b.length : Int)) = false by simp; omega, cond_false]
    exact sameInts_loop a b h ha _ 0 (by omega) (by omega)
  · rw [show ((a.length : Int) != (b.length : Int)) = true by simp; omega, cond_true, decide_eq_false (fun e => h (by rw [e]))]
theorem equalS_loop {call : CallF} {n : Nat} (a b : List (List UInt8)) (hl : a.length = b.length) (hs : a.length ≤ 1000000) : ∀ (m i : Nat), i ≤ a.length → a.length < i + m →
    f57_L5 call n m (strs a) (strs b) (a.length : Int) (i : Int) = some (.one (.bool (decide (a.drop i = b.drop i))), [])
  | 0, i, h1, h2 => by omega
  | m + 1, i, h1, h2 => by
    have ih := equalS_loop (call := call) (n := n) a b hl hs m (i + 1)
    rw [f57_L5, f57_T5]
    by_cases h : i < a.length
    · rw [decide_eq_true (by omega), cond_true, item_str h, castS_one, item_str (by omega), castS_one, drop_ne h (by omega), wrap_ok (by omega) (by omega), show ((i : Int) + 1) = ((i + 1 : Nat) : Int) by omega, ih (by omega) (by omega)]
      by_cases he : a[i] = b[i]
      · rw [show (a[i] == b[i]) = true by simpa using he, decide_eq_true he]; rfl
      · rw [show (a[i] == b[i]) = false by simpa using he, decide_eq_false he]; rfl
    · rw [decide_eq_false (by omega), cond_false, List.drop_of_length_le (by omega), List.drop_of_length_le (by omega)]; rfl
theorem equalS_at (n : Nat) (a b : List (List UInt8)) (ha : a.length ≤ 1000000) (hn : 1000002 ≤ n) : acall AXE AXF (n + 1) 57 [.one (.sl none 1 (strs a)), .one (.sl none 1 (strs b))] [] = some (.one (.bool (decide (a = b))), []) := by
  rw [f57_eq, f57_L, f57_T, strs_len, strs_len, Nat.div_one, Nat.div_one]
  by_cases h : a.length = b.length
  · rw [show ((a.length : Int) != (b.length : Int)) = false by simp; omega, cond_false]
    exact equalS_loop a b h ha _ 0 (by omega) (by omega)
  · rw [show ((a.length : Int) != (b.length : Int)) = true by simp; omega, cond_true, decide_eq_false (fun e => h (by rw [e]))]
theorem equalI_loop {call : CallF} {n : Nat} (a b : List Int) (hl : a.length = b.length) (hs : a.length ≤ 1000000) : ∀ (m i : Nat), i ≤ a.length → a.length < i + m →
    f58_L5 call n m (ints a) (ints b) (a.length : Int) (i : Int) = some (.one (.bool (decide (a.drop i = b.drop i))), [])
  | 0, i, h1, h2 => by omega
  | m + 1, i, h1, h2 => by
    have ih := equalI_loop (call := call) (n := n) a b hl hs m (i + 1)
    rw [f58_L5, f58_T5]
    by_cases h : i < a.length
    · rw [decide_eq_true (by omega), cond_true, item_int h, castI_one, item_int (by omega), castI_one, drop_ne h (by omega), wrap_ok (by omega) (by omega), show ((i : Int) + 1) = ((i + 1 : Nat) : Int) by omega, ih (by omega) (by omega)]
      by_cases he : a[i] = b[i]
      · rw [show (a[i] != b[i]) = false by simpa using he, decide_eq_true he]; rfl
      · rw [show (a[i] != b[i]) = true by simpa using he, decide_eq_false he]; rfl
    · rw [decide_eq_false (by omega), cond_false, List.drop_of_length_le (by omega), List.drop_of_length_le (by omega)]; rfl
theorem equalI_at (n : Nat) (a b : List Int) (ha : a.length ≤ 1000000) (hn : 1000002 ≤ n) : acall AXE AXF (n + 1) 58 [.one (.sl none 1 (ints a)), .one (.sl none 1 (ints b))] [] = some (.one (.bool (decide (a = b))), []) := by
  rw [f58_eq, f58_L, f58_T, ints_len, ints_len, Nat.div_one, Nat.div_one]
  by_cases h : a.length = b.length
  · rw [show ((a.length : Int) != (b.length : Int)) = false by simp; omega, cond_false]
    exact equalI_loop a b h ha _ 0 (by omega) (by omega)
  · rw [show ((a.length : Int) != (b.length : Int)) = true by simp; omega, cond_true, decide_eq_false (fun e => h (by rw [e]))]
/-- short lists in an event -/
def Thin (e : PE) : Prop := e.tos.length ≤ 1000000 ∧ e.keep.length ≤ 1000000
theorem pe_eq (p q : PE) : p = q ↔ p.kind = q.kind ∧ p.slot = q.slot ∧ p.n = q.n ∧ p.k = q.k ∧ p.lmtp = q.lmtp ∧ p.name = q.name ∧ (p.lb = q.lb ∧ p.lc = q.lc) ∧ p.code = q.code ∧ p.data = q.data ∧ p.tos = q.tos ∧ p.keep = q.keep := by
  cases p; cases q; simp only [PE.mk.injEq]; constructor
  · rintro ⟨a, b, c, d, e, f, g, h, i, j, k, l⟩; exact ⟨a, b, c, d, e, f, ⟨g, h⟩, k, j, i, l⟩
  · rintro ⟨a, b, c, d, e, f, ⟨g, h⟩, k, j, i, l⟩; exact ⟨a, b, c, d, e, f, g, h, i, j, k, l⟩
/-- the scalars first -/
theorem scal {α : Type} (p q : PE) (A B : α) : (bif ((evP p).fKind != (evP q).fKind) then A else (
    bif ((evP p).fSlot != (evP q).fSlot) then A else (
      bif ((evP p).fN != (evP q).fN) then A else (
        bif ((evP p).fK != (evP q).fK) then A else (
          bif (!((evP p).fLmtp == (evP q).fLmtp)) then A else (
            bif (!((evP p).fName == (evP q).fName)) then A else (
              bif (!(((evP p).fLimit_Bytes == (evP q).fLimit_Bytes) && (((evP p).fLimit_Count == (evP q).fLimit_Count) && true))) then A else B))))))) =
    if p.kind = q.kind ∧ p.slot = q.slot ∧ p.n = q.n ∧ p.k = q.k ∧ p.lmtp = q.lmtp ∧ p.name = q.name ∧ (p.lb = q.lb ∧ p.lc = q.lc) then B else A := by
  show (bif (p.kind != q.kind) then A else (bif (p.slot != q.slot) then A else (bif (p.n != q.n) then A else (bif (p.k != q.k) then A else (bif (!(p.lmtp == q.lmtp)) then A else (bif (!(p.name == q.name)) then A else (bif (!((p.lb == q.lb) && ((p.lc == q.lc) && true))) then A else B))))))) = _
  simp only [Bool.cond_eq_ite, bne_iff_ne, ne_eq, Bool.not_eq_true', beq_eq_false_iff_ne, Bool.and_true, Bool.and_eq_false_iff]
  (repeat' split) <;> first | rfl | (exfalso; simp_all)
theorem rSame_loop {call : CallF} {n : Nat} (p q : PE) (hp : Thin p) (hl : p.tos.length = q.tos.length) (hi : call 30 [.one (.sl none 1 (ints p.keep)), .one (.sl none 1 (ints q.keep))] [] = some (.one (.bool (decide (p.keep = q.keep))), [])) : ∀ (m i : Nat), i ≤ p.tos.length → p.tos.length < i + m →
    f10_L5 call n m (i : Int) (evP p) (evP q) = some (.one (.bool (decide (p.tos.drop i = q.tos.drop i) && decide (p.keep = q.keep))), [])
  | 0, i, h1, h2 => by omega
  | m + 1, i, h1, h2 => by
    have ih := rSame_loop (call := call) (n := n) p q hp hl hi m (i + 1)
    have hp1 := hp.1
    rw [f10_L5, f10_T5, show (evP p).fTo = strs p.tos by rfl, show (evP q).fTo = strs q.tos by rfl, strs_len, Nat.div_one]
    by_cases h : i < p.tos.length
    · rw [decide_eq_true (by omega), cond_true, item_str h, castS_one, item_str (by omega), castS_one, drop_ne h (by omega), wrap_ok (by omega) (by omega), show ((i : Int) + 1) = ((i + 1 : Nat) : Int) by omega, ih (by omega) (by omega)]
      by_cases he : p.tos[i] = q.tos[i]
      · rw [show (p.tos[i] == q.tos[i]) = true by simpa using he, decide_eq_true he]; rfl
      · rw [show (p.tos[i] == q.tos[i]) = false by simpa using he, decide_eq_false he]; rfl
    · rw [decide_eq_false (by omega), cond_false, List.drop_of_length_le (by omega), List.drop_of_length_le (by omega)]
      refine (callK_some hi _).trans ?_
      rfl
theorem rSame_core {call : CallF} {n : Nat} (p q : PE) (hp : Thin p) (hn : 1000010 ≤ n) (hi : call 30 [.one (.sl none 1 (ints p.keep)), .one (.sl none 1 (ints q.keep))] [] = some (.one (.bool (decide (p.keep = q.keep))), [])) :
    f10_L call n (evP p) (evP q) = some (.one (.bool (decide (p = q))), []) := by
  have hp1 := hp.1
  rw [f10_L, f10_T, scal, decide_eq_decide.2 (pe_eq p q)]
  have hno : f10_L1 call n true (evP p) (evP q) = some (.one (.bool false), []) := rfl
  split
  · rename_i hs
    rw [show ((evP p).fCode != (evP q).fCode) = (p.code != q.code) by rfl, show (evP p).fData = byteCells p.data by rfl, show (evP q).fData = byteCells q.data by rfl, bytesK_cells, bytesK_cells, show (evP p).fTo = strs p.tos by rfl, show (evP q).fTo = strs q.tos by rfl, strs_len, strs_len, Nat.div_one, Nat.div_one, hno]
    obtain ⟨h1, h2, h3, h4, h5, h6, h7⟩ := hs
    by_cases hc : p.code = q.code
    · rw [show (p.code != q.code) = false by simpa using hc, cond_false]
      by_cases hd : p.data = q.data
      · rw [show (p.data == q.data) = true by simpa using hd, Bool.not_true, cond_false]
        by_cases hl : p.tos.length = q.tos.length
        · rw [show ((p.tos.length : Int) != (q.tos.length : Int)) = false by simp; omega]
          rw [f10_L1, f10_T1, cond_false]
          have := rSame_loop (n := n) p q hp hl hi n 0 (by omega) (by omega)
          refine this.trans ?_
          simp [h1, h2, h3, h4, h5, h6, h7, hc, hd]
        · rw [show ((p.tos.length : Int) != (q.tos.length : Int)) = true by simp; omega, hno, decide_eq_false]
          rintro ⟨_, _, _, _, _, _, _, _, _, h, _⟩; exact hl (by rw [h])
      · rw [show (p.data == q.data) = false by simpa using hd, Bool.not_false, cond_true, decide_eq_false]
        rintro ⟨_, _, _, _, _, _, _, _, h, _⟩; exact hd h
    · rw [show (p.code != q.code) = true by simpa using hc, cond_true, decide_eq_false]
      rintro ⟨_, _, _, _, _, _, _, h, _⟩; exact hc h
  · rename_i hs
    rw [hno, decide_eq_false]
    rintro ⟨h1, h2, h3, h4, h5, h6, h7, _⟩; exact hs ⟨h1, h2, h3, h4, h5, h6, h7⟩
theorem rSame_at (n : Nat) (p q : PE) (hp : Thin p) (hn : 1000010 ≤ n) : acall AXE AXF (n + 1) 10 [.agg (evP p).cells, .agg (evP q).cells] [] = some (.one (.bool (decide (p = q))), []) := by
  obtain ⟨n, rfl⟩ : ∃ k, n = k + 1 := ⟨n - 1, by omega⟩
  have hi := sameInts_at n p.keep q.keep hp.2 (by omega)
  rw [f10_eq]
  exact rSame_core p q hp (by omega) hi
theorem same_core {call : CallF} {n : Nat} (p q : PE) (hp : Thin p) (hi : call 58 [.one (.sl none 1 (ints p.keep)), .one (.sl none 1 (ints q.keep))] [] = some (.one (.bool (decide (p.keep = q.keep))), []))
    (ht : call 57 [.one (.sl none 1 (strs p.tos)), .one (.sl none 1 (strs q.tos))] [] = some (.one (.bool (decide (p.tos = q.tos))), [])) :
    f32_L call n (evP p) (evP q) = some (.one (.bool (decide (p = q))), []) := by
  rw [f32_L, f32_T, scal, decide_eq_decide.2 (pe_eq p q)]
  have hno : f32_L1 call n true (evP p) (evP q) = some (.one (.bool false), []) := rfl
  split
  · rename_i hs
    obtain ⟨h1, h2, h3, h4, h5, h6, h7⟩ := hs
    rw [show ((evP p).fCode != (evP q).fCode) = (p.code != q.code) by rfl]
    by_cases hc : p.code = q.code
    · rw [show (p.code != q.code) = false by simpa using hc, f32_L1, f32_T1, cond_false, show (evP p).fData = byteCells p.data by rfl, show (evP q).fData = byteCells q.data by rfl, bytesK_cells, bytesK_cells]
      by_cases hd : p.data = q.data
      · rw [show (p.data == q.data) = true by simpa using hd, cond_true]
        refine (callK_some ht _).trans ?_
        rw [oB_one]
        by_cases hl : p.tos = q.tos
        · rw [decide_eq_true hl, cond_true]
          refine (callK_some hi _).trans ?_
          rw [oB_one]
          simp [h1, h2, h3, h4, h5, h6, h7, hc, hd, hl]; rfl
        · rw [decide_eq_false hl, decide_eq_false (by rintro ⟨_, _, _, _, _, _, _, _, _, h, _⟩; exact hl h)]; rfl
      · rw [show (p.data == q.data) = false by simpa using hd, decide_eq_false (by rintro ⟨_, _, _, _, _, _, _, _, h, _⟩; exact hd h)]; rfl
    · rw [show (p.code != q.code) = true by simpa using hc, hno, decide_eq_false]
      rintro ⟨_, _, _, _, _, _, _, h, _⟩; exact hc h
  · rename_i hs
    have e : ∀ b : Bool, (b = true ∨ b = false) := fun b => by cases b <;> simp
    rw [hno, decide_eq_false]
    rintro ⟨h1, h2, h3, h4, h5, h6, h7, _⟩; exact hs ⟨h1, h2, h3, h4, h5, h6, h7⟩
theorem same_at (n : Nat) (p q : PE) (hp : Thin p) (hn : 1000010 ≤ n) : acall AXE AXF (n + 1) 32 [.agg (evP p).cells, .agg (evP q).cells] [] = some (.one (.bool (decide (p = q))), []) := by
  obtain ⟨n, rfl⟩ : ∃ k, n = k + 1 := ⟨n - 1, by omega⟩
  have hi := equalI_at n p.keep q.keep hp.2 (by omega)
  have ht := equalS_at n p.tos q.tos hp.1 (by omega)
  rw [f32_eq]
  exact same_core p q hp hi ht
end AX
end Go.Proofs.YtfbicbgdfcbhpaaDoor
