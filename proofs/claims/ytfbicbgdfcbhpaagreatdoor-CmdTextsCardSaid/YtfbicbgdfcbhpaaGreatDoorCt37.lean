/-
  CmLeaf.
-/
import Derived.Test.YtfbicbgdfcbhpaaGreatDoorCt35
import Derived.Test.YtfbicbgdfcbhpaaGreatDoorCt36
set_option maxRecDepth 20000
set_option linter.unusedVariables false
set_option linter.unusedSimpArgs false
set_option linter.unusedSectionVars false
namespace Go.Proofs.YtfbicbgdfcbhpaaGreatDoor
open SC CM
namespace AX
theorem cm_bytesK : ∀ (l : List UInt8) (k : List UInt8 → OR), bytesK (byteCells l) k = k l
 | [], k => rfl
 | c :: l, k => by
  show castI .u8 (.int .u8 (c.toNat : Int)) _ = _
  rw [castI_one]
  have := cm_bytesK l fun l => k (UInt8.ofNat (c.toNat : Int).toNat :: l)
  refine this.trans ?_
  simp
theorem row_byte {l : List UInt8} {i : Nat} (h : i < l.length) {k : Cell → OR} : rowAt (byteCells l) i k = k (.int .u8 (l[i].toNat : Int)) := by
 rw [rowAt_at (by rw [byteCells_len]; exact h), byteCells_get h]
theorem set_byte (l : List UInt8) (i : Nat) (c : UInt8) : (byteCells l).set i (.int .u8 (c.toNat : Int)) = byteCells (l.set i c) := by
 simp [byteCells, List.map_set]
theorem take_byte (l : List UInt8) : (byteCells l).take l.length = byteCells l := by
 rw [List.take_of_length_le (by rw [byteCells_len]; omega)]
theorem lowC_iff (c : UInt8) : lowC c = true ↔ 97 ≤ c.toNat ∧ c.toNat ≤ 122 := by unfold lowC; simp
theorem upper_step {l : List UInt8} {i : Nat} (h : i < l.length) : (l.set i (upC l[i])).take (i + 1) ++ upL ((l.set i (upC l[i])).drop (i + 1)) = l.take i ++ upL (l.drop i) := by
 rw [List.drop_set_of_lt (by omega), List.take_set, List.take_succ_eq_append_getElem h, List.drop_eq_getElem_cons h]
 unfold upL
 rw [List.set_append_right _ _ (by simp; omega)]
 have e := List.drop_eq_getElem_cons (l := l.map upC) (i := i) (by simpa using h)
 simp [Nat.min_eq_left (Nat.le_of_lt h), e]
theorem upper_loop {call : CallF} {n : Nat} : ∀ (m i : Nat) (l : List UInt8), l.length ≤ 100000000 → i ≤ l.length → l.length < i + m →
 f42_L3 call n m l.length l.length (l.length : Int) (i : Int) (byteCells l) = some (.one (.str (l.take i ++ upL (l.drop i))), [])
 | 0, i, l, hl, h1, h2 => by omega
 | m + 1, i, l, hl, h1, h2 => by
  simp only [f42_T10, f42_L10, f42_T11, f42_L11, f42_T9, f42_L9, f42_T3, f42_L3, f42_T, f42_L]
  by_cases h : i < l.length
  · have hc := lowC_iff l[i]
    rw [decide_eq_true (show (i : Int) < (l.length : Int) by omega), cond_true, guard_ok (by simp; omega), Int.toNat_natCast, Nat.mul_one, row_byte h, castI_one,
     wrap_ok (x := (i : Int) + 1) (by omega) (by omega), show ((i : Int) + 1) = ((i + 1 : Nat) : Int) by omega]
    cases hb : lowC l[i] with
    | true =>
     rw [hb] at hc; simp only [true_iff] at hc
     rw [decide_eq_true (by omega), cond_true, decide_eq_true (by omega), cond_true, guard_ok (by simp; omega), byteCells_len, show Nat.blt i l.length = true by rw [Nat.blt_eq]; exact h, cond_true, up_and _ hb, set_byte]
     have ih := upper_loop (call := call) (n := n) m (i + 1) (l.set i (upC l[i])) (by simpa using hl) (by simp; omega) (by simp; omega)
     rw [List.length_set] at ih
     rw [ih, upper_step h]
    | false =>
     rw [hb] at hc; simp only [Bool.false_eq_true, false_iff] at hc
     have e : upC l[i] = l[i] := by unfold upC; rw [hb]; rfl
     have ih := upper_loop (call := call) (n := n) m (i + 1) l hl (by omega) (by omega)
     have st := upper_step h
     rw [e, List.set_getElem_self] at st
     rw [st] at ih
     by_cases h3 : 97 ≤ l[i].toNat
     · rw [decide_eq_true (by omega), cond_true, decide_eq_false (by omega), cond_false]; exact ih
     · rw [decide_eq_false (by omega), cond_false, cond_false]; exact ih
  · rw [decide_eq_false (by omega), cond_false, byteCells_len, show Nat.ble l.length l.length = true by simp, cond_true, take_byte, cm_bytesK, List.drop_of_length_le (by omega), List.take_of_length_le (by omega)]
    simp [upL]
theorem upper_at (n : Nat) (l : List UInt8) (hl : l.length ≤ 100000000) (hn : l.length < n) : acall AXE AXF (n + 1) 42 [.one (.str l)] [] = some (.one (.str (upL l)), []) := by
 rw [f42_eq, f42_L, f42_T]
 have := upper_loop (call := acall AXE AXF n) (n := n + 1) (n + 1) 0 l hl (by omega) (by omega)
 simpa using this
theorem words_at (n : Nat) : acall AXE AXF (n + 1) 43 [] [] = some (.one (.sl (some ⟨0, 0, 9⟩) 1 (wordsL.map .str)), []) := by
 rw [f43_eq]; rfl
theorem strs_item {ws : List (List UInt8)} {i : Nat} (h : i < ws.length) {k : Cell → OR} : itemK (ws.map Cell.str) (i : Int) k = k (.str ws[i]) := by
 rw [item_at (by simpa using h), List.getElem_map]
theorem verb_loop {call : CallF} {n : Nat} (w : List UInt8) (ws : List (List UInt8)) (hw : ws.length ≤ 1000) : ∀ (m i : Nat), i ≤ ws.length → ws.length < i + m →
 f16_L3 call n m w (ws.map .str) (ws.length : Int) (i : Int) = some (.one (.int .i64 (findW w (ws.drop i) i : Nat)), [])
 | 0, i, h1, h2 => by omega
 | m + 1, i, h1, h2 => by
  have ih := verb_loop (call := call) (n := n) w ws hw m (i + 1)
  simp only [f16_T10, f16_L10, f16_T11, f16_L11, f16_T9, f16_L9, f16_T3, f16_L3, f16_T, f16_L]
  by_cases h : i < ws.length
  · rw [decide_eq_true (by omega), cond_true, strs_item h, castS_one, List.drop_eq_getElem_cons h, findW, wrap_ok (by omega) (by omega), show ((i : Int) + 1) = ((i + 1 : Nat) : Int) by omega, ih (by omega) (by omega)]
    by_cases h0 : 0 < i
    · rw [decide_eq_true (by omega), cond_true]
      by_cases hx : ws[i] = w
      · rw [if_pos ⟨h0, hx⟩, hx, beq_self_eq_true, cond_true]
      · rw [if_neg (fun h => hx h.2), show (ws[i] == w) = false by simpa using hx, cond_false]
    · rw [decide_eq_false (by omega), cond_false, cond_false, if_neg (fun h => h0 h.1)]
  · rw [decide_eq_false (by omega), cond_false, List.drop_of_length_le (by omega)]; rfl
theorem verb_core {call : CallF} {n : Nat} (hn : 100 ≤ n) (l : List UInt8) (hu : call 42 [.one (.str l)] [] = some (.one (.str (upL l)), [])) (hw : call 43 [] [] = some (.one (.sl (some ⟨0, 0, 9⟩) 1 (wordsL.map .str)), [])) :
 f16_L call n l = some (.one (.int .i64 (verbQ l : Nat)), []) := by
 rw [f16_L, f16_T, callK_some hu, oS_one, callK_some hw, oL_one, List.length_map, Nat.div_one]
 have hlen : wordsL.length = 12 := rfl
 exact verb_loop (call := call) (n := n) (upL l) wordsL (by omega) n 0 (by omega) (by omega)
theorem Verb_at (n : Nat) (l : List UInt8) (hl : l.length ≤ 100000000) (hn : l.length + 100 ≤ n) : acall AXE AXF (n + 1) 16 [.one (.str l)] [] = some (.one (.int .i64 (verbQ l : Nat)), []) := by
 rw [f16_eq]
 obtain ⟨k, rfl⟩ : ∃ k, n = k + 1 := ⟨n - 1, by omega⟩
 exact verb_core (by omega) l (upper_at k l hl (by omega)) (words_at k)
theorem printC_iff (c : UInt8) : printC c = true ↔ 32 ≤ c.toNat ∧ c.toNat ≤ 126 := by unfold printC; simp
theorem printL_cons (c : UInt8) (r : List UInt8) : printL (c :: r) = (printC c && printL r) := List.all_cons
theorem printed_loop {call : CallF} {n : Nat} (l : List UInt8) (hl : l.length ≤ 100000000) : ∀ (m i : Nat), i ≤ l.length → l.length < i + m →
 f33_L2 call n m (byteCells l) (l.length : Int) (i : Int) = some (.one (.bool (printL (l.drop i))), [])
 | 0, i, h1, h2 => by omega
 | m + 1, i, h1, h2 => by
  have ih := printed_loop (call := call) (n := n) l hl m (i + 1)
  simp only [f33_T10, f33_L10, f33_T8, f33_L8, f33_T2, f33_L2, f33_T, f33_L]
  by_cases h : i < l.length
  · have hc := printC_iff l[i]
    rw [decide_eq_true (by omega), cond_true, item_byte h, castI_one, wrap_ok (by omega) (by omega), show ((i : Int) + 1) = ((i + 1 : Nat) : Int) by omega, ih (by omega) (by omega), List.drop_eq_getElem_cons h, printL_cons]
    cases hb : printC l[i] with
    | true =>
     rw [hb] at hc; simp only [true_iff] at hc
     rw [decide_eq_false (by omega), cond_false, decide_eq_false (by omega), cond_false, Bool.true_and]
    | false =>
     rw [hb] at hc; simp only [Bool.false_eq_true, false_iff] at hc
     rw [Bool.false_and]
     by_cases h3 : l[i].toNat < 32
     · rw [decide_eq_true (by omega), cond_true, cond_true]
     · rw [decide_eq_false (by omega), cond_false, decide_eq_true (by omega), cond_true]
  · rw [decide_eq_false (by omega), cond_false, List.drop_of_length_le (by omega)]; rfl
theorem printed_at (n : Nat) (l : List UInt8) (hl : l.length ≤ 100000000) (hn : l.length < n) : acall AXE AXF (n + 1) 33 [.one (.str l)] [] = some (.one (.bool (printL l)), []) := by
 rw [f33_eq, f33_L, f33_T, byteCells_len, Nat.div_one]
 exact printed_loop l hl _ 0 (by omega) (by omega)
theorem need_at (n : Nat) (b : Bool) : acall AXE AXF (n + 1) 34 [.one (.bool b)] [] = some (.one (.int .i64 (need b)), []) := by
 rw [f34_eq, f34_L, f34_T]
 cases b <;> rfl
theorem cmName_loop {call : CallF} {n : Nat} (l : List UInt8) (hl : l.length ≤ 100000000) : ∀ (m i : Nat), i ≤ l.length → l.length < i + m →
 f99_L2 call n m l (byteCells l) (l.length : Int) (i : Int) = some (.one (.bool ((l.drop i).all nameC && decide (l ≠ []))), [])
 | 0, i, h1, h2 => by omega
 | m + 1, i, h1, h2 => by
  have ih := cmName_loop (call := call) (n := n) l hl m (i + 1)
  simp only [f99_T9, f99_L9, f99_T10, f99_L10, f99_T8, f99_L8, f99_T2, f99_L2, f99_T, f99_L]
  by_cases h : i < l.length
  · have hc := nameC_iff l[i]
    rw [List.drop_eq_getElem_cons h, List.all_cons, item_byte h, wrap_ok (by omega) (by omega), show ((i : Int) + 1) = ((i + 1 : Nat) : Int) by omega, ih (by omega) (by omega)]
    generalize (l.drop (i + 1)).all nameC = R
    simp only [castI_one, Bool.cond_eq_ite, decide_eq_true_eq, bne_iff_ne, Bool.false_eq_true, if_false, if_true]
    rw [if_pos (show (i : Int) < (l.length : Int) by omega)]
    cases hn : nameC l[i] with
    | true =>
     rw [hn] at hc; simp only [true_iff] at hc
     (repeat' split) <;> first | (simp only [Bool.true_and]; done) | (exfalso; omega)
    | false =>
     rw [hn] at hc; simp only [Bool.false_eq_true, false_iff, not_or] at hc
     (repeat' split) <;> first | (simp only [Bool.false_and]; done) | (exfalso; omega)
  · rw [List.drop_of_length_le (by omega)]
    simp only [Bool.cond_eq_ite, decide_eq_true_eq, List.all_nil, Bool.true_and]
    rw [if_neg (show ¬ (i : Int) < (l.length : Int) by omega)]
    cases l with
    | nil => rfl
    | cons a r => simp
theorem cmName_at (n : Nat) (l : List UInt8) (hl : l.length ≤ 100000000) (hn : l.length < n) : acall AXE AXF (n + 1) 99 [.one (.str l)] [] = some (.one (.bool (nameB l)), []) := by
 rw [f99_eq, f99_L, f99_T, byteCells_len, Nat.div_one]
 exact cmName_loop l hl _ 0 (by omega) (by omega)
theorem print_ascii {l : List UInt8} (h : printL l = true) : asciiB l = true := by
 unfold printL at h; unfold asciiB
 rw [List.all_eq_true] at h ⊢
 intro c hc
 have := (printC_iff c).1 (h c hc)
 simp; omega
theorem pContains_at {l c : List UInt8} (h : printL l = true) (hl : l.length ≤ 100000000) (hc : c.length ≤ 1000) (ha : asciiB c = true) : pContains [.one (.str l), .one (.str c)] = some (.one (.bool (Lib.containsAny l c))) := by
 show (bif decide (l.length ≤ 100000000) && (decide (c.length ≤ 1000) && (asciiB l && asciiB c)) then some (AV.one (Cell.bool (Lib.containsAny l c))) else none) = _
 rw [decide_eq_true hl, decide_eq_true hc, print_ascii h, ha]; rfl
theorem isValue_at (n : Nat) (l : List UInt8) (hp : printL l = true) (hl : l.length ≤ 100000000) : acall AXE AXF (n + 1) 100 [.one (.str l)] [] = some (.one (.bool (valueB l)), []) := by
 rw [f100_eq]
 simp only [f100_T1, f100_L1, f100_T, f100_L, primK_some (pContains_at (c := [61, 32]) hp hl (by decide) (by decide)), oB_one]
 cases l with
 | nil => rfl
 | cons a r => rfl
theorem last_at {l : List UInt8} (h : 0 < l.length) : l.getLast? = some (l[l.length - 1]'(by omega)) := by
 rw [List.getLast?_eq_getElem?, List.getElem?_eq_getElem]
theorem byte_ne (c k : UInt8) : ((c.toNat : Int) != (k.toNat : Int)) = !decide (c = k) := by
 rw [bne]; congr 1
 rw [Bool.eq_iff_iff, beq_iff_eq, decide_eq_true_eq, ← UInt8.toNat_inj]; omega
theorem printL_sub {l r : List UInt8} (h : printL l = true) (hs : ∀ x ∈ r, x ∈ l) : printL r = true := by
 unfold printL at h ⊢
 rw [List.all_eq_true] at h ⊢
 exact fun c hc => h c (hs c hc)
theorem literal_at (n : Nat) (l : List UInt8) (hp : printL l = true) (hl : l.length ≤ 100000000) : acall AXE AXF (n + 1) 36 [.one (.str l)] [] = some (.one (.bool (literalB l)), []) := by
 rw [f36_eq]
 simp only [f36_T4, f36_L4, f36_T1, f36_L1, f36_T, f36_L]
 unfold literalB
 by_cases h3 : l.length < 3
 · rw [decide_eq_true (by omega), cond_true, cond_true, decide_eq_false (by omega)]; rfl
 · have hlast := last_at (l := l) (by omega)
   rw [wrap_ok (by omega) (by omega), decide_eq_false (by omega), cond_false, item_some (i := (0 : Int)) (j := 0) (a := l[0]'(by omega)) rfl (List.getElem?_eq_getElem (by omega)), show ((l.length : Int) - 1) = ((l.length - 1 : Nat) : Int) by omega, item_at (l := l) (i := l.length - 1) (by omega), hlast,
    show (91 : Int) = ((91 : UInt8).toNat : Int) by rfl, show (93 : Int) = ((93 : UInt8).toNat : Int) by rfl, byte_ne, byte_ne, decide_eq_true (show 3 ≤ l.length by omega), show l.head? = some (l[0]'(by omega)) by rw [List.head?_eq_getElem?, List.getElem?_eq_getElem]]
   by_cases h0 : l[0]'(by omega) = 91
   · rw [h0, decide_eq_true rfl, Bool.not_true, cond_false]
     by_cases h9 : l[l.length - 1]'(by omega) = 93
     · rw [h9, decide_eq_true rfl, Bool.not_true, cond_false, decide_eq_true (by simp; omega), cond_true, Int.toNat_natCast, show Int.toNat 1 = 1 by rfl,
        primK_some (pContains_at (c := [91, 93, 92, 32]) (printL_sub hp fun x hx => List.mem_of_mem_take (List.mem_of_mem_drop hx)) (by simp; omega) (by decide) (by decide)), oB_one]
       simp
     · rw [decide_eq_false h9, Bool.not_false, cond_true]
       simp [h9]
   · rw [decide_eq_false h0, Bool.not_false, cond_true, cond_true]
     simp [h0]
end AX
end Go.Proofs.YtfbicbgdfcbhpaaGreatDoor
