/-
  CmRef.
-/
import Derived.Test.YtfbicbgdfcbhpaaGreatDoorCt39
set_option maxRecDepth 20000
set_option linter.unusedVariables false
set_option linter.unusedSimpArgs false
set_option linter.unusedSectionVars false
namespace Go.Proofs.YtfbicbgdfcbhpaaGreatDoor
open SC CM
namespace CM
def idx (c : UInt8) : List UInt8 → Nat
 | [] => 0
 | x :: r => if x = c then 0 else idx c r + 1
theorem idx_no {c : UInt8} : ∀ {l : List UInt8}, (∀ x ∈ l, x ≠ c) → idx c l = l.length
 | [], _ => rfl
 | x :: r, h => by
  unfold idx
  rw [if_neg (h x (by simp)), idx_no fun y hy => h y (by simp [hy])]; rfl
theorem idx_hit {c : UInt8} (b : List UInt8) : ∀ {a : List UInt8}, (∀ x ∈ a, x ≠ c) → idx c (a ++ c :: b) = a.length
 | [], _ => by simp [idx]
 | x :: r, h => by
  rw [List.cons_append]
  unfold idx
  rw [if_neg (h x (by simp)), idx_hit b fun y hy => h y (by simp [hy])]; rfl
theorem idx_le (c : UInt8) : ∀ l : List UInt8, idx c l ≤ l.length
 | [] => Nat.le_refl _
 | x :: r => by
  have := idx_le c r
  unfold idx
  split
  · exact Nat.zero_le _
  · simp; omega
theorem cut_idx (c : UInt8) (l : List UInt8) : Lib.cut l [c] = (l.take (idx c l), l.drop (idx c l + 1), decide (idx c l < l.length)) := by
 rcases hit_cases c l with h | ⟨a, b, rfl, h⟩
 · rw [cut_no h, idx_no h]; simp
 · rw [cut_hit a b h, idx_hit b h]; simp
theorem spl_idx (c : UInt8) (l : List UInt8) : (idx c l = l.length ∧ spl c l = [l]) ∨ (∃ t, l.drop (idx c l) = c :: t ∧ spl c l = l.take (idx c l) :: spl c t) := by
 rcases hit_cases c l with h | ⟨a, b, rfl, h⟩
 · exact .inl ⟨idx_no h, spl_no h⟩
 · refine .inr ⟨b, ?_, ?_⟩
   · rw [idx_hit b h]; simp
   · rw [idx_hit b h, spl_hit a b h]; simp
theorem idx_mem (c : UInt8) : ∀ l : List UInt8, idx c l < l.length ↔ c ∈ l
 | [] => by simp [idx]
 | x :: r => by
  have ih := idx_mem c r
  unfold idx
  by_cases h : x = c
  · rw [if_pos h]; simp [h]
  · rw [if_neg h]
    simp only [List.length_cons, Nat.add_lt_add_iff_right, List.mem_cons]
    rw [ih]
    exact ⟨.inr, fun h2 => h2.resolve_left fun e => h e.symm⟩
theorem containsAny_any (cs : List UInt8) : ∀ l : List UInt8, Lib.containsAny l cs = l.any fun b => cs.contains b
 | [] => rfl
 | b :: l => by
  have ih := containsAny_any cs l
  have hge := Lib.indexAny_ge cs l
  unfold Lib.containsAny at ih ⊢
  rw [List.any_cons, Lib.indexAny]
  cases hb : cs.contains b with
  | true => rfl
  | false =>
   rw [← ih, Bool.false_or]
   simp only [Bool.false_eq_true, if_false, beq_iff_eq]
   by_cases h : Lib.indexAny l cs = -1
   · rw [if_pos h, h]
   · rw [if_neg h, decide_eq_true (by omega), decide_eq_true (by omega)]
def litC (c : UInt8) : Bool := decide (33 ≤ c.toNat ∧ c.toNat ≤ 126) && !([91, 93, 92] : List UInt8).contains c
theorem lit_any {l : List UInt8} (h : printL l = true) : (!Lib.containsAny l [91, 93, 92, 32]) = l.all litC := by
 rw [containsAny_any]
 have hc : ∀ n : Fin 256, printC (UInt8.ofNat n.val) = true → (!([91, 93, 92, 32] : List UInt8).contains (UInt8.ofNat n.val)) = litC (UInt8.ofNat n.val) := by decide +kernel
 induction l with
 | nil => rfl
 | cons c r ih =>
  rw [AX.printL_cons, Bool.and_eq_true] at h
  have h1 := hc ⟨c.toNat, c.toNat_lt⟩
  rw [UInt8.ofNat_toNat] at h1
  rw [List.any_cons, List.all_cons, Bool.not_or, ih h.2, h1 h.1]
theorem value_idx {l : List UInt8} (h : ∀ x ∈ l, x ≠ 32) : valueB l = (decide (l ≠ []) && !decide (idx 61 l < l.length)) := by
 unfold valueB
 rw [containsAny_any]
 congr 2
 rw [Bool.eq_iff_iff, List.any_eq_true, decide_eq_true_eq, idx_mem]
 refine ⟨fun ⟨x, hx, hc⟩ => ?_, fun hm => ⟨61, hm, by decide⟩⟩
 have : x = 61 ∨ x = 32 := by simpa using hc
 rcases this with rfl | rfl
 · exact hx
 · exact absurd rfl (h _ hx)
end CM
namespace AX
theorem up_sub : ∀ c : UInt8, lowC c = true → IntKind.wrap .u8 ((c.toNat : Int) - (32 : Int)) = ((upC c).toNat : Int) := by
 have h : ∀ n : Fin 256, lowC (UInt8.ofNat n.val) = true → IntKind.wrap .u8 ((n.val : Int) - (32 : Int)) = ((upC (UInt8.ofNat n.val)).toNat : Int) := by decide +kernel
 intro c hc
 have := h ⟨c.toNat, c.toNat_lt⟩
 rw [UInt8.ofNat_toNat] at this
 exact this hc
theorem upL_take {l : List UInt8} {i : Nat} (h : i < l.length) : byteCells (upL (l.take i)) ++ [Cell.int .u8 ((upC l[i]).toNat : Int)] = byteCells (upL (l.take (i + 1))) := by
 rw [List.take_succ_eq_append_getElem h]
 unfold upL byteCells
 rw [List.map_append, List.map_append]
 rfl
theorem rupper_loop {call : CallF} {n : Nat} (l : List UInt8) (hl : l.length ≤ 100000000) : ∀ (m i : Nat), i ≤ l.length → l.length < i + m →
 f45_L3 call n m l (byteCells (upL (l.take i))) (i : Int) = some (.one (.str (upL l)), [])
 | 0, i, h1, h2 => by omega
 | m + 1, i, h1, h2 => by
  have ih := rupper_loop (call := call) (n := n) l hl m (i + 1)
  rw [f45_L3, f45_T3]
  by_cases h : i < l.length
  · have hc := lowC_iff l[i]
    rw [decide_eq_true (by omega), cond_true, item_at h]
    have go : ∀ x : Int, x = ((upC l[i]).toNat : Int) → f45_L10 call n (f45_L3 call n m) l (byteCells (upL (l.take i))) (i : Int) x = some (.one (.str (upL l)), []) := fun x hx => by
     subst hx
     rw [f45_L10, f45_T10, guard_ok (decide_eq_true (by
      rw [byteCells_len]; unfold upL
      have : (2000000000000 : Nat) ≤ 2 * rowLim := by decide
      simp; omega)), upL_take h, f45_L11, f45_T11, wrap_ok (by omega) (by omega), show ((i : Int) + 1) = ((i + 1 : Nat) : Int) by omega]
     exact ih (by omega) (by omega)
    cases hb : lowC l[i] with
    | true =>
     rw [hb] at hc; simp only [true_iff] at hc
     rw [decide_eq_true (by omega), cond_true, decide_eq_true (by omega), f45_L9, f45_T9, cond_true]
     exact go _ (up_sub _ hb)
    | false =>
     rw [hb] at hc; simp only [Bool.false_eq_true, false_iff] at hc
     have e : upC l[i] = l[i] := by unfold upC; rw [hb]; rfl
     have := go (l[i].toNat : Int) (by rw [e])
     by_cases h3 : 97 ≤ l[i].toNat
     · rw [decide_eq_true (by omega), cond_true, decide_eq_false (by omega), f45_L9, f45_T9, cond_false]; exact this
     · rw [decide_eq_false (by omega), cond_false, f45_L9, f45_T9, cond_false]; exact this
  · rw [decide_eq_false (by omega), cond_false, cm_bytesK, List.take_of_length_le (by omega)]
theorem rupper_at (n : Nat) (l : List UInt8) (hl : l.length ≤ 100000000) (hn : l.length < n) : acall AXE AXF (n + 1) 45 [.one (.str l)] [] = some (.one (.str (upL l)), []) := by
 rw [f45_eq, f45_L, f45_T]
 exact rupper_loop l hl _ 0 (by omega) (by omega)
theorem rverb_at (n : Nat) (i : Nat) (hi : i < 12) : acall AXE AXF (n + 1) 44 [.one (.int .i64 (i : Int))] [] = some (.one (.str (wordsL[i]'hi)), []) := by
 rw [f44_eq, f44_L, f44_T]
 show (itemK (wordsL.map Cell.str) (i : Int) fun c3 => castS c3 fun s4 => some (AV.one (.str s4), [])) = _
 rw [strs_item (ws := wordsL) hi]; rfl
theorem rVerb_loop {call : CallF} {n : Nat} (l : List UInt8) (hu : call 45 [.one (.str l)] [] = some (.one (.str (upL l)), [])) (hv : ∀ (i : Nat) (hi : i < 12), call 44 [.one (.int .i64 (i : Int))] [] = some (.one (.str (wordsL[i]'hi)), [])) :
 ∀ (m i : Nat), 0 < i → i ≤ 12 → 12 < i + m → f17_L2 call n m l (i : Int) = some (.one (.int .i64 (findW (upL l) (wordsL.drop i) i : Nat)), [])
 | 0, i, h0, h1, h2 => by omega
 | m + 1, i, h0, h1, h2 => by
  have ih := rVerb_loop (n := n) l hu hv m (i + 1)
  have hlen : wordsL.length = 12 := rfl
  rw [f17_L2, f17_T2]
  by_cases h : i < 12
  · rw [decide_eq_true (by omega), cond_true, callK_some (hv i h), oS_one, callK_some hu, oS_one, List.drop_eq_getElem_cons (by omega), findW]
    by_cases hx : wordsL[i]'h = upL l
    · rw [if_pos ⟨h0, hx⟩, hx, beq_self_eq_true, cond_true]
    · rw [if_neg (fun h => hx h.2), show (wordsL[i]'h == upL l) = false by simpa using hx, cond_false, wrap_ok (by omega) (by omega), show ((i : Int) + 1) = ((i + 1 : Nat) : Int) by omega]
      exact ih (by omega) (by omega) (by omega)
  · obtain rfl : i = 12 := by omega
    rfl
theorem rVerb_at (n : Nat) (l : List UInt8) (hl : l.length ≤ 100000000) (hn : l.length + 100 ≤ n) : acall AXE AXF (n + 1) 17 [.one (.str l)] [] = some (.one (.int .i64 (verbQ l : Nat)), []) := by
 rw [f17_eq, f17_L, f17_T]
 obtain ⟨k, rfl⟩ : ∃ k, n = k + 1 := ⟨n - 1, by omega⟩
 have := rVerb_loop (n := k + 1 + 1) l (rupper_at k l hl (by omega)) (rverb_at k) (k + 1 + 1) 1 (by omega) (by omega) (by omega)
 exact this
theorem find_loop {call : CallF} {n : Nat} (l : List UInt8) (c : UInt8) (hl : l.length ≤ 100000000) : ∀ (m i : Nat), i ≤ l.length → l.length < i + m →
 f38_L1 call n m l (i : Int) (c.toNat : Int) = some (.one (.int .i64 (i + idx c (l.drop i) : Nat)), [])
 | 0, i, h1, h2 => by omega
 | m + 1, i, h1, h2 => by
  have ih := find_loop (call := call) (n := n) l c hl m (i + 1)
  rw [f38_L1, f38_T1]
  by_cases h : i < l.length
  · rw [decide_eq_true (by omega), cond_true, item_at h, byte_ne, List.drop_eq_getElem_cons h, idx, f38_L2, f38_T2]
    by_cases hx : l[i] = c
    · rw [if_pos hx, decide_eq_true hx, Bool.not_true, cond_false]; rfl
    · rw [if_neg hx, decide_eq_false hx, Bool.not_false, cond_true, f38_L3, f38_T3, wrap_ok (by omega) (by omega), show ((i : Int) + 1) = ((i + 1 : Nat) : Int) by omega, ih (by omega) (by omega), show i + 1 + idx c (l.drop (i + 1)) = i + (idx c (l.drop (i + 1)) + 1) by omega]
  · rw [decide_eq_false (by omega), List.drop_of_length_le (by omega)]; rfl
theorem find_at (n : Nat) (l : List UInt8) (i : Nat) (c : UInt8) (hi : i ≤ l.length) (hl : l.length ≤ 100000000) (hn : l.length < n) : acall AXE AXF (n + 1) 38 [.one (.str l), .one (.int .i64 (i : Int)), .one (.int .u8 (c.toNat : Int))] [] = some (.one (.int .i64 (i + idx c (l.drop i) : Nat)), []) := by
 rw [f38_eq, f38_L, f38_T]
 exact find_loop l c hl _ i hi (by omega)
theorem litC_iff (c : UInt8) : litC c = true ↔ (33 ≤ c.toNat ∧ c.toNat ≤ 126) ∧ c.toNat ≠ 91 ∧ c.toNat ≠ 93 ∧ c.toNat ≠ 92 := by
 have h : ∀ n : Fin 256, litC (UInt8.ofNat n.val) = true ↔ (33 ≤ (UInt8.ofNat n.val).toNat ∧ (UInt8.ofNat n.val).toNat ≤ 126) ∧ (UInt8.ofNat n.val).toNat ≠ 91 ∧ (UInt8.ofNat n.val).toNat ≠ 93 ∧ (UInt8.ofNat n.val).toNat ≠ 92 := by decide +kernel
 have := h ⟨c.toNat, c.toNat_lt⟩
 rwa [UInt8.ofNat_toNat] at this
theorem rliteral_loop {call : CallF} {n : Nat} (l : List UInt8) (h0 : 0 < l.length) (hl : l.length ≤ 100000000) : ∀ (m i : Nat), i ≤ l.length - 1 → l.length < i + m →
 f40_L5 call n m l (i : Int) = some (.one (.bool (((l.take (l.length - 1)).drop i).all litC)), [])
 | 0, i, h1, h2 => by omega
 | m + 1, i, h1, h2 => by
  have ih := rliteral_loop (call := call) (n := n) l h0 hl m (i + 1)
  rw [f40_L5, f40_T5, wrap_ok (x := (l.length : Int) - 1) (by omega) (by omega)]
  by_cases h : i < l.length - 1
  · have hi : i < l.length := by omega
    have hc := litC_iff l[i]
    rw [decide_eq_true (by omega), cond_true, item_at hi, List.drop_eq_getElem_cons (by simp; omega), List.all_cons, List.getElem_take]
    simp only [f40_L11, f40_T11, f40_L13, f40_T13]
    rw [wrap_ok (by omega) (by omega), show ((i : Int) + 1) = ((i + 1 : Nat) : Int) by omega, ih (by omega) (by omega)]
    generalize ((l.take (l.length - 1)).drop (i + 1)).all litC = R
    simp only [Bool.cond_eq_ite, decide_eq_true_eq, beq_iff_eq, Bool.false_eq_true, if_false, if_true]
    cases hn : litC l[i] with
    | true =>
     rw [hn] at hc; simp only [true_iff] at hc
     (repeat' split) <;> first | (simp only [Bool.true_and]; done) | (exfalso; omega)
    | false =>
     rw [hn] at hc; simp only [Bool.false_eq_true, false_iff] at hc
     (repeat' split) <;> first | (simp only [Bool.false_and]; done) | (exfalso; omega)
  · rw [decide_eq_false (by omega), cond_false, List.drop_of_length_le (by simp; omega)]; rfl
theorem rliteral_at (n : Nat) (l : List UInt8) (hp : printL l = true) (hl : l.length ≤ 100000000) (hn : l.length < n) : acall AXE AXF (n + 1) 40 [.one (.str l)] [] = some (.one (.bool (literalB l)), []) := by
 rw [f40_eq, f40_L, f40_T]
 unfold literalB
 by_cases h3 : l.length < 3
 · rw [decide_eq_true (by omega), cond_true, decide_eq_false (by omega)]; rfl
 · have hlast := last_at (l := l) (by omega)
   have hlp := rliteral_loop (call := acall AXE AXF n) (n := n + 1) l (by omega) hl (n + 1) 1 (by omega) (by omega)
   rw [← lit_any (printL_sub hp fun x hx => List.mem_of_mem_take (List.mem_of_mem_drop hx))] at hlp
   rw [wrap_ok (by omega) (by omega), decide_eq_false (by omega), cond_false, item_some (i := (0 : Int)) (j := 0) (a := l[0]'(by omega)) rfl (List.getElem?_eq_getElem (by omega)), show ((l.length : Int) - 1) = ((l.length - 1 : Nat) : Int) by omega, item_at (l := l) (i := l.length - 1) (by omega), hlast,
    show (91 : Int) = ((91 : UInt8).toNat : Int) by rfl, show (93 : Int) = ((93 : UInt8).toNat : Int) by rfl, byte_ne, byte_ne, decide_eq_true (show 3 ≤ l.length by omega), show l.head? = some (l[0]'(by omega)) by rw [List.head?_eq_getElem?, List.getElem?_eq_getElem]]
   simp only [f40_L1, f40_T1]
   by_cases h0 : l[0]'(by omega) = 91
   · rw [h0, decide_eq_true rfl, Bool.not_true, cond_false]
     by_cases h9 : l[l.length - 1]'(by omega) = 93
     · rw [h9, decide_eq_true rfl, Bool.not_true, cond_false]
       refine hlp.trans ?_
       simp
     · rw [decide_eq_false h9, Bool.not_false, cond_true, f40_L4, f40_T4]
       simp [h9]
   · rw [decide_eq_false h0, Bool.not_false, cond_true, cond_true, f40_L4, f40_T4]
     simp [h0]
theorem named_loop {call : CallF} {n : Nat} (l : List UInt8) (hl : l.length ≤ 100000000) : ∀ (m i : Nat), i ≤ l.length → l.length < i + m →
 f106_L2 call n m l (i : Int) = some (.one (.bool ((l.drop i).all nameC && decide (l ≠ []))), [])
 | 0, i, h1, h2 => by omega
 | m + 1, i, h1, h2 => by
  have ih := named_loop (call := call) (n := n) l hl m (i + 1)
  simp only [f106_T9, f106_L9, f106_T10, f106_L10, f106_T8, f106_L8, f106_T2, f106_L2, f106_T, f106_L]
  by_cases h : i < l.length
  · have hc := nameC_iff l[i]
    rw [List.drop_eq_getElem_cons h, List.all_cons, item_at h, wrap_ok (by omega) (by omega), show ((i : Int) + 1) = ((i + 1 : Nat) : Int) by omega, ih (by omega) (by omega)]
    generalize (l.drop (i + 1)).all nameC = R
    simp only [Bool.cond_eq_ite, decide_eq_true_eq, bne_iff_ne, Bool.false_eq_true, if_false, if_true, Bool.not_eq_true', decide_eq_false_iff_not]
    rw [if_pos (show (i : Int) < (l.length : Int) by omega)]
    cases hn : nameC l[i] with
    | true =>
     rw [hn] at hc; simp only [true_iff] at hc
     (repeat' split) <;> first | (simp only [Bool.true_and]; done) | (exfalso; omega)
    | false =>
     rw [hn] at hc; simp only [Bool.false_eq_true, false_iff, not_or] at hc
     (repeat' split) <;> first | (simp only [Bool.false_and]; done) | (exfalso; omega)
  · rw [List.drop_of_length_le (by omega)]
    simp only [Bool.cond_eq_ite, decide_eq_true_eq, List.all_nil, Bool.true_and]
    rw [if_neg (show ¬ (i : Int) < (l.length : Int) by omega)]
    cases l with
    | nil => rfl
    | cons a r =>
     rw [decide_eq_true (by simp), decide_eq_true (by simp)]
theorem named_at (n : Nat) (l : List UInt8) (hl : l.length ≤ 100000000) (hn : l.length < n) : acall AXE AXF (n + 1) 106 [.one (.str l)] [] = some (.one (.bool (nameB l)), []) := by
 rw [f106_eq, f106_L, f106_T]
 exact named_loop l hl _ 0 (by omega) (by omega)
end AX
end Go.Proofs.YtfbicbgdfcbhpaaGreatDoor
