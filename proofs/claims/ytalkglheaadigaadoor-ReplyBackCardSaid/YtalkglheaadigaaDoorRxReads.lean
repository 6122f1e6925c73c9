/-
  law08.ReplyReads answers true at all arguments: by the reckoning.
-/
import Derived.Test.YtalkglheaadigaaDoorRxRead
set_option maxRecDepth 20000
set_option linter.unusedVariables false
set_option linter.unusedSimpArgs false
set_option linter.unusedSectionVars false
namespace Go.Proofs.YtalkglheaadigaaDoor
open Go.ChangeShapes Go.WideShapes Go.ChangeAt Go.RowKit
namespace AX
theorem bytesOf_cells : ∀ l : List UInt8, bytesOf (AX.byteCells l) = some l
  | [] => rfl
  | c :: l => by
    have hc := c.toNat_lt
    show (bif decide ((0 : Int) ≤ (c.toNat : Int)) && decide ((c.toNat : Int) < 256) then (match bytesOf (AX.byteCells l) with | some l => some (UInt8.ofNat (c.toNat : Int).toNat :: l) | none => none) else none) = _
    rw [decide_eq_true (by omega), decide_eq_true (by omega), bytesOf_cells l]
    simp
theorem pRead_at (enh : Bool) (l : List UInt8) (h : l.length ≤ 1000000) : pRead [.one (.sl none 1 (AX.byteCells l)), .one (.bool enh)] = some (readAV (readQ enh l 0 0 [] [])) := by
  unfold pRead
  simp only [bytesOf_cells, decide_eq_true h, cond_true]
/-- how a reading goes -/
theorem readQ_cases (enh : Bool) (b : List UInt8) (n c0 : Nat) (e0 : List UInt8) (ts : List ByteArray) :
    readQ enh b n c0 e0 ts = .error 2 ∧ Lib.index (b.drop n) [13, 10] = -1 ∨
    ∃ k : Nat, Lib.index (b.drop n) [13, 10] = k ∧ n + k + 2 ≤ b.length ∧
      (readQ enh b n c0 e0 ts = .error 3 ∧ (lineQ enh ((b.drop n).take k) = none ∨ ∃ c m e t, lineQ enh ((b.drop n).take k) = some (c, m, e, t) ∧ ts ≠ [] ∧ (c ≠ c0 ∨ e ≠ e0)) ∨
       ∃ c m e t, lineQ enh ((b.drop n).take k) = some (c, m, e, t) ∧ ¬ (ts ≠ [] ∧ (c ≠ c0 ∨ e ≠ e0)) ∧
        readQ enh b n c0 e0 ts = if m = true then readQ enh b (n + k + 2) c e (ts ++ [⟨t.toArray⟩]) else .ok (c, e, ts ++ [⟨t.toArray⟩], n + k + 2)) := by
  have hge := Lib.index_ge (b.drop n) [13, 10]
  by_cases hi : Lib.index (b.drop n) [13, 10] = -1
  · exact .inl ⟨readQ_short hi, hi⟩
  · obtain ⟨k, hk⟩ : ∃ k : Nat, Lib.index (b.drop n) [13, 10] = k := ⟨(Lib.index (b.drop n) [13, 10]).toNat, by omega⟩
    have hroom := index_crlf_le _ _ hk
    rw [List.length_drop] at hroom
    refine .inr ⟨k, hk, by omega, ?_⟩
    cases hq : lineQ enh ((b.drop n).take k) with
    | none => exact .inl ⟨readQ_none hk hq, .inl rfl⟩
    | some x =>
      obtain ⟨c, m, e, t⟩ := x
      have := readQ_some (c0 := c0) (e0 := e0) (ts := ts) hk hq
      by_cases hA : ts ≠ [] ∧ (c ≠ c0 ∨ e ≠ e0)
      · rw [if_pos hA] at this
        exact .inl ⟨this, .inr ⟨c, m, e, t, rfl, hA⟩⟩
      · rw [if_neg hA] at this
        exact .inr ⟨c, m, e, t, rfl, hA, this⟩
theorem readQ_ok {enh : Bool} {b : List UInt8} : ∀ (m n c0 : Nat) (e0 : List UInt8) (ts : List ByteArray) (c : Nat) (e : List UInt8) (us : List ByteArray) (n' : Nat), b.length < n + m → readQ enh b n c0 e0 ts = .ok (c, e, us, n') → n < n' ∧ n' ≤ b.length
  | 0, n, c0, e0, ts, c, e, us, n', hm, h => by
    rw [readQ_short (by rw [List.drop_of_length_le (by omega)]; rfl)] at h; cases h
  | m + 1, n, c0, e0, ts, c, e, us, n', hm, h => by
    rcases readQ_cases enh b n c0 e0 ts with ⟨h1, _⟩ | ⟨k, hk, hlen, ⟨h1, _⟩ | ⟨c1, m1, e1, t1, _, _, h1⟩⟩
    · rw [h1] at h; cases h
    · rw [h1] at h; cases h
    · rw [h1] at h
      cases m1 with
      | false => rw [if_neg (by simp)] at h; cases h; exact ⟨by omega, hlen⟩
      | true =>
        rw [if_pos rfl] at h
        have := readQ_ok m _ _ _ _ _ _ _ _ (by omega) h
        omega
theorem readQ_err {enh : Bool} {b : List UInt8} : ∀ (m n c0 : Nat) (e0 : List UInt8) (ts : List ByteArray) (k : Int), b.length < n + m → readQ enh b n c0 e0 ts = .error k → k = 2 ∨ k = 3
  | 0, n, c0, e0, ts, k, hm, h => by
    rw [readQ_short (by rw [List.drop_of_length_le (by omega)]; rfl)] at h; cases h; exact .inl rfl
  | m + 1, n, c0, e0, ts, k, hm, h => by
    rcases readQ_cases enh b n c0 e0 ts with ⟨h1, _⟩ | ⟨k1, hk, hlen, ⟨h1, _⟩ | ⟨c1, m1, e1, t1, _, _, h1⟩⟩
    · rw [h1] at h; cases h; exact .inl rfl
    · rw [h1] at h; cases h; exact .inr rfl
    · rw [h1] at h
      cases m1 with
      | false => rw [if_neg (by simp)] at h; cases h
      | true =>
        rw [if_pos rfl] at h
        exact readQ_err m _ _ _ _ k (by omega) h
def shiftR (k : Nat) : Except Int RGot → Except Int RGot
  | .error e => .error e
  | .ok (c, e, ts, n) => .ok (c, e, ts, n - k)
theorem readQ_shift {enh : Bool} {b : List UInt8} (j : Nat) (hj : j ≤ b.length) : ∀ (m n c0 : Nat) (e0 : List UInt8) (ts : List ByteArray), b.length < j + n + m → readQ enh (b.drop j) n c0 e0 ts = shiftR j (readQ enh b (j + n) c0 e0 ts)
  | 0, n, c0, e0, ts, hm => by
    rw [readQ_short (by rw [List.drop_of_length_le (by rw [List.length_drop]; omega)]; rfl), readQ_short (by rw [List.drop_of_length_le (by omega)]; rfl)]; rfl
  | m + 1, n, c0, e0, ts, hm => by
    have hd : (b.drop j).drop n = b.drop (j + n) := by rw [List.drop_drop]
    rcases readQ_cases enh b (j + n) c0 e0 ts with ⟨h1, h2⟩ | ⟨k, hk, hlen, ⟨h1, h2⟩ | ⟨c1, m1, e1, t1, hq, hA, h1⟩⟩
    · rw [h1, readQ_short (by rw [hd]; exact h2)]; rfl
    · rw [h1]
      rcases h2 with h2 | ⟨c, m2, e, t, h2, h3⟩
      · rw [readQ_none (k := k) (by rw [hd]; exact hk) (by rw [hd]; exact h2)]; rfl
      · rw [readQ_some (k := k) (by rw [hd]; exact hk) (by rw [hd]; exact h2), if_pos h3]; rfl
    · rw [h1, readQ_some (k := k) (by rw [hd]; exact hk) (by rw [hd]; exact hq), if_neg hA]
      cases m1 with
      | false =>
        rw [if_neg (by simp), if_neg (by simp)]
        simp only [shiftR, Except.ok.injEq, Prod.mk.injEq, true_and]
        omega
      | true =>
        rw [if_pos rfl, if_pos rfl, readQ_shift j hj m (n + k + 2) c1 e1 _ (by omega)]
        rw [show j + (n + k + 2) = j + n + k + 2 by omega]
/-- all replies from a place on -/
def allR (enh : Bool) (s : List UInt8) : Nat → Nat → List Cell → Option (List Cell × Int)
  | 0, _, _ => none
  | m + 1, at_, out =>
    if at_ < s.length then (match readQ enh s at_ 0 [] [] with
      | .error k => some ([], k)
      | .ok (c, e, ts, n) => allR enh s m n (out ++ [.int .i64 (c : Int), .str e, .sl none 1 (ts.map strC)]))
    else some (out, 0)
theorem tsC (ts : List ByteArray) : (ts.map fun s => Cell.str s.data.toList) = ts.map strC := rfl
theorem f20_loop {call : CallF} {n : Nat} (enh : Bool) (s : List UInt8) (hs : s.length ≤ 1000000) : ∀ (m at_ : Nat) (out : List Cell), at_ ≤ s.length → s.length < at_ + m → out.length ≤ 3 * at_ →
    ∃ r, allR enh s m at_ out = some r ∧ ∃ nm, f20_L2 call n m (AX.byteCells (s.drop at_)) enh out = some (.tup [.one (.sl nm 3 r.1), .one (.int .i64 r.2)], [])
  | 0, at_, out, h1, h2, _ => by omega
  | m + 1, at_, out, h1, h2, h3 => by
    have hll : (AX.byteCells (s.drop at_)).length = s.length - at_ := by simp [AX.byteCells]
    unfold f20_L2 f20_T2 allR
    by_cases h : at_ < s.length
    · rw [if_pos h, hll, decide_eq_true (by rw [Nat.div_one]; omega), cond_true]
      have hsh := readQ_shift (enh := enh) at_ h1 (s.length + 1) 0 0 [] [] (by omega)
      rw [Nat.add_zero] at hsh
      simp only [primK, pRead_at enh (s.drop at_) (by rw [List.length_drop]; omega), hsh]
      cases hq : readQ enh s at_ 0 [] [] with
      | error k =>
        have hk := readQ_err (s.length + 1) _ _ _ _ k (by omega) hq
        have hne : (k != 0) = true := by rcases hk with rfl | rfl <;> rfl
        refine ⟨([], k), rfl, some ⟨4, 0, 27⟩, ?_⟩
        simp only [shiftR, readAV, castTup, consK, aggV, castI, castS, castL, nilK, oneV, if_pos, hne, cond_true, Nat.beq_refl, Bool.true_or]
      | ok x =>
        obtain ⟨c, e, ts, n'⟩ := x
        obtain ⟨hlt, hle⟩ := readQ_ok (s.length + 1) _ _ _ _ _ _ _ _ (by omega) hq
        obtain ⟨r, hr1, nm, hr2⟩ := f20_loop (call := call) (n := n) enh s hs m n' (out ++ [.int .i64 (c : Int), .str e, .sl none 1 (ts.map strC)]) hle (by omega) (by simp; omega)
        refine ⟨r, hr1, nm, ?_⟩
        rw [← hr2]
        have hne : ((0 : Int) != 0) = false := rfl
        simp only [shiftR, readAV, castTup, consK, aggV, castI, castS, castL, nilK, oneV, if_pos, hne, cond_true, cond_false, Nat.beq_refl, Bool.true_or, tsC]
        rw [guard_ok (by rw [decide_eq_true_eq]; unfold rowLim; simp; omega), decide_eq_true (by simp [AX.byteCells]; omega), cond_true]
        congr 1
        simp only [AX.byteCells, Int.toNat_natCast, Nat.mul_one, Nat.div_one, List.length_map, List.length_drop, ← List.map_drop, ← List.map_take]
        congr 1
        rw [List.take_of_length_le (by rw [List.length_drop]; omega), List.drop_drop]
        congr 1
        omega
    · rw [if_neg h, hll, decide_eq_false (by rw [Nat.div_one]; omega), cond_false]
      exact ⟨_, rfl, _, rfl⟩
theorem f21_loop {call : CallF} {n : Nat} (enh : Bool) (s : List UInt8) (hs : s.length ≤ 1000000) (hcall : ∀ at_ : Nat, at_ ≤ s.length → call 18 [.one (.str s), .one (.int .i64 at_), .one (.bool enh)] [] = gotR at_ (readQ enh s at_ 0 [] [])) : ∀ (m at_ : Nat) (out : List Cell), at_ ≤ s.length → s.length < at_ + m → out.length ≤ 3 * at_ →
    ∃ r, allR enh s m at_ out = some r ∧ ∃ nm, f21_L3 call n m s enh out at_ = some (.tup [.one (.sl nm 3 r.1), .one (.int .i64 r.2)], [])
  | 0, at_, out, h1, h2, _ => by omega
  | m + 1, at_, out, h1, h2, h3 => by
    unfold f21_L3 f21_T3 allR
    by_cases h : at_ < s.length
    · rw [if_pos h, decide_eq_true (by omega), cond_true]
      simp only [callK, hcall at_ h1]
      cases hq : readQ enh s at_ 0 [] [] with
      | error k =>
        have hk := readQ_err (s.length + 1) _ _ _ _ k (by omega) hq
        have hne : (k != 0) = true := by rcases hk with rfl | rfl <;> rfl
        refine ⟨([], k), rfl, none, ?_⟩
        simp only [gotR, gotE, castAgg, consK, castI, castS, castL, nilK, if_pos, hne, cond_true, Nat.beq_refl, Bool.true_or]
      | ok x =>
        obtain ⟨c, e, ts, n'⟩ := x
        obtain ⟨hlt, hle⟩ := readQ_ok (s.length + 1) _ _ _ _ _ _ _ _ (by omega) hq
        obtain ⟨r, hr1, nm, hr2⟩ := f21_loop (call := call) (n := n) enh s hs hcall m n' (out ++ [.int .i64 (c : Int), .str e, .sl none 1 (ts.map strC)]) hle (by omega) (by simp; omega)
        refine ⟨r, hr1, nm, ?_⟩
        rw [← hr2]
        have hne : ((0 : Int) != 0) = false := rfl
        simp only [gotR, gotO, castAgg, consK, castI, castS, castL, nilK, if_pos, hne, cond_true, cond_false, Nat.beq_refl, Bool.true_or]
        rw [guard_ok (by rw [decide_eq_true_eq]; unfold rowLim; simp; omega), show (at_ : Int) + ((n' : Int) - (at_ : Int)) = n' by omega, wrap_ok (by omega) (by omega)]
    · rw [if_neg h, decide_eq_false (by omega), cond_false]
      exact ⟨_, rfl, _, rfl⟩
/-- A reply is the same as itself. -/
theorem same_loop {call : CallF} {n : Nat} (c : Int) (e : List UInt8) (ls : List (List UInt8)) (hl : ls.length ≤ 1000000) : ∀ (m i : Nat), i ≤ ls.length → ls.length < i + m →
    f19_L5 call n m i c e (ls.map Cell.str) c e (ls.map Cell.str) = some (.one (.bool true), [])
  | 0, i, h1, h2 => by omega
  | m + 1, i, h1, h2 => by
    unfold f19_L5 f19_T5
    by_cases h : i < ls.length
    · have hi : i < (ls.map Cell.str).length := by simpa using h
      rw [decide_eq_true (by simp; omega), cond_true, item_at hi, List.getElem_map]
      simp only [castS, item_at hi, List.getElem_map, beq_self, Bool.not_true, cond_false, wrap_ok (x := (i : Int) + 1) (by omega) (by omega)]
      exact same_loop c e ls hl m (i + 1) (by omega) (by omega)
    · rw [decide_eq_false (by simp; omega), cond_false]
theorem same_true (n : Nat) (c : Int) (e : List UInt8) (ls : List (List UInt8)) (hl : ls.length ≤ 1000000) (hn : ls.length ≤ n) : acall AXE AXF (n + 1) 19 [.agg [.int .i64 c, .str e, .sl none 1 (ls.map Cell.str)], .agg [.int .i64 c, .str e, .sl none 1 (ls.map Cell.str)]] [] = some (.one (.bool true), []) := by
  rw [f19_eq]
  unfold f19_L f19_T
  rw [show (c != c) = false by simp, cond_false, beq_self, Bool.not_true, cond_false]
  simp only [f19_L1, f19_T1]
  rw [show ∀ z : Int, (z != z) = false by simp, cond_false]
  exact same_loop c e ls hl (n + 1) 0 (by omega) (by omega)
/-- lists of replies' cells -/
inductive Repls (b : Nat) : List Cell → Prop
  | nil : Repls b []
  | snoc (l : List Cell) (c : Int) (e : List UInt8) (ls : List (List UInt8)) : Repls b l → ls.length ≤ b → Repls b (l ++ [.int .i64 c, .str e, .sl none 1 (ls.map Cell.str)])
theorem Repls.len3 {b : Nat} {l : List Cell} (h : Repls b l) : ∃ k, l.length = 3 * k := by
  induction h with
  | nil => exact ⟨0, rfl⟩
  | snoc l c e ls _ _ ih => obtain ⟨k, ih⟩ := ih; exact ⟨k + 1, by simp [ih]; omega⟩
theorem Repls.at {b : Nat} {l : List Cell} (h : Repls b l) : ∀ i : Nat, i * 3 + 3 ≤ l.length → ∃ c e ls, (l.drop (i * 3)).take 3 = [.int .i64 c, .str e, .sl none 1 (List.map Cell.str ls)] ∧ ls.length ≤ b := by
  induction h with
  | nil => intro i h; simp at h
  | snoc l c e ls hl hb ih =>
    intro i hi
    obtain ⟨k, hk⟩ := hl.len3
    simp at hi
    by_cases h : i * 3 + 3 ≤ l.length
    · obtain ⟨c', e', ls', h1, h2⟩ := ih i h
      refine ⟨c', e', ls', ?_, h2⟩
      rw [List.drop_append_of_le_length (by omega), List.take_append_of_le_length (by rw [List.length_drop]; omega)]
      exact h1
    · have : i * 3 = l.length := by omega
      refine ⟨c, e, ls, ?_, hb⟩
      rw [this, List.drop_left]
      rfl
theorem readQ_few {enh : Bool} {b : List UInt8} : ∀ (m n c0 : Nat) (e0 : List UInt8) (ts : List ByteArray) (c : Nat) (e : List UInt8) (us : List ByteArray) (n' : Nat), b.length < n + m → ts.length ≤ n → readQ enh b n c0 e0 ts = .ok (c, e, us, n') → us.length ≤ n'
  | 0, n, c0, e0, ts, c, e, us, n', hm, _, h => by
    rw [readQ_short (by rw [List.drop_of_length_le (by omega)]; rfl)] at h; cases h
  | m + 1, n, c0, e0, ts, c, e, us, n', hm, hts, h => by
    rcases readQ_cases enh b n c0 e0 ts with ⟨h1, _⟩ | ⟨k, hk, hlen, ⟨h1, _⟩ | ⟨c1, m1, e1, t1, _, _, h1⟩⟩
    · rw [h1] at h; cases h
    · rw [h1] at h; cases h
    · rw [h1] at h
      cases m1 with
      | false => rw [if_neg (by simp)] at h; cases h; simp; omega
      | true =>
        rw [if_pos rfl] at h
        exact readQ_few m _ _ _ _ _ _ _ _ (by omega) (by simp; omega) h
theorem strC_map (ts : List ByteArray) : ts.map strC = (ts.map fun s => s.data.toList).map Cell.str := by simp [strC]
theorem allR_repls {enh : Bool} {s : List UInt8} : ∀ (m at_ : Nat) (out : List Cell) (r : List Cell × Int), allR enh s m at_ out = some r → Repls s.length out → Repls s.length r.1
  | 0, at_, out, r, h, _ => by cases h
  | m + 1, at_, out, r, h, ho => by
    unfold allR at h
    split at h
    · split at h
      · cases h; exact .nil
      · rename_i hlt _ c e ts n hq
        refine allR_repls m n _ r h ?_
        rw [strC_map]
        have h1 := readQ_few (s.length + 1) _ _ _ _ _ _ _ _ (by omega) (by simp) hq
        have h2 := (readQ_ok (s.length + 1) _ _ _ _ _ _ _ _ (by omega) hq).2
        exact .snoc _ _ _ _ ho (by simp; omega)
    · cases h; exact ho
theorem allR_len {enh : Bool} {s : List UInt8} : ∀ (m at_ : Nat) (out : List Cell) (r : List Cell × Int), allR enh s m at_ out = some r → out.length ≤ 3 * at_ → at_ ≤ s.length → r.1.length ≤ 3 * s.length
  | 0, at_, out, r, h, _, _ => by cases h
  | m + 1, at_, out, r, h, ho, ha => by
    unfold allR at h
    split at h
    · split at h
      · cases h; simp
      · rename_i hlt _ c e ts n hq
        have h2 := readQ_ok (s.length + 1) _ _ _ _ _ _ _ _ (by omega) hq
        exact allR_len m n _ r h (by simp; omega) h2.2
    · cases h; show out.length ≤ _; omega
/-- what a call says of a reply and itself -/
def SameAt (call : CallF) (b : Nat) : Prop := ∀ (c : Int) (e : List UInt8) (ls : List (List UInt8)), ls.length ≤ b → call 19 [.agg [.int .i64 c, .str e, .sl none 1 (ls.map Cell.str)], .agg [.int .i64 c, .str e, .sl none 1 (ls.map Cell.str)]] [] = some (.one (.bool true), [])
theorem same_at {n b : Nat} (hb : b ≤ n) (hb2 : b ≤ 1000000) : SameAt (acall AXE AXF (n + 1)) b := fun c e ls h => same_true n c e ls (by omega) (by omega)
/-- the law's last loop -/
theorem f4_loop {call : CallF} {N : Nat} (l : List Cell) (b : Nat) (hl : Repls b l) (hlen : l.length ≤ 1000000) (hsm : SameAt call b) : ∀ (m i : Nat), i * 3 ≤ l.length → l.length < (i + m) * 3 →
    f4_L18 call N m l l i = some (.one (.bool true), [])
  | 0, i, h1, h2 => by omega
  | m + 1, i, h1, h2 => by
    have ih := f4_loop (call := call) (N := N) l b hl hlen hsm m (i + 1)
    unfold f4_L18 f4_T18
    obtain ⟨k, hk⟩ := hl.len3
    have hw : IntKind.wrap .i64 ((i : Int) + 1) = ((i + 1 : Nat) : Int) := wrap_ok (by omega) (by omega)
    by_cases h : i < k
    · rw [decide_eq_true (by omega), cond_true]
      have hg : (decide (0 ≤ (i : Int)) && decide (i * 3 + 3 ≤ l.length)) = true := by
        rw [Bool.and_eq_true, decide_eq_true_eq, decide_eq_true_eq]; omega
      obtain ⟨c, e, ls, h3, h4⟩ := hl.at i (by omega)
      have hs := hsm c e ls h4
      simp only [Int.toNat_natCast, guard_ok hg, h3, consK, castI, castS, castL, if_pos, Nat.beq_refl, Bool.true_or, cond_true, callK, hs, castOne, castB, Bool.not_true, cond_false, hw]
      exact ih (by omega) (by omega)
    · rw [decide_eq_false (by omega), cond_false]
theorem reads_call {call : CallF} {n : Nat} (s : List UInt8) (enh : Bool) (hs : s.length ≤ 2000) (haw : call 16 [] [] = some (.one (.bool true), []))
    (hR : call 18 [.one (.str s), .one (.int .i64 (0 : Int)), .one (.bool enh)] [] = gotR 0 (readQ enh s 0 0 [] [])) (hsm : SameAt call 2000) {r : List Cell × Int} (hrep : Repls s.length r.1) (hrl : r.1.length ≤ 3 * s.length) {nm nm' : Option Nm}
    (hA : call 20 [.one (.sl none 1 (AX.byteCells s)), .one (.bool enh)] [] = some (.tup [.one (.sl nm 3 r.1), .one (.int .i64 r.2)], []))
    (hB : call 21 [.one (.str s), .one (.bool enh)] [] = some (.tup [.one (.sl nm' 3 r.1), .one (.int .i64 r.2)], [])) (hn : 2000 < n) : f4_L call n (AX.byteCells s) enh = some (.one (.bool true), []) := by
  unfold f4_L f4_T
  simp only [callK, haw, castOne, castB, Bool.not_true, cond_false]
  have hll : (AX.byteCells s).length = s.length := by simp [AX.byteCells]
  have hz : ∀ z : Int, (z != z) = false := by simp
  rw [hll, decide_eq_false (by omega), cond_false]
  have htail : f4_L9 call n (AX.byteCells s) enh false = some (.one (.bool true), []) := by
    unfold f4_L9 f4_T9
    simp only [cond_false, callK, hA, hB, castTup, consK, oneV, castL, castI, nilK, if_pos, Nat.beq_refl, Bool.true_or, cond_true, bytesK_byteCells]
    rw [hz, cond_false, hz]
    simp only [f4_L14, f4_T14, cond_false]
    exact f4_loop r.1 s.length hrep (by omega) (fun c e ls h => hsm c e ls (by omega)) n 0 (by omega) (by omega)
  simp only [primK, pRead_at enh s (by omega), bytesK_byteCells, hR]
  cases hq : readQ enh s 0 0 [] [] with
  | error k =>
    have hs0 := hsm 0 [] [] (by simp)
    simp only [List.map_nil] at hs0
    simp only [readAV, gotR, gotE, castTup, castAgg, consK, aggV, castI, castS, castL, nilK, oneV, if_pos, cond_true, cond_false, Nat.beq_refl, Bool.true_or, hs0, castOne, castB, Bool.not_true, hz]
    exact htail
  | ok x =>
    obtain ⟨c, e, ts, n'⟩ := x
    have h1 := readQ_few (s.length + 1) _ _ _ _ _ _ _ _ (by omega) (by simp) hq
    have h2 := (readQ_ok (s.length + 1) _ _ _ _ _ _ _ _ (by omega) hq).2
    have hs0 := hsm c e (ts.map fun s => s.data.toList) (by simp; omega)
    rw [← strC_map] at hs0
    simp only [readAV, gotR, gotO, castTup, castAgg, consK, aggV, castI, castS, castL, nilK, oneV, if_pos, cond_true, cond_false, Nat.beq_refl, Bool.true_or, tsC, hs0, castOne, castB, Bool.not_true, hz, Int.sub_zero, Int.ofNat_zero, Int.natCast_zero]
    exact htail
theorem reads_law (s : List UInt8) (enh : Bool) : acall AXE AXF 3000 4 [.one (.sl none 1 (AX.byteCells s)), .one (.bool enh)] [] = some (.one (.bool true), []) := by
  rw [show (3000 : Nat) = 2999 + 1 from rfl, f4_eq]
  have haw : acall AXE AXF 2999 16 [] [] = some (.one (.bool true), []) := awake_true 2993
  by_cases h : s.length > 2000
  · have hll : (AX.byteCells s).length = s.length := by simp [AX.byteCells]
    generalize acall AXE AXF 2999 = call at haw
    unfold f4_L f4_T
    simp only [callK, haw, castOne, castB, Bool.not_true, cond_false]
    rw [hll, decide_eq_true (by omega), cond_true]
  · have hs : s.length ≤ 2000 := by omega
    have h20 := f20_loop (call := acall AXE AXF 2998) (n := 2999) enh s (by omega) 2999 0 [] (by omega) (by omega) (by simp)
    have h21 := f21_loop (call := acall AXE AXF 2998) (n := 2999) enh s (by omega) (fun at_ hat => rread_eq 2997 s at_ enh (by omega) hat (by omega)) 2999 0 [] (by omega) (by omega) (by simp)
    obtain ⟨r, hr1, nm, hr2⟩ := h20
    obtain ⟨r', hr1', nm', hr2'⟩ := h21
    rw [hr1] at hr1'
    cases hr1'
    have hrep := allR_repls _ _ _ r hr1 .nil
    have hrl := allR_len _ _ _ r hr1 (by simp) (by omega)
    refine reads_call (nm := nm) (nm' := nm') s enh hs haw (rread_eq 2998 s 0 enh (by omega) (by omega) (by omega)) (same_at (n := 2998) (by omega) (by omega)) hrep hrl ?_ ?_ (by omega)
    · rw [show (2999 : Nat) = 2998 + 1 from rfl, f20_eq]
      unfold f20_L f20_T
      exact hr2
    · rw [show (2999 : Nat) = 2998 + 1 from rfl, f21_eq]
      unfold f21_L f21_T
      exact hr2'
end AX
end Go.Proofs.YtalkglheaadigaaDoor
