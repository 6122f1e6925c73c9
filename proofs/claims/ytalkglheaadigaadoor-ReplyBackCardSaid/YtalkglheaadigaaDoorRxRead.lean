/-
  What the reference reads, as a plain function.
-/
import Derived.Test.YtalkglheaadigaaDoorRxBytes
set_option maxRecDepth 20000
set_option linter.unusedVariables false
set_option linter.unusedSimpArgs false
set_option linter.unusedSectionVars false
namespace Go.Proofs.YtalkglheaadigaaDoor
open Go.ChangeShapes Go.WideShapes Go.ChangeAt Go.RowKit
namespace AX
theorem wrap_ok {x : Int} (h1 : -9223372036854775808 ≤ x) (h2 : x < 9223372036854775808) : IntKind.wrap .i64 x = x := by rw [IntKind.wrap_i64]; omega
theorem item_at {R α : Type} {l : List α} {i : Nat} (h : i < l.length) {k : α → Option R} : itemK l (i : Int) k = k l[i] := by
  unfold itemK
  rw [decide_eq_true (by omega), cond_true, Int.toNat_natCast, List.getElem?_eq_getElem h]
theorem item_at3 {R α : Type} {l : List α} (h : 3 < l.length) {k : α → Option R} : itemK l (3 : Int) k = k l[3] := item_at (i := 3) h
theorem guard_ok {R : Type} {b : Bool} {k : Option R} (h : b = true) : guardB b k = k := by rw [h]; rfl
theorem plain_loop (call : CallF) (n : Nat) (l : List UInt8) (hl : l.length < 1000000000) : ∀ (m i : Nat), i ≤ l.length → l.length < i + m →
    f45_L2 call n m l (i : Int) = some (.one (.bool ((l.drop i).all lineC && decide (l.length ≤ 400))), [])
  | 0, i, h1, h2 => by omega
  | m + 1, i, h1, h2 => by
    have ih := plain_loop call n l hl m (i + 1)
    unfold f45_L2 f45_T2
    by_cases h : i < l.length
    · rw [decide_eq_true (by omega : (i : Int) < (l.length : Int)), cond_true, item_at h, item_at h, List.drop_eq_getElem_cons h, List.all_cons]
      have hw : IntKind.wrap .i64 ((i : Int) + 1) = ((i + 1 : Nat) : Int) := wrap_ok (by omega) (by omega)
      simp only [f45_L7, f45_T7, f45_L9, f45_T9, hw]
      by_cases ha : l[i].toNat < 32
      · have hc : lineC l[i] = false := by unfold lineC; rw [decide_eq_false (by omega)]
        rw [decide_eq_true (by omega : (l[i].toNat : Int) < 32), hc]; rfl
      · rw [decide_eq_false (by omega : ¬ (l[i].toNat : Int) < 32)]
        by_cases hb : 126 < l[i].toNat
        · have hc : lineC l[i] = false := by unfold lineC; rw [decide_eq_false (by omega)]
          rw [decide_eq_true (by omega : (l[i].toNat : Int) > 126), hc]; rfl
        · have hc : lineC l[i] = true := by unfold lineC; rw [decide_eq_true (by omega)]
          rw [decide_eq_false (by omega : ¬ (l[i].toNat : Int) > 126), hc, Bool.true_and, cond_false, cond_false, ih (by omega) (by omega)]
    · rw [decide_eq_false (by omega : ¬ (i : Int) < (l.length : Int)), List.drop_of_length_le (by omega), List.all_nil, Bool.true_and, cond_false,
        show decide ((l.length : Int) ≤ 400) = decide (l.length ≤ 400) by rw [decide_eq_decide]; omega]
theorem plain_eq (n : Nat) (l : List UInt8) (hl : l.length < 1000000000) (hn : l.length ≤ n) : acall AXE AXF (n + 1) 45 [.one (.str l)] [] = some (.one (.bool (lineB l)), []) := by
  rw [f45_eq]
  unfold f45_L f45_T
  exact plain_loop _ _ l hl (n + 1) 0 (by omega) (by omega)
theorem fits_eq (n : Nat) (l : List UInt8) (code : Int) (hl : l.length ≤ 10000000) (h0 : 0 ≤ code) (h1 : code ≤ 100000) : acall AXE AXF (n + 1) 44 [.one (.str l), .one (.int .i64 code)] [] = some (.one (.bool (fitsB l code)), []) := by
  rw [f44_eq]
  unfold f44_L f44_T
  have hp : pREnh [.one (.str l)] = some (codeAV (enhQ l)) := by
    have : decide (l.length ≤ 10000000) = true := decide_eq_true hl
    simp only [pREnh, this, cond_true]
  have hw : IntKind.wrap .i64 (Int.tdiv code 100) = Int.tdiv code 100 := by
    rw [Int.tdiv_eq_ediv_of_nonneg h0]
    exact wrap_ok (by omega) (by omega)
  simp only [primK, hp, hw]
  cases he : enhQ l with
  | none => rw [fitsB_none he]; rfl
  | some x =>
    obtain ⟨a, b, c⟩ := x
    rw [fitsB_some he]
    rfl

abbrev nmG : Option Nm := some ⟨1000000, 2, 9⟩
def gotE (k : Int) : Option RR := some (.agg [.int .i64 0, .str [], .sl nmG 1 [], .int .i64 0, .int .i64 k], [])
def gotO (c : Int) (e : List UInt8) (ts : List Cell) (n : Int) : Option RR := some (.agg [.int .i64 c, .str e, .sl nmG 1 ts, .int .i64 n, .int .i64 0], [])
abbrev KR := List UInt8 → Int → Bool → Int → Int → List UInt8 → List Cell → Int → Int → Int → List UInt8 → List Cell → Option RR
def tailR (K : KR) (s : List UInt8) (frm : Int) (enh : Bool) (at_ : Int) (l : List UInt8) (code : Int) (text e : List UInt8) (rl : List Cell) : Option RR :=
  if (l.getD 3 0).toNat = 32 then gotO code e (rl ++ [.str text]) (at_ - frm) else K s frm enh at_ 0 [] [] 0 0 code e (rl ++ [.str text])
/-- what becomes of a line that was read -/
def endR (K : KR) (s : List UInt8) (frm : Int) (enh : Bool) (at_ : Int) (l : List UInt8) (code : Int) (text e : List UInt8) (rc : Int) (re : List UInt8) (rl : List Cell) : Option RR :=
  if 200 ≤ code ∧ code ≤ 599 ∧ lineB text = true ∧ ¬ (rl ≠ [] ∧ (rc ≠ code ∨ re ≠ e)) then tailR K s frm enh at_ l code text e rl else gotE 3
theorem L31_eq {call : CallF} {n : Nat} (K : KR) (s : List UInt8) (frm : Int) (enh : Bool) (at_ : Int) (l : List UInt8) (code : Int) (text e : List UInt8) (rc : Int) (re : List UInt8) (rl : List Cell)
    (hp : call 45 [.one (.str text)] [] = some (.one (.bool (lineB text)), [])) (hr : (rl.length + 1) * 100 ≤ rowLim) (h3 : 3 < l.length) (hf : 0 ≤ at_ ∧ at_ < 4000000000) (hf2 : 0 ≤ frm ∧ frm < 4000000000) :
    f18_L31 call n K s frm enh at_ l code text e 0 [] [] 0 0 rc re rl = endR K s frm enh at_ l code text e rc re rl := by
  have hno : f18_L34 call n K s frm enh at_ l code text e true 0 [] [] 0 0 rc re rl = gotE 3 := rfl
  have hyes : f18_L34 call n K s frm enh at_ l code text e false 0 [] [] 0 0 rc re rl = tailR K s frm enh at_ l code text e rl := by
    unfold f18_L34 f18_T34 tailR
    have hg : decide ((rl.length + ([.str text] : List Cell).length) * 100 ≤ rowLim) = true := decide_eq_true hr
    rw [cond_false, guard_ok hg, item_at3 h3, wrap_ok (by omega) (by omega), show l.getD 3 0 = l[3] by simp [List.getD, h3]]
    by_cases h : l[3].toNat = 32
    · rw [if_pos h, show ((l[3].toNat : Int) == 32) = true by rw [beq_iff_eq]; omega]; rfl
    · rw [if_neg h, show ((l[3].toNat : Int) == 32) = false by rw [beq_eq_false_iff_ne]; omega]; rfl
  unfold f18_L31 f18_T31 endR
  simp only [hno, hyes]
  by_cases h1 : code < 200
  · rw [decide_eq_true h1, cond_true, if_neg (by omega)]
  · rw [decide_eq_false h1, cond_false]
    by_cases h2 : code > 599
    · rw [decide_eq_true h2, cond_true, if_neg (by omega)]
    · rw [decide_eq_false h2, cond_false]
      simp only [callK, hp, castOne, castB]
      cases h4 : lineB text with
      | false => simp only [Bool.not_false, cond_true]; rw [if_neg (by simp)]
      | true =>
        simp only [Bool.not_true, cond_false, Nat.div_one]
        cases rl with
        | nil => rw [if_pos ⟨by omega, by omega, by trivial, by simp⟩]; simp only [List.length_nil]; rfl
        | cons a r =>
          rw [decide_eq_true (by simp only [List.length_cons]; omega), cond_true]
          by_cases h5 : rc = code
          · rw [show (rc != code) = false by simp [h5], cond_false]
            by_cases h6 : re = e
            · rw [show (re == e) = true by simp [h6], Bool.not_true, hyes, if_pos ⟨by omega, by omega, by trivial, by simp [h5, h6]⟩]
            · rw [show (re == e) = false by simp [h6], Bool.not_false, hno, if_neg (by simp [h5, h6])]
          · rw [show (rc != code) = true by simp [h5], cond_true, if_neg (by simp [h5])]
/-- the enhanced code ahead of a text -/
theorem L30_eq {call : CallF} {n : Nat} (K : KR) (s : List UInt8) (frm : Int) (enh : Bool) (at_ : Int) (l : List UInt8) (code : Int) (text : List UInt8) (rc : Int) (re : List UInt8) (rl : List Cell)
    (hp : ∀ t : List UInt8, t.length ≤ text.length → call 45 [.one (.str t)] [] = some (.one (.bool (lineB t)), [])) (hc : ∀ t : List UInt8, t.length ≤ text.length → call 44 [.one (.str t), .one (.int .i64 code)] [] = some (.one (.bool (fitsB t code)), []))
    (hr : (rl.length + 1) * 100 ≤ rowLim) (h3 : 3 < l.length) (hf : 0 ≤ at_ ∧ at_ < 4000000000) (hf2 : 0 ≤ frm ∧ frm < 4000000000) (ht : text.length < 4000000000) : ∀ (m k : Nat), k ≤ text.length → text.length < k + m →
    f18_L30 call n K m s frm enh at_ l code text (k : Int) 0 [] [] 0 0 rc re rl =
      (if Lib.indexByte (text.drop k) 32 = -1 then gotE 3 else
        if fitsB (text.take (k + (Lib.indexByte (text.drop k) 32).toNat)) code = true then endR K s frm enh at_ l code (text.drop (k + (Lib.indexByte (text.drop k) 32).toNat + 1)) (text.take (k + (Lib.indexByte (text.drop k) 32).toNat)) rc re rl else gotE 3)
  | 0, k, h1, h2 => by omega
  | m + 1, k, h1, h2 => by
    have ih := L30_eq (call := call) (n := n) K s frm enh at_ l code text rc re rl hp hc hr h3 hf hf2 ht m (k + 1)
    unfold f18_L30 f18_T30
    by_cases h : k < text.length
    · rw [decide_eq_true (by omega : (k : Int) < (text.length : Int)), cond_true, item_at h, List.drop_eq_getElem_cons h]
      have hw : IntKind.wrap .i64 ((k : Int) + 1) = ((k + 1 : Nat) : Int) := wrap_ok (by omega) (by omega)
      unfold Lib.indexByte
      by_cases h32 : text[k] = 32
      · rw [show ((text[k].toNat : Int) != 32) = false by rw [h32]; rfl, show (text[k] == 32) = true by rw [h32]; rfl, if_pos rfl, if_neg (by decide)]
        simp only [Int.toNat_zero, Nat.add_zero]
        have hle : (text.take k).length ≤ text.length := by rw [List.length_take]; omega
        have hc1 : decide (0 ≤ (k : Int) ∧ (Int.toNat (k : Int)) ≤ text.length) = true := decide_eq_true ⟨by omega, by omega⟩
        have hc2 : decide (0 ≤ ((k + 1 : Nat) : Int) ∧ (Int.toNat ((k + 1 : Nat) : Int)) ≤ text.length) = true := decide_eq_true ⟨by omega, by omega⟩
        have hc1' : decide (0 ≤ (k : Int) ∧ k ≤ text.length) = true := decide_eq_true ⟨by omega, by omega⟩
        have hc2' : decide (0 ≤ ((k + 1 : Nat) : Int) ∧ k + 1 ≤ text.length) = true := decide_eq_true ⟨by omega, by omega⟩
        simp only [f18_L33, f18_T33, cond_false, f18_L42, f18_T42]
        rw [show ((k : Int) == (text.length : Int)) = false by rw [beq_eq_false_iff_ne]; omega, cond_false, hc1, cond_true]
        simp only [Int.toNat_natCast, List.drop_zero, callK, hc _ hle, castOne, castB, f18_L44, f18_T44, hw, hc1', hc2', cond_true]
        cases hfit : fitsB (text.take k) code with
        | false => rw [Bool.not_false, cond_true, if_neg (by simp)]; rfl
        | true =>
          rw [Bool.not_true, cond_false, if_pos rfl, List.take_length]
          refine L31_eq K s frm enh at_ l code _ _ rc re rl (hp _ ?_) hr h3 hf hf2
          rw [List.length_drop]; omega
      · rw [show ((text[k].toNat : Int) != 32) = true by
          rw [bne_iff_ne]; intro e; apply h32; apply UInt8.toNat_inj.1; have : (32 : UInt8).toNat = 32 := rfl
          omega, show (text[k] == 32) = false by rw [beq_eq_false_iff_ne]; exact h32]
        simp only [f18_L33, f18_T33, cond_true, f18_L41, f18_T41, hw, Bool.false_eq_true, if_false]
        rw [ih (by omega) (by omega)]
        have hge := Lib.indexByte_ge (text.drop (k + 1)) 32
        by_cases hm : Lib.indexByte (text.drop (k + 1)) 32 = -1
        · rw [if_pos hm, hm]; rfl
        · rw [if_neg hm, show (Lib.indexByte (text.drop (k + 1)) 32 == -1) = false by rw [beq_eq_false_iff_ne]; exact hm]
          simp only [Bool.false_eq_true, if_false]
          rw [if_neg (show ¬ (Lib.indexByte (text.drop (k + 1)) 32 + 1 = -1) by omega), show (k : Nat) + (Lib.indexByte (text.drop (k + 1)) 32 + 1).toNat = k + 1 + (Lib.indexByte (text.drop (k + 1)) 32).toNat by omega]
    · rw [decide_eq_false (by omega : ¬ (k : Int) < (text.length : Int)), cond_false, List.drop_of_length_le (by omega)]
      simp only [f18_L33, f18_T33, cond_false, f18_L42, f18_T42]
      rw [show ((k : Int) == (text.length : Int)) = true by rw [beq_iff_eq]; omega]
      rfl
/-- a line, its digits read from a place on -/
theorem L19_dig {call : CallF} {n : Nat} (K : KR) (s : List UInt8) (frm : Int) (enh : Bool) (at_ : Int) (l : List UInt8) (acc i m : Nat) (rc : Int) (re : List UInt8) (rl : List Cell) (h3 : 3 < l.length) (hi : i < 3) (ha : acc < 1000) :
    f18_L19 call n K (m + 1) s frm enh at_ l acc i 0 [] [] 0 0 rc re rl = if digC (l.getD i 0) = true then f18_L19 call n K m s frm enh at_ l (acc * 10 + ((l.getD i 0).toNat - 48) : Nat) (i + 1 : Nat) 0 [] [] 0 0 rc re rl else gotE 3 := by
  have hlt : i < l.length := by omega
  have hb := l[i].toNat_lt
  rw [show l.getD i 0 = l[i] by simp [List.getD, hlt]]
  conv => lhs; unfold f18_L19
  unfold f18_T19
  rw [decide_eq_true (by omega : (i : Int) < 3), cond_true, item_at hlt, item_at hlt]
  simp only [f18_L27, f18_T27]
  by_cases h1 : l[i].toNat < 48
  · rw [decide_eq_true (by omega : (l[i].toNat : Int) < 48), cond_true, cond_true, if_neg (by unfold digC; rw [decide_eq_false (by omega)]; simp)]
    rfl
  · rw [decide_eq_false (by omega : ¬ (l[i].toNat : Int) < 48), cond_false]
    by_cases h2 : l[i].toNat > 57
    · rw [decide_eq_true (by omega : (l[i].toNat : Int) > 57), cond_true, if_neg (by unfold digC; rw [decide_eq_false (by omega)]; simp)]
      rfl
    · rw [decide_eq_false (by omega : ¬ (l[i].toNat : Int) > 57), cond_false, if_pos (by unfold digC; rw [decide_eq_true (by omega)]), item_at hlt,
        wrap_ok (x := 10 * (acc : Int)) (by omega) (by omega), wrap_ok (x := (l[i].toNat : Int)) (by omega) (by omega), wrap_ok (x := 10 * (acc : Int) + (l[i].toNat : Int)) (by omega) (by omega),
        wrap_ok (by omega) (by omega), wrap_ok (by omega) (by omega), show (10 * (acc : Int) + (l[i].toNat : Int) - 48) = ((acc * 10 + (l[i].toNat - 48) : Nat) : Int) by omega, show (i : Int) + 1 = ((i + 1 : Nat) : Int) by omega]
def lineR (K : KR) (s : List UInt8) (frm : Int) (enh : Bool) (at_ : Int) (l : List UInt8) (rc : Int) (re : List UInt8) (rl : List Cell) : Option RR :=
  match lineQ enh l with
  | none => gotE 3
  | some (c, m, e, t) => if rl ≠ [] ∧ (rc ≠ (c : Int) ∨ re ≠ e) then gotE 3 else if m = true then K s frm enh at_ 0 [] [] 0 0 c e (rl ++ [.str t]) else gotO c e (rl ++ [.str t]) (at_ - frm)
theorem three_take {l : List UInt8} (h : 3 < l.length) : l.take 3 = [l.getD 0 0, l.getD 1 0, l.getD 2 0] := by
  match l, h with
  | a :: b :: c :: d :: r, _ => rfl
theorem getD3 {l : List UInt8} (h : l.getD 3 0 = 32 ∨ l.getD 3 0 = 45) : (decide (l.getD 3 0 = 45) = true ↔ ¬ (l.getD 3 0).toNat = 32) := by
  rcases h with h | h <;> rw [h] <;> decide
theorem L13_eq {call : CallF} {n : Nat} (K : KR) (s : List UInt8) (frm : Int) (enh : Bool) (at_ : Int) (l : List UInt8) (rc : Int) (re : List UInt8) (rl : List Cell)
    (hp : ∀ t : List UInt8, t.length ≤ l.length → call 45 [.one (.str t)] [] = some (.one (.bool (lineB t)), [])) (hc : ∀ (t : List UInt8) (code : Nat), t.length ≤ l.length → code < 1000 → call 44 [.one (.str t), .one (.int .i64 code)] [] = some (.one (.bool (fitsB t code)), []))
    (hr : (rl.length + 1) * 100 ≤ rowLim) (hf : 0 ≤ at_ ∧ at_ < 4000000000) (hf2 : 0 ≤ frm ∧ frm < 4000000000) (ht : l.length < 4000000000) (hn : l.length + 4 ≤ n) :
    f18_L13 call n K s frm enh at_ l 0 [] [] 0 0 rc re rl = lineR K s frm enh at_ l rc re rl := by
  unfold f18_L13 f18_T13 lineR
  have hno : lineQ enh l = none → (match lineQ enh l with
    | none => gotE 3
    | some (c, m, e, t) => if rl ≠ [] ∧ (rc ≠ (c : Int) ∨ re ≠ e) then gotE 3 else if m = true then K s frm enh at_ 0 [] [] 0 0 c e (rl ++ [.str t]) else gotO c e (rl ++ [.str t]) (at_ - frm)) = gotE 3 := fun h => by rw [h]
  by_cases h4 : l.length < 4
  · rw [decide_eq_true (by omega : (l.length : Int) < 4), hno (by unfold lineQ headOk; rw [decide_eq_false (by omega)]; rfl)]
    rfl
  · have h3 : 3 < l.length := by omega
    have h3b := l[3].toNat_lt
    have hg3 : l.getD 3 0 = l[3] := by simp [List.getD, h3]
    rw [decide_eq_false (by omega : ¬ (l.length : Int) < 4), cond_false, item_at3 h3, item_at3 h3]
    -- the sign
    have hsgn : (l[3] = 32 ∨ l[3] = 45) ∨ ¬ (l[3] = 32 ∨ l[3] = 45) := Classical.em _
    have hyes : (l[3] = 32 ∨ l[3] = 45) → f18_L14 call n K s frm enh at_ l false 0 [] [] 0 0 rc re rl = (match lineQ enh l with
    | none => gotE 3
    | some (c, m, e, t) => if rl ≠ [] ∧ (rc ≠ (c : Int) ∨ re ≠ e) then gotE 3 else if m = true then K s frm enh at_ 0 [] [] 0 0 c e (rl ++ [.str t]) else gotO c e (rl ++ [.str t]) (at_ - frm)) := by
      intro hs
      obtain ⟨n', rfl⟩ : ∃ n', n = n' + 4 := ⟨n - 4, by omega⟩
      show f18_L19 call (n' + 4) K (n' + 4) s frm enh at_ l ((0 : Nat) : Int) ((0 : Nat) : Int) 0 [] [] 0 0 rc re rl = _
      have hv := three_take h3
      have hQ0 : (l.take 3).all digC = false → lineQ enh l = none := fun h => by unfold lineQ headOk; rw [h]; simp
      rw [L19_dig K s frm enh at_ l 0 0 _ rc re rl h3 (by omega) (by omega)]
      cases hd0 : digC (l.getD 0 0) with
      | false => rw [if_neg (by simp), hno (hQ0 (by rw [hv]; simp only [List.all_cons, hd0, Bool.false_and]))]
      | true =>
        have hb0 := dig_ok hd0
        rw [if_pos rfl, L19_dig K s frm enh at_ l _ 1 _ rc re rl h3 (by omega) (by omega)]
        cases hd1 : digC (l.getD 1 0) with
        | false => rw [if_neg (by simp), hno (hQ0 (by rw [hv]; simp only [List.all_cons, hd1, Bool.false_and, Bool.and_false]))]
        | true =>
          have hb1 := dig_ok hd1
          rw [if_pos rfl, L19_dig K s frm enh at_ l _ 2 _ rc re rl h3 (by omega) (by omega)]
          cases hd2 : digC (l.getD 2 0) with
          | false => rw [if_neg (by simp), hno (hQ0 (by rw [hv]; simp only [List.all_cons, hd2, Bool.false_and, Bool.and_false]))]
          | true =>
            have hb2 := dig_ok hd2
            rw [if_pos rfl]
            have hval : ((0 * 10 + ((l.getD 0 0).toNat - 48)) * 10 + ((l.getD 1 0).toNat - 48)) * 10 + ((l.getD 2 0).toNat - 48) = valN 0 (l.take 3) := by rw [hv]; rfl
            rw [hval]
            have hall : (l.take 3).all digC = true := by rw [hv]; simp only [List.all_cons, List.all_nil, hd0, hd1, hd2, Bool.and_self]
            have hlt : valN 0 (l.take 3) < 1000 := by
              have := valN_lt (l.take 3) 0 0 hall (by decide)
              rw [List.length_take, Nat.min_eq_left (by omega)] at this
              exact this
            have hhead : headOk l = decide (200 ≤ valN 0 (l.take 3) ∧ valN 0 (l.take 3) ≤ 599) := by
              unfold headOk
              rw [decide_eq_true (by omega), hg3, decide_eq_true hs, hall]; rfl
            have hm3 := getD3 (hg3 ▸ hs)
            unfold lineQ
            rw [hhead]
            generalize valN 0 (l.take 3) = V at *
            -- the tail
            have hend : ∀ text e : List UInt8, endR K s frm enh at_ l (V : Int) text e rc re rl =
                (if (200 ≤ V ∧ V ≤ 599) ∧ lineB text = true then (if rl ≠ [] ∧ (rc ≠ (V : Int) ∨ re ≠ e) then gotE 3 else if decide (l.getD 3 0 = 45) = true then K s frm enh at_ 0 [] [] 0 0 V e (rl ++ [.str text]) else gotO V e (rl ++ [.str text]) (at_ - frm)) else gotE 3) := by
              intro text e
              unfold endR
              by_cases hA : 200 ≤ V ∧ V ≤ 599
              · by_cases hB : lineB text = true
                · by_cases hC : rl ≠ [] ∧ (rc ≠ (V : Int) ∨ re ≠ e)
                  · rw [if_neg (fun h => h.2.2.2 hC), if_pos ⟨hA, hB⟩, if_pos hC]
                  · rw [if_pos ⟨by omega, by omega, hB, hC⟩, if_pos ⟨hA, hB⟩, if_neg hC]
                    unfold tailR
                    by_cases hD : (l.getD 3 0).toNat = 32
                    · rw [if_pos hD, if_neg (fun h => hm3.1 h hD)]
                    · rw [if_neg hD, if_pos (hm3.2 hD)]
                · rw [if_neg (fun h => hB h.2.2.1), if_neg (fun h => hB h.2)]
              · rw [if_neg (fun h => hA ⟨by omega, by omega⟩), if_neg (fun h => hA h.1)]
            unfold f18_L19 f18_T19
            simp only [show decide (((2 + 1 : Nat) : Int) < 3) = false from rfl, cond_false]
            rw [decide_eq_true ⟨by decide, by show 4 ≤ l.length; omega⟩, cond_true, show Int.toNat 4 = 4 from rfl, List.take_length]
            cases enh with
            | false =>
              rw [cond_false, L31_eq K s frm false at_ l (V : Int) _ _ rc re rl (hp _ (by rw [List.length_drop]; omega)) hr h3 hf hf2, hend]
              by_cases hA : 200 ≤ V ∧ V ≤ 599
              · rw [if_pos (decide_eq_true hA)]
                cases hB : lineB (l.drop 4) with
                | false => rw [if_neg (by simp)]; rfl
                | true => rw [if_pos ⟨hA, rfl⟩]; rfl
              · rw [decide_eq_false hA, if_neg (fun h => hA h.1)]; rfl
            | true =>
              rw [cond_true]
              have h30 := L30_eq (call := call) (n := n' + 4) K s frm true at_ l (V : Int) (l.drop 4) rc re rl (fun t h => hp t (by rw [List.length_drop] at h; omega)) (fun t h => hc t V (by rw [List.length_drop] at h; omega) hlt) hr h3 hf hf2 (by rw [List.length_drop]; omega) (n' + 4) 0 (by omega) (by rw [List.length_drop]; omega)
              rw [List.drop_zero] at h30
              refine Eq.trans h30 ?_
              simp only [hend, Nat.zero_add]
              have hcut : Lib.cut (l.drop 4) [32] = if 0 ≤ Lib.indexByte (l.drop 4) 32 then ((l.drop 4).take (Lib.indexByte (l.drop 4) 32).toNat, (l.drop 4).drop ((Lib.indexByte (l.drop 4) 32).toNat + 1), true) else (l.drop 4, [], false) := by
                unfold Lib.cut; rw [Lib.index_one]; rfl
              have hge := Lib.indexByte_ge (l.drop 4) 32
              rw [hcut]
              by_cases hi : Lib.indexByte (l.drop 4) 32 = -1
              · rw [if_pos hi, if_neg (show ¬ 0 ≤ Lib.indexByte (l.drop 4) 32 by omega)]
                simp
              · rw [if_neg hi, if_pos (show 0 ≤ Lib.indexByte (l.drop 4) 32 by omega)]
                generalize (l.drop 4).take (Lib.indexByte (l.drop 4) 32).toNat = e
                generalize (l.drop 4).drop ((Lib.indexByte (l.drop 4) 32).toNat + 1) = text
                by_cases hA : 200 ≤ V ∧ V ≤ 599
                · cases hfit : fitsB e (V : Int) with
                  | false => simp [hA]
                  | true =>
                    cases hB : lineB text with
                    | false => simp [hA]
                    | true => simp [hA]
                · simp [hA]
    rcases hsgn with hs | hs
    · have : (l[3] = 32) ∨ (l[3] ≠ 32 ∧ l[3] = 45) := by
        by_cases h : l[3] = 32
        · exact .inl h
        · exact .inr ⟨h, hs.resolve_left h⟩
      rcases this with h | ⟨_, h⟩
      · rw [show ((l[3].toNat : Int) != 32) = false by rw [h]; rfl, cond_false]
        exact hyes hs
      · rw [show ((l[3].toNat : Int) != 32) = true by rw [h]; rfl, cond_true, show ((l[3].toNat : Int) != 45) = false by rw [h]; rfl]
        exact hyes hs
    · have h1 : l[3].toNat ≠ 32 := fun e => hs (.inl (UInt8.toNat_inj.1 e))
      have h2 : l[3].toNat ≠ 45 := fun e => hs (.inr (UInt8.toNat_inj.1 e))
      rw [show ((l[3].toNat : Int) != 32) = true by rw [bne_iff_ne]; omega, cond_true, show ((l[3].toNat : Int) != 45) = true by rw [bne_iff_ne]; omega,
        hno (by unfold lineQ headOk; rw [hg3, decide_eq_false hs]; simp)]
      rfl
/-- the end of a line -/
theorem L5_eq {call : CallF} {n : Nat} (K : KR) (s : List UInt8) (frm at_ : Nat) (enh : Bool) (rc : Int) (re : List UInt8) (rl : List Cell) (hs : s.length < 1000000000) : ∀ (m i : Nat), at_ ≤ i → i ≤ s.length → s.length < i + m →
    f18_L5 call n K m s frm enh at_ i 0 [] [] 0 0 rc re rl =
      (if Lib.index (s.drop i) [13, 10] = -1 then gotE 2 else
        f18_L13 call n K s frm enh ((i + (Lib.index (s.drop i) [13, 10]).toNat + 2 : Nat) : Int) ((s.take (i + (Lib.index (s.drop i) [13, 10]).toNat)).drop at_) 0 [] [] 0 0 rc re rl)
  | 0, i, h0, h1, h2 => by omega
  | m + 1, i, h0, h1, h2 => by
    have ih := L5_eq (call := call) (n := n) K s frm at_ enh rc re rl hs m (i + 1)
    have hw : IntKind.wrap .i64 ((i : Int) + 1) = ((i + 1 : Nat) : Int) := wrap_ok (by omega) (by omega)
    have hw2 : IntKind.wrap .i64 ((i : Int) + 2) = ((i + 2 : Nat) : Int) := wrap_ok (by omega) (by omega)
    unfold f18_L5 f18_T5
    simp only [hw]
    by_cases h : i + 1 < s.length
    · have hi : i < s.length := by omega
      rw [decide_eq_true (by omega : ((i + 1 : Nat) : Int) < (s.length : Int)), cond_true, item_at hi, item_at h, List.drop_eq_getElem_cons hi]
      have hno : ¬ (s[i] = 13 ∧ s[i + 1] = 10) → f18_L5 call n K m s frm enh at_ ((i + 1 : Nat) : Int) 0 [] [] 0 0 rc re rl = (if Lib.index (s[i] :: s.drop (i + 1)) [13, 10] = -1 then gotE 2 else
        f18_L13 call n K s frm enh ((i + (Lib.index (s[i] :: s.drop (i + 1)) [13, 10]).toNat + 2 : Nat) : Int) ((s.take (i + (Lib.index (s[i] :: s.drop (i + 1)) [13, 10]).toNat)).drop at_) 0 [] [] 0 0 rc re rl) := by
        intro hn
        rw [ih (by omega) (by omega) (by omega)]
        conv => rhs; unfold Lib.index
        have hpre : ([13, 10] : List UInt8).isPrefixOf (s[i] :: s.drop (i + 1)) = false := by
          rw [List.drop_eq_getElem_cons h]
          simp only [List.isPrefixOf, Bool.and_true]
          rw [Bool.and_eq_false_iff, beq_eq_false_iff_ne, beq_eq_false_iff_ne]
          by_cases ha : s[i] = 13
          · exact .inr fun e => hn ⟨ha, e.symm⟩
          · exact .inl fun e => ha e.symm
        have hge := Lib.index_ge (s.drop (i + 1)) [13, 10]
        rw [hpre]
        by_cases hm : Lib.index (s.drop (i + 1)) [13, 10] = -1
        · rw [if_pos hm, hm]; rfl
        · rw [if_neg hm, show (Lib.index (s.drop (i + 1)) [13, 10] == -1) = false by rw [beq_eq_false_iff_ne]; exact hm]
          simp only [Bool.false_eq_true, if_false]
          rw [if_neg (show ¬ (Lib.index (s.drop (i + 1)) [13, 10] + 1 = -1) by omega), show i + (Lib.index (s.drop (i + 1)) [13, 10] + 1).toNat = i + 1 + (Lib.index (s.drop (i + 1)) [13, 10]).toNat by omega]
      by_cases ha : s[i] = 13
      · rw [show ((s[i].toNat : Int) == 13) = true by rw [ha]; rfl, cond_true]
        by_cases hb : s[i + 1] = 10
        · rw [show ((s[i + 1].toNat : Int) == 10) = true by rw [hb]; rfl]
          have hx : Lib.index (s[i] :: s.drop (i + 1)) [13, 10] = 0 := by
            unfold Lib.index
            rw [List.drop_eq_getElem_cons h, ha, hb, if_pos (by simp [List.isPrefixOf])]
          simp only [hx, Bool.not_true, f18_L6, f18_T6, cond_false, f18_L8, f18_T8, hw]
          rw [decide_eq_false (by omega : ¬ ((i + 1 : Nat) : Int) ≥ (s.length : Int)), if_neg (by decide)]
          simp only [f18_L9, f18_T9, cond_false, f18_L11, f18_T11, Int.toNat_natCast, Int.toNat_zero, Nat.add_zero]
          rw [decide_eq_true (by omega), cond_true]
          simp only [f18_L12, f18_T12, hw2]
        · rw [show ((s[i + 1].toNat : Int) == 10) = false by
            rw [beq_eq_false_iff_ne]; intro e; apply hb; apply UInt8.toNat_inj.1; have : (10 : UInt8).toNat = 10 := rfl
            omega]
          simp only [Bool.not_false, f18_L6, f18_T6, cond_true, f18_L7, f18_T7, hw]
          exact hno (fun h => hb h.2)
      · rw [show ((s[i].toNat : Int) == 13) = false by
            rw [beq_eq_false_iff_ne]; intro e; apply ha; apply UInt8.toNat_inj.1; have : (13 : UInt8).toNat = 13 := rfl
            omega, cond_false]
        simp only [f18_L6, f18_T6, cond_true, f18_L7, f18_T7, hw]
        exact hno (fun h => ha h.1)
    · rw [decide_eq_false (by omega : ¬ ((i + 1 : Nat) : Int) < (s.length : Int)), cond_false]
      have hx : Lib.index (s.drop i) [13, 10] = -1 := by
        by_cases hi : i < s.length
        · rw [List.drop_eq_getElem_cons hi, List.drop_of_length_le (by omega)]
          unfold Lib.index
          simp [Lib.index]
        · rw [List.drop_of_length_le (by omega)]; rfl
      rw [if_pos hx]
      simp only [f18_L6, f18_T6, cond_false, f18_L8, f18_T8, hw]
      rw [decide_eq_true (by omega : ((i + 1 : Nat) : Int) ≥ (s.length : Int))]
      rfl
def strC (t : ByteArray) : Cell := .str t.data.toList
def gotR (frm : Nat) : Except Int RGot → Option RR
  | .error k => gotE k
  | .ok (c, e, ts, n) => gotO c e (ts.map strC) ((n : Int) - frm)
theorem L3_eq {call : CallF} {n : Nat} (s : List UInt8) (frm : Nat) (enh : Bool) (hs : s.length ≤ 1000000) (hfrm : frm ≤ s.length)
    (hp : ∀ t : List UInt8, t.length ≤ s.length → call 45 [.one (.str t)] [] = some (.one (.bool (lineB t)), [])) (hc : ∀ (t : List UInt8) (code : Nat), t.length ≤ s.length → code < 1000 → call 44 [.one (.str t), .one (.int .i64 code)] [] = some (.one (.bool (fitsB t code)), []))
    (hn : s.length + 4 ≤ n) : ∀ (m at_ c0 : Nat) (e0 : List UInt8) (ts : List ByteArray), at_ ≤ s.length → s.length < at_ + m → ts.length ≤ at_ →
    f18_L3 call n m s frm enh at_ 0 [] [] 0 0 c0 e0 (ts.map strC) = gotR frm (readQ enh s at_ c0 e0 ts)
  | 0, at_, _, _, _, h1, h2, _ => by omega
  | m + 1, at_, c0, e0, ts, h1, h2, h3 => by
    have ih := L3_eq (call := call) (n := n) s frm enh hs hfrm hp hc hn m
    unfold f18_L3 f18_T3
    show f18_L5 call n (f18_L3 call n m) n s frm enh at_ at_ 0 [] [] 0 0 c0 e0 (ts.map strC) = _
    rw [L5_eq _ s frm at_ enh _ _ _ (by omega) n at_ (Nat.le_refl _) h1 (by omega)]
    have hge := Lib.index_ge (s.drop at_) [13, 10]
    by_cases hi : Lib.index (s.drop at_) [13, 10] = -1
    · rw [if_pos hi, readQ_short hi]; rfl
    · obtain ⟨k, hk⟩ : ∃ k : Nat, Lib.index (s.drop at_) [13, 10] = k := ⟨(Lib.index (s.drop at_) [13, 10]).toNat, by omega⟩
      have hroom := index_crlf_le _ _ hk
      rw [List.length_drop] at hroom
      rw [if_neg hi, hk, Int.toNat_natCast]
      have hl : (s.take (at_ + k)).drop at_ = (s.drop at_).take k := by rw [List.drop_take, Nat.add_sub_cancel_left]
      have hll : ((s.drop at_).take k).length ≤ s.length := by rw [List.length_take, List.length_drop]; omega
      rw [hl, L13_eq _ s frm enh _ _ _ _ _ (fun t h => hp t (by omega)) (fun t c h => hc t c (by omega)) (by rw [List.length_map]; unfold rowLim; omega) (by omega) (by omega) (by omega) (by omega)]
      unfold lineR
      cases hq : lineQ enh ((s.drop at_).take k) with
      | none => rw [readQ_none hk hq]; rfl
      | some x =>
        obtain ⟨c, b, e, t⟩ := x
        rw [readQ_some hk hq]
        have hmap : ts.map strC ++ [.str t] = (ts ++ [(⟨t.toArray⟩ : ByteArray)]).map strC := by simp [strC]
        have hnil : (ts.map strC ≠ [] ∧ ((c0 : Int) ≠ (c : Int) ∨ e0 ≠ e)) ↔ (ts ≠ [] ∧ (c ≠ c0 ∨ e ≠ e0)) := by
          rw [show (ts.map strC ≠ []) ↔ ts ≠ [] by simp, show ((c0 : Int) ≠ (c : Int)) ↔ c ≠ c0 by omega, show e0 ≠ e ↔ e ≠ e0 from ⟨Ne.symm, Ne.symm⟩]
        simp only [hmap]
        by_cases hA : ts ≠ [] ∧ (c ≠ c0 ∨ e ≠ e0)
        · rw [if_pos hA, if_pos (hnil.2 hA)]; rfl
        · rw [if_neg hA, if_neg (fun h => hA (hnil.1 h))]
          cases b with
          | false => rw [if_neg (by simp), if_neg (by simp)]; rfl
          | true =>
            rw [if_pos rfl, if_pos rfl]
            exact ih (at_ + k + 2) c e _ (by omega) (by omega) (by rw [List.length_append]; simp only [List.length_cons, List.length_nil]; omega)
/-- The reference reads what the program reads. -/
theorem rread_eq (n : Nat) (s : List UInt8) (frm : Nat) (enh : Bool) (hs : s.length ≤ 1000000) (hfrm : frm ≤ s.length) (hn : s.length + 4 ≤ n) :
    acall AXE AXF (n + 1) 18 [.one (.str s), .one (.int .i64 frm), .one (.bool enh)] [] = gotR frm (readQ enh s frm 0 [] []) := by
  rw [f18_eq]
  unfold f18_L f18_T
  obtain ⟨n', rfl⟩ : ∃ n', n = n' + 1 := ⟨n - 1, by omega⟩
  exact L3_eq s frm enh hs hfrm (fun t h => plain_eq n' t (by omega) (by omega)) (fun t c h1 h2 => fits_eq n' t c (by omega) (by omega) (by omega)) (by omega) _ frm 0 [] [] hfrm (by omega) (by simp)
end AX
end Go.Proofs.YtalkglheaadigaaDoor
