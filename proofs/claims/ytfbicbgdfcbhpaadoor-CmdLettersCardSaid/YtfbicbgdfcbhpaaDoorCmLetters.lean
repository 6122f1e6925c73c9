/-
  law06.CmdLetters answers true at all arguments: by the reckoning.
-/
import Derived.Test.YtfbicbgdfcbhpaaDoorCmFlip
import Derived.Test.YtfbicbgdfcbhpaaDoorCmAwake
set_option maxRecDepth 20000
set_option linter.unusedVariables false
set_option linter.unusedSimpArgs false
set_option linter.unusedSectionVars false
namespace Go.Proofs.YtfbicbgdfcbhpaaDoor
open SC CM
namespace AX
def flipC (c : UInt8) : UInt8 := c ^^^ 32
def letterC (c : UInt8) : Bool := decide (97 ≤ c.toNat ∧ c.toNat ≤ 122) || decide (65 ≤ c.toNat ∧ c.toNat ≤ 90)
theorem flip_xor : ∀ c : UInt8, IntKind.wrap .u8 ((BitVec.toNat ((BitVec.ofInt (IntKind.bits .u8) (c.toNat : Int)) ^^^ (BitVec.ofInt (IntKind.bits .u8) (32 : Int))) : Nat) : Int) = ((flipC c).toNat : Int) := by
  have h : ∀ n : Fin 256, IntKind.wrap .u8 ((BitVec.toNat ((BitVec.ofInt (IntKind.bits .u8) (n.val : Int)) ^^^ (BitVec.ofInt (IntKind.bits .u8) (32 : Int))) : Nat) : Int) = ((flipC (UInt8.ofNat n.val)).toNat : Int) := by decide +kernel
  intro c
  have := h ⟨c.toNat, c.toNat_lt⟩
  rw [UInt8.ofNat_toNat] at this
  exact this
theorem flip_up : ∀ c : UInt8, letterC c = true → upC (flipC c) = upC c := by
  have h : ∀ n : Fin 256, letterC (UInt8.ofNat n.val) = true → upC (flipC (UInt8.ofNat n.val)) = upC (UInt8.ofNat n.val) := by decide +kernel
  intro c
  have := h ⟨c.toNat, c.toNat_lt⟩
  rwa [UInt8.ofNat_toNat] at this
theorem letterC_iff (c : UInt8) : letterC c = true ↔ (97 ≤ c.toNat ∧ c.toNat ≤ 122) ∨ (65 ≤ c.toNat ∧ c.toNat ≤ 90) := by unfold letterC; simp
theorem byte_is (c k : UInt8) : ((c.toNat : Int) == (k.toNat : Int)) = decide (c = k) := by
  rw [Bool.eq_iff_iff, beq_iff_eq, decide_eq_true_eq, ← UInt8.toNat_inj]; omega
theorem verbal_loop {call : CallF} {n : Nat} (l : List UInt8) (i : Nat) (hi : i ≤ l.length) (hl : l.length ≤ 1000) (hv : ∀ l : List UInt8, l.length ≤ 1000 → call 36 [.one (.str l)] [] = some (.one (.int .i64 (verbQ l : Nat)), [])) :
    ∀ m j : Nat, j ≤ i → i < j + m → (∀ x ∈ l.take j, x ≠ 32) → f18_L2 call n m l (i : Int) (j : Int) = some (.one (.bool (verbalQ l i)), [])
  | 0, j, h1, h2, h3 => by omega
  | m + 1, j, h1, h2, h3 => by
    rw [f18_L2, f18_T2]
    by_cases h : j < i
    · have hj : j < l.length := by omega
      rw [decide_eq_true (by omega), cond_true, item_at hj, show (32 : Int) = ((32 : UInt8).toNat : Int) by rfl, byte_is, wrap_ok (by omega) (by omega), show ((j : Int) + 1) = ((j + 1 : Nat) : Int) by omega]
      by_cases hx : l[j] = 32
      · have hc : (Lib.cut l [32]).1 = l.take j := by
          have e : l = l.take j ++ 32 :: l.drop (j + 1) := by
            rw [← hx, ← List.drop_eq_getElem_cons hj, List.take_append_drop]
          conv => lhs; rw [e]
          rw [cut_hit _ _ h3]
        rw [decide_eq_true hx, cond_true, decide_eq_true (by omega), cond_true, Int.toNat_natCast, List.drop_zero, callK_some (hv _ (by rw [List.length_take]; omega)), oI_one]
        unfold verbalQ
        rw [hc, List.length_take, Nat.min_eq_left (by omega), if_pos h]
        by_cases h4 : verbQ (l.take j) = 4
        · rw [h4]; rfl
        · rw [show (((verbQ (l.take j) : Nat) : Int) == 4) = false by simp; omega, cond_false, f18_L10, f18_T10]
          congr 4
          rw [Bool.eq_iff_iff]; simp; omega
      · rw [decide_eq_false hx, cond_false]
        refine verbal_loop l i hi hl hv m (j + 1) (by omega) (by omega) fun x hm => ?_
        rw [List.take_succ_eq_append_getElem hj] at hm
        rcases List.mem_append.1 hm with hm | hm
        · exact h3 x hm
        · rw [List.mem_singleton.1 hm]; exact hx
    · obtain rfl : j = i := by omega
      rw [decide_eq_false (by omega), cond_false]
      unfold verbalQ
      rw [if_neg]
      rcases hit_cases 32 l with hn | ⟨a, b, rfl, hn⟩
      · rw [cut_no hn]; simp; omega
      · rw [cut_hit a b hn]
        intro hlt
        have hlt : a.length < j := hlt
        refine h3 32 ?_ rfl
        rw [List.take_append]
        refine List.mem_append_right _ ?_
        obtain ⟨d, hd⟩ : ∃ d, j - a.length = d + 1 := ⟨j - a.length - 1, by omega⟩
        rw [hd, List.take_succ_cons]
        exact List.mem_cons_self
theorem verbal_at (n : Nat) (l : List UInt8) (i : Nat) (hi : i ≤ l.length) (hl : l.length ≤ 1000) (hn : 5000 ≤ n) : acall AXE AXF (n + 1) 18 [.one (.str l), .one (.int .i64 (i : Int))] [] = some (.one (.bool (verbalQ l i)), []) := by
  rw [f18_eq, f18_L, f18_T]
  obtain ⟨k, rfl⟩ : ∃ k, n = k + 1 := ⟨n - 1, by omega⟩
  exact verbal_loop l i hi hl (fun l hl => Verb_at k l (by omega) (by omega)) _ 0 (by omega) (by omega) (by simp)
structure LettersCalls (call : CallF) : Prop where
  awake : call 17 [] [] = some (.one (.bool true), [])
  verbal : ∀ (l : List UInt8) (i : Nat), i ≤ l.length → l.length ≤ 1000 → call 18 [.one (.str l), .one (.int .i64 (i : Int))] [] = some (.one (.bool (verbalQ l i)), [])
  parse : ∀ l : List UInt8, call 19 [.one (.str l)] [] = lineV (parseQ l)
theorem letters_end {call : CallF} {n : Nat} (hC : LettersCalls call) (l c : List UInt8) (t : LC) (i : Int) (hF : Flip l c) : f5_L12 call n l t l.length i (byteCells c) = some (.one (.bool true), []) := by
  have h1 := hC.parse l
  have h2 := hC.parse c
  have hl := hF.len
  rw [flip_parse hF] at h2
  generalize parseQ l = x at h1 h2
  obtain ⟨x, k⟩ := x
  unfold lineV at h1 h2
  rw [f5_L12, f5_T12, callK_some h1, castTup_tup, consK_cons, aggV_agg, takeS_api_Cmd_cells_nil, nilK_nil, zI_cons, nilK_nil,
    f5_L14, f5_T14, ← hl, byteCells_len, show Nat.ble c.length c.length = true by simp, cond_true, take_byte, cm_bytesK,
    callK_some h2, castTup_tup, consK_cons, aggV_agg, takeS_api_Cmd_cells_nil, nilK_nil, zI_cons, nilK_nil, f5_L16, f5_T16]
  simp only [beq_self_eq_true, Bool.and_true, cond_true]
  rfl
theorem letters_loop {call : CallF} {n : Nat} (hC : LettersCalls call) (l : List UInt8) (hl : l.length ≤ 700) (t : List Bool) : ∀ (m i : Nat) (c : List UInt8), i ≤ t.length → t.length < i + m → Flip l c → (∀ q : Nat, q < i → l[q]? ≠ some 58) → i ≤ l.length →
    f5_L9 call n m l (t.map .bool) l.length (i : Int) (byteCells c) = some (.one (.bool true), [])
  | 0, i, c, h1, h2, hF, hq, hi => by omega
  | m + 1, i, c, h1, h2, hF, hq, hi => by
    have hcl := hF.len
    rw [f5_L9, f5_T9, List.length_map, Nat.div_one]
    have fin : f5_L10 call n (f5_L9 call n m) l (t.map .bool) l.length (i : Int) false (byteCells c) = some (.one (.bool true), []) := by
      rw [f5_L10, f5_T10, cond_false]
      exact letters_end hC l c _ _ hF
    by_cases ht : i < t.length
    · rw [decide_eq_true (by omega), cond_true]
      by_cases hil : i < l.length
      · have hic : i < c.length := by omega
        rw [decide_eq_true (by omega), cond_true, guard_ok (by simp; omega), Int.toNat_natCast, Nat.mul_one, row_byte hic, castI_one, show (58 : Int) = ((58 : UInt8).toNat : Int) by rfl, byte_ne]
        by_cases h58 : c[i] = 58
        · rw [decide_eq_true h58, Bool.not_true]; exact fin
        · rw [decide_eq_false h58, Bool.not_false, f5_L10, f5_T10, cond_true, f5_L11, f5_T11, guard_ok (by simp; omega), Int.toNat_natCast, Nat.mul_one, row_byte hic, castI_one]
          have hq2 : ∀ q : Nat, q < i + 1 → l[q]? ≠ some 58 := fun q hlt => by
            rcases Nat.lt_or_ge q i with h | h
            · exact hq q h
            · obtain rfl : q = i := by omega
              exact hF.colon hic h58
          have stay : f5_L15 call n (f5_L9 call n m) l (t.map .bool) l.length (i : Int) (c[i].toNat : Int) false (byteCells c) = some (.one (.bool true), []) := by
            rw [f5_L15, f5_T15, cond_false, f5_L18, f5_T18, wrap_ok (by omega) (by omega), show ((i : Int) + 1) = ((i + 1 : Nat) : Int) by omega]
            exact letters_loop hC l hl t m (i + 1) c (by omega) (by omega) hF hq2 (by omega)
          have turn : letterC c[i] = true → (callK call 18 [.one (.str l), .one (.int .i64 (i : Int))] fun v3 => oB v3 fun b4 => f5_L15 call n (f5_L9 call n m) l (t.map .bool) l.length (i : Int) (c[i].toNat : Int) b4 (byteCells c)) = some (.one (.bool true), []) := fun hlet => by
            rw [callK_some (hC.verbal l i hi (by omega)), oB_one]
            cases hvb : verbalQ l i with
            | false => exact stay
            | true =>
              rw [f5_L15, f5_T15, cond_true, guard_ok (by simp; omega), Int.toNat_natCast, Nat.mul_one, byteCells_len, show Nat.blt i c.length = true by rw [Nat.blt_eq]; exact hic, cond_true, flip_xor, set_byte,
                f5_L17, f5_T17, wrap_ok (by omega) (by omega), show ((i : Int) + 1) = ((i + 1 : Nat) : Int) by omega]
              exact letters_loop hC l hl t m (i + 1) _ (by omega) (by omega) (hF.set hic h58 hq hvb (flip_up _ hlet)) hq2 (by omega)
          rw [f5_L13, f5_T13, item_at (by simpa using ht), List.getElem_map, castB_one]
          have hlt := letterC_iff c[i]
          cases t[i] with
          | false => rw [cond_false]; exact stay
          | true =>
            rw [cond_true]
            cases hb : letterC c[i] with
            | true =>
              have tn := turn hb
              rw [hb] at hlt; simp only [true_iff] at hlt
              by_cases a1 : 97 ≤ c[i].toNat
              · rw [decide_eq_true (by omega), cond_true, decide_eq_true (by omega), cond_true]; exact tn
              · rw [decide_eq_false (by omega), cond_false, decide_eq_true (by omega), cond_true, decide_eq_true (by omega), cond_true]; exact tn
            | false =>
              rw [hb] at hlt; simp only [Bool.false_eq_true, false_iff, not_or] at hlt
              by_cases a1 : 97 ≤ c[i].toNat
              · rw [decide_eq_true (by omega), cond_true, decide_eq_false (by omega), cond_false, decide_eq_true (by omega), cond_true, decide_eq_false (by omega), cond_false]; exact stay
              · rw [decide_eq_false (by omega), cond_false]
                by_cases a2 : 65 ≤ c[i].toNat
                · rw [decide_eq_true (by omega), cond_true, decide_eq_false (by omega), cond_false]; exact stay
                · rw [decide_eq_false (by omega), cond_false]; exact stay
      · rw [decide_eq_false (by omega), cond_false]; exact fin
    · rw [decide_eq_false (by omega), cond_false]; exact fin
theorem letters_core {call : CallF} {n : Nat} (hn : 100 ≤ n) (hC : LettersCalls call) (l : List UInt8) (t : List Bool) : f5_L call n l (t.map .bool) = some (.one (.bool true), []) := by
  rw [f5_L, f5_T, callK_some hC.awake, oB_one, Bool.not_true, cond_false, List.length_map, Nat.div_one]
  by_cases h : 700 < l.length
  · rw [decide_eq_true (by omega)]; rfl
  · rw [decide_eq_false (by omega), cond_false]
    by_cases ht : 10 < t.length
    · rw [decide_eq_true (by omega)]; rfl
    · rw [decide_eq_false (by omega), f5_L4, f5_T4, cond_false]
      exact letters_loop hC l (by omega) t n 0 l (by omega) (by omega) (Flip.refl l) (fun q hq => by omega) (by omega)
theorem letters_law (l : List UInt8) (t : List Bool) : acall AXE AXF 10001 5 [.one (.str l), .one (.sl none 1 (t.map .bool))] [] = some (.one (.bool true), []) := by
  rw [show (10001 : Nat) = 10000 + 1 from rfl, f5_eq]
  exact letters_core (by omega) ⟨awake_at 9999 (by omega), fun l i hi hl => verbal_at 9999 l i hi hl (by omega), fun l => Parse_at 9999 l (by omega)⟩ l t
end AX
end Go.Proofs.YtfbicbgdfcbhpaaDoor
