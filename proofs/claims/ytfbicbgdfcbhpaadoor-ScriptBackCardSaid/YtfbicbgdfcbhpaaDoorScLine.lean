/-
  Layer 31: the program's written, Line, Check.
-/
import Derived.Test.YtfbicbgdfcbhpaaDoorScRound
set_option maxRecDepth 20000
set_option linter.unusedVariables false
set_option linter.unusedSimpArgs false
set_option linter.unusedSectionVars false
namespace Go.Proofs.YtfbicbgdfcbhpaaDoor
open SC
namespace AX
/-- numbers that an int64 holds -/
def i64B (v : Int) : Prop := -9223372036854775808 ≤ v ∧ v ≤ 9223372036854775807
structure Wf (e : PE) : Prop where
  slot : i64B e.slot
  n : i64B e.n
  k : i64B e.k
  lb : i64B e.lb
  lc : i64B e.lc
  code : i64B e.code
  keep : ∀ v ∈ e.keep, i64B v
  data : e.data.length ≤ 100000
  klen : e.keep.length ≤ 100000
  tlen : e.tos.length ≤ 100000
theorem itoa_at {v : Int} (h : i64B v) : pItoa [.one (.int .i64 v)] = some (.one (.str (Lib.itoa v))) := by
  simp only [pItoa, decide_eq_true h.1, decide_eq_true h.2, Bool.and_self, cond_true]
theorem strs_app (a b : List (List UInt8)) : strs a ++ strs b = strs (a ++ b) := by simp [strs]
theorem strs_snoc (a : List (List UInt8)) (x : List UInt8) : strs a ++ [Cell.str x] = strs (a ++ [x]) := strs_app a [x]
theorem strsOf_strs (ls : List (List UInt8)) : strsOf (strs ls) = some ls := by
  induction ls with
  | nil => rfl
  | cons a r ih => show (match strsOf (strs r) with | some l => some (a :: l) | none => none) = _; rw [ih]
theorem join_at (ls : List (List UInt8)) (sep : List UInt8) (h1 : ls.length ≤ 100000000) (h2 : (Lib.join ls sep).length ≤ 100000000) : pJoin [.one (.sl none 1 (strs ls)), .one (.str sep)] = some (.one (.str (Lib.join ls sep))) := by
  simp only [pJoin, strsOf_strs, decide_eq_true h1, decide_eq_true h2, Bool.and_self, cond_true]
theorem protocol_at (n : Nat) (b : Bool) : acall AXE AXF (n + 1) 53 [.one (.bool b)] [] = some (.one (.str (if b then lmtpL else smtpL)), []) := by
  rw [f53_eq]; cases b <;> rfl
theorem named_at (n : Nat) (s : List UInt8) : acall AXE AXF (n + 1) 55 [.one (.str s)] [] = some (.one (.str (namedQ s)), []) := by
  rw [f55_eq, f55_L, f55_T]
  unfold namedQ
  cases s with
  | nil => rfl
  | cons a r => rfl
theorem keepw_loop {call : CallF} {n : Nat} (H : LC → LC → Int → Int → S_api_Event → OR) (e : PE) (he : Wf e) (form : LC) (fl i : Int) : ∀ (m j : Nat) (out : List (List UInt8)), j ≤ e.keep.length → e.keep.length < j + m → out.length ≤ 300000 + j →
    f31_L25 call n H m (strs out) form fl i (ints e.keep) (e.keep.length : Int) (j : Int) (evP e) = H (strs (out ++ (e.keep.drop j).map Lib.itoa)) form fl (IntKind.wrap .i64 (i + 1)) (evP e)
  | 0, j, out, h1, h2, h3 => by omega
  | m + 1, j, out, h1, h2, h3 => by
    have ih := keepw_loop (call := call) (n := n) H e he form fl i m (j + 1)
    have hk := he.klen
    rw [f31_L25, f31_T25]
    by_cases h : j < e.keep.length
    · rw [decide_eq_true (by omega), cond_true, item_int h, castI_one, primK_some (itoa_at (he.keep _ (List.getElem_mem h))), oS_one, guard_ok (by rw [decide_eq_true_eq, strs_len]; simp [rowLim]; omega), strs_snoc, wrap_ok (by omega) (by omega), show ((j : Int) + 1) = ((j + 1 : Nat) : Int) by omega, ih _ (by omega) (by omega) (by simp; omega), List.drop_eq_getElem_cons h]
      simp [-List.getElem_cons_drop]
    · rw [decide_eq_false (by omega), cond_false, List.drop_of_length_le (by omega)]
      simp [f31_L30, f31_T30]
set_option maxHeartbeats 4000000 in
theorem written_loop {call : CallF} {n : Nat} (hn : 100001 ≤ n) (e : PE) (he : Wf e) (form : List UInt8) (hf : form.length ≤ 3)
    (hpr : ∀ b : Bool, call 53 [.one (.bool b)] [] = some (.one (.str (if b then lmtpL else smtpL)), []))
    (hqu : call 54 [.one (.sl none 1 (byteCells e.data))] [] = some (.one (.str (quo e.data)), []))
    (hna : call 55 [.one (.str e.name)] [] = some (.one (.str (namedQ e.name)), [])) : ∀ (m i : Nat) (out : List (List UInt8)), i ≤ form.length → form.length < i + m → out.length ≤ 1 + 100000 * i →
    (Lib.join (out ++ (form.drop i).flatMap (wordF e)) [32]).length ≤ 100000000 →
    f31_L3 call n m (strs out) (byteCells form) (form.length : Int) (i : Int) (evP e) = some (.one (.str (Lib.join (out ++ (form.drop i).flatMap (wordF e)) [32])), [])
  | 0, i, out, h1, h2, h3, h4 => by omega
  | m + 1, i, out, h1, h2, h3, h4 => by
    rw [f31_L3, f31_T3]
    by_cases h : i < form.length
    · have hw24 : ∀ (x : List (List UInt8)), x.length ≤ 100000 → x = wordF e form[i] → f31_L24 call n (f31_L3 call n m) (strs (out ++ x)) (byteCells form) (form.length : Int) (i : Int) (evP e) = some (.one (.str (Lib.join (out ++ (form.drop i).flatMap (wordF e)) [32])), []) := by
        intro x hx hxe
        have hd : form.drop i = form[i] :: form.drop (i + 1) := List.drop_eq_getElem_cons h
        rw [hd, List.flatMap_cons, ← hxe, ← List.append_assoc] at h4 ⊢
        rw [f31_L24, f31_T24, wrap_ok (by omega) (by omega), show ((i : Int) + 1) = ((i + 1 : Nat) : Int) by omega]
        exact written_loop hn e he form hf hpr hqu hna m (i + 1) _ (by omega) (by omega) (by simp; omega) h4
      have one : ∀ x : List UInt8, [x] = wordF e form[i] → (guardB (decide (((strs out).length + ([Cell.str x] : List Cell).length) * 1000 ≤ rowLim)) (f31_L24 call n (f31_L3 call n m) (strs out ++ [Cell.str x]) (byteCells form) (form.length : Int) (i : Int) (evP e))) = some (.one (.str (Lib.join (out ++ (form.drop i).flatMap (wordF e)) [32])), []) := by
        intro x hx
        rw [guard_ok (by rw [decide_eq_true_eq, strs_len]; simp [rowLim]; omega), strs_snoc]
        exact hw24 [x] (by simp) hx
      have hk := he.klen
      have ht := he.tlen
      rw [decide_eq_true (by omega), cond_true, item_byte h, castI_one]
      by_cases c115 : form[i] = 115
      · have hc : ((form[i].toNat : Int) == 115) = true := by rw [c115]; rfl
        simp only [hc, cond_true, cond_false]
        rw [show (evP e).fSlot = e.slot by rfl, primK_some (itoa_at he.slot), oS_one]
        exact one _ (by rw [c115]; rfl)
      have n115 : ((form[i].toNat : Int) == 115) = false := (byte_eq form[i] 115).trans (decide_eq_false c115)
      by_cases c112 : form[i] = 112
      · have hc : ((form[i].toNat : Int) == 112) = true := by rw [c112]; rfl
        simp only [n115, hc, cond_true, cond_false]
        rw [show (evP e).fLmtp = e.lmtp by rfl, callK_some (hpr e.lmtp), oS_one]
        exact one _ (by rw [c112]; rfl)
      have n112 : ((form[i].toNat : Int) == 112) = false := (byte_eq form[i] 112).trans (decide_eq_false c112)
      by_cases c100 : form[i] = 100
      · have hc : ((form[i].toNat : Int) == 100) = true := by rw [c100]; rfl
        simp only [n115, n112, hc, cond_true, cond_false]
        rw [show (evP e).fData = byteCells e.data by rfl, callK_some hqu, oS_one]
        exact one _ (by rw [c100]; rfl)
      have n100 : ((form[i].toNat : Int) == 100) = false := (byte_eq form[i] 100).trans (decide_eq_false c100)
      by_cases c110 : form[i] = 110
      · have hc : ((form[i].toNat : Int) == 110) = true := by rw [c110]; rfl
        simp only [n115, n112, n100, hc, cond_true, cond_false]
        rw [show (evP e).fN = e.n by rfl, primK_some (itoa_at he.n), oS_one]
        exact one _ (by rw [c110]; rfl)
      have n110 : ((form[i].toNat : Int) == 110) = false := (byte_eq form[i] 110).trans (decide_eq_false c110)
      by_cases c107 : form[i] = 107
      · have hc : ((form[i].toNat : Int) == 107) = true := by rw [c107]; rfl
        simp only [n115, n112, n100, n110, hc, cond_true, cond_false]
        rw [show (evP e).fK = e.k by rfl, primK_some (itoa_at he.k), oS_one]
        exact one _ (by rw [c107]; rfl)
      have n107 : ((form[i].toNat : Int) == 107) = false := (byte_eq form[i] 107).trans (decide_eq_false c107)
      by_cases c98 : form[i] = 98
      · have hc : ((form[i].toNat : Int) == 98) = true := by rw [c98]; rfl
        simp only [n115, n112, n100, n110, n107, hc, cond_true, cond_false]
        rw [show (evP e).fLimit_Bytes = e.lb by rfl, primK_some (itoa_at he.lb), oS_one]
        exact one _ (by rw [c98]; rfl)
      have n98 : ((form[i].toNat : Int) == 98) = false := (byte_eq form[i] 98).trans (decide_eq_false c98)
      by_cases c99 : form[i] = 99
      · have hc : ((form[i].toNat : Int) == 99) = true := by rw [c99]; rfl
        simp only [n115, n112, n100, n110, n107, n98, hc, cond_true, cond_false]
        rw [show (evP e).fLimit_Count = e.lc by rfl, primK_some (itoa_at he.lc), oS_one]
        exact one _ (by rw [c99]; rfl)
      have n99 : ((form[i].toNat : Int) == 99) = false := (byte_eq form[i] 99).trans (decide_eq_false c99)
      by_cases c101 : form[i] = 101
      · have hc : ((form[i].toNat : Int) == 101) = true := by rw [c101]; rfl
        simp only [n115, n112, n100, n110, n107, n98, n99, hc, cond_true, cond_false]
        rw [show (evP e).fCode = e.code by rfl, primK_some (itoa_at he.code), oS_one]
        exact one _ (by rw [c101]; rfl)
      have n101 : ((form[i].toNat : Int) == 101) = false := (byte_eq form[i] 101).trans (decide_eq_false c101)
      by_cases c109 : form[i] = 109
      · have hc : ((form[i].toNat : Int) == 109) = true := by rw [c109]; rfl
        simp only [n115, n112, n100, n110, n107, n98, n99, n101, hc, cond_true, cond_false]
        rw [show (evP e).fName = e.name by rfl, callK_some hna, oS_one]
        exact one _ (by rw [c109]; rfl)
      have n109 : ((form[i].toNat : Int) == 109) = false := (byte_eq form[i] 109).trans (decide_eq_false c109)
      by_cases c117 : form[i] = 117
      · have hc : ((form[i].toNat : Int) == 117) = true := by rw [c117]; rfl
        simp only [n115, n112, n100, n110, n107, n98, n99, n101, n109, hc, cond_true, cond_false]
        rw [show (evP e).fName = e.name by rfl, callK_some hna, oS_one]
        exact one _ (by rw [c117]; rfl)
      have n117 : ((form[i].toNat : Int) == 117) = false := (byte_eq form[i] 117).trans (decide_eq_false c117)
      by_cases c116 : form[i] = 116
      · have hc : ((form[i].toNat : Int) == 116) = true := by rw [c116]; rfl
        simp only [n115, n112, n100, n110, n107, n98, n99, n101, n109, n117, hc, cond_true, cond_false]
        rw [show (evP e).fTo = strs e.tos by rfl, guard_ok (by rw [decide_eq_true_eq, strs_len, strs_len]; simp only [rowLim]; omega), strs_app]
        exact hw24 e.tos ht (by rw [c116]; rfl)
      have n116 : ((form[i].toNat : Int) == 116) = false := (byte_eq form[i] 116).trans (decide_eq_false c116)
      by_cases c119 : form[i] = 119
      · have hc : ((form[i].toNat : Int) == 119) = true := by rw [c119]; rfl
        simp only [n115, n112, n100, n110, n107, n98, n99, n101, n109, n117, n116, hc, cond_true, cond_false]
        rw [show (evP e).fKeep = ints e.keep by rfl, ints_len, Nat.div_one]
        refine (keepw_loop _ e he _ _ _ n 0 out (by omega) (by omega) (by omega)).trans ?_
        have := hw24 (e.keep.map Lib.itoa) (by simpa using hk) (by rw [c119]; rfl)
        rw [f31_L24, f31_T24] at this
        exact this
      have n119 : ((form[i].toNat : Int) == 119) = false := (byte_eq form[i] 119).trans (decide_eq_false c119)
      simp only [n115, n112, n100, n110, n107, n98, n99, n101, n109, n117, n116, n119, cond_false]
      have := hw24 [] (by simp) (by unfold wordF; rw [if_neg c115, if_neg c112, if_neg c100, if_neg c110, if_neg c107, if_neg c98, if_neg c99, if_neg c101, if_neg c109, if_neg c117, if_neg c116, if_neg c119])
      rw [List.append_nil] at this
      exact this
    · rw [List.drop_of_length_le (by omega)] at h4 ⊢
      simp only [List.flatMap_nil, List.append_nil] at h4 ⊢
      rw [decide_eq_false (by omega), cond_false, primK_some (join_at out [32] (by omega) h4), oS_one]
theorem kind_nat {e : PE} (h1 : 1 ≤ e.kind) (h2 : e.kind ≤ 17) : ∃ k : Fin 18, 0 < k.val ∧ e.kind = (k.val : Int) := ⟨⟨e.kind.toNat, by omega⟩, by show 0 < e.kind.toNat; omega, by show e.kind = (e.kind.toNat : Int); omega⟩
theorem forms_three : ∀ k : Fin 18, (formsL.getD k.val []).length ≤ 3 := by decide +kernel
theorem written_at (n : Nat) (e : PE) (he : Wf e) (h1 : 1 ≤ e.kind) (h2 : e.kind ≤ 17) (hl : (writtenQ e).length ≤ 1000000) (hn : 1000200 ≤ n) : acall AXE AXF (n + 1) 31 [.agg (evP e).cells] [] = some (.one (.str (writtenQ e)), []) := by
  obtain ⟨n, rfl⟩ : ∃ k, n = k + 1 := ⟨n - 1, by omega⟩
  obtain ⟨k, hk0, hk⟩ := kind_nat h1 h2
  have hlen : k.val < formsL.length := k.isLt
  have hlen2 : k.val < wordsL.length := k.isLt
  have hwl := written_loop (call := acall AXE AXF (n + 1)) (n := n + 1 + 1) (by omega) e he (formsL.getD k.val []) (forms_three k) (fun b => protocol_at n b) (quoted_at n e.data (by have := he.data; omega) (by omega)) (named_at n e.name) (n + 1 + 1) 0 [wordsL.getD k.val []] (by omega) (by have := forms_three k; omega) (by simp)
  unfold writtenQ bodyW at hl ⊢
  rw [hk, Int.toNat_natCast] at hl ⊢
  rw [f31_eq, f31_L, f31_T, callK_some (words_at n), oL_one, show (evP e).fKind = e.kind by rfl, hk, item_str hlen2, castS_one, callK_some (forms_at n), oL_one, item_str hlen, castS_one, byteCells_len, Nat.div_one,
    show formsL[k.val] = formsL.getD k.val [] by rw [List.getD_eq_getElem?_getD, List.getElem?_eq_getElem hlen]; rfl, show wordsL[k.val] = wordsL.getD k.val [] by rw [List.getD_eq_getElem?_getD, List.getElem?_eq_getElem hlen2]; rfl]
  have := hwl (by rw [List.drop_zero]; exact Nat.le_trans hl (by omega))
  rw [List.drop_zero] at this
  exact this
open Classical in
/-- an event's line, if it has one -/
noncomputable def lineQ (e : PE) : Option (List UInt8) := if 1 ≤ e.kind ∧ e.kind ≤ 17 ∧ readQ (writtenQ e) = .ok e then some (writtenQ e) else none
theorem readR_ok {l : List UInt8} {e : PE} (h : readQ l = .ok e) : readR l = (0, e) := by unfold readR; rw [h]
theorem readQ_err {l : List UInt8} {k : Int} (h : readQ l = .error k) : k = 15 ∨ k = 3 := by
  unfold readQ at h
  cases hs : spl 32 l with
  | nil => exact absurd hs (spl_ne 32 l)
  | cons w r =>
    rw [hs] at h
    simp only [] at h
    split at h
    · cases h; exact .inl rfl
    · cases hb : bodyQ (kindQ w) r with
      | none => rw [hb] at h; cases h; exact .inr rfl
      | some p => rw [hb] at h; cases h
theorem Line_at (n : Nat) (e : PE) (he : Wf e) (hl : (writtenQ e).length ≤ 900000) (hn : 1000500 ≤ n) : acall AXE AXF (n + 1) 11 [.agg (evP e).cells] [] = some (.tup [.one (.str ((lineQ e).getD [])), .one (.bool (lineQ e).isSome)], []) := by
  obtain ⟨n, rfl⟩ : ∃ k, n = k + 1 := ⟨n - 1, by omega⟩
  have hw := fun h1 h2 => written_at n e he h1 h2 (by omega) (by omega)
  have hr := read_at n (writtenQ e) hl (by omega)
  have hsm := fun p hp => same_at n p e hp (by omega)
  rw [f11_eq, f11_L, f11_T, show (evP e).fKind = e.kind by rfl]
  generalize acall AXE AXF (n + 1) = call at *
  have bad : f11_L1 call (n + 1 + 1) true (evP e) = some (.tup [.one (.str []), .one (.bool false)], []) := rfl
  by_cases h1 : 1 ≤ e.kind
  · rw [decide_eq_false (by omega), cond_false]
    by_cases h2 : e.kind ≤ 17
    · obtain ⟨cs, h3, h4⟩ := hr
      rw [decide_eq_false (by omega), f11_L1, f11_T1, cond_false, callK_some (hw h1 h2), oS_one, callK_some h3]
      simp only [castTup_tup, consK_cons, aggV_agg]
      rw [h4]
      simp only [nilK_nil, zI_cons]
      have no : f11_L6 call (n + 1 + 1) (writtenQ e) true = some (.tup [.one (.str []), .one (.bool false)], []) := rfl
      cases hq : readQ (writtenQ e) with
      | error k =>
        have hk := readQ_err hq
        have hlq : lineQ e = none := by unfold lineQ; rw [hq, if_neg (fun h => by cases h.2.2)]
        rw [show (readR (writtenQ e)).1 = k by unfold readR; rw [hq], show (k != 0) = true by rcases hk with rfl | rfl <;> rfl, cond_true, no, hlq]; rfl
      | ok p =>
        rw [readR_ok hq]
        obtain ⟨hg, hsmall⟩ := read_good (b := 900001) (by omega) hq
        simp only []
        rw [show ((0 : Int) != 0) = false by rfl, cond_false, callK_some (hsm p ⟨by have := hsmall.1.1; omega, by have := hsmall.2.1; omega⟩), oB_one]
        by_cases hpe : p = e
        · have hlq : lineQ e = some (writtenQ e) := by unfold lineQ; rw [if_pos ⟨h1, h2, by rw [hq, hpe]⟩]
          rw [decide_eq_true hpe, hlq]; rfl
        · have hlq : lineQ e = none := by unfold lineQ; rw [hq, if_neg (fun h => hpe (Except.ok.inj h.2.2))]
          rw [decide_eq_false hpe, Bool.not_false, no, hlq]; rfl
    · have hlq : lineQ e = none := by unfold lineQ; rw [if_neg (fun h => h2 h.2.1)]
      rw [decide_eq_true (by omega), bad, hlq]; rfl
  · have hlq : lineQ e = none := by unfold lineQ; rw [if_neg (fun h => h1 h.1)]
    rw [decide_eq_true (by omega), cond_true, bad, hlq]; rfl
theorem Check_at (n : Nat) (e : PE) (he : Wf e) (hl : (writtenQ e).length ≤ 900000) (hn : 1000510 ≤ n) : acall AXE AXF (n + 1) 15 [.agg (evP e).cells] [] = some (.one (.bool (lineQ e).isSome), []) := by
  obtain ⟨n, rfl⟩ : ∃ k, n = k + 1 := ⟨n - 1, by omega⟩
  rw [f15_eq, f15_L, f15_T, callK_some (Line_at n e he hl (by omega))]
  rfl
end AX
end Go.Proofs.YtfbicbgdfcbhpaaDoor
