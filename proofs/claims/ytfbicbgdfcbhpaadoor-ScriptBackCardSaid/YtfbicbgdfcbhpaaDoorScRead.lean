/-
  Layer 31: the program's field, fill, Read.
-/
import Derived.Test.YtfbicbgdfcbhpaaDoorScSpec
set_option maxRecDepth 20000
set_option linter.unusedVariables false
set_option linter.unusedSimpArgs false
set_option linter.unusedSectionVars false
namespace Go.Proofs.YtfbicbgdfcbhpaaDoor
open SC
namespace AX
def isField (c : UInt8) : Prop := c = 115 ∨ c = 112 ∨ c = 110 ∨ c = 107 ∨ c = 98 ∨ c = 99 ∨ c = 101 ∨ c = 109 ∨ c = 117
theorem field_at (n : Nat) (e : PE) (c : UInt8) (hc : isField c) (w : List UInt8) (hw : w.length ≤ 1000000) (hn : 1000100 ≤ n) :
    ∃ e', acall AXE AXF (n + 1) 45 [.one (.ptr 0 0), .one (.int .u8 (c.toNat : Int)), .one (.str w)] (keepH (evP e)) = some (.one (.bool (fieldQ c w e).isSome), keepH e') ∧ ∀ p, fieldQ c w e = some p → e' = evP p := by
  obtain ⟨n, rfl⟩ : ∃ k, n = k + 1 := ⟨n - 1, by omega⟩
  have hnum := number_at n w (by omega)
  have hnam := isName_at n w (by omega) (by omega)
  rw [keepH, f45_eq]
  simp only [f45_T16, f45_L16, f45_T17, f45_L17, f45_T22, f45_L22, f45_T18, f45_L18, f45_T19, f45_L19, f45_T26, f45_L26, f45_T24, f45_L24, f45_T27, f45_L27, f45_T25, f45_L25, f45_T23, f45_L23, f45_T20, f45_L20, f45_T21, f45_L21, f45_T, f45_L, callK_some hnum, castTup_tup, zI_cons, zB_cons, nilK_nil]
  rcases hc with rfl | rfl | rfl | rfl | rfl | rfl | rfl | rfl | rfl
  · simp only [show (((115 : UInt8).toNat : Int) == 115) = true by rfl, cond_true, fieldQ, if_true]
    cases hq : numQ w with
    | none => exact ⟨{ evP e with fSlot := (atoiV w).1 }, rfl, fun p h => by cases h⟩
    | some v =>
      rw [number_val hq]
      simp only [Option.isSome_some, cond_true]
      by_cases h1 : 0 ≤ v
      · rw [decide_eq_true (show v ≥ 0 from h1), cond_true]
        by_cases h2 : v < 8
        · rw [decide_eq_true h2, if_pos ⟨h1, h2⟩]
          exact ⟨{ evP e with fSlot := v }, rfl, fun p h => by cases h; rfl⟩
        · rw [decide_eq_false h2, if_neg (fun h => h2 h.2)]
          exact ⟨{ evP e with fSlot := v }, rfl, fun p h => by cases h⟩
      · rw [decide_eq_false (show ¬ v ≥ 0 from h1), cond_false, if_neg (fun h => h1 h.1)]
        exact ⟨{ evP e with fSlot := v }, rfl, fun p h => by cases h⟩
  · simp only [show (((112 : UInt8).toNat : Int) == 115) = false by rfl, show (((112 : UInt8).toNat : Int) == 112) = true by rfl, cond_true, cond_false]
    rw [show fieldQ 112 w e = (if w = lmtpL ∨ w = smtpL then some { e with lmtp := decide (w = lmtpL) } else none) by rfl]
    rw [show (w == ([108, 109, 116, 112] : List UInt8)) = decide (w = lmtpL) by rw [Bool.eq_iff_iff, beq_iff_eq, decide_eq_true_eq]; rfl]
    rw [show (w == ([115, 109, 116, 112] : List UInt8)) = decide (w = smtpL) by rw [Bool.eq_iff_iff, beq_iff_eq, decide_eq_true_eq]; rfl]
    refine ⟨{ evP e with fLmtp := decide (w = lmtpL) }, ?_, fun p h => ?_⟩
    · by_cases h1 : w = lmtpL
      · rw [decide_eq_true h1, if_pos (.inl h1)]; rfl
      · rw [decide_eq_false h1, cond_false]
        by_cases h2 : w = smtpL
        · rw [decide_eq_true h2, if_pos (.inr h2)]; rfl
        · rw [decide_eq_false h2, if_neg (fun h => h.elim h1 h2)]; rfl
    · split at h
      · cases h; rfl
      · cases h
  · simp only [show (((110 : UInt8).toNat : Int) == 115) = false by rfl, show (((110 : UInt8).toNat : Int) == 112) = false by rfl, show (((110 : UInt8).toNat : Int) == 110) = true by rfl, cond_true, cond_false]
    rw [show fieldQ 110 w e = (match numQ w with | some v => some { e with n := v } | none => none) by rfl]
    refine ⟨{ evP e with fN := (atoiV w).1 }, ?_, ?_⟩
    · cases hq : numQ w <;> rfl
    · intro p h; cases hq : numQ w with
      | none => rw [hq] at h; cases h
      | some v => rw [hq] at h; cases h; rw [number_val hq]; rfl
  · simp only [show (((107 : UInt8).toNat : Int) == 115) = false by rfl, show (((107 : UInt8).toNat : Int) == 112) = false by rfl, show (((107 : UInt8).toNat : Int) == 110) = false by rfl, show (((107 : UInt8).toNat : Int) == 107) = true by rfl, cond_true, cond_false]
    rw [show fieldQ 107 w e = (match numQ w with | some v => some { e with k := v } | none => none) by rfl]
    refine ⟨{ evP e with fK := (atoiV w).1 }, ?_, ?_⟩
    · cases hq : numQ w <;> rfl
    · intro p h; cases hq : numQ w with
      | none => rw [hq] at h; cases h
      | some v => rw [hq] at h; cases h; rw [number_val hq]; rfl
  · simp only [show (((98 : UInt8).toNat : Int) == 115) = false by rfl, show (((98 : UInt8).toNat : Int) == 112) = false by rfl, show (((98 : UInt8).toNat : Int) == 110) = false by rfl, show (((98 : UInt8).toNat : Int) == 107) = false by rfl, show (((98 : UInt8).toNat : Int) == 98) = true by rfl, cond_true, cond_false]
    rw [show fieldQ 98 w e = (match numQ w with | some v => some { e with lb := v } | none => none) by rfl]
    refine ⟨{ evP e with fLimit_Bytes := (atoiV w).1 }, ?_, ?_⟩
    · cases hq : numQ w <;> rfl
    · intro p h; cases hq : numQ w with
      | none => rw [hq] at h; cases h
      | some v => rw [hq] at h; cases h; rw [number_val hq]; rfl
  · simp only [show (((99 : UInt8).toNat : Int) == 115) = false by rfl, show (((99 : UInt8).toNat : Int) == 112) = false by rfl, show (((99 : UInt8).toNat : Int) == 110) = false by rfl, show (((99 : UInt8).toNat : Int) == 107) = false by rfl, show (((99 : UInt8).toNat : Int) == 98) = false by rfl, show (((99 : UInt8).toNat : Int) == 99) = true by rfl, cond_true, cond_false]
    rw [show fieldQ 99 w e = (match numQ w with | some v => some { e with lc := v } | none => none) by rfl]
    refine ⟨{ evP e with fLimit_Count := (atoiV w).1 }, ?_, ?_⟩
    · cases hq : numQ w <;> rfl
    · intro p h; cases hq : numQ w with
      | none => rw [hq] at h; cases h
      | some v => rw [hq] at h; cases h; rw [number_val hq]; rfl
  · simp only [show (((101 : UInt8).toNat : Int) == 115) = false by rfl, show (((101 : UInt8).toNat : Int) == 112) = false by rfl, show (((101 : UInt8).toNat : Int) == 110) = false by rfl, show (((101 : UInt8).toNat : Int) == 107) = false by rfl, show (((101 : UInt8).toNat : Int) == 98) = false by rfl, show (((101 : UInt8).toNat : Int) == 99) = false by rfl, show (((101 : UInt8).toNat : Int) == 101) = true by rfl, cond_true, cond_false]
    rw [show fieldQ 101 w e = (match numQ w with | some v => if 0 ≤ v ∧ v ≤ 17 then some { e with code := v } else none | none => none) by rfl]
    cases hq : numQ w with
    | none => exact ⟨{ evP e with fCode := (atoiV w).1 }, rfl, fun p h => by cases h⟩
    | some v =>
      rw [number_val hq]
      simp only [Option.isSome_some, cond_true]
      by_cases h1 : 0 ≤ v
      · rw [decide_eq_true (show v ≥ 0 from h1), cond_true]
        by_cases h2 : v ≤ 17
        · rw [decide_eq_true h2, if_pos ⟨h1, h2⟩]
          exact ⟨{ evP e with fCode := v }, rfl, fun p h => by cases h; rfl⟩
        · rw [decide_eq_false h2, if_neg (fun h => h2 h.2)]
          exact ⟨{ evP e with fCode := v }, rfl, fun p h => by cases h⟩
      · rw [decide_eq_false (show ¬ v ≥ 0 from h1), cond_false, if_neg (fun h => h1 h.1)]
        exact ⟨{ evP e with fCode := v }, rfl, fun p h => by cases h⟩
  · simp only [show (((109 : UInt8).toNat : Int) == 115) = false by rfl, show (((109 : UInt8).toNat : Int) == 112) = false by rfl, show (((109 : UInt8).toNat : Int) == 110) = false by rfl, show (((109 : UInt8).toNat : Int) == 107) = false by rfl, show (((109 : UInt8).toNat : Int) == 98) = false by rfl, show (((109 : UInt8).toNat : Int) == 99) = false by rfl, show (((109 : UInt8).toNat : Int) == 101) = false by rfl, show (((109 : UInt8).toNat : Int) == 109) = true by rfl, cond_true, cond_false]
    rw [show fieldQ 109 w e = (if w = [42] then some { e with name := [] } else if nameB w = true then some { e with name := w } else none) by rfl]
    rw [show (w == ([42] : List UInt8)) = decide (w = [42]) by rw [Bool.eq_iff_iff]; simp]
    by_cases h1 : w = [42]
    · rw [decide_eq_true h1, if_pos h1]
      exact ⟨{ evP e with fName := [] }, rfl, fun p h => by cases h; rfl⟩
    · rw [decide_eq_false h1, if_neg h1]
      simp only [cond_false, callK_some hnam, oB_one]
      refine ⟨{ evP e with fName := w }, ?_, fun p h => ?_⟩
      · cases nameB w <;> rfl
      · cases hb : nameB w with
        | true => rw [hb, if_pos rfl] at h; cases h; rfl
        | false => rw [hb, if_neg (by simp)] at h; cases h
  · simp only [show (((117 : UInt8).toNat : Int) == 115) = false by rfl, show (((117 : UInt8).toNat : Int) == 112) = false by rfl, show (((117 : UInt8).toNat : Int) == 110) = false by rfl, show (((117 : UInt8).toNat : Int) == 107) = false by rfl, show (((117 : UInt8).toNat : Int) == 98) = false by rfl, show (((117 : UInt8).toNat : Int) == 99) = false by rfl, show (((117 : UInt8).toNat : Int) == 101) = false by rfl, show (((117 : UInt8).toNat : Int) == 109) = false by rfl, show (((117 : UInt8).toNat : Int) == 117) = true by rfl, cond_true, cond_false]
    rw [show fieldQ 117 w e = (if nameB w = true then some { e with name := w } else none) by rfl]
    refine ⟨{ evP e with fName := w }, ?_, fun p h => ?_⟩
    · have e0 : (bif w == ([42] : List UInt8) then callK (acall AXE AXF (n + 1)) 70 [.one (.str w)] fun v1 => oB v1 fun b2 => (some (.one (.bool b2), keepH { evP e with fName := w }) : OR) else callK (acall AXE AXF (n + 1)) 70 [.one (.str w)] fun v1 => oB v1 fun b2 => (some (.one (.bool b2), keepH { evP e with fName := w }) : OR)) = some (.one (.bool (nameB w)), keepH { evP e with fName := w }) := by
        rw [callK_some hnam, oB_one]; cases (w == ([42] : List UInt8)) <;> rfl
      refine Eq.trans e0 ?_
      cases nameB w <;> rfl
    · cases hb : nameB w with
      | true => rw [hb, if_pos rfl] at h; cases h; rfl
      | false => rw [hb, if_neg (by simp)] at h; cases h
theorem fieldQ_keep {c : UInt8} {w : List UInt8} {e p : PE} (h : fieldQ c w e = some p) : p.keep = e.keep := by
  unfold fieldQ at h
  repeat' split at h
  all_goals first | (cases h; rfl) | cases h
/-- what a call gives back in an event's box -/
theorem box_back (e : S_api_Event) (K : S_api_Event → OR) (v : Bool) : (consK (keepH e) fun r6 h7 =>
        consK r6 fun c8 r9 =>
        castI .i64 c8 fun n10 =>
        consK r9 fun c11 r12 =>
        castI .i64 c11 fun n13 =>
        consK r12 fun c14 r15 =>
        castI .i64 c14 fun n16 =>
        consK r15 fun c17 r18 =>
        castI .i64 c17 fun n19 =>
        consK r18 fun c20 r21 =>
        castB c20 fun b22 =>
        consK r21 fun c23 r24 =>
        castS c23 fun s25 =>
        consK r24 fun c26 r27 =>
        castI .i64 c26 fun n28 =>
        consK r27 fun c29 r30 =>
        castI .i64 c29 fun n31 =>
        consK r30 fun c32 r33 =>
        castL 1 c32 fun _ l34 =>
        consK r33 fun c35 r36 =>
        castL 1 c35 fun _ l37 =>
        consK r36 fun c38 r39 =>
        castI .i64 c38 fun n40 =>
        consK r39 fun c41 r42 =>
        castN 3 1 c41 fun l43 =>
        nilK r42 (nilK h7 (K ⟨n10, n13, n16, n19, b22, s25, n28, n31, l34, l37, n40, l43⟩))) = K e := by
  cases e; rfl
theorem fill_loop {call : CallF} {n : Nat} (form : List UInt8) (hf : form.length ≤ 10) (hfc : ∀ c ∈ form, isField c ∨ c = 116 ∨ c = 119)
    (hcf : ∀ (e : PE) (c : UInt8) (w : List UInt8), isField c → w.length ≤ 1000000 → ∃ e', call 45 [.one (.ptr 0 0), .one (.int .u8 (c.toNat : Int)), .one (.str w)] (keepH (evP e)) = some (.one (.bool (fieldQ c w e).isSome), keepH e') ∧ ∀ p, fieldQ c w e = some p → e' = evP p)
    (hca : ∀ ls : List (List UInt8), Short 1000000 ls → call 46 [.one (.sl none 1 (strs ls))] [] = some (.one (.bool (ls.all nameB)), []))
    (hck : ∀ (e : S_api_Event) (ls : List (List UInt8)), e.fKeep = [] → Short 1000000 ls → ∃ e', call 47 [.one (.ptr 0 0), .one (.sl none 1 (strs ls))] (keepH e) = some (.one (.bool (numsQ ls).isSome), keepH e') ∧ ∀ vs, numsQ ls = some vs → e' = { e with fKeep := ints vs }) :
    ∀ (m i : Nat) (ws : List (List UInt8)) (e : PE), i ≤ form.length → form.length < i + m → Short 1000000 ws → e.keep = [] →
    ∃ e', f22_L14 call n m form (form.length : Int) (i : Int) (strs ws) (evP e) = some (.one (.bool (fillQ (form.drop i) e ws).isSome), keepH e') ∧ ∀ p, fillQ (form.drop i) e ws = some p → e' = evP p
  | 0, i, ws, e, h1, h2, h3, h4 => by omega
  | m + 1, i, ws, e, h1, h2, h3, h4 => by
    have hb : ∀ x : S_api_Event, [[Cell.int .i64 x.fKind, .int .i64 x.fSlot, .int .i64 x.fN, .int .i64 x.fK, .bool x.fLmtp, .str x.fName, .int .i64 x.fLimit_Bytes, .int .i64 x.fLimit_Count, .sl none 1 x.fTo, .sl none 1 x.fData, .int .i64 x.fCode, .sl (some ⟨1000000, 11, 3⟩) 1 x.fKeep]] = keepH x := fun x => rfl
    have hws := h3.1
    rw [f22_L14, f22_T14, strs_len, Nat.div_one]
    by_cases h : i < form.length
    · rw [decide_eq_true (by omega), cond_true, item_at h, List.drop_eq_getElem_cons h]
      by_cases ht : form[i] = 116
      · rw [show ((form[i].toNat : Int) == 116) = true by rw [ht]; rfl, cond_true]
        rw [fillQ_cons, if_pos ht]
        cases ws with
        | nil => exact ⟨{ evP e with fTo := [] }, rfl, fun p h => by simp at h⟩
        | cons a r =>
          rw [decide_eq_true (by simp only [List.length_cons]; omega), cond_true, callK_some (hca _ h3), oB_one]
          refine ⟨{ evP e with fTo := strs (a :: r) }, ?_, fun p h => ?_⟩
          · cases hall : ((a :: r).all nameB) with
            | true => rw [if_pos ⟨by simp, rfl⟩]; rfl
            | false => rw [if_neg (fun h => by cases h.2)]; rfl
          · split at h
            · cases h; rfl
            · cases h
      · rw [show ((form[i].toNat : Int) == 116) = false from (byte_eq form[i] 116).trans (decide_eq_false ht), cond_false]
        by_cases hw : form[i] = 119
        · rw [show ((form[i].toNat : Int) == 119) = true by rw [hw]; rfl, cond_true]
          rw [fillQ_cons, if_neg ht, if_pos hw]
          obtain ⟨e', h5, h6⟩ := hck (evP e) ws (by show ints e.keep = []; rw [h4]; rfl) h3
          rw [hb, callRK_some h5]
          refine ⟨e', ?_, fun p h => ?_⟩
          · refine (box_back e' (fun x => oB (.one (.bool (numsQ ws).isSome)) fun b44 => some (.one (.bool b44), keepH x)) true).trans ?_
            rw [oB_one]; cases numsQ ws <;> rfl
          · cases hq : numsQ ws with
            | none => rw [hq] at h; cases h
            | some vs => rw [hq] at h; cases h; rw [h6 vs hq]; rfl
        · rw [show ((form[i].toNat : Int) == 119) = false from (byte_eq form[i] 119).trans (decide_eq_false hw), cond_false]
          have hcc : isField form[i] := (hfc _ (List.getElem_mem h)).elim id fun h => h.elim (fun h => absurd h ht) fun h => absurd h hw
          rw [fillQ_cons, if_neg ht, if_neg hw]
          cases ws with
          | nil =>
            exact ⟨evP e, rfl, fun p h => by cases h⟩
          | cons w r =>
            obtain ⟨e1, h5, h6⟩ := hcf e form[i] w hcc (h3.2 _ (.head _))
            have hi0 : ∀ k : Cell → OR, itemK (strs (w :: r)) (0 : Int) k = k (.str w) := fun k => item_some (j := 0) rfl rfl k
            rw [show ((((w :: r).length : Nat) : Int) == 0) = false by rw [beq_eq_false_iff_ne]; simp only [List.length_cons]; omega, cond_false, item_at h, hi0, castS_one, hb, callRK_some h5]
            simp only []
            have key : ∀ b : Bool, (oB (.one (.bool b)) fun b88 => f22_L27 call n (f22_L14 call n m) form (strs (w :: r)) (form.length : Int) (i : Int) (!b88) e1) = f22_L27 call n (f22_L14 call n m) form (strs (w :: r)) (form.length : Int) (i : Int) (!b) e1 := fun b => rfl
            cases hq : fieldQ form[i] w e with
            | none =>
              rw [hq] at h5
              refine ⟨e1, ?_, fun p h => by cases h⟩
              refine (box_back e1 (fun x => oB (.one (.bool (none : Option PE).isSome)) fun b88 => f22_L27 call n (f22_L14 call n m) form (strs (w :: r)) (form.length : Int) (i : Int) (!b88) x) true).trans ?_
              rw [key]; rfl
            | some e2 =>
              have he1 := h6 e2 hq
              subst he1
              have hk2 : e2.keep = [] := by rw [fieldQ_keep hq, h4]
              obtain ⟨e3, h7, h8⟩ := fill_loop (n := n) form hf hfc hcf hca hck m (i + 1) r e2 (by omega) (by omega) ⟨by simp at hws; omega, fun l hl => h3.2 l (.tail _ hl)⟩ hk2
              refine ⟨e3, ?_, h8⟩
              refine (box_back (evP e2) (fun x => oB (.one (.bool (some e2 : Option PE).isSome)) fun b88 => f22_L27 call n (f22_L14 call n m) form (strs (w :: r)) (form.length : Int) (i : Int) (!b88) x) true).trans ?_
              rw [← h7]
              simp only [Option.isSome_some, oB_one, Bool.not_true, f22_L27, f22_T27, cond_false, strs_len, Nat.div_one, Nat.mul_one]
              rw [decide_eq_true ⟨by omega, by simp⟩, cond_true, wrap_ok (by omega) (by omega), show ((i : Int) + 1) = ((i + 1 : Nat) : Int) by omega]
              congr 1
              rw [List.take_of_length_le (by rw [strs_len]; omega)]; rfl
    · rw [decide_eq_false (by omega), cond_false, List.drop_of_length_le (by omega)]
      refine ⟨evP e, ?_, fun p h => ?_⟩
      · rw [fillQ_nil]
        cases ws with
        | nil => rfl
        | cons a r =>
          rw [show ((((a :: r).length : Nat) : Int) == 0) = false by rw [beq_eq_false_iff_ne]; simp only [List.length_cons]; omega, if_neg (by simp)]
          rfl
      · rw [fillQ_nil] at h
        split at h
        · cases h; rfl
        · cases h
end AX
end Go.Proofs.YtfbicbgdfcbhpaaDoor
