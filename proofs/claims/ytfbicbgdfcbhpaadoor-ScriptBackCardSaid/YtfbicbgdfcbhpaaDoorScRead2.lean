/-
  Layer 31: the program's fill and Read: what is read of a line.
-/
import Derived.Test.YtfbicbgdfcbhpaaDoorScRead
set_option maxRecDepth 20000
set_option linter.unusedVariables false
set_option linter.unusedSimpArgs false
set_option linter.unusedSectionVars false
namespace Go.Proofs.YtfbicbgdfcbhpaaDoor
open SC
namespace AX
theorem pCut_at (l : List UInt8) (h : l.length ≤ 100000000) : pCut [.one (.str l), .one (.str [32])] = some (.tup [.one (.str (Lib.cut l [32]).1), .one (.str (Lib.cut l [32]).2.1), .one (.bool (Lib.cut l [32]).2.2)]) := by
  simp only [pCut, decide_eq_true h, cond_true]
theorem pSplit_at (l : List UInt8) (c : UInt8) (h : l.length ≤ 100000000) : pSplit [.one (.str l), .one (.str [c])] = some (.one (.sl none 1 (strs (spl c l)))) := by
  simp only [pSplit, decide_eq_true h, cond_true]
  rw [split_eq c l.length l (Nat.le_refl _)]; rfl
theorem strs_words : ([.str ([] : List UInt8)] : List Cell) = strs [[]] := rfl
theorem words_at (n : Nat) : acall AXE AXF (n + 1) 21 [] [] = some (.one (.sl (some ⟨0, 0, 9⟩) 1 (strs wordsL)), []) := by
  rw [f21_eq]; rfl
theorem forms_at (n : Nat) : acall AXE AXF (n + 1) 43 [] [] = some (.one (.sl (some ⟨0, 0, 9⟩) 1 (strs formsL)), []) := by
  rw [f43_eq]; rfl
theorem forms_fields : ∀ k : Fin 18, (formsL.getD k.val []).length ≤ 10 ∧ ∀ c ∈ formsL.getD k.val [], c = 115 ∨ c = 112 ∨ c = 110 ∨ c = 107 ∨ c = 98 ∨ c = 99 ∨ c = 101 ∨ c = 109 ∨ c = 117 ∨ c = 116 ∨ c = 119 ∨ c = 100 := by decide +kernel
theorem forms_fields2 : ∀ k : Fin 18, k.val ≠ 2 → ∀ c ∈ formsL.getD k.val [], c ≠ 100 := by decide +kernel
def kindP (k : Int) : PE := { PE0 with kind := k }
/-- pieces: short, and without blanks -/
def Pieces (ws : List (List UInt8)) : Prop := (Lib.join ws [32]).length ≤ 1000000 ∧ ∀ w ∈ ws, ∀ x ∈ w, x ≠ 32
theorem join_mem_le : ∀ (ws : List (List UInt8)) (w : List UInt8), w ∈ ws → w.length ≤ (Lib.join ws [32]).length
  | [], w, h => by simp at h
  | [a], w, h => by simp at h; subst h; rw [Lib.join_one]; exact Nat.le_refl _
  | a :: b :: r, w, h => by
    rw [join_two]
    rcases List.mem_cons.1 h with rfl | h
    · simp only [List.length_append]; omega
    · have := join_mem_le (b :: r) w h
      simp only [List.length_append]; omega
theorem join_len_le : ∀ (ws : List (List UInt8)), ws.length ≤ (Lib.join ws [32]).length + 1
  | [] => by simp
  | [a] => by rw [Lib.join_one]; simp
  | a :: b :: r => by
    have := join_len_le (b :: r)
    rw [join_two]; simp only [List.length_cons, List.length_append, List.length_nil] at this ⊢; omega
theorem Pieces.short {ws : List (List UInt8)} (h : Pieces ws) : Short 1000001 ws := ⟨by have := join_len_le ws; have := h.1; omega, fun w hw => by have := join_mem_le ws w hw; have := h.1; omega⟩
theorem not_tells {o : List UInt8} {b : Bool} (h : Tells [] o b) : b = false := by
  cases b with
  | false => rfl
  | true => have := (h.2 rfl).1; simp [quo] at this
theorem fill_at (n : Nat) (k : Fin 18) (hk0 : 0 < k.val) (ws : List (List UInt8)) (hws : Pieces ws) (hsh : Short 1000000 ws) (hn : 1000300 ≤ n) :
    ∃ e', acall AXE AXF (n + 1) 22 [.one (.ptr 0 0), .one (.str (Lib.join ws [32])), .one (.bool (decide (ws ≠ [])))] (keepH (evP (kindP k.val))) = some (.one (.bool (bodyQ k.val ws).isSome), keepH e') ∧ ∀ p, bodyQ k.val ws = some p → e' = evP p := by
  obtain ⟨n, rfl⟩ : ∃ k, n = k + 1 := ⟨n - 1, by omega⟩
  have hcf : ∀ (e : PE) (c : UInt8) (w : List UInt8), isField c → w.length ≤ 1000000 → ∃ e', acall AXE AXF (n + 1) 45 [.one (.ptr 0 0), .one (.int .u8 (c.toNat : Int)), .one (.str w)] (keepH (evP e)) = some (.one (.bool (fieldQ c w e).isSome), keepH e') ∧ ∀ p, fieldQ c w e = some p → e' = evP p :=
    fun e c w hc hw => field_at n e c hc w hw (by omega)
  have hca := fun ls hs => allNames_at n ls hs (by omega)
  have hck := fun e ls he hs => keep_at n e he ls hs (by omega)
  have huq := fun s hs => unquoted_at n s hs (by omega)
  have hj := hws.1
  have hfo := forms_at n
  obtain ⟨hfl, hff⟩ := forms_fields k
  have hkind : (evP (kindP k.val)).fKind = (k.val : Int) := rfl
  rw [keepH, f22_eq, f22_L, f22_T, callK_some hfo, oL_one, hkind]
  generalize acall AXE AXF (n + 1) = call at *
  have hlen : k.val < formsL.length := k.isLt
  rw [item_str hlen, castS_one, show formsL[k.val] = formsL.getD k.val [] by rw [List.getD_eq_getElem?_getD, List.getElem?_eq_getElem hlen]; rfl]
  by_cases hk2 : k.val = 2
  · have e2 : ((k.val : Int) == 2) = true := by rw [hk2]; rfl
    rw [e2, cond_true, primK_some (pCut_at _ (by omega))]
    simp only [castTup_tup, zS_cons, zB_cons, nilK_nil]
    have nodata : ∀ x : List UInt8, Lib.cut (Lib.join ws [32]) [32] = (x, [], false) → bodyQ k.val ws = none → ∃ e',
        (callK call 44 [.one (.str (Lib.cut (Lib.join ws [32]) [32]).2.1)] fun v162 =>
          castTup v162 fun v163 => zL 1 v163 fun l164 r165 => zB r165 fun b166 r167 => nilK r167 (
            bif b166 then (none : OR) else f22_L13 call (n + 1 + 1) false { evP (kindP k.val) with fData := l164 })) = some (.one (.bool (bodyQ k.val ws).isSome), keepH e') ∧ ∀ p, bodyQ k.val ws = some p → e' = evP p := by
      intro x hx hb
      obtain ⟨o, b, h1, h2⟩ := huq [] (by simp)
      have hbf := not_tells h2
      subst hbf
      rw [hx, callK_some h1, hb]
      exact ⟨{ evP (kindP k.val) with fData := byteCells o }, rfl, fun p h => by cases h⟩
    match ws, hws, nodata, hsh, hj with
    | [], hws, nodata, hsh, hj =>
      obtain ⟨e', h1, h2⟩ := nodata [] rfl (by unfold bodyQ; rw [if_pos (by omega)])
      refine ⟨e', ?_, h2⟩
      rw [← h1]
      obtain ⟨o, b, h3, h4⟩ := huq [] (by simp)
      have hbf := not_tells h4
      subst hbf
      rw [show Lib.cut (Lib.join [] [32]) [32] = ([], [], false) by rfl, callK_some h3, callK_some h3]; rfl
    | [a], hws, nodata, hsh, hj =>
      have hc : Lib.cut (Lib.join [a] [32]) [32] = (a, [], false) := by rw [Lib.join_one]; exact cut_no (hws.2 a (by simp))
      obtain ⟨e', h1, h2⟩ := nodata a hc (by unfold bodyQ; rw [if_pos (by omega)])
      refine ⟨e', ?_, h2⟩
      rw [← h1]
      obtain ⟨o, b, h3, h4⟩ := huq [] (by simp)
      have hbf := not_tells h4
      subst hbf
      rw [hc, callK_some h3, callK_some h3]; rfl
    | a :: b :: r, hws, nodata, hsh, hj =>
      have hc : Lib.cut (Lib.join (a :: b :: r) [32]) [32] = (a, Lib.join (b :: r) [32], true) := by
        rw [join_two, List.append_assoc]; exact cut_hit a _ (hws.2 a (by simp))
      have hb2 : bodyQ k.val (a :: b :: r) = (match dataQ (Lib.join (b :: r) [32]) with | some d => fieldQ 115 a { PE0 with kind := 2, data := d } | none => none) := by
        unfold bodyQ; rw [if_pos (by omega)]; rfl
      have hjl : (Lib.join (b :: r) [32]).length ≤ 1000000 := by rw [join_two] at hj; simp at hj; omega
      obtain ⟨o, bb, h3, h4⟩ := huq (Lib.join (b :: r) [32]) hjl
      rw [hc, callK_some h3, hb2]
      simp only [castTup_tup, zL_cons, zB_cons, nilK_nil]
      cases bb with
      | false =>
        rw [tells_none h4]
        exact ⟨{ evP (kindP k.val) with fData := byteCells o }, rfl, fun p h => by cases h⟩
      | true =>
        rw [tells_some h4, cond_true]
        obtain ⟨e', h5, h6⟩ := hcf { PE0 with kind := 2, data := o } 115 a (.inl rfl) (hsh.2 a (by simp))
        have hk3 : (k.val : Int) = 2 := by omega
        have hbox : [[Cell.int .i64 (k.val : Int), .int .i64 (evP (kindP k.val)).fSlot, .int .i64 (evP (kindP k.val)).fN, .int .i64 (evP (kindP k.val)).fK, .bool (evP (kindP k.val)).fLmtp, .str (evP (kindP k.val)).fName, .int .i64 (evP (kindP k.val)).fLimit_Bytes, .int .i64 (evP (kindP k.val)).fLimit_Count, .sl none 1 (evP (kindP k.val)).fTo, .sl none 1 (byteCells o), .int .i64 (evP (kindP k.val)).fCode, .sl (some ⟨1000000, 11, 3⟩) 1 (evP (kindP k.val)).fKeep]] = keepH (evP { PE0 with kind := 2, data := o }) := by
          rw [hk3]; rfl
        rw [hbox]
        refine ⟨e', ?_, h6⟩
        refine (callRK_some h5 _).trans ?_
        refine (box_back e' (fun x => oB (.one (.bool (fieldQ 115 a { PE0 with kind := 2, data := o }).isSome)) fun b208 => f22_L13 call (n + 1 + 1) b208 x) true).trans ?_
        rfl
  · have e2 : ((k.val : Int) == 2) = false := by rw [beq_eq_false_iff_ne]; omega
    rw [e2, cond_false]
    have hb2 : bodyQ k.val ws = fillQ (formsL.getD k.val []) (kindP k.val) ws := by
      unfold bodyQ; rw [if_neg (by omega)]; simp [kindP]
    have hl := fill_loop (call := call) (n := n + 1 + 1) (formsL.getD k.val []) hfl (fun c hc => by
      have h1 := hff c hc
      have h2 := forms_fields2 k hk2 c hc
      unfold isField
      rcases h1 with h | h | h | h | h | h | h | h | h | h | h | h <;> simp_all) hcf hca hck (n + 1 + 1) 0 ws (kindP k.val) (by omega) (by omega) hsh rfl
    rw [hb2]
    obtain ⟨e', h1, h2⟩ := hl
    refine ⟨e', ?_, h2⟩
    refine Eq.trans ?_ h1
    by_cases hne : ws = []
    · subst hne; rfl
    · rw [decide_eq_true hne, cond_true, primK_some (pSplit_at _ 32 (by omega)), oL_one, spl_join hne hws.2]; rfl
/-- the words are gone through -/
theorem kind_loop {call : CallF} {n : Nat} (w rest : List UInt8) (more : Bool) (e0 : S_api_Event) : ∀ (m i : Nat) (k : Int), i ≤ 18 → 18 < i + m →
    f8_L4 call n m w rest more (strs wordsL) (18 : Int) (i : Int) e0 (evP (kindP k)) = f8_L4 call n 1 w rest more (strs wordsL) (18 : Int) (18 : Int) e0 (evP (kindP (kindS w (wordsL.drop i) i k)))
  | 0, i, k, h1, h2 => by omega
  | m + 1, i, k, h1, h2 => by
    have hl : wordsL.length = 18 := rfl
    by_cases h : i < 18
    · have ih := kind_loop (call := call) (n := n) w rest more e0 m (i + 1)
      rw [List.drop_eq_getElem_cons (by rw [hl]; exact h), kindS, ← ih _ (by omega) (by omega)]
      conv => lhs; rw [f8_L4, f8_T4]
      rw [decide_eq_true (by omega), cond_true, item_str (by rw [hl]; exact h), castS_one]
      have hw : IntKind.wrap .i64 ((i : Int) + 1) = ((i + 1 : Nat) : Int) := by rw [wrap_ok (by omega) (by omega)]; omega
      simp only [f8_L16, f8_T16, f8_L17, f8_T17, f8_L18, f8_T18, hw]
      by_cases hi : 0 < i
      · rw [decide_eq_true (show (i : Int) > 0 by omega), cond_true]
        by_cases hx : wordsL[i] = w
        · rw [if_pos ⟨hi, hx⟩, show (wordsL[i] == w) = true by simpa using hx]; rfl
        · rw [if_neg (fun h => hx h.2), show (wordsL[i] == w) = false by simpa using hx]; rfl
      · rw [decide_eq_false (show ¬ (i : Int) > 0 by omega), if_neg (fun h => hi h.1)]; rfl
    · obtain rfl : i = 18 := by omega
      rw [show wordsL.drop 18 = [] by rfl, kindS]
      conv => lhs; rw [f8_L4, f8_T4]
      conv => rhs; rw [f8_L4, f8_T4]
      rfl
noncomputable def readR (line : List UInt8) : Int × PE := match readQ line with | .ok e => (0, e) | .error k => (k, PE0)
/-- cells of an event -/
def EvCells (cs : List Cell) (e : PE) : Prop := ∀ (R : Type) (k : S_api_Event → List Cell → Option R), takeS_api_Event cs k = k (evP e) []
theorem read_at (n : Nat) (line : List UInt8) (hl : line.length ≤ 900000) (hn : 1000400 ≤ n) :
    ∃ cs, acall AXE AXF (n + 1) 8 [.one (.str line)] [] = some (.tup [.agg cs, .one (.int .i64 (readR line).1)], []) ∧ EvCells cs (readR line).2 := by
  obtain ⟨n, rfl⟩ : ∃ k, n = k + 1 := ⟨n - 1, by omega⟩
  have hwo := words_at n
  have hfi := fun k hk ws hws hsh => fill_at n k hk ws hws hsh (by omega)
  rw [f8_eq, f8_L, f8_T, primK_some (pCut_at _ (by omega))]
  simp only [castTup_tup, zS_cons, zB_cons, nilK_nil, callK_some hwo, oL_one, strs_len, Nat.div_one]
  generalize acall AXE AXF (n + 1) = call at *
  -- word and rest
  obtain ⟨w, ws, hs, hc⟩ : ∃ w ws, spl 32 line = w :: ws ∧ Lib.cut line [32] = (w, Lib.join ws [32], decide (ws ≠ [])) := by
    rcases cut_spl 32 line with ⟨w, h1, h2⟩ | ⟨w, v, r, h1, h2⟩
    · exact ⟨w, [], h1, by rw [h2]; rfl⟩
    · exact ⟨w, v :: r, h1, by rw [h2]; simp⟩
  have hj := join_spl 32 line
  rw [hs] at hj
  have hjl : (Lib.join ws [32]).length ≤ 900000 := by
    cases ws with
    | nil => simp [Lib.join_nil]
    | cons v r => rw [join_two] at hj; rw [← hj] at hl; simp at hl; omega
  have hP : Pieces ws := ⟨by omega, fun p hp => spl_mem (c := 32) (l := line) (by rw [hs]; exact .tail _ hp)⟩
  have hSh : Short 1000000 ws := ⟨by have := join_len_le ws; omega, fun p hp => by have := join_mem_le ws p hp; omega⟩
  rw [hc]
  have hkl := kind_loop (call := call) (n := n + 1 + 1) w (Lib.join ws [32]) (decide (ws ≠ [])) (evP PE0) (n + 1 + 1) 0 0 (by omega) (by omega)
  have hst : ∀ x y : S_api_Event, x = evP PE0 → y = evP (kindP 0) → f8_L4 call (n + 1 + 1) (n + 1 + 1) w (Lib.join ws [32]) (decide (ws ≠ [])) (strs wordsL) ((wordsL.length : Nat) : Int) 0 x y = f8_L4 call (n + 1 + 1) 1 w (Lib.join ws [32]) (decide (ws ≠ [])) (strs wordsL) 18 18 (evP PE0) (evP (kindP (kindQ w))) := by
    rintro _ _ rfl rfl
    exact hkl
  have hgoal := hst ⟨(0 : Int), (0 : Int), (0 : Int), (0 : Int), false, ([] : List UInt8), (0 : Int), (0 : Int), ([] : List Cell), ([] : List Cell), (0 : Int), ([] : List Cell)⟩ ⟨(0 : Int), (0 : Int), (0 : Int), (0 : Int), false, ([] : List UInt8), (0 : Int), (0 : Int), ([] : List Cell), ([] : List Cell), (0 : Int), ([] : List Cell)⟩ rfl rfl
  simp only [] at hgoal ⊢
  rw [hgoal, f8_L4, f8_T4, decide_eq_false (by omega), cond_false, show (evP (kindP (kindQ w))).fKind = kindQ w by rfl]
  unfold readR readQ
  rw [hs]
  simp only []
  rcases kind_cases w with h0 | ⟨k, hk0, hk, hkw⟩
  · rw [h0, if_pos rfl]
    exact ⟨_, rfl, fun R k => rfl⟩
  · obtain ⟨e', h1, h2⟩ := hfi k hk0 ws hP hSh
    have hbox : [[Cell.int .i64 (kindQ w), .int .i64 (evP (kindP (kindQ w))).fSlot, .int .i64 (evP (kindP (kindQ w))).fN, .int .i64 (evP (kindP (kindQ w))).fK, .bool (evP (kindP (kindQ w))).fLmtp, .str (evP (kindP (kindQ w))).fName, .int .i64 (evP (kindP (kindQ w))).fLimit_Bytes, .int .i64 (evP (kindP (kindQ w))).fLimit_Count, .sl none 1 (evP (kindP (kindQ w))).fTo, .sl none 1 (evP (kindP (kindQ w))).fData, .int .i64 (evP (kindP (kindQ w))).fCode, .sl (some ⟨1000000, 11, 3⟩) 1 (evP (kindP (kindQ w))).fKeep]] = keepH (evP (kindP (k.val : Int))) := by rw [hk]; rfl
    rw [show (kindQ w == 0) = false by rw [beq_eq_false_iff_ne, hk]; omega, cond_false, if_neg (by rw [hk]; omega), hbox]
    have hbb := box_back e' (fun x => oB (.one (.bool (bodyQ k.val ws).isSome)) fun b43 => bif (!b43) then (
            some (AV.tup [.agg [.int .i64 (0 : Int), .int .i64 (0 : Int), .int .i64 (0 : Int), .int .i64 (0 : Int), .bool false, .str ([] : List UInt8), .int .i64 (0 : Int), .int .i64 (0 : Int), .sl (some ⟨1000000, 8, 9⟩) 1 ([] : List Cell), .sl (some ⟨1000000, 9, 5⟩) 1 ([] : List Cell), .int .i64 (0 : Int), .sl (some ⟨1000000, 11, 3⟩) 1 ([] : List Cell)], .one (.int .i64 (3 : Int))], ([] : Heap))) else (
            some (AV.tup [.agg [.int .i64 x.fKind, .int .i64 x.fSlot, .int .i64 x.fN, .int .i64 x.fK, .bool x.fLmtp, .str x.fName, .int .i64 x.fLimit_Bytes, .int .i64 x.fLimit_Count, .sl none 1 x.fTo, .sl none 1 x.fData, .int .i64 x.fCode, .sl (some ⟨1000000, 11, 3⟩) 1 x.fKeep], .one (.int .i64 (0 : Int))], []))) true
    rw [hk]
    cases hb : bodyQ k.val ws with
    | none =>
      rw [hb] at h1 hbb
      refine ⟨_, (callRK_some h1 _).trans (hbb.trans rfl), fun R k => rfl⟩
    | some p =>
      rw [hb] at h1 hbb
      obtain rfl := h2 p hb
      refine ⟨_, (callRK_some h1 _).trans (hbb.trans rfl), fun R k => ?_⟩
      cases p; rfl
theorem fu (w : List UInt8) (e : PE) : fieldQ 117 w e = if nameB w = true then some { e with name := w } else none := rfl
theorem fm (w : List UInt8) (e : PE) : fieldQ 109 w e = if w = [42] then some { e with name := [] } else if nameB w = true then some { e with name := w } else none := rfl
theorem fb (w : List UInt8) (e : PE) : fieldQ 98 w e = match numQ w with | some v => some { e with lb := v } | none => none := rfl
theorem fc (w : List UInt8) (e : PE) : fieldQ 99 w e = match numQ w with | some v => some { e with lc := v } | none => none := rfl
theorem fn_ (w : List UInt8) (e : PE) : fieldQ 110 w e = match numQ w with | some v => some { e with n := v } | none => none := rfl
theorem fk (w : List UInt8) (e : PE) : fieldQ 107 w e = match numQ w with | some v => some { e with k := v } | none => none := rfl
theorem fe (w : List UInt8) (e : PE) : fieldQ 101 w e = match numQ w with | some v => if 0 ≤ v ∧ v ≤ 17 then some { e with code := v } else none | none => none := rfl
theorem field_p (a : List UInt8) (e : PE) : fieldQ 112 a e = if a = lmtpL ∨ a = smtpL then some { e with lmtp := decide (a = lmtpL) } else none := rfl
theorem numsQ_len : ∀ (ws : List (List UInt8)) (vs : List Int), numsQ ws = some vs → vs.length = ws.length
  | [], vs, h => by cases h; rfl
  | w :: r, vs, h => by
    rw [numsQ] at h
    split at h
    · rename_i v l _ hr; cases h; simp [numsQ_len r l hr]
    · cases h
theorem Short.tail {b : Nat} {a : List UInt8} {r : List (List UInt8)} (h : Short b (a :: r)) : Short b r := ⟨by have := h.1; simp at this; omega, fun l hl => h.2 l (.tail _ hl)⟩
end AX
end Go.Proofs.YtfbicbgdfcbhpaaDoor
