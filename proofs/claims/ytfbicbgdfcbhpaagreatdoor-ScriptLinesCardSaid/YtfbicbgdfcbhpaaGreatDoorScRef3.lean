/-
  Layer 31: the reference's session and Read.
-/
import Derived.Test.YtfbicbgdfcbhpaaGreatDoorScRef2
set_option maxRecDepth 20000
set_option linter.unusedVariables false
set_option linter.unusedSimpArgs false
set_option linter.unusedSectionVars false
namespace Go.Proofs.YtfbicbgdfcbhpaaGreatDoor
open SC
namespace AX
theorem field_slot (a : List UInt8) (e : PE) : fieldQ 115 a e = match slotQ a with | some v => some { e with slot := v } | none => none := by
  rw [show fieldQ 115 a e = (match numQ a with | some v => if 0 ≤ v ∧ v < 8 then some { e with slot := v } else none | none => none) by rfl]
  unfold slotQ
  cases numQ a with
  | none => rfl
  | some v =>
    simp only []
    by_cases h : 0 ≤ v ∧ v ≤ 7
    · rw [if_pos h, if_pos ⟨h.1, by omega⟩]
    · rw [if_neg h, if_neg (by omega)]
theorem field_p (a : List UInt8) (e : PE) : fieldQ 112 a e = if a = lmtpL ∨ a = smtpL then some { e with lmtp := decide (a = lmtpL) } else none := rfl
theorem slotQ_range {a : List UInt8} {v : Int} (h : slotQ a = some v) : 0 ≤ v := by
  unfold slotQ at h
  split at h
  · split at h
    · cases h; omega
    · cases h
  · cases h
theorem session_gives {call : CallF} {n : Nat} (hC : RefCalls call) (hslot : ∀ s : List UInt8, s.length ≤ 1000000 → call 83 [.one (.str s)] [] = some (.one (.int .i64 ((slotQ s).getD (-1))), []))
    (hdata : ∀ s : List UInt8, s.length ≤ 1000000 → ∃ o b, call 84 [.one (.str s)] [] = unqR o b ∧ Tells s o b)
    (k : Fin 18) (hk0 : 0 < k.val) (hk3 : k.val ≤ 3) (ws : List (List UInt8)) (hs : Short 1000000 ws) (line : List UInt8) (hline : line = Lib.join (wordsL.getD k.val [] :: ws) [32]) (hl : line.length ≤ 900000) :
    Gives (f59_L call n (evP (kindP k.val)) line (strs ws)) (bodyQ k.val ws) := by
  have hb : ∀ (K : S_ref31_Got → OR), (∀ g, K g = some (.agg g.cells, [])) → Gives (callK call 60 [] fun v1 => castAgg v1 fun r2 => takeS_ref31_Got r2 fun w3 r4 => nilK r4 (K w3)) none := fun K hK => bad_gives (n := n) hC K hK
  have hi0 : ∀ (a : List UInt8) (r : List (List UInt8)) (K : Cell → OR), itemK (strs (a :: r)) (0 : Int) K = K (.str a) := fun a r K => item_some (j := 0) rfl rfl K
  have hi1 : ∀ (a b : List UInt8) (r : List (List UInt8)) (K : Cell → OR), itemK (strs (a :: b :: r)) (1 : Int) K = K (.str b) := fun a b r K => item_some (j := 1) rfl rfl K
  match k, hk0, hk3, hline with
  | ⟨1, _⟩, _, _, hline =>
    show Gives (f59_L call n (evP (kindP 1)) line (strs ws)) (fillQ [115, 112] (kindP 1) ws)
    match ws, hs with
    | [], hs => exact hb _ fun g => rfl
    | [a], hs =>
      rw [show fillQ [115, 112] (kindP 1) [a] = none by
        rw [fillQ_cons, if_neg (by decide), if_neg (by decide)]; simp only []
        cases fieldQ 115 a (kindP 1) with
        | none => rfl
        | some e => simp only []; rw [fillQ_cons, if_neg (by decide), if_neg (by decide)]]
      rw [f59_L, f59_T, show ((evP (kindP 1)).fKind == 2) = false by rfl, show ((evP (kindP 1)).fKind == 1) = true by rfl, cond_false, cond_true, strs_len, Nat.div_one, show ((([a] : List (List UInt8)).length : Int) != 2) = true by rfl, cond_true]
      exact hb _ fun g => rfl
    | [a, b], hs =>
      have hsl := hslot a (hs.2 a (by simp))
      rw [f59_L, f59_T, show ((evP (kindP 1)).fKind == 2) = false by rfl, show ((evP (kindP 1)).fKind == 1) = true by rfl, cond_false, cond_true, strs_len, Nat.div_one, show ((([a, b] : List (List UInt8)).length : Int) != 2) = false by rfl, cond_false, hi0, castS_one, callK_some hsl, oI_one]
      rw [fillQ_cons, if_neg (by decide), if_neg (by decide)]
      simp only []
      rw [field_slot]
      cases hq : slotQ a with
      | none => exact hb _ fun g => rfl
      | some v =>
        have hv := slotQ_range hq
        simp only [Option.getD_some]
        rw [decide_eq_false (by omega), cond_false, hi1, castS_one, fillQ_cons, if_neg (by decide), if_neg (by decide)]
        simp only []
        rw [field_p]
        have e1 : (b == ([115, 109, 116, 112] : List UInt8)) = decide (b = smtpL) := by rw [Bool.eq_iff_iff, beq_iff_eq, decide_eq_true_eq]; rfl
        have e2 : (b == ([108, 109, 116, 112] : List UInt8)) = decide (b = lmtpL) := by rw [Bool.eq_iff_iff, beq_iff_eq, decide_eq_true_eq]; rfl
        have good : ∀ g, Gives (f59_L16 call n (strs [a, b]) false (evP (kindP 1)) g) (some { kindP 1 with slot := v, lmtp := decide (b = lmtpL) }) := fun g => by
          rw [f59_L16, f59_T16, cond_false, hi0, castS_one, callK_some hsl, oI_one, hi1, castS_one, hq, e2]
          refine ⟨_, rfl, fun R k => ?_⟩
          rfl
        have nogood : ∀ g, Gives (f59_L16 call n (strs [a, b]) true (evP (kindP 1)) g) none := fun g => hb _ fun g => rfl
        rw [e1]
        by_cases hsm : b = smtpL
        · rw [decide_eq_true hsm, if_pos (.inr hsm)]
          exact good _
        · rw [decide_eq_false hsm, Bool.not_false, cond_true, hi1, castS_one, e2]
          by_cases hlm : b = lmtpL
          · rw [if_pos (.inl hlm)]
            have := good ⟨⟨0, 0, 0, 0, false, [], 0, 0, [], [], 0, []⟩, 0⟩
            rw [decide_eq_true hlm] at this ⊢
            exact this
          · rw [decide_eq_false hlm, if_neg (fun h => h.elim hlm hsm)]
            exact nogood _
    | a :: b :: c :: r, hs =>
      rw [show fillQ [115, 112] (kindP 1) (a :: b :: c :: r) = none by
        rw [fillQ_cons, if_neg (by decide), if_neg (by decide)]; simp only []
        cases fieldQ 115 a (kindP 1) with
        | none => rfl
        | some e =>
          simp only []; rw [fillQ_cons, if_neg (by decide), if_neg (by decide)]; simp only []
          cases fieldQ 112 b e with
          | none => rfl
          | some e => simp only []; rw [fillQ_nil, if_neg (by simp)]]
      rw [f59_L, f59_T, show ((evP (kindP 1)).fKind == 2) = false by rfl, show ((evP (kindP 1)).fKind == 1) = true by rfl, cond_false, cond_true, strs_len, Nat.div_one, show (((a :: b :: c :: r).length : Int) != 2) = true by simp only [List.length_cons, bne_iff_ne, ne_eq]; omega, cond_true]
      exact hb _ fun g => rfl
  | ⟨2, _⟩, _, _, hline =>
    show Gives (f59_L call n (evP (kindP 2)) line (strs ws)) (bodyQ 2 ws)
    match ws, hs, hline with
    | [], hs, hline => exact hb _ fun g => rfl
    | [a], hs, hline =>
      rw [f59_L, f59_T, show ((evP (kindP 2)).fKind == 2) = true by rfl, cond_true, strs_len, Nat.div_one, show decide ((([a] : List (List UInt8)).length : Int) < 2) = true by rfl, cond_true]
      exact hb _ fun g => rfl
    | a :: b :: r, hs, hline =>
      have hsl := hslot a (hs.2 a (by simp))
      rw [show bodyQ 2 (a :: b :: r) = (match dataQ (Lib.join (b :: r) [32]) with | some d => fieldQ 115 a { PE0 with kind := 2, data := d } | none => none) by rfl]
      rw [f59_L, f59_T, show ((evP (kindP 2)).fKind == 2) = true by rfl, cond_true, strs_len, Nat.div_one, decide_eq_false (by simp only [List.length_cons]; omega), cond_false, hi0, castS_one, callK_some hsl, oI_one]
      have nogood : ∀ g, Gives (f59_L7 call n line (strs (a :: b :: r)) (6 : Int) true (evP (kindP 2)) g) none := fun g => hb _ fun g => rfl
      have hline2 : line = ([98, 121, 116, 101, 115, 32] ++ a ++ [32]) ++ Lib.join (b :: r) [32] := by
        rw [hline, show wordsL.getD 2 [] = [98, 121, 116, 101, 115] by rfl, join_two, join_two]; simp
      have hlen : line.length = 6 + a.length + 1 + (Lib.join (b :: r) [32]).length := by rw [hline2]; simp; omega
      cases hq : slotQ a with
      | none =>
        have : (match dataQ (Lib.join (b :: r) [32]) with | some d => fieldQ 115 a { PE0 with kind := 2, data := d } | none => none) = none := by
          cases dataQ (Lib.join (b :: r) [32]) with
          | none => rfl
          | some d => simp only []; rw [field_slot, hq]
        rw [this]
        exact nogood _
      | some v =>
        have hv := slotQ_range hq
        simp only [Option.getD_some]
        have hwr : IntKind.wrap .i64 ((IntKind.wrap .i64 ((6 : Int) + (a.length : Int))) + 1) = ((6 + a.length + 1 : Nat) : Int) := by rw [wrap_ok (x := (6 : Int) + (a.length : Int)) (by omega) (by omega), wrap_ok (by omega) (by omega)]; omega
        have hdrop : line.drop (6 + a.length + 1) = Lib.join (b :: r) [32] := by
          rw [hline2]
          exact List.drop_left' (by simp; omega)
        obtain ⟨o, bb, h3, h4⟩ := hdata (Lib.join (b :: r) [32]) (by omega)
        rw [decide_eq_false (by omega), f59_L7, f59_T7, cond_false, hi0, castS_one, hwr, decide_eq_true ⟨by omega, by rw [Int.toNat_natCast]; omega⟩, cond_true, Int.toNat_natCast, List.take_length, hdrop, callK_some h3]
        simp only [castTup_tup, zL_cons, zB_cons, nilK_nil]
        cases bb with
        | false =>
          rw [tells_none h4]
          exact hb _ fun g => rfl
        | true =>
          rw [tells_some h4]
          simp only []
          rw [field_slot, hq, Bool.not_true, cond_false, hi0, castS_one, callK_some hsl, oI_one, hq]
          refine ⟨_, rfl, fun R k => ?_⟩
          rfl
  | ⟨3, _⟩, _, _, hline =>
    show Gives (f59_L call n (evP (kindP 3)) line (strs ws)) (fillQ [115] (kindP 3) ws)
    match ws, hs with
    | [], hs => exact hb _ fun g => rfl
    | [a], hs =>
      have hsl := hslot a (hs.2 a (by simp))
      rw [f59_L, f59_T, show ((evP (kindP 3)).fKind == 2) = false by rfl, show ((evP (kindP 3)).fKind == 1) = false by rfl, cond_false, cond_false, strs_len, Nat.div_one, show ((([a] : List (List UInt8)).length : Int) != 1) = false by rfl, cond_false, hi0, castS_one, callK_some hsl, oI_one]
      rw [fillQ_cons, if_neg (by decide), if_neg (by decide)]
      simp only []
      rw [field_slot]
      cases hq : slotQ a with
      | none => exact hb _ fun g => rfl
      | some v =>
        have hv := slotQ_range hq
        simp only [Option.getD_some]
        rw [decide_eq_false (by omega), f59_L21, f59_T21, cond_false, hi0, castS_one, callK_some hsl, oI_one, hq, fillQ_nil, if_pos rfl]
        refine ⟨_, rfl, fun R k => ?_⟩
        rfl
    | a :: b :: r, hs =>
      rw [show fillQ [115] (kindP 3) (a :: b :: r) = none by
        rw [fillQ_cons, if_neg (by decide), if_neg (by decide)]; simp only []
        cases fieldQ 115 a (kindP 3) with
        | none => rfl
        | some e => simp only []; rw [fillQ_nil, if_neg (by simp)]]
      rw [f59_L, f59_T, show ((evP (kindP 3)).fKind == 2) = false by rfl, show ((evP (kindP 3)).fKind == 1) = false by rfl, cond_false, cond_false, strs_len, Nat.div_one, show (((a :: b :: r).length : Int) != 1) = true by simp only [List.length_cons, bne_iff_ne, ne_eq]; omega, cond_true]
      exact hb _ fun g => rfl
theorem word_at (n : Nat) (k : Nat) (hk : k < 18) : acall AXE AXF (n + 1) 24 [.one (.int .i64 (k : Int))] [] = some (.one (.str (wordsL.getD k [])), []) := by
  have h18 : k < wordsL.length := hk
  rw [f24_eq, f24_L, f24_T]
  refine (item_str h18).trans ?_
  rw [castS_one, List.getD_eq_getElem?_getD, List.getElem?_eq_getElem h18]; rfl
theorem rkind_loop {call : CallF} {n : Nat} (hw : ∀ k : Nat, k < 18 → call 24 [.one (.int .i64 (k : Int))] [] = some (.one (.str (wordsL.getD k [])), [])) (line w : List UInt8) (ws : List (List UInt8)) (g : S_ref31_Got) : ∀ (m i : Nat) (k : Int), 1 ≤ i → i ≤ 18 → 18 < i + m →
    f28_L4 call n m line (strs (w :: ws)) (i : Int) g (evP (kindP k)) = f28_L4 call n 1 line (strs (w :: ws)) (18 : Int) g (evP (kindP (kindS w (wordsL.drop i) i k)))
  | 0, i, k, h0, h1, h2 => by omega
  | m + 1, i, k, h0, h1, h2 => by
    have hl : wordsL.length = 18 := rfl
    by_cases h : i < 18
    · have ih := rkind_loop (call := call) (n := n) hw line w ws g m (i + 1)
      have h18 : i < wordsL.length := h
      have hi0 : ∀ (K : Cell → OR), itemK (strs (w :: ws)) (0 : Int) K = K (.str w) := fun K => item_some (j := 0) rfl rfl K
      rw [List.drop_eq_getElem_cons h18, kindS, ← ih _ (by omega) (by omega) (by omega)]
      conv => lhs; rw [f28_L4, f28_T4]
      have hwr : IntKind.wrap .i64 ((i : Int) + 1) = ((i + 1 : Nat) : Int) := by rw [wrap_ok (by omega) (by omega)]; omega
      have hgd : wordsL.getD i [] = wordsL[i] := by rw [List.getD_eq_getElem?_getD, List.getElem?_eq_getElem h18]; rfl
      rw [decide_eq_true (by omega), cond_true, callK_some (hw i h), oS_one, hi0, castS_one, hgd]
      simp only [f28_L17, f28_T17, hwr]
      by_cases hx : wordsL[i] = w
      · rw [if_pos ⟨by omega, hx⟩, show (wordsL[i] == w) = true by simpa using hx]; rfl
      · rw [if_neg (fun h => hx h.2), show (wordsL[i] == w) = false by simpa using hx]; rfl
    · obtain rfl : i = 18 := by omega
      rw [show wordsL.drop 18 = [] by rfl, kindS]
      conv => lhs; rw [f28_L4, f28_T4]
      conv => rhs; rw [f28_L4, f28_T4]
      rfl
theorem bad_at (n : Nat) : ∃ cs, acall AXE AXF (n + 1) 60 [] [] = some (.agg cs, []) ∧ GotCells cs 3 PE0 := by
  rw [f60_eq]
  exact ⟨_, rfl, fun R k => rfl⟩
theorem refCalls_at (n : Nat) (hn : 1000300 ≤ n) (hn2 : n ≤ 700000000000) : RefCalls (acall AXE AXF (n + 1)) :=
  ⟨bad_at n, fun ls hs => numbers_at n ls hs (by omega) (by omega), fun ls hs => names_at n ls hs (by omega), fun s b hs => unname_at n s b hs (by omega)⟩
theorem session_at (n : Nat) (hn : 1000310 ≤ n) (hn2 : n ≤ 700000000000) (k : Fin 18) (hk0 : 0 < k.val) (hk3 : k.val ≤ 3) (ws : List (List UInt8)) (hs : Short 1000000 ws) (line : List UInt8) (hline : line = Lib.join (wordsL.getD k.val [] :: ws) [32]) (hl : line.length ≤ 900000) :
    Gives (acall AXE AXF (n + 1) 59 [.agg (evP (kindP k.val)).cells, .one (.str line), .one (.sl none 1 (strs ws))] []) (bodyQ k.val ws) := by
  obtain ⟨n, rfl⟩ : ∃ k, n = k + 1 := ⟨n - 1, by omega⟩
  rw [f59_eq]
  exact session_gives (refCalls_at n (by omega) (by omega)) (fun s hs => slot_at n s hs (by omega) (by omega)) (fun s hs => data_at n s hs (by omega)) k hk0 hk3 ws hs line hline hl
theorem rRead_at (n : Nat) (line : List UInt8) (hl : line.length ≤ 900000) (hn : 1000400 ≤ n) (hn2 : n ≤ 600000000000) :
    ∃ cs, acall AXE AXF (n + 1) 28 [.one (.str line)] [] = some (.agg cs, []) ∧ GotCells cs (readR line).1 (readR line).2 := by
  obtain ⟨n, rfl⟩ : ∃ k, n = k + 1 := ⟨n - 1, by omega⟩
  have hC := refCalls_at n (by omega) (by omega)
  have hwd := fun k hk => word_at n k hk
  have hse := session_at n (by omega) (by omega)
  have hsp := split_at n line (by omega) (by omega)
  rw [f28_eq, f28_L, f28_T, callK_some hsp, oL_one]
  generalize acall AXE AXF (n + 1) = call at *
  have hj := join_spl 32 line
  unfold readR readQ
  cases hs : spl 32 line with
  | nil => exact absurd hs (spl_ne 32 line)
  | cons w ws =>
    rw [hs] at hj
    have hjl : (Lib.join ws [32]).length ≤ 900000 := by
      cases ws with
      | nil => simp [Lib.join_nil]
      | cons v r => rw [join_two] at hj; rw [← hj] at hl; simp at hl; omega
    have hSh : Short 1000000 ws := ⟨by have := join_len_le ws; omega, fun p hp => by have := join_mem_le ws p hp; omega⟩
    have hkl : ∀ x : S_api_Event, x = evP (kindP 0) → ∀ g, f28_L4 call (n + 1 + 1) (n + 1 + 1) line (strs (w :: ws)) 1 g x = f28_L4 call (n + 1 + 1) 1 line (strs (w :: ws)) 18 g (evP (kindP (kindQ w))) := by
      rintro _ rfl g
      exact rkind_loop hwd line w ws g (n + 1 + 1) 1 0 (by omega) (by omega) (by omega)
    have hgoal := hkl ⟨(0 : Int), (0 : Int), (0 : Int), (0 : Int), false, ([] : List UInt8), (0 : Int), (0 : Int), ([] : List Cell), ([] : List Cell), (0 : Int), ([] : List Cell)⟩ rfl
    rw [hgoal, f28_L4, f28_T4, decide_eq_false (by omega), cond_false, show (evP (kindP (kindQ w))).fKind = kindQ w by rfl]
    simp only []
    rcases kind_cases w with h0 | ⟨k, hk0, hk, hkw⟩
    · rw [h0, if_pos rfl]
      exact ⟨_, rfl, fun R k => rfl⟩
    · rw [show (kindQ w == 0) = false by rw [beq_eq_false_iff_ne, hk]; omega, cond_false, if_neg (by rw [hk]; omega), hk, tail_cut, decide_eq_true ⟨by omega, by rw [strs_len]; simp⟩, cond_true]
      have fin : ∀ r : OR, Gives r (bodyQ k.val ws) → ∃ cs, r = some (.agg cs, []) ∧ GotCells cs (match (match bodyQ k.val ws with | some e => Except.ok e | none => .error 3 : Except Int PE) with | .ok e => (0, e) | .error k => (k, PE0)).1 (match (match bodyQ k.val ws with | some e => Except.ok e | none => .error 3 : Except Int PE) with | .ok e => (0, e) | .error k => (k, PE0)).2 := by
        rintro r ⟨cs, h1, h2⟩
        refine ⟨cs, h1, ?_⟩
        cases hb : bodyQ k.val ws with
        | none => rw [hb] at h2; exact h2
        | some p => rw [hb] at h2; exact h2
      by_cases h3 : k.val ≤ 3
      · rw [decide_eq_true (show (k.val : Int) ≤ 3 by omega), cond_true]
        obtain ⟨cs, h4, h5⟩ := hse k hk0 h3 ws hSh line (by rw [hkw, hj]) hl
        have hg : Gives (callK call 59 [.agg (evP (kindP k.val)).cells, .one (.str line), .one (.sl none 1 (strs ws))] fun v5 => castAgg v5 fun r6 => takeS_ref31_Got r6 fun w7 r8 => nilK r8 (some (.agg w7.cells, []))) (bodyQ k.val ws) := by
          rw [callK_some h4, castAgg_agg]
          cases hb : bodyQ k.val ws with
          | none =>
            rw [hb] at h5
            rw [h5]
            exact ⟨_, rfl, fun R k => takeS_ref31_Got_cells_nil _ k⟩
          | some p =>
            rw [hb] at h5
            rw [h5]
            exact ⟨_, rfl, fun R k => takeS_ref31_Got_cells_nil _ k⟩
        exact fin _ hg
      · rw [decide_eq_false (show ¬ (k.val : Int) ≤ 3 by omega), cond_false]
        have hbo := fun g => body_gives (n := n + 1 + 1) hC k (by omega) ws hSh g
        rw [refBody_eq k (by omega)] at hbo
        have e6 : ∀ g, (bif decide ((k.val : Int) ≥ 6) then f28_L18 call (n + 1 + 1) (strs ws) (k.val : Int) (decide ((k.val : Int) ≤ 12)) g (evP (kindP k.val)) else f28_L18 call (n + 1 + 1) (strs ws) (k.val : Int) false g (evP (kindP k.val))) = f28_L18 call (n + 1 + 1) (strs ws) (k.val : Int) (decide (6 ≤ k.val ∧ k.val ≤ 12)) g (evP (kindP k.val)) := fun g => by
          by_cases h6 : 6 ≤ k.val
          · rw [decide_eq_true (show (k.val : Int) ≥ 6 by omega), cond_true, show decide ((k.val : Int) ≤ 12) = decide (6 ≤ k.val ∧ k.val ≤ 12) by rw [decide_eq_decide]; omega]
          · rw [decide_eq_false (show ¬ (k.val : Int) ≥ 6 by omega), cond_false, decide_eq_false (show ¬ (6 ≤ k.val ∧ k.val ≤ 12) by omega)]
        rw [e6]
        exact fin _ (hbo _)
end AX
end Go.Proofs.YtfbicbgdfcbhpaaGreatDoor
