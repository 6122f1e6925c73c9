/-
  Layer 31: the reference's Read: the same, to its end.
-/
import Derived.Test.YtfbicbgdfcbhpaaGreatDoorScRef
set_option maxRecDepth 20000
set_option linter.unusedVariables false
set_option linter.unusedSimpArgs false
set_option linter.unusedSectionVars false
namespace Go.Proofs.YtfbicbgdfcbhpaaGreatDoor
open SC
namespace AX
/-- what the reference reads behind a word of the kinds 4 to 17 -/
def refBody (k : Fin 18) (ws : List (List UInt8)) : Option PE :=
  if 6 ≤ k.val ∧ k.val ≤ 12 then (match ws with
    | [] => none
    | a :: r => match unnameQ a (decide (k.val = 7) || decide (10 ≤ k.val)) with
      | none => none
      | some s => if k.val = 8 then (if r.all nameB = true ∧ r ≠ [] then some { kindP k.val with name := s, tos := r } else none) else numsK k.val { kindP k.val with name := s } (numsQ r))
  else numsK k.val (kindP k.val) (numsQ ws)
theorem Short.tail {b : Nat} {a : List UInt8} {r : List (List UInt8)} (h : Short b (a :: r)) : Short b r := ⟨by have := h.1; simp at this; omega, fun l hl => h.2 l (.tail _ hl)⟩
theorem tail_cut (a : List UInt8) (r : List (List UInt8)) : ((strs (a :: r)).take (((strs (a :: r)).length / 1) * 1)).drop ((Int.toNat (1 : Int)) * 1) = strs r := by
  simp only [Nat.div_one, Nat.mul_one, List.take_length]; rfl
theorem body_gives {call : CallF} {n : Nat} (hC : RefCalls call) (k : Fin 18) (hk4 : 4 ≤ k.val) (ws : List (List UInt8)) (hs : Short 1000000 ws) (g : S_ref31_Got) :
    Gives (f28_L18 call n (strs ws) (k.val : Int) (decide (6 ≤ k.val ∧ k.val ≤ 12)) g (evP (kindP k.val))) (refBody k ws) := by
  have hb : ∀ (K : S_ref31_Got → OR), (∀ g, K g = some (.agg g.cells, [])) → Gives (callK call 60 [] fun v1 => castAgg v1 fun r2 => takeS_ref31_Got r2 fun w3 r4 => nilK r4 (K w3)) none := fun K hK => bad_gives (n := n) hC K hK
  unfold refBody
  rw [f28_L18, f28_T18]
  by_cases h6 : 6 ≤ k.val ∧ k.val ≤ 12
  · rw [decide_eq_true h6, cond_true, if_pos h6]
    cases ws with
    | nil => exact hb _ fun g => rfl
    | cons a r =>
      have hl0 : ((((strs (a :: r)).length / 1 : Nat) : Int) == 0) = false := by rw [beq_eq_false_iff_ne, strs_len, Nat.div_one]; simp only [List.length_cons]; omega
      have hi0 : ∀ K : Cell → OR, itemK (strs (a :: r)) (0 : Int) K = K (.str a) := fun K => item_some (j := 0) rfl rfl K
      simp only []
      rw [hl0, f28_L19, f28_T19, cond_false, f28_L22, f28_T22, hi0, castS_one]
      obtain ⟨t, hu, ht⟩ := hC.unname a (decide (k.val = 7) || decide (10 ≤ k.val)) (hs.2 a (by simp))
      have e7 : (bif ((k.val : Int) == 7) then (callK call 61 [.one (.str a), .one (.bool true)] fun v3 => castTup v3 fun v4 => zS v4 fun s5 r6 => zB r6 fun b7 r8 => nilK r8 (f28_L24 call n (strs (a :: r)) (k.val : Int) s5 b7 g (evP (kindP k.val))))
          else (callK call 61 [.one (.str a), .one (.bool (decide ((k.val : Int) ≥ 10)))] fun v9 => castTup v9 fun v10 => zS v10 fun s11 r12 => zB r12 fun b13 r14 => nilK r14 (f28_L24 call n (strs (a :: r)) (k.val : Int) s11 b13 g (evP (kindP k.val)))))
          = f28_L24 call n (strs (a :: r)) (k.val : Int) t (unnameQ a (decide (k.val = 7) || decide (10 ≤ k.val))).isSome g (evP (kindP k.val)) := by
        by_cases h7 : k.val = 7
        · rw [show ((k.val : Int) == 7) = true by rw [h7]; rfl, cond_true]
          rw [show (decide (k.val = 7) || decide (10 ≤ k.val)) = true by simp [h7]] at hu ⊢
          rw [callK_some hu]; rfl
        · rw [show ((k.val : Int) == 7) = false by rw [beq_eq_false_iff_ne]; omega, cond_false]
          have : decide ((k.val : Int) ≥ 10) = (decide (k.val = 7) || decide (10 ≤ k.val)) := by rw [decide_eq_false h7, Bool.false_or, decide_eq_decide]; omega
          rw [this, callK_some hu]; rfl
      rw [e7, f28_L24, f28_T24, f28_L26, f28_T26]
      cases hq : unnameQ a (decide (k.val = 7) || decide (10 ≤ k.val)) with
      | none => exact hb _ fun g => rfl
      | some s =>
        obtain rfl := ht s hq
        simp only [Option.isSome_some, Bool.not_true, cond_false, f28_L30, f28_T30, f28_L32, f28_T32, tail_cut]
        rw [decide_eq_true ⟨by omega, by rw [strs_len]; simp⟩, cond_true, f28_L41, f28_T41, f28_L46, f28_T46]
        have hev : ({ evP (kindP k.val) with fName := t } : S_api_Event) = evP { kindP k.val with name := t } := rfl
        rw [hev]
        by_cases h8 : k.val = 8
        · rw [show ((k.val : Int) == 8) = true by rw [h8]; rfl, cond_true, if_pos h8, callK_some (hC.names r hs.tail), oB_one, f28_L49, f28_T49]
          by_cases hall : r.all nameB = true ∧ r ≠ []
          · rw [if_pos hall, hall.1, decide_eq_true hall.2]
            refine ⟨_, rfl, fun R k => ?_⟩
            rfl
          · rw [if_neg hall, show (r.all nameB && decide (r ≠ [])) = false by
              rw [Bool.and_eq_false_iff]
              by_cases hx : r.all nameB = true
              · exact .inr (decide_eq_false fun hy => hall ⟨hx, hy⟩)
              · exact .inl (by simpa using hx)]
            exact hb _ fun g => rfl
        · rw [show ((k.val : Int) == 8) = false by rw [beq_eq_false_iff_ne]; omega, cond_false, if_neg h8]
          exact nums_gives hC k hk4 h8 r hs.tail _ rfl g
  · rw [decide_eq_false h6, cond_false, if_neg h6]
    exact nums_gives hC k hk4 (by omega) ws hs _ rfl g
theorem fu (w : List UInt8) (e : PE) : fieldQ 117 w e = if nameB w = true then some { e with name := w } else none := rfl
theorem fm (w : List UInt8) (e : PE) : fieldQ 109 w e = if w = [42] then some { e with name := [] } else if nameB w = true then some { e with name := w } else none := rfl
theorem fb (w : List UInt8) (e : PE) : fieldQ 98 w e = match numQ w with | some v => some { e with lb := v } | none => none := rfl
theorem fc (w : List UInt8) (e : PE) : fieldQ 99 w e = match numQ w with | some v => some { e with lc := v } | none => none := rfl
theorem fn_ (w : List UInt8) (e : PE) : fieldQ 110 w e = match numQ w with | some v => some { e with n := v } | none => none := rfl
theorem fk (w : List UInt8) (e : PE) : fieldQ 107 w e = match numQ w with | some v => some { e with k := v } | none => none := rfl
theorem fe (w : List UInt8) (e : PE) : fieldQ 101 w e = match numQ w with | some v => if 0 ≤ v ∧ v ≤ 17 then some { e with code := v } else none | none => none := rfl
theorem un_t (a : List UInt8) : unnameQ a true = if a = [42] then some [] else if nameB a = true then some a else none := by unfold unnameQ; simp
theorem un_f (a : List UInt8) : unnameQ a false = if nameB a = true then some a else none := by unfold unnameQ; simp
theorem numsQ_len : ∀ (ws : List (List UInt8)) (vs : List Int), numsQ ws = some vs → vs.length = ws.length
  | [], vs, h => by cases h; rfl
  | w :: r, vs, h => by
    rw [numsQ] at h
    split at h
    · rename_i v l _ hr; cases h; simp [numsQ_len r l hr]
    · cases h
theorem refBody_4 (ws : List (List UInt8)) : refBody ⟨4, by decide⟩ ws = fillQ [110] (kindP 4) ws := by
  rcases ws with _ | ⟨a, _ | ⟨b, r⟩⟩
  · simp_all [refBody, fillQ_cons, fillQ_nil, kindP, numsQ, numsK, un_t, un_f, fn_]
  · cases ha : numQ a <;> simp_all [refBody, fillQ_cons, fillQ_nil, kindP, numsQ, numsK, un_t, un_f, fn_]
  · cases ha : numQ a <;> cases hb : numQ b <;> cases hr : numsQ r <;> simp_all [refBody, fillQ_cons, fillQ_nil, kindP, numsQ, numsK, un_t, un_f, fn_]
theorem refBody_5 (ws : List (List UInt8)) : refBody ⟨5, by decide⟩ ws = fillQ [] (kindP 5) ws := by
  rcases ws with _ | ⟨a, r⟩
  · simp_all [refBody, fillQ_cons, fillQ_nil, kindP, numsQ, numsK, un_t, un_f]
  · cases ha : numQ a <;> cases hr : numsQ r <;> simp_all [refBody, fillQ_cons, fillQ_nil, kindP, numsQ, numsK, un_t, un_f]
theorem refBody_6 (ws : List (List UInt8)) : refBody ⟨6, by decide⟩ ws = fillQ [117, 98, 99] (kindP 6) ws := by
  rcases ws with _ | ⟨a, _ | ⟨b, _ | ⟨c, _ | ⟨d, r⟩⟩⟩⟩
  · simp_all [refBody, fillQ_cons, fillQ_nil, kindP, numsQ, numsK, un_t, un_f, fu, fb, fc]
  · cases hn : nameB a <;> simp_all [refBody, fillQ_cons, fillQ_nil, kindP, numsQ, numsK, un_t, un_f, fu, fb, fc]
  · cases hn : nameB a <;> cases hb : numQ b <;> simp_all [refBody, fillQ_cons, fillQ_nil, kindP, numsQ, numsK, un_t, un_f, fu, fb, fc]
  · cases hn : nameB a <;> cases hb : numQ b <;> cases hc : numQ c <;> simp_all [refBody, fillQ_cons, fillQ_nil, kindP, numsQ, numsK, un_t, un_f, fu, fb, fc]
  · cases hn : nameB a <;> cases hb : numQ b <;> cases hc : numQ c <;> cases hd : numQ d <;> cases hr : numsQ r <;> simp_all [refBody, fillQ_cons, fillQ_nil, kindP, numsQ, numsK, un_t, un_f, fu, fb, fc]
theorem refBody_7 (ws : List (List UInt8)) : refBody ⟨7, by decide⟩ ws = fillQ [109, 98, 99] (kindP 7) ws := by
  rcases ws with _ | ⟨a, _ | ⟨b, _ | ⟨c, _ | ⟨d, r⟩⟩⟩⟩
  · simp_all [refBody, fillQ_cons, fillQ_nil, kindP, numsQ, numsK, un_t, un_f, fm, fb, fc]
  · by_cases hm : a = [42] <;> cases hn : nameB a <;> simp_all [refBody, fillQ_cons, fillQ_nil, kindP, numsQ, numsK, un_t, un_f, fm, fb, fc]
  · by_cases hm : a = [42] <;> cases hn : nameB a <;> cases hb : numQ b <;> simp_all [refBody, fillQ_cons, fillQ_nil, kindP, numsQ, numsK, un_t, un_f, fm, fb, fc]
  · by_cases hm : a = [42] <;> cases hn : nameB a <;> cases hb : numQ b <;> cases hc : numQ c <;> simp_all [refBody, fillQ_cons, fillQ_nil, kindP, numsQ, numsK, un_t, un_f, fm, fb, fc]
  · by_cases hm : a = [42] <;> cases hn : nameB a <;> cases hb : numQ b <;> cases hc : numQ c <;> cases hd : numQ d <;> cases hr : numsQ r <;> simp_all [refBody, fillQ_cons, fillQ_nil, kindP, numsQ, numsK, un_t, un_f, fm, fb, fc]
theorem refBody_8 (ws : List (List UInt8)) : refBody ⟨8, by decide⟩ ws = fillQ [117, 116] (kindP 8) ws := by
  rcases ws with _ | ⟨a, r⟩
  · simp_all [refBody, fillQ_cons, fillQ_nil, kindP, numsQ, numsK, un_t, un_f, fu] <;> (repeat' split) <;> simp_all
  · cases hn : nameB a <;> simp_all [refBody, fillQ_cons, fillQ_nil, kindP, numsQ, numsK, un_t, un_f, fu] <;> (repeat' split) <;> simp_all
theorem refBody_9 (ws : List (List UInt8)) : refBody ⟨9, by decide⟩ ws = fillQ [117] (kindP 9) ws := by
  rcases ws with _ | ⟨a, _ | ⟨b, r⟩⟩
  · simp_all [refBody, fillQ_cons, fillQ_nil, kindP, numsQ, numsK, un_t, un_f, fu]
  · cases hn : nameB a <;> simp_all [refBody, fillQ_cons, fillQ_nil, kindP, numsQ, numsK, un_t, un_f, fu]
  · cases hn : nameB a <;> cases hb : numQ b <;> cases hr : numsQ r <;> simp_all [refBody, fillQ_cons, fillQ_nil, kindP, numsQ, numsK, un_t, un_f, fu]
theorem refBody_10 (ws : List (List UInt8)) : refBody ⟨10, by decide⟩ ws = fillQ [109, 110] (kindP 10) ws := by
  rcases ws with _ | ⟨a, _ | ⟨b, _ | ⟨c, r⟩⟩⟩
  · simp_all [refBody, fillQ_cons, fillQ_nil, kindP, numsQ, numsK, un_t, un_f, fm, fn_]
  · by_cases hm : a = [42] <;> cases hn : nameB a <;> simp_all [refBody, fillQ_cons, fillQ_nil, kindP, numsQ, numsK, un_t, un_f, fm, fn_]
  · by_cases hm : a = [42] <;> cases hn : nameB a <;> cases hb : numQ b <;> simp_all [refBody, fillQ_cons, fillQ_nil, kindP, numsQ, numsK, un_t, un_f, fm, fn_]
  · by_cases hm : a = [42] <;> cases hn : nameB a <;> cases hb : numQ b <;> cases hc : numQ c <;> cases hr : numsQ r <;> simp_all [refBody, fillQ_cons, fillQ_nil, kindP, numsQ, numsK, un_t, un_f, fm, fn_]
theorem refBody_11 (ws : List (List UInt8)) : refBody ⟨11, by decide⟩ ws = fillQ [109, 110, 107] (kindP 11) ws := by
  rcases ws with _ | ⟨a, _ | ⟨b, _ | ⟨c, _ | ⟨d, r⟩⟩⟩⟩
  · simp_all [refBody, fillQ_cons, fillQ_nil, kindP, numsQ, numsK, un_t, un_f, fm, fn_, fk]
  · by_cases hm : a = [42] <;> cases hn : nameB a <;> simp_all [refBody, fillQ_cons, fillQ_nil, kindP, numsQ, numsK, un_t, un_f, fm, fn_, fk]
  · by_cases hm : a = [42] <;> cases hn : nameB a <;> cases hb : numQ b <;> simp_all [refBody, fillQ_cons, fillQ_nil, kindP, numsQ, numsK, un_t, un_f, fm, fn_, fk]
  · by_cases hm : a = [42] <;> cases hn : nameB a <;> cases hb : numQ b <;> cases hc : numQ c <;> simp_all [refBody, fillQ_cons, fillQ_nil, kindP, numsQ, numsK, un_t, un_f, fm, fn_, fk]
  · by_cases hm : a = [42] <;> cases hn : nameB a <;> cases hb : numQ b <;> cases hc : numQ c <;> cases hd : numQ d <;> cases hr : numsQ r <;> simp_all [refBody, fillQ_cons, fillQ_nil, kindP, numsQ, numsK, un_t, un_f, fm, fn_, fk]
theorem refBody_12 (ws : List (List UInt8)) : refBody ⟨12, by decide⟩ ws = fillQ [109] (kindP 12) ws := by
  rcases ws with _ | ⟨a, _ | ⟨b, r⟩⟩
  · simp_all [refBody, fillQ_cons, fillQ_nil, kindP, numsQ, numsK, un_t, un_f, fm]
  · by_cases hm : a = [42] <;> cases hn : nameB a <;> simp_all [refBody, fillQ_cons, fillQ_nil, kindP, numsQ, numsK, un_t, un_f, fm]
  · by_cases hm : a = [42] <;> cases hn : nameB a <;> cases hb : numQ b <;> cases hr : numsQ r <;> simp_all [refBody, fillQ_cons, fillQ_nil, kindP, numsQ, numsK, un_t, un_f, fm]
theorem refBody_13 (ws : List (List UInt8)) : refBody ⟨13, by decide⟩ ws = fillQ [] (kindP 13) ws := by
  rcases ws with _ | ⟨a, r⟩
  · simp_all [refBody, fillQ_cons, fillQ_nil, kindP, numsQ, numsK, un_t, un_f]
  · cases ha : numQ a <;> cases hr : numsQ r <;> simp_all [refBody, fillQ_cons, fillQ_nil, kindP, numsQ, numsK, un_t, un_f]
theorem refBody_14 (ws : List (List UInt8)) : refBody ⟨14, by decide⟩ ws = fillQ [110, 101] (kindP 14) ws := by
  rcases ws with _ | ⟨a, _ | ⟨b, _ | ⟨c, r⟩⟩⟩
  · simp_all [refBody, fillQ_cons, fillQ_nil, kindP, numsQ, numsK, un_t, un_f, fn_, fe] <;> (repeat' split) <;> simp_all
  · cases ha : numQ a <;> simp_all [refBody, fillQ_cons, fillQ_nil, kindP, numsQ, numsK, un_t, un_f, fn_, fe] <;> (repeat' split) <;> simp_all
  · cases ha : numQ a <;> cases hb : numQ b <;> simp_all [refBody, fillQ_cons, fillQ_nil, kindP, numsQ, numsK, un_t, un_f, fn_, fe] <;> (repeat' split) <;> simp_all
  · cases ha : numQ a <;> cases hb : numQ b <;> cases hc : numQ c <;> cases hr : numsQ r <;> simp_all [refBody, fillQ_cons, fillQ_nil, kindP, numsQ, numsK, un_t, un_f, fn_, fe] <;> (repeat' split) <;> simp_all
theorem refBody_15 (ws : List (List UInt8)) : refBody ⟨15, by decide⟩ ws = fillQ [110] (kindP 15) ws := by
  rcases ws with _ | ⟨a, _ | ⟨b, r⟩⟩
  · simp_all [refBody, fillQ_cons, fillQ_nil, kindP, numsQ, numsK, un_t, un_f, fn_]
  · cases ha : numQ a <;> simp_all [refBody, fillQ_cons, fillQ_nil, kindP, numsQ, numsK, un_t, un_f, fn_]
  · cases ha : numQ a <;> cases hb : numQ b <;> cases hr : numsQ r <;> simp_all [refBody, fillQ_cons, fillQ_nil, kindP, numsQ, numsK, un_t, un_f, fn_]
theorem refBody_16 (ws : List (List UInt8)) : refBody ⟨16, by decide⟩ ws = fillQ [110, 119] (kindP 16) ws := by
  rcases ws with _ | ⟨a, r⟩
  · simp_all [refBody, fillQ_cons, fillQ_nil, kindP, numsQ, numsK, un_t, un_f, fn_]
  · cases ha : numQ a <;> cases hr : numsQ r <;> simp_all [refBody, fillQ_cons, fillQ_nil, kindP, numsQ, numsK, un_t, un_f, fn_]
theorem refBody_17 (ws : List (List UInt8)) : refBody ⟨17, by decide⟩ ws = fillQ [] (kindP 17) ws := by
  rcases ws with _ | ⟨a, r⟩
  · simp_all [refBody, fillQ_cons, fillQ_nil, kindP, numsQ, numsK, un_t, un_f]
  · cases ha : numQ a <;> cases hr : numsQ r <;> simp_all [refBody, fillQ_cons, fillQ_nil, kindP, numsQ, numsK, un_t, un_f]
theorem refBody_eq (k : Fin 18) (hk4 : 4 ≤ k.val) (ws : List (List UInt8)) : refBody k ws = bodyQ k.val ws := by
  match k, hk4 with
  | ⟨4, _⟩, _ => exact refBody_4 ws
  | ⟨5, _⟩, _ => exact refBody_5 ws
  | ⟨6, _⟩, _ => exact refBody_6 ws
  | ⟨7, _⟩, _ => exact refBody_7 ws
  | ⟨8, _⟩, _ => exact refBody_8 ws
  | ⟨9, _⟩, _ => exact refBody_9 ws
  | ⟨10, _⟩, _ => exact refBody_10 ws
  | ⟨11, _⟩, _ => exact refBody_11 ws
  | ⟨12, _⟩, _ => exact refBody_12 ws
  | ⟨13, _⟩, _ => exact refBody_13 ws
  | ⟨14, _⟩, _ => exact refBody_14 ws
  | ⟨15, _⟩, _ => exact refBody_15 ws
  | ⟨16, _⟩, _ => exact refBody_16 ws
  | ⟨17, _⟩, _ => exact refBody_17 ws
  | ⟨k + 18, h⟩, _ => omega
end AX
end Go.Proofs.YtfbicbgdfcbhpaaGreatDoor
