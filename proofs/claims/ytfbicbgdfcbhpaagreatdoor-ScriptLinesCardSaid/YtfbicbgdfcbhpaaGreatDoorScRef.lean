/-
  Layer 31: the reference's Read: the same.
-/
import Derived.Test.YtfbicbgdfcbhpaaGreatDoorScRead2
set_option maxRecDepth 20000
set_option linter.unusedVariables false
set_option linter.unusedSimpArgs false
set_option linter.unusedSectionVars false
namespace Go.Proofs.YtfbicbgdfcbhpaaGreatDoor
open SC
namespace AX
def GotCells (cs : List Cell) (err : Int) (e : PE) : Prop := ∀ (R : Type) (k : S_ref31_Got → List Cell → Option R), takeS_ref31_Got cs k = k ⟨evP e, err⟩ []
def Gives (r : OR) (q : Option PE) : Prop := ∃ cs, r = some (.agg cs, []) ∧ match q with | some p => GotCells cs 0 p | none => GotCells cs 3 PE0
structure RefCalls (call : CallF) : Prop where
  bad : ∃ cs, call 60 [] [] = some (.agg cs, []) ∧ GotCells cs 3 PE0
  nums : ∀ ls : List (List UInt8), Short 1000000 ls → call 63 [.one (.sl none 1 (strs ls))] [] =
    some (match numsQ ls with | some vs => .tup [.one (.sl (some ⟨2, 0, 3⟩) 1 (ints vs)), .one (.bool true)] | none => .tup [.one (.sl (some ⟨2, 0, 3⟩) 1 []), .one (.bool false)], [])
  names : ∀ ls : List (List UInt8), Short 1000000 ls → call 62 [.one (.sl none 1 (strs ls))] [] = some (.one (.bool (ls.all nameB && decide (ls ≠ []))), [])
  unname : ∀ (s : List UInt8) (b : Bool), s.length ≤ 1000000 → ∃ t, call 61 [.one (.str s), .one (.bool b)] [] = some (.tup [.one (.str t), .one (.bool (unnameQ s b).isSome)], []) ∧ ∀ u, unnameQ s b = some u → t = u
def numsK (k : Int) (e : PE) : Option (List Int) → Option PE
  | none => none
  | some vs =>
    if k = 4 ∨ k = 10 ∨ k = 15 then (match vs with | [a] => some { e with n := a } | _ => none)
    else if k = 6 ∨ k = 7 then (match vs with | [a, b] => some { e with lb := a, lc := b } | _ => none)
    else if k = 11 then (match vs with | [a, b] => some { e with n := a, k := b } | _ => none)
    else if k = 14 then (match vs with | [a, b] => if 0 ≤ b ∧ b ≤ 17 then some { e with n := a, code := b } else none | _ => none)
    else if k = 16 then (match vs with | a :: r => some { e with n := a, keep := r } | _ => none)
    else (match vs with | [] => some e | _ => none)
theorem bad_gives {call : CallF} {n : Nat} (hC : RefCalls call) (K : S_ref31_Got → OR) (hK : ∀ g, K g = some (.agg g.cells, [])) : Gives (callK call 60 [] fun v1 => castAgg v1 fun r2 => takeS_ref31_Got r2 fun w3 r4 => nilK r4 (K w3)) none := by
  obtain ⟨cs, h1, h2⟩ := hC.bad
  rw [callK_some h1, castAgg_agg, h2]
  refine ⟨_, (hK _), fun R k => ?_⟩
  exact takeS_ref31_Got_cells_nil _ k
def cntL : List Int := [0, 0, 0, 0, 1, 0, 2, 2, 0, 0, 1, 2, 0, 0, 2, 1, -1, 0]
def badN (k : Fin 18) (l : Nat) : Bool := (decide (0 ≤ cntL.getD k.val 0) && decide ((l : Int) ≠ cntL.getD k.val 0)) || (decide (k.val = 16) && decide (l < 1))
theorem L31_eq {call : CallF} {n : Nat} (k : Fin 18) (vs : List Int) (g : S_ref31_Got) (e : S_api_Event) :
    f28_L31 call n (k.val : Int) (ints vs) (ints cntL) g e = f28_L33 call n (k.val : Int) (ints vs) (badN k vs.length) g e := by
  have h16 : ((k.val : Int) == 16) = decide (k.val = 16) := by rw [Bool.eq_iff_iff, beq_iff_eq, decide_eq_true_eq]; omega
  have hit : ∀ K : Cell → OR, itemK (ints cntL) (k.val : Int) K = K (.int .i64 (cntL.getD k.val 0)) := fun K => by
    have h18 : k.val < cntL.length := k.isLt
    rw [item_int h18, List.getD_eq_getElem?_getD, List.getElem?_eq_getElem h18]; rfl
  rw [f28_L31, f28_T31, hit, castI_one, hit, castI_one, ints_len, Nat.div_one, h16]
  unfold badN
  have h1 : decide ((vs.length : Int) < 1) = decide (vs.length < 1) := by rw [decide_eq_decide]; omega
  rw [h1]
  by_cases hc : 0 ≤ cntL.getD k.val 0
  · rw [decide_eq_true hc, cond_true]
    by_cases hd : (vs.length : Int) = cntL.getD k.val 0
    · rw [show ((vs.length : Int) != cntL.getD k.val 0) = false by simpa using hd, cond_false, show decide ((vs.length : Int) ≠ cntL.getD k.val 0) = false from decide_eq_false (fun h => h hd)]
      cases decide (k.val = 16) <;> rfl
    · rw [show ((vs.length : Int) != cntL.getD k.val 0) = true by simpa using hd, cond_true, decide_eq_true hd]; rfl
  · rw [decide_eq_false hc, cond_false]
    cases decide (k.val = 16) <;> rfl
/-- the numbers of a kind -/
theorem nums_gives {call : CallF} {n : Nat} (hC : RefCalls call) (k : Fin 18) (hk4 : 4 ≤ k.val) (hk8 : k.val ≠ 8) (ws : List (List UInt8)) (hs : Short 1000000 ws) (e : PE) (he : e.keep = []) (g : S_ref31_Got) :
    Gives (f28_L20 call n (strs ws) (k.val : Int) g (evP e)) (numsK k.val e (numsQ ws)) := by
  have hb : ∀ (K : S_ref31_Got → OR), (∀ g, K g = some (.agg g.cells, [])) → Gives (callK call 60 [] fun v1 => castAgg v1 fun r2 => takeS_ref31_Got r2 fun w3 r4 => nilK r4 (K w3)) none := fun K hK => bad_gives (n := n) hC K hK
  have hn := hC.nums ws hs
  rw [f28_L20, f28_T20, callK_some hn]
  cases hq : numsQ ws with
  | none => exact hb _ fun g => rfl
  | some vs =>
    simp only [castTup_tup, zL_cons, zB_cons, nilK_nil, f28_L23, f28_T23, f28_L25, f28_T25, Bool.not_true, cond_false, f28_L28, f28_T28]
    show Gives (f28_L31 call n (k.val : Int) (ints vs) (ints cntL) g (evP e)) _
    rw [L31_eq]
    have hbad : ∀ x, Gives (f28_L33 call n x (ints vs) true g (evP e)) none := fun x => hb _ fun g => rfl
    match k, hk4, hk8 with
    | ⟨4, hlt⟩, _, _ =>
      match vs, hbad with
      | [], hbad =>
        rw [show badN ⟨4, hlt⟩ ([] : List Int).length = true by rfl]
        exact hbad _
      | [a], hbad =>
        refine ⟨_, rfl, fun R k => ?_⟩
        rfl
      | a :: b :: r, hbad =>
        rw [show badN ⟨4, hlt⟩ (a :: b :: r).length = true by unfold badN; rw [Bool.or_eq_true, Bool.and_eq_true]; exact .inl ⟨rfl, decide_eq_true (by simp only [List.length_cons, cntL, List.getD_cons_succ, List.getD_cons_zero]; omega)⟩]
        exact hbad _
    | ⟨5, hlt⟩, _, _ =>
      match vs, hbad with
      | [], hbad =>
        refine ⟨_, rfl, fun R k => ?_⟩
        rfl
      | a :: r, hbad =>
        rw [show badN ⟨5, hlt⟩ (a :: r).length = true by unfold badN; rw [Bool.or_eq_true, Bool.and_eq_true]; exact .inl ⟨rfl, decide_eq_true (by simp only [List.length_cons, cntL, List.getD_cons_succ, List.getD_cons_zero]; omega)⟩]
        exact hbad _
    | ⟨6, hlt⟩, _, _ =>
      match vs, hbad with
      | [], hbad =>
        rw [show badN ⟨6, hlt⟩ ([] : List Int).length = true by rfl]
        exact hbad _
      | [a], hbad =>
        rw [show badN ⟨6, hlt⟩ ([a] : List Int).length = true by rfl]
        exact hbad _
      | [a, b], hbad =>
        refine ⟨_, rfl, fun R k => ?_⟩
        rfl
      | a :: b :: c :: r, hbad =>
        rw [show badN ⟨6, hlt⟩ (a :: b :: c :: r).length = true by unfold badN; rw [Bool.or_eq_true, Bool.and_eq_true]; exact .inl ⟨rfl, decide_eq_true (by simp only [List.length_cons, cntL, List.getD_cons_succ, List.getD_cons_zero]; omega)⟩]
        exact hbad _
    | ⟨7, hlt⟩, _, _ =>
      match vs, hbad with
      | [], hbad =>
        rw [show badN ⟨7, hlt⟩ ([] : List Int).length = true by rfl]
        exact hbad _
      | [a], hbad =>
        rw [show badN ⟨7, hlt⟩ ([a] : List Int).length = true by rfl]
        exact hbad _
      | [a, b], hbad =>
        refine ⟨_, rfl, fun R k => ?_⟩
        rfl
      | a :: b :: c :: r, hbad =>
        rw [show badN ⟨7, hlt⟩ (a :: b :: c :: r).length = true by unfold badN; rw [Bool.or_eq_true, Bool.and_eq_true]; exact .inl ⟨rfl, decide_eq_true (by simp only [List.length_cons, cntL, List.getD_cons_succ, List.getD_cons_zero]; omega)⟩]
        exact hbad _
    | ⟨9, hlt⟩, _, _ =>
      match vs, hbad with
      | [], hbad =>
        refine ⟨_, rfl, fun R k => ?_⟩
        rfl
      | a :: r, hbad =>
        rw [show badN ⟨9, hlt⟩ (a :: r).length = true by unfold badN; rw [Bool.or_eq_true, Bool.and_eq_true]; exact .inl ⟨rfl, decide_eq_true (by simp only [List.length_cons, cntL, List.getD_cons_succ, List.getD_cons_zero]; omega)⟩]
        exact hbad _
    | ⟨10, hlt⟩, _, _ =>
      match vs, hbad with
      | [], hbad =>
        rw [show badN ⟨10, hlt⟩ ([] : List Int).length = true by rfl]
        exact hbad _
      | [a], hbad =>
        refine ⟨_, rfl, fun R k => ?_⟩
        rfl
      | a :: b :: r, hbad =>
        rw [show badN ⟨10, hlt⟩ (a :: b :: r).length = true by unfold badN; rw [Bool.or_eq_true, Bool.and_eq_true]; exact .inl ⟨rfl, decide_eq_true (by simp only [List.length_cons, cntL, List.getD_cons_succ, List.getD_cons_zero]; omega)⟩]
        exact hbad _
    | ⟨11, hlt⟩, _, _ =>
      match vs, hbad with
      | [], hbad =>
        rw [show badN ⟨11, hlt⟩ ([] : List Int).length = true by rfl]
        exact hbad _
      | [a], hbad =>
        rw [show badN ⟨11, hlt⟩ ([a] : List Int).length = true by rfl]
        exact hbad _
      | [a, b], hbad =>
        refine ⟨_, rfl, fun R k => ?_⟩
        rfl
      | a :: b :: c :: r, hbad =>
        rw [show badN ⟨11, hlt⟩ (a :: b :: c :: r).length = true by unfold badN; rw [Bool.or_eq_true, Bool.and_eq_true]; exact .inl ⟨rfl, decide_eq_true (by simp only [List.length_cons, cntL, List.getD_cons_succ, List.getD_cons_zero]; omega)⟩]
        exact hbad _
    | ⟨12, hlt⟩, _, _ =>
      match vs, hbad with
      | [], hbad =>
        refine ⟨_, rfl, fun R k => ?_⟩
        rfl
      | a :: r, hbad =>
        rw [show badN ⟨12, hlt⟩ (a :: r).length = true by unfold badN; rw [Bool.or_eq_true, Bool.and_eq_true]; exact .inl ⟨rfl, decide_eq_true (by simp only [List.length_cons, cntL, List.getD_cons_succ, List.getD_cons_zero]; omega)⟩]
        exact hbad _
    | ⟨13, hlt⟩, _, _ =>
      match vs, hbad with
      | [], hbad =>
        refine ⟨_, rfl, fun R k => ?_⟩
        rfl
      | a :: r, hbad =>
        rw [show badN ⟨13, hlt⟩ (a :: r).length = true by unfold badN; rw [Bool.or_eq_true, Bool.and_eq_true]; exact .inl ⟨rfl, decide_eq_true (by simp only [List.length_cons, cntL, List.getD_cons_succ, List.getD_cons_zero]; omega)⟩]
        exact hbad _
    | ⟨14, hlt⟩, _, _ =>
      match vs, hbad with
      | [], hbad =>
        rw [show badN ⟨14, hlt⟩ ([] : List Int).length = true by rfl]
        exact hbad _
      | [a], hbad =>
        rw [show badN ⟨14, hlt⟩ ([a] : List Int).length = true by rfl]
        exact hbad _
      | [a, b], hbad =>
        rw [show badN ⟨14, hlt⟩ ([a, b] : List Int).length = false by rfl]
        show Gives (bif decide (b < 0) then f28_L54 call n (ints [a, b]) true g (evP e) else f28_L54 call n (ints [a, b]) (decide (b > 17)) g (evP e)) (if 0 ≤ b ∧ b ≤ 17 then some { e with n := a, code := b } else none)
        have h54 : Gives (f28_L54 call n (ints [a, b]) true g (evP e)) none := hb _ fun g => rfl
        by_cases h1 : b < 0
        · rw [decide_eq_true h1, cond_true, if_neg (by omega)]; exact h54
        · rw [decide_eq_false h1, cond_false]
          by_cases h2 : b > 17
          · rw [decide_eq_true h2, if_neg (by omega)]; exact h54
          · rw [decide_eq_false h2, if_pos (by omega)]
            refine ⟨_, rfl, fun R k => ?_⟩
            rfl
      | a :: b :: c :: r, hbad =>
        rw [show badN ⟨14, hlt⟩ (a :: b :: c :: r).length = true by unfold badN; rw [Bool.or_eq_true, Bool.and_eq_true]; exact .inl ⟨rfl, decide_eq_true (by simp only [List.length_cons, cntL, List.getD_cons_succ, List.getD_cons_zero]; omega)⟩]
        exact hbad _
    | ⟨15, hlt⟩, _, _ =>
      match vs, hbad with
      | [], hbad =>
        rw [show badN ⟨15, hlt⟩ ([] : List Int).length = true by rfl]
        exact hbad _
      | [a], hbad =>
        refine ⟨_, rfl, fun R k => ?_⟩
        rfl
      | a :: b :: r, hbad =>
        rw [show badN ⟨15, hlt⟩ (a :: b :: r).length = true by unfold badN; rw [Bool.or_eq_true, Bool.and_eq_true]; exact .inl ⟨rfl, decide_eq_true (by simp only [List.length_cons, cntL, List.getD_cons_succ, List.getD_cons_zero]; omega)⟩]
        exact hbad _
    | ⟨16, hlt⟩, _, _ =>
      match vs, hbad with
      | [], hbad =>
        rw [show badN ⟨16, hlt⟩ ([] : List Int).length = true by rfl]
        exact hbad _
      | a :: r, hbad =>
        rw [show badN ⟨16, hlt⟩ (a :: r).length = false by unfold badN; simp [cntL]]
        show Gives (bif decide (0 ≤ (1 : Int) ∧ (Int.toNat (1 : Int)) ≤ ((ints (a :: r)).length / 1)) then (
            f28_L63 call n g ({ evP { e with n := a } with fKeep := (((ints (a :: r)).take (((ints (a :: r)).length / 1) * 1)).drop ((Int.toNat (1 : Int)) * 1)) } : S_api_Event)) else none) (some { e with n := a, keep := r })
        rw [decide_eq_true ⟨by omega, by simp [ints]⟩, cond_true]
        simp only [Nat.div_one, Nat.mul_one, List.take_length]
        refine ⟨_, rfl, fun R k => ?_⟩
        rfl
    | ⟨17, hlt⟩, _, _ =>
      match vs, hbad with
      | [], hbad =>
        refine ⟨_, rfl, fun R k => ?_⟩
        rfl
      | a :: r, hbad =>
        rw [show badN ⟨17, hlt⟩ (a :: r).length = true by unfold badN; rw [Bool.or_eq_true, Bool.and_eq_true]; exact .inl ⟨rfl, decide_eq_true (by simp only [List.length_cons, cntL, List.getD_cons_succ, List.getD_cons_zero]; omega)⟩]
        exact hbad _
    | ⟨k + 18, hlt⟩, _, _ => omega
end AX
end Go.Proofs.YtfbicbgdfcbhpaaGreatDoor
