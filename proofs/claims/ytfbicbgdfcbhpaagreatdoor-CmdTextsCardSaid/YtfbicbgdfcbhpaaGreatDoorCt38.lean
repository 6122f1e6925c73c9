/-
  CmPar.
-/
import Derived.Test.YtfbicbgdfcbhpaaGreatDoorCt37
set_option maxRecDepth 20000
set_option linter.unusedVariables false
set_option linter.unusedSimpArgs false
set_option linter.unusedSectionVars false
namespace Go.Proofs.YtfbicbgdfcbhpaaGreatDoor
open SC CM
namespace AX
theorem pParseU_at {l : List UInt8} (hl : l.length ≤ 100000000) : pParseU [.one (.str l), .one (.int .i64 10), .one (.int .i64 64)] = some (.tup [.one (.int .u64 ((uintV l).1 : Int)), .one (.err (uintV l).2)]) := by
 show (bif decide (l.length ≤ 100000000) then some (AV.tup [.one (.int .u64 ((uintV l).1 : Int)), .one (.err (uintV l).2)]) else none) = _
 rw [decide_eq_true hl]; rfl
theorem param_core {call : CallF} {n : Nat} (c : S_api_Cmd) (nm v : List UInt8) (hl : v.length ≤ 1000) (hu : call 42 [.one (.str v)] [] = some (.one (.str (upL v)), []))
 (hn : ∀ b, call 34 [.one (.bool b)] [] = some (.one (.int .i64 (need b)), [])) : f101_L call n c nm v = some (.one (.int .i64 (parQ c nm v).1), [(parQ c nm v).2.cells]) := by
 simp only [f101_T13, f101_L13, f101_T9, f101_L9, f101_T, f101_L]
 unfold parQ
 by_cases h1 : nm = [83, 73, 90, 69]
 · subst h1
   rw [if_pos rfl, beq_self_eq_true, cond_true, primK_some (pParseU_at (by omega)), castTup_tup, zI_cons, zE_cons, nilK_nil]
   unfold sizeQ
   cases hb : (uintV v).2 with
   | true => rw [if_pos (.inl rfl), cond_true, cond_true]
   | false =>
    rw [cond_false]
    by_cases h20 : 20 < v.length
    · rw [if_pos (.inr (.inl h20)), decide_eq_true (by omega), cond_true, cond_true]
    · rw [decide_eq_false (by omega), cond_false]
      by_cases hbig : 9007199254740992 < (uintV v).1
      · rw [if_pos (.inr (.inr hbig)), decide_eq_true (by omega), cond_true]
      · rw [if_neg (by rintro (h | h | h); cases h; exact h20 h; exact hbig h), decide_eq_false (by omega), cond_false, wrap_ok (by omega) (by omega)]
 · rw [if_neg h1, show (nm == [83, 73, 90, 69]) = false by simpa using h1, cond_false]
   by_cases h2 : nm = [66, 79, 68, 89]
   · subst h2
     rw [if_pos rfl, beq_self_eq_true, cond_true]
     show callK call 42 [.one (.str v)] (fun v28 => oS v28 fun s29 => lookK (.str s29) [(.str [55, 66, 73, 84], .int .i64 7, 0), (.str [56, 66, 73, 84, 77, 73, 77, 69], .int .i64 8, 1)] (.int .i64 (0 : Int)) fun c30 t31 => _) = _
     rw [callK_some hu, oS_one]
     unfold lookK bodyQ
     simp only [findE, keyEq]
     by_cases h7 : upL v = [55, 66, 73, 84]
     · simp only [h7, beq_self_eq_true, if_true, castI_one]
       rw [decide_eq_true (by decide), callK_some (hn true), oI_one]; rfl
     · rw [if_neg h7, show (upL v == ([55, 66, 73, 84] : List UInt8)) = false by simpa using h7]
       by_cases h8 : upL v = [56, 66, 73, 84, 77, 73, 77, 69]
       · simp only [h8, beq_self_eq_true, if_true, castI_one]
         rw [decide_eq_true (by decide), callK_some (hn true), oI_one]; rfl
       · rw [if_neg h8, show (upL v == ([56, 66, 73, 84, 77, 73, 77, 69] : List UInt8)) = false by simpa using h8]
         simp only [castI_one]
         rw [decide_eq_false (by decide), callK_some (hn false), oI_one]; rfl
   · rw [if_neg h2, show (nm == [66, 79, 68, 89]) = false by simpa using h2, cond_false]
def mkS : List (List UInt8) → Nat → List (Cell × Cell × Nat)
 | [], _ => []
 | s :: r, k => (.str s, .int .i64 1, k) :: mkS r (k + 1)
theorem mkS_snoc (nm : List UInt8) : ∀ (r : List (List UInt8)) (k : Nat), mkS (r ++ [nm]) k = mkS r k ++ [(.str nm, .int .i64 1, k + r.length)]
 | [], k => rfl
 | s :: r, k => by
  show _ :: mkS (r ++ [nm]) (k + 1) = _ :: (mkS r (k + 1) ++ _)
  rw [mkS_snoc nm r (k + 1), show k + 1 + r.length = k + (s :: r).length by simp; omega]
theorem find_in {nm : List UInt8} : ∀ {r : List (List UInt8)} (k i : Nat), nm ∈ r → ∃ j, findE (.str nm) (mkS r k) i = some (some (j, .int .i64 1))
 | [], k, i, h => by cases h
 | s :: r, k, i, h => by
  simp only [mkS, findE, keyEq]
  by_cases e : nm = s
  · rw [e, beq_self_eq_true]; exact ⟨i, rfl⟩
  · rw [show (nm == s) = false by simpa using e]
    exact find_in (k + 1) (i + 1) (by rcases List.mem_cons.1 h with h | h; exact absurd h e; exact h)
theorem find_out {nm : List UInt8} : ∀ {r : List (List UInt8)} (k i : Nat), nm ∉ r → findE (.str nm) (mkS r k) i = some none
 | [], k, i, h => rfl
 | s :: r, k, i, h => by
  simp only [mkS, findE, keyEq]
  rw [show (nm == s) = false by simpa using fun e => h (by rw [e]; exact List.mem_cons_self)]
  exact find_out (k + 1) (i + 1) fun hm => h (List.mem_cons_of_mem _ hm)
theorem look_in {nm : List UInt8} {r : List (List UInt8)} (h : nm ∈ r) {k : Cell → Bool → OR} : lookK (.str nm) (mkS r 0) (.int .i64 (0 : Int)) k = k (.int .i64 1) true := by
 obtain ⟨j, e⟩ := find_in 0 0 h
 unfold lookK; rw [e]
theorem look_out {nm : List UInt8} {r : List (List UInt8)} (h : nm ∉ r) {k : Cell → Bool → OR} : lookK (.str nm) (mkS r 0) (.int .i64 (0 : Int)) k = k (.int .i64 0) false := by
 unfold lookK; rw [find_out 0 0 h]
theorem upd_out {nm : List UInt8} {r : List (List UInt8)} (h : nm ∉ r) {k : Nat → List (Cell × Cell × Nat) → OR} : updK (.str nm) (.int .i64 (IntKind.wrap .i64 ((0 : Int) + 1))) r.length (mkS r 0) k = k (r ++ [nm]).length (mkS (r ++ [nm]) 0) := by
 unfold updK; rw [find_out 0 0 h, mkS_snoc]; simp [wrap_ok]
theorem cut_sub (c : UInt8) (l : List UInt8) : (∀ x ∈ (Lib.cut l [c]).1, x ∈ l) ∧ (∀ x ∈ (Lib.cut l [c]).2.1, x ∈ l) ∧ (Lib.cut l [c]).1.length ≤ l.length ∧ (Lib.cut l [c]).2.1.length ≤ l.length := by
 rcases hit_cases c l with h | ⟨a, b, rfl, h⟩
 · rw [cut_no h]; exact ⟨fun x hx => hx, fun x hx => (by cases hx), Nat.le_refl _, Nat.zero_le _⟩
 · rw [cut_hit a b h]; exact ⟨fun x (hx : x ∈ a) => (by simp [hx]), fun x (hx : x ∈ b) => (by simp [hx]), (by simp), (by simp; omega)⟩
structure ParCalls (call : CallF) : Prop where
 upper : ∀ l : List UInt8, l.length ≤ 1000 → call 42 [.one (.str l)] [] = some (.one (.str (upL l)), [])
 name : ∀ l : List UInt8, l.length ≤ 1000 → call 99 [.one (.str l)] [] = some (.one (.bool (nameB l)), [])
 value : ∀ l : List UInt8, l.length ≤ 1000 → printL l = true → call 100 [.one (.str l)] [] = some (.one (.bool (valueB l)), [])
 param : ∀ (c : S_api_Cmd) (nm v : List UInt8), v.length ≤ 1000 → call 101 [.one (.ptr 0 0), .one (.str nm), .one (.str v)] [c.cells] = some (.one (.int .i64 (parQ c nm v).1), [(parQ c nm v).2.cells])
theorem pCut_at {l : List UInt8} {c : UInt8} (hl : l.length ≤ 100000000) : pCut [.one (.str l), .one (.str [c])] = some (.tup [.one (.str (Lib.cut l [c]).1), .one (.str (Lib.cut l [c]).2.1), .one (.bool (Lib.cut l [c]).2.2)]) := by
 show (bif decide (l.length ≤ 100000000) then _ else none) = _
 rw [decide_eq_true hl]; rfl
theorem params_loop {call : CallF} {n : Nat} (hC : ParCalls call) (ps : List (List UInt8)) (hp : ∀ p ∈ ps, printL p = true ∧ p.length ≤ 1000) (hl : ps.length ≤ 1000000) : ∀ (m i : Nat) (c : S_api_Cmd) (seen : List (List UInt8)), i ≤ ps.length → ps.length < i + m →
 f72_L3 call n m (ps.map .str) (ps.length : Int) (i : Int) c seen.length (mkS seen 0) = some (.one (.int .i64 (paramsQ (ps.drop i) seen c).1), [(paramsQ (ps.drop i) seen c).2.cells])
 | 0, i, c, seen, h1, h2 => by omega
 | m + 1, i, c, seen, h1, h2 => by
  have ih := params_loop (call := call) (n := n) hC ps hp hl m (i + 1)
  rw [f72_L3, f72_T3]
  by_cases h : i < ps.length
  · obtain ⟨hpr, hpl⟩ := hp _ (List.getElem_mem h)
    obtain ⟨s1, s2, s3, s4⟩ := cut_sub 61 ps[i]
    rw [decide_eq_true (by omega), cond_true, strs_item h, castS_one, primK_some (pCut_at (by omega)), castTup_tup, zS_cons, zS_cons, zB_cons, nilK_nil, List.drop_eq_getElem_cons h, paramsQ]
    rw [callK_some (hC.upper _ (by omega)), oS_one, callK_some (hC.name _ (by unfold upL; rw [List.length_map]; omega)), oB_one]
    generalize hnm : upL (Lib.cut ps[i] [61]).1 = nm
    have hval := hC.value _ (show (Lib.cut ps[i] [61]).2.1.length ≤ 1000 by omega) (printL_sub hpr s2)
    have hpar := fun c => hC.param c nm _ (show (Lib.cut ps[i] [61]).2.1.length ≤ 1000 by omega)
    have hvl : (Lib.cut ps[i] [61]).2.1.length ≤ 1000 := by omega
    generalize (Lib.cut ps[i] [61]).2.1 = v at hval hpar hvl ⊢
    generalize (Lib.cut ps[i] [61]).2.2 = has
    -- behind the tests
    have no : ∀ c', f72_L11 call n (f72_L3 call n m) nm v (ps.map .str) (ps.length : Int) (i : Int) true c' seen.length (mkS seen 0) = some (.one (.int .i64 501), [c'.cells]) := fun c' => by
     simp only [f72_L11, f72_T11, f72_L18, f72_T18, cond_true]
    have yes : nm ∉ seen → f72_L11 call n (f72_L3 call n m) nm v (ps.map .str) (ps.length : Int) (i : Int) false c seen.length (mkS seen 0) =
     some (.one (.int .i64 (if c.fVerb = 4 then (if (parQ c nm v).1 = 0 then paramsQ (ps.drop (i + 1)) (seen ++ [nm]) (parQ c nm v).2 else parQ c nm v) else (555, c)).1), [(if c.fVerb = 4 then (if (parQ c nm v).1 = 0 then paramsQ (ps.drop (i + 1)) (seen ++ [nm]) (parQ c nm v).2 else parQ c nm v) else (555, c)).2.cells]) := fun hs => by
     rw [f72_L11, f72_T11, cond_false, look_out hs, castI_one, upd_out hs]
     by_cases h4 : c.fVerb = 4
     · rw [if_pos h4, show (c.fVerb == 4) = true by simpa using h4, cond_true, callRK_some (hpar c), consK_cons, takeS_api_Cmd_cells_nil, nilK_nil, nilK_nil, oI_one]
       by_cases hz : (parQ c nm v).1 = 0
       · rw [if_pos hz, hz, show ((0 : Int) != 0) = false by rfl, f72_L19, f72_T19, cond_false, f72_L21, f72_T21, wrap_ok (by omega) (by omega), show ((i : Int) + 1) = ((i + 1 : Nat) : Int) by omega]
         exact ih _ _ (by omega) (by omega)
       · rw [if_neg hz, show ((parQ c nm v).1 != 0) = true by simpa using hz, f72_L19, f72_T19, cond_true, f72_L20, f72_T20]
     · rw [if_neg h4, show (c.fVerb == 4) = false by simpa using h4, cond_false, f72_L19, f72_T19, cond_true, f72_L20, f72_T20]
    have look : (lookK (.str nm) (mkS seen 0) (.int .i64 (0 : Int)) fun c17 t18 => castI .i64 c17 fun n19 => f72_L11 call n (f72_L3 call n m) nm v (ps.map .str) (ps.length : Int) (i : Int) (decide (n19 > (0 : Int))) c seen.length (mkS seen 0)) =
     if nm ∈ seen then some (.one (.int .i64 501), [c.cells]) else f72_L11 call n (f72_L3 call n m) nm v (ps.map .str) (ps.length : Int) (i : Int) false c seen.length (mkS seen 0) := by
     by_cases hs : nm ∈ seen
     · rw [look_in hs, castI_one, if_pos hs, decide_eq_true (by decide)]; exact no c
     · rw [look_out hs, castI_one, if_neg hs, decide_eq_false (by decide)]
    cases hb : nameB nm with
    | false => rw [Bool.not_false, cond_true, if_pos (.inl rfl)]; exact no c
    | true =>
     rw [Bool.not_true, cond_false]
     cases has with
     | false =>
      rw [cond_false, look]
      by_cases hs : nm ∈ seen
      · rw [if_pos hs, if_pos (.inr (.inr hs))]
      · rw [if_neg hs, if_neg (by rintro (h | h | h); cases h; cases h.1; exact hs h)]; exact yes hs
     | true =>
      rw [cond_true, callK_some hval, oB_one]
      cases hv : valueB v with
      | false => rw [Bool.not_false, cond_true, if_pos (.inr (.inl ⟨rfl, rfl⟩))]; exact no c
      | true =>
       rw [Bool.not_true, cond_false, look]
       by_cases hs : nm ∈ seen
       · rw [if_pos hs, if_pos (.inr (.inr hs))]
       · rw [if_neg hs, if_neg (by rintro (h | h | h); cases h; cases h.2; exact hs h)]; exact yes hs
  · rw [decide_eq_false (by omega), cond_false, List.drop_of_length_le (by omega)]; rfl
theorem params_core {call : CallF} {n : Nat} (hC : ParCalls call) (c : S_api_Cmd) (ps : List (List UInt8)) (hp : ∀ p ∈ ps, printL p = true ∧ p.length ≤ 1000) (hl : ps.length < n) (hn : ps.length ≤ 1000000) :
 f72_L call n c (ps.map .str) = some (.one (.int .i64 (paramsQ ps [] c).1), [(paramsQ ps [] c).2.cells]) := by
 rw [f72_L, f72_T, List.length_map, Nat.div_one]
 exact params_loop hC ps hp hn n 0 c [] (by omega) (by omega)
theorem aread_le {l : List UInt8} {null : Bool} (h : (areadV l null).2.2.2 = 0) : 0 ≤ (areadV l null).2.2.1 ∧ (areadV l null).2.2.1.toNat ≤ l.length := by
 unfold areadV readP at h ⊢
 rw [baOf_list] at h ⊢
 by_cases hn : nullB (baOf l) null = true
 · rw [if_pos hn]
   unfold nullB at hn
   rw [baOf_list, Bool.and_eq_true] at hn
   refine ⟨by show (0 : Int) ≤ 2; decide, ?_⟩
   show 2 ≤ l.length
   match l, hn.2 with
   | [], h => cases h
   | [a], h => simp [Lib.hasPrefix] at h
   | a :: b :: r, _ => simp
 · rw [if_neg hn] at h ⊢
   cases hp : pathP l with
   | none => rw [hp] at h; exact absurd (show (3 : Int) = 0 from h) (by decide)
   | some x =>
    obtain ⟨t, d, M, lg⟩ := x
    rw [hp] at h
    simp only [] at h ⊢
    by_cases hlg : lg = true
    · rw [if_pos hlg] at h; exact absurd (show (4 : Int) = 0 from h) (by decide)
    · rw [if_neg hlg]
      simp only []
      have hM : l.getD M 0 = 62 := by
       unfold pathP at hp
       split at hp
       · split at hp
         · cases hp
         · split at hp
           · cases hp
           · split at hp
             · rename_i he
               cases hp; exact he
             · cases hp
       · cases hp
      have : M < l.length := by
       rcases Nat.lt_or_ge M l.length with h | h
       · exact h
       · simp [List.getD, List.getElem?_eq_none h] at hM
      omega
theorem pARead_at {l : List UInt8} {null : Bool} (hl : l.length ≤ 100000000) : pARead [.one (.str l), .one (.bool null)] = some (.tup [.agg [.str (areadV l null).1, .str (areadV l null).2.1], .one (.int .i64 (areadV l null).2.2.1), .one (.int .i64 (areadV l null).2.2.2)]) := by
 show (bif decide (l.length ≤ 100000000) then _ else none) = _
 rw [decide_eq_true hl]; rfl
theorem pADomain_at {l : List UInt8} (hl : l.length ≤ 100000000) : pADomain [.one (.str l)] = some (.one (.bool (domainB l))) := by
 show (bif decide (l.length ≤ 100000000) then _ else none) = _
 rw [decide_eq_true hl]; rfl
theorem pSplit_at {l : List UInt8} {c : UInt8} (hl : l.length ≤ 100000000) : pSplit [.one (.str l), .one (.str [c])] = some (.one (.sl none 1 ((spl c l).map .str))) := by
 show (bif decide (l.length ≤ 100000000) then _ else none) = _
 rw [decide_eq_true hl, split_eq c l.length l (Nat.le_refl _)]; rfl
theorem spl_sub {c : UInt8} : ∀ {l p : List UInt8}, p ∈ spl c l → (∀ x ∈ p, x ∈ l) ∧ p.length ≤ l.length
 | [], p, h => by simp [spl] at h; subst h; simp
 | y :: r, p, h => by
  have ih := @spl_sub c r
  unfold spl at h
  split at h
  · rcases List.mem_cons.1 h with rfl | h
    · simp
    · exact ⟨fun x hx => List.mem_cons_of_mem _ ((ih h).1 x hx), by have := (ih h).2; simp; omega⟩
  · split at h
    · rename_i h0 t0 e
      rcases List.mem_cons.1 h with rfl | h
      · have := ih (p := h0) (by rw [e]; simp)
        refine ⟨fun x hx => ?_, by have := this.2; simp; omega⟩
        rcases List.mem_cons.1 hx with rfl | hx
        · simp
        · exact List.mem_cons_of_mem _ (this.1 x hx)
      · have := ih (p := p) (by rw [e]; exact List.mem_cons_of_mem _ h)
        exact ⟨fun x hx => List.mem_cons_of_mem _ (this.1 x hx), by have := this.2; simp; omega⟩
    · rename_i e; exact absurd e (spl_ne c r)
theorem spl_count (c : UInt8) : ∀ l : List UInt8, (spl c l).length ≤ l.length + 1
 | [] => by simp [spl]
 | y :: r => by
  have ih := spl_count c r
  unfold spl
  split
  · simp; omega
  · split
    · rename_i e; rw [e] at ih; simp at ih ⊢; omega
    · simp
theorem path_core {call : CallF} {n : Nat} (c : S_api_Cmd) (r front : List UInt8) (null : Bool) (hp : printL r = true) (hl : r.length ≤ 1000) (hf : front.length ≤ 1000)
 (hu : ∀ l : List UInt8, l.length ≤ 1000 → call 42 [.one (.str l)] [] = some (.one (.str (upL l)), []))
 (hq : ∀ (c : S_api_Cmd) (ps : List (List UInt8)), (∀ p ∈ ps, printL p = true ∧ p.length ≤ 1000) → ps.length ≤ 1001 → call 72 [.one (.ptr 0 0), .one (.sl none 1 (ps.map .str))] [c.cells] = some (.one (.int .i64 (paramsQ ps [] c).1), [(paramsQ ps [] c).2.cells])) :
 f37_L call n c r front null = some (.one (.int .i64 (pathQ c r front null).1), [(pathQ c r front null).2.cells]) := by
 simp only [f37_T17, f37_L17, f37_T1, f37_L1, f37_T, f37_L]
 unfold pathQ
 by_cases h1 : r.length < front.length
 · rw [if_pos (.inl h1), decide_eq_true (by omega), cond_true, cond_true]
 · rw [decide_eq_false (by omega), cond_false, decide_eq_true (by omega), cond_true, Int.toNat_natCast, List.drop_zero, callK_some (hu _ (by rw [List.length_take]; omega)), oS_one]
   by_cases h2 : upL (r.take front.length) = front
   · rw [if_neg (by rintro (h | h); exact h1 h; exact h h2), show (upL (r.take front.length) == front) = true by simpa using h2, Bool.not_true, cond_false, cond_true, List.take_length]
     have hle := @aread_le (r.drop front.length) null
     have hsub : ∀ x ∈ r.drop front.length, x ∈ r := fun x hx => List.mem_of_mem_drop hx
     have hlen : (r.drop front.length).length ≤ 1000 := by simp; omega
     generalize r.drop front.length = s at hle hsub hlen ⊢
     rw [primK_some (pARead_at (by omega)), castTup_tup, consK_cons, aggV_agg, cS_cons, cS_cons, nilK_nil, zI_cons, zI_cons, nilK_nil]
     by_cases h3 : (areadV s null).2.2.2 = 0
     · obtain ⟨g1, g2⟩ := hle h3
       rw [if_neg (fun h => h h3), h3, show ((0 : Int) != 0) = false by rfl, cond_false, decide_eq_true ⟨g1, g2⟩, cond_true, List.take_length]
       have hsub2 : ∀ x ∈ s.drop (areadV s null).2.2.1.toNat, x ∈ r := fun x hx => hsub x (List.mem_of_mem_drop hx)
       have hlen2 : (s.drop (areadV s null).2.2.1.toNat).length ≤ 1000 := by simp; omega
       generalize s.drop (areadV s null).2.2.1.toNat = t at hsub2 hlen2 ⊢
       generalize areadV s null = v
       cases t with
       | nil => simp
       | cons x t =>
        rw [show ((x :: t) == ([] : List UInt8)) = false by rfl, cond_false, item_some (i := (0 : Int)) (j := 0) (a := x) rfl rfl, show (32 : Int) = ((32 : UInt8).toNat : Int) by rfl, byte_ne]
        by_cases hx : x = 32
        · have hps : ∀ p ∈ spl 32 t, printL p = true ∧ p.length ≤ 1000 := fun p hm => by
           obtain ⟨k1, k2⟩ := spl_sub hm
           exact ⟨printL_sub hp fun y hy => hsub2 y (List.mem_cons_of_mem _ (k1 y hy)), by simp at hlen2; omega⟩
          have hct := spl_count 32 t
          rw [decide_eq_true hx, Bool.not_true, cond_false, decide_eq_true (by simp), cond_true, List.take_length, show Int.toNat 1 = 1 by rfl, List.drop_succ_cons, List.drop_zero,
           primK_some (pSplit_at (by simp at hlen2; omega)), oL_one, callRK_some (hq _ _ hps (by simp at hlen2; omega)), consK_cons, takeS_api_Cmd_cells_nil, nilK_nil, nilK_nil, oI_one]
          simp [hx]
        · rw [decide_eq_false hx, Bool.not_false, cond_true]
          simp [hx]
     · rw [if_pos h3, show ((areadV s null).2.2.2 != 0) = true by simpa using h3, cond_true]
   · rw [if_pos (.inr h2), show (upL (r.take front.length) == front) = false by simpa using h2, Bool.not_false, cond_true]
end AX
end Go.Proofs.YtfbicbgdfcbhpaaGreatDoor
