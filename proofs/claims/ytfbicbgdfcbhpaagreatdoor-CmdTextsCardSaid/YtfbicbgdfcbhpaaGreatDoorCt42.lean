/-
  CmRef3, CmAwake.
-/
import Derived.Test.YtfbicbgdfcbhpaaGreatDoorCt41
import Derived.Test.YtfbicbgdfcbhpaaGreatDoorCt39
set_option maxRecDepth 20000
set_option linter.unusedVariables false
set_option linter.unusedSimpArgs false
set_option linter.unusedSectionVars false
namespace Go.Proofs.YtfbicbgdfcbhpaaGreatDoor
open SC CM AX
namespace CM
def partQ (c : S_api_Cmd) : List UInt8 → Int × S_api_Cmd
 | [] => (0, c)
 | x :: t => if x = 32 then paramsQ (spl 32 t) [] c else (501, c)
end CM
namespace AX
theorem rparams_core {call : CallF} {n : Nat} (hC : RParCalls call) (hn : 2000 ≤ n) (s : List UInt8) (hs : s.length ≤ 1000) (c : S_api_Cmd) :
 f75_L call n c s = gotV (gotQ (partQ c s)) := by
 rw [f75_L, f75_T]
 cases s with
 | nil => exact rparams_loop (n := n) hC hn [] hs z06 n 0 [] [] c (by simp) (by simp; omega) (by simp) (.inl ⟨rfl, rfl⟩)
 | cons x t =>
  by_cases hx : x = 32
  · subst hx
    exact rparams_loop (n := n) hC hn (32 :: t) hs z06 n 0 [] (spl 32 t) c (by simp) (by omega) (by simp) (.inr ⟨t, rfl, rfl⟩)
  · obtain ⟨k, rfl⟩ : ∃ k, n = k + 1 := ⟨n - 1, by omega⟩
    rw [show partQ c (x :: t) = (501, c) by simp only [partQ, hx, if_false], f75_L3, f75_T3, decide_eq_true (by simp), cond_true, item_some (i := (0 : Int)) (j := 0) (a := x) rfl rfl, show (32 : Int) = ((32 : UInt8).toNat : Int) by rfl, byte_ne, decide_eq_false hx, Bool.not_false, cond_true]
    rfl
theorem pRRead_at {l : List UInt8} {null : Bool} (hl : l.length ≤ 100000000) : pRRead [.one (.str l), .one (.bool null)] = some (.agg (⟨(areadV l null).1, (areadV l null).2.1, (areadV l null).2.2.1, (areadV l null).2.2.2⟩ : S_ref05_Got).cells) := by
 show (bif decide (l.length ≤ 100000000) then _ else none) = _
 rw [decide_eq_true hl]; rfl
theorem pRDomain_at {l : List UInt8} (hl : l.length ≤ 100000000) : pRDomain [.one (.str l)] = some (.one (.bool (domainB l))) := pADomain_at hl
theorem rpath_core {call : CallF} {n : Nat} (c : S_api_Cmd) (r front : List UInt8) (hl : r.length ≤ 1000) (hf : front.length ≤ 1000)
 (hu : ∀ l : List UInt8, l.length ≤ 1000 → call 45 [.one (.str l)] [] = some (.one (.str (upL l)), []))
 (hq : ∀ (s : List UInt8) (c : S_api_Cmd), s.length ≤ 1000 → call 75 [.agg c.cells, .one (.str s)] [] = gotV (gotQ (partQ c s))) :
 f41_L call n c r front = gotV (gotQ (pathQ c r front (c.fVerb == 4))) := by
 rw [f41_L, f41_T]
 unfold pathQ
 by_cases h1 : r.length < front.length
 · rw [if_pos (.inl h1), decide_eq_true (by omega), cond_true]; rfl
 · rw [decide_eq_false (by omega), cond_false, decide_eq_true (by omega), cond_true, Int.toNat_natCast, List.drop_zero, callK_some (hu _ (by rw [List.length_take]; omega)), oS_one, f41_L2, f41_T2]
   by_cases h2 : upL (r.take front.length) = front
   · rw [if_neg (by rintro (h | h); exact h1 h; exact h h2), show (upL (r.take front.length) == front) = true by simpa using h2, Bool.not_true, cond_false, decide_eq_true (by omega), cond_true, List.take_length, Int.toNat_natCast]
     have hle := @aread_le (r.drop front.length) (c.fVerb == 4)
     have hlen : (r.drop front.length).length = r.length - front.length := by simp
     have hsub : ∀ k, (r.drop front.length).drop k = r.drop (front.length + k) := fun k => by rw [List.drop_drop]
     generalize r.drop front.length = s at hle hlen hsub ⊢
     rw [primK_some (pRRead_at (by omega)), castAgg_agg, takeS_ref05_Got_cells_nil, nilK_nil]
     by_cases h3 : (areadV s (c.fVerb == 4)).2.2.2 = 0
     · obtain ⟨g1, g2⟩ := hle h3
       rw [if_neg (fun h => h h3), hsub]
       have hnull : ∀ (a d : List UInt8), (bif (a == ([] : List UInt8)) then f41_L10 call n r (front.length : Int) ({ c with fPath_Local := a, fPath_Domain := d, fNull := (d == ([] : List UInt8)) } : S_api_Cmd) z06 ⟨(areadV s (c.fVerb == 4)).1, (areadV s (c.fVerb == 4)).2.1, (areadV s (c.fVerb == 4)).2.2.1, (areadV s (c.fVerb == 4)).2.2.2⟩
        else f41_L10 call n r (front.length : Int) ({ c with fPath_Local := a, fPath_Domain := d, fNull := false } : S_api_Cmd) z06 ⟨(areadV s (c.fVerb == 4)).1, (areadV s (c.fVerb == 4)).2.1, (areadV s (c.fVerb == 4)).2.2.1, (areadV s (c.fVerb == 4)).2.2.2⟩) =
        f41_L10 call n r (front.length : Int) ({ c with fPath_Local := a, fPath_Domain := d, fNull := (a == [] && d == []) } : S_api_Cmd) z06 ⟨(areadV s (c.fVerb == 4)).1, (areadV s (c.fVerb == 4)).2.1, (areadV s (c.fVerb == 4)).2.2.1, (areadV s (c.fVerb == 4)).2.2.2⟩ := fun a d => by
        cases (a == ([] : List UInt8)) <;> rfl
       show (bif ((areadV s (c.fVerb == 4)).2.2.2 != 0) then _ else _) = _
       rw [h3, show ((0 : Int) != 0) = false by rfl, cond_false]
       rw [h3] at hnull
       refine (hnull _ _).trans ?_
       obtain ⟨k, hk⟩ : ∃ k : Nat, (areadV s (c.fVerb == 4)).2.2.1 = k := ⟨(areadV s (c.fVerb == 4)).2.2.1.toNat, by omega⟩
       rw [hk] at g2 ⊢
       rw [Int.toNat_natCast] at g2 ⊢
       rw [f41_L10, f41_T10]
       simp only []
       rw [wrap_ok (by omega) (by omega), show ((front.length : Int) + (k : Int)) = ((front.length + k : Nat) : Int) by omega, decide_eq_true (by omega), cond_true, List.take_length, Int.toNat_natCast,
        callK_some (hq _ _ (by rw [List.length_drop]; omega)), castAgg_agg, takeS_ref06_Got_cells_nil, nilK_nil]
       show gotV _ = gotV _
       congr 1
     · rw [if_pos h3]
       show (bif ((areadV s (c.fVerb == 4)).2.2.2 != 0) then _ else _) = _
       rw [show ((areadV s (c.fVerb == 4)).2.2.2 != 0) = true by simpa using h3, cond_true]
       rfl
   · rw [if_pos (.inr h2), show (upL (r.take front.length) == front) = false by simpa using h2, Bool.not_false, cond_true]; rfl
structure RLineCalls (call : CallF) : Prop where
 verb : ∀ l : List UInt8, l.length ≤ 1000 → call 17 [.one (.str l)] [] = some (.one (.int .i64 (verbQ l : Nat)), [])
 find : ∀ (l : List UInt8) (i : Nat) (c : UInt8), l.length ≤ 1000 → i ≤ l.length → call 38 [.one (.str l), .one (.int .i64 (i : Int)), .one (.int .u8 (c.toNat : Int))] [] = some (.one (.int .i64 (i + idx c (l.drop i) : Nat)), [])
 literal : ∀ l : List UInt8, l.length ≤ 1000 → printL l = true → call 40 [.one (.str l)] [] = some (.one (.bool (literalB l)), [])
 path : ∀ (c : S_api_Cmd) (r front : List UInt8), r.length ≤ 1000 → front.length ≤ 1000 →
  call 41 [.agg c.cells, .one (.str r), .one (.str front)] [] = gotV (gotQ (pathQ c r front (c.fVerb == 4)))
def lineG (x : S_api_Cmd × Int) : Option (AV × Heap) := gotV ⟨x.1, x.2⟩
theorem rline_rest {call : CallF} {n : Nat} (hC : RLineCalls call) (l : List UInt8) (hl : l.length ≤ 510) (hp : printL l = true) (k : Nat) (r : List UInt8) (b : Bool) (v : Nat) (hlt : v < 12) (hr : r.length ≤ 1000) (hpr : printL r = true) (hb : b = decide (k < l.length)) :
 f15_L18 call n l (k : Int) r (v : Int) ((v : Int) == (0 : Int)) z06 ⟨v, [], [], [], false, -1, 0⟩ = lineG (endQ (restQ v r b)) := by
 have hdom : ∀ v : Int, f15_L21 call n true l (k : Int) r v z06 ⟨v, [], [], [], false, -1, 0⟩ = lineG (endQ (need (domainB r || literalB r), ⟨v, r, [], [], false, -1, 0⟩)) := fun v => by
  rw [f15_L21, f15_T21, cond_true, primK_some (pRDomain_at (by omega)), oB_one]
  cases domainB r with
  | true => rfl
  | false =>
   rw [Bool.not_false, cond_true, callK_some (hC.literal r hr hpr), oB_one]
   cases literalB r <;> rfl
 have hpath : ∀ (c : S_api_Cmd) (front : List UInt8) (K : S_ref06_Got → OR) (x : S_ref06_Got → OR), front.length ≤ 1000 → (∀ w, K w = gotV w) → (callK call 41 [.agg c.cells, .one (.str r), .one (.str front)] fun v1 =>
  castAgg v1 fun r2 => takeS_ref06_Got r2 fun w3 r4 => nilK r4 (K w3)) = gotV (gotQ (pathQ c r front (c.fVerb == 4))) := fun c front K x hf hK => by
  rw [callK_some (hC.path c r front hr hf), castAgg_agg, takeS_ref06_Got_cells_nil, nilK_nil, hK]
 have hno : ∀ (v : Int), f15_L36 call n (decide ((k : Int) < (l.length : Int))) z06 ⟨v, [], [], [], false, -1, 0⟩ = lineG (endQ (need (!b), ⟨v, [], [], [], false, -1, 0⟩)) := fun v => by
  rw [hb]
  by_cases h : k < l.length
  · rw [decide_eq_true (by omega), decide_eq_true h]; rfl
  · rw [decide_eq_false (by omega), decide_eq_false h]; rfl
 have cases12 : v = 0 ∨ v = 1 ∨ v = 2 ∨ v = 3 ∨ v = 4 ∨ v = 5 ∨ v = 6 ∨ v = 7 ∨ v = 8 ∨ v = 9 ∨ v = 10 ∨ v = 11 := by omega
 clear hlt
 rcases cases12 with rfl | rfl | rfl | rfl | rfl | rfl | rfl | rfl | rfl | rfl | rfl | rfl
 · rfl
 · exact hdom 1
 · exact hdom 2
 · exact hdom 3
 · exact hpath ⟨4, [], [], [], false, -1, 0⟩ [70, 82, 79, 77, 58] (f15_L28 call n) gotV (by decide) (fun _ => rfl)
 · exact hpath ⟨5, [], [], [], false, -1, 0⟩ [84, 79, 58] (f15_L31 call n) gotV (by decide) (fun _ => rfl)
 · exact hno 6
 · exact hno 7
 · rfl
 · exact hno 9
 · cases r <;> rfl
 · rfl
theorem rparse_loop {call : CallF} {n : Nat} (hC : RLineCalls call) (l : List UInt8) (hl : l.length ≤ 510) : ∀ (m i : Nat), i ≤ l.length → l.length < i + m → printL (l.take i) = true →
 f15_L5 call n m l (i : Int) z06 = lineG (parseQ l)
 | 0, i, h1, h2, h3 => by omega
 | m + 1, i, h1, h2, h3 => by
  rw [f15_L5, f15_T5]
  by_cases h : i < l.length
  · have hc := printC_iff l[i]
    have hpt : printL (l.take (i + 1)) = printC l[i] := by
     rw [List.take_succ_eq_append_getElem h]
     unfold printL at h3 ⊢
     rw [List.all_append, h3]; simp
    rw [decide_eq_true (by omega), cond_true, item_at h, item_at h]
    simp only [f15_L12, f15_T12]
    have bad : printC l[i] = false → f15_L15 call n (f15_L5 call n m) (⟨(⟨(0 : Int), ([] : List UInt8), ([] : List UInt8), ([] : List UInt8), false, (0 : Int), (0 : Int)⟩ : S_api_Cmd), (500 : Int)⟩ : S_ref06_Got) = lineG (parseQ l) := fun hb => by
     unfold parseQ
     rw [if_pos (.inr (by
      cases hpl : printL l with
      | false => rfl
      | true =>
       have := List.all_eq_true.1 hpl l[i] (List.getElem_mem h)
       rw [hb] at this; cases this))]
     rfl
    cases hb : printC l[i] with
    | true =>
     rw [hb] at hc hpt; simp only [true_iff] at hc
     rw [decide_eq_false (by omega), cond_false, decide_eq_false (by omega), cond_false, wrap_ok (by omega) (by omega), show ((i : Int) + 1) = ((i + 1 : Nat) : Int) by omega]
     exact rparse_loop hC l hl m (i + 1) (by omega) (by omega) hpt
    | false =>
     rw [hb] at hc; simp only [Bool.false_eq_true, false_iff] at hc
     by_cases h4 : l[i].toNat < 32
     · rw [decide_eq_true (by omega), cond_true, cond_true]; exact bad hb
     · rw [decide_eq_false (by omega), cond_false, decide_eq_true (by omega), cond_true]; exact bad hb
  · rw [List.take_of_length_le (by omega)] at h3
    unfold parseQ
    rw [if_neg (by rintro (h | h); omega; rw [h3] at h; cases h)]
    obtain ⟨s1, s2, s3, s4⟩ := cut_sub 32 l
    have hpr := printL_sub h3 s2
    have hci := cut_idx 32 l
    have hile := idx_le 32 l
    rw [decide_eq_false (by omega), cond_false, show (0 : Int) = ((0 : Nat) : Int) by rfl, show (32 : Int) = ((32 : UInt8).toNat : Int) by rfl, callK_some (hC.find l 0 32 (by omega) (by omega)), oI_one, List.drop_zero, Nat.zero_add]
    rw [hci] at s4 hpr ⊢
    simp only [] at s4 hpr ⊢
    have go : ∀ r : List UInt8, r = l.drop (idx 32 l + 1) → f15_L14 call n l ((idx 32 l : Nat) : Int) r z06 = lineG (endQ (restQ (verbQ (l.take (idx 32 l))) (l.drop (idx 32 l + 1)) (decide (idx 32 l < l.length)))) := fun r hr => by
     subst hr
     rw [f15_L14, f15_T14, decide_eq_true (by omega), cond_true, Int.toNat_natCast, List.drop_zero, callK_some (hC.verb _ (by rw [List.length_take]; omega)), oI_one, f15_L16, f15_T16, f15_L17, f15_T17]
     exact rline_rest hC l hl h3 _ _ _ _ (verbQ_lt _) (by rw [List.length_drop]; omega) hpr rfl
    by_cases hlt : idx 32 l < l.length
    · rw [decide_eq_true (by omega), cond_true, wrap_ok (by omega) (by omega), show (((idx 32 l : Nat) : Int) + 1) = ((idx 32 l + 1 : Nat) : Int) by omega, decide_eq_true (by omega), cond_true, List.take_length, Int.toNat_natCast]
      exact go _ rfl
    · rw [decide_eq_false (by omega), cond_false]
      exact go _ (by rw [List.drop_of_length_le (by omega)])
theorem rparse_core {call : CallF} {n : Nat} (hn : 2000 ≤ n) (hC : RLineCalls call) (l : List UInt8) : f15_L call n l = lineG (parseQ l) := by
 rw [f15_L, f15_T]
 by_cases h : 510 < l.length
 · unfold parseQ
   rw [if_pos (.inl h), decide_eq_true (by omega)]; rfl
 · rw [decide_eq_false (by omega), cond_false]
   exact rparse_loop hC l (by omega) n 0 (by omega) (by omega) rfl
theorem rParse_at (n : Nat) (l : List UInt8) (hn : 5000 ≤ n) : acall AXE AXF (n + 1) 15 [.one (.str l)] [] = lineG (parseQ l) := by
 rw [f15_eq]
 obtain ⟨k, rfl⟩ : ∃ k, n = k + 1 := ⟨n - 1, by omega⟩
 refine rparse_core (by omega) ⟨fun l hl => rVerb_at k l (by omega) (by omega), fun l i c hl hi => find_at k l i c hi (by omega) (by omega), fun l hl hp => rliteral_at k l hp (by omega) (by omega), fun c r front hl hf => ?_⟩ l
 rw [f41_eq]
 obtain ⟨j, rfl⟩ : ∃ j, k = j + 1 := ⟨k - 1, by omega⟩
 refine rpath_core c r front hl hf (fun l hl => rupper_at j l (by omega) (by omega)) fun s c hs => ?_
 rw [f75_eq]
 obtain ⟨i, rfl⟩ : ∃ i, j = i + 1 := ⟨j - 1, by omega⟩
 refine rparams_core (n := i + 1 + 1) ⟨fun l hl => rupper_at i l (by omega) (by omega), fun l hl => named_at i l (by omega) (by omega), fun l p c hl hp => find_at i l p c hp (by omega) (by omega), fun l hl => ?_⟩ (by omega) s hs c
 rw [f107_eq]
 exact size_core (by omega) l hl
end AX
end Go.Proofs.YtfbicbgdfcbhpaaGreatDoor
set_option maxRecDepth 20000
set_option linter.unusedVariables false
set_option linter.unusedSimpArgs false
set_option linter.unusedSectionVars false
namespace Go.Proofs.YtfbicbgdfcbhpaaGreatDoor
open SC CM
namespace AX
theorem aw1 : (parseQ [109, 97, 105, 108, 32, 102, 114, 111, 109, 58, 60, 97, 64, 120, 62, 32, 115, 105, 122, 101, 61, 53]) = (⟨4, [], [97], [120], false, 5, 0⟩, 0) := by kernel_rfl
theorem aw2 : (parseQ [77, 65, 73, 76, 32, 70, 82, 79, 77, 58, 32, 60, 97, 64, 120, 62]).2 = 501 := by kernel_rfl
theorem aw3 : (parseQ [82, 67, 80, 84, 32, 84, 79, 58, 60, 97, 64, 120, 62, 32, 88]).2 = 555 := by kernel_rfl
theorem aw4 : (parseQ [70, 79, 79]).2 = 500 := by kernel_rfl
theorem awake_at (n : Nat) (hn : 6000 ≤ n) : acall AXE AXF (n + 1) 13 [] [] = some (.one (.bool true), []) := by
 rw [f13_eq]
 obtain ⟨k, rfl⟩ : ∃ k, n = k + 1 := ⟨n - 1, by omega⟩
 have h := fun l => Parse_at k l (by omega)
 have a1 := h [109, 97, 105, 108, 32, 102, 114, 111, 109, 58, 60, 97, 64, 120, 62, 32, 115, 105, 122, 101, 61, 53]
 have a2 := h [77, 65, 73, 76, 32, 70, 82, 79, 77, 58, 32, 60, 97, 64, 120, 62]
 have a3 := h [82, 67, 80, 84, 32, 84, 79, 58, 60, 97, 64, 120, 62, 32, 88]
 have a4 := h [70, 79, 79]
 unfold lineV at a1 a2 a3 a4
 rw [aw1] at a1
 rw [aw2] at a2
 rw [aw3] at a3
 rw [aw4] at a4
 rw [f13_L, f13_T]
 rw [callK_some a1, castTup_tup, consK_cons, aggV_agg, takeS_api_Cmd_cells_nil, nilK_nil, zI_cons, nilK_nil,
  callK_some a2, castTup_tup, consK_cons, aggV_agg, takeS_api_Cmd_cells_nil, nilK_nil, zI_cons, nilK_nil,
  callK_some a3, castTup_tup, consK_cons, aggV_agg, takeS_api_Cmd_cells_nil, nilK_nil, zI_cons, nilK_nil,
  callK_some a4, castTup_tup, consK_cons, aggV_agg, takeS_api_Cmd_cells_nil, nilK_nil, zI_cons, nilK_nil]
 rfl
end AX
end Go.Proofs.YtfbicbgdfcbhpaaGreatDoor
