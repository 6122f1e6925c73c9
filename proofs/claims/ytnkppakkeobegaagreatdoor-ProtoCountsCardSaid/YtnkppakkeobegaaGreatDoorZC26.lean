/-
  PcMain.
-/
import Derived.Test.YtnkppakkeobegaaGreatDoorZC25
set_option maxRecDepth 20000
set_option linter.unusedVariables false
set_option linter.unusedSimpArgs false
set_option linter.unusedSectionVars false
namespace Go.Proofs.YtnkppakkeobegaaGreatDoor
namespace AX
def pcGA : Heap := [[(.bool .false), (.str [120, 46, 111, 114, 103]), (.own 5 1 []), (.bool .true), (.gptr 1 0), (.own 28 2 [(.str [97]), (.str [120])]), .nilp, (.int .i64 2), (.str []), (.str []), (.str []), (.str []), (.int .i64 (-1)), (.sl .none 2 [(.str [97]), (.str [120])]), (.sl .none 1 [(.int .u8 104), (.int .u8 105), (.int .u8 13), (.int .u8 10)]), (.int .i64 0), (.bool .false)], [(.str []), (.str []), (.int .i64 (-1))], [(.int .i64 32768), (.int .i64 5), (.int .i64 0), (.own 5 1 [(.int .u8 104), (.int .u8 105), (.int .u8 13), (.int .u8 10)]), (.bool .false), (.bool .false), (.bool .false)]]
theorem pc_awake : acall AXE AXF 1001000 7 [] [] = some (.one (.bool true), pcGA) := by kernel_rfl
theorem dom_host : acall AXE AXF 1000999 26 [.one (.str hostL)] [] = some (.one (.bool true), []) := by kernel_rfl
def ses0 (b : Bool) : Ses := ⟨b, [], false, .nilp, [], 0, [], [], [], [], 0, .own 28 2 [], .own 5 1 [], 0, false⟩
theorem new_at (b : Bool) (G : Heap) : acall AXE AXF 1001000 8 [.one (.bool b), .one (.str hostL)] G = some (.one (.gptr G.length 0), G ++ [(ses0 b).cells]) := by
 rw [f8_eq 1000999, f8_L, callK_some dom_host, oB_one]; rfl
structure LI (p : Nat) (i : Nat) (G : Heap) (s : Ses) : Prop where
 ok : Sok G p s
 kind : s.kind = 0
 buf : s.cl = false → s.buf = []
 len : s.buf.length ≤ 110 * i
 bad0 : 0 ≤ s.bad
 bad1 : s.bad ≤ (i : Int)
def Yes (r : OR) : Prop := ∃ G, r = some (.one (.bool true), G)
theorem line_at {n : Nat} (hn : 1400 ≤ n) {p i : Nat} (hi : i ≤ 60) (rows : LC) (code : Int) (hcode : code = 250 ∨ code = 550) (s21 : LC → Nat → Nat → Int → Int → Heap → OR) (hs : ∀ G s, LI p (i + 1) G s → Yes (s21 rows p 0 code ((i + 1 : Nat) : Int) G))
 {G : Heap} {s : Ses} (h : LI p i G s) (l : LB) (hl : l.length ≤ 100) (N : Nat) : ∀ (m k : Nat), k ≤ l.length → l.length < k + m → (∀ j (hj : j < l.length), j < k → l[j] ≠ 13) →
 Yes (loopJ (fun _ _ _ _ _ _ _ _ => none) (f5_B0 (acall AXE AXF (n + 1)) N s21) m rows p 0 code (i : Int) l (k : Int) G)
 | 0, k, h1, h2, _ => by omega
 | m + 1, k, h1, h2, h3 => by
  rw [loopJ_succ, f5_B0]
  by_cases hk : k < l.length
  · rw [cut_ok (by omega)]
    refine join_prop (fun j => ∀ b : Bool, (b = false → l[k] ≠ 13) → Yes (j rows p 0 code (i : Int) l (k : Int) b G)) (Q := Yes) ?_ ?_
    · intro b hb
      cases b with
      | true => exact ⟨G, rfl⟩
      | false =>
       dsimp only
       rw [cond_false, wrap_ok (by omega) (by omega), show ((k : Int) + 1) = ((k + 1 : Nat) : Int) by omega]
       refine line_at hn hi rows code hcode s21 hs h l hl N m (k + 1) (by omega) (by omega) fun j hj hjk => ?_
       by_cases e : j = k
       · subst e; exact hb rfl
       · exact h3 j hj (by omega)
    · intro j hj
      rw [item_at hk, item_at hk]
      by_cases e : l[k] = 13
      · rw [e]; exact hj true fun h => by cases h
      · rw [show (((l[k]).toNat : Int) == 13) = false by
         rw [beq_eq_false_iff_ne]; intro h; apply e; rw [← UInt8.toNat_inj]; show (l[k]).toNat = 13; omega, cond_false]
        exact hj _ fun _ => e
  · rw [cut_no (by omega)]
    have h13 : ∀ c ∈ l, c ≠ 13 := fun c hc => by
     obtain ⟨j, hj, rfl⟩ := List.getElem_of_mem hc
     exact h3 j hj (by omega)
    refine join_prop (fun j => ∀ l' : LB, l'.length ≤ 100 → (∀ c ∈ l', c ≠ 13) → ¬ (4 ≤ l'.length ∧ (l'[0]? = some 68 ∨ l'[0]? = some 100)) → Yes (j rows p 0 code (i : Int) l' G)) (Q := Yes) ?_ ?_
    · intro l' hl' h13' hD
      dsimp only
      rw [callGK_some (closed_at n h.ok.at_), oB_one, str_ok (by simp; omega)]
      have hb0 := h.bad0; have hb1 := h.bad1; have hbl := h.len
      obtain ⟨out, asks, G', s', g1, g2, g3, g4, g5, g6, g7, g8, r, q1, q2, q3⟩ := run_at (n := n) (by omega) h.ok h.kind h.buf (by omega) ⟨hb0, by omega⟩ l' hl' h13' hD code hcode
      have hLI : LI p (i + 1) G' s' := ⟨g2, g3, g4, by omega, by omega, by omega⟩
      obtain ⟨k2, rfl⟩ : ∃ k2, n = k2 + 199 := ⟨n - 199, by omega⟩
      rw [callGK_some g1, castTup_tup, zS_cons, zS_cons, nilK_nil, callK_some (q1 k2), castTup_tup, zL_cons, zI_cons, nilK_nil]
      refine join_prop (fun j => Yes (j rows p 0 code (i : Int) s.cl r false G')) (Q := Yes) ?_ ?_
      · dsimp only
        rw [cond_false]
        refine join_prop (fun j => ∀ w : Int, (s.cl = true → w = 0) → (s.cl = false → w = 1) → Yes (j rows p 0 code (i : Int) r w G')) (Q := Yes) ?_ ?_
        · intro w hw0 hw1
          refine join_prop (fun j => Yes (j rows p 0 code (i : Int) false G')) (Q := Yes) ?_ ?_
          · dsimp only
            rw [cond_false, wrap_ok (by omega) (by omega), show ((i : Int) + 1) = ((i + 1 : Nat) : Int) by omega]
            exact hs G' s' hLI
          · intro j hj
            cases hc : s.cl with
            | true =>
             rw [hw0 hc, q2 hc]
             exact hj
            | false =>
             rw [hw1 hc]
             rcases q3 hc with h4 | ⟨h4, h5, h6⟩
             · rw [h4]; exact hj
             · rw [h4]
               show Yes (guardB (decide (0 ≤ (1 : Int)) && decide ((Int.toNat (1 : Int)) * 3 + 3 ≤ 6)) (cI .i64 (code2 r) fun n108 r109 => _))
               rw [guard_ok (by decide), h5, cI_cons]
               show Yes (callGK (acall AXE AXF (k2 + 199 + 1)) 14 [.one (.gptr p 0)] G' fun v110 G111 => _)
               rw [callGK_some (closed_at (k2 + 199) g2.at_), oB_one, h6]
               exact hj
        · intro j hj
          cases hc : s.cl with
          | true => exact hj 0 (fun _ => rfl) fun h => by rw [hc] at h; cases h
          | false => exact hj 1 (fun h => by rw [hc] at h; cases h) fun _ => rfl
      · intro j hj
        rw [show ((0 : Int) != 0) = false from rfl, cond_false, show (asks == ([110, 111, 110, 101] : LB)) = false by
         rw [beq_eq_false_iff_ne]; exact g8]
        exact hj
    · intro j53 hj53
      refine join_prop (fun j => ∀ b : Bool, (b = false → ¬ (4 ≤ l.length ∧ (l[0]? = some 68 ∨ l[0]? = some 100))) → Yes (j rows p 0 code (i : Int) l b G)) (Q := Yes) ?_ ?_
      · intro b hb
        cases b with
        | true => exact hj53 [78, 79, 79, 80] (by simp) (by decide) (by decide)
        | false => exact hj53 l hl h13 (hb rfl)
      · intro j hj
        by_cases h4 : 4 ≤ l.length
        · have h0 : 0 < l.length := by omega
          rw [cut_ok (by omega), show (0 : Int) = ((0 : Nat) : Int) from rfl, item_at h0, item_at h0]
          have e0 : l[0]? = some l[0] := List.getElem?_eq_getElem h0
          by_cases e : l[0] = 68
          · rw [e]; exact hj true fun h => by cases h
          · rw [show (((l[0]).toNat : Int) == 68) = false by
             rw [beq_eq_false_iff_ne]; intro h; apply e; rw [← UInt8.toNat_inj]; show (l[0]).toNat = 68; omega, cond_false]
            refine hj _ fun hb => ?_
            rw [beq_eq_false_iff_ne] at hb
            rintro ⟨_, h | h⟩
            · rw [e0, Option.some.injEq] at h; exact e h
            · rw [e0, Option.some.injEq] at h; rw [h] at hb; exact hb rfl
        · rw [cut_no (by omega)]
          exact hj false fun _ h => h4 h.1
theorem lines_at {n : Nat} (hn : 1400 ≤ n) {p : Nat} (ls : List LB) (h60 : ls.length ≤ 60) (code : Int) (hcode : code = 250 ∨ code = 550) (N : Nat) (hN : 200 ≤ N) : ∀ (m i : Nat) (G : Heap) (s : Ses), i ≤ ls.length → ls.length < i + m → LI p i G s →
 Yes (loopJ (fun _ _ _ _ _ _ => none) (f5_B1 (acall AXE AXF (n + 1)) N) m (ls.map .str) p 0 code (i : Int) G)
 | 0, i, G, s, h1, h2, _ => by omega
 | m + 1, i, G, s, h1, h2, h => by
  rw [loopJ_succ, f5_B1, List.length_map, Nat.div_one]
  by_cases hi : i < ls.length
  · rw [cut_ok (by omega), strs_item hi, castS_one]
    by_cases hl : 100 < (ls[i]).length
    · rw [cut_ok (by omega)]; exact ⟨G, rfl⟩
    · rw [cut_no (by omega), strs_item hi, castS_one]
      exact line_at hn (by omega) (ls.map .str) code hcode _ (fun G s hLI => lines_at hn ls h60 code hcode N hN m (i + 1) G s (by omega) (by omega) hLI) h ls[i] (by omega) N N 0 (by omega) (by omega) fun j _ hj => by omega
  · rw [cut_no (by omega)]; exact ⟨G, rfl⟩
theorem counts (b : Bool) (ls : List LB) (y : Bool) : ∃ G, acall AXE AXF 1001001 5 [.one (.bool b), .one (.sl none 1 (ls.map .str)), .one (.bool y)] [] = some (.one (.bool true), G) := by
 rw [f5_eq 1001000, f5_L, callGK_some pc_awake, oB_one, Bool.not_true, cond_false, List.length_map, Nat.div_one]
 by_cases h60 : 60 < ls.length
 · rw [cut_ok (by omega)]; exact ⟨_, rfl⟩
 · rw [cut_no (by omega)]
   refine join_prop (fun j => Yes (j (ls.map .str) y (.gptr pcGA.length 0) (pcGA ++ [(ses0 b).cells]))) (Q := Yes) ?_ ?_
   · dsimp only
     rw [castP_ptr]
     refine join_prop (fun j => ∀ code : Int, code = 250 ∨ code = 550 → Yes (j (ls.map .str) pcGA.length 0 code (pcGA ++ [(ses0 b).cells]))) (Q := Yes) ?_ ?_
     · intro code hcode
       refine lines_at (n := 1000999) (p := pcGA.length) (by omega) ls (by omega) code hcode 1001001 (by omega) 1001001 0 _ (ses0 b) (by omega) (by omega) ⟨⟨?_, .inl rfl, by simp [ses0], .inl ⟨_, rfl⟩, .inl ⟨_, rfl⟩⟩, rfl, fun _ => rfl, by simp [ses0], by simp [ses0], by simp [ses0]⟩
       rw [List.getElem?_append_right (Nat.le_refl _)]; simp
     · intro j hj
       cases y with
       | true => exact hj 250 (.inl rfl)
       | false => exact hj 550 (.inr rfl)
   · intro j hj
     rw [callGK_some (show acall AXE AXF 1001000 8 [.one (.bool b), .one (.str [120, 46, 111, 114, 103])] pcGA = _ from new_at b pcGA), oP_gptr]
     exact hj
end AX
end Go.Proofs.YtnkppakkeobegaaGreatDoor
