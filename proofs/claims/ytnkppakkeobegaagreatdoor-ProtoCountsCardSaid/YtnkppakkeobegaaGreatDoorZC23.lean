/-
  PcStep.
-/
import Derived.Test.YtnkppakkeobegaaGreatDoorZC22
set_option maxRecDepth 20000
set_option linter.unusedVariables false
set_option linter.unusedSimpArgs false
set_option linter.unusedSectionVars false
namespace Go.Proofs.YtnkppakkeobegaaGreatDoor
namespace AX
theorem index_crlf2 : ∀ l : LB, (∀ c ∈ l, c ≠ 13) → Lib.index (l ++ [13, 10]) [13, 10] = l.length
 | [], _ => by rw [List.nil_append, Lib.index, if_pos (by simp [List.isPrefixOf])]; rfl
 | c :: n, h => by
  have ih := index_crlf2 n fun d hd => h d (List.mem_cons_of_mem _ hd)
  have hc := h c (List.mem_cons_self ..)
  rw [List.cons_append, Lib.index, if_neg (by simp [List.isPrefixOf]; intro e; exact absurd e.symm hc), ih, if_neg (by first | (simp; done) | (simp; omega))]
  simp
theorem bytesOf_cells : ∀ l : LB, bytesOf (byteCells l) = some l
 | [] => rfl
 | c :: r => by
  have hc := c.toNat_lt
  show (bif decide (0 ≤ (c.toNat : Int)) && decide ((c.toNat : Int) < 256) then (match bytesOf (byteCells r) with | some l => some (UInt8.ofNat (c.toNat : Int).toNat :: l) | none => none) else none) = _
  rw [decide_eq_true (by omega), decide_eq_true (by omega), bytesOf_cells r]
  simp
theorem bIndex_at (l : LB) (hl : l.length ≤ 1000000) : pBIndex [.one (.sl none 1 (byteCells l)), .one (.sl none 1 [.int .u8 13, .int .u8 10])] = some (.one (.int .i64 (Lib.index l [13, 10]))) := by
 show (match bytesOf (byteCells l), bytesOf [.int .u8 13, .int .u8 10] with | some l, some s => bif decide (l.length ≤ 1000000) && Nat.beq s.length 2 then some (AV.one (.int .i64 (Lib.index l s))) else none | _, _ => none) = _
 rw [bytesOf_cells]
 show (bif decide (l.length ≤ 1000000) && true then _ else _) = _
 rw [decide_eq_true hl]; rfl
theorem byteCells_app (a b : LB) : byteCells (a ++ b) = byteCells a ++ byteCells b := by simp [byteCells]
def OutL (L : LC) (cl : Bool) : Prop := L ∈ Reps ∨ ((∃ B, B ∈ Bads ∧ L = B ++ r421) ∧ cl = true)
def StepRes (p : Nat) (s : Ses) (r : OR) : Prop := ∃ (L : LC) (G' : Heap) (s' : Ses), r = some (.tup [.one (.sl (some ⟨2, 0, 39⟩) 3 L), .one (.bool true)], G') ∧ Sok G' p s' ∧ s'.buf = [] ∧ s'.lm = s.lm ∧ s.bad ≤ s'.bad ∧ s'.bad ≤ s.bad + 1 ∧
 ((OutL L s'.cl ∧ s'.kind = 0) ∨ (L = [] ∧ s'.kind = 1 ∧ s'.cl = false ∧ s'.c.length ≤ 1000 ∧ s'.d.length ≤ 1000 ∧ s'.rc.length ≤ 39))
theorem step_none (n : Nat) {G : Heap} {p : Nat} {s : Ses} (h : Sok G p s) (hb : s.buf = []) : acall AXE AXF (n + 1) 27 [.one (.gptr p 0)] G = some (.tup [.one (.sl (some ⟨2, 0, 39⟩) 3 []), .one (.bool false)], G) := by
 rw [f27_eq, f27_L, joinK_eq, rd_data h.at_]
 dsimp only
 rw [cond_false, rd_buf h.at_, hb]
 rfl
theorem step_at {n : Nat} (hn : 1160 ≤ n) {G : Heap} {p : Nat} {s : Ses} (h : Sok G p s) (h0 : s.kind = 0) (hcl : s.cl = false) (hbad : 0 ≤ s.bad ∧ s.bad ≤ 1000) (l : LB) (hl : l.length ≤ 900) (h13 : ∀ c ∈ l, c ≠ 13)
 (hD : ¬ (4 ≤ l.length ∧ (l[0]? = some 68 ∨ l[0]? = some 100))) (hb : s.buf = byteCells (l ++ [13, 10])) : StepRes p s (acall AXE AXF (n + 1) 27 [.one (.gptr p 0)] G) := by
 rw [f27_eq, f27_L, joinK_eq, rd_data h.at_]
 dsimp only
 rw [cond_false, rd_buf h.at_, hb, primK_some (bIndex_at _ (by simp; omega)), oI_one, index_crlf2 l h13, cut_no (by omega), rd_buf h.at_, hb]
 have hlen : (byteCells (l ++ [13, 10])).length = l.length + 2 := by rw [byteCells_len]; simp
 rw [cut_ok ⟨by omega, by rw [hlen]; omega⟩, Nat.mul_one, List.drop_zero, Int.toNat_natCast, Nat.mul_one]
 have e1 : (byteCells (l ++ [13, 10])).take l.length = byteCells l := by
  rw [byteCells_app]; exact List.take_left' (byteCells_len l)
 rw [e1, pc_bytesK, tk_buf h.at_, hb, wrap_ok (by omega) (by omega), cut_ok ⟨by omega, by rw [hlen]; omega⟩, ← hb, pt_buf h.at_]
 have e2 : s.buf.drop (Int.toNat ((l.length : Int) + 2) * 1) = [] := by rw [hb]; apply List.drop_of_length_le; rw [hlen]; omega
 rw [e2]
 have hS := h.upd (s' := { s with buf := [] }) (.inl rfl) h.rc h.x h.y
 obtain ⟨k, rfl⟩ : ∃ k, n = k + 1 := ⟨n - 1, by omega⟩
 obtain ⟨L, G', s', c1, c2, c3, c4, c5, c6⟩ := command_at (n := k) (by omega) hS h0 hcl l (by omega) hD
 have c4 : s'.bad = s.bad := c4
 rw [callGK_some c1, castOne1_one, castN_one]
 refine join_prop (fun j => ∀ (L' : LC) (G2 : Heap) (s2 : Ses), Sok G2 p s2 → s2.buf = [] → s2.lm = s.lm → s.bad ≤ s2.bad → s2.bad ≤ s.bad + 1 → ((OutL L' s2.cl ∧ s2.kind = 0) ∨ (L' = [] ∧ s2.kind = 1 ∧ s2.cl = false ∧ s2.c.length ≤ 1000 ∧ s2.d.length ≤ 1000 ∧ s2.rc.length ≤ 39)) → StepRes p s (j L' G2)) (Q := StepRes p s) ?_ ?_
 · intro L' G2 s2 d1 d2 d3 d4 d5 d6
   exact ⟨L', G2, s2, rfl, d1, d2, d3, d4, d5, d6⟩
 · intro j26 hj26
   refine join_prop (fun j => ∀ b : Bool, (b = true → L ∈ Bads ∧ s'.kind = 0) → StepRes p s (j p L b G')) (Q := StepRes p s) ?_ ?_
   · intro b hbd
     dsimp only
     have stay : StepRes p s (j26 L G') := hj26 L G' s' c2 c3 c5 (by omega) (by omega) (by
      rcases c6 with ⟨c7, c8⟩ | c7
      · exact .inl ⟨.inl c7, c8⟩
      · exact .inr c7)
     cases b with
     | false => exact stay
     | true =>
      obtain ⟨hB, hk0⟩ := hbd rfl
      have hS2 := c2.upd (s' := { s' with bad := s'.bad + 1 }) (.inl rfl) c2.rc c2.x c2.y
      rw [cond_true, rd_bad c2.at_, wrap_ok (by omega) (by omega), wr_bad c2.at_, rd_bad (g_self c2.at_)]
      by_cases h10 : s'.bad + 1 = 10
      · have hS3 := hS2.upd (s' := { s' with bad := s'.bad + 1, cl := true }) (.inl rfl) c2.rc c2.x c2.y
        rw [show (s'.bad + 1 == (10 : Int)) = true by simpa using h10, cond_true, wr_cl (g_self c2.at_), say_k k, guard_ok]
        · exact hj26 (L ++ r421) _ _ hS3 c3 c5 (by show s.bad ≤ s'.bad + 1; omega) (by show s'.bad + 1 ≤ s.bad + 1; omega) (.inl ⟨.inr ⟨⟨L, hB, rfl⟩, rfl⟩, hk0⟩)
        · have : L.length = 3 := by
           simp only [Bads, List.mem_cons, List.not_mem_nil, or_false] at hB
           rcases hB with rfl | rfl | rfl | rfl <;> rfl
          rw [this]; decide
      · rw [show (s'.bad + 1 == (10 : Int)) = false by simpa using h10, cond_false]
        refine hj26 L _ _ hS2 c3 c5 (by show s.bad ≤ s'.bad + 1; omega) (by show s'.bad + 1 ≤ s.bad + 1; omega) (.inl ⟨.inl ?_, hk0⟩)
        rcases c6 with ⟨c7, _⟩ | ⟨_, c8, _⟩
        · exact c7
        · omega
   · intro j hj
     rcases c6 with ⟨c7, c8⟩ | ⟨c7, c8⟩
     · obtain ⟨c, e, ls, e3, e4⟩ := rep_shape L c7
       rw [e3, ← e3]
       have hgt : (((L.length / 3 : Nat) : Int) > 0) := by rw [e3]; show ((3 / 3 : Nat) : Int) > 0; decide
       have hg : (decide (0 ≤ (0 : Int)) && decide ((Int.toNat (0 : Int)) * 3 + 3 ≤ L.length)) = true := by rw [e3]; rfl
       have hc : ((((L.drop ((Int.toNat (0 : Int)) * 3)).take 3).drop 0).take 1) = [.int .i64 c] := by rw [e3]; rfl
       rw [cut_ok hgt, guard_ok hg, hc, cI_cons, callK_some (isBad_at k c), oB_one]
       exact hj _ fun hb => ⟨e4 hb, c8⟩
     · subst c7
       exact hj false fun h => by cases h
end AX
end Go.Proofs.YtnkppakkeobegaaGreatDoor
