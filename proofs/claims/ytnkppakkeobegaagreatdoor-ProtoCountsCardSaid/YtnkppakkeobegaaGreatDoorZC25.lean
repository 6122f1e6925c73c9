/-
  PcLaw.
-/
import Derived.Test.YtnkppakkeobegaaGreatDoorZC24
set_option maxRecDepth 20000
set_option linter.unusedVariables false
set_option linter.unusedSimpArgs false
set_option linter.unusedSectionVars false
namespace Go.Proofs.YtnkppakkeobegaaGreatDoor
namespace AX
def OutOk (was now : Bool) (out : LB) : Prop := ∃ r, (∀ n, acall AXE AXF (n + 200) 15 [.one (.str out), .one (.bool false)] [] = some (.tup [.one (.sl (some ⟨4, 0, 39⟩) 3 r), .one (.int .i64 0)], [])) ∧
 (was = true → r = []) ∧ (was = false → r.length = 3 ∨ (r.length = 6 ∧ code2 r = [.int .i64 421] ∧ now = true))
def noneL : LB := [110, 111, 110, 101]
def RunRes (p : Nat) (s : Ses) (r : OR) : Prop := ∃ (out asks : LB) (G' : Heap) (s' : Ses), r = some (.tup [.one (.str out), .one (.str asks)], G') ∧ Sok G' p s' ∧ s'.kind = 0 ∧ (s'.cl = false → s'.buf = []) ∧ s'.buf.length ≤ s.buf.length + 110 ∧ s.bad ≤ s'.bad ∧ s'.bad ≤ s.bad + 1 ∧ asks ≠ noneL ∧ OutOk s.cl s'.cl out
theorem run_nil (n : Nat) (a0 : Nat) (a1 : LC) (a3 : Int) (G : Heap) : acall AXE AXF (n + 1) 13 [.one (.gptr a0 0), .one (.sl none 1 a1), .one (.sl none 0 []), .one (.int .i64 a3)] G = f13_L (acall AXE AXF n) (n + 1) a0 a1 [] a3 G := by kernel_rfl
theorem str_ok {a b : LB} (h : a.length + b.length ≤ 100000) {β : Type} {x y : β} : (bif decide (a.length + b.length ≤ strLim) then x else y) = x := cut_ok (by unfold strLim; omega)
theorem round_end {k m : Nat} {G : Heap} {p : Nat} {s : Ses} (h : Sok G p s) (h0 : s.kind = 0) (hi : s.cl = true ∨ s.buf = []) (b : LC) (code : Int) (out asks : LB) (ho : out.length ≤ 5000) (N : Nat) (s1 : Nat → LC → LC → Int → LB → LB → Int → Int → Heap → OR) (at_ : Int) :
 loopJ (fun _ _ _ _ _ _ _ _ _ => none) (f13_B1 (acall AXE AXF (k + 2)) N s1) (m + 1) p b [] code out asks at_ 0 G = s1 p b [] code out asks at_ 1 G := by
 rw [loopJ_succ, f13_B1, callGK_some (next_idle k h hi), castTup_tup, zL_cons, consK_cons, aggV_agg, takeS_api_Ask_cells_nil, nilK_nil, nilK_nil, pc_bytesK, str_ok (by simp; omega)]
 rw [show (s.ask.fKind == (0 : Int)) = true by show (s.kind == (0 : Int)) = true; rw [h0]; rfl, cond_true, List.append_nil]
 rfl
theorem end_ne (x : LB) : x ++ [59] ≠ noneL := fun h => by
 have := congrArg List.getLast? h
 simp [noneL] at this
theorem rounds_at {n : Nat} (hn : 1200 ≤ n) {G : Heap} {p : Nat} {s : Ses} (h : Sok G p s) (h0 : s.kind = 0) (hbad : 0 ≤ s.bad ∧ s.bad ≤ 1000) (l : LB) (hl : l.length ≤ 900) (h13 : ∀ c ∈ l, c ≠ 13)
 (hD : ¬ (4 ≤ l.length ∧ (l[0]? = some 68 ∨ l[0]? = some 100))) (hb : s.cl = false → s.buf = byteCells (l ++ [13, 10])) (b : LC) (code : Int) (hcode : code = 250 ∨ code = 550) (at_ : Int) (N : Nat)
 (s1 : Nat → LC → LC → Int → LB → LB → Int → Int → Heap → OR) : ∃ (out asks : LB) (G' : Heap) (s' : Ses), loopJ (fun _ _ _ _ _ _ _ _ _ => none) (f13_B1 (acall AXE AXF (n + 2)) (N + 2) s1) (N + 2) p b [] code [] [] at_ 0 G = s1 p b [] code out asks at_ 1 G' ∧
  Sok G' p s' ∧ s'.kind = 0 ∧ (s'.cl = false → s'.buf = []) ∧ s'.buf.length ≤ s.buf.length ∧ s.bad ≤ s'.bad ∧ s'.bad ≤ s.bad + 1 ∧ asks ≠ noneL ∧ OutOk s.cl s'.cl out := by
 cases hc : s.cl with
 | true =>
  refine ⟨[], [], G, s, round_end h h0 (.inl hc) b code [] [] (by simp) _ s1 at_, h, h0, fun h => ?_, Nat.le_refl _, Int.le_refl _, by omega, by decide, [], fun n => all_nil (n + 140), fun _ => rfl, fun h => by cases h⟩
  rw [hc] at h; cases h
 | false =>
  obtain ⟨out, G', s', e1, e2, e3, e4, e5, e6, e7, e8⟩ := next_at (n := n) (by omega) h h0 hc hbad l hl h13 hD (hb hc)
  rw [loopJ_succ, f13_B1, callGK_some e1, castTup_tup, zL_cons, consK_cons, aggV_agg, takeS_api_Ask_cells_nil, nilK_nil, nilK_nil, pc_bytesK, str_ok (by simp; omega)]
  rcases e8 with ⟨hk, r, hr1, hr2⟩ | ⟨rfl, hk, hcl, hcL, hdL, h39⟩
  · rw [show (s'.ask.fKind == (0 : Int)) = true by show (s'.kind == (0 : Int)) = true; rw [hk]; rfl, cond_true]
    exact ⟨out, [], G', s', rfl, e2, hk, fun _ => e3, by rw [e3]; exact Nat.zero_le _, e5, e6, by decide, r, hr1, (fun h => by cases h), fun _ => hr2⟩
  · have a1 : s'.ask.fRcpt_Local = s'.c := rfl
    have a2 : s'.ask.fRcpt_Domain = s'.d := rfl
    have a3 : s'.ask.fBody = byteCells [] := rfl
    rw [show (s'.ask.fKind == (0 : Int)) = false by show (s'.kind == (0 : Int)) = false; rw [hk]; rfl, cond_false, a1, a2, a3]
    rw [str_ok (by simp; omega), str_ok (by simp; omega), str_ok (by simp; omega), str_ok (by simp; omega), pc_bytesK, str_ok (by simp; omega), str_ok (by simp; omega)]
    generalize hA : (((([] ++ s'.c) ++ ([64] : LB)) ++ s'.d) ++ ([58] : LB)) ++ [] = A
    rw [loopJ_succ, f13_B0, callGK_some (wants_at (n + 1) e2.at_ hk), oI_one, cut_ok (by decide), guard_ok (decide_eq_true (by show (0 + 3) * 1000 ≤ 1099511627776; decide))]
    show ∃ (out asks : LB) (G2 : Heap) (s2 : Ses), loopJ (fun _ _ _ _ _ _ _ _ _ _ _ => none) (f13_B0 (acall AXE AXF (n + 2)) (N + 2) _) (N + 1) p b [] code [] (A ++ [59]) at_ 0 (ansL code) 1 G' = _ ∧ _
    rw [loopJ_succ, f13_B0, callGK_some (wants_at (n + 1) e2.at_ hk), oI_one, cut_no (by decide)]
    obtain ⟨t, r, G2, s2, g1, g2, g3, g4, g5, g6, g7, g8⟩ := answer_at (n := n + 1) (by omega) e2 hk h39 code hcode
    have ht := g2.len
    rw [callGK_some g1, castTup_tup, zL_cons, zB_cons, nilK_nil, Bool.not_true, cond_false, pc_bytesK, str_ok (by simp; omega)]
    rw [round_end g3 g4 (.inr (g5.trans e3)) b code _ _ (by simp; omega) _ s1 at_]
    refine ⟨_, _, G2, s2, rfl, g3, g4, fun _ => g5.trans e3, by rw [g5, e3]; exact Nat.zero_le _, by omega, by omega, end_ne A, r, ?_, fun h => (by cases h), fun _ => .inl g2.num⟩
    exact g2.all
theorem run_at {n : Nat} (hn : 1300 ≤ n) {G : Heap} {p : Nat} {s : Ses} (h : Sok G p s) (h0 : s.kind = 0) (hb0 : s.cl = false → s.buf = []) (hbl : s.buf.length ≤ 100000) (hbad : 0 ≤ s.bad ∧ s.bad ≤ 1000) (l : LB) (hl : l.length ≤ 100) (h13 : ∀ c ∈ l, c ≠ 13)
 (hD : ¬ (4 ≤ l.length ∧ (l[0]? = some 68 ∨ l[0]? = some 100))) (code : Int) (hcode : code = 250 ∨ code = 550) :
 RunRes p s (acall AXE AXF (n + 1) 13 [.one (.gptr p 0), .one (.sl none 1 (byteCells (l ++ [13, 10]))), .one (.sl none 0 []), .one (.int .i64 code)] G) := by
 rw [run_nil, f13_L]
 obtain ⟨k, rfl⟩ : ∃ k, n = k + 2 := ⟨n - 2, by omega⟩
 have hlen : (byteCells (l ++ [13, 10])).length = l.length + 2 := by rw [byteCells_len]; simp
 rw [loopJ_succ, f13_B2, cut_ok (by decide), joinK_eq, cut_no (by decide)]
 dsimp only
 rw [hlen, cut_ok ⟨by decide, by omega, by omega⟩]
 have e1 : ((byteCells (l ++ [13, 10])).take ((Int.toNat (((l.length + 2) / 1 : Nat) : Int)) * 1)).drop ((Int.toNat 0) * 1) = byteCells (l ++ [13, 10]) := by
  have z : Int.toNat 0 = 0 := rfl
  rw [Nat.div_one, Int.toNat_natCast, z, Nat.mul_one, Nat.mul_one, List.drop_zero, List.take_of_length_le (by omega)]
 have hfit : (s.buf.length + (byteCells (l ++ [13, 10])).length) * 1000 ≤ rowLim := by rw [hlen]; show _ ≤ 1099511627776; omega
 rw [e1, callGK_some (feed_at (k + 1) h.at_ _ hfit), castTup_tup, nilK_nil]
 have hS := h.upd (s' := { s with buf := s.buf ++ byteCells (l ++ [13, 10]) }) (.inl rfl) h.rc h.x h.y
 obtain ⟨out, asks, G', s', g1, g2, g3, g4, g5, g6, g7, g8, g9⟩ := rounds_at (n := k) (by omega) hS h0 hbad l (by omega) h13 hD (fun hc => by show s.buf ++ _ = _; rw [hb0 hc, List.nil_append]) (byteCells (l ++ [13, 10])) code hcode (((l.length + 2) / 1 : Nat) : Int) (k + 1)
  (loopJ (fun _ _ _ _ _ _ _ _ _ => none) (f13_B2 (acall AXE AXF (k + 2)) (k + 2 + 1)) (k + 2))
 rw [g1, loopJ_succ, f13_B2, cut_no (by decide)]
 refine ⟨out, asks, G', s', rfl, g2, g3, g4, ?_, g6, g7, g8, g9⟩
 have g5 : s'.buf.length ≤ (s.buf ++ byteCells (l ++ [13, 10])).length := g5
 rw [List.length_append, hlen] at g5
 omega
end AX
end Go.Proofs.YtnkppakkeobegaaGreatDoor
