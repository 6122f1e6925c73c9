/-
  PgNext.
-/
import Derived.Test.YtnkppakkeobegaaGreatDoorZP24
set_option maxRecDepth 20000
set_option linter.unusedVariables false
set_option linter.unusedSimpArgs false
set_option linter.unusedSectionVars false
namespace Go.Proofs.YtnkppakkeobegaaGreatDoor
namespace AX
def V.ask (v : V) : S_api_Ask := ⟨v.kind, v.a, v.b, v.c, v.d, v.k, v.to, byteCells v.body⟩
theorem sClone_at (l : LC) (hl : l.length ≤ 1000000) : pSClone [.one (.sl none 2 l)] = some (.one (.sl none 2 l)) := by
 show (bif Nat.beq 2 2 && decide (l.length ≤ 1000000) then some (AV.one (.sl none 2 l)) else _) = _
 rw [decide_eq_true hl]; rfl
theorem copy_at (k : Nat) (v : V) (h1 : v.to.length ≤ 1000000) (h2 : v.body.length ≤ 1000000) : acall AXE AXF (k + 1) 29 [.agg v.ask.cells] [] = some (.agg v.ask.cells, []) := by
 rw [f29_eq, f29_L]
 show (primK pSClone [.one (.sl none 2 v.to)] fun v1 => _) = _
 rw [primK_some (sClone_at _ h1), oL_one]
 show (primK pBClone [.one (.sl none 1 (byteCells v.body))] fun v3 => _) = _
 rw [primK_some (bClone_at _ h2), oL_one]
 rfl
def nextV (out : LB) (v : V) (G : Heap) : OR := some (.tup [.one (.sl (some ⟨2, 0, 5⟩) 1 (byteCells out)), .agg v.ask.cells], G)
def NextGets (p N M : Nat) (pf : LB → S_api_Cmd × Int) (code : Int) (G : Heap) (v : V) (out : LB) (r : OR) : Prop := ∃ o v' G', r = nextV (out ++ o) v' G' ∧ Rep G' p N v' ∧ Frm N p G G' ∧ VV M v' ∧ Nx pf rb code v o v' ∧ o.length + 5000 * meas v' ≤ 5000 * meas v
theorem next_loop {k : Nat} (hk : 1200 ≤ k) (NN : Nat) {p N M : Nat} (hM : M ≤ 2000) (hpf : PfOk (pv k)) (code : Int) (j : Nat → LC → Int → LB → LB → LB → LB → Int → LC → LC → Heap → OR)
 (hj : ∀ (out : LB) (G' : Heap) (v : V), Rep G' p N v → VV M v → j p (byteCells out) 0 [] [] [] [] 0 [] [] G' = nextV out v G') : ∀ (m : Nat) (G : Heap) (v : V) (out : LB), meas v < m → Rep G p N v → VV M v → out.length + 5000 * meas v ≤ 20000000 →
 NextGets p N M (pv k) code G v out (loopJ (fun _ _ _ _ _ _ _ _ _ _ _ => none) (f10_B0 (acall AXE AXF (k + 3)) NN j) m p (byteCells out) 0 [] [] [] [] 0 [] [] G)
 | 0, G, v, out, hm, _, _, _ => by omega
 | m + 1, G, v, out, hm, h, hV, ho => by
  have h' := h
  obtain ⟨fc, dc, x, y, h⟩ := h
  rw [loopJ_succ, f10_B0, rd_kind h.cells]
  by_cases h0 : v.kind = 0
  · rw [h0, beq_self_eq_true, cond_true, rd_cl h.cells]
    cases hc : v.cl with
    | true =>
     rw [Bool.not_true, cond_false, hj out G v h' hV]
     exact ⟨[], v, G, by rw [List.append_nil], h', Frm.refl _ _ _, hV, Nx.rest (.inr hc), by simp⟩
    | false =>
     obtain ⟨nm, G', g1, g2, g3, _⟩ := step_at (n := k + 2) (by omega) hM h' hV h0 hc hpf
     rw [show k + 2 - 2 = k from rfl] at g1 g2
     rw [Bool.not_false, cond_true, callGK_some g1, castTup_tup, zL_cons, zB_cons, nilK_nil]
     cases hs : stepV (pv k) v with
     | mk o v' =>
      rw [hs] at g2
      obtain ⟨k1, k2, k3⟩ := step_ok hpf hM hV h0 hc hs
      cases o with
      | none =>
       simp only at g2
       rw [show (!((none : Option (List LC)).isSome)) = true from rfl, cond_true, hj out G' v' g2 k1]
       exact ⟨[], v', G', by rw [List.append_nil], g2, g3, k1, Nx.stuck h0 hc hs, by have := k3 rfl; simp; omega⟩
      | some Ls =>
       obtain ⟨q1, q2, q3⟩ := k2 Ls rfl
       simp only at g2
       have hlen := sent_len Ls q1
       rw [show (!((some Ls : Option (List LC)).isSome)) = false from rfl, cond_false]
       show NextGets p N M (pv k) code G v out (callK (acall AXE AXF (k + 3)) 28 [.one (.sl none 3 Ls.flatten)] fun v23 => _)
       rw [callK_some (sent_at (n := k + 2) (by omega) Ls q1 (by omega)), oL_one, guard_ok (decide_eq_true (by rw [byteCells_len, byteCells_len]; show (_ + _) * 1000 ≤ 1099511627776; omega)), ← byteCells_app]
       obtain ⟨o', v2, G2, e1, e2, e3, e4, e5, e6⟩ := next_loop hk NN hM hpf code j hj m G' v' (out ++ (Ls.map rb).flatten) (by omega) g2 k1 (by rw [List.length_append]; omega)
       exact ⟨(Ls.map rb).flatten ++ o', v2, G2, by rw [e1, List.append_assoc], e2, g3.trans e3, e4, Nx.step h0 hc hs e5, by rw [List.length_append]; omega⟩
  · rw [show (v.kind == 0) = false by simpa using h0, cond_false, hj out G v h' hV]
    exact ⟨[], v, G, by rw [List.append_nil], h', Frm.refl _ _ _, hV, Nx.rest (.inl h0), by simp⟩
theorem next_at {k : Nat} (hk : 3000 ≤ k) {p N M : Nat} (hM : M ≤ 2000) (hpf : PfOk (pv k)) (code : Int) {G : Heap} {v : V} (h : Rep G p N v) (hV : VV M v) : NextGets p N M (pv k) code G v [] (acall AXE AXF (k + 4) 10 [.one (.gptr p 0)] G) := by
 rw [f10_eq, f10_L]
 have hb := hV.buf
 have hm := meas_le (v := v)
 refine join_prop (fun j => ∀ (out : LB) (G' : Heap) (v : V), Rep G' p N v → VV M v → j p (byteCells out) 0 [] [] [] [] 0 [] [] G' = nextV out v G') (Q := NextGets p N M (pv k) code G v []) ?_ fun j hj => next_loop (by omega) _ hM hpf code j hj _ G v [] (by omega) h hV (by show 0 + _ ≤ _; omega)
 intro out G' v ⟨fc, dc, x, y, h⟩ hV
 dsimp only
 rw [gcells_at h.cells (by show 7 + 8 ≤ 17; decide)]
 show (cI .i64 (.int .i64 v.kind :: .str v.a :: .str v.b :: .str v.c :: .str v.d :: .int .i64 v.k :: x :: y :: .int .i64 v.bad :: [.bool v.cl]) fun n37 r38 => _) = _
 rw [cI_cons, cS_cons, cS_cons, cS_cons, cS_cons, cI_cons]
 show (castGL 2 x fun l49 => castGL 1 y fun l51 => _) = _
 rw [h.x.cast, h.y.cast]
 show (callK (acall AXE AXF (k + 3)) 29 [.agg v.ask.cells] fun v53 => _) = _
 have hbo := hV.body
 rw [callK_some (copy_at (k + 2) v (by omega) (by omega)), castAgg_agg, takeS_api_Ask_cells_nil, nilK_nil]
 rfl
theorem wants_at (k : Nat) {G : Heap} {p N : Nat} {v : V} {fc dc x y : Cell} (h : At G p N v fc dc x y) : acall AXE AXF (k + 1) 11 [.one (.gptr p 0)] G = some (.one (.int .i64 ((v.wants : Nat) : Int)), G) := by
 rw [f11_eq, f11_L, rd_kind h.cells]
 unfold V.wants
 cases (v.kind == 1) with
 | true => rfl
 | false =>
  rw [cond_false, cond_false]
  cases (v.kind == 2) with
  | true => rw [cond_true, cond_true, primGK_some (many_at h), oI_one]
  | false => rfl
theorem good_at (code : Int) (hcode : code = 250 ∨ code = 550) : pGood [.agg (⟨code, [], [.str [115, 111]]⟩ : S_api_Reply).cells] = some (.one (.bool true)) := by
 rcases hcode with rfl | rfl
 · kernel_rfl
 · kernel_rfl
theorem mem_ans {code : Int} (hcode : code = 250 ∨ code = 550) {m : Nat} : ∀ r ∈ List.replicate m (ansL code), r ∈ RepsA := fun r hr => by
 rw [List.eq_of_mem_replicate hr]
 rcases hcode with rfl | rfl <;> simp [RepsA]
theorem index_loop (k N : Nat) (code : Int) (hcode : code = 250 ∨ code = 550) (c : Nat) (hc : c ≤ 30) : ∀ (m i : Nat), i ≤ c → c < i + m →
 loopJ (fun _ _ _ => none) (f53_B0 (acall AXE AXF (k + 1)) N) m (List.replicate c (ansL code)).flatten ((c : Nat) : Int) (i : Int) = some (.one (.int .i64 (-1)), [])
 | 0, i, h1, h2 => by omega
 | m + 1, i, h1, h2 => by
  rw [loopJ_succ, f53_B0]
  by_cases hi : i < c
  · have hlen : (List.replicate c (ansL code)).length = c := List.length_replicate
    rw [cut_ok (by omega), Int.toNat_natCast, guard_ok (by rw [flat3_len _ (mem_ans hcode), hlen]; simp; omega), flat3_at _ i (by rw [hlen]; exact hi) (mem_ans hcode), List.getElem_replicate]
    show (takeS_api_Reply (⟨code, [], [.str [115, 111]]⟩ : S_api_Reply).cells fun w5 r6 => _) = _
    rw [takeS_api_Reply_cells_nil, callK_some (v := .one (.bool false)) (H := []) (by rw [f32_eq, f32_L, primK_some (good_at code hcode), oB_one]; rfl), oB_one, cond_false, wrap_ok (by omega) (by omega), show ((i : Int) + 1) = ((i + 1 : Nat) : Int) by omega]
    exact index_loop k N code hcode c hc m (i + 1) (by omega) (by omega)
  · rw [cut_no (by omega)]
theorem containsF_at {n : Nat} (hn : 100 ≤ n) (code : Int) (hcode : code = 250 ∨ code = 550) (c : Nat) (hc : c ≤ 30) :
 acall AXE AXF (n + 1) 31 [.one (.sl none 3 (List.replicate c (ansL code)).flatten), .one (.clo 32 0 [])] [] = some (.one (.bool false), []) := by
 obtain ⟨k, rfl⟩ : ∃ k, n = k + 2 := ⟨n - 2, by omega⟩
 rw [f31_eq, f31_L]
 have : acall AXE AXF (k + 2) 53 [.one (.sl none 3 (List.replicate c (ansL code)).flatten), .one (.clo 32 0 [])] [] = some (.one (.int .i64 (-1)), []) := by
  rw [f53_eq, f53_L, flat3_len _ (mem_ans hcode), Nat.mul_div_cancel _ (by decide : 0 < 3), List.length_replicate]
  exact index_loop k _ code hcode c hc _ 0 (by omega) (by omega)
 rw [callK_some this, oI_one]
 rfl
def AnsGets (p N : Nat) (G : Heap) (L : List LC) (v' : V) (r : OR) : Prop := ∃ G', r = some (.tup [.one (.sl none 1 (byteCells (L.map rb).flatten)), .one (.bool true)], G') ∧ Rep G' p N v' ∧ Frm N p G G'
theorem answer_at {n : Nat} (hn : 200 ≤ n) {G : Heap} {p N M : Nat} {v : V} (h : Rep G p N v) (hV : VV M v) (h0 : v.kind ≠ 0) (code : Int) (hcode : code = 250 ∨ code = 550) :
 AnsGets p N G (answerV code v).1 (answerV code v).2 (acall AXE AXF (n + 1) 12 [.one (.gptr p 0), .one (.sl none 3 (answerV code v).1.flatten)] G) := by
 obtain ⟨a1, a2, a3, a4, a5, a6⟩ := answer_ok hV h0 hcode
 obtain ⟨fc, dc, x, y, h⟩ := h
 obtain ⟨k, rfl⟩ : ∃ k, n = k + 1 := ⟨n - 1, by omega⟩
 have hL : (answerV code v).1 = List.replicate v.wants (ansL code) := rfl
 have hLl : (List.replicate v.wants (ansL code)).flatten.length = v.wants * 3 := by rw [flat3_len _ (mem_ans hcode), List.length_replicate]
 rw [f12_eq, f12_L, hL]
 refine join_prop (fun j => AnsGets p N G (List.replicate v.wants (ansL code)) (answerV code v).2 (j p (List.replicate v.wants (ansL code)).flatten false G)) (Q := AnsGets p N G (List.replicate v.wants (ansL code)) (answerV code v).2) ?_ ?_
 · dsimp only
   rw [cond_false]
   refine join_prop (fun j => ∀ (v1 : V) (G1 : Heap), Rep G1 p N v1 → Frm N p G G1 → v1.clear = (answerV code v).2 → AnsGets p N G (List.replicate v.wants (ansL code)) (answerV code v).2 (j p (List.replicate v.wants (ansL code)).flatten G1)) (Q := AnsGets p N G (List.replicate v.wants (ansL code)) (answerV code v).2) ?_ ?_
   · intro v1 G1 ⟨fc1, dc1, x1, y1, g⟩ hf he
     dsimp only
     rw [gsets_at g.cells (by show 7 + 8 ≤ 17; decide), callK_some (sent_at (n := k) (by omega) _ (mem_ans hcode) (by rw [List.length_replicate]; omega)), oL_one, ← he]
     have g2 := g.upd v1.clear fc1 dc1 (.own 28 2 []) (.own 5 1 []) g.fr g.dc (.inl ⟨_, rfl⟩) (.inl ⟨_, rfl⟩)
     exact ⟨_, rfl, ⟨_, _, _, _, g2⟩, hf.trans (Frm.set (.inl rfl))⟩
   · intro j hj
     rw [rd_kind h.cells]
     cases h2 : (v.kind == (2 : Int)) with
     | true =>
      obtain ⟨G1, e1, e2, e3⟩ := reset_at k h
      rw [cond_true, callGK_some e1, castTup_tup, nilK_nil]
      refine hj v.reset G1 ⟨_, _, _, _, e2⟩ e3 ?_
      unfold answerV; rw [h2]; rfl
     | false =>
      have hk2 : v.kind ≠ 2 := by simpa using h2
      have hk1 : v.kind = 1 := by have := hV.kind; omega
      have hw : v.wants = 1 := by unfold V.wants; rw [hk1]; rfl
      rw [cond_false, hw]
      rw [guard_ok (by rfl)]
      show AnsGets p N G (List.replicate 1 (ansL code)) _ (cI .i64 [.int .i64 code] fun n17 r18 => _)
      rw [hw] at hj
      rw [cI_cons]
      by_cases h3 : code < 300
      · have hrc := hV.rc
        rw [cut_ok h3, tk_rc h.cells, gcells_at (g_self h.cells) (by show 10 + 2 ≤ 17; decide)]
        show AnsGets p N G _ _ (cS (.str v.c :: .str v.d :: [.int .i64 v.k, x, y, .int .i64 v.bad, .bool v.cl]) fun s22 r23 => _)
        rw [cS_cons, cS_cons, guard_ok (decide_eq_true (by show (v.rc.length + 2) * 1000 ≤ 1099511627776; omega)), pt_rc h.cells]
        have g2 := h.upd { v with rc := v.rc ++ [.str v.c, .str v.d] } fc dc x y h.fr h.dc h.x h.y
        refine hj _ _ ⟨_, _, _, _, g2⟩ (Frm.set (.inl rfl)) ?_
        unfold answerV; rw [h2, decide_eq_true h3]; rfl
      · rw [cut_no h3]
        refine hj v G ⟨_, _, _, _, h⟩ (Frm.refl _ _ _) ?_
        unfold answerV; rw [h2, decide_eq_false h3]; rfl
 · intro j hj
   rw [rd_kind h.cells, show (v.kind == (0 : Int)) = false by simpa using h0, cond_false, callGK_some (wants_at k h), oI_one, hLl, Nat.mul_div_cancel _ (by decide : 0 < 3), show (((v.wants : Nat) : Int) != ((v.wants : Nat) : Int)) = false by simp, cond_false, callK_some (containsF_at (n := k) (by omega) code hcode v.wants (by omega)), oB_one]
   exact hj
end AX
end Go.Proofs.YtnkppakkeobegaaGreatDoor
