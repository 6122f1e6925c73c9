/-
  PcRun.
-/
import Derived.Test.YtnkppakkeobegaaGreatDoorZC23
set_option maxRecDepth 20000
set_option linter.unusedVariables false
set_option linter.unusedSimpArgs false
set_option linter.unusedSectionVars false
namespace Go.Proofs.YtnkppakkeobegaaGreatDoor
namespace AX
theorem feed_at (k : Nat) {G : Heap} {p : Nat} {s : Ses} (h : G[p]? = some s.cells) (l : LC) (hl : (s.buf.length + l.length) * 1000 ≤ rowLim) :
 acall AXE AXF (k + 1) 9 [.one (.gptr p 0), .one (.sl none 1 l)] G = some (.tup [], G.set p ({ s with buf := s.buf ++ l } : Ses).cells) := by
 rw [f9_eq, f9_L, tk_buf h, guard_ok (decide_eq_true hl), pt_buf h]
theorem wants_at (k : Nat) {G : Heap} {p : Nat} {s : Ses} (h : G[p]? = some s.cells) (h1 : s.kind = 1) : acall AXE AXF (k + 1) 11 [.one (.gptr p 0)] G = some (.one (.int .i64 1), G) := by
 rw [f11_eq, f11_L, rd_kind h, h1]; rfl
theorem closed_at (k : Nat) {G : Heap} {p : Nat} {s : Ses} (h : G[p]? = some s.cells) : acall AXE AXF (k + 1) 14 [.one (.gptr p 0)] G = some (.one (.bool s.cl), G) := by
 rw [f14_eq, f14_L, rd_cl h]
def Ses.ask (s : Ses) : S_api_Ask := ⟨s.kind, s.a, s.b, s.c, s.d, s.k, [], []⟩
theorem copy_at (k : Nat) (w : S_api_Ask) (h1 : w.fTo = []) (h2 : w.fBody = []) : acall AXE AXF (k + 1) 29 [.agg w.cells] [] = some (.agg w.cells, []) := by
 rw [f29_eq, f29_L, h1, h2]
 obtain ⟨a, b, c, d, e, f, g, i⟩ := w
 cases h1; cases h2
 rfl
def nextV (out : LB) (s : Ses) (G : Heap) : OR := some (.tup [.one (.sl (some ⟨2, 0, 5⟩) 1 (byteCells out)), .agg s.ask.cells], G)
theorem next_join {n : Nat} {G : Heap} {p : Nat} (Q : OR → Prop) (h : ∀ j : Nat → LC → Int → LB → LB → LB → LB → Int → LC → LC → Heap → OR,
 (∀ (out : LB) (G' : Heap) (s : Ses), Sok G' p s → j p (byteCells out) 0 [] [] [] [] 0 [] [] G' = nextV out s G') → Q (loopJ (fun _ _ _ _ _ _ _ _ _ _ _ => none) (f10_B0 (acall AXE AXF (n + 1)) (n + 1 + 1) j) (n + 1 + 1) p [] 0 [] [] [] [] 0 [] [] G)) :
 Q (acall AXE AXF (n + 2) 10 [.one (.gptr p 0)] G) := by
 rw [f10_eq, f10_L]
 refine join_prop (fun j => ∀ (out : LB) (G' : Heap) (s : Ses), Sok G' p s → j p (byteCells out) 0 [] [] [] [] 0 [] [] G' = nextV out s G') (Q := Q) ?_ h
 intro out G' s hS
 dsimp only
 rw [gcells_at hS.at_ (by show 7 + 8 ≤ 17; decide)]
 show (cI .i64 (.int .i64 s.kind :: .str s.a :: .str s.b :: .str s.c :: .str s.d :: .int .i64 s.k :: s.x :: s.y :: .int .i64 s.bad :: [.bool s.cl]) fun n37 r38 => _) = _
 rw [cI_cons, cS_cons, cS_cons, cS_cons, cS_cons, cI_cons]
 show (castGL 2 s.x fun l49 => castGL 1 s.y fun l51 => _) = _
 rw [hS.x.cast, hS.y.cast]
 show (callK (acall AXE AXF (n + 1)) 29 [.agg s.ask.cells] fun v53 => _) = _
 rw [callK_some (copy_at n s.ask rfl rfl), castAgg_agg, takeS_api_Ask_cells_nil, nilK_nil]
 rfl
theorem round_idle {k m : Nat} {G : Heap} {p : Nat} {s : Ses} (h : Sok G p s) (hi : s.kind ≠ 0 ∨ s.cl = true ∨ s.buf = []) (j : Nat → LC → Int → LB → LB → LB → LB → Int → LC → LC → Heap → OR) (out : LC) (N : Nat) :
 loopJ (fun _ _ _ _ _ _ _ _ _ _ _ => none) (f10_B0 (acall AXE AXF (k + 1)) N j) (m + 1) p out 0 [] [] [] [] 0 [] [] G = j p out 0 [] [] [] [] 0 [] [] G := by
 rw [loopJ_succ, f10_B0, rd_kind h.at_]
 by_cases h0 : s.kind = 0
 · rw [h0, beq_self_eq_true, cond_true, rd_cl h.at_]
   cases hc : s.cl with
   | true => rfl
   | false =>
    rcases hi with hi | hi | hi
    · exact absurd h0 hi
    · rw [hi] at hc; cases hc
    · rw [Bool.not_false, cond_true, callGK_some (step_none k h hi), castTup_tup, zL_cons, zB_cons, nilK_nil]
      rfl
 · rw [show (s.kind == 0) = false by simpa using h0, cond_false]
theorem next_idle (n : Nat) {G : Heap} {p : Nat} {s : Ses} (h : Sok G p s) (hi : s.cl = true ∨ s.buf = []) : acall AXE AXF (n + 2) 10 [.one (.gptr p 0)] G = nextV [] s G := by
 refine next_join (fun r => r = nextV [] s G) fun j hj => ?_
 rw [round_idle h (.inr hi)]
 exact hj [] G s h
def NextRes (p : Nat) (s : Ses) (r : OR) : Prop := ∃ (out : LB) (G' : Heap) (s' : Ses), r = nextV out s' G' ∧ Sok G' p s' ∧ s'.buf = [] ∧ s'.lm = s.lm ∧ s.bad ≤ s'.bad ∧ s'.bad ≤ s.bad + 1 ∧ out.length ≤ 400 ∧
  ((s'.kind = 0 ∧ ∃ r, (∀ n, acall AXE AXF (n + 200) 15 [.one (.str out), .one (.bool false)] [] = some (.tup [.one (.sl (some ⟨4, 0, 39⟩) 3 r), .one (.int .i64 0)], [])) ∧ (r.length = 3 ∨ (r.length = 6 ∧ code2 r = [.int .i64 421] ∧ s'.cl = true))) ∨
   (out = [] ∧ s'.kind = 1 ∧ s'.cl = false ∧ s'.c.length ≤ 1000 ∧ s'.d.length ≤ 1000 ∧ s'.rc.length ≤ 39))
theorem next_at {n : Nat} (hn : 1170 ≤ n) {G : Heap} {p : Nat} {s : Ses} (h : Sok G p s) (h0 : s.kind = 0) (hcl : s.cl = false) (hbad : 0 ≤ s.bad ∧ s.bad ≤ 1000) (l : LB) (hl : l.length ≤ 900) (h13 : ∀ c ∈ l, c ≠ 13)
    (hD : ¬ (4 ≤ l.length ∧ (l[0]? = some 68 ∨ l[0]? = some 100))) (hb : s.buf = byteCells (l ++ [13, 10])) : NextRes p s (acall AXE AXF (n + 2) 10 [.one (.gptr p 0)] G) := by
  refine next_join (NextRes p s) fun j hj => ?_
  rw [loopJ_succ, f10_B0, rd_kind h.at_, h0, beq_self_eq_true, cond_true, rd_cl h.at_, hcl, Bool.not_false, cond_true]
  obtain ⟨L, G', s', e1, e2, e3, e4, e5, e6, e7⟩ := step_at (n := n) (by omega) h h0 hcl hbad l hl h13 hD hb
  rw [callGK_some e1, castTup_tup, zL_cons, zB_cons, nilK_nil, Bool.not_true, cond_false]
  obtain ⟨k, rfl⟩ : ∃ k, n = k + 59 := ⟨n - 59, by omega⟩
  have key : ∀ (t : LB), t.length ≤ 400 → acall AXE AXF (k + 60) 28 [.one (.sl none 3 L)] [] = some (.one (.sl (some ⟨2, 0, 5⟩) 1 (byteCells t)), []) →
      ((s'.kind = 0 ∧ ∃ r, (∀ n, acall AXE AXF (n + 200) 15 [.one (.str t), .one (.bool false)] [] = some (.tup [.one (.sl (some ⟨4, 0, 39⟩) 3 r), .one (.int .i64 0)], [])) ∧ (r.length = 3 ∨ (r.length = 6 ∧ code2 r = [.int .i64 421] ∧ s'.cl = true))) ∨
       (t = [] ∧ s'.kind = 1 ∧ s'.cl = false ∧ s'.c.length ≤ 1000 ∧ s'.d.length ≤ 1000 ∧ s'.rc.length ≤ 39)) →
      NextRes p s (callK (acall AXE AXF (k + 59 + 1)) 28 [.one (.sl none 3 L)] fun v23 => oL 1 v23 fun l24 => guardB (decide ((([] : LC).length + l24.length) * 1000 ≤ rowLim))
        (loopJ (fun _ _ _ _ _ _ _ _ _ _ _ => none) (f10_B0 (acall AXE AXF (k + 59 + 1)) (k + 59 + 1 + 1) j) (k + 59 + 1) p ([] ++ l24) 0 [] [] [] [] 0 [] [] G')) := by
    intro t ht h1 h2
    rw [callK_some h1, oL_one, guard_ok (decide_eq_true (by rw [byteCells_len]; show (0 + t.length) * 1000 ≤ 1099511627776; omega)), List.nil_append, round_idle e2 (.inr (.inr e3))]
    exact ⟨t, G', s', hj t G' s' e2, e2, e3, e4, e5, e6, ht, h2⟩
  rcases e7 with ⟨hO, hk⟩ | ⟨rfl, hk⟩
  · rcases hO with hL | ⟨⟨B, hB, rfl⟩, hc⟩
    · obtain ⟨t, r, q⟩ := sent_rep L hL
      exact key t q.len (q.sent k) (.inl ⟨hk, r, q.all, .inl q.num⟩)
    · obtain ⟨t, r, q, q2⟩ := sent_bad B hB
      exact key t q.len (q.sent k) (.inl ⟨hk, r, q.all, .inr ⟨q.num, q2, hc⟩⟩)
  · exact key [] (by simp) (sent_nil k) (.inr ⟨rfl, hk⟩)
theorem answer_at {n : Nat} (hn : 100 ≤ n) {G : Heap} {p : Nat} {s : Ses} (h : Sok G p s) (h1 : s.kind = 1) (h39 : s.rc.length ≤ 39) (code : Int) (hcode : code = 250 ∨ code = 550) :
 ∃ (t : LB) (r : LC) (G' : Heap) (s' : Ses), acall AXE AXF (n + 1) 12 [.one (.gptr p 0), .one (.sl none 3 (ansL code))] G = some (.tup [.one (.sl none 1 (byteCells t)), .one (.bool true)], G') ∧ SentOk (ansL code) 1 t r ∧
  Sok G' p s' ∧ s'.kind = 0 ∧ s'.buf = s.buf ∧ s'.lm = s.lm ∧ s'.bad = s.bad ∧ s'.cl = s.cl := by
 rw [f12_eq, f12_L]
 obtain ⟨k, rfl⟩ : ∃ k, n = k + 60 := ⟨n - 60, by omega⟩
 have hgood : acall AXE AXF (k + 60) 31 [.one (.sl none 3 (ansL code)), .one (.clo 32 0 [])] [] = some (.one (.bool false), []) := by
  rcases hcode with rfl | rfl
  · exact good_250 k
  · exact good_550 k
 obtain ⟨t, r, q⟩ : ∃ t r, SentOk (ansL code) 1 t r := by
  rcases hcode with rfl | rfl
  · exact ⟨_, _, so_a250⟩
  · exact ⟨_, _, so_a550⟩
 refine join_prop (fun j => ∃ (G' : Heap) (s' : Ses), j p (ansL code) false G = some (.tup [.one (.sl none 1 (byteCells t)), .one (.bool true)], G') ∧ Sok G' p s' ∧ s'.kind = 0 ∧ s'.buf = s.buf ∧ s'.lm = s.lm ∧ s'.bad = s.bad ∧ s'.cl = s.cl)
  (Q := fun o : OR => ∃ (t : LB) (r : LC) (G' : Heap) (s' : Ses), o = some (.tup [.one (.sl none 1 (byteCells t)), .one (.bool true)], G') ∧ SentOk (ansL code) 1 t r ∧ Sok G' p s' ∧ s'.kind = 0 ∧ s'.buf = s.buf ∧ s'.lm = s.lm ∧ s'.bad = s.bad ∧ s'.cl = s.cl) ?_ ?_
 · dsimp only
   rw [cond_false]
   refine join_prop (fun j => ∀ (l : LC), l.length ≤ 41 → ∃ (G' : Heap) (s' : Ses), j p (ansL code) (G.set p ({ s with rc := l } : Ses).cells) = some (.tup [.one (.sl none 1 (byteCells t)), .one (.bool true)], G') ∧ Sok G' p s' ∧ s'.kind = 0 ∧ s'.buf = s.buf ∧ s'.lm = s.lm ∧ s'.bad = s.bad ∧ s'.cl = s.cl)
    (Q := fun o : OR => ∃ (G' : Heap) (s' : Ses), o = some (.tup [.one (.sl none 1 (byteCells t)), .one (.bool true)], G') ∧ Sok G' p s' ∧ s'.kind = 0 ∧ s'.buf = s.buf ∧ s'.lm = s.lm ∧ s'.bad = s.bad ∧ s'.cl = s.cl) ?_ ?_
   · intro l hl
     dsimp only
     rw [gsets_at (g_self h.at_) (by show 7 + 8 ≤ 17; decide), List.set_set, callK_some (q.sent k), oL_one]
     exact ⟨_, { s with rc := l, kind := 0, a := [], b := [], c := [], d := [], k := 0, x := .own 28 2 [], y := .own 5 1 [] }, rfl, h.upd (s' := { s with rc := l, kind := 0, a := [], b := [], c := [], d := [], k := 0, x := .own 28 2 [], y := .own 5 1 [] }) (.inl rfl) hl (.inl ⟨_, rfl⟩) (.inl ⟨_, rfl⟩), rfl, rfl, rfl, rfl, rfl⟩
   · intro j hj
     rw [rd_kind h.at_, h1]
     rw [show ((1 : Int) == 2) = false from rfl, cond_false, guard_ok (b := decide (0 ≤ (0 : Int)) && decide ((Int.toNat (0 : Int)) * 3 + 3 ≤ (ansL code).length)) rfl, show (((((ansL code).drop ((Int.toNat (0 : Int)) * 3)).take 3).drop 0).take 1) = [.int .i64 code] from rfl, cI_cons]
     have same : G.set p s.cells = G := by
      have hlt := g_lt h.at_
      have := h.at_
      rw [List.getElem?_eq_getElem hlt, Option.some.injEq] at this
      rw [← this, List.set_getElem_self]
     rcases hcode with rfl | rfl
     · rw [cut_ok (by decide), tk_rc h.at_, gcells_at (g_self h.at_) (by show 10 + 2 ≤ 17; decide)]
       show ∃ (G' : Heap) (s' : Ses), (cS (.str s.c :: .str s.d :: [.int .i64 s.k, s.x, s.y, .int .i64 s.bad, .bool s.cl]) fun s22 r23 => _) = _ ∧ _
       rw [cS_cons, cS_cons, guard_ok (decide_eq_true (by show (s.rc.length + 2) * 1000 ≤ 1099511627776; omega)), pt_rc h.at_]
       exact hj _ (by simp; omega)
     · rw [cut_no (by decide)]
       have := hj s.rc (by omega)
       rw [show ({ s with rc := s.rc } : Ses) = s from rfl, same] at this
       exact this
 · intro j ⟨G', s', hj⟩
   rw [rd_kind h.at_, h1]
   rw [show ((1 : Int) == 0) = false from rfl, cond_false, callGK_some (wants_at (k + 59) h.at_ h1), oI_one, show ((((ansL code).length / 3 : Nat) : Int) != 1) = false by rw [show (ansL code).length = 3 from rfl]; rfl, cond_false, callK_some hgood, oB_one]
   exact ⟨t, r, G', s', hj.1, q, hj.2⟩
end AX
end Go.Proofs.YtnkppakkeobegaaGreatDoor
