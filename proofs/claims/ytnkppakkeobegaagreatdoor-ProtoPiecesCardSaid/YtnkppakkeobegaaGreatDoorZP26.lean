/-
  PgRun.
-/
import Derived.Test.YtnkppakkeobegaaGreatDoorZP25
set_option maxRecDepth 20000
set_option linter.unusedVariables false
set_option linter.unusedSimpArgs false
set_option linter.unusedSectionVars false
namespace Go.Proofs.YtnkppakkeobegaaGreatDoor
namespace AX
theorem str_ok {a b : LB} (h : a.length + b.length ≤ 100000000) {β : Type} {x y : β} : (bif decide (a.length + b.length ≤ strLim) then x else y) = x := cut_ok (by unfold strLim; omega)
theorem feed_at (k : Nat) {G : Heap} {p N : Nat} {v : V} (h : Rep G p N v) (l : LB) (hl : (v.buf.length + l.length) * 1000 ≤ rowLim) :
 ∃ G', acall AXE AXF (k + 1) 9 [.one (.gptr p 0), .one (.sl none 1 (byteCells l))] G = some (.tup [], G') ∧ Rep G' p N (v.add l) ∧ Frm N p G G' := by
 obtain ⟨fc, dc, x, y, h⟩ := h
 rw [f9_eq, f9_L, tk_buf h.cells, guard_ok (decide_eq_true (by rw [byteCells_len, byteCells_len]; exact hl)), ← byteCells_app, pt_buf h.cells]
 have h2 := h.upd (v.add l) fc dc x y h.fr h.dc h.x h.y
 exact ⟨_, rfl, ⟨_, _, _, _, h2⟩, Frm.set (.inl rfl)⟩
theorem build_loop {k NN : Nat} {G G' : Heap} {p N M : Nat} {v : V} {fc dc x y : Cell} (h : At G p N v fc dc x y) (code : Int) (hw : v.wants ≤ 20) (t : LB) (ht : t.length ≤ 5000) (b cuts : LC) (out asks : LB) (ho : out.length ≤ 50000000) (at_ idx : Int)
 (hA : acall AXE AXF (k + 1) 12 [.one (.gptr p 0), .one (.sl none 3 (List.replicate v.wants (ansL code)).flatten)] G = some (.tup [.one (.sl none 1 (byteCells t)), .one (.bool true)], G'))
 (s27 : Nat → LC → LC → Int → LB → LB → Int → Int → Heap → OR) : ∀ (m i : Nat), i ≤ v.wants → v.wants < i + m →
 loopJ (fun _ _ _ _ _ _ _ _ _ _ _ => none) (f13_B0 (acall AXE AXF (k + 1)) NN s27) m p b cuts code out asks at_ idx (List.replicate i (ansL code)).flatten (i : Int) G = s27 p b cuts code (out ++ t) asks at_ idx G'
 | 0, i, h1, h2 => by omega
 | m + 1, i, h1, h2 => by
  rw [loopJ_succ, f13_B0, callGK_some (wants_at k h), oI_one]
  by_cases hi : i < v.wants
  · have hl : ∀ i, (List.replicate i (ansL code)).flatten.length = i * 3 := fun i => by
     induction i with
     | zero => rfl
     | succ i ih => rw [List.replicate_succ, List.flatten_cons, List.length_append, ih]; show 3 + _ = _; omega
    rw [cut_ok (by omega), guard_ok (decide_eq_true (by rw [hl]; show (i * 3 + 3) * 1000 ≤ 1099511627776; omega)), wrap_ok (by omega) (by omega), show ((i : Int) + 1) = ((i + 1 : Nat) : Int) by omega]
    have e : (List.replicate i (ansL code)).flatten ++ [.int .i64 code, .str [], .sl none 1 [.str [115, 111]]] = (List.replicate (i + 1) (ansL code)).flatten := by
     rw [List.replicate_succ', List.flatten_append]; rfl
    rw [e]
    exact build_loop (M := M) h code hw t ht b cuts out asks ho at_ idx hA s27 m (i + 1) (by omega) (by omega)
  · have hi : i = v.wants := by omega
    rw [cut_no (by omega), hi, callGK_some hA, castTup_tup, zL_cons, zB_cons, nilK_nil, Bool.not_true, cond_false, pc_bytesK, str_ok (by omega)]
def RoundGets (p N M : Nat) (pf : LB → S_api_Cmd × Int) (code : Int) (G : Heap) (v : V) (b cuts : LC) (out asks : LB) (at_ i : Int) (s1 : Nat → LC → LC → Int → LB → LB → Int → Int → Heap → OR) (r : OR) : Prop :=
 ∃ o a v' G', r = s1 p b cuts code (out ++ o) (asks ++ a) at_ (IntKind.wrap .i64 (i + 1)) G' ∧ Rep G' p N v' ∧ Frm N p G G' ∧ VV M v' ∧ Dr pf rb code v o a v' ∧ v'.kind = 0 ∧ o.length + 6000 * meas v' ≤ 6000 * meas v ∧ a.length + 6000 * meas v' ≤ 6000 * meas v
theorem rounds_at {k : Nat} (hk : 3000 ≤ k) {p N M : Nat} (hM : M ≤ 2000) (hpf : PfOk (pv k)) (code : Int) (hcode : code = 250 ∨ code = 550) (NN : Nat) (hNN : 100 ≤ NN) (b cuts : LC) (at_ i : Int) (s1 : Nat → LC → LC → Int → LB → LB → Int → Int → Heap → OR) :
 ∀ (m : Nat) (G : Heap) (v : V) (out asks : LB), meas v < m → Rep G p N v → VV M v → out.length + 6000 * meas v ≤ 50000000 → asks.length + 6000 * meas v ≤ 50000000 →
 RoundGets p N M (pv k) code G v b cuts out asks at_ i s1 (loopJ (fun _ _ _ _ _ _ _ _ _ => none) (f13_B1 (acall AXE AXF (k + 4)) NN s1) m p b cuts code out asks at_ i G)
 | 0, G, v, out, asks, hm, _, _, _, _ => by omega
 | m + 1, G, v, out, asks, hm, h, hV, ho, ha => by
  obtain ⟨o, v', G', e1, e2, e3, e4, e5, e6⟩ := next_at hk hM hpf code h hV
  rw [List.nil_append] at e1
  rw [loopJ_succ, f13_B1, callGK_some e1, castTup_tup, zL_cons, consK_cons, aggV_agg, takeS_api_Ask_cells_nil, nilK_nil, nilK_nil, pc_bytesK, str_ok (by omega)]
  by_cases h0 : v'.kind = 0
  · rw [show (v'.ask.fKind == (0 : Int)) = true by show (v'.kind == (0 : Int)) = true; rw [h0]; rfl, cond_true]
    exact ⟨o, [], v', G', by rw [List.append_nil], e2, e3, e4, e5.1 h0, h0, by omega, by simp; omega⟩
  · have a1 : v'.ask.fRcpt_Local = v'.c := rfl
    have a2 : v'.ask.fRcpt_Domain = v'.d := rfl
    have a3 : v'.ask.fBody = byteCells v'.body := rfl
    have hcd := e4.cd
    have hbo := e4.body
    rw [show (v'.ask.fKind == (0 : Int)) = false by show (v'.kind == (0 : Int)) = false; simpa using h0, cond_false, a1, a2, a3]
    rw [str_ok (by omega), str_ok (by simp; omega), str_ok (by simp; omega), str_ok (by simp; omega), pc_bytesK, str_ok (by simp; omega), str_ok (by simp; omega)]
    obtain ⟨w1, w2, w3, w4, w5, w6⟩ := answer_ok e4 h0 hcode
    obtain ⟨G2, g1, g2, g3⟩ := answer_at (n := k + 3) (by omega) e2 e4 h0 code hcode
    have hs := sent_len _ w2
    have hwl : (answerV code v').1.length = v'.wants := List.length_replicate
    obtain ⟨fc, dc, x, y, e2'⟩ := e2
    have bl := build_loop (M := M) (NN := NN) e2' code w3 _ (by omega) b cuts (out ++ o) (((((asks ++ v'.c) ++ [64]) ++ v'.d) ++ [58]) ++ v'.body ++ [59]) (by rw [List.length_append]; omega) at_ i g1 (loopJ (fun _ _ _ _ _ _ _ _ _ => none) (f13_B1 (acall AXE AXF (k + 4)) NN s1) m) NN 0 (by omega) (by omega)
    refine Eq.mpr (congrArg (RoundGets p N M (pv k) code G v b cuts out asks at_ i s1) bl) ?_
    have hq : (askS v').length ≤ 5000 := by unfold askS; simp; omega
    have es : ((((asks ++ v'.c) ++ [64]) ++ v'.d) ++ [58]) ++ v'.body ++ [59] = asks ++ askS v' := by unfold askS; simp
    rw [es]
    obtain ⟨o', a', v2, G3, q1, q2, q3, q4, q5, q6, q7, q8⟩ := rounds_at hk hM hpf code hcode NN hNN b cuts at_ i s1 m G2 (answerV code v').2 (out ++ o ++ ((answerV code v').1.map rb).flatten) (asks ++ askS v') (by omega) g2 w1 (by rw [List.length_append, List.length_append]; omega) (by rw [List.length_append]; omega)
    refine ⟨o ++ (((answerV code v').1.map rb).flatten ++ o'), askS v' ++ a', v2, G3, ?_, q2, e3.trans (g3.trans q3), q4, e5.2 h0 _ _ _ (.ask h0 q5), q6, ?_, ?_⟩
    · rw [q1]; simp
    · rw [List.length_append, List.length_append]; omega
    · rw [List.length_append]; omega
def RunGets (p N : Nat) (pf : LB → S_api_Cmd × Int) (code : Int) (G : Heap) (v : V) (r : OR) : Prop :=
 ∃ o a v' G', r = some (.tup [.one (.str o), .one (.str a)], G') ∧ Dr pf rb code v o a v' ∧ Rep G' p N v' ∧ Frm N p G G'
theorem clamp (x a l : Int) (h : a ≤ l) : a ≤ minI (maxI x a) l ∧ minI (maxI x a) l ≤ l := by
 unfold minI maxI
 by_cases h1 : x < a
 · rw [decide_eq_true h1, condA_true]
   by_cases h2 : l < a
   · omega
   · rw [decide_eq_false h2, condA_false]; omega
 · rw [decide_eq_false h1, condA_false]
   by_cases h2 : l < x
   · rw [decide_eq_true h2, condA_true]; omega
   · rw [decide_eq_false h2, condA_false]; omega
theorem pieces_loop {k : Nat} (hk : 3000 ≤ k) {p N : Nat} (hpf : PfOk (pv k)) (code : Int) (hcode : code = 250 ∨ code = 550) (NN : Nat) (hNN : 3000 ≤ NN) (v0 : V) (b : LB) (hb : b.length ≤ 1000) (cuts : List Int) (hc : cuts.length ≤ 60) :
 ∀ (m i a0 : Nat) (G : Heap) (v : V) (out asks : LB), i ≤ cuts.length + 1 → cuts.length + 1 < i + m → a0 ≤ b.length → (i = cuts.length + 1 → a0 = b.length) → Rep G p N v → VV (2 * a0) v → Dr (pv k) rb code (v0.add (b.take a0)) out asks v → v.kind = 0 →
  out.length + 6000 * meas v ≤ 12000 * a0 → asks.length + 6000 * meas v ≤ 12000 * a0 →
 RunGets p N (pv k) code G (v0.add b) (loopJ (fun _ _ _ _ _ _ _ _ _ => none) (f13_B2 (acall AXE AXF (k + 4)) NN) m p (byteCells b) (cuts.map (.int .i64)) code out asks (a0 : Int) (i : Int) G)
 | 0, i, a0, G, v, out, asks, h1, h2, _, _, _, _, _, _, _, _ => by omega
 | m + 1, i, a0, G, v, out, asks, h1, h2, h3, h4, h, hV, hD, h0, ho, ha => by
  rw [loopJ_succ, f13_B2, List.length_map, Nat.div_one]
  by_cases hi : i ≤ cuts.length
  · rw [cut_ok (by omega)]
    refine join_prop (fun j => ∀ to : Int, (a0 : Int) ≤ to → to ≤ b.length → (i = cuts.length → to = b.length) → RunGets p N (pv k) code G (v0.add b) (j p (byteCells b) (cuts.map (.int .i64)) code out asks (a0 : Int) (i : Int) to G)) (Q := RunGets p N (pv k) code G (v0.add b)) ?_ ?_
    · intro to t1 t2 t3
      obtain ⟨n, rfl⟩ : ∃ n : Nat, to = (n : Int) := ⟨to.toNat, by omega⟩
      dsimp only
      have hbuf := hV.buf
      rw [cut_ok ⟨by omega, by omega, by rw [Int.toNat_natCast, Nat.div_one, byteCells_len]; omega⟩, Int.toNat_natCast, Int.toNat_natCast, Nat.mul_one, Nat.mul_one, byteCells_take, byteCells_drop]
      have hsp : b.take n = b.take a0 ++ (b.take n).drop a0 := by
       have := List.take_append_drop a0 (b.take n)
       rw [List.take_take, Nat.min_eq_left (by omega)] at this
       exact this.symm
      have hln : ((b.take n).drop a0).length = n - a0 := by rw [List.length_drop, List.length_take]; omega
      generalize hW : (b.take n).drop a0 = W at hsp hln
      obtain ⟨G1, g1, g2, g3⟩ := feed_at (k + 3) h W (by rw [hln]; show _ ≤ 1099511627776; omega)
      rw [callGK_some g1, castTup_tup, nilK_nil]
      have hVa := hV.add W
      rw [hln, show 2 * a0 + 2 * (n - a0) = 2 * n by omega] at hVa
      have hm : meas (v.add W) = meas v + 2 * (n - a0) := by
       rw [meas_0 h0, meas_0 (v := v.add W) h0]
       show 2 * (v.buf ++ W).length = _
       rw [List.length_append, hln]; omega
      have hm0 := meas_0 h0
      obtain ⟨o, a, v', G', q1, q2, q3, q4, q5, q6, q7, q8⟩ := rounds_at hk (M := 2 * n) (by omega) hpf code hcode NN (by omega) (byteCells b) (cuts.map (.int .i64)) (n : Int) (i : Int) (loopJ (fun _ _ _ _ _ _ _ _ _ => none) (f13_B2 (acall AXE AXF (k + 4)) NN) m) NN G1 (v.add W) out asks (by omega) g2 hVa (by omega) (by omega)
      rw [q1, wrap_ok (by omega) (by omega), show ((i : Int) + 1) = ((i + 1 : Nat) : Int) by omega]
      have hD2 := hD.app W q5
      rw [V.add_add, ← hsp] at hD2
      obtain ⟨o2, a2, v2, G2, r1, r2, r3, r4⟩ := pieces_loop hk hpf code hcode NN hNN v0 b hb cuts hc m (i + 1) n G' v' (out ++ o) (asks ++ a) (by omega) (by omega) (by omega) (fun e => by have := t3 (by omega); omega) q2 q4 hD2 q6 (by rw [List.length_append]; omega) (by rw [List.length_append]; omega)
      exact ⟨o2, a2, v2, G2, r1, r2, r3, g3.trans (q3.trans r4)⟩
    · intro j hj
      rw [byteCells_len, Nat.div_one]
      by_cases hl : i < cuts.length
      · rw [cut_ok (by omega), item_some (i := (i : Int)) (j := i) (a := Cell.int .i64 cuts[i]) rfl (by simp [hl]), castI_one]
        obtain ⟨c1, c2⟩ := clamp cuts[i] a0 b.length (by omega)
        exact hj _ c1 c2 fun e => by omega
      · rw [cut_no (by omega)]
        exact hj _ (by omega) (by omega) fun _ => rfl
  · rw [cut_no (by omega)]
    have e := h4 (by omega)
    rw [e, List.take_length] at hD
    exact ⟨out, asks, v, G, rfl, hD, h, Frm.refl _ _ _⟩
end AX
end Go.Proofs.YtnkppakkeobegaaGreatDoor
