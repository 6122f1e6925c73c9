/-
  PgFeed.
-/
import Derived.Test.YtnkppakkeobegaaGreatDoorZP21
set_option maxRecDepth 20000
set_option linter.unusedVariables false
set_option linter.unusedSimpArgs false
set_option linter.unusedSectionVars false
namespace Go.Proofs.YtnkppakkeobegaaGreatDoor
namespace AX
theorem dfeed_loop (k N : Nat) (q : Nat) (l : LB) (hl : l.length ≤ 1000) (j1 : Nat → Int → Heap → OR) : ∀ (m i : Nat) (G : Heap) (d : Dec), G[q]? = some (Dec.cells d) → i ≤ l.length → l.length < i + m → d.all.length + 2 * (l.length - i) ≤ 20000 → d.line + 2 * (l.length - i) ≤ 20000 →
 loopJ (fun _ _ _ _ => none) (f66_B0 (acall AXE AXF (k + 4)) N j1) m q (byteCells l) (i : Int) G = j1 q ((i + (d.feed (l.drop i)).2 : Nat) : Int) (G.set q (Dec.cells (d.feed (l.drop i)).1))
 | 0, i, G, d, h, h1, h2, _, _ => by omega
 | m + 1, i, G, d, h, h1, h2, h3, h4 => by
  rw [loopJ_succ, f66_B0, byteCells_len, Nat.div_one]
  by_cases hi : i < l.length
  · rw [cut_ok (by omega), dr_st h]
    have e : l.drop i = l[i] :: l.drop (i + 1) := List.drop_eq_getElem_cons hi
    by_cases h5 : d.st = 5
    · rw [h5, show (((5 : Nat) : Int) != 5) = false from rfl, cond_false, feed_done h5, set_same h]; rfl
    · have hs := step_len d l[i]
      rw [show ((d.st : Int) != 5) = true by rw [bne_iff_ne]; omega, cond_true, item_byte hi, castI_one, callGK_some (dstep_at k h (by omega) (by omega) _), castTup_tup, nilK_nil, wrap_ok (by omega) (by omega), show ((i : Int) + 1) = ((i + 1 : Nat) : Int) by omega]
      rw [dfeed_loop k N q l hl j1 m (i + 1) _ (d.step l[i]) (g_self h) (by omega) (by omega) (by omega) (by omega), e, List.set_set]
      simp only [Dec.feed, if_neg h5]
      refine congrArg (fun z : Nat => j1 q (z : Int) _) ?_
      omega
  · rw [cut_no (by omega), List.drop_of_length_le (by omega)]
    simp only [Dec.feed]
    rw [set_same h]; rfl
theorem beq5 (s : Nat) : ((s : Int) == 5) = Nat.beq s 5 := by
 by_cases h : s = 5
 · subst h; rfl
 · rw [show ((s : Int) == 5) = false by rw [beq_eq_false_iff_ne]; omega]
   cases hb : Nat.beq s 5 with
   | false => rfl
   | true => exact absurd (Nat.eq_of_beq_eq_true hb) h
theorem done_at (k : Nat) {G : Heap} {q : Nat} {d : Dec} (h : G[q]? = some (Dec.cells d)) : acall AXE AXF (k + 1) 97 [.one (.gptr q 0)] G = some (.one (.bool (Nat.beq d.st 5)), G) := by
 rw [f97_eq, f97_L, dr_st h, beq5]
theorem dfeed_at {n : Nat} (hn : 1100 ≤ n) {G : Heap} {q : Nat} {d : Dec} (h : G[q]? = some (Dec.cells d)) (l : LB) (hl : l.length ≤ 1000) (h1 : d.all.length + 2 * l.length ≤ 20000) (h2 : d.line + 2 * l.length ≤ 20000) :
 acall AXE AXF (n + 1) 66 [.one (.gptr q 0), .one (.sl none 1 (byteCells l))] G = some (.tup [.one (.int .i64 ((d.feed l).2 : Nat)), .one (.bool (Nat.beq (d.feed l).1.st 5))], G.set q (Dec.cells (d.feed l).1)) := by
 obtain ⟨k, rfl⟩ : ∃ k, n = k + 4 := ⟨n - 4, by omega⟩
 rw [f66_eq, f66_L, joinK_eq]
 have := dfeed_loop k (k + 4 + 1) q l hl (fun x13 x14 G15 => callGK (acall AXE AXF (k + 4)) 97 [.one (.gptr x13 0)] G15 fun v16 G17 => oB v16 fun b18 => some (.tup [.one (.int .i64 x14), .one (.bool b18)], G17)) (k + 4 + 1) 0 G d h (by omega) (by omega) (by omega) (by omega)
 refine this.trans ?_
 rw [List.drop_zero, Nat.zero_add, callGK_some (done_at (k + 3) (g_self h)), oB_one]
theorem bytesOf_cells : ∀ l : LB, bytesOf (byteCells l) = some l
 | [] => rfl
 | c :: r => by
  have hc := c.toNat_lt
  show (bif decide (0 ≤ (c.toNat : Int)) && decide ((c.toNat : Int) < 256) then (match bytesOf (byteCells r) with | some l => some (UInt8.ofNat (c.toNat : Int).toNat :: l) | none => none) else none) = _
  rw [decide_eq_true (by omega), decide_eq_true (by omega), bytesOf_cells r]
  simp
theorem bIndex_at (l : LB) (hl : l.length ≤ 1000000) : pBIndex [.one (.sl none 1 (byteCells l)), .one (.sl none 1 [.int .u8 13, .int .u8 10])] = some (.one (.int .i64 (Lib.index l [13, 10]))) := by
 show (match bytesOf (byteCells l), bytesOf [.int .u8 13, .int .u8 10] with | some l, some s => bif decide (l.length ≤ 1000000) && Nat.beq s.length 2 then some (AV.one (.int .i64 (Lib.index l s))) else none | _, _ => none) = _
 rw [bytesOf_cells]
 show (bif decide (l.length ≤ 1000000) && true then _ else _) = _
 rw [decide_eq_true hl]; rfl
theorem bClone_at (l : LB) (hl : l.length ≤ 1000000) : pBClone [.one (.sl none 1 (byteCells l))] = some (.one (.sl none 1 (byteCells l))) := by
 show (bif Nat.beq 1 1 && decide ((byteCells l).length ≤ 1000000) then (match bytesOf (byteCells l) with | some _ => some (AV.one (.sl none 1 (byteCells l))) | none => none) else _) = _
 rw [bytesOf_cells, byteCells_len, decide_eq_true hl]; rfl
theorem cG_own {R : Type} (e sz : Nat) (n r : List Cell) (k : List Cell → List Cell → Option R) : cG sz (.own e sz n :: r) k = k n r := castGL_own e sz n fun n => k n r
theorem text_at (k : Nat) {G : Heap} {q : Nat} {d : Dec} (h : G[q]? = some (Dec.cells d)) (hl : d.all.length ≤ 1000000) :
 acall AXE AXF (k + 1) 67 [.one (.gptr q 0)] G = some (.agg (⟨byteCells d.all, d.long, d.bare, false⟩ : S_api_Text).cells, G) := by
 rw [f67_eq, f67_L, gcells_at h (by show 3 + 4 ≤ 7; decide)]
 show (cG 1 (.own 5 1 (byteCells d.all) :: .bool d.long :: .bool d.bare :: [.bool false]) fun l2 r3 => _) = _
 rw [cG_own, cB_cons, cB_cons, cB_cons, primK_some (bClone_at _ hl), oL_one]
theorem At.dec_upd {G : Heap} {p N : Nat} {v : V} {fc x y : Cell} {q : Nat} {d : Dec} (h : At G p N v fc (.gptr q 0) x y) (hq : N ≤ q) (hd : G[q]? = some (Dec.cells d)) (d' : Dec) :
 At (G.set q (Dec.cells d')) p N { v with dec := some d' } fc (.gptr q 0) x y := by
 have hlt := h.lt
 refine ⟨h.lt, by rw [List.length_set]; exact h.len, by rw [g_other (by omega)]; exact h.cells, h.fr.mono fun q' c h1 h2 h3 => ?_, ⟨q, rfl, hq, g_self hd⟩, h.x, h.y⟩
 by_cases e : q' = q
 · subst e; rw [hd, Option.some.injEq] at h2; rw [← h2] at h3; exact absurd h3 (by show ¬ (7 = 3); decide)
 · rw [g_other e]; exact h2
def StepGets (p N : Nat) (G : Heap) (r : OR) (o : Option (List LC)) (v' : V) : Prop := ∃ nm G', r = some (.tup [.one (.sl nm 3 (o.getD []).flatten), .one (.bool o.isSome)], G') ∧ Rep G' p N v' ∧ Frm N p G G' ∧ (nm = none ∨ nm = some ⟨2, 0, 39⟩)
theorem many_at {G : Heap} {p N : Nat} {v : V} {fc dc x y : Cell} (h : At G p N v fc dc x y) : pMany [.one (.gptr p 0)] G = some (.one (.int .i64 ((v.many : Nat) : Int))) := by
 unfold pMany
 simp only [h.cells, V.cells]
 unfold V.many
 cases v.lm <;> rfl
theorem repeat_at (c e l : Cell) (m : Nat) (hm : m ≤ 1000) : pRepeat [.one (.sl none 3 [c, e, l]), .one (.int .i64 (m : Int))] = some (.one (.sl none 3 (List.replicate m [c, e, l]).flatten)) := by
 show (bif true && (true && (decide (0 ≤ (m : Int)) && decide ((m : Int) ≤ 1000))) then some (AV.one (.sl none 3 (List.replicate (Int.toNat m) [c, e, l]).flatten)) else none) = _
 rw [decide_eq_true (by omega), decide_eq_true (by omega), Int.toNat_natCast]; rfl
theorem byteCells_drop (l : LB) (n : Nat) : (byteCells l).drop n = byteCells (l.drop n) := by simp [byteCells]
theorem byteCells_take (l : LB) (n : Nat) : (byteCells l).take n = byteCells (l.take n) := by simp [byteCells]
theorem message_at {n : Nat} (hn : 1150 ≤ n) (pf : LB → S_api_Cmd × Int) {G : Heap} {p N : Nat} {v : V} (h : Rep G p N v) {d : Dec} (hd : v.dec = some d) (hb : v.buf.length ≤ 1000) (ha : d.all.length + 2 * v.buf.length ≤ 20000) (hli : d.line + 2 * v.buf.length ≤ 20000) (hfr : v.fr ≠ none) (hrc : v.rc.length / 2 ≤ 20) :
 StepGets p N G (acall AXE AXF (n + 1) 46 [.one (.gptr p 0)] G) (stepV pf v).1 (stepV pf v).2 := by
 obtain ⟨fc, dc, x, y, h⟩ := h
 have hdc := h.dc
 rw [hd] at hdc
 obtain ⟨q, rfl, hq, eq⟩ := hdc
 obtain ⟨k, rfl⟩ : ∃ k, n = k + 1 := ⟨n - 1, by omega⟩
 rw [f46_eq, f46_L, joinK_eq, rd_dc h.cells]
 rw [castP_ptr, rd_buf h.cells, callGK_some (dfeed_at (n := k) (by omega) eq v.buf hb ha hli), castTup_tup, zI_cons, zB_cons, nilK_nil]
 have hfl := feed_le v.buf d
 have hfa := feed_len v.buf d
 generalize hF : d.feed v.buf = F at hfl hfa ⊢
 obtain ⟨d', c⟩ := F
 simp only at hfl hfa
 dsimp only
 have h1 := h.dec_upd hq eq d'
 rw [tk_buf h1.cells, cut_ok ⟨by omega, by rw [Int.toNat_natCast, Nat.div_one, byteCells_len]; exact hfl⟩, Int.toNat_natCast, Nat.mul_one, byteCells_drop, pt_buf h1.cells]
 have h2 := h1.upd { v with dec := some d', buf := v.buf.drop c } fc (.gptr q 0) x y h1.fr h1.dc h1.x h1.y
 have f2 := (Frm.set (N := N) (p := p) (G := G) (c := Dec.cells d') (.inr hq)).trans (Frm.set (c := ({ v with dec := some d', buf := v.buf.drop c } : V).cells fc (.gptr q 0) x y) (.inl rfl))
 unfold stepV
 rw [hd]
 dsimp only
 rw [hF]
 dsimp only
 cases h5 : Nat.beq d'.st 5 with
 | false =>
  rw [Bool.not_false, cond_true, cond_false]
  exact ⟨_, _, rfl, ⟨fc, _, x, y, h2⟩, f2, .inr rfl⟩
 | true =>
  rw [Bool.not_true, cond_false, cond_true]
  generalize hG2 : (G.set q (Dec.cells d')).set p (({ v with dec := some d', buf := v.buf.drop c } : V).cells fc (.gptr q 0) x y) = G2 at h2 f2 ⊢
  have hG2' : G2 = (G.set q (Dec.cells d')).set p (({ v with dec := some d', buf := v.buf.drop c } : V).cells fc (.gptr q 0) x y) := hG2.symm
  have eq2 : G2[q]? = some (Dec.cells d') := by
   have := h.lt
   rw [hG2', g_other (by omega)]; exact g_self eq
  rw [joinK_eq]
  dsimp only
  rw [rd_dc h2.cells, castP_ptr, callGK_some (text_at k eq2 (by omega)), castAgg_agg, takeS_api_Text_cells_nil, nilK_nil]
  dsimp only
  rw [wr_dc h2.cells none]
  have h3 := h2.upd { v with dec := none, buf := v.buf.drop c } fc .nilp x y h2.fr rfl h2.x h2.y
  have f3 := f2.trans (Frm.set (c := ({ v with dec := none, buf := v.buf.drop c } : V).cells fc .nilp x y) (.inl rfl))
  generalize hG3 : G2.set p (({ v with dec := none, buf := v.buf.drop c } : V).cells fc .nilp x y) = G3 at h3 f3 ⊢
  generalize hW : messageV d' { v with dec := none, buf := v.buf.drop c } = W
  obtain ⟨wl, wv⟩ := W
  refine join_prop (fun j => ∀ (t : S_api_Text) (cc : Int) (e : LB) (ls : LC), wl = List.replicate v.many [.int .i64 cc, .str e, .sl none 1 ls] → wv = ({ v with dec := none, buf := v.buf.drop c } : V).reset → StepGets p N G (j p t cc e ls G3) (some wl) wv) (Q := fun r => StepGets p N G r (some wl) wv) ?_ ?_
  · intro t cc e ls e1 e2
    dsimp only
    have hm : v.many ≤ 1000 := by unfold V.many; cases v.lm <;> simp <;> omega
    obtain ⟨G4, g1, g2, g3⟩ := reset_at k h3
    rw [primGK_some (many_at h3), oI_one, show ({ v with dec := none, buf := v.buf.drop c } : V).many = v.many from rfl, primK_some (repeat_at _ _ _ _ hm), oL_one, callGK_some g1, castTup_tup, nilK_nil, e1, e2]
    exact ⟨_, _, rfl, ⟨_, _, _, _, g2⟩, f3.trans g3, .inl rfl⟩
  · intro j hj
    unfold messageV at hW
    cases hba : d'.bare with
    | true =>
     rw [hba, cond_true] at hW
     rw [cond_true, say_k k]
     cases hW
     exact hj _ _ _ _ rfl rfl
    | false =>
     rw [hba, cond_false] at hW
     rw [cond_false]
     cases hlo : d'.long with
     | true =>
      rw [hlo, cond_true] at hW
      rw [cond_true, say_k k]
      cases hW
      exact hj _ _ _ _ rfl rfl
     | false =>
      rw [hlo, cond_false] at hW
      rw [cond_false, cond_false]
      have hfrc := h3.fr
      cases hv : v.fr with
      | none => exact absurd hv hfr
      | some t =>
       obtain ⟨u, w, m⟩ := t
       simp only [hv] at hW hfrc
       obtain ⟨q', rfl, hq', e2⟩ := hfrc
       rw [rd_fr h3.cells, castP_ptr, gcells_at e2 (by show 0 + 0 + 2 ≤ 3; decide)]
       show StepGets p N G (gP G3 p 4 none fun b79 o80 => _) _ _
       rw [rd_fr h3.cells, castP_ptr]
       show StepGets p N G (gcell G3 q' 2 fun c => castI .i64 c fun n => _) _ _
       rw [gcell_at e2 rfl, castI_one, rd_rc h3.cells, gsets_at h3.cells (by show 7 + 8 ≤ 17; decide)]
       cases hW
       have h4 := h3.upd { v with dec := none, buf := v.buf.drop c, kind := 2, a := u, b := w, c := [], d := [], k := m, to := v.rc, body := d'.all } (.gptr q' 0) .nilp (.sl none 2 v.rc) (.sl none 1 (byteCells d'.all)) h3.fr rfl (.inr rfl) (.inr rfl)
       have f4 := f3.trans (Frm.set (c := ({ v with dec := none, buf := v.buf.drop c, kind := 2, a := u, b := w, c := [], d := [], k := m, to := v.rc, body := d'.all } : V).cells (.gptr q' 0) .nilp (.sl none 2 v.rc) (.sl none 1 (byteCells d'.all))) (.inl rfl))
       rw [hv] at h4
       exact ⟨_, _, rfl, ⟨_, _, _, _, h4⟩, f4, .inr rfl⟩
end AX
end Go.Proofs.YtnkppakkeobegaaGreatDoor
