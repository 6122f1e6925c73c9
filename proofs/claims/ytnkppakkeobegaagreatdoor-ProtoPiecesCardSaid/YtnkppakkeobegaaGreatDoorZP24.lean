/-
  PgRep, PgStep.
-/
import Derived.Test.YtnkppakkeobegaaGreatDoorZP22
import Derived.Test.YtnkppakkeobegaaGreatDoorZP23
set_option maxRecDepth 20000
set_option linter.unusedVariables false
set_option linter.unusedSimpArgs false
set_option linter.unusedSectionVars false
namespace Go.Proofs.YtnkppakkeobegaaGreatDoor
namespace AX
structure RB (r : LC) (s : LB) (w : S_api_Reply) : Prop where
 cells : r = w.cells
 bytes : pBytes [.agg r] = some (.tup [.one (.sl none 1 (byteCells s)), .one (.int .i64 0)])
 len : s.length ≤ 200
def rb (r : LC) : LB := match pBytes [.agg r] with
 | some (.tup (.one (.sl _ _ cs) :: _)) => (bytesOf cs).getD []
 | _ => []
theorem RB.eq {r : LC} {s : LB} {w : S_api_Reply} (h : RB r s w) : rb r = s := by
 unfold rb; rw [h.bytes]
 show (bytesOf (byteCells s)).getD [] = s
 rw [bytesOf_cells]; rfl
theorem rb0 : ∃ w, RB r500 [53, 48, 48, 32, 53, 46, 53, 46, 50, 32, 119, 104, 97, 116, 32, 105, 115, 32, 116, 104, 97, 116, 13, 10] w := ⟨⟨_, _, _⟩, rfl, by kernel_rfl, by decide⟩
theorem rb1 : ∃ w, RB r501 [53, 48, 49, 32, 53, 46, 53, 46, 52, 32, 110, 111, 116, 32, 115, 111, 13, 10] w := ⟨⟨_, _, _⟩, rfl, by kernel_rfl, by decide⟩
theorem rb2 : ∃ w, RB r555 [53, 53, 53, 32, 53, 46, 53, 46, 52, 32, 110, 111, 32, 115, 117, 99, 104, 32, 112, 97, 114, 97, 109, 101, 116, 101, 114, 13, 10] w := ⟨⟨_, _, _⟩, rfl, by kernel_rfl, by decide⟩
theorem rb3 : ∃ w, RB r503 [53, 48, 51, 32, 53, 46, 53, 46, 49, 32, 110, 111, 116, 32, 110, 111, 119, 13, 10] w := ⟨⟨_, _, _⟩, rfl, by kernel_rfl, by decide⟩
theorem rb4 : ∃ w, RB rHelo [50, 53, 48, 32, 120, 46, 111, 114, 103, 13, 10] w := ⟨⟨_, _, _⟩, rfl, by kernel_rfl, by decide⟩
theorem rb5 : ∃ w, RB rEhlo [50, 53, 48, 45, 120, 46, 111, 114, 103, 13, 10, 50, 53, 48, 45, 80, 73, 80, 69, 76, 73, 78, 73, 78, 71, 13, 10, 50, 53, 48, 45, 83, 73, 90, 69, 32, 51, 50, 55, 54, 56, 13, 10, 50, 53, 48, 45, 56, 66, 73, 84, 77, 73, 77, 69, 13, 10, 50, 53, 48, 32, 69, 78, 72, 65, 78, 67, 69, 68, 83, 84, 65, 84, 85, 83, 67, 79, 68, 69, 83, 13, 10] w := ⟨⟨_, _, _⟩, rfl, by kernel_rfl, by decide⟩
theorem rb6 : ∃ w, RB r552 [53, 53, 50, 32, 53, 46, 51, 46, 52, 32, 116, 111, 111, 32, 108, 97, 114, 103, 101, 13, 10] w := ⟨⟨_, _, _⟩, rfl, by kernel_rfl, by decide⟩
theorem rb7 : ∃ w, RB rMail [50, 53, 48, 32, 50, 46, 49, 46, 48, 32, 111, 107, 13, 10] w := ⟨⟨_, _, _⟩, rfl, by kernel_rfl, by decide⟩
theorem rb8 : ∃ w, RB r452 [52, 53, 50, 32, 52, 46, 53, 46, 51, 32, 116, 111, 111, 32, 109, 97, 110, 121, 13, 10] w := ⟨⟨_, _, _⟩, rfl, by kernel_rfl, by decide⟩
theorem rb9 : ∃ w, RB r554 [53, 53, 52, 32, 53, 46, 53, 46, 49, 32, 110, 111, 32, 114, 101, 99, 105, 112, 105, 101, 110, 116, 115, 13, 10] w := ⟨⟨_, _, _⟩, rfl, by kernel_rfl, by decide⟩
theorem rb10 : ∃ w, RB r354 [51, 53, 52, 32, 103, 111, 32, 111, 110, 13, 10] w := ⟨⟨_, _, _⟩, rfl, by kernel_rfl, by decide⟩
theorem rb11 : ∃ w, RB rOk [50, 53, 48, 32, 50, 46, 48, 46, 48, 32, 111, 107, 13, 10] w := ⟨⟨_, _, _⟩, rfl, by kernel_rfl, by decide⟩
theorem rb12 : ∃ w, RB r252 [50, 53, 50, 32, 50, 46, 53, 46, 48, 32, 112, 101, 114, 104, 97, 112, 115, 13, 10] w := ⟨⟨_, _, _⟩, rfl, by kernel_rfl, by decide⟩
theorem rb13 : ∃ w, RB r214 [50, 49, 52, 32, 50, 46, 48, 46, 48, 32, 110, 111, 110, 101, 13, 10] w := ⟨⟨_, _, _⟩, rfl, by kernel_rfl, by decide⟩
theorem rb14 : ∃ w, RB r221 [50, 50, 49, 32, 50, 46, 48, 46, 48, 32, 98, 121, 101, 13, 10] w := ⟨⟨_, _, _⟩, rfl, by kernel_rfl, by decide⟩
theorem rb15 : ∃ w, RB r421 [52, 50, 49, 32, 52, 46, 55, 46, 48, 32, 116, 111, 111, 32, 109, 97, 110, 121, 32, 101, 114, 114, 111, 114, 115, 13, 10] w := ⟨⟨_, _, _⟩, rfl, by kernel_rfl, by decide⟩
theorem rb16 : ∃ w, RB rBare [53, 53, 52, 32, 53, 46, 54, 46, 48, 32, 98, 97, 114, 101, 32, 108, 105, 110, 101, 32, 101, 110, 100, 13, 10] w := ⟨⟨_, _, _⟩, rfl, by kernel_rfl, by decide⟩
theorem rb17 : ∃ w, RB rLong [53, 53, 52, 32, 53, 46, 54, 46, 48, 32, 108, 111, 110, 103, 32, 108, 105, 110, 101, 13, 10] w := ⟨⟨_, _, _⟩, rfl, by kernel_rfl, by decide⟩
theorem rb18 : ∃ w, RB (ansL 250) [50, 53, 48, 32, 115, 111, 13, 10] w := ⟨⟨_, _, _⟩, rfl, by kernel_rfl, by decide⟩
theorem rb19 : ∃ w, RB (ansL 550) [53, 53, 48, 32, 115, 111, 13, 10] w := ⟨⟨_, _, _⟩, rfl, by kernel_rfl, by decide⟩
theorem rb_all : ∀ r ∈ RepsA, ∃ s w, RB r s w := by
 simp only [RepsA, RepsV, List.cons_append, List.nil_append, List.forall_mem_cons]
 exact ⟨⟨_, rb0⟩, ⟨_, rb1⟩, ⟨_, rb2⟩, ⟨_, rb3⟩, ⟨_, rb4⟩, ⟨_, rb5⟩, ⟨_, rb6⟩, ⟨_, rb7⟩, ⟨_, rb8⟩, ⟨_, rb9⟩, ⟨_, rb10⟩, ⟨_, rb11⟩, ⟨_, rb12⟩, ⟨_, rb13⟩, ⟨_, rb14⟩, ⟨_, rb15⟩, ⟨_, rb16⟩, ⟨_, rb17⟩, ⟨_, rb18⟩, ⟨_, rb19⟩, fun L h => by cases h⟩
end AX
end Go.Proofs.YtnkppakkeobegaaGreatDoor
set_option maxRecDepth 20000
set_option linter.unusedVariables false
set_option linter.unusedSimpArgs false
set_option linter.unusedSectionVars false
namespace Go.Proofs.YtnkppakkeobegaaGreatDoor
namespace AX
theorem isBad_at (n : Nat) (c : Int) : acall AXE AXF (n + 1) 49 [.one (.int .i64 c)] [] = some (.one (.bool (badB c)), []) := by
 rw [f49_eq, f49_L]
 unfold badB
 cases (c == (500 : Int)) with
 | true => rfl
 | false =>
  cases (c == (501 : Int)) with
  | true => rfl
  | false =>
   cases (c == (503 : Int)) <;> rfl
theorem rep_shape {L : LC} (hL : L = [] ∨ L ∈ RepsV) : L = [] ∨ ∃ w : S_api_Reply, L = w.cells := by
 rcases hL with h | h
 · exact .inl h
 · obtain ⟨s, w, hr⟩ := rb_all L (List.mem_append_left _ h)
   exact .inr ⟨w, hr.cells⟩
theorem stepV_line (pf : LB → S_api_Cmd × Int) {v : V} (hd : v.dec = none) (h : ¬ at2 v.buf < 0) : stepV pf v =
    (some (countV (commandV (pf (v.buf.take (at2 v.buf).toNat)) { v with buf := v.buf.drop ((at2 v.buf).toNat + 2) }).1 (commandV (pf (v.buf.take (at2 v.buf).toNat)) { v with buf := v.buf.drop ((at2 v.buf).toNat + 2) }).2).1,
     (countV (commandV (pf (v.buf.take (at2 v.buf).toNat)) { v with buf := v.buf.drop ((at2 v.buf).toNat + 2) }).1 (commandV (pf (v.buf.take (at2 v.buf).toNat)) { v with buf := v.buf.drop ((at2 v.buf).toNat + 2) }).2).2) := by
  unfold stepV
  split
  · rename_i e; rw [hd] at e; cases e
  · rw [cut_no h]
theorem stepV_idle (pf : LB → S_api_Cmd × Int) {v : V} (hd : v.dec = none) (h : at2 v.buf < 0) : stepV pf v = (none, v) := by
 unfold stepV
 split
 · rename_i e; rw [hd] at e; cases e
 · rw [cut_ok h]
theorem step_at {n : Nat} (hn : 1170 ≤ n) {G : Heap} {p N M : Nat} (hM : M ≤ 2000) {v : V} (h : Rep G p N v) (hV : VV M v) (h0 : v.kind = 0) (hcl : v.cl = false) (hpf : PfOk (pv (n - 2))) :
 StepGets p N G (acall AXE AXF (n + 1) 27 [.one (.gptr p 0)] G) (stepV (pv (n - 2)) v).1 (stepV (pv (n - 2)) v).2 := by
 obtain ⟨fc, dc, x, y, h⟩ := h
 obtain ⟨k, rfl⟩ : ∃ k, n = k + 2 := ⟨n - 2, by omega⟩
 rw [show k + 2 - 2 = k from rfl] at *
 have hbuf := hV.buf
 rw [f27_eq, f27_L, joinK_eq, rd_dc h.cells]
 have hdc := h.dc
 cases hd : v.dec with
 | some d =>
  rw [hd] at hdc
  obtain ⟨q, rfl, hq, eq⟩ := hdc
  rw [castP_ptr]
  dsimp only
  obtain ⟨d1, d2, d3, d4, d5⟩ := hV.dec d hd
  have hrc := hV.rc
  obtain ⟨nm, G', g1, g2, g3, _⟩ := message_at (n := k + 1) (by omega) (pv k) ⟨fc, .gptr q 0, x, y, h⟩ hd (by omega) (by omega) (by omega) d4 hrc.1
  rw [cond_true, callGK_some g1, castTup_tup, zL_cons, zB_cons, nilK_nil]
  exact ⟨none, G', rfl, g2, g3, .inl rfl⟩
 | none =>
  rw [hd] at hdc
  have hdc : dc = .nilp := hdc
  subst hdc
  rw [castP_nil]
  dsimp only
  rw [cond_false, rd_buf h.cells, primK_some (bIndex_at _ (by omega)), oI_one]
  by_cases hat : at2 v.buf < 0
  · have hat' : Lib.index v.buf [13, 10] < 0 := hat
    rw [cut_ok hat', stepV_idle _ hd hat]
    exact ⟨_, _, rfl, ⟨_, _, _, _, h⟩, Frm.refl _ _ _, .inr rfl⟩
  · have hat' : ¬ Lib.index v.buf [13, 10] < 0 := hat
    rw [cut_no hat', stepV_line _ hd hat]
    obtain ⟨_, i2⟩ := at2_app v.buf [] (by omega)
    have hnn : ((at2 v.buf).toNat : Int) = at2 v.buf := by omega
    generalize hm : (at2 v.buf).toNat = m at i2 hnn ⊢
    rw [show Lib.index v.buf [13, 10] = ((m : Nat) : Int) from hnn.symm, rd_buf h.cells, cut_ok ⟨by omega, by rw [Int.toNat_natCast, Nat.div_one, byteCells_len]; omega⟩, Int.toNat_natCast, List.drop_zero, Nat.mul_one, byteCells_take, pc_bytesK, tk_buf h.cells]
    rw [wrap_ok (by omega) (by omega), show ((m : Int) + 2) = ((m + 2 : Nat) : Int) by omega, cut_ok ⟨by omega, by rw [Int.toNat_natCast, Nat.div_one, byteCells_len]; omega⟩, Int.toNat_natCast, Nat.mul_one, byteCells_drop, pt_buf h.cells]
    have h2 := h.upd { v with buf := v.buf.drop (m + 2) } fc .nilp x y h.fr h.dc h.x h.y
    have f2 : Frm N p G (G.set p (({ v with buf := v.buf.drop (m + 2) } : V).cells fc .nilp x y)) := Frm.set (.inl rfl)
    have hlt : (v.buf.take m).length ≤ 1000 := by rw [List.length_take]; omega
    obtain ⟨G', g1, g2, g3⟩ := command_at (n := k + 1) (by omega) ⟨_, _, _, _, h2⟩ (v.buf.take m) hlt
    rw [show k + 1 - 1 = k from rfl] at g1 g2
    have hV2 : VV M { v with buf := v.buf.drop (m + 2) } := ⟨by show 2 * (v.buf.drop (m + 2)).length ≤ M; rw [List.length_drop]; omega, fun d e => (by rw [show _ = v.dec from rfl, hd] at e; cases e), hV.rc, hV.kind, hV.cd, hV.body, hV.bad⟩
    have hp := hpf _ hlt
    obtain ⟨c1, c2, c3, c4, c5⟩ := command_ok hV2 h0 hcl hd _ hp.1 hp.2
    have hb := hV.bad
    have c3' : (commandV (pv k (v.buf.take m)) { v with buf := v.buf.drop (m + 2) }).2.bad = v.bad := c3
    generalize hZ : commandV (pv k (v.buf.take m)) { v with buf := v.buf.drop (m + 2) } = Z at g1 g2 c1 c2 c3' c4 c5 ⊢
    obtain ⟨L, v'⟩ := Z
    simp only at g1 g2 c1 c2 c3' c4 c5
    dsimp only
    have f3 := f2.trans g3
    rw [callGK_some g1, castOne1_one, castN_one]
    refine join_prop (fun j => ∀ (L' : LC) (G2 : Heap), L' = (countV L v').1.flatten → Rep G2 p N (countV L v').2 → Frm N p G G2 → StepGets p N G (j L' G2) (some (countV L v').1) (countV L v').2) (Q := fun r => StepGets p N G r (some (countV L v').1) (countV L v').2) ?_ ?_
    · rintro L' G2 rfl e2 e3
      exact ⟨_, _, rfl, e2, e3, .inr rfl⟩
    · intro j26 hj26
      refine join_prop (fun j => ∀ b : Bool, b = badL L → StepGets p N G (j p L b G') (some (countV L v').1) (countV L v').2) (Q := fun r => StepGets p N G r (some (countV L v').1) (countV L v').2) ?_ ?_
      · intro b hbd
        dsimp only
        subst hbd
        obtain ⟨fc', dc', x', y', g2⟩ := g2
        cases hbl : badL L with
        | false =>
         rw [cond_false]
         refine hj26 _ _ ?_ ?_ f3
         · unfold countV; rw [hbl]
           cases L with
           | nil => rfl
           | cons c l => simp
         · unfold countV; rw [hbl, cond_false]
           cases L.isEmpty <;> exact ⟨_, _, _, _, g2⟩
        | true =>
         have g4 := g2.upd { v' with bad := v'.bad + 1 } fc' dc' x' y' g2.fr g2.dc g2.x g2.y
         rw [cond_true, rd_bad g2.cells, wrap_ok (by omega) (by omega), wr_bad g2.cells, rd_bad g4.cells]
         have f4 := f3.trans (Frm.set (c := ({ v' with bad := v'.bad + 1 } : V).cells fc' dc' x' y') (.inl rfl))
         unfold countV at hj26 ⊢
         rw [hbl, cond_true] at hj26 ⊢
         have e10 : ({ v' with bad := v'.bad + 1 } : V).bad = v'.bad + 1 := rfl
         rw [e10]
         cases h10 : (v'.bad + 1 == (10 : Int)) with
         | true =>
          rw [h10, cond_true] at hj26
          have g5 := g4.upd { v' with bad := v'.bad + 1, cl := true } fc' dc' x' y' g4.fr g4.dc g4.x g4.y
          rw [cond_true, wr_cl g4.cells, say_k (k + 1), guard_ok]
          · refine hj26 _ _ ?_ ⟨_, _, _, _, g5⟩ (f4.trans (Frm.set (.inl rfl)))
            simp [r421, rep]
          · rcases rep_shape c2 with rfl | ⟨w, rfl⟩
            · rfl
            · rfl
         | false =>
          rw [h10, cond_false] at hj26
          rw [cond_false]
          refine hj26 _ _ ?_ ⟨_, _, _, _, g4⟩ f4
          simp
      · intro j hj
        rcases rep_shape c2 with rfl | ⟨w, rfl⟩
        · exact hj false rfl
        · rw [cut_ok (by show ((3 / 3 : Nat) : Int) > 0; decide), guard_ok (b := decide (0 ≤ (0 : Int)) && decide (Int.toNat 0 * 3 + 3 ≤ w.cells.length)) rfl]
          show StepGets p N G (cI .i64 [.int .i64 w.fCode] fun n28 r29 => _) _ _
          rw [cI_cons, callK_some (isBad_at (k + 1) w.fCode), oB_one]
          exact hj _ rfl
theorem flat3_len : ∀ Ls : List LC, (∀ r ∈ Ls, r ∈ RepsA) → Ls.flatten.length = Ls.length * 3
 | [], _ => rfl
 | r :: Ls, h => by
  obtain ⟨s, w, hr⟩ := rb_all r (h r (List.mem_cons_self ..))
  have ih := flat3_len Ls fun r hr => h r (List.mem_cons_of_mem _ hr)
  rw [List.flatten_cons, List.length_append, ih, List.length_cons, hr.cells]
  show 3 + _ = _
  omega
theorem flat3_at : ∀ (Ls : List LC) (i : Nat) (hi : i < Ls.length), (∀ r ∈ Ls, r ∈ RepsA) → (Ls.flatten.drop (i * 3)).take 3 = Ls[i]
 | r :: Ls, 0, hi, h => by
  obtain ⟨s, w, hr⟩ := rb_all r (h r (List.mem_cons_self ..))
  show ((r :: Ls).flatten).take 3 = r
  rw [List.flatten_cons, hr.cells]; rfl
 | r :: Ls, i + 1, hi, h => by
  obtain ⟨s, w, hr⟩ := rb_all r (h r (List.mem_cons_self ..))
  have ih := flat3_at Ls i (by simpa using hi) fun r hr => h r (List.mem_cons_of_mem _ hr)
  rw [List.getElem_cons_succ, ← ih, List.flatten_cons, hr.cells, show (i + 1) * 3 = (i * 3).succ.succ.succ by omega]
  rfl
theorem sent_loop (k N : Nat) (Ls : List LC) (hL : ∀ r ∈ Ls, r ∈ RepsA) (h30 : Ls.length ≤ 30) : ∀ (m i : Nat) (out : LB), i ≤ Ls.length → Ls.length < i + m → out.length + 200 * (Ls.length - i) ≤ 100000 →
 loopJ (fun _ _ _ _ => none) (f28_B0 (acall AXE AXF k) N) m (byteCells out) Ls.flatten ((Ls.length : Nat) : Int) (i : Int) = some (.one (.sl (some ⟨2, 0, 5⟩) 1 (byteCells (out ++ ((Ls.drop i).map rb).flatten))), [])
 | 0, i, out, h1, h2, _ => by omega
 | m + 1, i, out, h1, h2, h3 => by
  rw [loopJ_succ, f28_B0]
  by_cases hi : i < Ls.length
  · obtain ⟨s, w, hr⟩ := rb_all Ls[i] (hL _ (List.getElem_mem hi))
    have hlen := hr.len
    rw [cut_ok (by omega), Int.toNat_natCast, guard_ok (by rw [flat3_len Ls hL]; simp; omega), flat3_at Ls i hi hL, hr.cells, takeS_api_Reply_cells_nil]
    rw [primK_some (by rw [← hr.cells]; exact hr.bytes), castTup_tup, zL_cons, zI_cons, nilK_nil, guard_ok (decide_eq_true (by rw [byteCells_len, byteCells_len]; show (_ + _) * 1000 ≤ 1099511627776; omega)), ← byteCells_app, wrap_ok (by omega) (by omega), show ((i : Int) + 1) = ((i + 1 : Nat) : Int) by omega]
    rw [sent_loop k N Ls hL h30 m (i + 1) (out ++ s) (by omega) (by omega) (by rw [List.length_append]; omega), List.drop_eq_getElem_cons hi, List.map_cons, List.flatten_cons, hr.eq, List.append_assoc]
  · rw [cut_no (by omega), List.drop_of_length_le (by omega)]
    simp
theorem sent_at {n : Nat} (hn : 100 ≤ n) (Ls : List LC) (hL : ∀ r ∈ Ls, r ∈ RepsA) (h30 : Ls.length ≤ 30) : acall AXE AXF (n + 1) 28 [.one (.sl none 3 Ls.flatten)] [] = some (.one (.sl (some ⟨2, 0, 5⟩) 1 (byteCells (Ls.map rb).flatten)), []) := by
 rw [f28_eq, f28_L, flat3_len Ls hL, Nat.mul_div_cancel _ (by decide : 0 < 3)]
 exact sent_loop n (n + 1) Ls hL h30 (n + 1) 0 [] (by omega) (by omega) (by show 0 + _ ≤ _; omega)
theorem sent_len : ∀ Ls : List LC, (∀ r ∈ Ls, r ∈ RepsA) → (Ls.map rb).flatten.length ≤ 200 * Ls.length
 | [], _ => Nat.le_refl _
 | r :: Ls, h => by
  obtain ⟨s, w, hr⟩ := rb_all r (h r (List.mem_cons_self ..))
  have ih := sent_len Ls fun r hr => h r (List.mem_cons_of_mem _ hr)
  have := hr.len
  rw [List.map_cons, List.flatten_cons, List.length_append, List.length_cons, hr.eq]
  omega
end AX
end Go.Proofs.YtnkppakkeobegaaGreatDoor
