/-
  PcSess.
-/
import Derived.Test.YtnkppakkeobegaaGreatDoorZC20
set_option maxRecDepth 20000
set_option linter.unusedVariables false
set_option linter.unusedSimpArgs false
set_option linter.unusedSectionVars false
namespace Go.Proofs.YtnkppakkeobegaaGreatDoor
namespace AX
structure Ses where
 lm : Bool
 buf : LC
 gr : Bool
 fr : Cell
 rc : LC
 kind : Int
 a : LB
 b : LB
 c : LB
 d : LB
 k : Int
 x : Cell
 y : Cell
 bad : Int
 cl : Bool
def hostL : LB := [120, 46, 111, 114, 103]
@[reducible] def Ses.cells (s : Ses) : LC := [.bool s.lm, .str hostL, .own 5 1 s.buf, .bool s.gr, s.fr, .own 28 2 s.rc, .nilp, .int .i64 s.kind, .str s.a, .str s.b, .str s.c, .str s.d, .int .i64 s.k, s.x, s.y, .int .i64 s.bad, .bool s.cl]
def RowX (sz : Nat) (c : Cell) : Prop := (∃ e, c = .own e sz []) ∨ c = .sl none sz []
theorem RowX.cast {sz : Nat} {c : Cell} (h : RowX sz c) {R : Type} (k : LC → Option R) : castGL sz c k = k [] := by
 rcases h with ⟨e, rfl⟩ | rfl
 · exact castGL_own _ _ _ _
 · exact castGL_sl _ _ _ _
def FromOk (G : Heap) (p : Nat) (c : Cell) : Prop := c = .nilp ∨ ∃ (q : Nat) (u v : LB) (m : Int), c = .gptr q 0 ∧ q ≠ p ∧ G[q]? = some [.str u, .str v, .int .i64 m]
structure Sok (G : Heap) (p : Nat) (s : Ses) : Prop where
 at_ : G[p]? = some s.cells
 fr : FromOk G p s.fr
 rc : s.rc.length ≤ 41
 x : RowX 2 s.x
 y : RowX 1 s.y
theorem g_lt {G : Heap} {p : Nat} {c : LC} (h : G[p]? = some c) : p < G.length := (List.getElem?_eq_some_iff.1 h).1
theorem g_self {G : Heap} {p : Nat} {c d : LC} (h : G[p]? = some d) : (G.set p c)[p]? = some c := List.getElem?_set_self (g_lt h)
theorem g_other {G : Heap} {p q : Nat} {c : LC} (h : q ≠ p) : (G.set p c)[q]? = G[q]? := List.getElem?_set_ne (Ne.symm h)
theorem FromOk.set {G : Heap} {p : Nat} {c : Cell} {d : LC} (h : FromOk G p c) : FromOk (G.set p d) p c := by
 rcases h with h | ⟨q, u, v, m, h1, h2, h3⟩
 · exact .inl h
 · exact .inr ⟨q, u, v, m, h1, h2, by rw [g_other h2]; exact h3⟩
theorem Sok.upd {G : Heap} {p : Nat} {s s' : Ses} (h : Sok G p s) (hf : s'.fr = s.fr ∨ s'.fr = .nilp) (hr : s'.rc.length ≤ 41) (hx : RowX 2 s'.x) (hy : RowX 1 s'.y) : Sok (G.set p s'.cells) p s' := by
 refine ⟨g_self h.at_, ?_, hr, hx, hy⟩
 rcases hf with e | e
 · rw [e]; exact h.fr.set
 · exact .inl e
section
variable {G : Heap} {p : Nat} {s : Ses} {R : Type} (h : G[p]? = some s.cells)
include h
theorem rd_lm (k : Bool → Option R) : gB G p 0 k = k s.lm := gcell_at (c := .bool s.lm) h rfl fun c => castB c k
theorem rd_host (k : LB → Option R) : gS G p 1 k = k hostL := gcell_at (c := .str hostL) h rfl fun c => castS c k
theorem rd_buf (k : LC → Option R) : gL 1 G p 2 k = k s.buf := (gcell_at (c := .own 5 1 s.buf) h rfl fun c => castGL 1 c k).trans (castGL_own _ _ _ _)
theorem rd_gr (k : Bool → Option R) : gB G p 3 k = k s.gr := gcell_at (c := .bool s.gr) h rfl fun c => castB c k
theorem rd_fr (x : Option R) (k : Nat → Nat → Option R) : gP G p 4 x k = castP s.fr x k := gcell_at (c := s.fr) h rfl fun c => castP c x k
theorem rd_rc (k : LC → Option R) : gL 2 G p 5 k = k s.rc := (gcell_at (c := .own 28 2 s.rc) h rfl fun c => castGL 2 c k).trans (castGL_own _ _ _ _)
theorem rd_data (x : Option R) (k : Nat → Nat → Option R) : gP G p 6 x k = x := gcell_at (c := .nilp) h rfl fun c => castP c x k
theorem rd_kind (k : Int → Option R) : gI .i64 G p 7 k = k s.kind := (gcell_at (c := .int .i64 s.kind) h rfl fun c => castI .i64 c k).trans (castI_one _ _ _)
theorem rd_bad (k : Int → Option R) : gI .i64 G p 15 k = k s.bad := (gcell_at (c := .int .i64 s.bad) h rfl fun c => castI .i64 c k).trans (castI_one _ _ _)
theorem rd_cl (k : Bool → Option R) : gB G p 16 k = k s.cl := gcell_at (c := .bool s.cl) h rfl fun c => castB c k
theorem wr_gr (b : Bool) (k : Heap → Option R) : gset G p 3 (.bool b) k = k (G.set p ({ s with gr := b } : Ses).cells) := gset_at h (by show 3 < 17; decide) k
theorem wr_fr (c : Cell) (k : Heap → Option R) : gset G p 4 c k = k (G.set p ({ s with fr := c } : Ses).cells) := gset_at h (by show 4 < 17; decide) k
theorem wr_rc (l : LC) (k : Heap → Option R) : gset G p 5 (.own 28 2 l) k = k (G.set p ({ s with rc := l } : Ses).cells) := gset_at h (by show 5 < 17; decide) k
theorem wr_bad (b : Int) (k : Heap → Option R) : gset G p 15 (.int .i64 b) k = k (G.set p ({ s with bad := b } : Ses).cells) := gset_at h (by show 15 < 17; decide) k
theorem wr_cl (b : Bool) (k : Heap → Option R) : gset G p 16 (.bool b) k = k (G.set p ({ s with cl := b } : Ses).cells) := gset_at h (by show 16 < 17; decide) k
theorem tk_buf (k : LC → Heap → Option R) : gtake 5 1 G p 2 k = k s.buf (G.set p (s.cells.set 2 (.sl none 1 s.buf))) := gtake_at h rfl k
theorem pt_buf (l : LC) (k : Heap → Option R) : gset (G.set p (s.cells.set 2 (.sl none 1 s.buf))) p 2 (.own 5 1 l) k = k (G.set p ({ s with buf := l } : Ses).cells) := by
 rw [gset_at (g_self h) (by show 2 < 17; decide), List.set_set]; rfl
theorem tk_rc (k : LC → Heap → Option R) : gtake 28 2 G p 5 k = k s.rc (G.set p (s.cells.set 5 (.sl none 2 s.rc))) := gtake_at h rfl k
theorem pt_rc (l : LC) (k : Heap → Option R) : gset (G.set p (s.cells.set 5 (.sl none 2 s.rc))) p 5 (.own 28 2 l) k = k (G.set p ({ s with rc := l } : Ses).cells) := by
 rw [gset_at (g_self h) (by show 5 < 17; decide), List.set_set]; rfl
end
def rep (code : Int) (e line : LB) : LC := [.int .i64 code, .str e, .sl none 1 [.str line]]
def r500 : LC := rep 500 [53, 46, 53, 46, 50] [119, 104, 97, 116, 32, 105, 115, 32, 116, 104, 97, 116]
def r501 : LC := rep 501 [53, 46, 53, 46, 52] [110, 111, 116, 32, 115, 111]
def r555 : LC := rep 555 [53, 46, 53, 46, 52] [110, 111, 32, 115, 117, 99, 104, 32, 112, 97, 114, 97, 109, 101, 116, 101, 114]
def r503 : LC := rep 503 [53, 46, 53, 46, 49] [110, 111, 116, 32, 110, 111, 119]
def rHelo : LC := rep 250 [] hostL
def rEhlo : LC := [.int .i64 250, .str [], .sl none 1 [.str hostL, .str [80, 73, 80, 69, 76, 73, 78, 73, 78, 71], .str [83, 73, 90, 69, 32, 51, 50, 55, 54, 56], .str [56, 66, 73, 84, 77, 73, 77, 69], .str [69, 78, 72, 65, 78, 67, 69, 68, 83, 84, 65, 84, 85, 83, 67, 79, 68, 69, 83]]]
def r552 : LC := rep 552 [53, 46, 51, 46, 52] [116, 111, 111, 32, 108, 97, 114, 103, 101]
def rMail : LC := rep 250 [50, 46, 49, 46, 48] [111, 107]
def r452 : LC := rep 452 [52, 46, 53, 46, 51] [116, 111, 111, 32, 109, 97, 110, 121]
def rOk : LC := rep 250 [50, 46, 48, 46, 48] [111, 107]
def r252 : LC := rep 252 [50, 46, 53, 46, 48] [112, 101, 114, 104, 97, 112, 115]
def r214 : LC := rep 214 [50, 46, 48, 46, 48] [110, 111, 110, 101]
def r221 : LC := rep 221 [50, 46, 48, 46, 48] [98, 121, 101]
def r421 : LC := rep 421 [52, 46, 55, 46, 48] [116, 111, 111, 32, 109, 97, 110, 121, 32, 101, 114, 114, 111, 114, 115]
def Reps : List LC := [r500, r501, r555, r503, rHelo, rEhlo, r552, rMail, r452, rOk, r252, r214, r221]
def CmdRes (p : Nat) (s : Ses) (r : OR) : Prop := ∃ (L : LC) (G' : Heap) (s' : Ses), r = some (.one (.sl (some ⟨4, 0, 39⟩) 3 L), G') ∧ Sok G' p s' ∧ s'.buf = s.buf ∧ s'.bad = s.bad ∧ s'.lm = s.lm ∧
 ((L ∈ Reps ∧ s'.kind = 0) ∨ (L = [] ∧ s'.kind = 1 ∧ s'.cl = false ∧ s'.c.length ≤ 1000 ∧ s'.d.length ≤ 1000 ∧ s'.rc.length ≤ 39))
theorem say_at (k : Nat) (code : Int) (e line : LB) : acall AXE AXF (k + 1) 38 [.one (.int .i64 code), .one (.str e), .one (.str line)] [] = some (.agg [.int .i64 code, .str e, .sl (some ⟨1000000, 2, 9⟩) 1 [.str line]], []) := by
 rw [f38_eq]; rfl
theorem say_k (k : Nat) (code : Int) (e line : LB) (K : Int → LB → LC → OR) : (callK (acall AXE AXF (k + 1)) 38 [.one (.int .i64 code), .one (.str e), .one (.str line)] fun v1 => castAgg v1 fun r2 => cI .i64 r2 fun n3 r4 => cS r4 fun s5 r6 => consK r6 fun c7 r8 => castN 9 1 c7 fun l9 => nilK r8 (K n3 s5 l9)) = K code e [.str line] := by
 rw [callK_some (say_at k code e line), castAgg_agg, cI_cons, cS_cons, consK_cons, castN_one, nilK_nil]
theorem notNow_at (k : Nat) : acall AXE AXF (k + 2) 107 [] [] = some (.one (.sl (some ⟨0, 0, 39⟩) 3 r503), []) := by
 rw [f107_eq, f107_L, say_k k]; rfl
theorem notNow_k (k : Nat) (K : LC → OR) : (callK (acall AXE AXF (k + 2)) 107 [] fun v8 => castOne1 v8 fun c9 => castN 39 3 c9 fun l10 => K l10) = K r503 := by
 rw [callK_some (notNow_at k), castOne1_one, castN_one]
theorem reset_at (k : Nat) {G : Heap} {p : Nat} {s : Ses} (h : G[p]? = some s.cells) : acall AXE AXF (k + 1) 34 [.one (.gptr p 0)] G = some (.tup [], G.set p ({ s with fr := .nilp, rc := [] } : Ses).cells) := by
 rw [f34_eq, f34_L, wr_fr h, wr_rc (g_self h), List.set_set]
theorem greet_at (k : Nat) {G : Heap} {p : Nat} {s : Ses} (h : Sok G p s) (h0 : s.kind = 0) (v : Int) : CmdRes p s (acall AXE AXF (k + 2) 75 [.one (.gptr p 0), .one (.int .i64 v)] G) := by
 rw [f75_eq, f75_L, wr_gr h.at_, callGK_some (reset_at k (g_self h.at_)), castTup_tup, nilK_nil, List.set_set, rd_host (g_self h.at_), say_k k, joinK_eq]
 have hS := h.upd (s' := { s with gr := true, fr := .nilp, rc := [] }) (.inr rfl) (by simp) h.x h.y
 cases (v != (1 : Int)) with
 | true =>
  rw [cond_true, guard_ok (by decide)]
  exact ⟨rEhlo, _, _, rfl, hS, rfl, rfl, rfl, .inl ⟨by simp [Reps], h0⟩⟩
 | false => exact ⟨rHelo, _, _, rfl, hS, rfl, rfl, rfl, .inl ⟨by simp [Reps], h0⟩⟩
theorem CmdRes.stay {G : Heap} {p : Nat} {s : Ses} (h : Sok G p s) (h0 : s.kind = 0) (L : LC) (hL : L ∈ Reps) : CmdRes p s (some (.one (.sl (some ⟨4, 0, 39⟩) 3 L), G)) := ⟨L, G, s, rfl, h, rfl, rfl, rfl, .inl ⟨hL, h0⟩⟩
theorem mail_at (k : Nat) {G : Heap} {p : Nat} {s : Ses} (h : Sok G p s) (h0 : s.kind = 0) (c : S_api_Cmd) : CmdRes p s (acall AXE AXF (k + 3) 76 [.one (.gptr p 0), .agg c.cells] G) := by
 rw [f76_eq, f76_L]
 refine join_prop (fun j => ∀ b : Bool, CmdRes p s (j p b c G)) (Q := CmdRes p s) ?_ ?_
 · intro b
   dsimp only
   cases b with
   | true => rw [cond_true, notNow_k k]; exact .stay h h0 _ (by simp [Reps])
   | false =>
    rw [cond_false]
    cases decide (c.fSize > 32768) with
    | true => rw [cond_true, say_k (k + 1)]; exact .stay h h0 _ (by simp [Reps, r552, rep])
    | false =>
     have hlt := g_lt h.at_
     have h1 : (G ++ [(⟨c.fPath_Local, c.fPath_Domain, c.fSize⟩ : S_proto_sender).cells])[p]? = some s.cells := by rw [List.getElem?_append_left hlt]; exact h.at_
     rw [cond_false, gnew_eq, wr_fr h1, say_k (k + 1)]
     refine ⟨rMail, _, { s with fr := .gptr G.length 0 }, rfl, ⟨g_self h1, .inr ⟨G.length, c.fPath_Local, c.fPath_Domain, c.fSize, rfl, by omega, ?_⟩, h.rc, h.x, h.y⟩, rfl, rfl, rfl, .inl ⟨by simp [Reps], h0⟩⟩
     rw [g_other (by omega), List.getElem?_append_right (Nat.le_refl _)]; simp
 · intro j hj
   rw [rd_gr h.at_]
   cases s.gr with
   | false => exact hj true
   | true =>
    rw [Bool.not_true, cond_false, rd_fr h.at_]
    rcases h.fr with e | ⟨q, u, v, m, e, _⟩
    · rw [e]; exact hj false
    · rw [e]; exact hj true
theorem rcpt_at (k : Nat) {G : Heap} {p : Nat} {s : Ses} (h : Sok G p s) (h0 : s.kind = 0) (hcl : s.cl = false) (c : S_api_Cmd) (h1 : c.fPath_Local.length ≤ 1000) (h2 : c.fPath_Domain.length ≤ 1000) : CmdRes p s (acall AXE AXF (k + 3) 77 [.one (.gptr p 0), .agg c.cells] G) := by
 rw [f77_eq, f77_L]
 refine join_prop (fun j => ∀ b : Bool, (b = false → s.fr ≠ .nilp) → CmdRes p s (j p b c G)) (Q := CmdRes p s) ?_ ?_
 · intro b hb
   dsimp only
   cases b with
   | true => rw [cond_true, notNow_k k]; exact .stay h h0 _ (by simp [Reps])
   | false =>
    rw [cond_false, rd_rc h.at_]
    by_cases h20 : 20 ≤ s.rc.length / 2
    · rw [cut_ok (by omega), say_k (k + 1)]; exact .stay h h0 _ (by simp [Reps, r452, rep])
    · rw [cut_no (by omega), rd_fr h.at_]
      rcases h.fr with e | ⟨q, u, v, m, e, e1, e2⟩
      · exact absurd e (hb rfl)
      · rw [e, castP_ptr, gcells_at e2 (by show 0 + 0 + 2 ≤ 3; decide)]
        show CmdRes p s (gP G p 4 none fun b28 o29 => _)
        rw [rd_fr h.at_, e, castP_ptr]
        show CmdRes p s (gcell G q 2 fun c => castI .i64 c fun n => _)
        rw [gcell_at e2 rfl, castI_one, gsets_at h.at_ (by show 7 + 8 ≤ 17; decide)]
        have hS := h.upd (s' := { s with kind := 1, a := u, b := v, c := c.fPath_Local, d := c.fPath_Domain, k := m, x := .sl none 2 [], y := .sl none 1 [] }) (.inl rfl) h.rc (.inr rfl) (.inr rfl)
        exact ⟨[], _, _, rfl, hS, rfl, rfl, rfl, .inr ⟨rfl, rfl, hcl, h1, h2, by show s.rc.length ≤ 39; omega⟩⟩
 · intro j hj
   rw [rd_fr h.at_]
   rcases h.fr with e | ⟨q, u, v, m, e, _⟩
   · rw [e]; exact hj true fun h => by cases h
   · rw [e]; exact hj false fun _ => by rw [e]; intro h; cases h
theorem other_at (k : Nat) {G : Heap} {p : Nat} {s : Ses} (h : Sok G p s) (h0 : s.kind = 0) (v : Int) : CmdRes p s (acall AXE AXF (k + 2) 79 [.one (.gptr p 0), .one (.int .i64 v)] G) := by
 rw [f79_eq, f79_L]
 refine join_prop (fun j => ∀ (G' : Heap) (s' : Ses), Sok G' p s' → s'.buf = s.buf → s'.bad = s.bad → s'.lm = s.lm → s'.kind = 0 → CmdRes p s (j G')) (Q := CmdRes p s) ?_ ?_
 · intro G' s' e1 e2 e3 e4 e5
   dsimp only
   rw [say_k k]
   exact ⟨rOk, _, s', rfl, e1, e2, e3, e4, .inl ⟨by simp [Reps], e5⟩⟩
 · intro j hj
   cases (v == (7 : Int)) with
   | true =>
    rw [cond_true, callGK_some (reset_at k h.at_), castTup_tup, nilK_nil]
    exact hj _ _ (h.upd (s' := { s with fr := .nilp, rc := [] }) (.inr rfl) (by simp) h.x h.y) rfl rfl rfl h0
   | false =>
    rw [cond_false]
    cases (v == (10 : Int)) with
    | true => rw [cond_true, say_k k]; exact .stay h h0 _ (by simp [Reps, r252, rep])
    | false =>
     rw [cond_false]
     cases (v == (11 : Int)) with
     | true => rw [cond_true, say_k k]; exact .stay h h0 _ (by simp [Reps, r214, rep])
     | false =>
      rw [cond_false]
      cases (v == (9 : Int)) with
      | true =>
       rw [cond_true, wr_cl h.at_, say_k k]
       exact ⟨r221, _, _, rfl, h.upd (s' := { s with cl := true }) (.inl rfl) h.rc h.x h.y, rfl, rfl, rfl, .inl ⟨by simp [Reps], h0⟩⟩
      | false => exact hj G s h rfl rfl rfl h0
theorem CmdRes.fwd {call : CallF} {f : FuncId} {args : List AV} {G : Heap} {p : Nat} {s : Ses} (h : CmdRes p s (call f args G)) : CmdRes p s (callGK call f args G fun v G' => castOne1 v fun c => castN 39 3 c fun l => some (.one (.sl (some ⟨4, 0, 39⟩) 3 l), G')) := by
 obtain ⟨L, G', s', e, h1⟩ := h
 rw [callGK_some e, castOne1_one, castN_one]
 exact ⟨L, G', s', rfl, h1⟩
theorem command_at {n : Nat} (hn : 1150 ≤ n) {G : Heap} {p : Nat} {s : Ses} (h : Sok G p s) (h0 : s.kind = 0) (hcl : s.cl = false) (l : LB) (hl : l.length ≤ 1000) (hD : ¬ (4 ≤ l.length ∧ (l[0]? = some 68 ∨ l[0]? = some 100))) :
 CmdRes p s (acall AXE AXF (n + 1) 48 [.one (.gptr p 0), .one (.str l)] G) := by
 rw [f48_eq, f48_L]
 obtain ⟨k, rfl⟩ : ∃ k, n = k + 3 := ⟨n - 3, by omega⟩
 obtain ⟨w, x, e1, e2, e3, e4, e5, e6, e7⟩ := tot_parse (n := k + 2) (by omega) l hl
 rw [callK_some e1, castTup_tup, consK_cons, aggV_agg, takeS_api_Cmd_cells_nil, nilK_nil, zI_cons, nilK_nil]
 refine join_prop (fun j => ∀ b : Bool, CmdRes p s (j p x b w G)) (Q := CmdRes p s) ?_ ?_
 · intro b
   dsimp only
   cases b with
   | true => rw [cond_true, say_k (k + 2)]; exact .stay h h0 _ (by simp [Reps, r500, rep])
   | false =>
    rw [cond_false]
    cases (x == (501 : Int)) with
    | true => rw [cond_true, say_k (k + 2)]; exact .stay h h0 _ (by simp [Reps, r501, rep])
    | false =>
     rw [cond_false]
     cases (x == (555 : Int)) with
     | true => rw [cond_true, say_k (k + 2)]; exact .stay h h0 _ (by simp [Reps, r555, rep])
     | false =>
      rw [cond_false]
      refine join_prop (fun j => ∀ b : Bool, CmdRes p s (j p w.fVerb b w G)) (Q := CmdRes p s) ?_ ?_
      · intro b
        dsimp only
        cases b with
        | true => rw [cond_true]; exact (greet_at (k + 1) h h0 w.fVerb).fwd
        | false =>
         rw [cond_false]
         cases (w.fVerb == (4 : Int)) with
         | true => rw [cond_true]; exact (mail_at k h h0 w).fwd
         | false =>
          rw [cond_false]
          cases (w.fVerb == (5 : Int)) with
          | true => rw [cond_true]; exact (rcpt_at k h h0 hcl w e3 e4).fwd
          | false =>
           rw [cond_false]
           rw [show (w.fVerb == (6 : Int)) = false by
            rw [beq_eq_false_iff_ne]; exact fun h6 => hD (e7 h6), cond_false]
           exact (other_at (k + 1) h h0 w.fVerb).fwd
      · intro j hj
        cases (w.fVerb == (1 : Int)) with
        | true => exact hj true
        | false =>
         cases (w.fVerb == (2 : Int)) with
         | true => exact hj true
         | false => exact hj _
 · intro j hj
   rw [rd_lm h.at_]
   cases (x == (500 : Int)) with
   | true => exact hj true
   | false =>
    rw [cond_false]
    cases (w.fVerb == (3 : Int)) with
    | true =>
     rw [cond_true]
     cases s.lm with
     | false => exact hj true
     | true =>
      rw [Bool.not_true, cond_false]
      cases (w.fVerb == (1 : Int)) with
      | true => rw [cond_true, rd_lm h.at_]; exact hj _
      | false =>
       rw [cond_false]
       cases (w.fVerb == (2 : Int)) with
       | true => rw [cond_true, rd_lm h.at_]; exact hj _
       | false => exact hj false
    | false =>
     rw [cond_false]
     cases (w.fVerb == (1 : Int)) with
     | true => rw [cond_true, rd_lm h.at_]; exact hj _
     | false =>
      rw [cond_false]
      cases (w.fVerb == (2 : Int)) with
      | true => rw [cond_true, rd_lm h.at_]; exact hj _
      | false => exact hj false
end AX
end Go.Proofs.YtnkppakkeobegaaGreatDoor
