/-
  PgSess.
-/
import Derived.Test.YtnkppakkeobegaaGreatDoorZP19
set_option maxRecDepth 20000
set_option linter.unusedVariables false
set_option linter.unusedSimpArgs false
set_option linter.unusedSectionVars false
namespace Go.Proofs.YtnkppakkeobegaaGreatDoor
namespace AX
def V.cells (v : V) (fc dc x y : Cell) : LC := [.bool v.lm, .str hostL, .own 5 1 (byteCells v.buf), .bool v.gr, fc, .own 28 2 v.rc, dc, .int .i64 v.kind, .str v.a, .str v.b, .str v.c, .str v.d, .int .i64 v.k, x, y, .int .i64 v.bad, .bool v.cl]
def RowX (sz : Nat) (l : LC) (c : Cell) : Prop := (∃ e, c = .own e sz l) ∨ c = .sl none sz l
theorem RowX.cast {sz : Nat} {l : LC} {c : Cell} (h : RowX sz l c) {R : Type} (k : LC → Option R) : castGL sz c k = k l := by
 rcases h with ⟨e, rfl⟩ | rfl
 · exact castGL_own _ _ _ _
 · exact castGL_sl _ _ _ _
def FrC (G : Heap) (N : Nat) : Option (LB × LB × Int) → Cell → Prop
 | none, c => c = .nilp
 | some (u, w, m), c => ∃ q, c = .gptr q 0 ∧ N ≤ q ∧ G[q]? = some [.str u, .str w, .int .i64 m]
def Dec.cells (d : Dec) : LC := [.int .i64 32768, .int .i64 d.st, .int .i64 d.line, .own 5 1 (byteCells d.all), .bool d.long, .bool d.bare, .bool false]
def DcC (G : Heap) (N : Nat) : Option Dec → Cell → Prop
 | none, c => c = .nilp
 | some d, c => ∃ q, c = .gptr q 0 ∧ N ≤ q ∧ G[q]? = some (Dec.cells d)
structure At (G : Heap) (p N : Nat) (v : V) (fc dc x y : Cell) : Prop where
 lt : p < N
 len : N ≤ G.length
 cells : G[p]? = some (v.cells fc dc x y)
 fr : FrC G N v.fr fc
 dc : DcC G N v.dec dc
 x : RowX 2 v.to x
 y : RowX 1 (byteCells v.body) y
def Rep (G : Heap) (p N : Nat) (v : V) : Prop := ∃ fc dc x y, At G p N v fc dc x y
def Frm (N p : Nat) (G G' : Heap) : Prop := ∀ i, i < N → i ≠ p → G'[i]? = G[i]?
theorem Frm.refl (N p : Nat) (G : Heap) : Frm N p G G := fun _ _ _ => rfl
theorem Frm.trans {N p : Nat} {G G1 G2 : Heap} (h : Frm N p G G1) (h' : Frm N p G1 G2) : Frm N p G G2 := fun i h1 h2 => (h' i h1 h2).trans (h i h1 h2)
theorem g_lt {G : Heap} {p : Nat} {c : LC} (h : G[p]? = some c) : p < G.length := (List.getElem?_eq_some_iff.1 h).1
theorem g_self {G : Heap} {p : Nat} {c d : LC} (h : G[p]? = some d) : (G.set p c)[p]? = some c := List.getElem?_set_self (g_lt h)
theorem g_other {G : Heap} {p q : Nat} {c : LC} (h : q ≠ p) : (G.set p c)[q]? = G[q]? := List.getElem?_set_ne (Ne.symm h)
theorem Frm.set {N p : Nat} {G : Heap} {q : Nat} {c : LC} (h : q = p ∨ N ≤ q) : Frm N p G (G.set q c) := fun i h1 h2 => g_other (by omega)
theorem Frm.app {N p : Nat} {G : Heap} {l : Heap} (h : N ≤ G.length) : Frm N p G (G ++ l) := fun i hi _ => List.getElem?_append_left (by omega)
theorem FrC.mono {G G' : Heap} {N : Nat} {f : Option (LB × LB × Int)} {c : Cell} (h : FrC G N f c) (hg : ∀ q x, N ≤ q → G[q]? = some x → x.length = 3 → G'[q]? = some x) : FrC G' N f c := by
 cases f with
 | none => exact h
 | some t =>
  obtain ⟨u, w, m⟩ := t
  obtain ⟨q, h1, h2, h3⟩ := h
  exact ⟨q, h1, h2, hg q _ h2 h3 rfl⟩
theorem DcC.mono {G G' : Heap} {N : Nat} {f : Option Dec} {c : Cell} (h : DcC G N f c) (hg : ∀ q x, N ≤ q → G[q]? = some x → G'[q]? = some x) : DcC G' N f c := by
 cases f with
 | none => exact h
 | some t =>
  obtain ⟨q, h1, h2, h3⟩ := h
  exact ⟨q, h1, h2, hg q _ h2 h3⟩
theorem At.upd {G : Heap} {p N : Nat} {v : V} {fc dc x y : Cell} (h : At G p N v fc dc x y) (v' : V) (fc' dc' x' y' : Cell) (hf : FrC G N v'.fr fc') (hd : DcC G N v'.dec dc') (hx : RowX 2 v'.to x') (hy : RowX 1 (byteCells v'.body) y') :
 At (G.set p (v'.cells fc' dc' x' y')) p N v' fc' dc' x' y' := by
 have ho : ∀ q x, N ≤ q → G[q]? = some x → (G.set p (v'.cells fc' dc' x' y'))[q]? = some x := fun q x h1 h2 => by
  have := h.lt
  rw [g_other (by omega)]; exact h2
 exact ⟨h.lt, by rw [List.length_set]; exact h.len, g_self h.cells, hf.mono fun q x h1 h2 _ => ho q x h1 h2, hd.mono ho, hx, hy⟩
def Gets (p N : Nat) (G : Heap) (r : OR) (R : AV) (v' : V) : Prop := ∃ G', r = some (R, G') ∧ Rep G' p N v' ∧ Frm N p G G'
section
variable {G : Heap} {p : Nat} {v : V} {fc dc x y : Cell} {R : Type} (h : G[p]? = some (v.cells fc dc x y))
include h
theorem rd_lm (k : Bool → Option R) : gB G p 0 k = k v.lm := gcell_at (c := .bool v.lm) h rfl fun c => castB c k
theorem rd_host (k : LB → Option R) : gS G p 1 k = k hostL := gcell_at (c := .str hostL) h rfl fun c => castS c k
theorem rd_buf (k : LC → Option R) : gL 1 G p 2 k = k (byteCells v.buf) := (gcell_at (c := .own 5 1 (byteCells v.buf)) h rfl fun c => castGL 1 c k).trans (castGL_own _ _ _ _)
theorem rd_gr (k : Bool → Option R) : gB G p 3 k = k v.gr := gcell_at (c := .bool v.gr) h rfl fun c => castB c k
theorem rd_fr (z : Option R) (k : Nat → Nat → Option R) : gP G p 4 z k = castP fc z k := gcell_at (c := fc) h rfl fun c => castP c z k
theorem rd_rc (k : LC → Option R) : gL 2 G p 5 k = k v.rc := (gcell_at (c := .own 28 2 v.rc) h rfl fun c => castGL 2 c k).trans (castGL_own _ _ _ _)
theorem rd_dc (z : Option R) (k : Nat → Nat → Option R) : gP G p 6 z k = castP dc z k := gcell_at (c := dc) h rfl fun c => castP c z k
theorem rd_kind (k : Int → Option R) : gI .i64 G p 7 k = k v.kind := (gcell_at (c := .int .i64 v.kind) h rfl fun c => castI .i64 c k).trans (castI_one _ _ _)
theorem rd_bad (k : Int → Option R) : gI .i64 G p 15 k = k v.bad := (gcell_at (c := .int .i64 v.bad) h rfl fun c => castI .i64 c k).trans (castI_one _ _ _)
theorem rd_cl (k : Bool → Option R) : gB G p 16 k = k v.cl := gcell_at (c := .bool v.cl) h rfl fun c => castB c k
theorem wr_gr (b : Bool) (k : Heap → Option R) : gset G p 3 (.bool b) k = k (G.set p (({ v with gr := b } : V).cells fc dc x y)) := gset_at h (by show 3 < 17; decide) k
theorem wr_fr (f : Option (LB × LB × Int)) (c : Cell) (k : Heap → Option R) : gset G p 4 c k = k (G.set p (({ v with fr := f } : V).cells c dc x y)) := gset_at h (by show 4 < 17; decide) k
theorem wr_rc (l : LC) (k : Heap → Option R) : gset G p 5 (.own 28 2 l) k = k (G.set p (({ v with rc := l } : V).cells fc dc x y)) := gset_at h (by show 5 < 17; decide) k
theorem wr_dc (d : Option Dec) (c : Cell) (k : Heap → Option R) : gset G p 6 c k = k (G.set p (({ v with dec := d } : V).cells fc c x y)) := gset_at h (by show 6 < 17; decide) k
theorem wr_bad (b : Int) (k : Heap → Option R) : gset G p 15 (.int .i64 b) k = k (G.set p (({ v with bad := b } : V).cells fc dc x y)) := gset_at h (by show 15 < 17; decide) k
theorem wr_cl (b : Bool) (k : Heap → Option R) : gset G p 16 (.bool b) k = k (G.set p (({ v with cl := b } : V).cells fc dc x y)) := gset_at h (by show 16 < 17; decide) k
theorem tk_buf (k : LC → Heap → Option R) : gtake 5 1 G p 2 k = k (byteCells v.buf) (G.set p ((v.cells fc dc x y).set 2 (.sl none 1 (byteCells v.buf)))) := gtake_at h rfl k
theorem pt_buf (l : LB) (k : Heap → Option R) : gset (G.set p ((v.cells fc dc x y).set 2 (.sl none 1 (byteCells v.buf)))) p 2 (.own 5 1 (byteCells l)) k = k (G.set p (({ v with buf := l } : V).cells fc dc x y)) := by
 rw [gset_at (g_self h) (by show 2 < 17; decide), List.set_set]; rfl
theorem tk_rc (k : LC → Heap → Option R) : gtake 28 2 G p 5 k = k v.rc (G.set p ((v.cells fc dc x y).set 5 (.sl none 2 v.rc))) := gtake_at h rfl k
theorem pt_rc (l : LC) (k : Heap → Option R) : gset (G.set p ((v.cells fc dc x y).set 5 (.sl none 2 v.rc))) p 5 (.own 28 2 l) k = k (G.set p (({ v with rc := l } : V).cells fc dc x y)) := by
 rw [gset_at (g_self h) (by show 5 < 17; decide), List.set_set]; rfl
end
theorem say_at (k : Nat) (code : Int) (e line : LB) : acall AXE AXF (k + 1) 38 [.one (.int .i64 code), .one (.str e), .one (.str line)] [] = some (.agg [.int .i64 code, .str e, .sl (some ⟨1000000, 2, 9⟩) 1 [.str line]], []) := by
 rw [f38_eq]; rfl
theorem say_k (k : Nat) (code : Int) (e line : LB) (K : Int → LB → LC → OR) : (callK (acall AXE AXF (k + 1)) 38 [.one (.int .i64 code), .one (.str e), .one (.str line)] fun v1 => castAgg v1 fun r2 => cI .i64 r2 fun n3 r4 => cS r4 fun s5 r6 => consK r6 fun c7 r8 => castN 9 1 c7 fun l9 => nilK r8 (K n3 s5 l9)) = K code e [.str line] := by
 rw [callK_some (say_at k code e line), castAgg_agg, cI_cons, cS_cons, consK_cons, castN_one, nilK_nil]
theorem notNow_at (k : Nat) : acall AXE AXF (k + 2) 107 [] [] = some (.one (.sl (some ⟨0, 0, 39⟩) 3 r503), []) := by
 rw [f107_eq, f107_L, say_k k]; rfl
theorem notNow_k (k : Nat) (K : LC → OR) : (callK (acall AXE AXF (k + 2)) 107 [] fun v8 => castOne1 v8 fun c9 => castN 39 3 c9 fun l10 => K l10) = K r503 := by
 rw [callK_some (notNow_at k), castOne1_one, castN_one]
theorem At.gets {G G0 : Heap} {p N : Nat} {v : V} {fc dc x y : Cell} (h : At G p N v fc dc x y) (hf : Frm N p G0 G) (R : AV) : Gets p N G0 (some (R, G)) R v := ⟨G, rfl, ⟨fc, dc, x, y, h⟩, hf⟩
theorem reset_at (k : Nat) {G : Heap} {p N : Nat} {v : V} {fc dc x y : Cell} (h : At G p N v fc dc x y) : ∃ G', acall AXE AXF (k + 1) 34 [.one (.gptr p 0)] G = some (.tup [], G') ∧ At G' p N v.reset .nilp dc x y ∧ Frm N p G G' := by
 refine ⟨_, ?_, h.upd v.reset .nilp dc x y rfl h.dc h.x h.y, Frm.set (.inl rfl)⟩
 rw [f34_eq, f34_L, wr_fr h.cells none, wr_rc (g_self h.cells), List.set_set]; rfl
theorem greet_at (k : Nat) {G : Heap} {p N : Nat} {v : V} (h : Rep G p N v) (verb : Int) : Gets p N G (acall AXE AXF (k + 2) 75 [.one (.gptr p 0), .one (.int .i64 verb)] G) (.one (.sl (some ⟨4, 0, 39⟩) 3 (greetV v verb).1)) (greetV v verb).2 := by
 obtain ⟨fc, dc, x, y, h⟩ := h
 rw [f75_eq, f75_L, wr_gr h.cells]
 obtain ⟨G1, e1, e2, e3⟩ := reset_at k (h.upd { v with gr := true } fc dc x y h.fr h.dc h.x h.y)
 rw [callGK_some e1, castTup_tup, nilK_nil, rd_host e2.cells, say_k k, joinK_eq]
 have hf := (Frm.set (c := ({ v with gr := true } : V).cells fc dc x y) (G := G) (N := N) (.inl (rfl : p = p))).trans e3
 unfold greetV
 cases (verb != (1 : Int)) with
 | true =>
  rw [cond_true, cond_true, guard_ok (by decide)]
  exact e2.gets hf _
 | false => exact e2.gets hf _
theorem mail_at (k : Nat) {G : Heap} {p N : Nat} {v : V} (h : Rep G p N v) (c : S_api_Cmd) : Gets p N G (acall AXE AXF (k + 3) 76 [.one (.gptr p 0), .agg c.cells] G) (.one (.sl (some ⟨4, 0, 39⟩) 3 (mailV v c).1)) (mailV v c).2 := by
 obtain ⟨fc, dc, x, y, h⟩ := h
 rw [f76_eq, f76_L, joinK_eq, rd_gr h.cells, rd_fr h.cells]
 dsimp only
 unfold mailV
 cases hg : v.gr with
 | false => rw [Bool.not_false, cond_true, cond_true, notNow_k k]; exact h.gets (Frm.refl _ _ _) _
 | true =>
  rw [Bool.not_true, cond_false, cond_false]
  have hfr := h.fr
  cases hv : v.fr with
  | some t =>
   obtain ⟨u, w, m⟩ := t
   rw [hv] at hfr
   obtain ⟨q, rfl, _⟩ := hfr
   rw [castP_ptr, cond_true, notNow_k k]; exact h.gets (Frm.refl _ _ _) _
  | none =>
   rw [hv] at hfr
   have hfr : fc = .nilp := hfr
   subst hfr
   rw [castP_nil, cond_false]
   dsimp only
   cases decide (c.fSize > 32768) with
   | true => rw [cond_true, cond_true, say_k (k + 1)]; exact h.gets (Frm.refl _ _ _) _
   | false =>
    rw [cond_false, cond_false, gnew_eq]
    have hlt := g_lt h.cells
    have hl := h.len
    have hap : ∀ q x, G[q]? = some x → (G ++ [(⟨c.fPath_Local, c.fPath_Domain, c.fSize⟩ : S_proto_sender).cells])[q]? = some x := fun q x hq => by
     rw [List.getElem?_append_left (g_lt hq)]; exact hq
    have h1 : At (G ++ [(⟨c.fPath_Local, c.fPath_Domain, c.fSize⟩ : S_proto_sender).cells]) p N v .nilp dc x y :=
     ⟨h.lt, by rw [List.length_append]; omega, hap _ _ h.cells, by rw [hv]; exact rfl, h.dc.mono fun q x _ hq => hap q x hq, h.x, h.y⟩
    have h2 := h1.upd { v with fr := some (c.fPath_Local, c.fPath_Domain, c.fSize) } (.gptr G.length 0) dc x y ⟨G.length, rfl, hl, by rw [List.getElem?_append_right (Nat.le_refl _)]; simp⟩ h1.dc h1.x h1.y
    rw [wr_fr h1.cells (some (c.fPath_Local, c.fPath_Domain, c.fSize)), say_k (k + 1)]
    have h3 := h2.gets ((Frm.app hl).trans (Frm.set (.inl rfl))) (.one (.sl (some ⟨4, 0, 39⟩) 3 rMail))
    rw [hg] at h3 ⊢
    exact h3
theorem rcpt_at (k : Nat) {G : Heap} {p N : Nat} {v : V} (h : Rep G p N v) (c : S_api_Cmd) : Gets p N G (acall AXE AXF (k + 3) 77 [.one (.gptr p 0), .agg c.cells] G) (.one (.sl (some ⟨4, 0, 39⟩) 3 (rcptV v c).1)) (rcptV v c).2 := by
 obtain ⟨fc, dc, x, y, h⟩ := h
 rw [f77_eq, f77_L, joinK_eq, rd_fr h.cells]
 dsimp only
 unfold rcptV
 have hfr := h.fr
 cases hv : v.fr with
 | none =>
  rw [hv] at hfr
  have hfr : fc = .nilp := hfr
  subst hfr
  rw [castP_nil, cond_true, notNow_k k]; exact h.gets (Frm.refl _ _ _) _
 | some t =>
  obtain ⟨u, w, m⟩ := t
  rw [hv] at hfr
  obtain ⟨q, rfl, hq, e2⟩ := hfr
  rw [castP_ptr, cond_false, rd_rc h.cells]
  dsimp only
  by_cases h20 : 20 ≤ v.rc.length / 2
  · rw [cut_ok (by omega), cut_ok h20, say_k (k + 1)]; exact h.gets (Frm.refl _ _ _) _
  · rw [cut_no (by omega), cut_no h20, rd_fr h.cells, castP_ptr, gcells_at e2 (by show 0 + 0 + 2 ≤ 3; decide)]
    show Gets p N G (gP G p 4 none fun b28 o29 => _) _ _
    rw [rd_fr h.cells, castP_ptr]
    show Gets p N G (gcell G q 2 fun c => castI .i64 c fun n => _) _ _
    rw [gcell_at e2 rfl, castI_one, gsets_at h.cells (by show 7 + 8 ≤ 17; decide)]
    have h3 := (h.upd { v with kind := 1, a := u, b := w, c := c.fPath_Local, d := c.fPath_Domain, k := m, to := [], body := [] } (.gptr q 0) dc (.sl none 2 []) (.sl none 1 []) h.fr h.dc (.inr rfl) (.inr rfl)).gets (Frm.set (.inl rfl)) (.one (.sl (some ⟨4, 0, 39⟩) 3 []))
    rw [hv] at h3
    exact h3
theorem begin_at (k : Nat) {G : Heap} {p N : Nat} {v : V} (h : Rep G p N v) : Gets p N G (acall AXE AXF (k + 3) 78 [.one (.gptr p 0)] G) (.one (.sl (some ⟨2, 0, 39⟩) 3 (beginV v).1)) (beginV v).2 := by
  obtain ⟨fc, dc, x, y, h⟩ := h
  rw [f78_eq, f78_L, joinK_eq, rd_fr h.cells]
  dsimp only
  unfold beginV
  have hfr := h.fr
  cases hv : v.fr with
  | none =>
    rw [hv] at hfr
    have hfr : fc = .nilp := hfr
    subst hfr
    rw [castP_nil, cond_true, notNow_k k]; exact h.gets (Frm.refl _ _ _) _
  | some t =>
    obtain ⟨u, w, m⟩ := t
    rw [hv] at hfr
    obtain ⟨q, rfl, hq, e2⟩ := hfr
    rw [castP_ptr, cond_false, rd_rc h.cells]
    dsimp only
    by_cases h0 : v.rc.length / 2 = 0
    · rw [h0, show (((0 : Nat) : Int) == 0) = true from rfl, cond_true, say_k (k + 1)]; exact h.gets (Frm.refl _ _ _) _
    · rw [show (((v.rc.length / 2 : Nat) : Int) == 0) = false by rw [beq_eq_false_iff_ne]; omega, cond_false, show Nat.beq (v.rc.length / 2) 0 = false by cases hb : Nat.beq (v.rc.length / 2) 0 with | false => rfl | true => exact absurd (Nat.eq_of_beq_eq_true hb) h0, cond_false, joinK_eq]
      have e3 : acall AXE AXF (k + 2) 108 [.one (.int .i64 32768)] G = some (.one (.gptr G.length 0), G ++ [Dec.cells Dec.zero]) := by rw [f108_eq]; rfl
      rw [callGK_some e3]
      show Gets p N G (gset (G ++ [Dec.cells Dec.zero]) p 6 (.gptr G.length 0) _) _ _
      have hl := h.len
      have hap : ∀ q x, G[q]? = some x → (G ++ [Dec.cells Dec.zero])[q]? = some x := fun q x hq => by
        rw [List.getElem?_append_left (g_lt hq)]; exact hq
      rw [wr_dc (hap _ _ h.cells) (some Dec.zero), say_k (k + 1)]
      have h3 : At (((G ++ [Dec.cells Dec.zero])).set p (({ v with dec := some Dec.zero } : V).cells (.gptr q 0) (.gptr G.length 0) x y)) p N { v with dec := some Dec.zero } (.gptr q 0) (.gptr G.length 0) x y := by
       refine ⟨h.lt, by rw [List.length_set, List.length_append]; omega, g_self (hap _ _ h.cells), ?_, ?_, h.x, h.y⟩
       · have := h.lt
         exact h.fr.mono fun q x h1 h2 _ => by rw [g_other (by omega)]; exact hap q x h2
       · have := h.lt
         exact ⟨G.length, rfl, hl, by rw [g_other (by omega), List.getElem?_append_right (Nat.le_refl _)]; simp⟩
      have h4 := h3.gets ((Frm.app hl).trans (Frm.set (.inl rfl))) (.one (.sl (some ⟨2, 0, 39⟩) 3 r354))
      rw [hv] at h4
      exact h4
theorem other_at (k : Nat) {G : Heap} {p N : Nat} {v : V} (h : Rep G p N v) (verb : Int) : Gets p N G (acall AXE AXF (k + 2) 79 [.one (.gptr p 0), .one (.int .i64 verb)] G) (.one (.sl (some ⟨4, 0, 39⟩) 3 (otherV v verb).1)) (otherV v verb).2 := by
 obtain ⟨fc, dc, x, y, h⟩ := h
 rw [f79_eq, f79_L, joinK_eq]
 unfold otherV
 cases (verb == (7 : Int)) with
 | true =>
  obtain ⟨G1, e1, e2, e3⟩ := reset_at k h
  rw [cond_true, cond_true, callGK_some e1, castTup_tup, nilK_nil]
  dsimp only
  rw [say_k k]
  exact e2.gets e3 _
 | false =>
  rw [cond_false, cond_false]
  cases (verb == (10 : Int)) with
  | true => rw [cond_true, cond_true, say_k k]; exact h.gets (Frm.refl _ _ _) _
  | false =>
   rw [cond_false, cond_false]
   cases (verb == (11 : Int)) with
   | true => rw [cond_true, cond_true, say_k k]; exact h.gets (Frm.refl _ _ _) _
   | false =>
    rw [cond_false, cond_false]
    cases (verb == (9 : Int)) with
    | true =>
     rw [cond_true, cond_true, wr_cl h.cells, say_k k]
     exact (h.upd { v with cl := true } fc dc x y h.fr h.dc h.x h.y).gets (Frm.set (.inl rfl)) _
    | false => rw [cond_false, cond_false]; dsimp only; rw [say_k k]; exact h.gets (Frm.refl _ _ _) _
theorem Gets.fwd {call : CallF} {f : FuncId} {args : List AV} {G : Heap} {p N : Nat} {v' : V} {nm : Option Nm} {L : LC} (h : Gets p N G (call f args G) (.one (.sl nm 3 L)) v') (hn : nm = some ⟨4, 0, 39⟩ ∨ nm = some ⟨2, 0, 39⟩) :
 Gets p N G (callGK call f args G fun v G' => castOne1 v fun c => castN 39 3 c fun l => some (.one (.sl (some ⟨4, 0, 39⟩) 3 l), G')) (.one (.sl (some ⟨4, 0, 39⟩) 3 L)) v' := by
 obtain ⟨G', e, h1, h2⟩ := h
 rcases hn with rfl | rfl
 · rw [callGK_some e, castOne1_one, castN_one]; exact ⟨G', rfl, h1, h2⟩
 · rw [callGK_some e, castOne1_one, castN_one]; exact ⟨G', rfl, h1, h2⟩
def pvOf : OR → S_api_Cmd × Int
 | some (.tup [.agg [.int .i64 a, .str b, .str c, .str d, .bool e, .int .i64 f, .int .i64 g], .one (.int .i64 x)], _) => (⟨a, b, c, d, e, f, g⟩, x)
 | _ => (⟨0, [], [], [], false, 0, 0⟩, 500)
noncomputable def pv (n : Nat) (l : LB) : S_api_Cmd × Int := pvOf (acall AXE AXF (n + 1) 74 [.one (.str l)] [])
theorem pv_at {n : Nat} (hn : 1140 ≤ n) (l : LB) (hl : l.length ≤ 1000) : acall AXE AXF (n + 1) 74 [.one (.str l)] [] = some (.tup [.agg (pv n l).1.cells, .one (.int .i64 (pv n l).2)], []) ∧ (pv n l).1.fPath_Local.length ≤ 1000 ∧ (pv n l).1.fPath_Domain.length ≤ 1000 := by
 obtain ⟨w, x, e1, _, e3, e4, _⟩ := tot_parse hn l hl
 have e : pv n l = (w, x) := by unfold pv; rw [e1]; rfl
 rw [e]
 exact ⟨e1, e3, e4⟩
attribute [irreducible] pv
theorem command_at {n : Nat} (hn : 1150 ≤ n) {G : Heap} {p N : Nat} {v : V} (h : Rep G p N v) (l : LB) (hl : l.length ≤ 1000) :
 Gets p N G (acall AXE AXF (n + 1) 48 [.one (.gptr p 0), .one (.str l)] G) (.one (.sl (some ⟨4, 0, 39⟩) 3 (commandV (pv (n - 1) l) v).1)) (commandV (pv (n - 1) l) v).2 := by
 rw [f48_eq, f48_L]
 obtain ⟨k, rfl⟩ : ∃ k, n = k + 3 := ⟨n - 3, by omega⟩
 obtain ⟨e1, _, _⟩ := pv_at (n := k + 2) (by omega) l hl
 rw [show k + 3 - 1 = k + 2 from rfl]
 generalize pv (k + 2) l = wx at *
 obtain ⟨w, x⟩ := wx
 rw [callK_some e1, castTup_tup, consK_cons, aggV_agg, takeS_api_Cmd_cells_nil, nilK_nil, zI_cons, nilK_nil]
 generalize hY : commandV (w, x) v = Y
 refine join_prop (fun j => ∀ b : Bool, b = noV x w.fVerb v.lm → Gets p N G (j p x b w G) (.one (.sl (some ⟨4, 0, 39⟩) 3 Y.1)) Y.2) (Q := fun r => Gets p N G r (.one (.sl (some ⟨4, 0, 39⟩) 3 Y.1)) Y.2) ?_ ?_
 · intro b hb
   rw [← hY]
   unfold commandV
   dsimp only
   rw [← hb]
   cases b with
   | true => rw [cond_true, cond_true, say_k (k + 2)]; obtain ⟨fc, dc, x, y, h⟩ := h; exact h.gets (Frm.refl _ _ _) _
   | false =>
    rw [cond_false, cond_false]
    cases (x == (501 : Int)) with
    | true => rw [cond_true, cond_true, say_k (k + 2)]; obtain ⟨fc, dc, x, y, h⟩ := h; exact h.gets (Frm.refl _ _ _) _
    | false =>
     rw [cond_false, cond_false]
     cases (x == (555 : Int)) with
     | true => rw [cond_true, cond_true, say_k (k + 2)]; obtain ⟨fc, dc, x, y, h⟩ := h; exact h.gets (Frm.refl _ _ _) _
     | false =>
      rw [cond_false, cond_false]
      generalize hZ : dispV w v = Z
      refine join_prop (fun j => ∀ b : Bool, b = (w.fVerb == 1 || (w.fVerb == 2 || w.fVerb == 3)) → Gets p N G (j p w.fVerb b w G) (.one (.sl (some ⟨4, 0, 39⟩) 3 Z.1)) Z.2) (Q := fun r => Gets p N G r (.one (.sl (some ⟨4, 0, 39⟩) 3 Z.1)) Z.2) ?_ ?_
      · intro b hb
        rw [← hZ]
        unfold dispV
        dsimp only
        rw [← hb]
        cases b with
        | true => rw [cond_true, cond_true]; exact (greet_at (k + 1) h w.fVerb).fwd (.inl rfl)
        | false =>
         rw [cond_false, cond_false]
         cases (w.fVerb == (4 : Int)) with
         | true => rw [cond_true, cond_true]; exact (mail_at k h w).fwd (.inl rfl)
         | false =>
          rw [cond_false, cond_false]
          cases (w.fVerb == (5 : Int)) with
          | true => rw [cond_true, cond_true]; exact (rcpt_at k h w).fwd (.inl rfl)
          | false =>
           rw [cond_false, cond_false]
           cases (w.fVerb == (6 : Int)) with
           | true => rw [cond_true, cond_true]; exact (begin_at k h).fwd (.inr rfl)
           | false => rw [cond_false, cond_false]; exact (other_at (k + 1) h w.fVerb).fwd (.inl rfl)
      · intro j hj
        cases h1 : (w.fVerb == (1 : Int)) with
        | true => exact hj true (by rw [h1]; rfl)
        | false =>
         cases h2 : (w.fVerb == (2 : Int)) with
         | true => exact hj true (by rw [h1, h2]; rfl)
         | false => exact hj _ (by rw [h1, h2]; rfl)
 · intro j hj
   obtain ⟨fc, dc, x', y', h⟩ := h
   simp only [rd_lm h.cells]
   unfold noV at hj
   cases h0 : (x == (500 : Int)) with
   | true => exact hj true (by rw [h0]; rfl)
   | false =>
    rw [cond_false]
    cases h3 : (w.fVerb == (3 : Int)) with
    | true =>
     rw [cond_true]
     cases hl : v.lm with
     | false => exact hj true (by rw [h0, h3, hl]; rfl)
     | true =>
      have e3 : w.fVerb = 3 := by simpa using h3
      rw [Bool.not_true, cond_false, e3]
      exact hj false (by rw [h0, h3, hl]; rfl)
    | false =>
     rw [cond_false]
     cases h1 : (w.fVerb == (1 : Int)) with
     | true => rw [cond_true]; exact hj _ (by rw [h0, h3, h1]; rfl)
     | false =>
      rw [cond_false]
      cases h2 : (w.fVerb == (2 : Int)) with
      | true => rw [cond_true]; exact hj _ (by rw [h0, h3, h1, h2]; rfl)
      | false => exact hj false (by rw [h0, h3, h1, h2]; rfl)
end AX
end Go.Proofs.YtnkppakkeobegaaGreatDoor
