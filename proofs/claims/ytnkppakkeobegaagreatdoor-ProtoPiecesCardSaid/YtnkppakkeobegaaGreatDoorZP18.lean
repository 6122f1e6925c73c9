/-
  PgParse, DotPlain.
-/
import Derived.Test.YtnkppakkeobegaaGreatDoorZP17
import Derived.Lib.CountLaws
import Derived.Test.YtnkppakkeobegaaGreatDoorZP00
set_option maxRecDepth 20000
set_option linter.unusedVariables false
set_option linter.unusedSimpArgs false
set_option linter.unusedSectionVars false
namespace Go.Proofs.YtnkppakkeobegaaGreatDoor
namespace AX
theorem cut_subs (p : List UInt8) (sep : List UInt8) : (∀ x ∈ (Lib.cut p sep).1, x ∈ p) ∧ (∀ x ∈ (Lib.cut p sep).2.1, x ∈ p) ∧ (Lib.cut p sep).1.length ≤ p.length ∧ (Lib.cut p sep).2.1.length ≤ p.length := by
 unfold Lib.cut
 split
 · exact ⟨fun x hx => List.mem_of_mem_take hx, fun x hx => List.mem_of_mem_drop hx, by simp only [List.length_take]; omega, by simp only [List.length_drop]; omega⟩
 · exact ⟨fun x hx => hx, fun x hx => (by cases hx), Nat.le_refl _, Nat.zero_le _⟩
theorem cut_pre (p sep : List UInt8) : ∃ k, (Lib.cut p sep).1 = p.take k := by
 unfold Lib.cut
 split
 · exact ⟨_, rfl⟩
 · exact ⟨p.length, (List.take_length).symm⟩
theorem splitK_sub (sep : List UInt8) : ∀ (k : Nat) (t x : List UInt8), x ∈ Lib.splitK sep 0 k t → (∀ c ∈ x, c ∈ t) ∧ x.length ≤ t.length
 | 0, t, x, h => by
  rw [Lib.splitK, List.mem_singleton] at h; subst h; exact ⟨fun _ h => h, Nat.le_refl _⟩
 | k + 1, t, x, h => by
  rw [Lib.splitK] at h
  split at h
  · rw [List.mem_singleton] at h; subst h; exact ⟨fun _ h => h, Nat.le_refl _⟩
  · rcases List.mem_cons.1 h with rfl | h2
    · exact ⟨fun c hc => List.mem_of_mem_take hc, by rw [List.length_take]; omega⟩
    · have := splitK_sub sep k _ x h2
      exact ⟨fun c hc => List.mem_of_mem_drop (this.1 c hc), by have := this.2; rw [List.length_drop] at this; omega⟩
theorem splitK_len (sep : List UInt8) : ∀ (k : Nat) (t : List UInt8), (Lib.splitK sep 0 k t).length ≤ k + 1
 | 0, t => by rw [Lib.splitK]; simp
 | k + 1, t => by
  rw [Lib.splitK]
  split
  · simp
  · have := splitK_len sep k (t.drop ((Lib.index t sep).toNat + sep.length))
    simp; omega
def pathOk (c : S_api_Cmd) (r : OR) : Prop := ∃ (x : Int) (c' : S_api_Cmd), r = some (.one (.int .i64 x), [c'.cells]) ∧ cOk x ∧ c'.fVerb = c.fVerb ∧ c'.fPath_Local.length ≤ 1000 ∧ c'.fPath_Domain.length ≤ 1000
theorem tot_path {n : Nat} (hn : 1130 ≤ n) (c : S_api_Cmd) (l front : List UInt8) (null : Bool) (hl : l.length ≤ 1000) (ha : asciiB l = true) (h1 : c.fPath_Local.length ≤ 1000) (h2 : c.fPath_Domain.length ≤ 1000) :
 pathOk c (acall AXE AXF (n + 1) 106 [.one (.ptr 0 0), .one (.str l), .one (.str front), .one (.bool null)] [c.cells]) := by
 rw [f106_eq]
 unfold f106_L
 obtain ⟨k, rfl⟩ : ∃ k, n = k + 1 := ⟨n - 1, by omega⟩
 refine join_prop (fun j => ∀ b : Bool, (b = false → front.length ≤ l.length) → pathOk c (j l front null b c)) (Q := pathOk c) ?_ ?_
 · intro b hb
   cases b with
   | true => exact ⟨_, c, rfl, .inr (.inl rfl), rfl, h1, h2⟩
   | false =>
    have hfl := hb rfl
    dsimp only
    rw [cond_false, cut_ok ⟨by omega, by rw [Int.toNat_natCast]; exact hfl⟩]
    have hr : ((l.take l.length).drop (Int.toNat (front.length : Int))).length ≤ 1000 := by rw [List.length_drop, List.length_take]; omega
    have har := asc_cut ha l.length (Int.toNat (front.length : Int))
    generalize (l.take l.length).drop (Int.toNat (front.length : Int)) = r at *
    obtain ⟨s, t, kk, e, e1, e2, e3, e4⟩ := tot_read (n := k) (by omega) r hr null
    rw [callK_some e1, castTup_tup, consK_cons, aggV_agg, cS_cons, cS_cons, nilK_nil, zI_cons, zI_cons, nilK_nil]
    by_cases he : e = 0
    · subst he
      obtain ⟨e5, e6⟩ := e4 rfl
      rw [show ((0 : Int) != 0) = false by rfl, cond_false, cut_ok ⟨e5, by omega⟩]
      have hq : ((r.take r.length).drop (Int.toNat kk)).length ≤ 1000 := by rw [List.length_drop, List.length_take]; omega
      have haq := asc_cut har r.length (Int.toNat kk)
      generalize (r.take r.length).drop (Int.toNat kk) = q at *
      by_cases hq0 : q = []
      · subst hq0
        exact ⟨_, _, rfl, .inl rfl, rfl, e2, e3⟩
      · have hqp := str_pos hq0
        obtain ⟨u, _, hu⟩ := item_ex (l := q) (i := 0) (by omega) (by omega)
        rw [str_ne hq0, cond_false, hu]
        generalize ((UInt8.toNat u : Int) != 32) = x
        cases x with
        | true => exact ⟨_, _, rfl, .inr (.inl rfl), rfl, e2, e3⟩
        | false =>
         rw [cond_false, cut_ok ⟨by decide, by show 1 ≤ q.length; omega⟩]
         have hz : ((q.take q.length).drop (Int.toNat 1)).length ≤ 1000 := by rw [List.length_drop, List.length_take]; omega
         have haz := asc_cut haq q.length (Int.toNat 1)
         generalize (q.take q.length).drop (Int.toNat 1) = z at *
         have hsp : pSplit [.one (.str z), .one (.str [32])] = some (.one (.sl none 1 ((Lib.split z [32]).map .str))) := by
          show (bif decide (z.length ≤ 100000000) then _ else none) = _
          rw [decide_eq_true (by omega)]; rfl
         rw [primK_some hsp, oL_one]
         have hcl := Lib.count_le z [32]
         obtain ⟨x, c', e7, e8, e9⟩ := tot_params (n := k) (by omega) ({ c with fPath_Local := s, fPath_Domain := t, fNull := ((s == ([] : List UInt8)) && ((t == ([] : List UInt8)) && true)) } : S_api_Cmd) (Lib.split z [32])
          (fun p hp => by
           obtain ⟨g1, g2⟩ := splitK_sub [32] _ z p hp
           exact ⟨asc_sub haz g1, by omega⟩)
          (by have := splitK_len [32] (Lib.count z [32]) z; show (Lib.splitK [32] 0 (Lib.count z [32]) z).length ≤ 1010; omega) (fun p => cut_subs p [61])
         rw [callRK_some e7, consK_cons, takeS_api_Cmd_cells_nil, nilK_nil, nilK_nil, oI_one]
         exact ⟨x, c', rfl, e8, e9.v, by rw [e9.l]; exact e2, by rw [e9.d]; exact e3⟩
    · rw [show (e != 0) = true by simpa using he]
      exact ⟨_, c, rfl, .inr (.inl rfl), rfl, h1, h2⟩
 · intro j hj
   by_cases hlt : l.length < front.length
   · rw [cut_ok (by omega)]
     exact hj _ fun h => by cases h
   · rw [cut_no (by omega), cut_ok ⟨by omega, by rw [Int.toNat_natCast]; omega⟩]
     rw [callK_some (upper_at (n := k) _ (by rw [List.length_drop, List.length_take]; omega) (by rw [List.length_drop, List.length_take]; omega)), oS_one]
     exact hj _ fun _ => by omega
def parseOk (l : List UInt8) (r : OR) : Prop := ∃ (w : S_api_Cmd) (x : Int), r = some (.tup [.agg w.cells, .one (.int .i64 x)], []) ∧ (x = 0 ∨ x = 500 ∨ x = 501 ∨ x = 555) ∧ w.fPath_Local.length ≤ 1000 ∧ w.fPath_Domain.length ≤ 1000 ∧
 0 ≤ w.fVerb ∧ w.fVerb < 12 ∧ (w.fVerb = 6 → 4 ≤ l.length ∧ (l[0]? = some 68 ∨ l[0]? = some 100))
theorem data_D {l : List UInt8} (h : upL (Lib.cut l [32]).1 = [68, 65, 84, 65]) : 4 ≤ l.length ∧ (l[0]? = some 68 ∨ l[0]? = some 100) := by
 obtain ⟨k, hk⟩ := cut_pre l [32]
 rw [hk] at h
 have hlen := congrArg List.length h
 unfold upL at h hlen
 rw [List.length_map, List.length_take] at hlen
 simp only [List.length_cons, List.length_nil] at hlen
 refine ⟨by omega, ?_⟩
 cases l with
 | nil => simp at hlen
 | cons c r =>
  obtain ⟨m, rfl⟩ : ∃ m, k = m + 1 := ⟨k - 1, by omega⟩
  rw [List.take_succ_cons, List.map_cons] at h
  have := upC_D c (List.cons.inj h).1
  simpa using this
theorem tot_parse {n : Nat} (hn : 1140 ≤ n) (l : List UInt8) (hl : l.length ≤ 1000) : parseOk l (acall AXE AXF (n + 1) 74 [.one (.str l)] []) := by
 rw [f74_eq]
 unfold f74_L
 obtain ⟨k, rfl⟩ : ∃ k, n = k + 1 := ⟨n - 1, by omega⟩
 have zero : ∀ x, (x = 0 ∨ x = 500 ∨ x = 501 ∨ x = 555) → parseOk l (some (.tup [.agg (⟨(0 : Int), ([] : List UInt8), ([] : List UInt8), ([] : List UInt8), false, (0 : Int), (0 : Int)⟩ : S_api_Cmd).cells, .one (.int .i64 x)], [])) := fun x hx =>
  ⟨_, x, rfl, hx, by simp, by simp, by decide, by decide, fun h => by cases h⟩
 refine join_prop (fun j => ∀ b : Bool, (b = false → asciiB l = true) → parseOk l (j l b ⟨(0 : Int), ([] : List UInt8), ([] : List UInt8), ([] : List UInt8), false, (0 : Int), (0 : Int)⟩)) (Q := parseOk l) ?_ ?_
 · intro b hb
   cases b with
   | true => exact zero 500 (.inr (.inl rfl))
   | false =>
    have ha := hb rfl
    dsimp only
    rw [cond_false, primK_some (pCut_at (by omega)), castTup_tup, zS_cons, zS_cons, zB_cons, nilK_nil]
    obtain ⟨q1, q2, q3, q4⟩ := cut_subs l [32]
    have hD := fun h => data_D (l := l) h
    have har := asc_sub ha q2
    have hrl : (Lib.cut l [32]).2.1.length ≤ 1000 := by omega
    obtain ⟨v, e1, e2, e3⟩ := tot_verb (n := k) (by omega) (Lib.cut l [32]).1 (by omega)
    rw [callK_some e1, oI_one]
    have hv6 : v = 6 → 4 ≤ l.length ∧ (l[0]? = some 68 ∨ l[0]? = some 100) := fun h => hD (e3 h)
    clear e3 hD e1 q1 q2
    generalize (Lib.cut l [32]).2.1 = r at *
    generalize (Lib.cut l [32]).2.2 = bl at *
    refine join_prop (fun j => ∀ (x : Int) (c : S_api_Cmd), (x = 0 ∨ x = 500 ∨ x = 501 ∨ x = 555) → c.fPath_Local.length ≤ 1000 → c.fPath_Domain.length ≤ 1000 → c.fVerb = (v : Int) → parseOk l (j x ⟨(0 : Int), ([] : List UInt8), ([] : List UInt8), ([] : List UInt8), false, (0 : Int), (0 : Int)⟩ c)) (Q := parseOk l) ?_ ?_
    · intro x c hx h1 h2 h3
      dsimp only
      by_cases h0 : x = 0
      · subst h0
        exact ⟨c, 0, rfl, .inl rfl, h1, h2, by omega, by omega, fun h => hv6 (by omega)⟩
      · rw [show (x != 0) = true by simpa using h0]
        exact zero x hx
    · intro j17 hj17
      have hn0 : ∀ b : Bool, ((bif b then 0 else 501 : Int) = 0 ∨ (bif b then 0 else 501 : Int) = 500 ∨ (bif b then 0 else 501 : Int) = 501 ∨ (bif b then 0 else 501 : Int) = 555) := fun b => by cases b <;> decide
      have hc0 : ∀ x : Int, cOk x → (x = 0 ∨ x = 500 ∨ x = 501 ∨ x = 555) := fun x hx => by rcases hx with h | h | h <;> omega
      by_cases h0 : (v : Int) = 0
      · rw [show ((v : Int) == 0) = true by simpa using h0, cond_true]
        exact hj17 500 _ (.inr (.inl rfl)) (by simp) (by simp) rfl
      · rw [show ((v : Int) == 0) = false by simpa using h0, cond_false]
        refine join_prop (fun j => ∀ b : Bool, parseOk l (j r bl 0 (v : Int) b ⟨(0 : Int), ([] : List UInt8), ([] : List UInt8), ([] : List UInt8), false, (0 : Int), (0 : Int)⟩ ⟨(v : Int), ([] : List UInt8), ([] : List UInt8), ([] : List UInt8), false, (-1 : Int), (0 : Int)⟩)) (Q := parseOk l) ?_ ?_
        · intro b
          cases b with
          | true =>
           obtain ⟨b1, e4⟩ := tot_Domain (n := k) (by omega) r hrl
           dsimp only
           rw [cond_true, callK_some e4, oB_one]
           cases b1 with
           | true =>
            rw [cond_true, callK_some (need_at k true), oI_one]
            exact hj17 _ _ (hn0 true) (by simp) (by simp) rfl
           | false =>
            obtain ⟨b2, e5⟩ := tot_literal k r hrl har
            rw [cond_false, callK_some e5, oB_one, callK_some (need_at k b2), oI_one]
            exact hj17 _ _ (hn0 b2) (by simp) (by simp) rfl
          | false =>
           dsimp only
           rw [cond_false]
           by_cases h4 : (v : Int) = 4
           · obtain ⟨x, c', e6, e7, e8, e9, e10⟩ := tot_path (n := k) (by omega) ⟨(v : Int), ([] : List UInt8), ([] : List UInt8), ([] : List UInt8), false, (-1 : Int), (0 : Int)⟩ r [70, 82, 79, 77, 58] true hrl har (by simp) (by simp)
             rw [show ((v : Int) == 4) = true by simpa using h4, cond_true, callRK_some e6, consK_cons, takeS_api_Cmd_cells_nil, nilK_nil, nilK_nil, oI_one]
             exact hj17 x c' (hc0 x e7) e9 e10 e8
           · rw [show ((v : Int) == 4) = false by simpa using h4, cond_false]
             by_cases h5 : (v : Int) = 5
             · obtain ⟨x, c', e6, e7, e8, e9, e10⟩ := tot_path (n := k) (by omega) ⟨(v : Int), ([] : List UInt8), ([] : List UInt8), ([] : List UInt8), false, (-1 : Int), (0 : Int)⟩ r [84, 79, 58] false hrl har (by simp) (by simp)
               rw [show ((v : Int) == 5) = true by simpa using h5, cond_true, callRK_some e6, consK_cons, takeS_api_Cmd_cells_nil, nilK_nil, nilK_nil, oI_one]
               exact hj17 x c' (hc0 x e7) e9 e10 e8
             · rw [show ((v : Int) == 5) = false by simpa using h5, cond_false]
               refine join_prop (fun j => ∀ b : Bool, parseOk l (j r bl 0 (v : Int) b ⟨(0 : Int), ([] : List UInt8), ([] : List UInt8), ([] : List UInt8), false, (0 : Int), (0 : Int)⟩ ⟨(v : Int), ([] : List UInt8), ([] : List UInt8), ([] : List UInt8), false, (-1 : Int), (0 : Int)⟩)) (Q := parseOk l) ?_ ?_
               · intro b
                 dsimp only
                 cases b with
                 | true =>
                  rw [cond_true, callK_some (need_at k _), oI_one]
                  exact hj17 _ _ (hn0 _) (by simp) (by simp) rfl
                 | false =>
                  rw [cond_false]
                  generalize ((v : Int) == 10) = z
                  cases z with
                  | true =>
                   rw [cond_true, callK_some (need_at k _), oI_one]
                   exact hj17 _ _ (hn0 _) (by simp) (by simp) rfl
                  | false => exact hj17 _ _ (.inl rfl) (by simp) (by simp) rfl
               · intro j hj
                 generalize ((v : Int) == 6) = z
                 generalize ((v : Int) == 7) = z2
                 generalize ((v : Int) == 9) = z3
                 cases z with
                 | true => exact hj true
                 | false =>
                  cases z2 with
                  | true => exact hj true
                  | false => exact hj _
        · intro j hj
          generalize ((v : Int) == 1) = z
          generalize ((v : Int) == 2) = z2
          generalize ((v : Int) == 3) = z3
          cases z with
          | true => exact hj true
          | false =>
           cases z2 with
           | true => exact hj true
           | false => exact hj _
 · intro j hj
   by_cases h : 510 < l.length
   · rw [cut_ok (by omega)]; exact hj true fun h => by cases h
   · obtain ⟨b, e1, e2⟩ := tot_printed (n := k) (by omega) l hl
     rw [cut_no (by omega), callK_some e1, oB_one]
     exact hj _ fun hb => e2 (by cases b with | true => rfl | false => cases hb)
end AX
end Go.Proofs.YtnkppakkeobegaaGreatDoor
set_option maxRecDepth 20000
set_option linter.unusedVariables false
set_option linter.unusedSimpArgs false
set_option linter.unusedSectionVars false
namespace Go.Proofs.YtnkppakkeobegaaGreatDoor
structure Dec where
 st : Nat
 line : Nat
 all : List UInt8
 long : Bool
 bare : Bool
def Dec.keep (d : Dec) (c : UInt8) : Dec := { d with line := d.line + 1, all := d.all ++ [c], long := d.long || decide (1000 < d.line + 1) }
def Dec.plain (d : Dec) (c : UInt8) : Dec := { d.keep c with st := if c = 13 then 4 else 3, bare := d.bare || decide (c = 10) }
def Dec.step (d : Dec) (c : UInt8) : Dec :=
 if d.st = 0 then (if c = 46 then { d with st := 1, line := 0 } else { d with line := 0 }.plain c)
 else if d.st = 1 then (if c = 13 then { d with st := 2 } else d.plain c)
 else if d.st = 2 then (if c = 10 then { d with st := 5 } else ({ d with bare := true }.keep 13).plain c)
 else if d.st = 3 then d.plain c
 else if d.st = 4 then (if c = 10 then { d.keep 10 with st := 0 } else { d with bare := true }.plain c)
 else d
def Dec.feed : Dec → List UInt8 → Dec × Nat
 | d, [] => (d, 0)
 | d, c :: r => if d.st = 5 then (d, 0) else (((d.step c).feed r).1, ((d.step c).feed r).2 + 1)
def Dec.zero : Dec := ⟨0, 0, [], false, false⟩
theorem feed_done {d : Dec} (h : d.st = 5) (l : List UInt8) : d.feed l = (d, 0) := by cases l <;> simp [Dec.feed, h]
theorem feed_append : ∀ (a b : List UInt8) (d : Dec), d.feed (a ++ b) = (((d.feed a).1.feed b).1, (d.feed a).2 + ((d.feed a).1.feed b).2)
 | [], b, d => by simp [Dec.feed]
 | c :: a, b, d => by
  by_cases h : d.st = 5
  · rw [feed_done h, feed_done h]; simp [feed_done h]
  · have ih := feed_append a b (d.step c)
    simp only [List.cons_append, Dec.feed, if_neg h, ih]
    simp; omega
theorem feed_le : ∀ (l : List UInt8) (d : Dec), (d.feed l).2 ≤ l.length
 | [], d => by simp [Dec.feed]
 | c :: l, d => by
  have := feed_le l (d.step c)
  by_cases h : d.st = 5
  · simp [Dec.feed, h]
  · simp only [Dec.feed, if_neg h, List.length_cons]; omega
structure Rdg where
 all : List UInt8
 long : Bool
 bare : Bool
 used : Nat
 done : Bool
structure Agree (d : Dec) (k : Nat) (g g0 : Rdg) : Prop where
 all : d.all = g.all
 long : d.long = g.long
 bare : d.bare = g.bare
 used : k + g0.used = g.used
 done : decide (d.st = 5) = g.done
end Go.Proofs.YtnkppakkeobegaaGreatDoor
