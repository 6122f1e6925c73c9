/-
  PgInv.
-/
import Derived.Test.YtnkppakkeobegaaGreatDoorZP19
set_option maxRecDepth 20000
set_option linter.unusedVariables false
set_option linter.unusedSimpArgs false
set_option linter.unusedSectionVars false
namespace Go.Proofs.YtnkppakkeobegaaGreatDoor
namespace AX
structure VV (M : Nat) (v : V) : Prop where
 buf : 2 * v.buf.length ≤ M
 dec : ∀ d, v.dec = some d → d.st ≠ 5 ∧ d.all.length + 2 * v.buf.length ≤ M ∧ d.line + 2 * v.buf.length ≤ M ∧ v.fr ≠ none ∧ v.kind = 0
 rc : v.rc.length / 2 ≤ 20 ∧ (v.kind = 1 → v.rc.length / 2 ≤ 19)
 kind : v.kind = 0 ∨ v.kind = 1 ∨ v.kind = 2
 cd : v.c.length ≤ 1000 ∧ v.d.length ≤ 1000
 body : v.body.length ≤ M ∧ v.to.length ≤ 41
 bad : 0 ≤ v.bad ∧ v.bad ≤ 10 ∧ (v.cl = false → v.bad ≤ 9)
theorem VV.add {M : Nat} {v : V} (h : VV M v) (w : LB) : VV (M + 2 * w.length) (v.add w) := by
 refine ⟨?_, fun d hd => ?_, h.rc, h.kind, h.cd, ⟨Nat.le_trans h.body.1 (Nat.le_add_right _ _), h.body.2⟩, h.bad⟩
 · have := h.buf; simp [V.add]; omega
 · obtain ⟨h1, h2, h3, h4, h5⟩ := h.dec d hd
   refine ⟨h1, ?_, ?_, h4, h5⟩ <;> simp [V.add] <;> omega
def RepsV : List LC := [r500, r501, r555, r503, rHelo, rEhlo, r552, rMail, r452, r554, r354, rOk, r252, r214, r221]
structure CmdOk (M : Nat) (v : V) (L : LC) (v' : V) : Prop where
 ok : VV M v'
 rep : L = [] ∨ L ∈ RepsV
 bad : v'.bad = v.bad
 buf : v'.buf = v.buf
 cl : badL L = true → v'.cl = false ∧ v'.kind = 0
section
variable {M : Nat} {v : V} (h : VV M v) (h0 : v.kind = 0) (hc : v.cl = false) (hd : v.dec = none)
include h h0 hc hd
theorem CmdOk.same (L : LC) (hL : L ∈ RepsV) : CmdOk M v L v := ⟨h, .inr hL, rfl, rfl, fun _ => ⟨hc, h0⟩⟩
theorem VV.reset : VV M v.reset := ⟨h.buf, fun d e => (by rw [show v.reset.dec = v.dec from rfl, hd] at e; cases e), ⟨by simp [V.reset], fun _ => by simp [V.reset]⟩, h.kind, h.cd, h.body, h.bad⟩
theorem greet_ok (x : Int) : CmdOk M v (greetV v x).1 (greetV v x).2 := by
 have hr := h.reset h0 hc hd
 refine ⟨⟨hr.buf, hr.dec, hr.rc, hr.kind, hr.cd, hr.body, hr.bad⟩, .inr ?_, rfl, rfl, fun _ => ⟨hc, h0⟩⟩
 unfold greetV
 cases (x != 1) <;> simp [RepsV]
theorem mail_ok (c : S_api_Cmd) : CmdOk M v (mailV v c).1 (mailV v c).2 := by
 unfold mailV
 cases hg : v.gr with
 | false => exact CmdOk.same h h0 hc hd _ (by simp [RepsV])
 | true =>
  cases hf : v.fr with
  | some t => exact CmdOk.same h h0 hc hd _ (by simp [RepsV])
  | none =>
   dsimp only
   rw [Bool.not_true, cond_false]
   cases decide (c.fSize > 32768) with
   | true => exact CmdOk.same h h0 hc hd _ (by simp [RepsV])
   | false => exact ⟨⟨h.buf, fun d e => (by rw [show _ = v.dec from rfl, hd] at e; cases e), h.rc, h.kind, h.cd, h.body, h.bad⟩, .inr (by simp [RepsV]), rfl, rfl, fun _ => ⟨hc, h0⟩⟩
theorem rcpt_ok (c : S_api_Cmd) (h1 : c.fPath_Local.length ≤ 1000) (h2 : c.fPath_Domain.length ≤ 1000) : CmdOk M v (rcptV v c).1 (rcptV v c).2 := by
 unfold rcptV
 cases hf : v.fr with
 | none => exact CmdOk.same h h0 hc hd _ (by simp [RepsV])
 | some t =>
  obtain ⟨u, w, m⟩ := t
  dsimp only
  by_cases h20 : 20 ≤ v.rc.length / 2
  · rw [decide_eq_true h20, cond_true]; exact CmdOk.same h h0 hc hd _ (by simp [RepsV])
  · rw [decide_eq_false h20, cond_false]
    have hr := h.rc
    exact ⟨⟨h.buf, fun d e => (by rw [show _ = v.dec from rfl, hd] at e; cases e), ⟨hr.1, fun _ => by show v.rc.length / 2 ≤ 19; omega⟩, .inr (.inl rfl), ⟨h1, h2⟩, ⟨Nat.zero_le _, Nat.zero_le _⟩, h.bad⟩, .inl rfl, rfl, rfl, fun h => by cases h⟩
theorem begin_ok : CmdOk M v (beginV v).1 (beginV v).2 := by
 unfold beginV
 cases hf : v.fr with
 | none => exact CmdOk.same h h0 hc hd _ (by simp [RepsV])
 | some t =>
  dsimp only
  cases Nat.beq (v.rc.length / 2) 0 with
  | true => exact CmdOk.same h h0 hc hd _ (by simp [RepsV])
  | false =>
   refine ⟨⟨h.buf, fun d e => ?_, h.rc, h.kind, h.cd, h.body, h.bad⟩, .inr (by simp [RepsV]), rfl, rfl, fun h => by cases h⟩
   have e : some Dec.zero = some d := e
   cases e
   have := h.buf
   refine ⟨by decide, ?_, ?_, by show (some t : Option (LB × LB × Int)) ≠ none; simp, h0⟩
   · show 0 + 2 * v.buf.length ≤ M; omega
   · show 0 + 2 * v.buf.length ≤ M; omega
theorem other_ok (x : Int) : CmdOk M v (otherV v x).1 (otherV v x).2 := by
 have hr := h.reset h0 hc hd
 unfold otherV
 cases (x == 7) with
 | true => exact ⟨hr, .inr (by simp [RepsV]), rfl, rfl, fun _ => ⟨hc, h0⟩⟩
 | false =>
  cases (x == 10) with
  | true => exact CmdOk.same h h0 hc hd _ (by simp [RepsV])
  | false =>
   cases (x == 11) with
   | true => exact CmdOk.same h h0 hc hd _ (by simp [RepsV])
   | false =>
    cases (x == 9) with
    | true =>
     have hb := h.bad
     exact ⟨⟨h.buf, h.dec, h.rc, h.kind, h.cd, h.body, ⟨hb.1, hb.2.1, fun h => by cases h⟩⟩, .inr (by simp [RepsV]), rfl, rfl, fun h => by cases h⟩
    | false => exact CmdOk.same h h0 hc hd _ (by simp [RepsV])
theorem command_ok (cx : S_api_Cmd × Int) (h1 : cx.1.fPath_Local.length ≤ 1000) (h2 : cx.1.fPath_Domain.length ≤ 1000) : CmdOk M v (commandV cx v).1 (commandV cx v).2 := by
 unfold commandV dispV
 cases noV cx.2 cx.1.fVerb v.lm with
 | true => exact CmdOk.same h h0 hc hd _ (by simp [RepsV])
 | false =>
  cases (cx.2 == 501) with
  | true => exact CmdOk.same h h0 hc hd _ (by simp [RepsV])
  | false =>
   cases (cx.2 == 555) with
   | true => exact CmdOk.same h h0 hc hd _ (by simp [RepsV])
   | false =>
    rw [cond_false, cond_false, cond_false]
    cases (cx.1.fVerb == 1 || (cx.1.fVerb == 2 || cx.1.fVerb == 3)) with
    | true => exact greet_ok h h0 hc hd _
    | false =>
     cases (cx.1.fVerb == 4) with
     | true => exact mail_ok h h0 hc hd _
     | false =>
      cases (cx.1.fVerb == 5) with
      | true => exact rcpt_ok h h0 hc hd _ h1 h2
      | false =>
       cases (cx.1.fVerb == 6) with
       | true => exact begin_ok h h0 hc hd
       | false => exact other_ok h h0 hc hd _
end
def RepsA : List LC := RepsV ++ [r421, rBare, rLong, ansL 250, ansL 550]
def meas (v : V) : Nat := 2 * v.buf.length + (bif v.kind == 0 then 0 else 1)
theorem meas_le {v : V} : meas v ≤ 2 * v.buf.length + 1 := by unfold meas; cases (v.kind == 0) <;> simp
theorem meas_0 {v : V} (h : v.kind = 0) : meas v = 2 * v.buf.length := by unfold meas; rw [h]; rfl
theorem meas_1 {v : V} (h : v.kind ≠ 0) : meas v = 2 * v.buf.length + 1 := by
 unfold meas
 rw [show (v.kind == 0) = false by rw [beq_eq_false_iff_ne]; exact h]; rfl
theorem count_len (L : LC) (v : V) : (countV L v).1.length ≤ 2 ∧ (countV L v).2.buf = v.buf ∧ (countV L v).2.kind = v.kind := by
 unfold countV
 cases badL L with
 | true => cases (v.bad + 1 == 10) <;> exact ⟨by simp, rfl, rfl⟩
 | false => cases L.isEmpty <;> exact ⟨by simp, rfl, rfl⟩
theorem count_ok {M : Nat} {v : V} {L : LC} (h : VV M v) (hb : v.bad ≤ 9) (hL : L = [] ∨ L ∈ RepsV) (hk : badL L = true → v.cl = false ∧ v.kind = 0) : VV M (countV L v).2 ∧ ∀ r ∈ (countV L v).1, r ∈ RepsA := by
 have hb0 := h.bad
 have hLA : L ∈ RepsV → L ∈ RepsA := fun h => List.mem_append_left _ h
 unfold countV
 cases hq : badL L with
 | true =>
  have hLV : L ∈ RepsV := by
   rcases hL with rfl | hL
   · cases hq
   · exact hL
  rw [cond_true]
  cases he : (v.bad + 1 == 10) with
  | true =>
   refine ⟨⟨h.buf, h.dec, h.rc, h.kind, h.cd, h.body, ⟨by show 0 ≤ v.bad + 1; omega, by show v.bad + 1 ≤ 10; omega, fun h => by cases h⟩⟩, fun r hr => ?_⟩
   rcases List.mem_cons.1 hr with rfl | hr
   · exact hLA hLV
   · rcases List.mem_cons.1 hr with rfl | hr
     · simp [RepsA]
     · cases hr
  | false =>
   have he : v.bad + 1 ≠ 10 := by simpa using he
   refine ⟨⟨h.buf, h.dec, h.rc, h.kind, h.cd, h.body, ⟨by show 0 ≤ v.bad + 1; omega, by show v.bad + 1 ≤ 10; omega, fun _ => by show v.bad + 1 ≤ 9; omega⟩⟩, fun r hr => ?_⟩
   rcases List.mem_cons.1 hr with rfl | hr
   · exact hLA hLV
   · cases hr
 | false =>
  rw [cond_false]
  cases he : L.isEmpty with
  | true => exact ⟨h, fun r hr => by cases hr⟩
  | false =>
   refine ⟨h, fun r hr => ?_⟩
   rcases List.mem_cons.1 hr with rfl | hr
   · rcases hL with rfl | hL
     · cases he
     · exact hLA hL
   · cases hr
def PfOk (pf : LB → S_api_Cmd × Int) : Prop := ∀ l, l.length ≤ 1000 → (pf l).1.fPath_Local.length ≤ 1000 ∧ (pf l).1.fPath_Domain.length ≤ 1000
theorem message_ok {M : Nat} {v : V} {d : Dec} (h : VV M v) (h0 : v.kind = 0) (hc : v.cl = false) (hd : v.dec = none) (ha : d.all.length ≤ M) : VV M (messageV d v).2 ∧ (∀ r ∈ (messageV d v).1, r ∈ RepsA) ∧ (messageV d v).1.length ≤ 20 ∧ (messageV d v).2.buf = v.buf := by
 have hm : v.many ≤ 20 := by
  have := h.rc
  unfold V.many; cases v.lm <;> simp <;> omega
 have hr := h.reset h0 hc hd
 unfold messageV
 cases d.bare with
 | true =>
  refine ⟨hr, fun r hr => ?_, by simpa using hm, rfl⟩
  rw [List.eq_of_mem_replicate hr]; simp [RepsA]
 | false =>
  cases d.long with
  | true =>
   refine ⟨hr, fun r hr => ?_, by simpa using hm, rfl⟩
   rw [List.eq_of_mem_replicate hr]; simp [RepsA]
  | false =>
   rw [cond_false, cond_false]
   cases hf : v.fr with
   | none => exact ⟨h, fun r hr => (by cases hr), Nat.zero_le _, rfl⟩
   | some t =>
    obtain ⟨u, w, m⟩ := t
    exact ⟨⟨h.buf, fun d e => (by rw [show _ = v.dec from rfl, hd] at e; cases e), ⟨h.rc.1, fun h => by cases h⟩, .inr (.inr rfl), ⟨Nat.zero_le _, Nat.zero_le _⟩, ⟨ha, by have := h.rc; show v.rc.length ≤ 41; omega⟩, h.bad⟩, fun r hr => (by cases hr), Nat.zero_le _, rfl⟩
theorem step_ok {pf : LB → S_api_Cmd × Int} (hpf : PfOk pf) {M : Nat} (hM : M ≤ 2000) {v : V} (h : VV M v) (h0 : v.kind = 0) (hc : v.cl = false) {o : Option (List LC)} {v' : V} (e : stepV pf v = (o, v')) :
 VV M v' ∧ (∀ L, o = some L → (∀ r ∈ L, r ∈ RepsA) ∧ L.length ≤ 20 ∧ meas v' + 1 ≤ meas v) ∧ (o = none → meas v' ≤ meas v) := by
 unfold stepV at e
 cases hd : v.dec with
 | some d =>
  rw [hd] at e
  simp only at e
  obtain ⟨h1, h2, h3, h4, h5⟩ := h.dec d hd
  have hfl := feed_le v.buf d
  have hfa := feed_len v.buf d
  have hne : (d.feed v.buf).1.st = 5 → 1 ≤ (d.feed v.buf).2 := fun h5 => by
   cases hb : v.buf with
   | nil => rw [hb] at h5; exact absurd h5 h1
   | cons c l => simp only [Dec.feed, if_neg h1]; omega
  generalize d.feed v.buf = F at hfl hfa hne e
  obtain ⟨d', c⟩ := F
  simp only at hfl hfa hne e
  have hbuf := h.buf
  have hlen : (v.buf.drop c).length = v.buf.length - c := List.length_drop
  cases h5 : Nat.beq d'.st 5 with
  | true =>
   rw [h5, cond_true] at e
   have hc1 := hne (Nat.eq_of_beq_eq_true h5)
   have hV : VV M { v with buf := v.buf.drop c, dec := none } := ⟨by show 2 * (v.buf.drop c).length ≤ M; omega, fun d e => (by cases e), h.rc, h.kind, h.cd, h.body, h.bad⟩
   obtain ⟨m1, m2, m3, m4⟩ := message_ok (d := d') hV h0 hc rfl (by omega)
   cases e
   refine ⟨m1, fun L hL => ?_, fun h => by cases h⟩
   cases hL
   refine ⟨m2, m3, ?_⟩
   have := meas_le (v := (messageV d' { v with buf := v.buf.drop c, dec := none }).2)
   rw [m4] at this
   rw [meas_0 h0]
   have : ({ v with buf := v.buf.drop c, dec := none } : V).buf.length = v.buf.length - c := hlen
   omega
  | false =>
   rw [h5, cond_false] at e
   cases e
   refine ⟨⟨by show 2 * (v.buf.drop c).length ≤ M; omega, fun d2 e => ?_, h.rc, h.kind, h.cd, h.body, h.bad⟩, fun L hL => (by cases hL), fun _ => ?_⟩
   · cases e
     refine ⟨fun e => ?_, ?_, ?_, h4, h0⟩
     · rw [e] at h5; cases h5
     · show d'.all.length + 2 * (v.buf.drop c).length ≤ M; omega
     · show d'.line + 2 * (v.buf.drop c).length ≤ M; omega
   · rw [meas_0 h0, meas_0 (v := { v with buf := v.buf.drop c, dec := some d' }) h0]
     show 2 * (v.buf.drop c).length ≤ _
     omega
 | none =>
  rw [hd] at e
  simp only at e
  by_cases hat : at2 v.buf < 0
  · rw [decide_eq_true hat, cond_true] at e
    cases e
    exact ⟨h, fun L hL => (by cases hL), fun _ => Nat.le_refl _⟩
  · rw [decide_eq_false hat, cond_false] at e
    obtain ⟨_, i2⟩ := at2_app v.buf [] (by omega)
    have hbuf := h.buf
    generalize hn : (at2 v.buf).toNat = n at e i2
    have hlen : (v.buf.drop (n + 2)).length = v.buf.length - (n + 2) := List.length_drop
    have hV : VV M { v with buf := v.buf.drop (n + 2), dec := none } := ⟨by show 2 * (v.buf.drop (n + 2)).length ≤ M; omega, fun d e => (by cases e), h.rc, h.kind, h.cd, h.body, h.bad⟩
    have hp := hpf (v.buf.take n) (by rw [List.length_take]; omega)
    obtain ⟨c1, c2, c3, c4, c5⟩ := command_ok hV h0 hc rfl (pf (v.buf.take n)) hp.1 hp.2
    have hb9 : v.bad ≤ 9 := h.bad.2.2 hc
    obtain ⟨k1, k2⟩ := count_ok c1 (by rw [c3]; exact hb9) c2 c5
    obtain ⟨k3, k4, k5⟩ := count_len (commandV (pf (v.buf.take n)) { v with buf := v.buf.drop (n + 2), dec := none }).1 (commandV (pf (v.buf.take n)) { v with buf := v.buf.drop (n + 2), dec := none }).2
    cases e
    refine ⟨k1, fun L hL => ?_, fun h => by cases h⟩
    cases hL
    refine ⟨k2, by omega, ?_⟩
    have hm := meas_le (v := (countV (commandV (pf (v.buf.take n)) { v with buf := v.buf.drop (n + 2), dec := none }).1 (commandV (pf (v.buf.take n)) { v with buf := v.buf.drop (n + 2), dec := none }).2).2)
    rw [k4, c4] at hm
    rw [meas_0 h0]
    have : ({ v with buf := v.buf.drop (n + 2), dec := none } : V).buf.length = v.buf.length - (n + 2) := hlen
    omega
theorem answer_ok {M : Nat} {v : V} (h : VV M v) (h0 : v.kind ≠ 0) {code : Int} (hcode : code = 250 ∨ code = 550) : VV M (answerV code v).2 ∧ (∀ r ∈ (answerV code v).1, r ∈ RepsA) ∧ v.wants ≤ 20 ∧ meas (answerV code v).2 + 1 = meas v ∧ (answerV code v).2.kind = 0 ∧ v.dec = none := by
 have hdn : v.dec = none := by
  cases hd : v.dec with
  | none => rfl
  | some d => exact absurd (h.dec d hd).2.2.2.2 h0
 have hw : v.wants ≤ 20 := by
  have := h.rc
  unfold V.wants V.many
  cases (v.kind == 1) <;> cases (v.kind == 2) <;> cases v.lm <;> simp <;> omega
 have hrep : ∀ r ∈ (answerV code v).1, r ∈ RepsA := fun r hr => by
  rw [List.eq_of_mem_replicate hr]
  rcases hcode with rfl | rfl <;> simp [RepsA]
 have hk : (answerV code v).2.kind = 0 := rfl
 have hbuf : (answerV code v).2.buf = v.buf := by
  unfold answerV
  cases (v.kind == 2) <;> cases decide (code < 300) <;> rfl
 refine ⟨?_, hrep, hw, by rw [meas_0 hk, meas_1 h0, hbuf], hk, hdn⟩
 have hrc := h.rc
 have hbad := h.bad
 have hkd := h.kind
 unfold answerV
 cases h2 : (v.kind == 2) with
 | true =>
  exact ⟨h.buf, fun d e => absurd (hdn.symm.trans e) (by simp), ⟨by simp [V.clear, V.reset], fun h => absurd (show (0 : Int) = 1 from h) (by decide)⟩, .inl rfl, ⟨Nat.zero_le _, Nat.zero_le _⟩, ⟨Nat.zero_le _, Nat.zero_le _⟩, hbad⟩
 | false =>
  have h2 : v.kind ≠ 2 := by simpa using h2
  have h1 : v.kind = 1 := by omega
  rw [cond_false]
  cases decide (code < 300) with
  | true =>
   refine ⟨h.buf, fun d e => absurd (hdn.symm.trans e) (by simp), ⟨?_, fun h => absurd (show (0 : Int) = 1 from h) (by decide)⟩, .inl rfl, ⟨Nat.zero_le _, Nat.zero_le _⟩, ⟨Nat.zero_le _, Nat.zero_le _⟩, hbad⟩
   have := hrc.2 h1
   show (v.rc ++ [Cell.str v.c, Cell.str v.d]).length / 2 ≤ 20
   rw [List.length_append]
   show (v.rc.length + 2) / 2 ≤ 20
   omega
  | false => exact ⟨h.buf, fun d e => absurd (hdn.symm.trans e) (by simp), ⟨hrc.1, fun h => absurd (show (0 : Int) = 1 from h) (by decide)⟩, .inl rfl, ⟨Nat.zero_le _, Nat.zero_le _⟩, ⟨Nat.zero_le _, Nat.zero_le _⟩, hbad⟩
variable {pf : LB → S_api_Cmd × Int} {rb : LC → LB} {code : Int}
def Nx (pf : LB → S_api_Cmd × Int) (rb : LC → LB) (code : Int) (v : V) (o : LB) (v' : V) : Prop :=
 (v'.kind = 0 → Dr pf rb code v o [] v') ∧ (v'.kind ≠ 0 → ∀ o' a' v2, Dr pf rb code v' o' a' v2 → Dr pf rb code v (o ++ o') a' v2)
theorem Nx.rest {v : V} (h : v.kind ≠ 0 ∨ v.cl = true) : Nx pf rb code v [] v :=
 ⟨fun h0 => by
  rcases h with h | h
  · exact absurd h0 h
  · exact .closed h0 h, fun _ o' a' v2 h => h⟩
theorem Nx.stuck {v v' : V} (h0 : v.kind = 0) (hc : v.cl = false) (h : stepV pf v = (none, v')) : Nx pf rb code v [] v' := by
 have := (stepV_no pf v [] h).2.1
 exact ⟨fun _ => .stuck h0 hc h, fun h => absurd (this.trans h0) h⟩
theorem Nx.step {v v' v2 : V} {L : List LC} {o : LB} (h0 : v.kind = 0) (hc : v.cl = false) (h : stepV pf v = (some L, v')) (hn : Nx pf rb code v' o v2) : Nx pf rb code v ((L.map rb).flatten ++ o) v2 :=
 ⟨fun hk => .step h0 hc h (hn.1 hk), fun hk o' a' v3 hd => by rw [List.append_assoc]; exact .step h0 hc h (hn.2 hk _ _ _ hd)⟩
theorem Dr.asks {v : V} {o a : LB} {v1 : V} (h : Dr pf rb code v o a v1) : a = [] ∨ a.getLast? = some 59 := by
 induction h with
 | closed => exact .inl rfl
 | stuck => exact .inl rfl
 | step _ _ _ _ ih => exact ih
 | ask _ _ ih =>
  right
  rcases ih with rfl | ih
  · rw [List.append_nil, askS, List.getLast?_append]; rfl
  · rw [List.getLast?_append, ih]; rfl
end AX
end Go.Proofs.YtnkppakkeobegaaGreatDoor
