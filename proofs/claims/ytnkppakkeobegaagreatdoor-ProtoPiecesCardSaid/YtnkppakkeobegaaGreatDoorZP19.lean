/-
  PgVm.
-/
import Derived.Test.YtnkppakkeobegaaGreatDoorZP18
set_option maxRecDepth 20000
set_option linter.unusedVariables false
set_option linter.unusedSimpArgs false
set_option linter.unusedSectionVars false
namespace Go.Proofs.YtnkppakkeobegaaGreatDoor
theorem feed_all : ∀ (l : List UInt8) (d : Dec), (d.feed l).1.st ≠ 5 → (d.feed l).2 = l.length
 | [], d, _ => by simp [Dec.feed]
 | c :: l, d, h => by
  by_cases h5 : d.st = 5
  · rw [feed_done h5] at h; exact absurd h5 h
  · simp only [Dec.feed, if_neg h5] at h ⊢
    rw [feed_all l _ h, List.length_cons]
theorem keep_len (d : Dec) (c : UInt8) : (d.keep c).all.length = d.all.length + 1 ∧ (d.keep c).line = d.line + 1 := by simp [Dec.keep]
theorem step_len (d : Dec) (c : UInt8) : (d.step c).all.length ≤ d.all.length + 2 ∧ (d.step c).line ≤ d.line + 2 := by
 unfold Dec.step Dec.plain Dec.keep
 repeat' split
 all_goals simp
 all_goals omega
theorem feed_len : ∀ (l : List UInt8) (d : Dec), (d.feed l).1.all.length ≤ d.all.length + 2 * (d.feed l).2 ∧ (d.feed l).1.line ≤ d.line + 2 * (d.feed l).2
 | [], d => by simp [Dec.feed]
 | c :: l, d => by
  by_cases h5 : d.st = 5
  · rw [feed_done h5]; simp
  · simp only [Dec.feed, if_neg h5]
    have h1 := feed_len l (d.step c)
    have h2 := step_len d c
    omega
namespace AX
structure V where
 lm : Bool
 buf : LB
 gr : Bool
 fr : Option (LB × LB × Int)
 rc : LC
 dec : Option Dec
 kind : Int
 a : LB
 b : LB
 c : LB
 d : LB
 k : Int
 to : LC
 body : LB
 bad : Int
 cl : Bool
def V.add (v : V) (w : LB) : V := { v with buf := v.buf ++ w }
theorem V.add_add (v : V) (w x : LB) : (v.add w).add x = v.add (w ++ x) := by simp [V.add]
theorem V.add_nil (v : V) : v.add [] = v := by simp [V.add]
def hostL : LB := [120, 46, 111, 114, 103]
def rep (code : Int) (e line : LB) : LC := [.int .i64 code, .str e, .sl none 1 [.str line]]
def r500 : LC := rep 500 [53, 46, 53, 46, 50] [119, 104, 97, 116, 32, 105, 115, 32, 116, 104, 97, 116]
def r501 : LC := rep 501 [53, 46, 53, 46, 52] [110, 111, 116, 32, 115, 111]
def r555 : LC := rep 555 [53, 46, 53, 46, 52] [110, 111, 32, 115, 117, 99, 104, 32, 112, 97, 114, 97, 109, 101, 116, 101, 114]
def r503 : LC := rep 503 [53, 46, 53, 46, 49] [110, 111, 116, 32, 110, 111, 119]
def rHelo : LC := rep 250 [] hostL
def rEhlo : LC := [.int .i64 250, .str [], .sl none 1 [.str hostL, .str [80, 73, 80, 69, 76, 73, 78, 73, 78, 71], .str [83, 73, 90, 69, 32, 51, 50, 55, 54, 56], .str [56, 66, 73, 84, 77, 73, 77, 69], .str [69, 78, 72, 65, 78, 67, 69, 68, 83, 84, 65, 84, 85, 83, 67, 79, 68, 69, 83]]]
def r552 : LC := rep 552 [53, 46, 51, 46, 52] [116, 111, 111, 32, 108, 97, 114, 103, 101]
def rMail : LC := rep 250 [50, 46, 49, 46, 48] [111, 107]
def r452 : LC := rep 452 [52, 46, 53, 46, 51] [116, 111, 111, 32, 109, 97, 110, 121]
def r554 : LC := rep 554 [53, 46, 53, 46, 49] [110, 111, 32, 114, 101, 99, 105, 112, 105, 101, 110, 116, 115]
def r354 : LC := rep 354 [] [103, 111, 32, 111, 110]
def rOk : LC := rep 250 [50, 46, 48, 46, 48] [111, 107]
def r252 : LC := rep 252 [50, 46, 53, 46, 48] [112, 101, 114, 104, 97, 112, 115]
def r214 : LC := rep 214 [50, 46, 48, 46, 48] [110, 111, 110, 101]
def r221 : LC := rep 221 [50, 46, 48, 46, 48] [98, 121, 101]
def r421 : LC := rep 421 [52, 46, 55, 46, 48] [116, 111, 111, 32, 109, 97, 110, 121, 32, 101, 114, 114, 111, 114, 115]
def rBare : LC := rep 554 [53, 46, 54, 46, 48] [98, 97, 114, 101, 32, 108, 105, 110, 101, 32, 101, 110, 100]
def rLong : LC := rep 554 [53, 46, 54, 46, 48] [108, 111, 110, 103, 32, 108, 105, 110, 101]
def ansL (code : Int) : LC := [.int .i64 code, .str [], .sl none 1 [.str [115, 111]]]
def V.reset (v : V) : V := { v with fr := none, rc := [] }
def greetV (v : V) (verb : Int) : LC × V := (bif verb != 1 then rEhlo else rHelo, { v.reset with gr := true })
def mailV (v : V) (c : S_api_Cmd) : LC × V :=
 bif !v.gr then (r503, v) else
 match v.fr with
 | some _ => (r503, v)
 | none => bif decide (c.fSize > 32768) then (r552, v) else (rMail, { v with fr := some (c.fPath_Local, c.fPath_Domain, c.fSize) })
def rcptV (v : V) (c : S_api_Cmd) : LC × V :=
 match v.fr with
 | none => (r503, v)
 | some (a, b, m) => bif decide (20 ≤ v.rc.length / 2) then (r452, v) else ([], { v with kind := 1, a := a, b := b, c := c.fPath_Local, d := c.fPath_Domain, k := m, to := [], body := [] })
def beginV (v : V) : LC × V :=
 match v.fr with
 | none => (r503, v)
 | some _ => bif Nat.beq (v.rc.length / 2) 0 then (r554, v) else (r354, { v with dec := some Dec.zero })
def otherV (v : V) (verb : Int) : LC × V :=
 bif verb == 7 then (rOk, v.reset) else bif verb == 10 then (r252, v) else bif verb == 11 then (r214, v) else bif verb == 9 then (r221, { v with cl := true }) else (rOk, v)
def noV (x : Int) (verb : Int) (lm : Bool) : Bool := bif x == 500 then true else bif verb == 3 then !lm else bif verb == 1 then lm else bif verb == 2 then lm else false
def dispV (c : S_api_Cmd) (v : V) : LC × V :=
 bif (c.fVerb == 1 || (c.fVerb == 2 || c.fVerb == 3)) then greetV v c.fVerb else
 bif c.fVerb == 4 then mailV v c else bif c.fVerb == 5 then rcptV v c else bif c.fVerb == 6 then beginV v else otherV v c.fVerb
def commandV (cx : S_api_Cmd × Int) (v : V) : LC × V :=
 bif noV cx.2 cx.1.fVerb v.lm then (r500, v) else bif cx.2 == 501 then (r501, v) else bif cx.2 == 555 then (r555, v) else
 dispV cx.1 v
def V.many (v : V) : Nat := bif v.lm then v.rc.length / 2 else 1
def messageV (d : Dec) (v : V) : List LC × V :=
 bif d.bare then (List.replicate v.many rBare, v.reset) else bif d.long then (List.replicate v.many rLong, v.reset) else
 match v.fr with
 | none => ([], v)
 | some (a, b, m) => ([], { v with kind := 2, a := a, b := b, c := [], d := [], k := m, to := v.rc, body := d.all })
def badB (c : Int) : Bool := (c == 500) || ((c == 501) || ((c == 503) || (c == 555)))
def badL : LC → Bool
 | .int .i64 c :: _ => badB c
 | _ => false
def countV (L : LC) (v : V) : List LC × V :=
 bif badL L then (bif v.bad + 1 == 10 then ([L, r421], { v with bad := v.bad + 1, cl := true }) else ([L], { v with bad := v.bad + 1 }))
 else (bif L.isEmpty then ([], v) else ([L], v))
def at2 (l : LB) : Int := Lib.index l [13, 10]
def stepV (pf : LB → S_api_Cmd × Int) (v : V) : Option (List LC) × V :=
  match v.dec with
  | some d =>
    bif Nat.beq (d.feed v.buf).1.st 5 then
      (some (messageV (d.feed v.buf).1 { v with buf := v.buf.drop (d.feed v.buf).2, dec := none }).1, (messageV (d.feed v.buf).1 { v with buf := v.buf.drop (d.feed v.buf).2, dec := none }).2)
    else (none, { v with buf := v.buf.drop (d.feed v.buf).2, dec := some (d.feed v.buf).1 })
  | none =>
    bif decide (at2 v.buf < 0) then (none, v) else
    (some (countV (commandV (pf (v.buf.take (at2 v.buf).toNat)) { v with buf := v.buf.drop ((at2 v.buf).toNat + 2) }).1 (commandV (pf (v.buf.take (at2 v.buf).toNat)) { v with buf := v.buf.drop ((at2 v.buf).toNat + 2) }).2).1,
     (countV (commandV (pf (v.buf.take (at2 v.buf).toNat)) { v with buf := v.buf.drop ((at2 v.buf).toNat + 2) }).1 (commandV (pf (v.buf.take (at2 v.buf).toNat)) { v with buf := v.buf.drop ((at2 v.buf).toNat + 2) }).2).2)
def V.clear (v : V) : V := { v with kind := 0, a := [], b := [], c := [], d := [], k := 0, to := [], body := [] }
def V.wants (v : V) : Nat := bif v.kind == 1 then 1 else bif v.kind == 2 then v.many else 0
def answerV (code : Int) (v : V) : List LC × V :=
 (List.replicate v.wants (ansL code), (bif v.kind == 2 then v.reset else bif decide (code < 300) then { v with rc := v.rc ++ [.str v.c, .str v.d] } else v).clear)
def askS (v : V) : LB := ((((v.c ++ [64]) ++ v.d) ++ [58]) ++ v.body) ++ [59]
theorem greetV_add (v : V) (w : LB) (x : Int) : greetV (v.add w) x = ((greetV v x).1, (greetV v x).2.add w) := rfl
theorem mailV_add (v : V) (w : LB) (c : S_api_Cmd) : mailV (v.add w) c = ((mailV v c).1, (mailV v c).2.add w) := by
 obtain ⟨lm, buf, gr, fr, rc, dec, kind, a, b, c', d, k, to, body, bad, cl⟩ := v
 cases gr
 · rfl
 · cases fr with
   | some _ => rfl
   | none =>
    simp only [mailV, V.add]
    cases decide (c.fSize > 32768) <;> rfl
theorem rcptV_add (v : V) (w : LB) (c : S_api_Cmd) : rcptV (v.add w) c = ((rcptV v c).1, (rcptV v c).2.add w) := by
 obtain ⟨lm, buf, gr, fr, rc, dec, kind, a, b, c', d, k, to, body, bad, cl⟩ := v
 cases fr with
 | none => rfl
 | some t =>
  obtain ⟨u, x, m⟩ := t
  simp only [rcptV, V.add]
  by_cases h : 20 ≤ rc.length / 2 <;> simp [h]
theorem beginV_add (v : V) (w : LB) : beginV (v.add w) = ((beginV v).1, (beginV v).2.add w) := by
 obtain ⟨lm, buf, gr, fr, rc, dec, kind, a, b, c', d, k, to, body, bad, cl⟩ := v
 cases fr with
 | none => rfl
 | some t =>
  simp only [beginV, V.add]
  cases Nat.beq (rc.length / 2) 0 <;> rfl
theorem otherV_add (v : V) (w : LB) (x : Int) : otherV (v.add w) x = ((otherV v x).1, (otherV v x).2.add w) := by
 unfold otherV
 cases (x == 7) <;> cases (x == 10) <;> cases (x == 11) <;> cases (x == 9) <;> rfl
theorem dispV_add (c : S_api_Cmd) (v : V) (w : LB) : dispV c (v.add w) = ((dispV c v).1, (dispV c v).2.add w) := by
 unfold dispV
 rw [greetV_add, mailV_add, rcptV_add, beginV_add, otherV_add]
 cases (c.fVerb == 1 || (c.fVerb == 2 || c.fVerb == 3)) <;> cases (c.fVerb == 4) <;> cases (c.fVerb == 5) <;> cases (c.fVerb == 6) <;> rfl
theorem commandV_add (cx : S_api_Cmd × Int) (v : V) (w : LB) : commandV cx (v.add w) = ((commandV cx v).1, (commandV cx v).2.add w) := by
 unfold commandV
 rw [show (v.add w).lm = v.lm from rfl, dispV_add]
 cases noV cx.2 cx.1.fVerb v.lm <;> cases (cx.2 == 501) <;> cases (cx.2 == 555) <;> rfl
theorem messageV_add (d : Dec) (v : V) (w : LB) : messageV d (v.add w) = ((messageV d v).1, (messageV d v).2.add w) := by
 obtain ⟨lm, buf, gr, fr, rc, dec, kind, a, b, c', d', k, to, body, bad, cl⟩ := v
 unfold messageV
 cases d.bare
 · cases d.long
   · cases fr with
     | none => rfl
     | some t => rfl
   · rfl
 · rfl
theorem countV_add (L : LC) (v : V) (w : LB) : countV L (v.add w) = ((countV L v).1, (countV L v).2.add w) := by
 unfold countV
 rw [show (v.add w).bad = v.bad from rfl]
 cases badL L <;> cases (v.bad + 1 == 10) <;> cases L.isEmpty <;> rfl
theorem answerV_add (code : Int) (v : V) (w : LB) : answerV code (v.add w) = ((answerV code v).1, (answerV code v).2.add w) := by
 unfold answerV
 rw [show (v.add w).kind = v.kind from rfl, show (v.add w).wants = v.wants from rfl]
 cases (v.kind == 2) <;> cases decide (code < 300) <;> rfl
theorem at2_app : ∀ (l w : LB), 0 ≤ at2 l → at2 (l ++ w) = at2 l ∧ (at2 l).toNat + 2 ≤ l.length
 | [], w, h => by simp [at2, Lib.index] at h
 | c :: l, w, h => by
  unfold at2 at h ⊢
  by_cases hp : [13, 10].isPrefixOf (c :: l) = true
  · have hp2 : [13, 10].isPrefixOf (c :: l ++ w) = true := by
     cases l with
     | nil => simp [List.isPrefixOf] at hp
     | cons e l => simp [List.isPrefixOf] at hp ⊢; exact hp
    have hlen : 2 ≤ (c :: l).length := by
     cases l with
     | nil => simp [List.isPrefixOf] at hp
     | cons e l => simp
    rw [Lib.index, if_pos hp, List.cons_append, Lib.index, if_pos (by simpa using hp2)]
    exact ⟨rfl, hlen⟩
  · rw [Lib.index, if_neg hp] at h
    have hl : 0 ≤ at2 l := by
     unfold at2
     have hg := Lib.index_ge l [13, 10]
     split at h
     · omega
     · rename_i h1
       have h1 : Lib.index l [13, 10] ≠ -1 := by simpa using h1
       omega
    have hne : l ≠ [] := fun e => by subst e; simp [at2, Lib.index] at hl
    have hp2 : ¬ [13, 10].isPrefixOf (c :: l ++ w) = true := by
     cases l with
     | nil => exact absurd rfl hne
     | cons e l => simpa [List.isPrefixOf] using hp
    obtain ⟨i1, i2⟩ := at2_app l w hl
    unfold at2 at i1 i2 hl
    have hn : ¬ (Lib.index l [13, 10] == -1) = true := by simp; omega
    rw [Lib.index, if_neg hp, if_neg hn]
    rw [List.cons_append, Lib.index, if_neg (by simpa using hp2), i1, if_neg hn]
    refine ⟨rfl, ?_⟩
    rw [List.length_cons]; omega
theorem stepV_yes (pf : LB → S_api_Cmd × Int) (v : V) (w : LB) {L : List LC} {v' : V} (h : stepV pf v = (some L, v')) : stepV pf (v.add w) = (some L, v'.add w) := by
 unfold stepV at h ⊢
 rw [show (v.add w).dec = v.dec from rfl]
 cases hd : v.dec with
 | some d =>
  rw [hd] at h
  simp only at h ⊢
  rw [show (v.add w).buf = v.buf ++ w from rfl, feed_append]
  cases h5 : Nat.beq (d.feed v.buf).1.st 5 with
  | false => rw [h5, cond_false] at h; cases h
  | true =>
   rw [h5, cond_true] at h
   have h5' := Nat.eq_of_beq_eq_true h5
   rw [feed_done h5', h5, cond_true]
   simp only [Nat.add_zero]
   have e : ({ v.add w with buf := (v.buf ++ w).drop (d.feed v.buf).2, dec := none } : V) = ({ v with buf := v.buf.drop (d.feed v.buf).2, dec := none } : V).add w := by
    simp only [V.add]
    rw [List.drop_append_of_le_length (feed_le _ _)]
   rw [e, messageV_add]
   cases h
   rfl
 | none =>
  rw [hd] at h
  simp only at h ⊢
  by_cases h0 : at2 v.buf < 0
  · rw [decide_eq_true h0, cond_true] at h; cases h
  · rw [decide_eq_false h0, cond_false] at h
    obtain ⟨i1, i2⟩ := at2_app v.buf w (by omega)
    rw [show (v.add w).buf = v.buf ++ w from rfl, i1, decide_eq_false h0, cond_false]
    have e : ({ v.add w with buf := (v.buf ++ w).drop ((at2 v.buf).toNat + 2), dec := none } : V) = ({ v with buf := v.buf.drop ((at2 v.buf).toNat + 2), dec := none } : V).add w := by
     simp only [V.add]
     rw [List.drop_append_of_le_length i2]
    rw [e, List.take_append_of_le_length (by omega), commandV_add, countV_add]
    cases h
    rfl
theorem stepV_no (pf : LB → S_api_Cmd × Int) (v : V) (w : LB) {v' : V} (h : stepV pf v = (none, v')) : stepV pf (v.add w) = stepV pf (v'.add w) ∧ v'.kind = v.kind ∧ v'.cl = v.cl := by
 have h0 := h
 unfold stepV at h
 cases hd : v.dec with
 | some d =>
  rw [hd] at h
  simp only at h
  cases h5 : Nat.beq (d.feed v.buf).1.st 5 with
  | true => rw [h5, cond_true] at h; cases h
  | false =>
   rw [h5, cond_false] at h
   cases h
   refine ⟨?_, rfl, rfl⟩
   have h5' : (d.feed v.buf).1.st ≠ 5 := fun e => by rw [e] at h5; cases h5
   have hk := feed_all v.buf d h5'
   rw [hk, List.drop_length]
   unfold stepV
   rw [show (v.add w).dec = some d from hd]
   simp only [V.add, List.nil_append]
   rw [feed_append, hk]
   have e : (v.buf ++ w).drop (v.buf.length + ((d.feed v.buf).1.feed w).2) = w.drop ((d.feed v.buf).1.feed w).2 := by
    rw [← List.drop_drop, List.drop_left]
   simp only [e]
 | none =>
  rw [hd] at h
  simp only at h
  by_cases h1 : at2 v.buf < 0
  · rw [decide_eq_true h1, cond_true] at h
    cases h
    exact ⟨rfl, rfl, rfl⟩
  · rw [decide_eq_false h1, cond_false] at h; cases h
inductive Dr (pf : LB → S_api_Cmd × Int) (rb : LC → LB) (code : Int) : V → LB → LB → V → Prop
 | closed {v} : v.kind = 0 → v.cl = true → Dr pf rb code v [] [] v
 | stuck {v v'} : v.kind = 0 → v.cl = false → stepV pf v = (none, v') → Dr pf rb code v [] [] v'
 | step {v L v' o a v2} : v.kind = 0 → v.cl = false → stepV pf v = (some L, v') → Dr pf rb code v' o a v2 → Dr pf rb code v ((L.map rb).flatten ++ o) a v2
 | ask {v o a v2} : v.kind ≠ 0 → Dr pf rb code (answerV code v).2 o a v2 → Dr pf rb code v (((answerV code v).1.map rb).flatten ++ o) (askS v ++ a) v2
variable {pf : LB → S_api_Cmd × Int} {rb : LC → LB} {code : Int}
theorem Dr.det {v : V} {o a : LB} {v1 : V} (h : Dr pf rb code v o a v1) : ∀ {o' a' v1'}, Dr pf rb code v o' a' v1' → o' = o ∧ a' = a ∧ v1' = v1 := by
 induction h with
 | closed h1 h2 =>
  intro o' a' v1' h
  cases h with
  | closed => exact ⟨rfl, rfl, rfl⟩
  | stuck _ k2 => rw [h2] at k2; cases k2
  | step _ k2 => rw [h2] at k2; cases k2
  | ask k1 => exact absurd h1 k1
 | stuck h1 h2 h3 =>
  intro o' a' v1' h
  cases h with
  | closed _ k2 => rw [h2] at k2; cases k2
  | stuck _ _ k3 => rw [h3] at k3; cases k3; exact ⟨rfl, rfl, rfl⟩
  | step _ _ k3 => rw [h3] at k3; cases k3
  | ask k1 => exact absurd h1 k1
 | step h1 h2 h3 _ ih =>
  intro o' a' v1' h
  cases h with
  | closed _ k2 => rw [h2] at k2; cases k2
  | stuck _ _ k3 => rw [h3] at k3; cases k3
  | step _ _ k3 k4 =>
   rw [h3] at k3; cases k3
   obtain ⟨e1, e2, e3⟩ := ih k4
   exact ⟨by rw [e1], e2, e3⟩
  | ask k1 => exact absurd h1 k1
 | ask h1 _ ih =>
  intro o' a' v1' h
  cases h with
  | closed k1 => exact absurd k1 h1
  | stuck k1 => exact absurd k1 h1
  | step k1 => exact absurd k1 h1
  | ask _ k4 =>
   obtain ⟨e1, e2, e3⟩ := ih k4
   exact ⟨by rw [e1], by rw [e2], e3⟩
theorem Dr.app {v : V} {o a : LB} {v1 : V} (h : Dr pf rb code v o a v1) (w : LB) : ∀ {o' a' v2}, Dr pf rb code (v1.add w) o' a' v2 → Dr pf rb code (v.add w) (o ++ o') (a ++ a') v2 := by
 induction h with
 | closed => intro o' a' v2 h; exact h
 | stuck h1 h2 h3 =>
  intro o' a' v2 h
  obtain ⟨e1, e2, e3⟩ := stepV_no pf _ w h3
  cases h with
  | closed _ k2 =>
   have k2 : _ = true := e3.symm.trans k2
   rw [h2] at k2; cases k2
  | stuck _ _ k3 => exact .stuck h1 h2 (e1.trans k3)
  | step _ _ k3 k4 => exact .step h1 h2 (e1.trans k3) k4
  | ask k1 => exact absurd (show _ = (0 : Int) from e2.trans h1) k1
 | step h1 h2 h3 _ ih =>
  intro o' a' v2 h
  rw [List.append_assoc]
  exact .step h1 h2 (stepV_yes pf _ w h3) (ih h)
 | @ask v o a v2 h1 _ ih =>
  intro o' a' v2 h
  rw [List.append_assoc, List.append_assoc]
  have e := answerV_add code v w
  have := Dr.ask (pf := pf) (rb := rb) (code := code) (v := v.add w) h1 (by rw [e]; exact ih h)
  rw [e] at this
  exact this
end AX
end Go.Proofs.YtnkppakkeobegaaGreatDoor
