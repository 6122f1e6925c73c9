/-
  Layer 31: what is read is written back. No program in sight.
-/
import Derived.Test.YtfbicbgdfcbhpaaDoorScSame
set_option maxRecDepth 20000
set_option linter.unusedVariables false
set_option linter.unusedSimpArgs false
set_option linter.unusedSectionVars false
namespace Go.Proofs.YtfbicbgdfcbhpaaDoor
open SC AX
namespace SC
def namedQ (s : List UInt8) : List UInt8 := if s = [] then [42] else s
def wordF (e : PE) (c : UInt8) : List (List UInt8) :=
  if c = 115 then [Lib.itoa e.slot] else if c = 112 then [if e.lmtp then lmtpL else smtpL] else if c = 100 then [quo e.data] else if c = 110 then [Lib.itoa e.n] else if c = 107 then [Lib.itoa e.k]
  else if c = 98 then [Lib.itoa e.lb] else if c = 99 then [Lib.itoa e.lc] else if c = 101 then [Lib.itoa e.code] else if c = 109 then [namedQ e.name] else if c = 117 then [namedQ e.name]
  else if c = 116 then e.tos else if c = 119 then e.keep.map Lib.itoa else []
def bodyW (e : PE) : List (List UInt8) := (formsL.getD e.kind.toNat []).flatMap (wordF e)
def writtenQ (e : PE) : List UInt8 := Lib.join (wordsL.getD e.kind.toNat [] :: bodyW e) [32]
theorem num_back {a : List UInt8} {v : Int} (h : numQ a = some v) : Lib.itoa v = a := (numQ_iff.1 h).1
theorem nameB_ne {a : List UInt8} (h : nameB a = true) : a ≠ [] := by
  rintro rfl; cases h
theorem field_s (a : List UInt8) (e : PE) : fieldQ 115 a e = match numQ a with | some v => if 0 ≤ v ∧ v < 8 then some { e with slot := v } else none | none => none := rfl
theorem nums_back : ∀ (ws : List (List UInt8)) (vs : List Int), numsQ ws = some vs → vs.map Lib.itoa = ws
  | [], vs, h => by cases h; rfl
  | w :: r, vs, h => by
    rw [numsQ] at h
    cases hv : numQ w with
    | none => rw [hv] at h; cases h
    | some v =>
      cases hr : numsQ r with
      | none => rw [hv, hr] at h; cases h
      | some l => rw [hv, hr] at h; cases h; rw [List.map_cons, num_back hv, nums_back r l hr]
theorem lmtp_ne : smtpL ≠ lmtpL := by decide
theorem back_1 (ws : List (List UInt8)) (e : PE) (h : fillQ [115, 112] (kindP 1) ws = some e) : e.kind = 1 ∧ ([115, 112] : List UInt8).flatMap (wordF e) = ws := by
  rcases ws with _ | ⟨a, _ | ⟨b, _ | ⟨c, r⟩⟩⟩
  · simp [fillQ_cons, fillQ_nil, kindP, field_s, field_p] at h
  · cases ha : numQ a <;> (simp_all [fillQ_cons, fillQ_nil, kindP, field_s, field_p]; try (repeat' split at h) <;> simp_all)
  · revert h; have na : ∀ v, numQ a = some v → Lib.itoa v = a := fun v => num_back; cases ha : numQ a <;> by_cases hp : b = lmtpL <;> by_cases hq : b = smtpL <;> simp_all [fillQ_cons, fillQ_nil, kindP, field_s, field_p] <;> (try (repeat' split)) <;> intros <;> (try subst_vars) <;> simp_all [wordF, namedQ, num_back, nums_back, nameB_ne, lmtp_ne] <;> (try (rename_i hx hy; obtain ⟨_, rfl⟩ := hx; subst hy; simp_all))
  · cases ha : numQ a <;> by_cases hp : b = lmtpL <;> by_cases hq : b = smtpL <;> (simp_all [fillQ_cons, fillQ_nil, kindP, field_s, field_p]; try (repeat' split at h) <;> simp_all)
theorem back_3 (ws : List (List UInt8)) (e : PE) (h : fillQ [115] (kindP 3) ws = some e) : e.kind = 3 ∧ ([115] : List UInt8).flatMap (wordF e) = ws := by
  rcases ws with _ | ⟨a, _ | ⟨b, r⟩⟩
  · simp [fillQ_cons, fillQ_nil, kindP, field_s] at h
  · revert h; have na : ∀ v, numQ a = some v → Lib.itoa v = a := fun v => num_back; cases ha : numQ a <;> simp_all [fillQ_cons, fillQ_nil, kindP, field_s] <;> (try (repeat' split)) <;> intros <;> (try subst_vars) <;> simp_all [wordF, namedQ, num_back, nums_back, nameB_ne, lmtp_ne] <;> (try (rename_i hx hy; obtain ⟨_, rfl⟩ := hx; subst hy; simp_all))
  · cases ha : numQ a <;> (simp_all [fillQ_cons, fillQ_nil, kindP, field_s]; try (repeat' split at h) <;> simp_all)
theorem back_4 (ws : List (List UInt8)) (e : PE) (h : fillQ [110] (kindP 4) ws = some e) : e.kind = 4 ∧ ([110] : List UInt8).flatMap (wordF e) = ws := by
  rcases ws with _ | ⟨a, _ | ⟨b, r⟩⟩
  · simp [fillQ_cons, fillQ_nil, kindP, fn_] at h
  · revert h; have na : ∀ v, numQ a = some v → Lib.itoa v = a := fun v => num_back; cases ha : numQ a <;> simp_all [fillQ_cons, fillQ_nil, kindP, fn_] <;> (try (repeat' split)) <;> intros <;> (try subst_vars) <;> simp_all [wordF, namedQ, num_back, nums_back, nameB_ne, lmtp_ne] <;> (try (rename_i hx hy; obtain ⟨_, rfl⟩ := hx; subst hy; simp_all))
  · cases ha : numQ a <;> (simp_all [fillQ_cons, fillQ_nil, kindP, fn_]; try (repeat' split at h) <;> simp_all)
theorem back_5 (ws : List (List UInt8)) (e : PE) (h : fillQ [] (kindP 5) ws = some e) : e.kind = 5 ∧ ([] : List UInt8).flatMap (wordF e) = ws := by
  rcases ws with _ | ⟨a, r⟩
  · revert h; simp_all [fillQ_cons, fillQ_nil, kindP] <;> (try (repeat' split)) <;> intros <;> (try subst_vars) <;> simp_all [wordF, namedQ, num_back, nums_back, nameB_ne, lmtp_ne] <;> (try (rename_i hx hy; obtain ⟨_, rfl⟩ := hx; subst hy; simp_all))
  · simp [fillQ_cons, fillQ_nil, kindP] at h
theorem back_6 (ws : List (List UInt8)) (e : PE) (h : fillQ [117, 98, 99] (kindP 6) ws = some e) : e.kind = 6 ∧ ([117, 98, 99] : List UInt8).flatMap (wordF e) = ws := by
  rcases ws with _ | ⟨a, _ | ⟨b, _ | ⟨c, _ | ⟨d, r⟩⟩⟩⟩
  · simp [fillQ_cons, fillQ_nil, kindP, fu, fb, fc] at h
  · cases hn : nameB a <;> (simp_all [fillQ_cons, fillQ_nil, kindP, fu, fb, fc]; try (repeat' split at h) <;> simp_all)
  · cases hn : nameB a <;> cases hb : numQ b <;> (simp_all [fillQ_cons, fillQ_nil, kindP, fu, fb, fc]; try (repeat' split at h) <;> simp_all)
  · revert h; have nb : ∀ v, numQ b = some v → Lib.itoa v = b := fun v => num_back; have nc : ∀ v, numQ c = some v → Lib.itoa v = c := fun v => num_back; cases hn : nameB a <;> cases hb : numQ b <;> cases hc : numQ c <;> simp_all [fillQ_cons, fillQ_nil, kindP, fu, fb, fc] <;> (try (repeat' split)) <;> intros <;> (try subst_vars) <;> simp_all [wordF, namedQ, num_back, nums_back, nameB_ne, lmtp_ne] <;> (try (rename_i hx hy; obtain ⟨_, rfl⟩ := hx; subst hy; simp_all))
  · cases hn : nameB a <;> cases hb : numQ b <;> cases hc : numQ c <;> (simp_all [fillQ_cons, fillQ_nil, kindP, fu, fb, fc]; try (repeat' split at h) <;> simp_all)
theorem back_7 (ws : List (List UInt8)) (e : PE) (h : fillQ [109, 98, 99] (kindP 7) ws = some e) : e.kind = 7 ∧ ([109, 98, 99] : List UInt8).flatMap (wordF e) = ws := by
  rcases ws with _ | ⟨a, _ | ⟨b, _ | ⟨c, _ | ⟨d, r⟩⟩⟩⟩
  · simp [fillQ_cons, fillQ_nil, kindP, fm, fb, fc] at h
  · by_cases hm : a = [42] <;> cases hn : nameB a <;> (simp_all [fillQ_cons, fillQ_nil, kindP, fm, fb, fc]; try (repeat' split at h) <;> simp_all)
  · by_cases hm : a = [42] <;> cases hn : nameB a <;> cases hb : numQ b <;> (simp_all [fillQ_cons, fillQ_nil, kindP, fm, fb, fc]; try (repeat' split at h) <;> simp_all)
  · revert h; have nb : ∀ v, numQ b = some v → Lib.itoa v = b := fun v => num_back; have nc : ∀ v, numQ c = some v → Lib.itoa v = c := fun v => num_back; by_cases hm : a = [42] <;> cases hn : nameB a <;> cases hb : numQ b <;> cases hc : numQ c <;> simp_all [fillQ_cons, fillQ_nil, kindP, fm, fb, fc] <;> (try (repeat' split)) <;> intros <;> (try subst_vars) <;> simp_all [wordF, namedQ, num_back, nums_back, nameB_ne, lmtp_ne] <;> (try (rename_i hx hy; obtain ⟨_, rfl⟩ := hx; subst hy; simp_all))
  · by_cases hm : a = [42] <;> cases hn : nameB a <;> cases hb : numQ b <;> cases hc : numQ c <;> (simp_all [fillQ_cons, fillQ_nil, kindP, fm, fb, fc]; try (repeat' split at h) <;> simp_all)
theorem back_8 (ws : List (List UInt8)) (e : PE) (h : fillQ [117, 116] (kindP 8) ws = some e) : e.kind = 8 ∧ ([117, 116] : List UInt8).flatMap (wordF e) = ws := by
  rcases ws with _ | ⟨a, r⟩
  · simp [fillQ_cons, fillQ_nil, kindP, fu] at h
  · revert h; cases hn : nameB a <;> simp_all [fillQ_cons, fillQ_nil, kindP, fu] <;> (try (repeat' split)) <;> intros <;> (try subst_vars) <;> simp_all [wordF, namedQ, num_back, nums_back, nameB_ne, lmtp_ne] <;> (try (rename_i hx hy; obtain ⟨_, rfl⟩ := hx; subst hy; simp_all))
theorem back_9 (ws : List (List UInt8)) (e : PE) (h : fillQ [117] (kindP 9) ws = some e) : e.kind = 9 ∧ ([117] : List UInt8).flatMap (wordF e) = ws := by
  rcases ws with _ | ⟨a, _ | ⟨b, r⟩⟩
  · simp [fillQ_cons, fillQ_nil, kindP, fu] at h
  · revert h; cases hn : nameB a <;> simp_all [fillQ_cons, fillQ_nil, kindP, fu] <;> (try (repeat' split)) <;> intros <;> (try subst_vars) <;> simp_all [wordF, namedQ, num_back, nums_back, nameB_ne, lmtp_ne] <;> (try (rename_i hx hy; obtain ⟨_, rfl⟩ := hx; subst hy; simp_all))
  · cases hn : nameB a <;> (simp_all [fillQ_cons, fillQ_nil, kindP, fu]; try (repeat' split at h) <;> simp_all)
theorem back_10 (ws : List (List UInt8)) (e : PE) (h : fillQ [109, 110] (kindP 10) ws = some e) : e.kind = 10 ∧ ([109, 110] : List UInt8).flatMap (wordF e) = ws := by
  rcases ws with _ | ⟨a, _ | ⟨b, _ | ⟨c, r⟩⟩⟩
  · simp [fillQ_cons, fillQ_nil, kindP, fm, fn_] at h
  · by_cases hm : a = [42] <;> cases hn : nameB a <;> (simp_all [fillQ_cons, fillQ_nil, kindP, fm, fn_]; try (repeat' split at h) <;> simp_all)
  · revert h; have nb : ∀ v, numQ b = some v → Lib.itoa v = b := fun v => num_back; by_cases hm : a = [42] <;> cases hn : nameB a <;> cases hb : numQ b <;> simp_all [fillQ_cons, fillQ_nil, kindP, fm, fn_] <;> (try (repeat' split)) <;> intros <;> (try subst_vars) <;> simp_all [wordF, namedQ, num_back, nums_back, nameB_ne, lmtp_ne] <;> (try (rename_i hx hy; obtain ⟨_, rfl⟩ := hx; subst hy; simp_all))
  · by_cases hm : a = [42] <;> cases hn : nameB a <;> cases hb : numQ b <;> (simp_all [fillQ_cons, fillQ_nil, kindP, fm, fn_]; try (repeat' split at h) <;> simp_all)
theorem back_11 (ws : List (List UInt8)) (e : PE) (h : fillQ [109, 110, 107] (kindP 11) ws = some e) : e.kind = 11 ∧ ([109, 110, 107] : List UInt8).flatMap (wordF e) = ws := by
  rcases ws with _ | ⟨a, _ | ⟨b, _ | ⟨c, _ | ⟨d, r⟩⟩⟩⟩
  · simp [fillQ_cons, fillQ_nil, kindP, fm, fn_, fk] at h
  · by_cases hm : a = [42] <;> cases hn : nameB a <;> (simp_all [fillQ_cons, fillQ_nil, kindP, fm, fn_, fk]; try (repeat' split at h) <;> simp_all)
  · by_cases hm : a = [42] <;> cases hn : nameB a <;> cases hb : numQ b <;> (simp_all [fillQ_cons, fillQ_nil, kindP, fm, fn_, fk]; try (repeat' split at h) <;> simp_all)
  · revert h; have nb : ∀ v, numQ b = some v → Lib.itoa v = b := fun v => num_back; have nc : ∀ v, numQ c = some v → Lib.itoa v = c := fun v => num_back; by_cases hm : a = [42] <;> cases hn : nameB a <;> cases hb : numQ b <;> cases hc : numQ c <;> simp_all [fillQ_cons, fillQ_nil, kindP, fm, fn_, fk] <;> (try (repeat' split)) <;> intros <;> (try subst_vars) <;> simp_all [wordF, namedQ, num_back, nums_back, nameB_ne, lmtp_ne] <;> (try (rename_i hx hy; obtain ⟨_, rfl⟩ := hx; subst hy; simp_all))
  · by_cases hm : a = [42] <;> cases hn : nameB a <;> cases hb : numQ b <;> cases hc : numQ c <;> (simp_all [fillQ_cons, fillQ_nil, kindP, fm, fn_, fk]; try (repeat' split at h) <;> simp_all)
theorem back_12 (ws : List (List UInt8)) (e : PE) (h : fillQ [109] (kindP 12) ws = some e) : e.kind = 12 ∧ ([109] : List UInt8).flatMap (wordF e) = ws := by
  rcases ws with _ | ⟨a, _ | ⟨b, r⟩⟩
  · simp [fillQ_cons, fillQ_nil, kindP, fm] at h
  · revert h; by_cases hm : a = [42] <;> cases hn : nameB a <;> simp_all [fillQ_cons, fillQ_nil, kindP, fm] <;> (try (repeat' split)) <;> intros <;> (try subst_vars) <;> simp_all [wordF, namedQ, num_back, nums_back, nameB_ne, lmtp_ne] <;> (try (rename_i hx hy; obtain ⟨_, rfl⟩ := hx; subst hy; simp_all))
  · by_cases hm : a = [42] <;> cases hn : nameB a <;> (simp_all [fillQ_cons, fillQ_nil, kindP, fm]; try (repeat' split at h) <;> simp_all)
theorem back_13 (ws : List (List UInt8)) (e : PE) (h : fillQ [] (kindP 13) ws = some e) : e.kind = 13 ∧ ([] : List UInt8).flatMap (wordF e) = ws := by
  rcases ws with _ | ⟨a, r⟩
  · revert h; simp_all [fillQ_cons, fillQ_nil, kindP] <;> (try (repeat' split)) <;> intros <;> (try subst_vars) <;> simp_all [wordF, namedQ, num_back, nums_back, nameB_ne, lmtp_ne] <;> (try (rename_i hx hy; obtain ⟨_, rfl⟩ := hx; subst hy; simp_all))
  · simp [fillQ_cons, fillQ_nil, kindP] at h
theorem back_14 (ws : List (List UInt8)) (e : PE) (h : fillQ [110, 101] (kindP 14) ws = some e) : e.kind = 14 ∧ ([110, 101] : List UInt8).flatMap (wordF e) = ws := by
  rcases ws with _ | ⟨a, _ | ⟨b, _ | ⟨c, r⟩⟩⟩
  · simp [fillQ_cons, fillQ_nil, kindP, fn_, fe] at h
  · cases ha : numQ a <;> (simp_all [fillQ_cons, fillQ_nil, kindP, fn_, fe]; try (repeat' split at h) <;> simp_all)
  · revert h; have na : ∀ v, numQ a = some v → Lib.itoa v = a := fun v => num_back; have nb : ∀ v, numQ b = some v → Lib.itoa v = b := fun v => num_back; cases ha : numQ a <;> cases hb : numQ b <;> simp_all [fillQ_cons, fillQ_nil, kindP, fn_, fe] <;> (try (repeat' split)) <;> intros <;> (try subst_vars) <;> simp_all [wordF, namedQ, num_back, nums_back, nameB_ne, lmtp_ne] <;> (try (rename_i hx hy; obtain ⟨_, rfl⟩ := hx; subst hy; simp_all))
  · cases ha : numQ a <;> cases hb : numQ b <;> (simp_all [fillQ_cons, fillQ_nil, kindP, fn_, fe]; try (repeat' split at h) <;> simp_all)
theorem back_15 (ws : List (List UInt8)) (e : PE) (h : fillQ [110] (kindP 15) ws = some e) : e.kind = 15 ∧ ([110] : List UInt8).flatMap (wordF e) = ws := by
  rcases ws with _ | ⟨a, _ | ⟨b, r⟩⟩
  · simp [fillQ_cons, fillQ_nil, kindP, fn_] at h
  · revert h; have na : ∀ v, numQ a = some v → Lib.itoa v = a := fun v => num_back; cases ha : numQ a <;> simp_all [fillQ_cons, fillQ_nil, kindP, fn_] <;> (try (repeat' split)) <;> intros <;> (try subst_vars) <;> simp_all [wordF, namedQ, num_back, nums_back, nameB_ne, lmtp_ne] <;> (try (rename_i hx hy; obtain ⟨_, rfl⟩ := hx; subst hy; simp_all))
  · cases ha : numQ a <;> (simp_all [fillQ_cons, fillQ_nil, kindP, fn_]; try (repeat' split at h) <;> simp_all)
theorem back_16 (ws : List (List UInt8)) (e : PE) (h : fillQ [110, 119] (kindP 16) ws = some e) : e.kind = 16 ∧ ([110, 119] : List UInt8).flatMap (wordF e) = ws := by
  rcases ws with _ | ⟨a, r⟩
  · simp [fillQ_cons, fillQ_nil, kindP, fn_] at h
  · revert h; have na : ∀ v, numQ a = some v → Lib.itoa v = a := fun v => num_back; have nr : ∀ v, numsQ r = some v → v.map Lib.itoa = r := fun v => nums_back r v; cases ha : numQ a <;> cases hr : numsQ r <;> simp_all [fillQ_cons, fillQ_nil, kindP, fn_] <;> (try (repeat' split)) <;> intros <;> (try subst_vars) <;> simp_all [wordF, namedQ, num_back, nums_back, nameB_ne, lmtp_ne] <;> (try (rename_i hx hy; obtain ⟨_, rfl⟩ := hx; subst hy; simp_all))
theorem back_17 (ws : List (List UInt8)) (e : PE) (h : fillQ [] (kindP 17) ws = some e) : e.kind = 17 ∧ ([] : List UInt8).flatMap (wordF e) = ws := by
  rcases ws with _ | ⟨a, r⟩
  · revert h; simp_all [fillQ_cons, fillQ_nil, kindP] <;> (try (repeat' split)) <;> intros <;> (try subst_vars) <;> simp_all [wordF, namedQ, num_back, nums_back, nameB_ne, lmtp_ne] <;> (try (rename_i hx hy; obtain ⟨_, rfl⟩ := hx; subst hy; simp_all))
  · simp [fillQ_cons, fillQ_nil, kindP] at h
theorem back_all (k : Fin 18) (hk0 : 0 < k.val) (hk2 : k.val ≠ 2) (ws : List (List UInt8)) (e : PE) (h : bodyQ k.val ws = some e) : e.kind = (k.val : Int) ∧ (formsL.getD k.val []).flatMap (wordF e) = ws := by
  have hb : fillQ (formsL.getD k.val []) (kindP k.val) ws = some e := by
    rw [← h]; unfold bodyQ; rw [if_neg (by omega)]; simp [kindP]
  match k, hk0, hk2, hb with
  | ⟨1, _⟩, _, _, hb => exact back_1 ws e hb
  | ⟨3, _⟩, _, _, hb => exact back_3 ws e hb
  | ⟨4, _⟩, _, _, hb => exact back_4 ws e hb
  | ⟨5, _⟩, _, _, hb => exact back_5 ws e hb
  | ⟨6, _⟩, _, _, hb => exact back_6 ws e hb
  | ⟨7, _⟩, _, _, hb => exact back_7 ws e hb
  | ⟨8, _⟩, _, _, hb => exact back_8 ws e hb
  | ⟨9, _⟩, _, _, hb => exact back_9 ws e hb
  | ⟨10, _⟩, _, _, hb => exact back_10 ws e hb
  | ⟨11, _⟩, _, _, hb => exact back_11 ws e hb
  | ⟨12, _⟩, _, _, hb => exact back_12 ws e hb
  | ⟨13, _⟩, _, _, hb => exact back_13 ws e hb
  | ⟨14, _⟩, _, _, hb => exact back_14 ws e hb
  | ⟨15, _⟩, _, _, hb => exact back_15 ws e hb
  | ⟨16, _⟩, _, _, hb => exact back_16 ws e hb
  | ⟨17, _⟩, _, _, hb => exact back_17 ws e hb
  | ⟨k + 18, h⟩, _, _, _ => omega
theorem join3 (w a : List UInt8) (b : List UInt8) (r : List (List UInt8)) : Lib.join [w, a, Lib.join (b :: r) [32]] [32] = Lib.join (w :: a :: b :: r) [32] := by
  rw [join_two, join_two, Lib.join_one, join_two, join_two]
/-- what was read is written as it stood -/
theorem round {line : List UInt8} {e : PE} (h : readQ line = .ok e) : writtenQ e = line ∧ 1 ≤ e.kind ∧ e.kind ≤ 17 := by
  unfold readQ at h
  cases hs : spl 32 line with
  | nil => rw [hs] at h; cases h
  | cons w ws =>
    have hj := join_spl 32 line
    rw [hs] at h hj
    simp only [] at h
    rcases kind_cases w with h0 | ⟨k, hk0, hk, hkw⟩
    · rw [if_pos h0] at h; cases h
    · rw [if_neg (by rw [hk]; omega), hk] at h
      cases hb : bodyQ k.val ws with
      | none => rw [hb] at h; cases h
      | some p =>
        rw [hb] at h; cases h
        by_cases hk2 : k.val = 2
        · have hb2 := hb
          rw [hk2] at hb2
          unfold bodyQ at hb2
          rw [if_pos (by rfl)] at hb2
          match ws, hb2 with
          | a :: b :: r, hb2 =>
            simp only [] at hb2
            cases hd : dataQ (Lib.join (b :: r) [32]) with
            | none => rw [hd] at hb2; cases hb2
            | some d =>
              rw [hd] at hb2
              simp only [] at hb2
              rw [field_s] at hb2
              cases hn : numQ a with
              | none => rw [hn] at hb2; cases hb2
              | some v =>
                rw [hn] at hb2
                simp only [] at hb2
                split at hb2
                · cases hb2
                  have hq := (dataQ_iff.1 hd).1
                  refine ⟨?_, (by decide : (1 : Int) ≤ 2), (by decide : (2 : Int) ≤ 17)⟩
                  rw [← hj, ← join3, ← hq, ← num_back hn, ← hkw, hk2]
                  rfl
                · cases hb2
        · obtain ⟨h1, h2⟩ := back_all k hk0 hk2 ws e hb
          refine ⟨?_, by omega, by omega⟩
          unfold writtenQ bodyW
          rw [h1, Int.toNat_natCast, h2, hkw, hj]
/-- what an event that was read is like -/
structure Good (e : PE) : Prop where
  n : inB e.n = true
  k : inB e.k = true
  lb : inB e.lb = true
  lc : inB e.lc = true
  slot : 0 ≤ e.slot ∧ e.slot < 8
  code : 0 ≤ e.code ∧ e.code ≤ 17
  keep : ∀ v ∈ e.keep, inB v = true
  data : e.data.length ≤ 4096
theorem inB0 : inB 0 = true := by decide
theorem good0 (k : Int) : Good { PE0 with kind := k } := ⟨inB0, inB0, inB0, inB0, (by decide : (0 : Int) ≤ 0 ∧ (0 : Int) < 8), (by decide : (0 : Int) ≤ 0 ∧ (0 : Int) ≤ 17), fun v h => (by cases h), Nat.zero_le _⟩
theorem num_in {a : List UInt8} {v : Int} (h : numQ a = some v) : inB v = true := (numQ_iff.1 h).2
theorem fieldQ_good {c : UInt8} {w : List UInt8} {e p : PE} (hg : Good e) (h : fieldQ c w e = some p) : Good p := by
  obtain ⟨h1, h2, h3, h4, h5, h6, h7, h8⟩ := hg
  by_cases c115 : c = 115
  · subst c115; rw [field_s] at h
    cases hn : numQ w with
      | none => rw [hn] at h; cases h
      | some v =>
        rw [hn] at h; simp only [] at h
        by_cases hs : 0 ≤ v ∧ v < 8
        · rw [if_pos hs] at h; cases h; exact ⟨h1, h2, h3, h4, hs, h6, h7, h8⟩
        · rw [if_neg hs] at h; cases h
  by_cases c110 : c = 110
  · subst c110; rw [fn_] at h
    cases hn : numQ w with
      | none => rw [hn] at h; cases h
      | some v => rw [hn] at h; cases h; exact ⟨num_in hn, h2, h3, h4, h5, h6, h7, h8⟩
  by_cases c107 : c = 107
  · subst c107; rw [fk] at h
    cases hn : numQ w with
      | none => rw [hn] at h; cases h
      | some v => rw [hn] at h; cases h; exact ⟨h1, num_in hn, h3, h4, h5, h6, h7, h8⟩
  by_cases c98 : c = 98
  · subst c98; rw [fb] at h
    cases hn : numQ w with
      | none => rw [hn] at h; cases h
      | some v => rw [hn] at h; cases h; exact ⟨h1, h2, num_in hn, h4, h5, h6, h7, h8⟩
  by_cases c99 : c = 99
  · subst c99; rw [fc] at h
    cases hn : numQ w with
      | none => rw [hn] at h; cases h
      | some v => rw [hn] at h; cases h; exact ⟨h1, h2, h3, num_in hn, h5, h6, h7, h8⟩
  by_cases c101 : c = 101
  · subst c101; rw [fe] at h
    cases hn : numQ w with
      | none => rw [hn] at h; cases h
      | some v =>
        rw [hn] at h; simp only [] at h
        by_cases hs : 0 ≤ v ∧ v ≤ 17
        · rw [if_pos hs] at h; cases h; exact ⟨h1, h2, h3, h4, h5, hs, h7, h8⟩
        · rw [if_neg hs] at h; cases h
  unfold fieldQ at h
  rw [if_neg c115] at h
  by_cases c112 : c = 112
  · rw [if_pos c112] at h
    split at h
    · cases h; exact ⟨h1, h2, h3, h4, h5, h6, h7, h8⟩
    · cases h
  rw [if_neg c112, if_neg c110, if_neg c107, if_neg c98, if_neg c99, if_neg c101] at h
  split at h
  · split at h
    · cases h; exact ⟨h1, h2, h3, h4, h5, h6, h7, h8⟩
    · split at h
      · cases h; exact ⟨h1, h2, h3, h4, h5, h6, h7, h8⟩
      · cases h
  · split at h
    · split at h
      · cases h; exact ⟨h1, h2, h3, h4, h5, h6, h7, h8⟩
      · cases h
    · cases h
theorem numsQ_in : ∀ (ws : List (List UInt8)) (vs : List Int), numsQ ws = some vs → ∀ v ∈ vs, inB v = true
  | [], vs, h => by cases h; simp
  | w :: r, vs, h => by
    rw [numsQ] at h
    cases hv : numQ w with
    | none => rw [hv] at h; cases h
    | some v =>
      cases hr : numsQ r with
      | none => rw [hv, hr] at h; cases h
      | some l =>
        rw [hv, hr] at h; cases h
        intro u hu
        rcases List.mem_cons.1 hu with rfl | hu
        · exact num_in hv
        · exact numsQ_in r l hr u hu
/-- sizes -/
def Small (b : Nat) (e : PE) : Prop := Short b e.tos ∧ e.keep.length ≤ b ∧ e.name.length ≤ b
theorem fieldQ_small {b : Nat} {c : UInt8} {w : List UInt8} {e p : PE} (hw : w.length ≤ b) (hg : Small b e) (h : fieldQ c w e = some p) : Small b p := by
  obtain ⟨h1, h2, h3⟩ := hg
  unfold fieldQ at h
  repeat' split at h
  all_goals first
    | (cases h; done)
    | (cases h; first | exact ⟨h1, h2, h3⟩ | exact ⟨h1, h2, hw⟩ | exact ⟨h1, h2, Nat.zero_le _⟩)
theorem fillQ_good {b : Nat} : ∀ (f : List UInt8) (e p : PE) (ws : List (List UInt8)), Short b ws → Good e → Small b e → fillQ f e ws = some p → Good p ∧ Small b p
  | [], e, p, ws, hs, hg, hm, h => by
    rw [fillQ_nil] at h
    split at h
    · cases h; exact ⟨hg, hm⟩
    · cases h
  | c :: f, e, p, ws, hs, hg, hm, h => by
    rw [fillQ_cons] at h
    split at h
    · split at h
      · cases h; exact ⟨⟨hg.n, hg.k, hg.lb, hg.lc, hg.slot, hg.code, hg.keep, hg.data⟩, hs, hm.2⟩
      · cases h
    · split at h
      · cases hr : numsQ ws with
        | none => rw [hr] at h; cases h
        | some vs =>
          rw [hr] at h; cases h
          exact ⟨⟨hg.n, hg.k, hg.lb, hg.lc, hg.slot, hg.code, numsQ_in ws vs hr, hg.data⟩, hm.1, by show vs.length ≤ b; rw [numsQ_len ws vs hr]; exact hs.1, hm.2.2⟩
      · cases ws with
        | nil => cases h
        | cons w r =>
          simp only [] at h
          cases hf : fieldQ c w e with
          | none => rw [hf] at h; cases h
          | some e' =>
            rw [hf] at h
            exact fillQ_good f e' p r hs.tail (fieldQ_good hg hf) (fieldQ_small (hs.2 w (by simp)) hm hf) h
theorem read_good {line : List UInt8} {e : PE} {b : Nat} (hl : line.length < b) (h : readQ line = .ok e) : Good e ∧ Small b e := by
  have s0 : ∀ k : Int, Small b { PE0 with kind := k } := fun k => ⟨⟨Nat.zero_le _, fun l hl => by cases hl⟩, Nat.zero_le _, Nat.zero_le _⟩
  unfold readQ at h
  cases hs : spl 32 line with
  | nil => rw [hs] at h; cases h
  | cons w ws =>
    have hj := join_spl 32 line
    rw [hs] at h hj
    have hsh : Short b (w :: ws) := ⟨by have := join_len_le (w :: ws); rw [hj] at this; omega, fun l hm => by have := join_mem_le (w :: ws) l hm; rw [hj] at this; omega⟩
    simp only [] at h
    split at h
    · cases h
    · cases hb : bodyQ (kindQ w) ws with
      | none => rw [hb] at h; cases h
      | some p =>
        rw [hb] at h; cases h
        unfold bodyQ at hb
        split at hb
        · split at hb
          · rename_i a b' r
            cases hd : dataQ (Lib.join (b' :: r) [32]) with
            | none => rw [hd] at hb; cases hb
            | some d =>
              rw [hd] at hb
              refine ⟨fieldQ_good ?_ hb, fieldQ_small (hsh.tail.2 a (by simp)) ?_ hb⟩
              · exact ⟨inB0, inB0, inB0, inB0, (by decide : (0 : Int) ≤ 0 ∧ (0 : Int) < 8), (by decide : (0 : Int) ≤ 0 ∧ (0 : Int) ≤ 17), fun v h => (by cases h), (dataQ_iff.1 hd).2⟩
              · exact s0 2
          · cases hb
        · exact fillQ_good _ _ _ ws hsh.tail (good0 _) (s0 _) hb
end SC
end Go.Proofs.YtfbicbgdfcbhpaaDoor
