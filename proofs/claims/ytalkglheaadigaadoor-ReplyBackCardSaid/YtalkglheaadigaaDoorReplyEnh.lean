/-
  Enhanced codes: the pieces between points, and the reference's scan: one thing. In plain lists.
-/
import Derived.Test.YtalkglheaadigaaDoorReplyNum
set_option maxRecDepth 20000
set_option linter.unusedVariables false
set_option linter.unusedSimpArgs false
set_option linter.unusedSectionVars false
namespace Go.Proofs.YtalkglheaadigaaDoor

theorem index_pt (r : List UInt8) : ∀ n : List UInt8, (∀ c ∈ n, c ≠ 46) → Lib.index (n ++ 46 :: r) [46] = n.length
  | [], _ => by rw [List.nil_append, Lib.index, if_pos (by simp [List.isPrefixOf])]; first | done | rfl | simp
  | c :: n, h => by
    have ih := index_pt r n fun d hd => h d (List.mem_cons_of_mem _ hd)
    have hc := h c (List.mem_cons_self ..)
    rw [List.cons_append, Lib.index, if_neg (by simp [List.isPrefixOf]; exact fun e => hc e.symm), ih, if_neg (by first | (simp; done) | (simp; omega))]
    simp
theorem index_ptno : ∀ {t : List UInt8}, (∀ c ∈ t, c ≠ 46) → Lib.index t [46] = -1
  | [], _ => by simp [Lib.index]
  | c :: r, h => by
    have ih := index_ptno (t := r) fun d hd => h d (List.mem_cons_of_mem _ hd)
    have hc := h c (List.mem_cons_self ..)
    rw [Lib.index, if_neg (by simp [List.isPrefixOf]; exact fun e => hc e.symm), ih]
    rfl
theorem split_ptno {t : List UInt8} (h : ∀ c ∈ t, c ≠ 46) : Lib.split t [46] = [t] := by
  unfold Lib.split
  rw [Lib.count_miss (index_ptno h)]
  rfl
theorem split_pt {a : List UInt8} (b : List UInt8) (h : ∀ c ∈ a, c ≠ 46) : Lib.split (a ++ 46 :: b) [46] = a :: Lib.split b [46] := by
  have hi := index_pt b a h
  have hd : (a ++ 46 :: b).drop (a.length + ([46] : List UInt8).length) = b := by simp
  unfold Lib.split
  rw [Lib.count_hit (by simp) hi, hd, Nat.add_comm 1, Lib.splitK, if_neg (by rw [hi]; first | (simp; done) | (simp; omega)), hi]
  simp only [Int.toNat_natCast]
  rw [hd]
  simp
theorem split_ne (t : List UInt8) : Lib.split t [46] ≠ [] := by
  unfold Lib.split
  generalize Lib.count t [46] = k
  cases k with
  | zero => simp [Lib.splitK]
  | succ k => rw [Lib.splitK]; split <;> simp
theorem splitK_le : ∀ (k : Nat) (t x : List UInt8), x ∈ Lib.splitK [46] 0 k t → x.length ≤ t.length
  | 0, t, x, h => by
    rw [Lib.splitK, List.mem_singleton] at h; subst h; exact Nat.le_refl _
  | k + 1, t, x, h => by
    rw [Lib.splitK] at h
    split at h
    · rw [List.mem_singleton] at h; subst h; exact Nat.le_refl _
    · rcases List.mem_cons.1 h with rfl | h2
      · rw [List.length_take]; omega
      · have := splitK_le k _ x h2
        rw [List.length_drop] at this; omega
theorem split_le (t x : List UInt8) (h : x ∈ Lib.split t [46]) : x.length ≤ t.length := splitK_le _ _ _ h
/-- An enhanced code's numbers. -/
def enhQ (l : List UInt8) : Option (Nat × Nat × Nat) := match Lib.split l [46] with
  | [p, q, r] => if (canonB p && (canonB q && (canonB r && decide (valN 0 p = 2 ∨ valN 0 p = 4 ∨ valN 0 p = 5)))) = true then some (valN 0 p, valN 0 q, valN 0 r) else none
  | _ => none
/-- The digits with which a text begins. -/
def digs (l : List UInt8) : List UInt8 := l.takeWhile digC
/-- A number and a point. -/
def stepQ (l : List UInt8) : Option (Nat × List UInt8) := if canonB (digs l) = true ∧ (l.drop (digs l).length).head? = some 46 then some (valN 0 (digs l), l.drop ((digs l).length + 1)) else none
def enhR (l : List UInt8) : Option (Nat × Nat × Nat) :=
  match stepQ l with
  | none => none
  | some (a, r1) => match stepQ r1 with
    | none => none
    | some (b, r2) => if canonB (digs r2) = true ∧ (digs r2).length = r2.length ∧ (a = 2 ∨ a = 4 ∨ a = 5) then some (a, b, valN 0 (digs r2)) else none
theorem drop_digs (l : List UInt8) : l.drop (digs l).length = l.dropWhile digC := by
  unfold digs
  induction l with
  | nil => rfl
  | cons c r ih =>
    rw [List.takeWhile_cons, List.dropWhile_cons]
    split
    · rw [List.length_cons, List.drop_succ_cons, ih]
    · rfl
theorem digs_split (l : List UInt8) : l = digs l ++ l.drop (digs l).length := by
  rw [drop_digs]
  exact (List.takeWhile_append_dropWhile).symm
theorem digs_all (l : List UInt8) : (digs l).all digC = true := by
  unfold digs
  induction l with
  | nil => rfl
  | cons c r ih =>
    rw [List.takeWhile_cons]
    split
    · rw [List.all_cons]; simp_all
    · rfl
theorem digs_of {p r : List UInt8} (h : p.all digC = true) (hr : ∀ c t, r = c :: t → digC c = false) : digs (p ++ r) = p := by
  unfold digs
  induction p with
  | nil =>
    cases r with
    | nil => rfl
    | cons c t => rw [List.nil_append, List.takeWhile_cons, if_neg (by rw [hr c t rfl]; simp)]
  | cons c p ih =>
    rw [List.all_cons, Bool.and_eq_true] at h
    rw [List.cons_append, List.takeWhile_cons, if_pos h.1, ih h.2]
theorem dig_pt {c : UInt8} (h : digC c = true) : c ≠ 46 := by
  intro e; subst e; cases h
theorem all_pt {p : List UInt8} (h : p.all digC = true) : ∀ c ∈ p, c ≠ 46 := fun c hc => dig_pt (List.all_eq_true.1 h c hc)
theorem canon_all {p : List UInt8} (h : canonB p = true) : p.all digC = true := (canon_parts h).1
theorem first_pt : ∀ t : List UInt8, (∀ c ∈ t, c ≠ 46) ∨ ∃ a b, t = a ++ 46 :: b ∧ ∀ c ∈ a, c ≠ 46
  | [] => .inl fun _ h => by cases h
  | c :: r => by
    by_cases hc : c = 46
    · subst hc; exact .inr ⟨[], r, rfl, fun _ h => by cases h⟩
    · rcases first_pt r with h | ⟨a, b, rfl, h⟩
      · exact .inl fun d hd => by rcases List.mem_cons.1 hd with rfl | h2; exact hc; exact h d h2
      · exact .inr ⟨c :: a, b, rfl, fun d hd => by rcases List.mem_cons.1 hd with rfl | h2; exact hc; exact h d h2⟩
theorem step_at {a : List UInt8} (b : List UInt8) (h : ∀ c ∈ a, c ≠ 46) : stepQ (a ++ 46 :: b) = if canonB a = true then some (valN 0 a, b) else none := by
  by_cases hc : canonB a = true
  · have hd : digs (a ++ 46 :: b) = a := digs_of (canon_all hc) (fun c t e => by cases e; rfl)
    unfold stepQ
    rw [hd, if_pos hc, if_pos ⟨hc, by simp⟩]
    simp [List.drop_append]
  · rw [if_neg hc]
    unfold stepQ
    rw [if_neg]
    rintro ⟨h1, h2⟩
    apply hc
    have hs := digs_split (a ++ 46 :: b)
    have hnp := all_pt (digs_all (a ++ 46 :: b))
    generalize digs (a ++ 46 :: b) = d at *
    obtain ⟨t, ht⟩ : ∃ t, (a ++ 46 :: b).drop d.length = 46 :: t := by
      cases hx : (a ++ 46 :: b).drop d.length with
      | nil => rw [hx] at h2; cases h2
      | cons c t => rw [hx] at h2; cases h2; exact ⟨t, rfl⟩
    rw [ht] at hs
    have e1 := index_pt b a h
    have e2 := index_pt t d hnp
    rw [hs] at e1
    have hl : d.length = a.length := by omega
    have := List.append_inj_left hs hl.symm
    rw [this]; exact h1
theorem step_no {t : List UInt8} (h : ∀ c ∈ t, c ≠ 46) : stepQ t = none := by
  unfold stepQ
  rw [if_neg]
  rintro ⟨_, h2⟩
  cases hx : t.drop (digs t).length with
  | nil => rw [hx] at h2; cases h2
  | cons c r =>
    rw [hx] at h2
    cases h2
    exact h 46 (List.mem_of_mem_drop (by rw [hx]; exact List.mem_cons_self ..)) rfl
theorem digs_whole (t : List UInt8) : (canonB (digs t) = true ∧ (digs t).length = t.length) ↔ canonB t = true := by
  constructor
  · rintro ⟨h1, h2⟩
    have := digs_split t
    rw [h2, List.drop_of_length_le (Nat.le_refl _), List.append_nil] at this
    rw [this]; exact h1
  · intro h
    have : digs t = t := by
      have := digs_of (r := []) (canon_all h) (fun c t e => by cases e)
      rwa [List.append_nil] at this
    rw [this]; exact ⟨h, rfl⟩
theorem digs_same {t : List UInt8} (h : canonB t = true) : digs t = t := by
  have := digs_of (r := []) (canon_all h) (fun c t e => by cases e)
  rwa [List.append_nil] at this
/-- The pieces and the scan tell the same. -/
theorem enhQ_eq (l : List UInt8) : enhQ l = enhR l := by
  unfold enhQ enhR
  rcases first_pt l with h | ⟨p, l1, rfl, h⟩
  · rw [split_ptno h, step_no h]
  · rw [split_pt l1 h, step_at l1 h]
    rcases first_pt l1 with h1 | ⟨q, l2, rfl, h1⟩
    · rw [split_ptno h1]
      simp only
      by_cases c1 : canonB p = true
      · rw [if_pos c1]; simp only; rw [step_no h1]
      · rw [if_neg c1]
    · rw [split_pt l2 h1]
      rcases first_pt l2 with h2 | ⟨r, l3, rfl, h2⟩
      · rw [split_ptno h2]
        simp only
        by_cases c1 : canonB p = true
        · rw [if_pos c1]
          simp only
          rw [step_at l2 h1]
          by_cases c2 : canonB q = true
          · rw [if_pos c2]
            simp only
            by_cases c3 : canonB l2 = true
            · rw [digs_same c3]
              simp [c1, c2, c3]
            · have : ¬ (canonB (digs l2) = true ∧ (digs l2).length = l2.length ∧ (valN 0 p = 2 ∨ valN 0 p = 4 ∨ valN 0 p = 5)) := fun hh => c3 ((digs_whole l2).1 ⟨hh.1, hh.2.1⟩)
              rw [if_neg this]
              simp [c3]
          · rw [if_neg c2]; simp [c2]
        · rw [if_neg c1]; simp [c1]
      · rw [split_pt l3 h2]
        have hne := split_ne l3
        cases hs : Lib.split l3 [46] with
        | nil => exact absurd hs hne
        | cons x xs =>
          simp only
          by_cases c1 : canonB p = true
          · rw [if_pos c1]
            simp only
            rw [step_at _ h1]
            by_cases c2 : canonB q = true
            · rw [if_pos c2]
              simp only
              rw [if_neg]
              rintro ⟨h5, h6, _⟩
              have := canon_all ((digs_whole _).1 ⟨h5, h6⟩)
              rw [List.all_append, List.all_cons] at this
              simp [show digC 46 = false from rfl] at this
            · rw [if_neg c2]
          · rw [if_neg c1]
/-- What the code finds after the split. -/
theorem enhQ_three {l p q r : List UInt8} (h : Lib.split l [46] = [p, q, r]) : enhQ l = if (canonB p && (canonB q && (canonB r && decide (valN 0 p = 2 ∨ valN 0 p = 4 ∨ valN 0 p = 5)))) = true then some (valN 0 p, valN 0 q, valN 0 r) else none := by
  unfold enhQ; rw [h]
theorem enhQ_other {l : List UInt8} (h : (Lib.split l [46]).length ≠ 3) : enhQ l = none := by
  unfold enhQ
  split
  · next p q r e => rw [e] at h; simp at h
  · rfl
end Go.Proofs.YtalkglheaadigaaDoor
