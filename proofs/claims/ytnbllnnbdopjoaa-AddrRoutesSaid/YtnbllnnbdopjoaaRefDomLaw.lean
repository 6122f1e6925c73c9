/-
  The two ways of reading a domain agree.
-/
import Derived.Test.YtnbllnnbdopjoaaRefDomain
import Derived.Test.YtnbllnnbdopjoaaAddrTop
namespace Go.Proofs.Ytnbllnnbdopjoaa

theorem split_run : ∀ (p t : List UInt8), (∀ c ∈ p, c ≠ 46) → splitP 46 (p ++ 46 :: t) = p :: splitP 46 t
  | [], t, _ => by simp [splitP]
  | x :: p, t, h => by
    have hx : x ≠ 46 := h x (by simp)
    have ih := split_run p t (fun c hc => h c (by simp [hc]))
    rw [List.cons_append, splitP, if_neg hx, ih]; rfl
theorem split_one : ∀ (p : List UInt8), (∀ c ∈ p, c ≠ 46) → splitP 46 p = [p]
  | [], _ => rfl
  | x :: p, h => by
    have hx : x ≠ 46 := h x (by simp)
    have ih := split_one p (fun c hc => h c (by simp [hc]))
    rw [splitP, if_neg hx, ih]; rfl
theorem labelB_dot : labelB 46 = false := by decide
theorem domCh_eq (c : UInt8) : domCh c = (labelB c || c == 46) := by
  unfold domCh; rw [labelB_int, Bool.or_assoc]; congr 1; congr 1; rw [Bool.eq_iff_iff]; simp; rw [← UInt8.toNat_inj]; simp; omega
/-- A run of labels' bytes stands ahead; behind it a point or none. -/
theorem run_form : ∀ l : List UInt8, ∃ p r, l = p ++ r ∧ p.all labelB = true ∧ spanLen labelB l = p.length ∧
    ((∃ t, r = 46 :: t ∧ spanLen domCh l = p.length + (1 + spanLen domCh t)) ∨ ((∀ t, r ≠ 46 :: t) ∧ spanLen domCh l = p.length))
  | [] => ⟨[], [], rfl, rfl, rfl, .inr ⟨by simp, rfl⟩⟩
  | c :: l => by
    by_cases hc : labelB c = true
    · obtain ⟨p, r, h1, h2, h3, h4⟩ := run_form l
      refine ⟨c :: p, r, by rw [h1]; rfl, by simp [hc, h2], by simp [spanLen, hc, h3], ?_⟩
      have hd : domCh c = true := by rw [domCh_eq, hc]; rfl
      rcases h4 with ⟨t, ht, h5⟩ | ⟨ht, h5⟩
      · exact .inl ⟨t, ht, by simp only [spanLen, if_pos hd, List.length_cons, h5]; omega⟩
      · exact .inr ⟨ht, by simp only [spanLen, if_pos hd, List.length_cons, h5]⟩
    · refine ⟨[], c :: l, rfl, rfl, by simp [spanLen, hc], ?_⟩
      by_cases h46 : c = 46
      · subst h46
        have hd : domCh 46 = true := by rw [domCh_eq]; rfl
        exact .inl ⟨l, rfl, by simp only [spanLen, if_pos hd, List.length_nil]; omega⟩
      · have hd : domCh c ≠ true := by rw [domCh_eq]; simp [hc, h46]
        exact .inr ⟨by intro t e; exact h46 (List.cons.inj e).1, by simp only [spanLen, if_neg hd, List.length_nil]⟩
theorem dom_law : ∀ n, ∀ l : List UInt8, l.length ≤ n → domP l = if labelsB (l.take (spanLen domCh l)) = true then some (spanLen domCh l) else none
  | n, l, hn => by
    obtain ⟨p, r, h1, h2, h3, h4⟩ := run_form l
    have hp : ∀ c ∈ p, c ≠ 46 := by
      intro c hc e
      have := List.all_eq_true.1 h2 c hc
      rw [e, labelB_dot] at this
      exact absurd this (by decide)
    have htk : l.take p.length = p := by rw [h1]; simp
    have hdr : l.drop p.length = r := by rw [h1]; simp
    have hrl : rlabelB p = labelOk p := by unfold rlabelB; rw [h2, Bool.true_and]
    unfold domP
    rw [h3, htk, hdr]
    rcases h4 with ⟨t, ht, h5⟩ | ⟨ht, h5⟩
    · have htn : t.length < n := by rw [h1, ht] at hn; simp at hn; omega
      have ih := dom_law (n - 1) t (by omega)
      have e1 : l.take (spanLen domCh l) = p ++ 46 :: t.take (spanLen domCh t) := by
        rw [h5, h1, ht, List.take_append, List.take_of_length_le (by omega), Nat.add_sub_cancel_left, Nat.add_comm 1, List.take_succ_cons]
      have e2 : labelsB (p ++ 46 :: t.take (spanLen domCh t)) = (labelOk p && labelsB (t.take (spanLen domCh t))) := by
        unfold labelsB; rw [split_run p _ hp, List.all_cons, hrl]
      have e3 : domT (46 :: t) = (domP t).map (1 + ·) := by
        rw [domT, if_pos rfl]
        unfold domP
        split
        · rw [Option.map_map]; congr 1; funext x; simp; omega
        · rfl
      rw [ht, e3, e1, e2, ih, h5]
      cases labelOk p <;> cases labelsB (t.take (spanLen domCh t)) <;> simp
    · have e1 : l.take (spanLen domCh l) = p := by rw [h5, htk]
      have e2 : labelsB p = labelOk p := by unfold labelsB; rw [split_one p hp]; simp [hrl]
      have e3 : domT r = some 0 := by
        cases r with
        | nil => rw [domT]
        | cons c t =>
          rw [domT, if_neg]
          intro e; exact ht t (by rw [e])
      rw [e3, e1, e2, h5]
      cases labelOk p <;> simp
termination_by n => n
decreasing_by omega
theorem split_dom : ∀ l : List UInt8, (∀ q ∈ splitP 46 l, q.all labelB = true) → l.all domCh = true
  | [], _ => rfl
  | x :: r, h => by
    rw [splitP] at h
    split at h
    · rename_i hx
      rw [List.all_cons, domCh_eq, hx, split_dom r (fun q hq => h q (by simp [hq]))]; rfl
    · cases hL : splitP 46 r with
      | nil => exact absurd hL (splitP_ne _ _)
      | cons a t =>
        rw [hL] at h
        have ha := h (x :: a) (by simp [prep])
        rw [List.all_cons, Bool.and_eq_true] at ha
        have hr := split_dom r (fun q hq => by
          rw [hL] at hq
          rcases List.mem_cons.1 hq with rfl | hq
          · exact ha.2
          · exact h q (by simp [prep, hq]))
        rw [List.all_cons, domCh_eq, ha.1, hr]; rfl
theorem span_all (f : UInt8 → Bool) : ∀ l : List UInt8, l.all f = true → spanLen f l = l.length
  | [], _ => rfl
  | c :: l, h => by
    rw [List.all_cons, Bool.and_eq_true] at h
    rw [spanLen, if_pos h.1, span_all f l h.2]; rfl
theorem labels_law (l : List UInt8) : domP l = some l.length ↔ labelsB l = true := by
  rw [dom_law l.length l (Nat.le_refl _)]
  constructor
  · intro h
    split at h
    · rename_i hl
      have e : spanLen domCh l = l.length := Option.some.inj h
      rwa [e, List.take_of_length_le (Nat.le_refl _)] at hl
    · cases h
  · intro h
    have e : spanLen domCh l = l.length := span_all _ _ (split_dom l (fun q hq => by
      have := List.all_eq_true.1 h q hq
      unfold rlabelB at this
      rw [Bool.and_eq_true] at this
      exact this.1))
    rw [e, List.take_of_length_le (Nat.le_refl _), if_pos h]
theorem domain_law (l : List UInt8) : domainB l = rdomB l := by
  unfold domainB rdomB
  congr 1
  rw [Bool.eq_iff_iff, ← labels_law]
  simp
end Go.Proofs.Ytnbllnnbdopjoaa
