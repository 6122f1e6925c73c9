/-
  The two ways of reading atoms agree.
-/
import Derived.Test.YtnbllnnbdopjoaaRefDomLaw
namespace Go.Proofs.Ytnbllnnbdopjoaa

def atCh (c : UInt8) : Bool := atomB c || c == 46
theorem atomB_dot : atomB 46 = false := by decide
theorem atrun_form : ∀ l : List UInt8, ∃ p r, l = p ++ r ∧ p.all atomB = true ∧ spanLen atomB l = p.length ∧
    ((∃ t, r = 46 :: t ∧ spanLen atCh l = p.length + (1 + spanLen atCh t)) ∨ ((∀ t, r ≠ 46 :: t) ∧ spanLen atCh l = p.length))
  | [] => ⟨[], [], rfl, rfl, rfl, .inr ⟨by simp, rfl⟩⟩
  | c :: l => by
    by_cases hc : atomB c = true
    · obtain ⟨p, r, h1, h2, h3, h4⟩ := atrun_form l
      refine ⟨c :: p, r, by rw [h1]; rfl, by simp [hc, h2], by simp [spanLen, hc, h3], ?_⟩
      have hd : atCh c = true := by unfold atCh; rw [hc]; rfl
      rcases h4 with ⟨t, ht, h5⟩ | ⟨ht, h5⟩
      · exact .inl ⟨t, ht, by simp only [spanLen, if_pos hd, List.length_cons, h5]; omega⟩
      · exact .inr ⟨ht, by simp only [spanLen, if_pos hd, List.length_cons, h5]⟩
    · refine ⟨[], c :: l, rfl, rfl, by simp [spanLen, hc], ?_⟩
      by_cases h46 : c = 46
      · subst h46
        have hd : atCh 46 = true := by decide
        exact .inl ⟨l, rfl, by simp only [spanLen, if_pos hd, List.length_nil]; omega⟩
      · have hd : atCh c ≠ true := by unfold atCh; simp [hc, h46]
        exact .inr ⟨by intro t e; exact h46 (List.cons.inj e).1, by simp only [spanLen, if_neg hd, List.length_nil]⟩
theorem atoms_law : ∀ n, ∀ l : List UInt8, l.length ≤ n → atomsP l = if ratomsB (l.take (spanLen atCh l)) = true then some (spanLen atCh l) else none
  | n, l, hn => by
    obtain ⟨p, r, h1, h2, h3, h4⟩ := atrun_form l
    have hp : ∀ c ∈ p, c ≠ 46 := by
      intro c hc e
      have := List.all_eq_true.1 h2 c hc
      rw [e, atomB_dot] at this
      exact absurd this (by decide)
    have htk : l.take p.length = p := by rw [h1]; simp
    have hdr : l.drop p.length = r := by rw [h1]; simp
    have hrl : partB p = !decide (p.length = 0) := by unfold partB; rw [h2, Bool.true_and]; cases p <;> simp
    unfold atomsP
    rw [h3, hdr]
    rcases h4 with ⟨t, ht, h5⟩ | ⟨ht, h5⟩
    · have htn : t.length < n := by rw [h1, ht] at hn; simp at hn; omega
      have ih := atoms_law (n - 1) t (by omega)
      have e1 : l.take (spanLen atCh l) = p ++ 46 :: t.take (spanLen atCh t) := by
        rw [h5, h1, ht, List.take_append, List.take_of_length_le (by omega), Nat.add_sub_cancel_left, Nat.add_comm 1, List.take_succ_cons]
      have e2 : ratomsB (p ++ 46 :: t.take (spanLen atCh t)) = (!decide (p.length = 0) && ratomsB (t.take (spanLen atCh t))) := by
        unfold ratomsB; rw [split_run p _ hp, List.all_cons, hrl]
      have e3 : atomsT (46 :: t) = (atomsP t).map (1 + ·) := by
        rw [atomsT, if_pos rfl]
        unfold atomsP
        split
        · rfl
        · rw [Option.map_map]; congr 1; funext x; simp; omega
      rw [ht, e3, e1, e2, ih, h5]
      by_cases h0 : p.length = 0 <;> cases ratomsB (t.take (spanLen atCh t)) <;> simp [h0]
    · have e1 : l.take (spanLen atCh l) = p := by rw [h5, htk]
      have e2 : ratomsB p = !decide (p.length = 0) := by unfold ratomsB; rw [split_one p hp]; simp [hrl]
      have e3 : atomsT r = some 0 := by
        cases r with
        | nil => rw [atomsT]
        | cons c t =>
          rw [atomsT, if_neg]
          intro e; exact ht t (by rw [e])
      rw [e3, e1, e2, h5]
      by_cases h0 : p.length = 0 <;> simp [h0]
termination_by n => n
decreasing_by omega
end Go.Proofs.Ytnbllnnbdopjoaa
