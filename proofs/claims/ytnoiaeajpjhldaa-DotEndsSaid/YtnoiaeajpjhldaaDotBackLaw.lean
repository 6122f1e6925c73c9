/-
  What is sent is read as it was (plain lists of bytes). No program.
-/
import Derived.Test.YtnoiaeajpjhldaaRefDec07
namespace Go.Proofs.Ytnoiaeajpjhldaa

/-- Has a message no CR or LF alone, and no line of more than 1,000 bytes with its end? -/
def plainQ (l : List UInt8) : Bool :=
  if l = [] then true else
  match _h : endQ false l with
  | some n => !decide (1000 < n) && !bareL false (l.take n) false && plainQ (l.drop n)
  | none => !decide (1000 < l.length + 2) && !bareL false l false
termination_by l.length
decreasing_by
  have := endQ_le _ _ _ ‹_›
  simp; omega
theorem plainQ_some {l : List UInt8} {n : Nat} (h : endQ false l = some n) : plainQ l = (!decide (1000 < n) && !bareL false (l.take n) false && plainQ (l.drop n)) := by
  have hl : l ≠ [] := by intro e; subst e; rw [endQ] at h; cases h
  rw [plainQ, if_neg hl]
  split
  · rename_i m hm; rw [h] at hm; cases hm; rfl
  · rename_i hm; rw [h] at hm; cases hm
theorem plainQ_none {l : List UInt8} (hl : l ≠ []) (h : endQ false l = none) : plainQ l = (!decide (1000 < l.length + 2) && !bareL false l false) := by
  rw [plainQ, if_neg hl]
  split
  · rename_i m hm; rw [h] at hm; cases hm
  · rfl
theorem startR_line : ∀ (l : List UInt8) (s p : Bool) (n : Nat), endQ p l = some n → startR s p l = startR true false (l.drop n)
  | [], _, _, _, h => by rw [endQ] at h; cases h
  | c :: r, s, p, n, h => by
    rw [endQ] at h
    by_cases hc : p = true ∧ c = 10
    · rw [if_pos hc] at h; cases h
      obtain ⟨rfl, rfl⟩ := hc
      simp [startR]
    · rw [if_neg hc] at h
      cases hx : endQ (decide (c = 13)) r with
      | none => rw [hx] at h; cases h
      | some k =>
        rw [hx] at h
        have hn : n = k + 1 := by cases h; show 1 + k = k + 1; omega
        subst hn
        rw [startR, List.drop_succ_cons]
        exact startR_line r _ _ k hx
theorem startR_none : ∀ (l : List UInt8) (s p : Bool), l ≠ [] → endQ p l = none → startR s p l = false
  | [], _, _, h, _ => absurd rfl h
  | c :: r, s, p, _, h => by
    rw [endQ] at h
    by_cases hc : p = true ∧ c = 10
    · rw [if_pos hc] at h; cases h
    · rw [if_neg hc] at h
      have hx : endQ (decide (c = 13)) r = none := by
        cases hx : endQ (decide (c = 13)) r with
        | none => rfl
        | some k => rw [hx] at h; cases h
      rw [startR]
      by_cases hr : r = []
      · subst hr
        rw [startR]
        by_cases h10 : c = 10
        · have : p = false := by cases p <;> simp_all
          rw [this]; simp
        · simp [h10]
      · exact startR_none r _ _ hr hx
theorem endQ_app : ∀ (l X : List UInt8) (p : Bool) (n : Nat), endQ p l = some n → endQ p (l ++ X) = some n
  | [], _, _, _, h => by rw [endQ] at h; cases h
  | c :: r, X, p, n, h => by
    rw [endQ] at h
    rw [List.cons_append, endQ]
    by_cases hc : p = true ∧ c = 10
    · rw [if_pos hc] at h ⊢; exact h
    · rw [if_neg hc] at h ⊢
      cases hx : endQ (decide (c = 13)) r with
      | none => rw [hx] at h; cases h
      | some k => rw [endQ_app r X _ k hx, ← h, hx]
theorem endQ_take : ∀ (l : List UInt8) (p : Bool) (n : Nat), endQ p l = some n → endQ p (l.take n) = some n
  | [], _, _, h => by rw [endQ] at h; cases h
  | c :: r, p, n, h => by
    rw [endQ] at h
    by_cases hc : p = true ∧ c = 10
    · rw [if_pos hc] at h; cases h
      rw [List.take_succ_cons, endQ, if_pos hc]
    · rw [if_neg hc] at h
      cases hx : endQ (decide (c = 13)) r with
      | none => rw [hx] at h; cases h
      | some k =>
        rw [hx] at h
        have hn : n = k + 1 := by cases h; show 1 + k = k + 1; omega
        subst hn
        rw [List.take_succ_cons, endQ, if_neg hc, endQ_take r _ k hx]
        show some (1 + k) = some (k + 1)
        rw [Nat.add_comm]
theorem endQ_none_app : ∀ (l X : List UInt8) (p : Bool), endQ p l = none → endQ p (l ++ 13 :: 10 :: X) = some (l.length + 2)
  | [], X, p, _ => by
    rw [List.nil_append, endQ, if_neg (by simp), endQ, if_pos (by simp)]; rfl
  | c :: r, X, p, h => by
    rw [endQ] at h
    rw [List.cons_append, endQ]
    by_cases hc : p = true ∧ c = 10
    · rw [if_pos hc] at h; cases h
    · rw [if_neg hc] at h ⊢
      have hx : endQ (decide (c = 13)) r = none := by
        cases hx : endQ (decide (c = 13)) r with
        | none => rfl
        | some k => rw [hx] at h; cases h
      rw [endQ_none_app r X _ hx]
      show some (1 + (r.length + 2)) = some (r.length + 1 + 2)
      congr 1; omega
theorem endQ_dot (X : List UInt8) : endQ false (46 :: X) = (endQ false X).map (1 + ·) := by rw [endQ, if_neg (by simp)]; rfl
theorem bareL_crlf : ∀ (l : List UInt8) (p : Bool), bareL p l false = false → bareL p (l ++ [13, 10]) false = false
  | [], p, h => by
    have : p = false := by rw [bareL] at h; simpa using h
    subst this; decide
  | c :: r, p, h => by
    rw [bareL] at h
    rw [List.cons_append, bareL]
    by_cases hc : c = 10
    · rw [if_pos hc] at h ⊢
      rw [Bool.or_eq_false_iff] at h ⊢
      exact ⟨h.1, bareL_crlf r _ h.2⟩
    · rw [if_neg hc] at h ⊢
      rw [Bool.or_eq_false_iff] at h ⊢
      exact ⟨h.1, bareL_crlf r _ h.2⟩
/-- What a message that is sent comes to: itself, a line's end added where there is none. -/
def wantL (l : List UInt8) : List UInt8 := l ++ if l ≠ [] ∧ startR true false l = false then [13, 10] else []
/-- The first line of what is sent: the end alone, or a line D that is no point alone, with the rest behind. -/
structure SentLine (l D rest : List UInt8) : Prop where
  sent : sendP l = D ++ sendP rest
  fin : ∀ X, endQ false (D ++ X) = some D.length
  strip : wantL l = stripDot D ++ wantL rest
  two : 2 ≤ D.length
  long : plainQ l = true → ¬ 1000 < (stripDot D).length
  bare : plainQ l = true → bareL false (stripDot D) false = false
  noDot : ∀ Y, D ≠ 46 :: 13 :: Y
  dots : D.head? = some 46 → 4 ≤ D.length ∧ ∃ Y, D = 46 :: 46 :: Y
  plain : plainQ l = true → plainQ rest = true
  less : rest.length < l.length
theorem sendP_nil : sendP [] = [46, 13, 10] := by decide
theorem stripDot_dots (l : List UInt8) : stripDot ((if l.head? = some 46 then [46] else []) ++ l) = l := by
  by_cases h46 : l.head? = some 46
  · rw [if_pos h46]; rfl
  · rw [if_neg h46, List.nil_append]; unfold stripDot; rw [if_neg h46]
theorem sent_line (l : List UInt8) (h : l ≠ []) : ∃ D rest, SentLine l D rest := by
  have hs : ∀ l : List UInt8, l ≠ [] → sendR true false l = (if l.head? = some 46 then [46] else []) ++ sendR false false l := fun l h => by
    cases l with
    | nil => exact absurd rfl h
    | cons c r =>
      rw [sendR, sendR]
      have hh : (c :: r).head? = some c := rfl
      rw [hh]
      by_cases hc : c = 46 <;> simp [hc]
  cases hx : endQ false l with
  | some n =>
    obtain ⟨p1, p2⟩ := endQ_le _ _ _ hx
    have hn2 : 2 ≤ n := by
      have := endQ_take _ _ _ hx
      match l, n, hx with
      | [], _, hx => rw [endQ] at hx; cases hx
      | c :: r, 1, hx =>
        rw [endQ, if_neg (by simp)] at hx
        cases hy : endQ (decide (c = 13)) r with
        | none => rw [hy] at hx; cases hx
        | some k =>
          rw [hy] at hx
          have hk := endQ_le _ _ _ hy
          have : 1 + k = 1 := by injection hx
          omega
      | c :: r, n + 2, _ => omega
      | _, 0, _ => omega
    have ht : l.take n ≠ [] := by intro e; have := congrArg List.length e; rw [List.length_take] at this; simp only [List.length_nil] at this; omega
    have hhd : (l.take n).head? = l.head? := by
      cases l with
      | nil => exact absurd rfl h
      | cons c r =>
        obtain ⟨m, rfl⟩ : ∃ m, n = m + 1 := ⟨n - 1, by omega⟩
        rfl
    have hst := stripDot_dots (l.take n)
    rw [hhd] at hst
    have hsl := startR_line l true false n hx
    have hlen : (l.take n).length = n := by rw [List.length_take]; omega
    have hE : ∀ X, endQ false (l.take n ++ X) = some n := fun X => endQ_app _ X _ _ (endQ_take _ _ _ hx)
    have hiff : (l ≠ [] ∧ startR true false l = false) ↔ (l.drop n ≠ [] ∧ startR true false (l.drop n) = false) := by
      rw [hsl]
      constructor
      · rintro ⟨_, h2⟩
        refine ⟨fun e => ?_, h2⟩
        rw [e] at h2; cases h2
      · rintro ⟨_, h2⟩; exact ⟨h, h2⟩
    refine ⟨(if l.head? = some 46 then [46] else []) ++ l.take n, l.drop n, ⟨?_, fun X => ?_, ?_, ?_, fun hp => ?_, fun hp => ?_, fun Y => ?_, fun hh => ?_, fun hp => ?_, ?_⟩⟩
    · unfold sendP
      rw [hs l h, sendR_line, hx]
      simp only [hiff, List.append_assoc]
    · by_cases h46 : l.head? = some 46
      · rw [if_pos h46, List.append_assoc, List.singleton_append, endQ_dot, hE, List.length_append, hlen]; rfl
      · rw [if_neg h46, List.nil_append, hE, hlen]
    · unfold wantL
      rw [hst, ← List.append_assoc, List.take_append_drop]
      simp only [hiff]
    · rw [List.length_append, hlen]; omega
    · rw [plainQ_some hx] at hp
      simp only [Bool.and_eq_true, Bool.not_eq_true', decide_eq_false_iff_not] at hp
      rw [hst, hlen]; exact hp.1.1
    · rw [plainQ_some hx] at hp
      simp only [Bool.and_eq_true, Bool.not_eq_true', decide_eq_false_iff_not] at hp
      rw [hst]; exact hp.1.2
    · by_cases h46 : l.head? = some 46
      · rw [if_pos h46]
        intro e
        simp at e
        rw [← hhd, e] at h46
        simp at h46
      · rw [if_neg h46, List.nil_append]
        intro e
        rw [← hhd, e] at h46
        simp at h46
    · by_cases h46 : l.head? = some 46
      · rw [if_pos h46] at hh ⊢
        obtain ⟨t, ht2⟩ : ∃ t, l.take n = 46 :: t := by
          rw [← hhd] at h46
          cases hl2 : l.take n with
          | nil => exact absurd hl2 ht
          | cons c t => rw [hl2] at h46; simp at h46; exact ⟨t, by rw [h46]⟩
        refine ⟨?_, t, by rw [ht2]; rfl⟩
        have h1 := hE []
        rw [List.append_nil, ht2, endQ_dot] at h1
        have h3 : (l.take n).length = t.length + 1 := by rw [ht2]; rfl
        cases hy : endQ false t with
        | none => rw [hy] at h1; cases h1
        | some k =>
          have hk := endQ_le _ _ _ hy
          have hk2 : 2 ≤ k := by
            match t, k, hy with
            | [], _, hy => rw [endQ] at hy; cases hy
            | c :: r, 1, hy =>
              rw [endQ, if_neg (by simp)] at hy
              cases hz : endQ (decide (c = 13)) r with
              | none => rw [hz] at hy; cases hy
              | some j =>
                rw [hz] at hy
                have hj := endQ_le _ _ _ hz
                have : 1 + j = 1 := by injection hy
                omega
            | c :: r, k + 2, _ => omega
            | _, 0, _ => omega
          rw [ht2]; simp; omega
      · rw [if_neg h46, List.nil_append, hhd] at hh
        exact absurd hh h46
    · rw [plainQ_some hx] at hp
      simp only [Bool.and_eq_true] at hp
      exact hp.2
    · rw [List.length_drop]; omega
  | none =>
    have hst := stripDot_dots (l ++ [13, 10])
    have hhd : (l ++ [13, 10]).head? = l.head? := by cases l with
      | nil => exact absurd rfl h
      | cons c r => rfl
    rw [hhd] at hst
    have hsl := startR_none l true false h hx
    have hE : ∀ X, endQ false (l ++ 13 :: 10 :: X) = some (l.length + 2) := fun X => endQ_none_app _ X _ hx
    have hpos : 0 < l.length := List.length_pos_iff.2 h
    refine ⟨(if l.head? = some 46 then [46] else []) ++ (l ++ [13, 10]), [], ⟨?_, fun X => ?_, ?_, ?_, fun hp => ?_, fun hp => ?_, fun Y => ?_, fun hh => ?_, fun _ => by rw [plainQ]; rfl, ?_⟩⟩
    · rw [sendP_nil]
      unfold sendP
      rw [hs l h, sendR_line, hx]
      simp [h, hsl]
    · have h0 : (l ++ [13, 10]) ++ X = l ++ 13 :: 10 :: X := by simp
      by_cases h46 : l.head? = some 46
      · rw [if_pos h46, List.append_assoc, h0, List.singleton_append, endQ_dot, hE]; simp; omega
      · rw [if_neg h46, List.nil_append, h0, hE]; simp
    · unfold wantL
      rw [hst, if_pos ⟨h, hsl⟩, if_neg (by simp)]
      simp
    · simp only [List.length_append, List.length_cons, List.length_nil]; omega
    · rw [plainQ_none h hx] at hp
      simp only [Bool.and_eq_true, Bool.not_eq_true', decide_eq_false_iff_not] at hp
      rw [hst, List.length_append]; exact hp.1
    · rw [plainQ_none h hx] at hp
      simp only [Bool.and_eq_true, Bool.not_eq_true', decide_eq_false_iff_not] at hp
      rw [hst]; exact bareL_crlf _ _ hp.2
    · by_cases h46 : l.head? = some 46
      · rw [if_pos h46]
        intro e
        simp only [List.singleton_append, List.cons.injEq, true_and] at e
        rw [← hhd, e] at h46
        simp at h46
      · rw [if_neg h46, List.nil_append]
        intro e
        rw [← hhd, e] at h46
        simp at h46
    · by_cases h46 : l.head? = some 46
      · rw [if_pos h46] at hh ⊢
        obtain ⟨t, ht2⟩ : ∃ t, l = 46 :: t := by
          cases l with
          | nil => exact absurd rfl h
          | cons c t => simp at h46; exact ⟨t, by rw [h46]⟩
        refine ⟨by simp; omega, t ++ [13, 10], by rw [ht2]; rfl⟩
      · rw [if_neg h46, List.nil_append, hhd] at hh
        exact absurd hh h46
    · simpa using hpos
theorem back_law : ∀ (m : Nat) (l behind : List UInt8) (g : Rdg), l.length ≤ m → plainQ l = true → decR (sendP l ++ behind) g = ⟨g.all ++ wantL l, g.long, g.bare, g.used + (sendP l).length, true⟩ := by
  intro m
  induction m with
  | zero =>
    intro l behind g hl hp
    obtain rfl : l = [] := List.eq_nil_of_length_eq_zero (by omega)
    rw [sendP_nil, decR_some (n := 3) (by simp [endQ]), if_pos (by simp)]
    simp [wantL]
  | succ m ih =>
    intro l behind g hl hp
    by_cases h0 : l = []
    · subst h0
      rw [sendP_nil, decR_some (n := 3) (by simp [endQ]), if_pos (by simp)]
      simp [wantL]
    · obtain ⟨D, rest, hD⟩ := sent_line l h0
      have h1 := ih rest behind (g.line D false) (by have := hD.less; omega) (hD.plain hp)
      rw [hD.sent, List.append_assoc, decR_some (hD.fin _), List.take_left, List.drop_left, if_neg (hD.noDot [10]), h1, hD.strip]
      unfold Rdg.line
      rw [decide_eq_false (hD.long hp), hD.bare hp]
      simp only [Bool.or_false, List.append_assoc, List.length_append, Rdg.mk.injEq, true_and, and_true]
      omega
end Go.Proofs.Ytnoiaeajpjhldaa
