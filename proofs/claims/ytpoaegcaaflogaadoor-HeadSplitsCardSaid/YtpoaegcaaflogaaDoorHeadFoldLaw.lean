/-
  No line of a field that is written is longer than 78 bytes, but where it has no place to be folded at: in plain lists.
-/
import Derived.Test.YtpoaegcaaflogaaDoorHeadBuild2
namespace Go.Proofs.YtpoaegcaaflogaaDoor

theorem downQ_zero {p : Nat → Bool} : ∀ {k : Nat}, downQ p k = 0 → ∀ j, 2 ≤ j → j ≤ k → p j = false
  | 0, _, j, h1, h2 => by omega
  | 1, _, j, h1, h2 => by omega
  | k + 2, h, j, h1, h2 => by
    rw [downQ] at h
    split at h
    · omega
    · next hp =>
      by_cases hj : j = k + 2
      · rw [hj]; simpa using hp
      · exact downQ_zero h j h1 (by omega)
theorem upQ_before {p : Nat → Bool} (n : Nat) : ∀ (m k : Nat), n - k ≤ m → 0 < k → ∀ j, k ≤ j → j < n → (upQ p n k ≠ 0 → j < upQ p n k) → p j = false
  | 0, k, hm, _, j, h1, h2, _ => by omega
  | m + 1, k, hm, h0, j, h1, h2, h3 => by
    have hkn : k < n := by omega
    cases hp : p k
    · by_cases hj : j = k
      · rw [hj]; exact hp
      · refine upQ_before n m (k + 1) (by omega) (by omega) j (by omega) h2 fun h => ?_
        have := h3 (by rw [upQ_no hkn hp]; exact h)
        rw [upQ_no hkn hp] at this; exact this
    · have e := upQ_yes hkn hp
      have := h3 (by rw [e]; omega)
      rw [e] at this; omega
/-- How long the first line is. -/
def lineN (l : List UInt8) (c : Nat) : Nat := if foldN l c = 0 then l.length else foldN l c
/-- What follows the first line. -/
def restL (l : List UInt8) (c : Nat) : List UInt8 := if foldN l c = 0 then [] else writtenL (l.drop (foldN l c)) 0
theorem getElem_left3 {A B C D : List UInt8} {j : Nat} (h : j < A.length) (h2 : j < (A ++ B ++ C ++ D).length) : (A ++ B ++ C ++ D)[j] = A[j] := by
  simp only [List.append_assoc]
  rw [List.getElem_append_left h]
theorem lineN_le (l : List UInt8) (c : Nat) : lineN l c ≤ l.length := by
  unfold lineN
  split
  · exact Nat.le_refl _
  · next h => exact Nat.le_of_lt (foldN_bd h).2
theorem writtenL_line (l : List UInt8) (c : Nat) : writtenL l c = (l.take (lineN l c) ++ [13, 10]) ++ restL l c := by
  unfold lineN restL
  by_cases h : foldN l c = 0
  · rw [if_pos h, if_pos h, writtenL_no h, List.take_of_length_le (Nat.le_refl _), List.append_nil]
  · rw [if_neg h, if_neg h, writtenL_yes h]
theorem line_no_fold {l : List UInt8} {c k : Nat} (h78 : 78 < lineN l c) (h2 : 2 ≤ k) (hk : k < lineN l c) : mayB l c k = false := by
  have hl := lineN_le l c
  unfold lineN at h78 hk hl
  have hf : foldN l c = if downQ (mayB l c) 78 ≠ 0 then downQ (mayB l c) 78 else upQ (mayB l c) l.length 79 := by unfold foldN; rw [if_neg (by omega)]
  have hd : downQ (mayB l c) 78 = 0 := by
    by_cases hd : downQ (mayB l c) 78 = 0
    · exact hd
    · rw [if_pos hd] at hf
      have := downQ_le (mayB l c) 78
      rw [if_neg (by omega)] at h78
      omega
  by_cases h : k ≤ 78
  · exact downQ_zero hd k h2 h
  · rw [if_neg (by simp [hd])] at hf
    refine upQ_before l.length _ 79 (Nat.le_refl _) (by omega) k (by omega) (by have := lineN_le l c; unfold lineN at this; omega) fun hne => ?_
    rw [← hf] at hne ⊢
    rw [if_neg hne] at hk; exact hk
def solidB (l : List UInt8) : Bool := l.any fun c => !blankC c
/-- A line that is written, or the empty one behind the last. -/
def FoldAt (F : Nat) (m : List UInt8) (i f : Nat) : Prop :=
  (f ≤ i + 1 ∧ (i < f → ∀ h : i < m.length, m[i] = 10)) ∧
  ((∃ l c, m.drop f = writtenL l c ++ [13, 10] ∧ (c = if f = 0 then F + 2 else 0) ∧ 13 ∉ l ∧ i ≤ f + lineN l c) ∨
   (m.drop f = [13, 10] ∧ f ≠ 0 ∧ i ≤ f) ∨ (f = m.length ∧ i + 1 = m.length))
theorem FoldAt.zero {l : List UInt8} {F : Nat} (h : 13 ∉ l) : FoldAt F (writtenL l (F + 2) ++ [13, 10]) 0 0 :=
  ⟨⟨by omega, fun h => by omega⟩, .inl ⟨l, F + 2, rfl, rfl, h, by omega⟩⟩
theorem drop_at {m a : List UInt8} {f : Nat} (h : m.drop f = a) {j : Nat} (hj : f + j < m.length) (hj2 : j < a.length) : m[f + j] = a[j] := by
  subst h
  rw [List.getElem_drop]
theorem FoldAt.go {F : Nat} {m : List UInt8} {i f : Nat} (h : FoldAt F m i f) (hi : i + 1 < m.length) (hn : ¬ (m[i] = 13 ∧ m[i + 1] = 10)) : FoldAt F m (i + 1) f := by
  obtain ⟨⟨h1, _⟩, h2⟩ := h
  refine ⟨⟨by omega, fun h => by omega⟩, ?_⟩
  rcases h2 with ⟨l, c, e1, e2, e3, e4⟩ | ⟨e1, e2, e3⟩ | ⟨e1, e2⟩
  · refine .inl ⟨l, c, e1, e2, e3, ?_⟩
    by_cases he : i = f + lineN l c
    · exfalso
      have hle := lineN_le l c
      rw [writtenL_line] at e1
      have hL : (l.take (lineN l c)).length = lineN l c := by rw [List.length_take]; omega
      generalize hg : l.take (lineN l c) = L at *
      rw [← hL] at he
      subst he
      refine hn ⟨?_, ?_⟩
      · rw [drop_at e1 (by omega) (by simp)]; simp
      · have := drop_at e1 (j := L.length + 1) (by omega) (by simp)
        rw [show m[f + L.length + 1] = m[f + (L.length + 1)] from rfl, this]; simp
    · omega
  · by_cases he : i = f
    · exfalso
      subst he
      refine hn ⟨?_, ?_⟩
      · have := drop_at e1 (j := 0) (by omega) (by simp)
        simpa using this
      · have := drop_at e1 (j := 1) (by omega) (by simp)
        simpa using this
    · exact .inr (.inl ⟨e1, e2, by omega⟩)
  · omega
theorem any_take {l : List UInt8} {n : Nat} {p : UInt8 → Bool} (h : (l.take n).any p = true) : l.any p = true := by
  rw [List.any_eq_true] at h ⊢
  obtain ⟨x, hx, hp⟩ := h
  exact ⟨x, List.mem_of_mem_take hx, hp⟩
theorem FoldAt.hit {F : Nat} {m : List UInt8} {i f : Nat} (h : FoldAt F m i f) (hi : i + 1 < m.length) (h13 : m[i] = 13) (h10 : m[i + 1] = 10) :
    f ≤ i ∧ FoldAt F m (i + 1) (i + 2) ∧ (78 < i - f → ∀ k, (if f = 0 then F + 2 else f) < k → ∀ hk : k < i, m[k] = 32 → 2 ≤ k - f → solidB ((m.drop k).take (i - k)) = false) := by
  obtain ⟨⟨h1, h2⟩, h3⟩ := h
  have hfi : f ≤ i := by
    by_cases hlt : i < f
    · have := h2 hlt (by omega)
      rw [h13] at this; cases this
    · omega
  refine ⟨hfi, ?_⟩
  rcases h3 with ⟨l, c, e1, e2, e3, e4⟩ | ⟨e1, e2, e3⟩ | ⟨e1, e2⟩
  · have hle := lineN_le l c
    have hnf := fun (h78 : 78 < lineN l c) k h2 hk => line_no_fold (k := k) h78 h2 hk
    rw [writtenL_line] at e1
    have hL : (l.take (lineN l c)).length = lineN l c := by rw [List.length_take]; omega
    have hie : i = f + lineN l c := by
      by_cases he : i = f + lineN l c
      · exact he
      · exfalso
        obtain ⟨j, rfl⟩ : ∃ j, i = f + j := ⟨i - f, by omega⟩
        have hj : j < (l.take (lineN l c)).length := by omega
        rw [drop_at e1 (by omega) (by simp; omega), getElem_left3 hj] at h13
        exact e3 (List.mem_of_mem_take (h13 ▸ List.getElem_mem hj))
    have hml : m.length = f + (lineN l c + 2 + (restL l c).length + 2) := by have := congrArg List.length e1; simp at this; omega
    have hdr : m.drop (i + 2) = restL l c ++ [13, 10] := by
      rw [show i + 2 = f + (lineN l c + 2) by omega, ← List.drop_drop, e1, List.append_assoc, List.drop_append_of_le_length (by simp; omega)]
      rw [List.drop_of_length_le (by simp; omega)]; rfl
    refine ⟨⟨⟨by omega, fun _ _ => h10⟩, ?_⟩, fun h78 k hk1 hk2 hk3 hk4 => ?_⟩
    · unfold restL at hdr
      by_cases h0 : foldN l c = 0
      · rw [if_pos h0] at hdr
        exact .inr (.inl ⟨hdr, by omega, by omega⟩)
      · rw [if_neg h0] at hdr
        exact .inl ⟨_, _, hdr, by rw [if_neg (by omega)], fun hm => e3 (List.mem_of_mem_drop hm), by omega⟩
    · obtain ⟨j, rfl⟩ : ∃ j, k = f + j := ⟨k - f, by omega⟩
      have hj : j < (l.take (lineN l c)).length := by omega
      have hm := hnf (by omega) j (by omega) (by omega)
      rw [drop_at e1 (by omega) (by simp; omega), getElem_left3 hj, List.getElem_take] at hk3
      have hcj : c < j := by
        rw [e2]
        split <;> rename_i hf0
        · rw [if_pos hf0] at hk1; omega
        · rw [if_neg hf0] at hk1; omega
      have htk : (m.drop (f + j)).take (i - (f + j)) = (l.drop j).take (lineN l c - j) := by
        rw [← List.drop_drop, e1, List.append_assoc, List.append_assoc, List.drop_append_of_le_length (by omega), List.take_append_of_le_length (by simp; omega), List.drop_take, List.take_take]
        congr 1
        omega
      rw [htk]
      cases hs : solidB ((l.drop j).take (lineN l c - j)) with
      | false => rfl
      | true =>
        unfold mayB at hm
        rw [List.getD_eq_getElem?_getD, List.getElem?_eq_getElem (by omega), Option.getD_some, hk3, decide_eq_true hcj, any_take hs] at hm
        simp at hm
  · have hl2 : m.length = f + 2 := by have := congrArg List.length e1; simp at this; omega
    have : i = f := by omega
    subst this
    exact ⟨⟨⟨by omega, fun _ _ => h10⟩, .inr (.inr ⟨by omega, by omega⟩)⟩, fun h => by omega⟩
  · omega
end Go.Proofs.YtpoaegcaaflogaaDoor
