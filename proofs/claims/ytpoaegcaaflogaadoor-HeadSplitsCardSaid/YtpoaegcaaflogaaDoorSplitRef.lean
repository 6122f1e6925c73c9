/-
  The reference's Split is splitQ: in plain lists.
-/
import Derived.Test.YtpoaegcaaflogaaDoorHeadPlain
namespace Go.Proofs.YtpoaegcaaflogaaDoor

theorem contQ_pre : ∀ (m : Nat) (a v r : List UInt8), r.length ≤ m → contQ (a ++ v) r = (contQ v r).map fun x => (a ++ x.1, x.2)
  | 0, a, v, r, h => by
    have : r = [] := List.eq_nil_of_length_eq_zero (by omega)
    subst this
    rw [contQ_stop rfl, contQ_stop rfl]; rfl
  | m + 1, a, v, r, h => by
    cases hb : headBlank r
    · rw [contQ_stop hb, contQ_stop hb]; rfl
    · cases he : endQ false r with
      | none => rw [contQ_none hb he, contQ_none hb he]; rfl
      | some n =>
        have h1 := endQ_le _ _ _ he
        rw [contQ_go hb he, contQ_go hb he, List.append_assoc]
        exact contQ_pre m a _ _ (by simp; omega)
theorem contQ_shape {r t r' : List UInt8} (h : contQ [] r = some (t, r')) : t = [] ∨ ∃ c b, blankC c = true ∧ t = c :: b := by
  cases hb : headBlank r
  · rw [contQ_stop hb] at h; cases h; exact .inl rfl
  · cases he : endQ false r with
    | none => rw [contQ_none hb he] at h; cases h
    | some n =>
      right
      rw [contQ_go hb he, List.nil_append] at h
      have h2 := contQ_pre _ (r.take (n - 2)) [] (r.drop n) (Nat.le_refl _)
      rw [List.append_nil, h] at h2
      cases r with
      | nil => cases hb
      | cons c r1 =>
        rw [headBlank_cons] at hb
        have hn : 3 ≤ n := by
          have h3 := endQ_two_le _ _ he
          cases r1 with
          | nil => simp [endQ] at he
          | cons d r2 =>
            rw [crlf_two] at he
            split at he
            · next hh => obtain ⟨rfl, _⟩ := hh; cases hb
            · cases hx : endQ false (d :: r2) with
              | none => rw [hx] at he; cases he
              | some k => rw [hx] at he; have := endQ_two_le _ _ hx; cases he; show 3 ≤ 1 + k; omega
        obtain ⟨p, hp⟩ : ∃ p, n - 2 = p + 1 := ⟨n - 3, by omega⟩
        rw [hp, List.take_succ_cons] at h2
        cases hx : contQ [] (List.drop n (c :: r1)) with
        | none => rw [hx] at h2; cases h2
        | some x => rw [hx] at h2; cases h2; exact ⟨c, _, hb, rfl⟩
theorem index_none : ∀ {t : List UInt8}, (∀ c ∈ t, c ≠ 58) → Lib.index t [58] = -1
  | [], _ => by simp [Lib.index]
  | c :: r, h => by
    have ih := index_none (t := r) fun d hd => h d (List.mem_cons_of_mem _ hd)
    have hc := h c (List.mem_cons_self ..)
    rw [Lib.index, if_neg (by simp [List.isPrefixOf]; exact fun e => hc e.symm), ih]
    rfl
theorem cut_none {t : List UInt8} (h : ∀ c ∈ t, c ≠ 58) : Lib.cut t [58] = (t, [], false) := by
  unfold Lib.cut
  rw [index_none h]
  rfl
/-- A field of a text that is one line. -/
def fieldOf (t : List UInt8) : Option LFld := if ((Lib.cut t [58]).2.2 && (nameB (Lib.cut t [58]).1 && valueB (Lib.trimLeftS (Lib.cut t [58]).2.1 [32, 9]))) = true then some ((Lib.cut t [58]).1, Lib.trimLeftS (Lib.cut t [58]).2.1 [32, 9]) else none
theorem fieldOf_at {a b : List UInt8} (h : ∀ c ∈ a, c ≠ 58) : fieldOf (a ++ 58 :: b) = if (nameB a && valueB (Lib.trimLeftS b [32, 9])) = true then some (a, Lib.trimLeftS b [32, 9]) else none := by
  unfold fieldOf; rw [cut_colon a b h]; simp only [Bool.true_and]
theorem fieldOf_none {t : List UInt8} (h : ∀ c ∈ t, c ≠ 58) : fieldOf t = none := by
  unfold fieldOf; rw [cut_none h]; simp
theorem first_colon : ∀ t : List UInt8, (∀ c ∈ t, c ≠ 58) ∨ ∃ a b, t = a ++ 58 :: b ∧ ∀ c ∈ a, c ≠ 58
  | [] => .inl fun _ h => by cases h
  | c :: r => by
    by_cases hc : c = 58
    · subst hc; exact .inr ⟨[], r, rfl, fun _ h => by cases h⟩
    · rcases first_colon r with h | ⟨a, b, rfl, h⟩
      · exact .inl fun d hd => by rcases List.mem_cons.1 hd with rfl | h2; exact hc; exact h d h2
      · exact .inr ⟨c :: a, b, rfl, fun d hd => by rcases List.mem_cons.1 hd with rfl | h2; exact hc; exact h d h2⟩
theorem name_blank {a b : List UInt8} {c : UInt8} (h : blankC c = true) : nameB (a ++ c :: b) = false := by
  have hc : nameC c = false := by
    unfold blankC at h
    unfold nameC
    rw [decide_eq_true_eq] at h
    rw [decide_eq_false_iff_not]; omega
  unfold nameB
  simp [List.all_append, List.all_cons, hc]
theorem next_ref (L0 r0 : List UInt8) : nextIn (Lib.cut L0 [58]) r0 = (contQ L0 r0).bind fun x => (fieldOf x.1).map fun f => (f, x.2) := by
  rcases first_colon L0 with h | ⟨a, b, rfl, h⟩
  · rw [cut_none h]
    have h2 := contQ_pre _ L0 [] r0 (Nat.le_refl _)
    rw [List.append_nil] at h2
    cases hx : contQ [] r0 with
    | none => rw [nextIn_none hx, h2, hx]; rfl
    | some x =>
      obtain ⟨v, r⟩ := x
      rw [nextIn_some hx, h2, hx]
      show _ = (fieldOf (L0 ++ v)).map _
      have hf : fieldOf (L0 ++ v) = none := by
        rcases contQ_shape hx with rfl | ⟨c, t, hc, rfl⟩
        · rw [List.append_nil]; exact fieldOf_none h
        · have h58 : c ≠ 58 := by intro e; subst e; cases hc
          rcases first_colon t with h3 | ⟨a, b, rfl, h3⟩
          · refine fieldOf_none fun d hd => ?_
            rcases List.mem_append.1 hd with h4 | h4
            · exact h d h4
            · rcases List.mem_cons.1 h4 with rfl | h5
              · exact h58
              · exact h3 d h5
          · rw [show L0 ++ c :: (a ++ 58 :: b) = (L0 ++ c :: a) ++ 58 :: b by simp, fieldOf_at (fun d hd => ?_), name_blank hc]
            · simp
            · rcases List.mem_append.1 hd with h4 | h4
              · exact h d h4
              · rcases List.mem_cons.1 h4 with rfl | h5
                · exact h58
                · exact h3 d h5
      rw [hf]; simp
  · rw [cut_colon a b h]
    have h2 := contQ_pre _ (a ++ [58]) b r0 (Nat.le_refl _)
    rw [List.append_assoc, List.singleton_append] at h2
    cases hx : contQ b r0 with
    | none => rw [nextIn_none hx, h2, hx]; rfl
    | some x =>
      obtain ⟨v, r⟩ := x
      rw [nextIn_some hx, h2, hx]
      show _ = (fieldOf (a ++ [58] ++ v)).map _
      rw [List.append_assoc, List.singleton_append, fieldOf_at h]
      simp only [Bool.true_and]
      split <;> rfl
theorem prefix_two {l : List UInt8} : Lib.hasPrefix l [13, 10] = true ↔ endQ false l = some 2 := by
  match l with
  | [] => simp [Lib.hasPrefix, endQ, List.isPrefixOf]
  | [c] => simp [Lib.hasPrefix, endQ, List.isPrefixOf]
  | c :: d :: r =>
    rw [crlf_two]
    unfold Lib.hasPrefix
    simp only [List.isPrefixOf, Bool.and_true, Bool.and_eq_true, beq_iff_eq]
    constructor
    · rintro ⟨rfl, rfl⟩; simp
    · intro h
      split at h
      · next hh => exact ⟨hh.1.symm, hh.2.symm⟩
      · exfalso
        cases hx : endQ false (d :: r) with
        | none => rw [hx] at h; cases h
        | some k => rw [hx] at h; have := endQ_two_le _ _ hx; simp at h; omega
theorem loopQ_end {acc : List LFld} {l : List UInt8} (h : endQ false l = none) : loopQ acc l = none := by
  refine loopQ_none ?_ (by unfold nextQ; rw [h])
  cases hp : Lib.hasPrefix l [13, 10] with
  | false => rfl
  | true => rw [prefix_two.1 hp] at h; cases h
theorem loopQ_two {acc : List LFld} {l : List UInt8} (h : endQ false l = some 2) : loopQ acc l = some (acc, l.drop 2) := loopQ_done (prefix_two.2 h)
theorem loopQ_next {acc : List LFld} {l : List UInt8} {n : Nat} (h : endQ false l = some n) (hn : n ≠ 2) : loopQ acc l = ((contQ (l.take (n - 2)) (l.drop n)).bind fun x => (fieldOf x.1).map fun f => (f, x.2)).bind fun y => loopQ (acc ++ [y.1]) y.2 := by
  have hp : Lib.hasPrefix l [13, 10] = false := by
    cases hp : Lib.hasPrefix l [13, 10] with
    | false => rfl
    | true => rw [prefix_two.1 hp] at h; cases h; exact absurd rfl hn
  have hq : nextQ l = nextIn (Lib.cut (l.take (n - 2)) [58]) (l.drop n) := by unfold nextQ; rw [h]
  rw [next_ref] at hq
  rw [← hq]
  cases hx : nextQ l with
  | none => rw [loopQ_none hp hx]; rfl
  | some y => obtain ⟨f, r⟩ := y; rw [loopQ_go hp hx]; rfl
theorem trim_go {c : UInt8} {t : List UInt8} (h : blankC c = true) : Lib.trimLeftS (c :: t) [32, 9] = Lib.trimLeftS t [32, 9] := by
  unfold Lib.trimLeftS
  rw [List.dropWhile_cons_of_pos (by rw [trim_contains]; exact h)]
theorem trim_stop {c : UInt8} {t : List UInt8} (h : blankC c = false) : Lib.trimLeftS (c :: t) [32, 9] = c :: t := by
  unfold Lib.trimLeftS
  rw [List.dropWhile_cons_of_neg (by rw [trim_contains, h]; simp)]
end Go.Proofs.YtpoaegcaaflogaaDoor
