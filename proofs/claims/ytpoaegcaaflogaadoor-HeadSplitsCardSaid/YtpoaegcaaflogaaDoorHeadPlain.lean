/-
  Plain law: the lines that a field is written in come back as one.
-/
import Derived.Test.YtpoaegcaaflogaaDoorHeadSplit
import Derived.Test.YtpoaegcaaflogaaDoorHeadBuild2
namespace Go.Proofs.YtpoaegcaaflogaaDoor
open Go.ChangeShapes Go.WideShapes Go.ChangeAt Go.RowKit

theorem endQ_line (r : List UInt8) : ∀ a : List UInt8, (∀ c ∈ a, c ≠ 13) → endQ false (a ++ 13 :: 10 :: r) = some (a.length + 2)
  | [], _ => by show endQ false (13 :: 10 :: r) = _; rw [crlf_two, if_pos ⟨rfl, rfl⟩]; rfl
  | [c], h => by
    show endQ false (c :: 13 :: 10 :: r) = _
    rw [crlf_two, if_neg (fun e => h c (by simp) e.1), crlf_two, if_pos ⟨rfl, rfl⟩]; rfl
  | c :: d :: a, h => by
    have ih := endQ_line r (d :: a) (fun x hx => h x (List.mem_cons_of_mem _ hx))
    show endQ false (c :: d :: (a ++ 13 :: 10 :: r)) = _
    rw [crlf_two, if_neg (fun e => h c (by simp) e.1)]
    rw [List.cons_append] at ih
    rw [ih]
    simp; omega
theorem mayB_blank {l : List UInt8} {f k : Nat} (h : mayB l f k = true) : l.getD k 0 = 32 := by
  unfold mayB at h
  simp at h
  simpa using h.1
theorem downQ_holds (p : Nat → Bool) : ∀ k, downQ p k ≠ 0 → p (downQ p k) = true
  | 0, h => absurd (by simp [downQ]) h
  | 1, h => absurd (by simp [downQ]) h
  | k + 2, h => by
    by_cases hp : p (k + 2) = true
    · rw [downQ_yes (by omega) hp]; exact hp
    · rw [downQ_no (by omega) (by simpa using hp)] at h ⊢
      exact downQ_holds p (k + 1) h
theorem upQ_holds (p : Nat → Bool) (n : Nat) : ∀ m k, n - k ≤ m → upQ p n k ≠ 0 → p (upQ p n k) = true
  | 0, k, h, hne => by rw [upQ_end (by omega)] at hne; exact absurd rfl hne
  | m + 1, k, h, hne => by
    by_cases hk : k < n
    · cases hp : p k
      · rw [upQ_no hk hp] at hne ⊢
        exact upQ_holds p n m (k + 1) (by omega) hne
      · rw [upQ_yes hk hp]; exact hp
    · rw [upQ_end hk] at hne; exact absurd rfl hne
theorem foldN_holds {l : List UInt8} {f : Nat} (h : foldN l f ≠ 0) : mayB l f (foldN l f) = true := by
  unfold foldN at h ⊢
  by_cases h78 : l.length ≤ 78
  · rw [if_pos h78] at h; exact absurd rfl h
  · rw [if_neg h78] at h ⊢
    by_cases hd : downQ (mayB l f) 78 ≠ 0
    · rw [if_pos hd]; exact downQ_holds _ _ hd
    · rw [if_neg hd] at h ⊢
      exact upQ_holds _ _ _ 79 (Nat.le_refl _) h
theorem headBlank_app {l : List UInt8} (h : headBlank l = true) (r : List UInt8) : headBlank (l ++ r) = true := by
  cases l with
  | nil => exact absurd h (by decide)
  | cons c t => exact h
theorem headBlank_take {l : List UInt8} (h : headBlank l = true) {p : Nat} (hp : 1 ≤ p) : headBlank (l.take p) = true := by
  cases l with
  | nil => exact absurd h (by decide)
  | cons c t =>
    obtain ⟨k, rfl⟩ : ∃ k, p = k + 1 := ⟨p - 1, by omega⟩
    exact h
theorem headBlank_drop {l : List UInt8} {p : Nat} (hp : p < l.length) (h : l.getD p 0 = 32) : headBlank (l.drop p) = true := by
  rw [List.drop_eq_getElem_cons hp]
  have : l[p] = 32 := by simpa [hp] using h
  rw [this]
  show (!(!blankC 32)) = true
  decide
theorem cut_line (a r : List UInt8) : (a ++ 13 :: 10 :: r).take (a.length + 2 - 2) = a ∧ (a ++ 13 :: 10 :: r).drop (a.length + 2) = r := by
  constructor
  · simp
  · simp [List.drop_append]
theorem contQ_written : ∀ (m : Nat) (l v rest : List UInt8) (f : Nat), l.length ≤ m → (∀ c ∈ l, c ≠ 13) → headBlank l = true → headBlank rest = false → contQ v (writtenL l f ++ rest) = some (v ++ l, rest)
  | 0, l, v, rest, f, hm, hc, hb, hr => by
    have : l = [] := List.length_eq_zero_iff.1 (by omega)
    subst this
    exact absurd hb (by decide)
  | m + 1, l, v, rest, f, hm, hc, hb, hr => by
    by_cases h : foldN l f = 0
    · have e : writtenL l f ++ rest = l ++ 13 :: 10 :: rest := by rw [writtenL_no h]; simp
      rw [e, contQ_go (headBlank_app hb _) (endQ_line rest l hc), (cut_line l rest).1, (cut_line l rest).2, contQ_stop hr]
    · have hbd := foldN_bd h
      have e : writtenL l f ++ rest = l.take (foldN l f) ++ 13 :: 10 :: (writtenL (l.drop (foldN l f)) 0 ++ rest) := by rw [writtenL_yes h]; simp
      rw [e, contQ_go (headBlank_app (headBlank_take hb (by omega)) _) (endQ_line _ _ (fun c hx => hc c (List.mem_of_mem_take hx))), (cut_line _ _).1, (cut_line _ _).2]
      rw [contQ_written m _ _ rest 0 (by simp; omega) (fun c hx => hc c (List.mem_of_mem_drop hx)) (headBlank_drop hbd.2 (mayB_blank (foldN_holds h))) hr]
      simp
theorem index_colon (r : List UInt8) : ∀ n : List UInt8, (∀ c ∈ n, c ≠ 58) → Lib.index (n ++ 58 :: r) [58] = n.length
  | [], _ => by show Lib.index (58 :: r) [58] = _; rw [Lib.index]; simp [List.isPrefixOf]
  | c :: n, h => by
    have ih := index_colon r n (fun x hx => h x (List.mem_cons_of_mem _ hx))
    have hc : c ≠ 58 := h c (by simp)
    show Lib.index (c :: (n ++ 58 :: r)) [58] = _
    rw [Lib.index, ih]
    have hp : ([58] : List UInt8).isPrefixOf (c :: (n ++ 58 :: r)) = false := by
      simp only [List.isPrefixOf, Bool.and_true, beq_eq_false_iff_ne]; exact fun e => hc e.symm
    rw [hp, if_neg (by simp), if_neg (by rw [beq_iff_eq]; omega)]
    simp
theorem cut_colon (n r : List UInt8) (h : ∀ c ∈ n, c ≠ 58) : Lib.cut (n ++ 58 :: r) [58] = (n, r, true) := by
  unfold Lib.cut
  rw [index_colon r n h, if_pos (by omega)]
  simp [List.drop_append]
theorem trim_value {v : List UInt8} (h : headB v = true) : Lib.trimLeftS (32 :: v) [32, 9] = v := by
  unfold Lib.trimLeftS
  rw [List.dropWhile_cons_of_pos (by decide)]
  cases v with
  | nil => rfl
  | cons c t =>
    rw [List.dropWhile_cons_of_neg]
    rw [trim_contains]
    have h2 : (!blankC c) = true := h
    simpa using h2
theorem name_free {n : List UInt8} (h : nameB n = true) : (∀ c ∈ n, c ≠ 58) ∧ (∀ c ∈ n, c ≠ 13) := by
  unfold nameB at h
  simp only [Bool.and_eq_true, List.all_eq_true] at h
  constructor
  · intro c hc e; subst e; exact absurd (h.1 _ hc) (by decide)
  · intro c hc e; subst e; exact absurd (h.1 _ hc) (by decide)
theorem value_free {v : List UInt8} (h : valueB v = true) : ∀ c ∈ v, c ≠ 13 := by
  unfold valueB at h
  simp only [Bool.and_eq_true, List.all_eq_true] at h
  intro c hc e; subst e; exact absurd (h.1 _ hc) (by decide)
theorem mayB_from {l : List UInt8} {f k : Nat} (h : mayB l f k = true) : f < k := by
  unfold mayB at h
  simp at h
  exact h.2.1
theorem next_written {n v rest : List UInt8} (hn : nameB n = true) (hv : valueB v = true) (hr : headBlank rest = false) :
    nextQ (writtenL (n ++ ([58, 32] ++ v)) (n.length + 2) ++ rest) = some ((n, v), rest) := by
  have hfree : ∀ c ∈ n ++ ([58, 32] ++ v), c ≠ 13 := by
    intro c hc
    simp only [List.mem_append] at hc
    rcases hc with hc | hc | hc
    · exact (name_free hn).2 c hc
    · intro e; subst e; exact absurd hc (by decide)
    · exact value_free hv c hc
  have hhv : headB v = true := by unfold valueB at hv; simp only [Bool.and_eq_true] at hv; exact hv.2
  have key : ∀ t, contQ t rest = some (t, rest) := fun t => contQ_stop hr
  by_cases h : foldN (n ++ ([58, 32] ++ v)) (n.length + 2) = 0
  · have e : writtenL (n ++ ([58, 32] ++ v)) (n.length + 2) ++ rest = (n ++ ([58, 32] ++ v)) ++ 13 :: 10 :: rest := by rw [writtenL_no h]; simp
    rw [e]
    unfold nextQ
    rw [endQ_line rest _ hfree]
    show nextIn (Lib.cut (((n ++ ([58, 32] ++ v)) ++ 13 :: 10 :: rest).take _) [58]) _ = _
    rw [(cut_line _ rest).1, (cut_line _ rest).2]
    rw [show n ++ ([58, 32] ++ v) = n ++ 58 :: (32 :: v) from rfl, cut_colon n _ (name_free hn).1, nextIn_some (key _), trim_value hhv, hn, hv]
    rfl
  · have hbd := foldN_bd h
    have hfr := mayB_from (foldN_holds h)
    have hbl := headBlank_drop hbd.2 (mayB_blank (foldN_holds h))
    generalize hp : foldN (n ++ ([58, 32] ++ v)) (n.length + 2) = p at *
    have e : writtenL (n ++ ([58, 32] ++ v)) (n.length + 2) ++ rest = (n ++ ([58, 32] ++ v)).take p ++ 13 :: 10 :: (writtenL ((n ++ ([58, 32] ++ v)).drop p) 0 ++ rest) := by rw [writtenL_yes (by rw [hp]; exact h), hp]; simp
    rw [e]
    unfold nextQ
    rw [endQ_line _ _ (fun c hx => hfree c (List.mem_of_mem_take hx))]
    show nextIn (Lib.cut (((n ++ ([58, 32] ++ v)).take p ++ 13 :: 10 :: _).take _) [58]) _ = _
    rw [(cut_line _ _).1, (cut_line _ _).2]
    obtain ⟨q, rfl⟩ : ∃ q, p = n.length + 2 + q := ⟨p - (n.length + 2), by omega⟩
    have et : (n ++ ([58, 32] ++ v)).take (n.length + 2 + q) = n ++ 58 :: (32 :: v.take q) := by
      rw [show n.length + 2 + q = n.length + (2 + q) by omega, List.take_length_add_append, show 2 + q = q + 1 + 1 by omega]; rfl
    have ed : (n ++ ([58, 32] ++ v)).drop (n.length + 2 + q) = v.drop q := by
      rw [show n.length + 2 + q = n.length + (2 + q) by omega, List.drop_length_add_append, show 2 + q = q + 1 + 1 by omega]; rfl
    rw [ed] at hbl
    rw [et, ed, cut_colon n _ (name_free hn).1]
    rw [nextIn_some (contQ_written _ (v.drop q) (32 :: v.take q) rest 0 (Nat.le_refl _) (fun c hx => value_free hv c (List.mem_of_mem_drop hx)) hbl hr)]
    rw [List.cons_append, List.take_append_drop, trim_value hhv, hn, hv]
    rfl
theorem written_head {c : UInt8} {t : List UInt8} (f : Nat) : ∃ r, writtenL (c :: t) f = c :: r := by
  by_cases h : foldN (c :: t) f = 0
  · rw [writtenL_no h]; exact ⟨_, rfl⟩
  · have hbd := foldN_bd h
    rw [writtenL_yes h]
    generalize foldN (c :: t) f = p at *
    obtain ⟨k, rfl⟩ : ∃ k, p = k + 1 := ⟨p - 1, by omega⟩
    exact ⟨_, rfl⟩
theorem field_head {f : Fld} (h : goodQ f = true) (X : List UInt8) : headBlank (fieldL f ++ X) = false ∧ Lib.hasPrefix (fieldL f ++ X) [13, 10] = false := by
  unfold goodQ goodF at h
  simp only [Bool.and_eq_true] at h
  have hn := h.1
  unfold fieldL
  generalize f.1.data.toList = n at *
  cases n with
  | nil => exact absurd hn (by decide)
  | cons c t =>
    have hc : nameC c = true := by
      unfold nameB at hn
      simp only [Bool.and_eq_true, List.all_eq_true] at hn
      exact hn.1 c (by simp)
    obtain ⟨r, e⟩ := written_head (c := c) (t := t ++ ([58, 32] ++ f.2.data.toList)) (f.1.size + 2)
    rw [show (c :: t) ++ ([58, 32] ++ f.2.data.toList) = c :: (t ++ ([58, 32] ++ f.2.data.toList)) from rfl, e]
    unfold nameC at hc
    simp only [decide_eq_true_eq] at hc
    constructor
    · show (!(!blankC c)) = false
      unfold blankC
      simp; omega
    · show ([13, 10] : List UInt8).isPrefixOf (c :: (r ++ X)) = false
      simp only [List.isPrefixOf, Bool.and_eq_false_iff, beq_eq_false_iff_ne]
      left
      intro e2; subst e2; exact absurd hc (by decide)
def fldL (f : Fld) : LFld := (f.1.data.toList, f.2.data.toList)
theorem loop_fields (body : List UInt8) : ∀ (fs : List Fld) (O : List UInt8) (acc : List LFld), fieldsL fs = some O → headBlank (O ++ ([13, 10] ++ body)) = false ∧ loopQ acc (O ++ ([13, 10] ++ body)) = some (acc ++ fs.map fldL, body)
  | [], O, acc, h => by
    have : O = [] := by simpa [fieldsL] using h.symm
    subst this
    refine ⟨rfl, ?_⟩
    rw [loopQ_done rfl]
    simp
  | f :: fs, O, acc, h => by
    rw [fieldsL] at h
    by_cases hg : goodQ f = true
    · rw [if_pos hg] at h
      obtain ⟨O2, h2, rfl⟩ : ∃ O2, fieldsL fs = some O2 ∧ O = fieldL f ++ O2 := by
        cases hx : fieldsL fs with
        | none => rw [hx] at h; cases h
        | some O2 => rw [hx] at h; cases h; exact ⟨O2, rfl, rfl⟩
      have ih := loop_fields body fs O2 (acc ++ [fldL f]) h2
      have hh := field_head hg (O2 ++ ([13, 10] ++ body))
      rw [List.append_assoc]
      refine ⟨hh.1, ?_⟩
      have hg2 := hg
      unfold goodQ goodF at hg2
      simp only [Bool.and_eq_true] at hg2
      have hnx := next_written hg2.1 hg2.2.1 ih.1
      rw [show f.1.data.toList.length = f.1.size by simp] at hnx
      rw [loopQ_go hh.2 hnx]
      have h3 := ih.2
      rw [show acc ++ [(f.1.data.toList, f.2.data.toList)] = acc ++ [fldL f] from rfl, h3]
      simp
    · rw [if_neg hg] at h; cases h
/-- Fields and a body that are put together come back as they were. -/
theorem split_build {fs : List Fld} {body m : List UInt8} (h : buildQ fs body = some m) : splitQ m = some (fs.map fldL, body) := by
  unfold buildQ at h
  cases hx : fieldsL fs with
  | none => rw [hx] at h; cases h
  | some O =>
    rw [hx] at h
    cases h
    unfold splitQ
    rw [if_neg (by simp)]
    have := (loop_fields body fs O [] hx).2
    simpa using this
end Go.Proofs.YtpoaegcaaflogaaDoor
