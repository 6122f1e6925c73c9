/-
  What is written is read: the plain laws of mailboxes, no program.
-/
import Derived.Test.YtnbllnnbdopjoaaRefAtomLaw
import Derived.Test.YtnbllnnbdopjoaaAddrText
import Derived.Test.YtnbllnnbdopjoaaRefRead0
namespace Go.Proofs.Ytnbllnnbdopjoaa

theorem split_at : ∀ l : List UInt8, (∀ q ∈ splitP 46 l, q.all atomB = true) → l.all atCh = true
  | [], _ => rfl
  | x :: r, h => by
    rw [splitP] at h
    split at h
    · rename_i hx
      rw [List.all_cons, hx, split_at r (fun q hq => h q (by simp [hq]))]; rfl
    · cases hL : splitP 46 r with
      | nil => exact absurd hL (splitP_ne _ _)
      | cons a t =>
        rw [hL] at h
        have ha := h (x :: a) (by simp [prep])
        rw [List.all_cons, Bool.and_eq_true] at ha
        have hr := split_at r (fun q hq => by
          rw [hL] at hq
          rcases List.mem_cons.1 hq with rfl | hq
          · exact ha.2
          · exact h q (by simp [prep, hq]))
        rw [List.all_cons, hr]
        unfold atCh
        rw [ha.1]; rfl
theorem ratoms_all {l : List UInt8} (h : ratomsB l = true) : l.all atCh = true := split_at l (fun q hq => by
  have := List.all_eq_true.1 h q hq
  unfold partB at this
  rw [Bool.and_eq_true] at this
  exact this.1)
theorem ratoms_law (l : List UInt8) : atomsP l = some l.length ↔ ratomsB l = true := by
  rw [atoms_law l.length l (Nat.le_refl _)]
  constructor
  · intro h
    split at h
    · rename_i hl
      have e : spanLen atCh l = l.length := Option.some.inj h
      rwa [e, List.take_of_length_le (Nat.le_refl _)] at hl
    · cases h
  · intro h
    have e : spanLen atCh l = l.length := span_all _ _ (ratoms_all h)
    rw [e, List.take_of_length_le (Nat.le_refl _), if_pos h]
/-- What stands behind does not count: it begins with another sign. -/
def Ends (f : UInt8 → Bool) (r : List UInt8) : Prop := ∀ c t, r = c :: t → f c = false
theorem span_ends (f : UInt8 → Bool) {r : List UInt8} (hr : Ends f r) : ∀ l : List UInt8, l.all f = true → spanLen f (l ++ r) = l.length
  | [], _ => by
    cases r with
    | nil => rfl
    | cons c t => rw [List.nil_append, spanLen, hr c t rfl]; rfl
  | c :: l, h => by
    rw [List.all_cons, Bool.and_eq_true] at h
    rw [List.cons_append, spanLen, if_pos h.1, span_ends f hr l h.2]; rfl
theorem atoms_ends {l r : List UInt8} (h : atomsP l = some l.length) (hr : Ends atCh r) : atomsP (l ++ r) = some l.length := by
  have h1 := (ratoms_law l).1 h
  rw [atoms_law _ _ (Nat.le_refl _), span_ends atCh hr l (ratoms_all h1)]
  rw [List.take_left, if_pos h1]
theorem dom_ends {l r : List UInt8} (h : domP l = some l.length) (hr : Ends domCh r) : domP (l ++ r) = some l.length := by
  have h1 := (labels_law l).1 h
  have hall : l.all domCh = true := split_dom l (fun q hq => by
    have := List.all_eq_true.1 h1 q hq
    unfold rlabelB at this
    rw [Bool.and_eq_true] at this
    exact this.1)
  rw [dom_law _ _ (Nat.le_refl _), span_ends domCh hr l hall]
  rw [List.take_left, if_pos h1]
theorem quoted_back (r : List UInt8) : ∀ x : List UInt8, x.all plainB = true → quotedP (escL x ++ 34 :: r) = some (x, (escL x).length + 1)
  | [], _ => by
    cases r with
    | nil => rfl
    | cons d t => rfl
  | c :: x, h => by
    rw [List.all_cons, Bool.and_eq_true] at h
    have ih := quoted_back r x h.2
    have hne : escL x ++ 34 :: r ≠ [] := by simp
    rw [escL]
    by_cases hc : c = 34 ∨ c = 92
    · rw [if_pos hc]
      show quotedP (92 :: c :: (escL x ++ 34 :: r)) = _
      rw [quotedP, if_neg (by decide), if_pos rfl, if_pos h.1, ih]
      simp
    · rw [if_neg hc]
      have h34 : ¬ c = 34 := fun e => hc (.inl e)
      have h92 : ¬ c = 92 := fun e => hc (.inr e)
      show quotedP (c :: (escL x ++ 34 :: r)) = _
      cases hl : escL x ++ 34 :: r with
      | nil => exact absurd hl hne
      | cons d t =>
        rw [quotedP, if_neg h34, if_neg h92, if_pos h.1, ← hl, ih]
        rfl
theorem written_back {x : ByteArray} (r : List UInt8) (h0 : x.data.toList ≠ []) (hp : x.data.toList.all plainB = true) (hr : Ends atCh r) : localP ((writtenS x).data.toList ++ r) = some (x.data.toList, (writtenS x).size) := by
  have hlen : x.data.toList.length = x.size := by simp
  unfold writtenS
  by_cases ha : atomsP x.data.toList = some x.size
  · rw [if_pos ha]
    unfold localP
    have h34 : ¬ (x.data.toList ++ r).getD 0 0 = 34 := by
      intro e
      cases hx : x.data.toList with
      | nil => exact h0 hx
      | cons c t =>
        rw [hx] at e
        have e : c = 34 := e
        rw [hx] at ha
        unfold atomsP at ha
        rw [spanLen, e] at ha
        simp [show atomB 34 = false by decide] at ha
    rw [if_neg h34, atoms_ends (by rw [hlen]; exact ha) hr, hlen]
    simp
  · rw [if_neg ha]
    show localP (34 :: (escL x.data.toList ++ [34]) ++ r) = _
    unfold localP
    rw [if_pos (by rfl)]
    have e : (34 :: (escL x.data.toList ++ [34]) ++ r).drop 1 = escL x.data.toList ++ 34 :: r := by simp
    rw [e, quoted_back r _ hp]
    simp only [if_neg h0]
    congr 2
    show _ = (34 :: (escL x.data.toList ++ [34])).length
    simp; omega
/-- A right mailbox that is written, whatever stands behind. -/
theorem text_back {x y : ByteArray} (r : List UInt8) (hg : goodB x y = true) (hr : Ends domCh r) : mailboxP ((textS x y).data.toList ++ r) = some (x.data.toList, y.size, (textS x y).size) := by
  have hly : y.data.toList.length = y.size := by simp
  have hg' := hg
  unfold goodB at hg'
  simp only [Bool.and_eq_true, Bool.not_eq_true', decide_eq_true_eq] at hg'
  obtain ⟨hp, ⟨h0, _⟩, hd⟩ := hg'
  have h0 : x.data.toList ≠ [] := by intro e; rw [e] at h0; cases h0
  unfold domainB at hd
  simp only [Bool.and_eq_true, beq_iff_eq, decide_eq_true_eq] at hd
  have e : (textS x y).data.toList = (writtenS x).data.toList ++ (64 :: y.data.toList) := by
    unfold textS; rw [if_pos hg]; simp
  have es : (textS x y).size = (writtenS x).size + (1 + y.size) := by
    have : (textS x y).data.toList.length = (textS x y).size := by simp
    rw [← this, e]; simp; omega
  have hw : (writtenS x).data.toList.length = (writtenS x).size := by simp
  unfold mailboxP
  rw [e, List.append_assoc, written_back _ h0 hp (by intro c t h; cases h; decide)]
  simp only []
  rw [← hw]
  have g1 : ((writtenS x).data.toList ++ (64 :: y.data.toList ++ r)).getD (writtenS x).data.toList.length 0 = 64 := by simp [List.getD]
  have g2 : ((writtenS x).data.toList ++ (64 :: y.data.toList ++ r)).drop ((writtenS x).data.toList.length + 1) = y.data.toList ++ r := by
    rw [← List.drop_drop, List.drop_left]; simp
  rw [if_pos g1, g2, dom_ends hd.1 hr, hly, es, hw]
  simp; omega
theorem good_sizes {x y : ByteArray} (hg : goodB x y = true) : x.size ≤ 64 ∧ y.size ≤ 64 := by
  unfold goodB at hg
  simp only [Bool.and_eq_true, Bool.not_eq_true', decide_eq_true_eq] at hg
  obtain ⟨_, ⟨_, h1⟩, hd⟩ := hg
  unfold domainB at hd
  simp only [Bool.and_eq_true, beq_iff_eq, decide_eq_true_eq] at hd
  have := hd.2
  simp at this
  exact ⟨h1, this⟩
theorem addr_end {x y : ByteArray} (hg : goodB x y = true) (r : List UInt8) : ((textS x y).data.toList ++ r).drop ((textS x y).size - y.size) = y.data.toList ++ r ∧ y.size ≤ (textS x y).size := by
  have e : textS x y = (writtenS x ++ ⟨#[64]⟩) ++ y := by unfold textS; rw [if_pos hg]
  have hs : (textS x y).size = (writtenS x ++ ⟨#[64]⟩).size + y.size := by rw [e, ByteArray.size_append]
  have h3 : (textS x y).size - y.size = (writtenS x ++ ⟨#[64]⟩).data.toList.length := by
    have : (writtenS x ++ ⟨#[64]⟩).data.toList.length = (writtenS x ++ ⟨#[64]⟩).size := by simp; rfl
    rw [this]; omega
  have h4 : (textS x y).data.toList = (writtenS x ++ ⟨#[64]⟩).data.toList ++ y.data.toList := by rw [e]; simp
  exact ⟨by rw [h3, h4, List.append_assoc, List.drop_left], by omega⟩
theorem ext_at (S : ByteArray) (a n : Nat) (y : ByteArray) (r : List UInt8) (h : S.data.toList.drop a = y.data.toList ++ r) (hn : n = y.size) : S.extract a (a + n) = y := by
  rw [extract_list, h, hn]
  have : y.data.toList.length = y.size := by simp
  rw [← this, List.take_left]
theorem tail_back {x y : ByteArray} (hg : goodB x y = true) (S : ByteArray) (K : Nat) (b : List UInt8) (h : S.data.toList.drop K = (textS x y).data.toList ++ 62 :: b) : tailP S K false = (x, y, ((K + (textS x y).size : Nat) : Int) + 1, 0) := by
  have hz := good_sizes hg
  have hlx : x.data.toList.length = x.size := by simp
  have hte := addr_end hg (62 :: b)
  unfold tailP
  rw [h, text_back _ hg (by intro c t e; cases e; decide)]
  simp only [Option.map_some]
  have g : S.data.toList.getD (K + (textS x y).size) 0 = 62 := by
    have : S.data.toList.getD (K + (textS x y).size) 0 = (S.data.toList.drop K).getD (textS x y).size 0 := by simp [List.getD]
    rw [this, h]
    have hl : (textS x y).data.toList.length = (textS x y).size := by simp
    rw [← hl]
    simp [List.getD]
  rw [if_pos g, hlx]
  rw [if_neg (by simp; omega)]
  have hx : S.extract (K + (textS x y).size - y.size) (K + (textS x y).size) = y := by
    have h1 := ext_at S (K + (textS x y).size - y.size) y.size y (62 :: b) (by
      rw [show K + (textS x y).size - y.size = K + ((textS x y).size - y.size) by omega, ← List.drop_drop, h, hte.1]) rfl
    rwa [show K + (textS x y).size - y.size + y.size = K + (textS x y).size by omega] at h1
  rw [hx]
theorem local_at (l : List UInt8) (h : l.getD 0 0 = 64) : localP l = none := by
  unfold localP
  rw [h, if_neg (by decide)]
  unfold atomsP
  cases l with
  | nil => simp [List.getD] at h
  | cons c r =>
    have h : c = 64 := h
    rw [h, spanLen]
    simp [show atomB 64 = false by decide]
theorem text_first {x y : ByteArray} (hg : goodB x y = true) (r : List UInt8) (hr : Ends domCh r) : ¬ ((textS x y).data.toList ++ r).getD 0 0 = 64 := by
  intro e
  have := text_back r hg hr
  unfold mailboxP at this
  rw [local_at _ e] at this
  cases this
theorem path_read {x y : ByteArray} (hg : goodB x y = true) (behind : ByteArray) : readP (pathS x y ++ behind) false = (x, y, ((pathS x y).size : Int), 0) := by
  have h0 : ¬ (x.toList = [] ∧ y.toList = []) := by
    rintro ⟨h, _⟩
    unfold goodB at hg
    have hxl : x.toList = x.data.toList := ByteArray.toList_mk x.data.toList
    rw [← hxl, h] at hg
    simp at hg
  have e : pathS x y = ⟨#[60]⟩ ++ textS x y ++ ⟨#[62]⟩ := by unfold pathS; rw [if_neg h0, if_pos hg]
  have el : (pathS x y ++ behind).data.toList = 60 :: ((textS x y).data.toList ++ 62 :: behind.data.toList) := by rw [e]; simp
  have hr : Ends domCh (62 :: behind.data.toList) := by intro c t h; cases h; decide
  have h1 : ¬ (pathS x y ++ behind).data.toList.getD 1 0 = 64 := by
    rw [el]; exact text_first hg _ hr
  rw [readP_tail (null := false) rfl (by rw [el]; rfl) _ rfl, if_neg h1]
  simp only [routedP]
  rw [tail_back hg _ 1 behind.data.toList (by rw [el]; rfl)]
  have hs : (pathS x y).size = 1 + (textS x y).size + 1 := by rw [e]; simp [ByteArray.size_append]; rfl
  rw [hs]
  rfl
theorem parse_back {x y : ByteArray} (hg : goodB x y = true) : parseP (textS x y) = (x, y, 0) := by
  have hb := text_back [] hg (by intro c t h; cases h)
  rw [List.append_nil] at hb
  have hz := good_sizes hg
  have hlx : x.data.toList.length = x.size := by simp
  unfold parseP
  rw [hb]
  simp only [if_true]
  rw [hlx, if_neg (by omega)]
  refine Prod.ext_iff.2 ⟨?_, Prod.ext_iff.2 ⟨?_, rfl⟩⟩
  · rfl
  · show (textS x y).extract ((textS x y).size - y.size) (textS x y).size = y
    have hte := addr_end hg []
    have h1 := ext_at (textS x y) ((textS x y).size - y.size) y.size y [] (by have := hte.1; rwa [List.append_nil] at this) rfl
    rwa [show (textS x y).size - y.size + y.size = (textS x y).size by omega] at h1
end Go.Proofs.Ytnbllnnbdopjoaa
