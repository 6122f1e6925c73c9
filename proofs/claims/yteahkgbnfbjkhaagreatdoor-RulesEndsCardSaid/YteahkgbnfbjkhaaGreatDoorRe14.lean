/-
  Phase.
-/
import Derived.Test.YteahkgbnfbjkhaaGreatDoorRe10
import Derived.Test.YteahkgbnfbjkhaaGreatDoorRe07
set_option maxRecDepth 20000
set_option linter.unusedVariables false
set_option linter.unusedSimpArgs false
set_option linter.unusedSectionVars false
namespace Go.Proofs.YteahkgbnfbjkhaaGreatDoor
open Go.RowKit
inductive Ph where
 | any
 | rng (lo hi : Nat)
 | wr
def Ph.isWr : Ph → Bool
 | .wr => true
 | _ => false
def wrAt (ph : List Ph) (j : Nat) : Bool := (ph.getD j .any).isWr
def rank (ph : List Ph) (i : Nat) : Nat := (List.range i).countP (wrAt ph)
def phOk (pre : List Nat) (ph : List Ph) (m i : Nat) : Ph → Bool
 | .any => true
 | .wr => (List.range m).all fun j => !wrAt ph j || decide (i ≤ j) || (pre.getD i 0).testBit j
 | .rng lo hi => decide (lo ≤ (List.range m).countP fun j => wrAt ph j && (pre.getD i 0).testBit j) && decide (((List.range m).countP fun j => wrAt ph j && !(pre.getD j 0).testBit i) ≤ hi)
def phaseOk (ops : Array Oper) (m N : Nat) (ph : List Ph) : Bool :=
 shapeOk ops m N && (List.range m).all fun i => phOk (preGo ops.toList []) ph m i (ph.getD i .any)
def Keeps (B : Nat) (w w' : World) : Prop := w.heap.size ≤ w'.heap.size ∧ ∀ k, B ≤ k → k < w.heap.size → w'.heap[k]? = w.heap[k]?
theorem Keeps.of {B : Nat} {w w' : World} (h : Below w.heap.size w w') : Keeps B w w' := ⟨h.size, fun k _ hk => h.block k hk⟩
section
variable (P : Program) (ops : Array Oper) (W : Nat → World)
def OwedPh (k : Nat) (o : Oper) (s : Spec) (p : Ph) (a : Act) (L : Facts) : Prop :=
 match p with
 | .any => if Region.wanted o (yielded ops a.tmps) = true then
  ∀ w, factsOf (o.looksAt ops) L w → ∀ K : Act → World → Prop, (∀ v w', Below w.heap.size w w' → s.ok v w' → K (a.put o.dst v) w') → o.wp P a w K (fun _ _ _ => False)
  else ∀ w, s.ok undef w
 | .rng lo hi => if Region.wanted o (yielded ops a.tmps) = true then
  ∀ q, lo ≤ q → q ≤ hi → ∀ bs d, factsOf (o.looksAt ops) L (app (W q) bs d) → ∀ K : Act → World → Prop, (∀ v w', Below (app (W q) bs d).heap.size (app (W q) bs d) w' → s.ok v w' → K (a.put o.dst v) w') →
   o.wp P a (app (W q) bs d) K (fun _ _ _ => False)
  else ∀ w, s.ok undef w
 | .wr => Region.wanted o (yielded ops a.tmps) = true ∧ (W (k + 1)).heap.size = (W k).heap.size ∧
  ∀ bs d, factsOf (o.looksAt ops) L (app (W k) bs d) → ∀ K : Act → World → Prop, (∀ v cs e, (∃ bs', cs = bs ++ bs') → s.ok v (app (W (k + 1)) cs e) → K (a.put o.dst v) (app (W (k + 1)) cs e)) →
   o.wp P a (app (W k) bs d) K (fun _ _ _ => False)
def HasOk (o : Oper) (s : Spec) : Prop := ∀ p, s = .has p → o.dst.isSome = true ∧ ∀ v w w', Keeps (W 0).heap.size w w' → p v w → p v w'
def wpPhN (Fin : Nat → List Oper → Act → Facts → Prop) : Nat → Nat → List Oper → List Spec → List Ph → Act → Facts → Prop
 | 0, k, l, [], [], a, L => Fin k l a L
 | n + 1, k, o :: r, .is c :: S, p :: ph, a, L => OwedPh P ops W k o (.is c) p a L ∧ wpPhN Fin n (if p.isWr = true then k + 1 else k) r S ph (a.put o.dst c) L
 | n + 1, k, o :: r, .has q :: S, p :: ph, a, L => OwedPh P ops W k o (.has q) p a L ∧ HasOk W o (.has q) ∧ ∀ v, wpPhN Fin n (if p.isWr = true then k + 1 else k) r S ph (a.put o.dst v) (factOf o q v L)
 | _, _, _, _, _, _, _ => False
end
theorem rank_succ (ph : List Ph) (i : Nat) : rank ph (i + 1) = if wrAt ph i = true then rank ph i + 1 else rank ph i := by
 unfold rank
 rw [List.range_succ, List.countP_append, List.countP_singleton]
 split <;> rfl
section sound
variable {P : Program} {ops : Array Oper} {Q : Exit → Act → World → Prop} {W : Nat → World} {m N : Nat} {pre : List Nat} {S : List Spec} {ph : List Ph} {a0 : Act}
theorem ph_unroll {Fin : Nat → List Oper → Act → Facts → Prop} (u : Nat → Value) : ∀ n i, wpPhN P ops W Fin n (rank ph i) (ops.toList.drop i) (S.drop i) (ph.drop i) (frameAt ops S u a0 i) (factsAt ops S u i) →
 (∀ j, i ≤ j → j < i + n → ∀ o, ops[j]? = some o → OwedPh P ops W (rank ph j) o (sp S j) (ph.getD j .any) (frameAt ops S u a0 j) (factsAt ops S u j) ∧ HasOk W o (sp S j)) ∧
 Fin (rank ph (i + n)) (ops.toList.drop (i + n)) (frameAt ops S u a0 (i + n)) (factsAt ops S u (i + n)) := by
 intro n
 induction n with
 | zero =>
  intro i h
  cases hs : S.drop i with
  | nil =>
   cases hp : ph.drop i with
   | nil => rw [hs, hp] at h; exact ⟨fun j h1 h2 => absurd h2 (by omega), h⟩
   | cons p ps => rw [hs, hp] at h; exact (h : False).elim
  | cons s r => rw [hs] at h; exact (h : False).elim
 | succ n ih =>
  intro i h
  rcases Nat.lt_or_ge i ops.size with hi | hi
  · have hd : ops.toList.drop i = ops[i] :: ops.toList.drop (i + 1) := by rw [List.drop_eq_getElem_cons (by simpa using hi)]; simp
    rw [hd] at h
    have hg : ops[i]? = some ops[i] := Array.getElem?_eq_getElem hi
    cases hs : S.drop i with
    | nil => rw [hs] at h; exact (h : False).elim
    | cons s r =>
     cases hp : ph.drop i with
     | nil => rw [hs, hp] at h; cases s <;> exact (h : False).elim
     | cons p ps =>
      rw [hs, hp] at h
      have hr : r = S.drop (i + 1) := by rw [← List.tail_drop, hs]; rfl
      have hps : ps = ph.drop (i + 1) := by rw [← List.tail_drop, hp]; rfl
      have hsp : sp S i = s := by
       have h0 : S[i]? = some s := by
        have : (S.drop i)[0]? = some s := by rw [hs]; rfl
        rw [List.getElem?_drop] at this; simpa using this
       unfold sp; simp [List.getD, h0]
      have hpp : ph.getD i .any = p := by
       have h0 : ph[i]? = some p := by
        have : (ph.drop i)[0]? = some p := by rw [hp]; rfl
        rw [List.getElem?_drop] at this; simpa using this
       simp [List.getD, h0]
      have hrk : (if p.isWr = true then rank ph i + 1 else rank ph i) = rank ph (i + 1) := by
       rw [rank_succ]; unfold wrAt; rw [hpp]
      subst hr hps
      cases s with
      | is c =>
       obtain ⟨h1, h2⟩ := h
       have e1 : frameAt ops S u a0 (i + 1) = (frameAt ops S u a0 i).put ops[i].dst c := by simp [frameAt, hg, hsp, Spec.val]
       have e2 : factsAt ops S u (i + 1) = factsAt ops S u i := by simp [factsAt, hg, hsp]
       rw [← e1, ← e2, hrk] at h2
       obtain ⟨g1, g2⟩ := ih (i + 1) h2
       refine ⟨fun j hj hjm o ho => ?_, by rw [show i + (n + 1) = i + 1 + n by omega]; exact g2⟩
       rcases Nat.eq_or_lt_of_le hj with rfl | hlt
       · rw [hg] at ho; injection ho with ho; subst ho
         rw [hsp, hpp]; exact ⟨h1, fun p hp => by cases hp⟩
       · exact g1 j hlt (by omega) o ho
      | has q =>
       obtain ⟨h1, h3, h2⟩ := h
       have e1 : frameAt ops S u a0 (i + 1) = (frameAt ops S u a0 i).put ops[i].dst (u i) := by simp [frameAt, hg, hsp, Spec.val]
       have e2 : factsAt ops S u (i + 1) = factOf ops[i] q (u i) (factsAt ops S u i) := by simp [factsAt, hg, hsp]
       have h2 := h2 (u i)
       rw [← e1, ← e2, hrk] at h2
       obtain ⟨g1, g2⟩ := ih (i + 1) h2
       refine ⟨fun j hj hjm o ho => ?_, by rw [show i + (n + 1) = i + 1 + n by omega]; exact g2⟩
       rcases Nat.eq_or_lt_of_le hj with rfl | hlt
       · rw [hg] at ho; injection ho with ho; subst ho
         rw [hsp, hpp]; exact ⟨h1, h3⟩
       · exact g1 j hlt (by omega) o ho
  · have hd : ops.toList.drop i = [] := List.drop_of_length_le (by simpa using hi)
    rw [hd] at h
    cases hs : S.drop i with
    | nil => rw [hs] at h; exact (h : False).elim
    | cons s r => rw [hs] at h; cases s <;> exact (h : False).elim
theorem inv_next (sh : Shape ops m N pre) (hN : a0.tmps.size = N) {W0 : World} {listed : Array Bool} {u : Nat → Value} {f : Act} {w : World} (I : Inv ops W0 m pre S a0 listed u f w)
 {i : Nat} {o : Oper} (hi : i < m) (ho : ops[i]? = some o) (hun : listed.getD i false = false) (hpre : ∀ k, (pre.getD i 0).testBit k = true → listed.getD k false = true)
 (v : Value) (w' : World) (hok : (sp S i).ok v w') (hkeep : ∀ j, j < m → ∀ v, (sp S j).ok v w → (sp S j).ok v w') :
 Inv ops w' m pre S a0 (listed.setIfInBounds i true) (fun k => if k = i then v else u k) (f.put o.dst v) w' := by
 have his : i < ops.size := (Array.getElem?_eq_some_iff.1 ho).1
 have hil : i < listed.size := by rw [I.size]; exact his
 have hval : (sp S i).val v = v := by
  cases hs : sp S i with
  | is c => rw [hs] at hok; exact hok.symm
  | has p => rfl
 refine ⟨by simpa using I.size, fun j hj k hk => fun_clos I hil hpre j hj k hk, fun t ht => ?_, by rw [put_defers_same, I.defers], by rw [put_size, I.fsize], fun s hs => ?_, fun j oj s hj hoj hd hl => ?_, fun j hj hl => ?_, Below.refl _ _⟩
 · rw [getD_set_ne false (by omega)]; exact I.low t ht
 · have h1 : o.dst ≠ some s := fun h => by
    have := hs i o hi ho h
    rw [getD_set_same listed hil false] at this
    cases this
   rw [put_get_ne _ _ _ _ h1]
   refine I.old s fun j oj hj hoj hd => ?_
   have := hs j oj hj hoj hd
   rcases Nat.decEq i j with hij | hij
   · rwa [getD_set_ne false hij] at this
   · rw [← hij]; exact hun
 · rcases Nat.decEq i j with hij | hij
   · rw [getD_set_ne false hij] at hl
     have h1 : o.dst ≠ some s := sh.ne j i oj o s hj hi (Ne.symm hij) hoj ho hd
     rw [put_get_ne _ _ _ _ h1, if_neg (Ne.symm hij)]
     exact I.new j oj s hj hoj hd hl
   · subst hij
     rw [ho] at hoj; injection hoj with hoj; subst hoj
     rw [hd, put_get_same _ _ _ (by rw [I.fsize, hN]; exact sh.dst i o s hi ho hd)]
     simp [hval]
 · rcases Nat.decEq i j with hij | hij
   · rw [getD_set_ne false hij] at hl
     simp only [if_neg (Ne.symm hij)]
     exact hkeep j hj _ (I.ok j hj hl)
   · subst hij
     simp only [if_true, hval]
     exact hok
def gone (ph : List Ph) (m : Nat) (listed : Array Bool) : Nat := (List.range m).countP fun j => wrAt ph j && listed.getD j false
def AllOwedPh (P : Program) (ops : Array Oper) (W : Nat → World) (m : Nat) (S : List Spec) (ph : List Ph) (a0 : Act) : Prop :=
 ∀ u : Nat → Value, ∀ i, i < m → ∀ o, ops[i]? = some o → OwedPh P ops W (rank ph i) o (sp S i) (ph.getD i .any) (frameAt ops S u a0 i) (factsAt ops S u i) ∧ HasOk W o (sp S i)
structure PInv (ops : Array Oper) (W : Nat → World) (m : Nat) (pre : List Nat) (S : List Spec) (ph : List Ph) (a0 : Act) (listed : Array Bool) (u : Nat → Value) (f : Act) (w : World) : Prop where
 inv : Inv ops w m pre S a0 listed u f w
 size : (W (gone ph m listed)).heap.size = (W 0).heap.size
 at_ : ∃ bs d, w = app (W (gone ph m listed)) bs d
theorem gone_same {listed : Array Bool} {i : Nat} (hw : wrAt ph i = false) : gone ph m (listed.setIfInBounds i true) = gone ph m listed := by
 unfold gone
 refine List.countP_congr fun j _ => ?_
 rcases Nat.decEq i j with hij | hij
 · rw [getD_set_ne false hij]
 · subst hij; simp [hw]
theorem gone_more {listed : Array Bool} {i : Nat} (hi : i < m) (hil : i < listed.size) (hw : wrAt ph i = true) (hun : listed.getD i false = false) : gone ph m (listed.setIfInBounds i true) = gone ph m listed + 1 := by
 unfold gone
 have key : ∀ n, i < n → (List.range n).countP (fun j => wrAt ph j && (listed.setIfInBounds i true).getD j false) = (List.range n).countP (fun j => wrAt ph j && listed.getD j false) + 1 := by
  intro n
  induction n with
  | zero => intro h; omega
  | succ n ih =>
   intro h
   rw [List.range_succ, List.countP_append, List.countP_append, List.countP_singleton, List.countP_singleton]
   rcases Nat.eq_or_lt_of_le (Nat.lt_succ_iff.1 h) with rfl | hlt
   · have h1 : (List.range i).countP (fun j => wrAt ph j && (listed.setIfInBounds i true).getD j false) = (List.range i).countP (fun j => wrAt ph j && listed.getD j false) := by
      refine List.countP_congr fun j hj => ?_
      have : j < i := List.mem_range.1 hj
      rw [getD_set_ne false (by omega)]
     rw [h1, getD_set_same listed hil, hun, hw]; rfl
   · rw [ih hlt, getD_set_ne false (by omega)]; omega
 exact key m hi
theorem gone_rank {listed : Array Bool} (hclos : ∀ i, listed.getD i false = true → ∀ k, (pre.getD i 0).testBit k = true → listed.getD k false = true)
    {i : Nat} (hi : i < m) (hun : listed.getD i false = false) (hpre : ∀ k, (pre.getD i 0).testBit k = true → listed.getD k false = true)
    (hall : ∀ j, j < m → phOk pre ph m j (ph.getD j .any) = true) (hw : ph.getD i .any = .wr) : gone ph m listed = rank ph i := by
  have hin : ∀ j, j < m → wrAt ph j = true → listed.getD j false = decide (j < i) := fun j hj hwj => by
    have hwj' : ph.getD j .any = .wr := by
      unfold wrAt at hwj
      cases h : ph.getD j .any <;> rw [h] at hwj <;> first | rfl | cases hwj
    have h1 := hall i hi
    rw [hw] at h1
    have h2 := hall j hj
    rw [hwj'] at h2
    simp only [phOk, List.all_eq_true, List.mem_range, Bool.or_eq_true, Bool.not_eq_true', decide_eq_true_eq] at h1 h2
    rcases Nat.lt_trichotomy j i with h | h | h
    · rw [decide_eq_true h]
      rcases h1 j hj with (h3 | h3) | h3
      · rw [hwj] at h3; cases h3
      · omega
      · exact hpre j h3
    · subst h; rw [hun]; simp
    · rw [decide_eq_false (by omega)]
      have hwi : wrAt ph i = true := by unfold wrAt; rw [hw]; rfl
      rcases h2 i hi with (h3 | h3) | h3
      · rw [hwi] at h3; cases h3
      · omega
      · cases hl : listed.getD j false with
        | false => rfl
        | true => rw [hclos j hl i h3] at hun; cases hun
  unfold gone rank
  have e : (List.range m).countP (fun j => wrAt ph j && listed.getD j false) = (List.range m).countP (fun j => wrAt ph j && decide (j < i)) := List.countP_congr fun j hj => by
    have hj := List.mem_range.1 hj
    cases hwj : wrAt ph j with
    | false => simp
    | true => rw [hin j hj hwj]
  rw [e]
  have key : ∀ n, i ≤ n → (List.range n).countP (fun j => wrAt ph j && decide (j < i)) = (List.range i).countP (wrAt ph) := by
    intro n
    induction n with
    | zero => intro h; have : i = 0 := by omega
              subst this; rfl
    | succ n ih =>
      intro h
      rcases Nat.eq_or_lt_of_le h with rfl | hlt
      · refine List.countP_congr fun j hj => ?_
        have hj := List.mem_range.1 hj
        simp [hj]
      · rw [List.range_succ, List.countP_append, List.countP_singleton, ih (by omega)]
        simp
        omega
  exact key m (by omega)
theorem countP_le_of {α} {p q : α → Bool} {l : List α} (h : ∀ x ∈ l, p x = true → q x = true) : l.countP p ≤ l.countP q := List.countP_mono_left h
theorem gone_in {listed : Array Bool} (hclos : ∀ i, listed.getD i false = true → ∀ k, (pre.getD i 0).testBit k = true → listed.getD k false = true)
 {i lo hi' : Nat} (hun : listed.getD i false = false) (hpre : ∀ k, (pre.getD i 0).testBit k = true → listed.getD k false = true)
 (h : phOk pre ph m i (.rng lo hi') = true) : lo ≤ gone ph m listed ∧ gone ph m listed ≤ hi' := by
 simp only [phOk, Bool.and_eq_true, decide_eq_true_eq] at h
 constructor
 · refine Nat.le_trans h.1 (countP_le_of fun j _ hj => ?_)
   simp only [Bool.and_eq_true] at hj ⊢
   exact ⟨hj.1, hpre j hj.2⟩
 · refine Nat.le_trans (countP_le_of fun j _ hj => ?_) h.2
   simp only [Bool.and_eq_true, Bool.not_eq_true'] at hj ⊢
   refine ⟨hj.1, ?_⟩
   cases hb : (pre.getD j 0).testBit i with
   | false => rfl
   | true => rw [hclos j hj.2 i hb] at hun; cases hun
theorem app_keeps {w1 w2 : World} {bs bs' : Array Obj} {d e : Nat} {B : Nat} (h1 : w1.heap.size = B) (h2 : w2.heap.size = B) : Keeps B (app w1 bs d) (app w2 (bs ++ bs') e) := by
 refine ⟨by simp only [app_size, Array.size_append]; omega, fun k hk hlt => ?_⟩
 rw [app_size] at hlt
 show (w2.heap ++ (bs ++ bs'))[k]? = (w1.heap ++ bs)[k]?
 have e1 : (w1.heap ++ bs)[k]? = bs[k - B]? := by rw [Array.getElem?_append_right (by omega), h1]
 have e2 : (w2.heap ++ (bs ++ bs'))[k]? = (bs ++ bs')[k - B]? := by rw [Array.getElem?_append_right (by omega), h2]
 rw [e1, e2, Array.getElem?_append_left (by omega)]
theorem step_ph (sh : Shape ops m N pre) (hN : a0.tmps.size = N) (hall : ∀ j, j < m → phOk pre ph m j (ph.getD j .any) = true) (H : AllOwedPh P ops W m S ph a0) {listed : Array Bool} {u : Nat → Value} {f : Act} {w : World} (I : PInv ops W m pre S ph a0 listed u f w)
 {i : Nat} {o : Oper} (hi : i < m) (ho : ops[i]? = some o) (hun : listed.getD i false = false) (hpre : ∀ k, (pre.getD i 0).testBit k = true → listed.getD k false = true) {K' : Act → World → Prop}
 (hK : ∀ u' f' w', PInv ops W m pre S ph a0 (listed.setIfInBounds i true) u' f' w' → K' f' w') : wpOp P ops Q i K' f w := by
 have his : i < ops.size := (Array.getElem?_eq_some_iff.1 ho).1
 have hil : i < listed.size := by rw [I.inv.size]; exact his
 have hag := agree sh hN I.inv hi ho hun hpre
 obtain ⟨how, hmono⟩ := H u i hi o ho
 have keepAll : ∀ w w', Keeps (W 0).heap.size w w' → ∀ j, j < m → ∀ v, (sp S j).ok v w → (sp S j).ok v w' := fun w w' hkp j hj v hok => by
  have hjs : j < ops.size := by have := sh.le; omega
  have := (H u j hj _ (Array.getElem?_eq_getElem hjs)).2
  cases hs : sp S j with
  | is c => rw [hs] at hok; exact hok
  | has p => rw [hs] at hok; exact (this p hs).2 v w w' hkp hok
 -- the next state, without and with a write
 have next : wrAt ph i = false → ∀ v w', Below w.heap.size w w' → (sp S i).ok v w' → PInv ops W m pre S ph a0 (listed.setIfInBounds i true) (fun k => if k = i then v else u k) (f.put o.dst v) w' := by
  intro hnw v w' hb hok
  refine ⟨inv_next sh hN I.inv hi ho hun hpre v w' hok (keepAll w w' (.of hb)), by rw [gone_same hnw]; exact I.size, ?_⟩
  rw [gone_same hnw]
  obtain ⟨bs, d, rfl⟩ := I.at_
  obtain ⟨cs, e, rfl⟩ := of_below hb
  exact ⟨_, _, app_app _ _ _ _ _⟩
 have facts : factsOf (o.looksAt ops) (factsAt ops S u i) w := by
  refine factsOf_of fun x hx hc => ?_
  obtain ⟨j, oj, hji, hoj, hd, hs, hv⟩ := factsAt_mem i hx
  have hjs : j < ops.size := (Array.getElem?_eq_some_iff.1 hoj).1
  have hc : x.1 ∈ o.looksAt ops := by simpa using hc
  have hl : listed.getD j false = true := by
   rcases sh.look i j o oj x.1 hi (by omega) (by omega) ho hoj hd hc with h | h
   · exact hpre j h
   · have := sh.lt j hjs i h; omega
  have := I.inv.ok j (by omega) hl
  rw [hs] at this
  rw [hv]
  exact this
 have carry : ∀ (R : Value → World → Prop), (∀ v w', R v w' → K' (f.put o.dst v) w') →
  (∀ K : Act → World → Prop, (∀ v w', R v w' → K ((frameAt ops S u a0 i).put o.dst v) w') → o.wp P (frameAt ops S u a0 i) w K (fun _ _ _ => False)) → o.wp P f w K' Q := by
  intro R hR h
  have := h (fun a' w' => a'.defers = (frameAt ops S u a0 i).defers ∧ ∃ v, R v w' ∧ ∀ s, o.dst = some s → a'.tmps[s]? = some v)
   (fun v w' hr => ⟨put_defers_same _ _ _, v, hr, fun s hs => by rw [hs]; exact put_get_same _ _ _ (by rw [frameAt_size, hN]; exact sh.dst i o s hi ho hs)⟩)
  refine wp_carry (execOp_congr o (fun cs b => Region.noSelect_spec sh.sel i o cs b ho) (eval_agree hag)) (fun a' w' h => h.1) (fun v w' h => ?_) this
  obtain ⟨_, v', hr, hsome⟩ := h
  cases hdst : o.dst with
  | none =>
   have := hR v' w' hr
   rw [hdst] at this
   exact this
  | some s =>
   have h1 := hsome s hdst
   rw [hdst, put_get_same _ _ _ (by rw [frameAt_size, hN]; exact sh.dst i o s hi ho hdst)] at h1
   injection h1 with h1
   subst h1
   have := hR v w' hr
   rw [hdst] at this
   exact this
 unfold wpOp
 rw [ho]
 simp only []
 rw [wanted_agree hag]
 cases hp : ph.getD i .any with
 | any =>
  have hnw : wrAt ph i = false := by unfold wrAt; rw [hp]; rfl
  rw [hp] at how
  simp only [OwedPh] at how
  split
  · rename_i hw
    rw [if_pos hw] at how
    left
    exact carry (fun v w' => Below w.heap.size w w' ∧ (sp S i).ok v w') (fun v w' h => hK _ _ _ (next hnw v w' h.1 h.2)) fun K hK' => how w facts K fun v w' h1 h2 => hK' v w' ⟨h1, h2⟩
  · rename_i hw
    rw [if_neg hw] at how
    exact hK _ _ _ (next hnw undef w (Below.refl _ _) (how w))
 | rng lo hi' =>
  have hnw : wrAt ph i = false := by unfold wrAt; rw [hp]; rfl
  rw [hp] at how
  simp only [OwedPh] at how
  split
  · rename_i hw
    rw [if_pos hw] at how
    left
    have hin := gone_in (ph := ph) (m := m) (listed := listed) I.inv.clos hun hpre (by rw [← hp]; exact hall i hi)
    obtain ⟨bs, d, hww⟩ := I.at_
    refine carry (fun v w' => Below w.heap.size w w' ∧ (sp S i).ok v w') (fun v w' h => hK _ _ _ (next hnw v w' h.1 h.2)) fun K hK' => ?_
    have := how _ hin.1 hin.2 bs d (by rw [← hww]; exact facts) K fun v w' h1 h2 => hK' v w' ⟨by rw [hww]; exact h1, h2⟩
    rw [hww]
    exact this
  · rename_i hw
    rw [if_neg hw] at how
    exact hK _ _ _ (next hnw undef w (Below.refl _ _) (how w))
 | wr =>
  have hwr : wrAt ph i = true := by unfold wrAt; rw [hp]; rfl
  rw [hp] at how
  simp only [OwedPh] at how
  obtain ⟨hw, hsz, how⟩ := how
  rw [if_pos hw]
  left
  have hrk := gone_rank (ph := ph) I.inv.clos hi hun hpre hall hp
  obtain ⟨bs, d, hww⟩ := I.at_
  have hB := I.size
  rw [hrk] at hww hB
  have hB' : (W (rank ph i + 1)).heap.size = (W 0).heap.size := hsz.trans hB
  refine carry (fun v w' => ∃ cs e, w' = app (W (rank ph i + 1)) cs e ∧ (∃ bs', cs = bs ++ bs') ∧ (sp S i).ok v w') (fun v w' h => ?_) fun K hK' => ?_
  · obtain ⟨cs, e, rfl, ⟨bs', rfl⟩, hok⟩ := h
    refine hK _ _ _ ⟨inv_next sh hN I.inv hi ho hun hpre v _ hok (keepAll w _ ?_), ?_, ?_⟩
    · rw [hww]; exact app_keeps hB hB'
    · rw [gone_more hi hil hwr hun, hrk]; exact hB'
    · rw [gone_more hi hil hwr hun, hrk]; exact ⟨_, _, rfl⟩
  · have := how bs d (by rw [← hww]; exact facts) K fun v cs e h1 h2 => hK' v _ ⟨cs, e, rfl, h1, h2⟩
    rw [hww]
    exact this
theorem go_ph (sh : Shape ops m N pre) (hN : a0.tmps.size = N) (hall : ∀ j, j < m → phOk pre ph m j (ph.getD j .any) = true) (H : AllOwedPh P ops W m S ph a0)
 (hfin : ∀ u bs d, (W (rank ph m)).heap.size = (W 0).heap.size → factsAll (factsAt ops S u m) (app (W (rank ph m)) bs d) → wpOps P ops Q (List.range' m (ops.size - m)) (frameAt ops S u a0 m) (app (W (rank ph m)) bs d)) :
 ∀ (fuel : Nat) (listed : Array Bool) (u : Nat → Value) (f : Act) (w : World), listed.toList.count false = fuel → PInv ops W m pre S ph a0 listed u f w → wpAny P .any ops Q fuel listed f w := by
 have done : ∀ (listed : Array Bool) (u : Nat → Value) (f : Act) (w : World), PInv ops W m pre S ph a0 listed u f w → (∀ j, j < m → listed.getD j false = true) →
  wpOps P ops Q (List.range' m (ops.size - m)) f w := by
  intro listed u f w I hall
  have hf := frame_done sh hN I.inv hall
  have hg : gone ph m listed = rank ph m := by
   unfold gone rank
   refine List.countP_congr fun j hj => ?_
   rw [hall j (List.mem_range.1 hj), Bool.and_true]
  obtain ⟨bs, d, hw⟩ := I.at_
  have hsz := I.size
  rw [hg] at hw hsz
  have hfa : factsAll (factsAt ops S u m) w := factsAll_of fun x hx => by
   obtain ⟨j, oj, hji, hoj, hd, hs, hv⟩ := factsAt_mem m hx
   have := I.inv.ok j hji (hall j (by omega))
   rw [hs] at this; rw [hv]; exact this
  subst hw
  rw [hf]
  exact hfin u bs d hsz hfa
 intro fuel
 induction fuel with
 | zero =>
  intro listed u f w hc I
  have hall' : ∀ j, j < ops.size → listed.getD j false = true := fun j hj => by
   have hjl : j < listed.size := by rw [I.inv.size]; exact hj
   have h0 : false ∉ listed.toList := List.count_eq_zero.1 hc
   have : listed[j] ≠ false := fun h => h0 (by rw [← h]; exact Array.mem_toList_iff.2 (Array.getElem_mem hjl))
   simpa [Array.getD_eq_getD_getElem?, hjl] using this
  have hm : m = ops.size := by
   rcases Nat.lt_or_ge m ops.size with h | h
   · have := hall' m h; rw [I.inv.low m (Nat.le_refl _)] at this; cases this
   · have := sh.le; omega
  refine ⟨List.filter_eq_nil_iff.2 fun i hi => ?_, ?_⟩
  · have hi : i < ops.size := List.mem_range.1 hi
    simp [(getD_false_true listed (by have := I.inv.size; omega) true).2 (hall' i hi)]
  · have := done listed u f w I (fun j hj => hall' j (by omega))
    rw [hm, Nat.sub_self] at this
    exact this
 | succ fuel ih =>
  intro listed u f w hc I
  by_cases hall' : ∀ j, j < m → listed.getD j false = true
  · have hcount : ops.size = m + (fuel + 1) := by
     have e : listed.toList = List.replicate m true ++ List.replicate (ops.size - m) false := by
      apply List.ext_getElem?
      intro k
      rw [List.getElem?_append]
      have hk := I.inv.size
      have hle := sh.le
      by_cases hkm : k < m
      · have h1 := hall' k hkm
        have hkl : k < listed.size := by omega
        simp [hkm, hkl]
        simpa [Array.getD_eq_getD_getElem?, hkl] using h1
      · have h1 := I.inv.low k (by omega)
        by_cases hkl : k < listed.size
        · have hkl' : k - m < ops.size - m := by omega
          simp [hkm, hkl, hkl']
          simpa [Array.getD_eq_getD_getElem?, hkl] using h1
        · have hkl' : ¬ k - m < ops.size - m := by omega
          simp [hkm, hkl, hkl']
     rw [e] at hc
     have hle := sh.le
     simp [List.count_append, List.count_replicate] at hc
     omega
    have := done listed u f w I hall'
    rw [show ops.size - m = fuel + 1 by omega] at this
    exact tail_any sh (fuel + 1) m listed _ _ (Nat.le_refl _) (by omega) I.inv.size hall' I.inv.low this
  · have hsome : ∃ j, j < m ∧ listed.getD j false = false := by
     refine Classical.byContradiction fun hno => hall' fun j hj => ?_
     cases hl : listed.getD j false with
     | true => rfl
     | false => exact absurd ⟨j, hj, hl⟩ hno
    have hleast : ∃ j, (j < m ∧ listed.getD j false = false) ∧ ∀ k, k < j → listed.getD k false = true := by
     obtain ⟨j, hj⟩ := hsome
     induction j using Nat.strongRecOn with
     | _ j ihj =>
      by_cases hk : ∃ k, k < j ∧ listed.getD k false = false
      · obtain ⟨k, hkj, hkf⟩ := hk
        exact ihj k hkj ⟨by omega, hkf⟩
      · exact ⟨j, hj, fun k hkj => by
         cases hl : listed.getD k false with
         | true => rfl
         | false => exact absurd ⟨k, hkj, hl⟩ hk⟩
    have hle := sh.le
    refine ⟨fun h0 => ?_, fun i hi => ?_⟩
    · obtain ⟨j, ⟨hj, hjf⟩, hlt⟩ := hleast
      have hjs : j < ops.size := by omega
      have : j ∈ Region.ready .any ops listed := mem_ready.2 ⟨(getD_false_true listed (by rw [I.inv.size]; exact hjs) false).2 hjf, ops[j], Array.getElem?_eq_getElem hjs, fun e he hb =>
       hlt _ (sh.lt j hjs e.on ((sh.mask j _ (Array.getElem?_eq_getElem hjs) e.on).2 ⟨e, he, hb, .inl rfl⟩))⟩
      rw [h0] at this; cases this
    · obtain ⟨h1, o, ho, h2⟩ := mem_ready.1 hi
      have his : i < ops.size := (Array.getElem?_eq_some_iff.1 ho).1
      have hun : listed.getD i false = false := (getD_false_true listed (by rw [I.inv.size]; exact his) false).1 h1
      have hpre : ∀ k, (pre.getD i 0).testBit k = true → listed.getD k false = true := fun k hk => by
       obtain ⟨e, he, hb, hor⟩ := (sh.mask i o ho k).1 hk
       rcases hor with rfl | hor
       · exact h2 e he hb
       · exact I.inv.clos _ (h2 e he hb) k hor
      have him : i < m := by
       rcases Nat.lt_or_ge i m with h | h
       · exact h
       · exact absurd (fun j hj => hpre j (sh.tail i h his j (by omega))) hall'
      refine step_ph sh hN hall H I him ho hun hpre fun u' f' w' I' => ih _ u' f' w' ?_ I'
      have hil : i < listed.size := by rw [I.inv.size]; exact his
      have hli : listed[i] = false := by simpa [Array.getD_eq_getD_getElem?, hil] using hun
      have : (listed.setIfInBounds i true).toList.count false = listed.toList.count false - 1 := by
       rw [Array.toList_setIfInBounds, List.count_set (by simpa using hil)]
       simp [hli]
      omega
theorem wp_region_phx {id : Nat} (m : Nat) {S : List Spec} {ph : List Ph} {l : List Oper} {Ws : List World} {w : World} {bs0 : Array Obj} {d0 : Nat} (hfol : P.follows .mixedOrders = true)
 (h : ∀ Fin, (∀ k w0 rest a L, (w :: Ws)[k]? = some w0 → (w0.heap.size = w.heap.size → ∀ bs d, factsAll L (app w0 bs d) → wpList P l.toArray Q rest a (app w0 bs d)) → Fin k rest a L) →
  wpPhN P l.toArray (fun q => (w :: Ws).getD q w) Fin m 0 l S ph a0 [])
 (hshape : phaseOk l.toArray m a0.tmps.size ph = true) :
 (Code.region id l.toArray true).wp P Q a0 (app w bs0 d0) := by
 unfold phaseOk at hshape
 simp only [Bool.and_eq_true, List.all_eq_true, List.mem_range] at hshape
 obtain ⟨hsh, hall⟩ := hshape
 have sh := shape_of hsh
 refine wp_region_any hfol ?_
 have hu := fun u => ph_unroll (P := P) (ops := l.toArray) (W := fun q => (w :: Ws).getD q w) (S := S) (ph := ph) (a0 := a0) u m 0 (by
  have := h (fun k rest a L => ((w :: Ws).getD k w).heap.size = w.heap.size → ∀ bs d, factsAll L (app ((w :: Ws).getD k w) bs d) → wpList P l.toArray Q rest a (app ((w :: Ws).getD k w) bs d)) (fun k w0 rest a L hk h => by
   have e : (w :: Ws).getD k w = w0 := by rw [List.getD_eq_getElem?_getD, hk]; rfl
   rw [e]; exact h)
  simpa [frameAt, factsAt, rank] using this)
 simp only [Nat.zero_add] at hu
 refine go_ph (W := fun q => (w :: Ws).getD q w) (S := S) (ph := ph) (pre := preGo l.toArray.toList []) sh rfl (fun j hj => hall j hj) (fun u i hi o ho => (hu u).1 i (Nat.zero_le _) hi o ho) (fun u bs d hsz hf => ?_) l.toArray.size _ (fun _ => undef) a0 _ ?_ ?_
 · have := (hu u).2 hsz bs d hf
   rw [← wpOps_eq_wpList (l.toArray.toList.drop m) m (fun j => by simp)] at this
   simpa using this
 · simp
 · have hg : gone ph m (Array.replicate l.toArray.size false) = 0 := by
    unfold gone
    rw [List.countP_eq_zero]
    intro j _
    simp only [Bool.and_eq_true, Array.getD_eq_getD_getElem?, Array.getElem?_replicate]
    rintro ⟨_, h⟩
    split at h <;> simp at h
   refine ⟨⟨by simp, fun i hi => ?_, fun t _ => ?_, rfl, rfl, fun _ _ => rfl, fun j o s _ _ _ hl => ?_, fun j _ hl => ?_, Below.refl _ _⟩, ?_, ?_⟩
   · simp [Array.getD_eq_getD_getElem?, Array.getElem?_replicate] at hi
     split at hi <;> simp at hi
   · simp only [Array.getD_eq_getD_getElem?, Array.getElem?_replicate]; split <;> rfl
   · simp [Array.getD_eq_getD_getElem?, Array.getElem?_replicate] at hl
     split at hl <;> simp at hl
   · simp [Array.getD_eq_getD_getElem?, Array.getElem?_replicate] at hl
     split at hl <;> simp at hl
   · rw [hg]
   · rw [hg]
     exact ⟨bs0, d0 + 1, rfl⟩
theorem wp_region_ph0 {id : Nat} (m : Nat) {S : List Spec} {ph : List Ph} {l : List Oper} {w : World} {bs0 : Array Obj} {d0 : Nat} (hfol : P.follows .mixedOrders = true)
 (h : ∀ Fin, (∀ k w0 rest a L, (w :: [])[k]? = some w0 → (w0.heap.size = w.heap.size → ∀ bs d, factsAll L (app w0 bs d) → wpList P l.toArray Q rest a (app w0 bs d)) → Fin k rest a L) →
  wpPhN P l.toArray (fun q => (w :: []).getD q w) Fin m 0 l S ph a0 [])
 (hshape : phaseOk l.toArray m a0.tmps.size ph = true) : (Code.region id l.toArray true).wp P Q a0 (app w bs0 d0) := wp_region_phx m hfol h hshape
theorem wp_region_ph1 {id : Nat} (m : Nat) {S : List Spec} {ph : List Ph} {l : List Oper} {w W1 : World} {bs0 : Array Obj} {d0 : Nat} (hfol : P.follows .mixedOrders = true)
 (h : ∀ Fin, (∀ k w0 rest a L, (w :: [W1])[k]? = some w0 → (w0.heap.size = w.heap.size → ∀ bs d, factsAll L (app w0 bs d) → wpList P l.toArray Q rest a (app w0 bs d)) → Fin k rest a L) →
  wpPhN P l.toArray (fun q => (w :: [W1]).getD q w) Fin m 0 l S ph a0 [])
 (hshape : phaseOk l.toArray m a0.tmps.size ph = true) : (Code.region id l.toArray true).wp P Q a0 (app w bs0 d0) := wp_region_phx m hfol h hshape
theorem wp_apped {c : Code} {a : Act} {w : World} (h : c.wp P Q a (app w #[] w.drawn)) : c.wp P Q a w := by rwa [app_nil] at h
theorem getD_of0 {ws : List World} {x w0 : World} {k : Nat} (h : ws[k]? = some w0) : ws.getD k x = w0 := by rw [List.getD_eq_getElem?_getD, h]; rfl
theorem getD_of {ws : List World} {x w0 : World} {k : Nat} (h : ws[k]? = some w0) : (fun q => ws.getD q x) k = w0 := getD_of0 h
variable {Fin : Nat → List Oper → Act → Facts → Prop} {n k : Nat} {o : Oper} {r : List Oper} {a : Act} {L : Facts} {ws : List World} {x : World}
theorem ph_any {c : Value} (hw : Region.wanted o (yielded ops a.tmps) = true)
 (h1 : ∀ w, factsOf (o.looksAt ops) L w → ∀ K : Act → World → Prop, (∀ w', Below w.heap.size w w' → K (a.put o.dst c) w') → o.wp P a w K (fun _ _ _ => False))
 (h2 : wpPhN P ops W Fin n k r S ph (a.put o.dst c) L) : wpPhN P ops W Fin (n + 1) k (o :: r) (.is c :: S) (.any :: ph) a L :=
 ⟨by unfold OwedPh; simp only []; rw [if_pos hw]; exact fun w hf K hK => h1 w hf K fun w' hb => hK c w' hb rfl, h2⟩
theorem ph_skip (hw : Region.wanted o (yielded ops a.tmps) = false) (h2 : wpPhN P ops W Fin n k r S ph (a.put o.dst undef) L) : wpPhN P ops W Fin (n + 1) k (o :: r) (.is undef :: S) (.any :: ph) a L :=
 ⟨by unfold OwedPh; simp only []; rw [if_neg (by rw [hw]; simp)]; exact fun _ => rfl, h2⟩
theorem ph_at {c : Value} {w0 : World} (q : Nat) (hW : W q = w0) (hw : Region.wanted o (yielded ops a.tmps) = true)
 (h1 : ∀ bs d, factsOf (o.looksAt ops) L (app w0 bs d) → ∀ K : Act → World → Prop, (∀ w', Below (app w0 bs d).heap.size (app w0 bs d) w' → K (a.put o.dst c) w') → o.wp P a (app w0 bs d) K (fun _ _ _ => False))
 (h2 : wpPhN P ops W Fin n k r S ph (a.put o.dst c) L) : wpPhN P ops W Fin (n + 1) k (o :: r) (.is c :: S) (.rng q q :: ph) a L :=
 ⟨by
  unfold OwedPh; simp only []; rw [if_pos hw]
  intro q' h3 h4 bs d hf K hK
  obtain rfl : q' = q := by omega
  rw [hW] at hf hK ⊢
  exact h1 bs d hf K fun w' hb => hK c w' hb rfl, h2⟩
theorem ph_here {c : Value} {w0 : World} (hW : ws[k]? = some w0) (hw : Region.wanted o (yielded ops a.tmps) = true)
 (h1 : ∀ bs d, factsOf (o.looksAt ops) L (app w0 bs d) → ∀ K : Act → World → Prop, (∀ w', Below (app w0 bs d).heap.size (app w0 bs d) w' → K (a.put o.dst c) w') → o.wp P a (app w0 bs d) K (fun _ _ _ => False))
 (h2 : wpPhN P ops (fun q => ws.getD q x) Fin n k r S ph (a.put o.dst c) L) : wpPhN P ops (fun q => ws.getD q x) Fin (n + 1) k (o :: r) (.is c :: S) (.rng k k :: ph) a L := ph_at k (getD_of hW) hw h1 h2
theorem ph_wr {c : Value} {w0 w1 : World} (hW0 : ws[k]? = some w0) (hw : Region.wanted o (yielded ops a.tmps) = true)
 (h1 : ∀ bs d, factsOf (o.looksAt ops) L (app w0 bs d) → ∀ K : Act → World → Prop, (∀ cs e, (∃ bs', cs = bs ++ bs') → K (a.put o.dst c) (app w1 cs e)) → o.wp P a (app w0 bs d) K (fun _ _ _ => False))
 (hW1 : ws[k + 1]? = some w1) (hsz : w1.heap.size = w0.heap.size)
 (h2 : wpPhN P ops (fun q => ws.getD q x) Fin n (k + 1) r S ph (a.put o.dst c) L) : wpPhN P ops (fun q => ws.getD q x) Fin (n + 1) k (o :: r) (.is c :: S) (.wr :: ph) a L :=
 ⟨by
  unfold OwedPh; simp only []
  rw [getD_of0 hW0, getD_of0 hW1]
  exact ⟨hw, hsz, fun bs d hf K hK => h1 bs d hf K fun cs e hcs => hK c cs e hcs rfl⟩, h2⟩
theorem ph_here_none {w0 : World} (hW : ws[k]? = some w0) (hd : o.dst = none) (hw : Region.wanted o (yielded ops a.tmps) = true)
 (h1 : ∀ bs d, factsOf (o.looksAt ops) L (app w0 bs d) → ∀ K : Act → World → Prop, (∀ w', Below (app w0 bs d).heap.size (app w0 bs d) w' → K a w') → o.wp P a (app w0 bs d) K (fun _ _ _ => False))
 (h2 : wpPhN P ops (fun q => ws.getD q x) Fin n k r S ph a L) : wpPhN P ops (fun q => ws.getD q x) Fin (n + 1) k (o :: r) (.is undef :: S) (.rng k k :: ph) a L :=
 ph_here hW hw (fun bs d hf K hK => h1 bs d hf K (by rw [hd] at hK; exact hK)) (by rw [hd]; exact h2)
theorem ph_wr_none {w0 w1 : World} (hW0 : ws[k]? = some w0) (hd : o.dst = none) (hw : Region.wanted o (yielded ops a.tmps) = true)
 (h1 : ∀ bs d, factsOf (o.looksAt ops) L (app w0 bs d) → ∀ K : Act → World → Prop, (∀ cs e, (∃ bs', cs = bs ++ bs') → K a (app w1 cs e)) → o.wp P a (app w0 bs d) K (fun _ _ _ => False))
 (hW1 : ws[k + 1]? = some w1) (hsz : w1.heap.size = w0.heap.size)
 (h2 : wpPhN P ops (fun q => ws.getD q x) Fin n (k + 1) r S ph a L) : wpPhN P ops (fun q => ws.getD q x) Fin (n + 1) k (o :: r) (.is undef :: S) (.wr :: ph) a L :=
 ph_wr hW0 hw (fun bs d hf K hK => h1 bs d hf K (by rw [hd] at hK; exact hK)) hW1 hsz (by rw [hd]; exact h2)
theorem ph_skip_none (hd : o.dst = none) (hw : Region.wanted o (yielded ops a.tmps) = false) (h2 : wpPhN P ops W Fin n k r S ph a L) : wpPhN P ops W Fin (n + 1) k (o :: r) (.is undef :: S) (.any :: ph) a L := ph_skip hw (by rw [hd]; exact h2)
theorem ph_end {l : List Oper} (h : Fin k l a L) : wpPhN P ops (fun q => ws.getD q x) Fin 0 k l [] [] a L := h
end sound
end Go.Proofs.YteahkgbnfbjkhaaGreatDoor
