/-
  Stable.
-/
import Derived.Test.YteahkgbnfbjkhaaGreatDoorRe00
import Derived.OrdersHeld
set_option maxRecDepth 20000
set_option linter.unusedVariables false
set_option linter.unusedSimpArgs false
set_option linter.unusedSectionVars false
namespace Go.Proofs.YteahkgbnfbjkhaaGreatDoor
open Go.RowKit
inductive Spec where
 | is (c : Value)
 | has (p : Value → World → Prop)
def Spec.ok : Spec → Value → World → Prop
 | .is c, v, _ => v = c
 | .has p, v, w => p v w
def Spec.val : Spec → Value → Value
 | .is c, _ => c
 | .has _, v => v
abbrev Facts := List (Tmp × (Value → World → Prop) × Value)
def factsOf (seen : List Tmp) : Facts → World → Prop
 | [], _ => True
 | (d, p, v) :: r, w => (seen.contains d = true → p v w) ∧ factsOf seen r w
def factsAll : Facts → World → Prop
 | [], _ => True
 | (_, p, v) :: r, w => p v w ∧ factsAll r w
section
variable (P : Program) (ops : Array Oper) (W0 : World)
def Owed (o : Oper) (s : Spec) (a : Act) (L : Facts) : Prop :=
 if Region.wanted o (yielded ops a.tmps) = true then
  ∀ bs d, factsOf (o.looksAt ops) L (app W0 bs d) → ∀ K : Act → World → Prop, (∀ v w', Below (app W0 bs d).heap.size (app W0 bs d) w' → s.ok v w' → K (a.put o.dst v) w') →
   o.wp P a (app W0 bs d) K (fun _ _ _ => False)
 else ∀ bs d, s.ok undef (app W0 bs d)
def factOf (o : Oper) (p : Value → World → Prop) (v : Value) (L : Facts) : Facts :=
 match o.dst with
 | some d => (d, p, v) :: L
 | none => L
def wpText (Fin : Act → Facts → Prop) : List Oper → List Spec → Act → Facts → Prop
 | [], [], a, L => Fin a L
 | o :: r, .is c :: S, a, L => Owed P ops W0 o (.is c) a L ∧ wpText Fin r S (a.put o.dst c) L
 | o :: r, .has p :: S, a, L => Owed P ops W0 o (.has p) a L ∧ o.dst.isSome = true ∧ (∀ v w w', Below w.heap.size w w' → p v w → p v w') ∧ ∀ v, wpText Fin r S (a.put o.dst v) (factOf o p v L)
 | _, _, _, _ => False
end
def edgeMask (pre : List Nat) (e : Edge) : Nat := if Region.binds .any e then (1 <<< e.on) ||| pre.getD e.on 0 else 0
def orOf (pre : List Nat) (o : Oper) : Nat := o.after.toList.foldl (fun m e => m ||| edgeMask pre e) 0
def preGo : List Oper → List Nat → List Nat
 | [], acc => acc
 | o :: r, acc => preGo r (acc ++ [orOf acc o])
def pairOk (ops : Array Oper) (pre : List Nat) (x y : Nat × Oper) : Bool :=
  x.1 == y.1 || (x.2.dst.isNone || x.2.dst != y.2.dst) &&
    (match y.2.dst with
     | some d => !(x.2.looksAt ops).contains d || (pre.getD x.1 0).testBit y.1 || (pre.getD y.1 0).testBit x.1
     | none => true)
def numbered (l : List Oper) : List (Nat × Oper) := (List.range l.length).zip l
def shapeOk (ops : Array Oper) (m N : Nat) : Bool :=
 let pre := preGo ops.toList []
 Region.noSelect ops && decide (m ≤ ops.size) &&
 ((numbered ops.toList).all fun x => pre.getD x.1 0 == orOf pre x.2 && decide (pre.getD x.1 0 < 2 ^ x.1) && (decide (x.1 < m) || pre.getD x.1 0 == 2 ^ x.1 - 1)) &&
 (((numbered ops.toList).take m).all fun x => (match x.2.dst with | some d => decide (d < N) | none => true) && ((numbered ops.toList).take m).all fun y => pairOk ops pre x y)
theorem numbered_get {l : List Oper} {i : Nat} {o : Oper} (h : l[i]? = some o) : (numbered l)[i]? = some (i, o) := by
 have hi : i < l.length := (List.getElem?_eq_some_iff.1 h).1
 simp only [numbered, List.getElem?_zip_eq_some]
 exact ⟨by simp [hi], h⟩
theorem foldl_or_bit (pre : List Nat) (l : List Edge) (m k : Nat) : (l.foldl (fun m e => m ||| edgeMask pre e) m).testBit k = (m.testBit k || l.any fun e => (edgeMask pre e).testBit k) := by
 induction l generalizing m with
 | nil => simp
 | cons e l ih => rw [List.foldl_cons, ih, Nat.testBit_or, List.any_cons, Bool.or_assoc]
theorem orOf_bit (pre : List Nat) (o : Oper) (k : Nat) : (orOf pre o).testBit k = true ↔ ∃ e ∈ o.after, Region.binds .any e = true ∧ (k = e.on ∨ (pre.getD e.on 0).testBit k = true) := by
 unfold orOf
 rw [foldl_or_bit]
 simp only [Nat.zero_testBit, Bool.false_or, List.any_eq_true, Array.mem_toList_iff]
 constructor
 · rintro ⟨e, he, hb⟩
   refine ⟨e, he, ?_⟩
   unfold edgeMask at hb
   split at hb
   · rename_i h1
     refine ⟨h1, ?_⟩
     rw [Nat.testBit_or, Nat.one_shiftLeft, Nat.testBit_two_pow] at hb
     simp only [Bool.or_eq_true, decide_eq_true_eq] at hb
     exact hb.imp (fun h => h.symm) id
   · simp at hb
 · rintro ⟨e, he, h1, h2⟩
   refine ⟨e, he, ?_⟩
   unfold edgeMask
   rw [if_pos h1, Nat.testBit_or, Nat.one_shiftLeft, Nat.testBit_two_pow]
   simp only [Bool.or_eq_true, decide_eq_true_eq]
   exact h2.imp (fun h => h.symm) id
structure Shape (ops : Array Oper) (m N : Nat) (pre : List Nat) : Prop where
 sel : Region.noSelect ops = true
 le : m ≤ ops.size
 mask : ∀ i o, ops[i]? = some o → ∀ k, (pre.getD i 0).testBit k = true ↔ ∃ e ∈ o.after, Region.binds .any e = true ∧ (k = e.on ∨ (pre.getD e.on 0).testBit k = true)
 lt : ∀ i, i < ops.size → ∀ k, (pre.getD i 0).testBit k = true → k < i
 tail : ∀ i, m ≤ i → i < ops.size → ∀ k, k < i → (pre.getD i 0).testBit k = true
 dst : ∀ i o d, i < m → ops[i]? = some o → o.dst = some d → d < N
 ne : ∀ i j oi oj d, i < m → j < m → i ≠ j → ops[i]? = some oi → ops[j]? = some oj → oi.dst = some d → oj.dst ≠ some d
 look : ∀ i j oi oj d, i < m → j < m → i ≠ j → ops[i]? = some oi → ops[j]? = some oj → oj.dst = some d → d ∈ oi.looksAt ops → (pre.getD i 0).testBit j = true ∨ (pre.getD j 0).testBit i = true
theorem shape_of {ops : Array Oper} {m N : Nat} (h : shapeOk ops m N = true) : Shape ops m N (preGo ops.toList []) := by
 unfold shapeOk at h
 simp only [Bool.and_eq_true, decide_eq_true_eq, List.all_eq_true] at h
 obtain ⟨⟨⟨h1, h2⟩, h3⟩, h4⟩ := h
 generalize preGo ops.toList [] = pre at *
 have hn : ∀ {i : Nat} {o : Oper}, ops[i]? = some o → (i, o) ∈ numbered ops.toList := fun h => List.mem_of_getElem? (numbered_get (by simpa using h))
 have hm : ∀ {i : Nat} {o : Oper}, i < m → ops[i]? = some o → (i, o) ∈ (numbered ops.toList).take m := fun hi h => by
  refine List.mem_of_getElem? (i := ?_) (l := _) ?_
  · exact ‹Nat›
  · rw [List.getElem?_take, if_pos hi]; exact numbered_get (by simpa using h)
 have g3 : ∀ {i : Nat} {o : Oper}, ops[i]? = some o → pre.getD i 0 = orOf pre o ∧ pre.getD i 0 < 2 ^ i ∧ (i < m ∨ pre.getD i 0 = 2 ^ i - 1) := fun {i o} h => by
  have := h3 (i, o) (hn h)
  simp only [beq_iff_eq, Bool.or_eq_true, decide_eq_true_eq] at this
  exact ⟨this.1.1, this.1.2, this.2⟩
 have g4 : ∀ {i j : Nat} {oi oj : Oper}, i < m → j < m → ops[i]? = some oi → ops[j]? = some oj → pairOk ops pre (i, oi) (j, oj) = true := fun hi hj hoi hoj => by
  have := (h4 _ (hm hi hoi)).2
  exact this _ (hm hj hoj)
 refine ⟨h1, h2, fun i o hio k => ?_, fun i hi k hk => ?_, fun i hmi hi k hk => ?_, fun i o d hi hio hd => ?_, fun i j oi oj d hi hj hne hoi hoj hd hd' => ?_, fun i j oi oj d hi hj hne hoi hoj hd hl => ?_⟩
 · rw [(g3 hio).1]; exact orOf_bit pre o k
 · have := (g3 (Array.getElem?_eq_getElem hi)).2.1
   rcases Nat.lt_or_ge k i with h | h
   · exact h
   · rw [Nat.testBit_lt_two_pow (Nat.lt_of_lt_of_le this (Nat.pow_le_pow_right (by omega) h))] at hk
     cases hk
 · have := (g3 (Array.getElem?_eq_getElem hi)).2.2
   rcases this with h | h
   · omega
   · rw [h, Nat.testBit_two_pow_sub_one]; simpa using hk
 · have := (h4 _ (hm hi hio)).1
   simp only [hd, decide_eq_true_eq] at this
   exact this
 · have := g4 hi hj hoi hoj
   simp [pairOk, hd, hd', hne] at this
 · have := g4 hi hj hoi hoj
   simp only [pairOk, hd, Bool.or_eq_true, Bool.and_eq_true, beq_iff_eq, hne, false_or] at this
   have h5 := this.2
   simp only [Bool.not_eq_true', List.contains_eq_mem, decide_eq_false_iff_not] at h5
   rcases h5 with (h5 | h5) | h5
   · exact absurd hl h5
   · exact .inl h5
   · exact .inr h5
section sound
def sp (S : List Spec) (i : Nat) : Spec := S.getD i (.is undef)
def frameAt (ops : Array Oper) (S : List Spec) (u : Nat → Value) (a0 : Act) : Nat → Act
 | 0 => a0
 | i + 1 => (frameAt ops S u a0 i).put ((ops[i]?).bind (·.dst)) ((sp S i).val (u i))
def factsAt (ops : Array Oper) (S : List Spec) (u : Nat → Value) : Nat → Facts
 | 0 => []
 | i + 1 => match ops[i]?, sp S i with
  | some o, .has p => factOf o p (u i) (factsAt ops S u i)
  | _, _ => factsAt ops S u i
variable {P : Program} {ops : Array Oper} {Q : Exit → Act → World → Prop} {W0 : World} {m N : Nat} {pre : List Nat} {S : List Spec} {a0 : Act}
theorem text_unroll {Fin : Act → Facts → Prop} (hm : m ≤ ops.size) (u : Nat → Value) : ∀ n k, k + n = m → wpText P ops W0 Fin ((ops.toList.take m).drop k) (S.drop k) (frameAt ops S u a0 k) (factsAt ops S u k) →
 (∀ i, k ≤ i → i < m → ∀ o, ops[i]? = some o → Owed P ops W0 o (sp S i) (frameAt ops S u a0 i) (factsAt ops S u i) ∧ (∀ p, sp S i = .has p → o.dst.isSome = true ∧ ∀ v w w', Below w.heap.size w w' → p v w → p v w')) ∧ Fin (frameAt ops S u a0 m) (factsAt ops S u m) := by
 intro n
 induction n with
 | zero =>
  intro k hk h
  have : k = m := by omega
  subst this
  have hd : (ops.toList.take k).drop k = [] := by simp
  rw [hd] at h
  cases hs : S.drop k with
  | nil => rw [hs] at h; exact ⟨fun i h1 h2 => absurd h1 (by omega), h⟩
  | cons s r => rw [hs] at h; cases s <;> exact (h : False).elim
 | succ n ih =>
  intro k hk h
  have hkm : k < m := by omega
  have hks : k < ops.size := by omega
  have hd : (ops.toList.take m).drop k = ops[k] :: (ops.toList.take m).drop (k + 1) := by
   rw [List.drop_eq_getElem_cons (by simp; omega)]; simp
  rw [hd] at h
  have hg : ops[k]? = some ops[k] := Array.getElem?_eq_getElem hks
  cases hs : S.drop k with
  | nil => rw [hs] at h; exact (h : False).elim
  | cons s r =>
   rw [hs] at h
   have hr : r = S.drop (k + 1) := by rw [← List.tail_drop, hs]; rfl
   have hsp : sp S k = s := by
    have h0 : S[k]? = some s := by
     have : (S.drop k)[0]? = some s := by rw [hs]; rfl
     rw [List.getElem?_drop] at this; simpa using this
    unfold sp; simp [List.getD, h0]
   subst hr
   cases s with
   | is c =>
    obtain ⟨h1, h2⟩ := h
    have e1 : frameAt ops S u a0 (k + 1) = (frameAt ops S u a0 k).put ops[k].dst c := by simp [frameAt, hg, hsp, Spec.val]
    have e2 : factsAt ops S u (k + 1) = factsAt ops S u k := by simp [factsAt, hg, hsp]
    rw [← e1, ← e2] at h2
    obtain ⟨g1, g2⟩ := ih (k + 1) (by omega) h2
    refine ⟨fun i hi him o ho => ?_, g2⟩
    rcases Nat.eq_or_lt_of_le hi with rfl | hlt
    · rw [hg] at ho; injection ho with ho; subst ho
      rw [hsp]; exact ⟨h1, fun p hp => by cases hp⟩
    · exact g1 i hlt him o ho
   | has p =>
    obtain ⟨h1, h3, h4, h2⟩ := h
    have e1 : frameAt ops S u a0 (k + 1) = (frameAt ops S u a0 k).put ops[k].dst (u k) := by simp [frameAt, hg, hsp, Spec.val]
    have e2 : factsAt ops S u (k + 1) = factOf ops[k] p (u k) (factsAt ops S u k) := by simp [factsAt, hg, hsp]
    have h2 := h2 (u k)
    rw [← e1, ← e2] at h2
    obtain ⟨g1, g2⟩ := ih (k + 1) (by omega) h2
    refine ⟨fun i hi him o ho => ?_, g2⟩
    rcases Nat.eq_or_lt_of_le hi with rfl | hlt
    · rw [hg] at ho; injection ho with ho; subst ho
      rw [hsp]; exact ⟨h1, fun p' hp => by cases hp; exact ⟨h3, h4⟩⟩
    · exact g1 i hlt him o ho
theorem put_size (a : Act) (d : Option Tmp) (v : Value) : (a.put d v).tmps.size = a.tmps.size := by cases d <;> simp [Act.put]
theorem put_defers_same (a : Act) (d : Option Tmp) (v : Value) : (a.put d v).defers = a.defers := by cases d <;> rfl
theorem put_get_same (a : Act) (d : Tmp) (v : Value) (h : d < a.tmps.size) : (a.put (some d) v).tmps[d]? = some v := by simp [Act.put, h]
theorem put_get_ne (a : Act) (d : Option Tmp) (v : Value) (s : Tmp) (h : d ≠ some s) : (a.put d v).tmps[s]? = a.tmps[s]? := by
 cases d with
 | none => rfl
 | some d =>
  have hne : d ≠ s := fun e => h (by rw [e])
  simp [Act.put, Array.getElem?_setIfInBounds_ne hne]
theorem frameAt_size (u : Nat → Value) (i : Nat) : (frameAt ops S u a0 i).tmps.size = a0.tmps.size := by
 induction i with
 | zero => rfl
 | succ i ih => rw [frameAt, put_size, ih]
theorem frameAt_defers (u : Nat → Value) (i : Nat) : (frameAt ops S u a0 i).defers = a0.defers := by
 induction i with
 | zero => rfl
 | succ i ih => rw [frameAt, put_defers_same, ih]
theorem frameAt_old (u : Nat → Value) (s : Tmp) (i : Nat) (h : ∀ j o, j < i → ops[j]? = some o → o.dst ≠ some s) : (frameAt ops S u a0 i).tmps[s]? = a0.tmps[s]? := by
 induction i with
 | zero => rfl
 | succ i ih =>
  rw [frameAt, put_get_ne, ih fun j o hj ho => h j o (by omega) ho]
  cases hg : ops[i]? with
  | none => simp
  | some o => simpa using h i o (by omega) hg
theorem frameAt_new (sh : Shape ops m N pre) (hN : a0.tmps.size = N) (u : Nat → Value) (s : Tmp) (i : Nat) (hi : i ≤ m) {j : Nat} {o : Oper} (hj : j < i) (ho : ops[j]? = some o) (hd : o.dst = some s) :
 (frameAt ops S u a0 i).tmps[s]? = some ((sp S j).val (u j)) := by
 induction i with
 | zero => omega
 | succ i ih =>
  rcases Nat.eq_or_lt_of_le (Nat.lt_succ_iff.1 hj) with rfl | hlt
  · rw [frameAt, ho]
    show ((frameAt ops S u a0 j).put o.dst _).tmps[s]? = _
    rw [hd, put_get_same _ _ _ (by rw [frameAt_size, hN]; exact sh.dst j o s (by omega) ho hd)]
  · rw [frameAt, put_get_ne, ih (by omega) hlt]
    cases hg : ops[i]? with
    | none => simp
    | some o' => simpa using sh.ne j i o o' s (by omega) (by omega) (by omega) ho hg hd
structure Inv (ops : Array Oper) (W0 : World) (m : Nat) (pre : List Nat) (S : List Spec) (a0 : Act) (listed : Array Bool) (u : Nat → Value) (f : Act) (w : World) : Prop where
 size : listed.size = ops.size
 clos : ∀ i, listed.getD i false = true → ∀ k, (pre.getD i 0).testBit k = true → listed.getD k false = true
 low : ∀ t, m ≤ t → listed.getD t false = false
 defers : f.defers = a0.defers
 fsize : f.tmps.size = a0.tmps.size
 old : ∀ s, (∀ j o, j < m → ops[j]? = some o → o.dst = some s → listed.getD j false = false) → f.tmps[s]? = a0.tmps[s]?
 new : ∀ j o s, j < m → ops[j]? = some o → o.dst = some s → listed.getD j false = true → f.tmps[s]? = some ((sp S j).val (u j))
 ok : ∀ j, j < m → listed.getD j false = true → (sp S j).ok ((sp S j).val (u j)) w
 reach : Below W0.heap.size W0 w
theorem factsAt_mem {u : Nat → Value} {x : Tmp × (Value → World → Prop) × Value} : ∀ i, x ∈ factsAt ops S u i → ∃ j o, j < i ∧ ops[j]? = some o ∧ o.dst = some x.1 ∧ sp S j = .has x.2.1 ∧ x.2.2 = u j := by
 intro i
 induction i with
 | zero => intro h; cases h
 | succ i ih =>
  intro h
  unfold factsAt at h
  have old : x ∈ factsAt ops S u i → ∃ j o, j < i + 1 ∧ ops[j]? = some o ∧ o.dst = some x.1 ∧ sp S j = .has x.2.1 ∧ x.2.2 = u j := fun h => by
   obtain ⟨j, o, h1, h2⟩ := ih h
   exact ⟨j, o, by omega, h2⟩
  split at h
  · rename_i o p ho hs
    unfold factOf at h
    split at h
    · rename_i d hd
      rcases List.mem_cons.1 h with rfl | h
      · exact ⟨i, o, by omega, ho, hd, hs, rfl⟩
      · exact old h
    · exact old h
  · exact old h
theorem factsOf_of {seen : List Tmp} {L : Facts} {w : World} (h : ∀ x ∈ L, seen.contains x.1 = true → x.2.1 x.2.2 w) : factsOf seen L w := by
 induction L with
 | nil => trivial
 | cons x L ih => exact ⟨h x (by simp), ih fun y hy => h y (by simp [hy])⟩
theorem factsAll_of {L : Facts} {w : World} (h : ∀ x ∈ L, x.2.1 x.2.2 w) : factsAll L w := by
 induction L with
 | nil => trivial
 | cons x L ih => exact ⟨h x (by simp), ih fun y hy => h y (by simp [hy])⟩
theorem getD_set_same (listed : Array Bool) {i : Nat} (h : i < listed.size) (d : Bool) : (listed.setIfInBounds i true).getD i d = true := by
 simp [Array.getD_eq_getD_getElem?, h]
theorem getD_false_true (listed : Array Bool) {i : Nat} (h : i < listed.size) (x : Bool) : listed.getD i true = x ↔ listed.getD i false = x := by
 simp [Array.getD_eq_getD_getElem?, h]
theorem agree (sh : Shape ops m N pre) (hN : a0.tmps.size = N) {listed : Array Bool} {u : Nat → Value} {f : Act} {w : World} (I : Inv ops W0 m pre S a0 listed u f w)
 {i : Nat} {o : Oper} (hi : i < m) (ho : ops[i]? = some o) (hun : listed.getD i false = false) (hpre : ∀ k, (pre.getD i 0).testBit k = true → listed.getD k false = true) :
 ∀ x ∈ o.looksAt ops, f.tmps[x]? = (frameAt ops S u a0 i).tmps[x]? := by
 intro x hx
 have his : i < ops.size := (Array.getElem?_eq_some_iff.1 ho).1
 by_cases hw : ∃ j oj, j < m ∧ j ≠ i ∧ ops[j]? = some oj ∧ oj.dst = some x
 · obtain ⟨j, oj, hj, hne, hoj, hd⟩ := hw
   have hjs : j < ops.size := (Array.getElem?_eq_some_iff.1 hoj).1
   rcases sh.look i j o oj x hi hj (Ne.symm hne) ho hoj hd hx with h | h
   · have hji : j < i := sh.lt i his j h
     rw [I.new j oj x hj hoj hd (hpre j h), frameAt_new sh hN u x i (by omega) hji hoj hd]
   · have hij : i < j := sh.lt j hjs i h
     have hjun : listed.getD j false = false := by
      cases hl : listed.getD j false with
      | false => rfl
      | true => rw [I.clos j hl i h] at hun; cases hun
     have uniq : ∀ k ok, k < m → ops[k]? = some ok → ok.dst = some x → k = j := fun k ok hk hok hdk => by
      rcases Nat.decEq k j with hkj | hkj
      · exact absurd hd (sh.ne k j ok oj x hk hj hkj hok hoj hdk)
      · exact hkj
     rw [I.old x (fun k ok hk hok hdk => by rw [uniq k ok hk hok hdk]; exact hjun), frameAt_old u x i (fun k ok hk hok hdk => by have := uniq k ok (by omega) hok hdk; omega)]
 · rw [I.old x (fun k ok hk hok hdk => by
    rcases Nat.decEq k i with hki | hki
    · exact absurd ⟨k, ok, hk, hki, hok, hdk⟩ hw
    · rw [hki]; exact hun),
    frameAt_old u x i (fun k ok hk hok hdk => hw ⟨k, ok, by omega, by omega, hok, hdk⟩)]
theorem eval_agree {f g : Act} {o : Oper} (h : ∀ x ∈ o.looksAt ops, f.tmps[x]? = g.tmps[x]?) : ∀ x ∈ o.op.operands, f.eval x = g.eval x := by
 intro x hx
 cases x with
 | tmp t =>
  have := h t (List.mem_append_left _ (List.mem_filterMap.2 ⟨.tmp t, by simpa using hx, rfl⟩))
  simp [Act.eval, Array.getD_eq_getD_getElem?, this]
 | const v => rfl
 | global n => rfl
 | func n => rfl
theorem wanted_agree {f g : Act} {o : Oper} (h : ∀ x ∈ o.looksAt ops, f.tmps[x]? = g.tmps[x]?) : Region.wanted o (yielded ops f.tmps) = Region.wanted o (yielded ops g.tmps) := by
 unfold Region.wanted
 cases hg : o.guard with
 | none => rfl
 | some gw =>
  obtain ⟨j, want⟩ := gw
  have : yielded ops f.tmps j = yielded ops g.tmps j := by
   unfold yielded
   cases hd : (ops[j]?).bind (·.dst) with
   | none => rfl
   | some t =>
    have := h t (List.mem_append_right _ (by simp [hg, hd]))
    simp only [Option.bind_some, this]
  simp only [this]
theorem wp_carry {o : Oper} {a f : Act} {w : World} {K K' : Act → World → Prop} (he : execOp f.eval o = execOp a.eval o) (hdef : ∀ a' w', K a' w' → a'.defers = a.defers)
 (hK : ∀ v w', K (a.put o.dst v) w' → K' (f.put o.dst v) w') (h : o.wp P a w K (fun _ _ _ => False)) : o.wp P f w K' Q := by
 unfold Oper.wp at *
 rw [he]
 generalize (execOp a.eval o).run P w = r at *
 cases r with
 | ok n w' =>
  cases n <;> simp only [Oper.upon] at h ⊢
  case value v => exact hK v w' h
  case skip => exact hK undef w' h
  case defer d =>
   have := hdef _ _ h
   rw [put_defers_same] at this
   have := congrArg List.length this
   simp at this
  case enter g args =>
   refine Calls.mono h fun e w'' he => ?_
   cases e with
   | returned v => exact hK v w'' he
   | panicked c => exact he.elim
   | outgrown => obtain ⟨_, _, hf⟩ := he; exact hf.elim
  case row row args => exact Rows.mono h fun v w'' he => hK v w'' he
 | halt x w' =>
  cases x <;> simp only [Oper.upon] at h ⊢
theorem ok_below {s : Spec} {v : Value} {w w' : World} (hm : ∀ p, s = .has p → ∀ v w w', Below w.heap.size w w' → p v w → p v w') (hb : Below w.heap.size w w') (h : s.ok v w) : s.ok v w' := by
 cases s with
 | is c => exact h
 | has p => exact hm p rfl v w w' hb h
def AllOwed (P : Program) (ops : Array Oper) (W0 : World) (m : Nat) (S : List Spec) (a0 : Act) : Prop :=
 ∀ u : Nat → Value, ∀ i, i < m → ∀ o, ops[i]? = some o → Owed P ops W0 o (sp S i) (frameAt ops S u a0 i) (factsAt ops S u i) ∧ (∀ p, sp S i = .has p → o.dst.isSome = true ∧ ∀ v w w', Below w.heap.size w w' → p v w → p v w')
theorem fun_clos {listed : Array Bool} {u : Nat → Value} {f : Act} {w : World} (I : Inv ops W0 m pre S a0 listed u f w) {i : Nat} (hil : i < listed.size)
 (hpre : ∀ k, (pre.getD i 0).testBit k = true → listed.getD k false = true) (j : Nat) (hj : (listed.setIfInBounds i true).getD j false = true) (k : Nat) (hk : (pre.getD j 0).testBit k = true) : (listed.setIfInBounds i true).getD k false = true := by
 rcases Nat.decEq i j with hij | hij
 · rw [getD_set_ne false hij] at hj
   rcases Nat.decEq i k with hik | hik
   · rw [getD_set_ne false hik]; exact I.clos j hj k hk
   · rw [← hik]; exact getD_set_same listed hil false
 · subst hij
   rcases Nat.decEq i k with hik | hik
   · rw [getD_set_ne false hik]; exact hpre k hk
   · rw [← hik]; exact getD_set_same listed hil false
theorem step_inv (sh : Shape ops m N pre) (hN : a0.tmps.size = N) (H : AllOwed P ops W0 m S a0) {listed : Array Bool} {u : Nat → Value} {f : Act} {w : World} (I : Inv ops W0 m pre S a0 listed u f w)
 {i : Nat} {o : Oper} (hi : i < m) (ho : ops[i]? = some o) (hun : listed.getD i false = false) (hpre : ∀ k, (pre.getD i 0).testBit k = true → listed.getD k false = true) {K' : Act → World → Prop}
 (hK : ∀ u' f' w', Inv ops W0 m pre S a0 (listed.setIfInBounds i true) u' f' w' → K' f' w') : wpOp P ops Q i K' f w := by
 have his : i < ops.size := (Array.getElem?_eq_some_iff.1 ho).1
 have hil : i < listed.size := by rw [I.size]; exact his
 have hag := agree sh hN I hi ho hun hpre
 obtain ⟨how, hmono⟩ := H u i hi o ho
 have monoAll : ∀ j, j < m → ∀ p, sp S j = .has p → ∀ v w w', Below w.heap.size w w' → p v w → p v w' := fun j hj p hp => by
  have hjs : j < ops.size := by have := sh.le; omega
  exact ((H u j hj _ (Array.getElem?_eq_getElem hjs)).2 p hp).2
 -- the next state
 have next : ∀ v w', Below w.heap.size w w' → (sp S i).ok v w' → (o.dst = none → v = undef) → Inv ops W0 m pre S a0 (listed.setIfInBounds i true) (fun k => if k = i then v else u k) (f.put o.dst v) w' := by
  intro v w' hb hok _
  have hval : (sp S i).val v = v := by
   cases hs : sp S i with
   | is c => rw [hs] at hok; exact hok.symm
   | has p => rfl
  refine ⟨by simpa using I.size, fun j hj k hk => ?_, fun t ht => ?_, by rw [put_defers_same, I.defers], by rw [put_size, I.fsize], fun s hs => ?_, fun j oj s hj hoj hd hl => ?_, fun j hj hl => ?_, I.reach.trans (hb.mono I.reach.size)⟩
  · rcases Nat.decEq i j with hij | hij
    · rw [getD_set_ne false hij] at hj
      rcases Nat.decEq i k with hik | hik
      · rw [getD_set_ne false hik]; exact I.clos j hj k hk
      · rw [← hik]; exact getD_set_same listed hil false
    · subst hij
      rcases Nat.decEq i k with hik | hik
      · rw [getD_set_ne false hik]; exact hpre k hk
      · rw [← hik]; exact getD_set_same listed hil false
  · rw [getD_set_ne false (by omega)]; exact I.low t ht
  · have h1 : o.dst ≠ some s := fun h => by
     have := hs i o hi ho h
     rw [getD_set_same listed hil false] at this
     cases this
    rw [put_get_ne _ _ _ _ h1]
    refine I.old s fun j oj hj hoj hd => ?_
    have := hs j oj hj hoj hd
    rcases Nat.decEq i j with hij | hij
    · rwa [getD_set_ne false hij] at this
    · rw [← hij]; exact hun
  · rcases Nat.decEq i j with hij | hij
    · rw [getD_set_ne false hij] at hl
      have h1 : o.dst ≠ some s := sh.ne j i oj o s hj hi (Ne.symm hij) hoj ho hd
      rw [put_get_ne _ _ _ _ h1, if_neg (Ne.symm hij)]
      exact I.new j oj s hj hoj hd hl
    · subst hij
      rw [ho] at hoj; injection hoj with hoj; subst hoj
      rw [hd, put_get_same _ _ _ (by rw [I.fsize, hN]; exact sh.dst i o s hi ho hd)]
      simp [hval]
  · rcases Nat.decEq i j with hij | hij
    · rw [getD_set_ne false hij] at hl
      simp only [if_neg (Ne.symm hij)]
      exact ok_below (monoAll j hj) hb (I.ok j hj hl)
    · subst hij
      simp only [if_true, hval]
      exact hok
 unfold wpOp
 rw [ho]
 simp only []
 rw [wanted_agree hag]
 unfold Owed at how
 obtain ⟨bs, d, rfl⟩ := of_below I.reach
 split
 · rename_i hw
   rw [if_pos hw] at how
   left
   have hfacts : factsOf (o.looksAt ops) (factsAt ops S u i) (app W0 bs d) := by
    refine factsOf_of fun x hx hc => ?_
    obtain ⟨j, oj, hji, hoj, hd, hs, hv⟩ := factsAt_mem i hx
    have hjs : j < ops.size := (Array.getElem?_eq_some_iff.1 hoj).1
    have hc : x.1 ∈ o.looksAt ops := by simpa using hc
    have hl : listed.getD j false = true := by
     rcases sh.look i j o oj x.1 hi (by omega) (by omega) ho hoj hd hc with h | h
     · exact hpre j h
     · have := sh.lt j hjs i h; omega
    have := I.ok j (by omega) hl
    rw [hs] at this
    rw [hv]
    exact this
   have := how bs d hfacts (fun a' w' => a'.defers = (frameAt ops S u a0 i).defers ∧ ∃ v, Below (app W0 bs d).heap.size (app W0 bs d) w' ∧ (sp S i).ok v w' ∧ (o.dst = none → v = undef ∨ ∃ c, sp S i = .is c) ∧ ∀ s, o.dst = some s → a'.tmps[s]? = some v)
    (fun v w' hb hok => ⟨put_defers_same _ _ _, v, hb, hok, (fun hn => by
     cases hs : sp S i with
     | is c => exact .inr ⟨c, rfl⟩
     | has p => exact absurd (hmono p hs).1 (by rw [hn]; simp)),
     fun s hs => by rw [hs]; exact put_get_same _ _ _ (by rw [frameAt_size, hN]; exact sh.dst i o s hi ho hs)⟩)
   refine wp_carry (execOp_congr o (fun cs b => Region.noSelect_spec sh.sel i o cs b ho) (eval_agree hag)) (fun a' w' h => h.1) (fun v w' h => ?_) this
   obtain ⟨_, v', hb, hok, hnone, hsome⟩ := h
   cases hdst : o.dst with
   | none =>
    rw [hdst] at hnone
    -- nothing is written: the value does not matter
    rcases hnone rfl with h | ⟨c, hc⟩
    · have := next v' w' hb hok (fun _ => h)
      rw [hdst] at this
      exact hK _ _ _ this
    · refine hK u _ _ ?_
      refine ⟨by simpa using I.size, fun j hj k hk => ?_, fun t ht => ?_, I.defers, I.fsize, fun s hs => ?_, fun j oj s hj hoj hd hl => ?_, fun j hj hl => ?_, I.reach.trans (hb.mono I.reach.size)⟩
      · exact fun_clos I hil hpre j hj k hk
      · rw [getD_set_ne false (by omega)]; exact I.low t ht
      · refine I.old s fun j oj hj hoj hd => ?_
        have := hs j oj hj hoj hd
        rcases Nat.decEq i j with hij | hij
        · rwa [getD_set_ne false hij] at this
        · rw [← hij]; exact hun
      · rcases Nat.decEq i j with hij | hij
        · rw [getD_set_ne false hij] at hl
          exact I.new j oj s hj hoj hd hl
        · subst hij
          rw [ho] at hoj; injection hoj with hoj; subst hoj
          rw [hdst] at hd; cases hd
      · rcases Nat.decEq i j with hij | hij
        · rw [getD_set_ne false hij] at hl
          exact ok_below (monoAll j hj) hb (I.ok j hj hl)
        · subst hij
          rw [hc] at hok ⊢
          exact rfl
   | some s =>
    have h1 := hsome s hdst
    rw [hdst, put_get_same _ _ _ (by rw [frameAt_size, hN]; exact sh.dst i o s hi ho hdst)] at h1
    injection h1 with h1
    subst h1
    have := next v w' hb hok (fun h => by rw [hdst] at h; cases h)
    rw [hdst] at this
    exact hK _ _ _ this
 · rename_i hw
   rw [if_neg hw] at how
   exact hK _ _ _ (next undef _ (Below.refl _ _) (how bs d) (fun _ => rfl))
theorem tail_any (sh : Shape ops m N pre) : ∀ (fuel t : Nat) (listed : Array Bool) (f : Act) (w : World), m ≤ t → t + fuel = ops.size → listed.size = ops.size → (∀ k, k < t → listed.getD k false = true) → (∀ k, t ≤ k → listed.getD k false = false) →
 wpOps P ops Q (List.range' t fuel) f w → wpAny P .any ops Q fuel listed f w := by
 intro fuel
 induction fuel with
 | zero =>
  intro t listed f w hmt ht hs hlt hge h
  refine ⟨List.filter_eq_nil_iff.2 fun i hi => ?_, h⟩
  have hi : i < ops.size := List.mem_range.1 hi
  have := hlt i (by omega)
  simp [(getD_false_true listed (by omega) true).2 this]
 | succ fuel ih =>
  intro t listed f w hmt ht hs hlt hge h
  have hmem : ∀ i, i ∈ Region.ready .any ops listed → i = t := fun i hi => by
   obtain ⟨h1, o, ho, h2⟩ := mem_ready.1 hi
   have his : i < ops.size := (Array.getElem?_eq_some_iff.1 ho).1
   have hun : listed.getD i false = false := (getD_false_true listed (by omega) false).1 h1
   rcases Nat.lt_trichotomy i t with h3 | h3 | h3
   · rw [hlt i h3] at hun; cases hun
   · exact h3
   · obtain ⟨e, he, hb, hk⟩ := (sh.mask i o ho t).1 (sh.tail i (by omega) his t h3)
     have hon := h2 e he hb
     rcases hk with hk | hk
     · rw [← hk, hge t (Nat.le_refl _)] at hon; cases hon
     · have hes : e.on < ops.size := by
        rcases Nat.lt_or_ge e.on ops.size with h | h
        · exact h
        · rw [hge e.on (by omega)] at hon; cases hon
       have := sh.lt e.on hes t hk
       rw [hge e.on (by omega)] at hon; cases hon
  have hin : t ∈ Region.ready .any ops listed := by
   have hts : t < ops.size := by omega
   refine mem_ready.2 ⟨(getD_false_true listed (by omega) false).2 (hge t (Nat.le_refl _)), ops[t], Array.getElem?_eq_getElem hts, fun e he hb => ?_⟩
   have := sh.lt t hts e.on ((sh.mask t _ (Array.getElem?_eq_getElem hts) e.on).2 ⟨e, he, hb, .inl rfl⟩)
   exact hlt _ this
  refine ⟨fun h0 => absurd hin (by rw [h0]; simp), fun i hi => ?_⟩
  obtain rfl := hmem i hi
  rw [List.range'_succ, wpOps_cons] at h
  refine wpOp_mono (fun a' w' h' => ih (i + 1) _ a' w' (by omega) (by omega) (by simpa using hs) (fun k hk => ?_) (fun k hk => ?_) h') h
  · rcases Nat.decEq i k with hik | hik
    · rw [getD_set_ne false hik]; exact hlt k (by omega)
    · rw [← hik]; exact getD_set_same listed (by omega) false
  · rw [getD_set_ne false (by omega)]; exact hge k (by omega)
theorem frame_done (sh : Shape ops m N pre) (hN : a0.tmps.size = N) {listed : Array Bool} {u : Nat → Value} {f : Act} {w : World} (I : Inv ops W0 m pre S a0 listed u f w) (hall : ∀ j, j < m → listed.getD j false = true) :
 f = frameAt ops S u a0 m := by
 have hd : f.defers = (frameAt ops S u a0 m).defers := by rw [I.defers, frameAt_defers]
 have ht : f.tmps = (frameAt ops S u a0 m).tmps := by
  apply Array.ext_getElem?
  intro s
  by_cases hw : ∃ j oj, j < m ∧ ops[j]? = some oj ∧ oj.dst = some s
  · obtain ⟨j, oj, hj, hoj, hds⟩ := hw
    rw [I.new j oj s hj hoj hds (hall j hj), frameAt_new sh hN u s m (Nat.le_refl _) hj hoj hds]
  · rw [I.old s (fun j oj hj hoj hds => absurd ⟨j, oj, hj, hoj, hds⟩ hw), frameAt_old u s m (fun j oj hj hoj hds => hw ⟨j, oj, hj, hoj, hds⟩)]
 obtain ⟨ft, fd⟩ := f
 simp only at hd ht
 rw [show frameAt ops S u a0 m = ⟨(frameAt ops S u a0 m).tmps, (frameAt ops S u a0 m).defers⟩ from rfl, hd, ht]
theorem go_any (sh : Shape ops m N pre) (hN : a0.tmps.size = N) (H : AllOwed P ops W0 m S a0)
 (hfin : ∀ u bs d, factsAll (factsAt ops S u m) (app W0 bs d) → wpOps P ops Q (List.range' m (ops.size - m)) (frameAt ops S u a0 m) (app W0 bs d)) :
 ∀ (fuel : Nat) (listed : Array Bool) (u : Nat → Value) (f : Act) (w : World), listed.toList.count false = fuel → Inv ops W0 m pre S a0 listed u f w → wpAny P .any ops Q fuel listed f w := by
 intro fuel
 induction fuel with
 | zero =>
  intro listed u f w hc I
  have hall : ∀ j, j < ops.size → listed.getD j false = true := fun j hj => by
   have hjl : j < listed.size := by rw [I.size]; exact hj
   have h0 : false ∉ listed.toList := List.count_eq_zero.1 hc
   have : listed[j] ≠ false := fun h => h0 (by rw [← h]; exact Array.mem_toList_iff.2 (Array.getElem_mem hjl))
   simpa [Array.getD_eq_getD_getElem?, hjl] using this
  have hm : m = ops.size := by
   rcases Nat.lt_or_ge m ops.size with h | h
   · have := hall m h; rw [I.low m (Nat.le_refl _)] at this; cases this
   · have := sh.le; omega
  have hf := frame_done sh hN I (fun j hj => hall j (by omega))
  refine ⟨List.filter_eq_nil_iff.2 fun i hi => ?_, ?_⟩
  · have hi : i < ops.size := List.mem_range.1 hi
    simp [(getD_false_true listed (by have := I.size; omega) true).2 (hall i hi)]
  · obtain ⟨bs, d, rfl⟩ := of_below I.reach
    have hfa : factsAll (factsAt ops S u m) (app W0 bs d) := factsAll_of fun x hx => by
     obtain ⟨j, oj, hji, hoj, hd, hs, hv⟩ := factsAt_mem m hx
     have := I.ok j hji (hall j (by omega))
     rw [hs] at this; rw [hv]; exact this
    have := hfin u bs d hfa
    rw [hm, Nat.sub_self] at this
    rw [hf, hm]
    exact this
 | succ fuel ih =>
  intro listed u f w hc I
  by_cases hall : ∀ j, j < m → listed.getD j false = true
  · have hf := frame_done sh hN I hall
    have hcount : ops.size = m + (fuel + 1) := by
     have e : listed.toList = List.replicate m true ++ List.replicate (ops.size - m) false := by
      apply List.ext_getElem?
      intro k
      rw [List.getElem?_append]
      have hk := I.size
      have hle := sh.le
      by_cases hkm : k < m
      · have h1 := hall k hkm
        have hkl : k < listed.size := by omega
        simp [hkm, hkl]
        simpa [Array.getD_eq_getD_getElem?, hkl] using h1
      · have h1 := I.low k (by omega)
        by_cases hkl : k < listed.size
        · have hkl' : k - m < ops.size - m := by omega
          simp [hkm, hkl, hkl']
          simpa [Array.getD_eq_getD_getElem?, hkl] using h1
        · have hkl' : ¬ k - m < ops.size - m := by omega
          simp [hkm, hkl, hkl']
     rw [e] at hc
     have hle := sh.le
     simp [List.count_append, List.count_replicate] at hc
     omega
    obtain ⟨bs, d, rfl⟩ := of_below I.reach
    have hfa : factsAll (factsAt ops S u m) (app W0 bs d) := factsAll_of fun x hx => by
     obtain ⟨j, oj, hji, hoj, hd, hs, hv⟩ := factsAt_mem m hx
     have := I.ok j hji (hall j (by omega))
     rw [hs] at this; rw [hv]; exact this
    have := hfin u bs d hfa
    rw [hf]
    rw [show ops.size - m = fuel + 1 by omega] at this
    exact tail_any sh (fuel + 1) m listed _ _ (Nat.le_refl _) (by omega) I.size hall I.low this
  · have hsome : ∃ j, j < m ∧ listed.getD j false = false := by
     refine Classical.byContradiction fun hno => hall fun j hj => ?_
     cases hl : listed.getD j false with
     | true => rfl
     | false => exact absurd ⟨j, hj, hl⟩ hno
    have hleast : ∃ j, (j < m ∧ listed.getD j false = false) ∧ ∀ k, k < j → listed.getD k false = true := by
     obtain ⟨j, hj⟩ := hsome
     induction j using Nat.strongRecOn with
     | _ j ihj =>
      by_cases hk : ∃ k, k < j ∧ listed.getD k false = false
      · obtain ⟨k, hkj, hkf⟩ := hk
        exact ihj k hkj ⟨by omega, hkf⟩
      · exact ⟨j, hj, fun k hkj => by
         cases hl : listed.getD k false with
         | true => rfl
         | false => exact absurd ⟨k, hkj, hl⟩ hk⟩
    have hle := sh.le
    refine ⟨fun h0 => ?_, fun i hi => ?_⟩
    · obtain ⟨j, ⟨hj, hjf⟩, hlt⟩ := hleast
      have hjs : j < ops.size := by omega
      have : j ∈ Region.ready .any ops listed := mem_ready.2 ⟨(getD_false_true listed (by rw [I.size]; exact hjs) false).2 hjf, ops[j], Array.getElem?_eq_getElem hjs, fun e he hb =>
       hlt _ (sh.lt j hjs e.on ((sh.mask j _ (Array.getElem?_eq_getElem hjs) e.on).2 ⟨e, he, hb, .inl rfl⟩))⟩
      rw [h0] at this; cases this
    · obtain ⟨h1, o, ho, h2⟩ := mem_ready.1 hi
      have his : i < ops.size := (Array.getElem?_eq_some_iff.1 ho).1
      have hun : listed.getD i false = false := (getD_false_true listed (by rw [I.size]; exact his) false).1 h1
      have hpre : ∀ k, (pre.getD i 0).testBit k = true → listed.getD k false = true := fun k hk => by
       obtain ⟨e, he, hb, hor⟩ := (sh.mask i o ho k).1 hk
       rcases hor with rfl | hor
       · exact h2 e he hb
       · exact I.clos _ (h2 e he hb) k hor
      have him : i < m := by
       rcases Nat.lt_or_ge i m with h | h
       · exact h
       · exact absurd (fun j hj => hpre j (sh.tail i h his j (by omega))) hall
      refine step_inv sh hN H I him ho hun hpre fun u' f' w' I' => ih _ u' f' w' ?_ I'
      have hil : i < listed.size := by rw [I.size]; exact his
      have hli : listed[i] = false := by simpa [Array.getD_eq_getD_getElem?, hil] using hun
      have : (listed.setIfInBounds i true).toList.count false = listed.toList.count false - 1 := by
       rw [Array.toList_setIfInBounds, List.count_set (by simpa using hil)]
       simp [hli]
      omega
theorem wp_region_text0 {id : Nat} (m : Nat) (S : List Spec) (hfol : P.follows .mixedOrders = true) (hshape : shapeOk ops m a0.tmps.size = true) {w : World}
 (h : wpText P ops w (fun a L => ∀ bs d, factsAll L (app w bs d) → wpList P ops Q (ops.toList.drop m) a (app w bs d)) (ops.toList.take m) S a0 []) :
 (Code.region id ops true).wp P Q a0 w := by
 have sh := shape_of hshape
 refine wp_region_any hfol ?_
 have hu := fun u => text_unroll (P := P) (ops := ops) (W0 := w) (S := S) (a0 := a0) sh.le u m 0 (by omega) (by simpa [frameAt, factsAt] using h)
 refine go_any (W0 := w) (S := S) (pre := preGo ops.toList []) sh rfl (fun u i hi o ho => (hu u).1 i (by omega) hi o ho) (fun u bs d hf => ?_) ops.size _ (fun _ => undef) a0 _ ?_ ?_
 · have := (hu u).2 bs d hf
   rwa [← wpOps_eq_wpList (ops.toList.drop m) m (fun j => by simp), List.length_drop, Array.length_toList] at this
 · simp
 · refine ⟨by simp, fun i hi => ?_, fun t _ => ?_, rfl, rfl, fun _ _ => rfl, fun j o s _ _ _ hl => ?_, fun j _ hl => ?_, (Below.refl _ _).drew⟩
   · simp [Array.getD_eq_getD_getElem?, Array.getElem?_replicate] at hi
     split at hi <;> simp at hi
   · simp only [Array.getD_eq_getD_getElem?, Array.getElem?_replicate]; split <;> rfl
   · simp [Array.getD_eq_getD_getElem?, Array.getElem?_replicate] at hl
     split at hl <;> simp at hl
   · simp [Array.getD_eq_getD_getElem?, Array.getElem?_replicate] at hl
     split at hl <;> simp at hl
def wpTextN (P : Program) (ops : Array Oper) (W0 : World) (Fin : List Oper → Act → Facts → Prop) : Nat → List Oper → List Spec → Act → Facts → Prop
 | 0, l, [], a, L => Fin l a L
 | n + 1, o :: r, .is c :: S, a, L => Owed P ops W0 o (.is c) a L ∧ wpTextN P ops W0 Fin n r S (a.put o.dst c) L
 | n + 1, o :: r, .has p :: S, a, L => Owed P ops W0 o (.has p) a L ∧ o.dst.isSome = true ∧ (∀ v w w', Below w.heap.size w w' → p v w → p v w') ∧ ∀ v, wpTextN P ops W0 Fin n r S (a.put o.dst v) (factOf o p v L)
 | _, _, _, _, _ => False
theorem text_of_n {Fin : List Oper → Act → Facts → Prop} : ∀ (n : Nat) (l : List Oper) (S : List Spec) (a : Act) (L : Facts), wpTextN P ops W0 Fin n l S a L → wpText P ops W0 (Fin (l.drop n)) (l.take n) S a L
 | 0, l, [], a, L, h => h
 | 0, l, s :: S, a, L, h => by cases s <;> exact (h : False).elim
 | n + 1, [], S, a, L, h => by
  cases S with
  | nil => exact (h : False).elim
  | cons s S => cases s <;> exact (h : False).elim
 | n + 1, o :: r, [], a, L, h => (h : False).elim
 | n + 1, o :: r, .is c :: S, a, L, h => ⟨h.1, by simpa using text_of_n n r S _ _ h.2⟩
 | n + 1, o :: r, .has p :: S, a, L, h => ⟨h.1, h.2.1, h.2.2.1, fun v => by simpa using text_of_n n r S _ _ (h.2.2.2 v)⟩
theorem wp_region_text {id : Nat} (m : Nat) {S : List Spec} {l : List Oper} (hfol : P.follows .mixedOrders = true) (hshape : shapeOk l.toArray m a0.tmps.size = true) {w : World}
 (h : ∀ Fin, (∀ rest a L, (∀ bs d, factsAll L (app w bs d) → wpList P l.toArray Q rest a (app w bs d)) → Fin rest a L) → wpTextN P l.toArray w Fin m l S a0 []) :
 (Code.region id l.toArray true).wp P Q a0 w :=
 wp_region_text0 m S hfol hshape (text_of_n _ _ _ _ _ (h _ fun _ _ _ h => h))
variable {Fin : List Oper → Act → Facts → Prop} {n : Nat} {o : Oper} {r : List Oper} {a : Act} {L : Facts}
theorem text_run {c : Value} (hw : Region.wanted o (yielded ops a.tmps) = true)
 (h1 : ∀ bs d, factsOf (o.looksAt ops) L (app W0 bs d) → ∀ K : Act → World → Prop, (∀ w', Below (app W0 bs d).heap.size (app W0 bs d) w' → K (a.put o.dst c) w') → o.wp P a (app W0 bs d) K (fun _ _ _ => False))
 (h2 : wpTextN P ops W0 Fin n r S (a.put o.dst c) L) : wpTextN P ops W0 Fin (n + 1) (o :: r) (.is c :: S) a L :=
 ⟨by unfold Owed; rw [if_pos hw]; exact fun bs d hf K hK => h1 bs d hf K fun w' hb => hK c w' hb rfl, h2⟩
theorem text_skip (hw : Region.wanted o (yielded ops a.tmps) = false) (h2 : wpTextN P ops W0 Fin n r S (a.put o.dst undef) L) : wpTextN P ops W0 Fin (n + 1) (o :: r) (.is undef :: S) a L :=
 ⟨by unfold Owed; rw [if_neg (by rw [hw]; simp)]; exact fun _ _ => rfl, h2⟩
theorem text_has (p : Value → World → Prop) (hd : o.dst.isSome = true) (hm : ∀ v w w', Below w.heap.size w w' → p v w → p v w') (hw : Region.wanted o (yielded ops a.tmps) = true)
 (h1 : ∀ bs d, factsOf (o.looksAt ops) L (app W0 bs d) → ∀ K : Act → World → Prop, (∀ v w', Below (app W0 bs d).heap.size (app W0 bs d) w' → p v w' → K (a.put o.dst v) w') → o.wp P a (app W0 bs d) K (fun _ _ _ => False))
 (h2 : ∀ v, wpTextN P ops W0 Fin n r S (a.put o.dst v) (factOf o p v L)) : wpTextN P ops W0 Fin (n + 1) (o :: r) (.has p :: S) a L :=
 ⟨by unfold Owed; rw [if_pos hw]; exact h1, hd, hm, h2⟩
theorem text_end {l : List Oper} (h : Fin l a L) : wpTextN P ops W0 Fin 0 l [] a L := h
end sound
end Go.Proofs.YteahkgbnfbjkhaaGreatDoor
