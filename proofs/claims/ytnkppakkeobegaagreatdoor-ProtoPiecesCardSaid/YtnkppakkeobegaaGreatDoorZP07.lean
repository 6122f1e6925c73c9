/-
  AW20.
-/
import Derived.Test.YtnkppakkeobegaaGreatDoorZP06
set_option maxRecDepth 20000
set_option linter.unusedVariables false
set_option linter.unusedSimpArgs false
set_option linter.unusedSectionVars false
namespace Go.Proofs.YtnkppakkeobegaaGreatDoor
namespace AX
variable [Inv]
open Go.RowKit
variable {P : Program} {R : Type}
omit [Inv] in
theorem yielded_bool {ops : Array Oper} {a : Act} {j d : Nat} {b : Bool} (hd : dstOf ops j = some d) (h : a.tmps.getD d undef = .bool b) : yielded ops a.tmps j = some b := by
 unfold yielded
 unfold dstOf at hd
 rw [hd]
 simp only [Option.bind_some]
 cases hx : a.tmps[d]? with
 | none => rw [Array.getD_eq_getD_getElem?, hx] at h; cases h
 | some v => rw [Array.getD_eq_getD_getElem?, hx] at h; simp only [Option.getD_some] at h; subst h; rfl
omit [Inv] in
theorem yielded_undef {ops : Array Oper} {a : Act} {j d : Nat} (hd : dstOf ops j = some d) (h : a.tmps.getD d undef = undef) : yielded ops a.tmps j = none := by
 unfold yielded
 unfold dstOf at hd
 rw [hd]
 simp only [Option.bind_some]
 cases hx : a.tmps[d]? with
 | none => rfl
 | some v => rw [Array.getD_eq_getD_getElem?, hx] at h; simp only [Option.getD_some] at h; subst h; rfl
omit [Inv] in
theorem wanted_none {o : Oper} {f : Nat → Option Bool} (h : o.guard = none) : Region.wanted o f = true := by simp [Region.wanted, h]
omit [Inv] in
theorem wanted_some {o : Oper} {f : Nat → Option Bool} {j : Nat} {want : Bool} (h : o.guard = some (j, want)) : Region.wanted o f = (f j == some want) := by simp [Region.wanted, h]
def dstsIn (nt : Nat) (l : List Oper) : Bool := l.all fun o => match o.dst with | some d => Nat.blt d nt | none => true
omit [Inv] in
theorem dstsIn_cons {nt : Nat} {o : Oper} {l : List Oper} (h : dstsIn nt (o :: l) = true) : (∀ t, o.dst = some t → t < nt) ∧ dstsIn nt l = true := by
 unfold dstsIn at h ⊢
 rw [List.all_cons, Bool.and_eq_true] at h
 refine ⟨fun t ht => ?_, h.2⟩
 have := h.1
 rw [ht] at this
 simp only [Nat.blt] at this
 exact Nat.le_of_ble_eq_true this
section
variable {E : Env} {call : CallF} (hE : EnvOk P E) (hC : CallOk P E call)
include hE hC
theorem aops_sound {ops : Array Oper} {B : Base} {kk : St → Option R} {r : R} {Q : Exit → Act → World → Prop} (hQ : ∀ g st a w, Sim P B g st a w → kk st = some r → Q .normal a w) : ∀ (l : List Oper), dstsIn B.nt l = true → ∀ {g : Gh} {st : St} {a : Act} {w : World}, Sim P B g st a w → aops E call ops l kk st = some r → wpList P ops Q l a w
 | [], _, g, st, a, w, S, h => hQ g st a w S h
 | o :: l, hd, g, st, a, w, S, h => by
  obtain ⟨hd1, hd2⟩ := dstsIn_cons hd
  have run : ∀ st2, StEq st st2 → aop E call true o st2 (fun v st' => aops E call ops l kk (st'.put o.dst v)) = some r → o.wp P a w (wpList P ops Q l) Q := fun st2 he h => by
   obtain ⟨av, st', h1, h2⟩ := aop_sound hE hC h
   exact h2.eff B g a w (S.eqv he) _ _ fun v w' g' hv S' => aops_sound hQ l hd2 (S'.put hd1 hv) h1
  have skip : ∀ st2, StEq st st2 → aops E call ops l kk (st2.put o.dst .undef) = some r → wpList P ops Q l (a.put o.dst undef) w := fun st2 he h =>
   aops_sound hQ l hd2 ((S.eqv he).put hd1 (show Rv g w undef .undef from rfl)) h
  simp only [aops] at h
  simp only [wpList]
  split at h
  · rename_i hg
    rw [if_pos (wanted_none hg)]
    exact .inl (run st (StEq.refl _) h)
  · rename_i j want hg
    rw [wanted_some hg]
    split at h
    · cases h
    · rename_i d hdj
      split at h
      · rename_i b hb
        have hy := yielded_bool hdj (S.frame d _ hb).bool_inv
        rw [hy]
        have hf : ∀ c, b = c → StEq st (st.fix (.tmp d) c) := fun c hc => fix_eq (x := .tmp d) (by subst hc; exact hb)
        cases b with
        | true =>
         cases want with
         | true => rw [if_pos (by rfl)]; exact .inl (run _ (hf true rfl) h)
         | false => rw [if_neg (by decide)]; exact skip _ (hf true rfl) h
        | false =>
         cases want with
         | true => rw [if_neg (by decide)]; exact skip _ (hf false rfl) h
         | false => rw [if_pos (by rfl)]; exact .inl (run _ (hf false rfl) h)
      · rename_i hb
        have hy := yielded_undef hdj (S.frame d _ hb)
        rw [hy, if_neg (by simp)]
        exact skip st (StEq.refl _) h
      · cases h
end
def MX (g : Gh) (w w' : World) : Mem := ⟨fun b j => ∃ M', Grow g w M' w' ∧ M' b j, g.M.gx, g.M.gw⟩
omit [Inv] in
theorem MX.grow {g : Gh} {w w' : World} (hl : ∀ b j, g.M b j → b < w.heap.size) (hb : Below w.heap.size w w') : Grow g w (MX g w w') w' :=
 ⟨hb, fun _b _j h => ⟨g.M, ⟨hb, fun _ _ h => h, fun _ _ _ h => h, fun b j h => Nat.lt_of_lt_of_le (hl b j h) hb.size, rfl, rfl⟩, h⟩, fun b j hlt ⟨_M', hG, h⟩ => hG.old b j hlt h, fun b j ⟨_M', hG, h⟩ => hG.live b j h, rfl, rfl⟩
omit [Inv] in
theorem MX.up {g : Gh} {w w1 w2 : World} (hb : Below w1.heap.size w1 w2) : Kp (MX g w w1) w1 (MX g w w2) w2 := ⟨fun b j ⟨M', hG, h⟩ =>
 ⟨⟨M', ⟨hG.below.trans (hb.mono hG.below.size), hG.sub, hG.old, fun b j h => Nat.lt_of_lt_of_le (hG.live b j h) hb.size, hG.same⟩, h⟩, hb.cell (p := ⟨b, j, none⟩) (hG.live b j h)⟩, List.prefix_refl _⟩
omit [Inv] in
theorem MX.le {g : Gh} {w w' : World} {M' : Mem} (hG : Grow g w M' w') : Kp M' w' (MX g w w') w' := ⟨fun _b _j h => ⟨⟨M', hG, h⟩, rfl⟩, by rw [hG.same.1]; exact List.prefix_refl _⟩
def PV (g : Gh) (w : World) (x : AV) (v : Value) (w' : World) : Prop := Below w.heap.size w w' ∧ Rv ⟨MX g w w', g.bx, g.ow⟩ w' v x
omit [Inv] in
theorem PV.up {g : Gh} {w w1 w2 : World} {x : AV} {v : Value} (h : PV g w x v w1) (hb : Below w1.heap.size w1 w2) : PV g w x v w2 :=
 ⟨h.1.trans (hb.mono h.1.size), h.2.kept (MX.up hb) (fun _ _ h => h) (fun _ _ h => h)⟩
omit [Inv] in
theorem lk_only {l : List Nat} {fr : List (Nat × AV)} {s : Nat} {v : AV} (h : lk (only l fr) s = some v) : s ∈ l ∧ lk fr s = some v := by
 induction fr with
 | nil => cases h
 | cons x r ih =>
  obtain ⟨t, u⟩ := x
  simp only [only] at h
  cases ha : l.any (Nat.beq t) with
  | true =>
   rw [ha] at h
   simp only [condA_true, lk] at h ⊢
   cases hb : Nat.beq t s with
   | true =>
    rw [hb] at h
    have := Nat.eq_of_beq_eq_true hb
    subst this
    simp only [condA_true] at h
    refine ⟨?_, by simpa using h⟩
    rw [List.any_eq_true] at ha
    obtain ⟨y, hy, he⟩ := ha
    rw [Nat.eq_of_beq_eq_true he]; exact hy
   | false =>
    rw [hb] at h
    simp only [condA_false] at h ⊢
    exact ih h
  | false =>
   rw [ha] at h
   simp only [condA_false] at h
   obtain ⟨h1, h2⟩ := ih h
   refine ⟨h1, ?_⟩
   simp only [lk]
   cases hb : Nat.beq t s with
   | true =>
    have := Nat.eq_of_beq_eq_true hb
    subst this
    rw [List.any_eq_false] at ha
    exact absurd (Nat.beq_refl t) (by simpa using ha t h1)
   | false => exact h2
structure HW (g : Gh) (w : World) (nt : Nat) (st : St) (a : Act) (L : Facts) : Prop where
 fr : ∀ s v, lk st.fr s = some v → (∃ p, (s, p, a.tmps.getD s undef) ∈ L ∧ ∀ u w', p u w' → PV g w v u w') ∨ (∀ w', Below w.heap.size w w' → PV g w v (a.tmps.getD s undef) w')
 fb : ∀ s b, lk st.fr s = some (.one (.bool b)) → a.tmps.getD s undef = .bool b
 fu : ∀ s, lk st.fr s = some .undef → a.tmps.getD s undef = undef
 size : a.tmps.size = nt
 defers : a.defers = []
omit [Inv] in
theorem HW.put {g : Gh} {w : World} {nt : Nat} {st : St} {a : Act} {L : Facts} {o : Oper} {e : Nat} {v : Value} {x : AV} (h : HW g w nt st a L) (hgp : ∀ s, (a.put o.dst v).tmps.getD s undef = if e = s then v else a.tmps.getD s undef)
 (hlk : ∀ s, lk (st.put (some e) x).fr s = if e = s then some x else lk st.fr s) (hx : ∀ w', Below w.heap.size w w' → PV g w x v w') (hb : ∀ b, x = .one (.bool b) → v = .bool b) (hu : x = .undef → v = undef) : HW g w nt (st.put (some e) x) (a.put o.dst v) L := by
 refine ⟨fun s y hs => ?_, fun s b hs => ?_, fun s hs => ?_, by rw [put_size]; exact h.size, by rw [put_defers_same]; exact h.defers⟩
 · rw [hgp]; rw [hlk] at hs
   split
   · rw [if_pos ‹_›] at hs; cases hs; exact .inr hx
   · rw [if_neg ‹_›] at hs; exact h.fr s y hs
 · rw [hgp]; rw [hlk] at hs
   split
   · rw [if_pos ‹_›] at hs; cases hs; exact hb b rfl
   · rw [if_neg ‹_›] at hs; exact h.fb s b hs
 · rw [hgp]; rw [hlk] at hs
   split
   · rw [if_pos ‹_›] at hs; cases hs; exact hu rfl
   · rw [if_neg ‹_›] at hs; exact h.fu s hs
omit [Inv] in
theorem HW.putHas {g : Gh} {w : World} {nt : Nat} {st : St} {a : Act} {L : Facts} {o : Oper} {e : Nat} {v : Value} {x : AV} (h : HW g w nt st a L) (hoe : o.dst = some e) (hgp : ∀ s, (a.put o.dst v).tmps.getD s undef = if e = s then v else a.tmps.getD s undef)
 (hlk : ∀ s, lk (st.put (some e) x).fr s = if e = s then some x else lk st.fr s) (hb : ∀ b, x ≠ .one (.bool b)) (hu : x ≠ .undef) : HW g w nt (st.put (some e) x) (a.put o.dst v) (factOf o (PV g w x) v L) := by
 refine ⟨fun s y hs => ?_, fun s b hs => ?_, fun s hs => ?_, by rw [put_size]; exact h.size, by rw [put_defers_same]; exact h.defers⟩
 · rw [hgp]; rw [hlk] at hs
   by_cases he : e = s
   · rw [if_pos he] at hs ⊢; cases hs
     refine .inl ⟨PV g w x, ?_, fun u w' h => h⟩
     simp [factOf, hoe, he]
   · rw [if_neg he] at hs ⊢
     rcases h.fr s y hs with ⟨p, hp, hpv⟩ | hp
     · refine .inl ⟨p, ?_, hpv⟩
       unfold factOf; rw [hoe]; exact List.mem_cons_of_mem _ hp
     · exact .inr hp
 · rw [hgp]; rw [hlk] at hs
   split
   · rw [if_pos ‹_›] at hs; cases hs; exact absurd rfl (hb b)
   · rw [if_neg ‹_›] at hs; exact h.fb s b hs
 · rw [hgp]; rw [hlk] at hs
   split
   · rw [if_pos ‹_›] at hs; cases hs; exact absurd rfl hu
   · rw [if_neg ‹_›] at hs; exact h.fu s hs
omit [Inv] in
theorem facts_mem {s : Nat} {p : Value → World → Prop} {v : Value} {w : World} : ∀ (L : Facts), factsAll L w → (s, p, v) ∈ L → p v w
 | x :: L, hf, hx => by
  rcases List.mem_cons.1 hx with rfl | hx
  · exact hf.1
  · exact facts_mem L hf.2 hx
theorem Sim.at {B : Base} {g : Gh} {st0 st : St} {a0 a : Act} {w w' : World} (S : Sim P B g st0 a0 w) (hH : st.H = st0.H ∧ st.G = st0.G) (hb : Below w.heap.size w w') (hfr : ∀ s v, lk st.fr s = some v → PV g w v (a.tmps.getD s undef) w') (hs : a.tmps.size = B.nt) (hd : a.defers = []) : Sim P B ⟨MX g w w', g.bx, g.ow⟩ st a w' := by
 have S1 := S.grow (MX.grow S.live hb)
 exact ⟨fun s v h => (hfr s v h).2, hs, hd, S1.live, by rw [hH.1]; exact S1.bx, S1.ow, S1.fr, S1.bxB, S1.owB, S1.pre, by rw [hH.2]; exact S1.gk⟩
omit [Inv] in
theorem get_put {a : Act} {o : Oper} {v : Value} {e nt s : Nat} (hoe : o.dst = some e) (hs : a.tmps.size = nt) (hlt : e < nt) : (a.put o.dst v).tmps.getD s undef = if e = s then v else a.tmps.getD s undef := by
 rw [hoe]
 simp only [Act.put, Array.getD_eq_getD_getElem?, Array.getElem?_setIfInBounds, hs]
 by_cases h : e = s
 · subst h; simp [hlt]
 · simp [h]
omit [Inv] in
theorem lk_put {st : St} {e s : Nat} {x : AV} : lk (st.put (some e) x).fr s = if e = s then some x else lk st.fr s := by
 simp only [St.put, lk]
 cases hb : Nat.beq e s with
 | true => have := Nat.eq_of_beq_eq_true hb; subst this; simp
 | false =>
  have hne : e ≠ s := fun h => by subst h; rw [Nat.beq_refl] at hb; cases hb
  simp [lk_rm, hne]
def specOf (g : Gh) (w : World) : AV → Spec
 | .one (.bool b) => .is (.bool b)
 | .undef => .is undef
 | x => .has (PV g w x)
omit [Inv] in
theorem specOf_cases (g : Gh) (w : World) (x : AV) : (∃ b, x = .one (.bool b) ∧ specOf g w x = .is (.bool b)) ∨ (x = .undef ∧ specOf g w x = .is undef) ∨ ((∀ b, x ≠ .one (.bool b)) ∧ x ≠ .undef ∧ specOf g w x = .has (PV g w x)) := by
 cases x with
 | one c => cases c <;> first | exact .inl ⟨_, rfl, rfl⟩ | exact .inr (.inr ⟨fun b h => (by cases h), fun h => (by cases h), rfl⟩)
 | undef => exact .inr (.inl ⟨rfl, rfl⟩)
 | _ => exact .inr (.inr ⟨fun b h => (by cases h), fun h => (by cases h), rfl⟩)
def Fresh (E : Env) (w : World) (t : TypeId) (v : Value) (w' : World) : Prop := ∃ blk z ti, v = .pointer (some ⟨blk, 0, none⟩) ∧ w.heap.size ≤ blk ∧ w'.heap[blk]? = some (.cells z t) ∧ tyN E.T t = some ti ∧ leavesOk ti.leaves z.toList = true
omit [Inv] in
theorem allocOf_some {o : Op} {t : TypeId} (h : allocOf o = some t) : o = .alloc t := by
 cases o <;> simp only [allocOf] at h <;> first | (cases h; rfl) | cases h
omit [Inv] in
theorem mem_dstL {o : Oper} {d : Nat} (hd : o.dst = some d) : ∀ {l : List Oper}, o ∈ l → d ∈ dstL l
 | x :: r, h => by
  simp only [dstL]
  rcases List.mem_cons.1 h with rfl | h
  · rw [hd]; exact List.mem_cons_self
  · have := mem_dstL hd h
    split
    · exact List.mem_cons_of_mem _ this
    · exact this
omit [Inv] in
theorem alone_ne {e : Nat} {l : List Oper} (h : aloneB e l = true) {o : Oper} (ho : o ∈ l) : o.dst ≠ some e := fun hd => by
 unfold aloneB at h
 rw [List.all_eq_true] at h
 have := h e (mem_dstL hd ho)
 simp at this
section
variable {E : Env} {call : CallF} (hE : EnvOk P E) (hC : CallOk P E call)
include hE hC
theorem aheads_sound {ops : Array Oper} {B : Base} {g : Gh} {st0 : St} {a0 : Act} {w : World} (S : Sim P B g st0 a0 w) {kk : St → Option R} {r : R} {Fin : Act → Facts → Prop} {J : List Oper → Act → Facts → Prop}
 (hJ : ∀ o l a v L L', J (o :: l) a L → (∀ x ∈ L, x ∈ L') → (o.guard = none → ∀ t e, allocOf o.op = some t → o.dst = some e → (e, Fresh E w t, v) ∈ L') → J l (a.put o.dst v) L')
 (hF : ∀ st a L, st.H = st0.H ∧ st.G = st0.G → HW g w B.nt st a L → J [] a L → kk st = some r → Fin a L) : ∀ (l : List Oper), dstsIn B.nt l = true → ∀ {st : St}, st.H = st0.H ∧ st.G = st0.G → aheads E call ops l kk st = some r →
 ∃ Sp : List Spec, ∀ (a : Act) (L : Facts), HW g w B.nt st a L → J l a L → wpText P ops w Fin l Sp a L := by
 intro l
 induction l with
 | nil => intro _ st hH h; exact ⟨[], fun a L hw hj => hF st a L hH hw hj h⟩
 | cons o l ih =>
  intro hd st hH h
  obtain ⟨hd1, hd2⟩ := dstsIn_cons hd
  simp only [aheads] at h
  split at h
  · cases h
  · rename_i e hoe
    have hlt := hd1 e hoe
    -- an operation that is wanted
    have run : ∀ st2, StEq st st2 → aop E call false o ⟨only (o.looksAt ops) st2.fr, st.H, st.G⟩ (fun v _ => aheads E call ops l kk (st2.put (some e) v)) = some r →
     (o.guard = none → allocOf o.op = none) → ∃ Sp : List Spec, ∀ (a : Act) (L : Facts), HW g w B.nt st a L → J (o :: l) a L → Region.wanted o (yielded ops a.tmps) = true → wpText P ops w Fin (o :: l) Sp a L := fun st2 he h hna => by
     obtain ⟨av, st', h1, h2⟩ := aop_sound hE hC h
     obtain ⟨Sr, hSr⟩ := ih hd2 (st := st2.put (some e) av) (⟨by show st2.H = _; rw [he.H]; exact hH.1, by show st2.G = _; rw [he.G]; exact hH.2⟩) h1
     have gives : ∀ (a : Act) (L : Facts), HW g w B.nt st a L → ∀ bs d, factsOf (o.looksAt ops) L (app w bs d) → ∀ K : Act → World → Prop, (∀ v w', Below (app w bs d).heap.size (app w bs d) w' → PV g w av v w' → K (a.put o.dst v) w') → o.wp P a (app w bs d) K (fun _ _ _ => False) := fun a L hw bs d hf K hK => by
      have hbel : Below w.heap.size w (app w bs d) := (Below.refl _ _).app (Nat.le_refl _) bs d
      have find : ∀ (s : Nat) p, s ∈ o.looksAt ops → ∀ (L : Facts), factsOf (o.looksAt ops) L (app w bs d) → (s, p, a.tmps.getD s undef) ∈ L → p (a.tmps.getD s undef) (app w bs d) := fun s p hm L => by
       induction L with
       | nil => intro _ h; cases h
       | cons x L ihL =>
        intro hf hx
        rcases List.mem_cons.1 hx with rfl | hx
        · exact hf.1 (by simpa using hm)
        · exact ihL hf.2 hx
      have S1 : Sim P B ⟨MX g w (app w bs d), g.bx, g.ow⟩ ⟨only (o.looksAt ops) st2.fr, st.H, st.G⟩ a (app w bs d) := by
       refine Sim.at S hH hbel (fun s v hs => ?_) hw.size hw.defers
       obtain ⟨hm, hl⟩ := lk_only hs
       rw [he.fr] at hl
       rcases hw.fr s v hl with ⟨p, hp, hpv⟩ | hp
       · exact hpv _ _ (find s p hm L hf hp)
       · exact hp _ hbel
      refine (h2.still rfl).2 B _ a _ S1 K _ fun v w' M' hG hv => hK v w' hG.below ⟨hbel.trans (hG.below.mono hbel.size), ?_⟩
      have hG2 : Grow g w M' w' := (MX.grow S.live hbel).trans hG
      exact hv.kept (g' := ⟨MX g w w', g.bx, g.ow⟩) (MX.le hG2) (fun _ _ h => h) (fun _ _ h => h)
     have hw2 : ∀ a L, HW g w B.nt st a L → HW g w B.nt st2 a L := fun a L hw => ⟨fun s v hs => hw.fr s v (by rw [← he.fr]; exact hs), fun s b hs => hw.fb s b (by rw [← he.fr]; exact hs), fun s hs => hw.fu s (by rw [← he.fr]; exact hs), hw.size, hw.defers⟩
     have hj1 : ∀ a v L, J (o :: l) a L → J l (a.put o.dst v) L := fun a v L hj => hJ o l a v L L hj (fun x h => h) fun hg t e ht _ => by rw [hna hg] at ht; cases ht
     have hj2 : ∀ a v p L, J (o :: l) a L → J l (a.put o.dst v) (factOf o p v L) := fun a v p L hj => hJ o l a v L _ hj (fun x h => by unfold factOf; rw [hoe]; exact List.mem_cons_of_mem _ h) fun hg t e ht _ => by rw [hna hg] at ht; cases ht
     refine ⟨specOf g w av :: Sr, fun a L hw hj hwant => ?_⟩
     rcases specOf_cases g w av with ⟨b, rfl, hs⟩ | ⟨rfl, hs⟩ | ⟨h3, h4, hs⟩
     · rw [hs]
       refine ⟨?_, hSr _ _ ((hw2 a L hw).put (fun s => get_put hoe hw.size hlt) (fun s => lk_put) (fun w' hb => ⟨hb, .data (.bool b)⟩) (fun b' h => by cases h; rfl) (fun h => by cases h)) (hj1 _ _ _ hj)⟩
       unfold Owed
       rw [if_pos hwant]
       exact fun bs d hf K hK => gives a L hw bs d hf K fun v w' hb hv => hK v w' hb (Rc.bool_inv hv.2)
     · rw [hs]
       refine ⟨?_, hSr _ _ ((hw2 a L hw).put (fun s => get_put hoe hw.size hlt) (fun s => lk_put) (fun w' hb => ⟨hb, rfl⟩) (fun b' h => by cases h) (fun h => rfl)) (hj1 _ _ _ hj)⟩
       unfold Owed
       rw [if_pos hwant]
       exact fun bs d hf K hK => gives a L hw bs d hf K fun v w' hb hv => hK v w' hb hv.2
     · rw [hs]
       refine ⟨?_, by rw [hoe]; rfl, fun v w1 w2 hb h => h.up hb, fun v => hSr _ _ ((hw2 a L hw).putHas hoe (fun s => get_put hoe hw.size hlt) (fun s => lk_put) h3 h4) (hj2 _ _ _ _ hj)⟩
       unfold Owed
       rw [if_pos hwant]
       exact fun bs d hf K hK => gives a L hw bs d hf K hK
    have skip : ∀ st2, StEq st st2 → aheads E call ops l kk (st2.put (some e) .undef) = some r →
     (o.guard = none → allocOf o.op = none) → ∃ Sp : List Spec, ∀ (a : Act) (L : Facts), HW g w B.nt st a L → J (o :: l) a L → Region.wanted o (yielded ops a.tmps) = false → wpText P ops w Fin (o :: l) Sp a L := fun st2 he h hna => by
     obtain ⟨Sr, hSr⟩ := ih hd2 (st := st2.put (some e) .undef) (⟨by show st2.H = _; rw [he.H]; exact hH.1, by show st2.G = _; rw [he.G]; exact hH.2⟩) h
     have hw2 : ∀ a L, HW g w B.nt st a L → HW g w B.nt st2 a L := fun a L hw => ⟨fun s v hs => hw.fr s v (by rw [← he.fr]; exact hs), fun s b hs => hw.fb s b (by rw [← he.fr]; exact hs), fun s hs => hw.fu s (by rw [← he.fr]; exact hs), hw.size, hw.defers⟩
     have hj1 : ∀ a v L, J (o :: l) a L → J l (a.put o.dst v) L := fun a v L hj => hJ o l a v L L hj (fun x h => h) fun hg t e ht _ => by rw [hna hg] at ht; cases ht
     refine ⟨.is undef :: Sr, fun a L hw hj hwant => ⟨?_, hSr _ _ ((hw2 a L hw).put (fun s => get_put hoe hw.size hlt) (fun s => lk_put) (fun w' hb => ⟨hb, rfl⟩) (fun b' h => by cases h) (fun h => rfl)) (hj1 _ _ _ hj)⟩⟩
     unfold Owed
     rw [if_neg (by rw [hwant]; simp)]
     exact fun _ _ => rfl
    split at h
    · rename_i hg
      split at h
      · rename_i t hal
        split at h
        · rename_i ti hti
          obtain ⟨Sr, hSr⟩ := ih hd2 (st := ⟨rm st.fr e, st.H, st.G⟩) hH h
          obtain ⟨htt, hnt⟩ := tyN_some hti
          obtain ⟨i, d, z, h1, h2, h3, h4, h5, h6⟩ := (not_tup hE htt hnt).ex
          have ho := allocOf_some hal
          refine ⟨.has (Fresh E w t) :: Sr, fun a L hw hj => ⟨?_, by rw [hoe]; rfl, fun v w1 w2 hb ⟨blk, z, ti, k1, k2, k3, k4⟩ => ⟨blk, z, ti, k1, k2, by rw [hb.block blk (Array.getElem?_eq_some_iff.1 k3).1]; exact k3, k4⟩, fun v => hSr _ _ ⟨fun s y hs => ?_, fun s b hs => ?_, fun s hs => ?_, by rw [put_size]; exact hw.size, by rw [put_defers_same]; exact hw.defers⟩
           (hJ o l a v L _ hj (fun x h => by unfold factOf; rw [hoe]; exact List.mem_cons_of_mem _ h) fun _ t' e' ht' he' => by
            rw [hal] at ht'; cases ht'; unfold factOf; rw [he']; exact List.mem_cons_self)⟩⟩
          · unfold Owed
            rw [if_pos (wanted_none hg)]
            intro bs d' hf K hK
            have hrun : (Instr.alloc t true (.tuple #[])).run P (app w bs d') = .ok (.pointer (some ⟨(app w bs d').heap.size, 0, none⟩)) ((app w bs d').alloc (.cells z.cells t)) := by simp [Instr.alloc, zeroValue, typeInfo, h1, h5, newVar, newRow]
            exact wp_value (by simp only [execOp, ho]; exact run_v hrun) (hK _ _ ((Below.refl _ _).alloc (Nat.le_refl _) _) ⟨_, z.cells, ti, rfl, ((Below.refl w.heap.size w).app (Nat.le_refl _) bs d').size, heap_alloc_new _ _, hti, h6⟩)
          · rw [get_put hoe hw.size hlt]
            rw [lk_rm] at hs
            split at hs
            · cases hs
            · rename_i hne
              rw [if_neg hne]
              rcases hw.fr s y hs with ⟨p, hp, hpv⟩ | hp
              · exact .inl ⟨p, by unfold factOf; rw [hoe]; exact List.mem_cons_of_mem _ hp, hpv⟩
              · exact .inr hp
          · rw [get_put hoe hw.size hlt]
            rw [lk_rm] at hs
            split at hs
            · cases hs
            · rename_i hne
              rw [if_neg hne]; exact hw.fb s b hs
          · rw [get_put hoe hw.size hlt]
            rw [lk_rm] at hs
            split at hs
            · cases hs
            · rename_i hne
              rw [if_neg hne]; exact hw.fu s hs
        · cases h
      · rename_i hal
        obtain ⟨Sp, hS⟩ := run st (StEq.refl _) h fun _ => hal
        exact ⟨Sp, fun a L hw hj => hS a L hw hj (wanted_none hg)⟩
    · rename_i j want hg
      have hng : o.guard = none → allocOf o.op = none := fun h => by rw [hg] at h; cases h
      split at h
      · cases h
      · rename_i d hdj
        split at h
        · rename_i b hb
          have hf : ∀ c, b = c → StEq st (st.fix (.tmp d) c) := fun c hc => fix_eq (x := .tmp d) (by subst hc; exact hb)
          have hy : ∀ a L, HW g w B.nt st a L → yielded ops a.tmps j = some b := fun a L hw => yielded_bool hdj (hw.fb d b hb)
          cases b with
          | true =>
           cases want with
           | true =>
            obtain ⟨Sp, hS⟩ := run _ (hf true rfl) h hng
            exact ⟨Sp, fun a L hw hj => hS a L hw hj (by rw [wanted_some hg, hy a L hw]; rfl)⟩
           | false =>
            obtain ⟨Sp, hS⟩ := skip _ (hf true rfl) h hng
            exact ⟨Sp, fun a L hw hj => hS a L hw hj (by rw [wanted_some hg, hy a L hw]; rfl)⟩
          | false =>
           cases want with
           | true =>
            obtain ⟨Sp, hS⟩ := skip _ (hf false rfl) h hng
            exact ⟨Sp, fun a L hw hj => hS a L hw hj (by rw [wanted_some hg, hy a L hw]; rfl)⟩
           | false =>
            obtain ⟨Sp, hS⟩ := run _ (hf false rfl) h hng
            exact ⟨Sp, fun a L hw hj => hS a L hw hj (by rw [wanted_some hg, hy a L hw]; rfl)⟩
        · rename_i hb
          obtain ⟨Sp, hS⟩ := skip st (StEq.refl _) h hng
          exact ⟨Sp, fun a L hw hj => hS a L hw hj (by rw [wanted_some hg, yielded_undef hdj (hw.fu d hb)]; rfl)⟩
        · cases h
omit hE hC in
theorem aop_indep {b0 : Nat} {o : Oper} {fr : List (Nat × AV)} {H H' : Heap} {GG : Option Heap} {f : AV → Option R} (hi : indepOp b0 ⟨fr, H, GG⟩ o = true) (hH : ∀ b, b ≠ b0 → H'[b]? = H[b]?) : aop E call false o ⟨fr, H', GG⟩ (fun v _ => f v) = aop E call false o ⟨fr, H, GG⟩ (fun v _ => f v) := by
 cases ho : o.op with
 | load t a =>
  unfold indepOp at hi
  simp only [ho] at hi
  unfold aop
  simp only [ho]
  have hev : AX.ev ⟨fr, H', GG⟩ a = AX.ev ⟨fr, H, GG⟩ a := rfl
  rw [hev]
  split at hi
  · rename_i b _ he
    simp only [Bool.not_eq_true'] at hi
    have hne : b ≠ b0 := fun e => by subst e; rw [Nat.beq_refl] at hi; cases hi
    rw [he]
    cases ty E.T t with
    | none => rfl
    | some ti => simp only [loadK, hH b hne]
  · rename_i cs he
    rw [he]
    cases ty E.T t with
    | none => rfl
    | some ti => simp only [loadK]
  · cases hi
 | move x => unfold aop; simp only [ho]; rfl
 | assign x => unfold aop; simp only [ho]; rfl
 | build t ps =>
  unfold aop; simp only [ho]
  have hevs : ∀ ps : List (Nat × Operand), AX.evs ⟨fr, H', GG⟩ ps = AX.evs ⟨fr, H, GG⟩ ps := fun ps => by
   induction ps with
   | nil => rfl
   | cons p ps ih => simp only [AX.evs]; rw [ih]; rfl
  simp only [condA_false, hevs]
 | nilCheck x => unfold aop; simp only [ho]; rfl
 | binOp op t x y u => unfold aop; simp only [ho]; rfl
 | unOp op t x => unfold aop; simp only [ho]; rfl
 | fieldAddr t x f => unfold aop; simp only [ho]; rfl
 | field t x f => unfold aop; simp only [ho]; rfl
 | extract x i => unfold aop; simp only [ho]; rfl
 | index t x i => unfold aop; simp only [ho]; rfl
 | _ => unfold indepOp at hi; simp only [ho] at hi; cases hi
def MXX (g : Gh) (n : Nat) (w : World) : Mem := ⟨fun b j => g.M b j ∨ (n ≤ b ∧ b < w.heap.size), g.M.gx, g.M.gw⟩
def PVX (g : Gh) (w W1 : World) (x : AV) (v : Value) (w' : World) : Prop := ∀ w0 w'', (w0 = w ∨ w0 = W1) → Keeps w.heap.size w' w'' → Below w.heap.size w0 w'' → Rv ⟨MXX g w.heap.size w'', g.bx, g.ow⟩ w'' v x
omit hE hC in
theorem keeps_then {B : Nat} {a b c : World} (h : Keeps B a b) (k : Keeps B b c) : Keeps B a c := ⟨Nat.le_trans h.1 k.1, fun q h1 h2 => (k.2 q h1 (Nat.lt_of_lt_of_le h2 h.1)).trans (h.2 q h1 h2)⟩
omit hE hC in
theorem PVX.keep {g : Gh} {w W1 : World} {x : AV} {v : Value} {w' w2 : World} (hk : Keeps w.heap.size w' w2) (h : PVX g w W1 x v w') : PVX g w W1 x v w2 := fun w0 w'' h0 h1 h2 => h w0 w'' h0 (keeps_then hk h1) h2
omit hE hC in
theorem MXX.grow {g : Gh} {n : Nat} {w w' : World} (hn : w.heap.size = n) (hl : ∀ b j, g.M b j → b < n) (hb : Below n w w') : Grow g w (MXX g n w') w' := by
 subst hn
 exact ⟨hb, fun b j h => .inl h, fun b j hlt h => h.elim id fun h => by omega, fun b j h => h.elim (fun h => Nat.lt_of_lt_of_le (hl b j h) hb.size) fun h => h.2, rfl, rfl⟩
structure Two (g : Gh) (w W1 : World) : Prop where
 size : W1.heap.size = w.heap.size
 live : ∀ b j, g.M b j → b < w.heap.size
 cell : ∀ b j, g.M b j → W1.cell? ⟨b, j, none⟩ = w.cell? ⟨b, j, none⟩
omit hE hC in
theorem PVX.of {g : Gh} {w W1 W2 w' : World} {M' : Mem} {x : AV} {v : Value} (T : Two g w W1) (hW : W2.heap.size = w.heap.size) (hc : ∀ b j, g.M b j → W2.cell? ⟨b, j, none⟩ = w.cell? ⟨b, j, none⟩) {bs : Array Obj} {d : Nat} (hG : Grow ⟨MXX g w.heap.size (app W2 bs d), g.bx, g.ow⟩ (app W2 bs d) M' w') (hv : Rv ⟨M', g.bx, g.ow⟩ w' v x) : PVX g w W1 x v w' := fun w0 w'' h0 hk hb => by
 have hsz : (app W2 bs d).heap.size = w.heap.size + bs.size := by rw [app_size, hW]
 refine hv.kept (g' := ⟨MXX g w.heap.size w'', g.bx, g.ow⟩) ⟨fun b j hm => ?_, by rw [hG.same.1]; exact List.prefix_refl _⟩ (fun _ _ h => h) (fun _ _ h => h)
 have hlt := hG.live b j hm
 by_cases hbn : b < w.heap.size
 · have hm2 := hG.old b j (by omega) hm
   have hm3 : g.M b j := hm2.elim id fun h => by omega
   refine ⟨.inl hm3, ?_⟩
   have e1 : w''.cell? ⟨b, j, none⟩ = w0.cell? ⟨b, j, none⟩ := World.cell?_of_block (w := w0) (hb.block b hbn)
   have e2 : w0.cell? ⟨b, j, none⟩ = w.cell? ⟨b, j, none⟩ := by rcases h0 with rfl | rfl; rfl; exact T.cell b j hm3
   have e3 : w'.cell? ⟨b, j, none⟩ = (app W2 bs d).cell? ⟨b, j, none⟩ := World.cell?_of_block (w := app W2 bs d) (hG.below.block b (by omega))
   have e4 : (app W2 bs d).cell? ⟨b, j, none⟩ = W2.cell? ⟨b, j, none⟩ := app_cell W2 bs d b j (by omega)
   rw [e1, e2, e3, e4, hc b j hm3]
 · exact ⟨.inr ⟨by omega, Nat.lt_of_lt_of_le hlt hk.1⟩, World.cell?_of_block (w := w') (hk.2 b (by omega) hlt)⟩
structure HWX (g : Gh) (w W1 : World) (nt : Nat) (st : St) (a : Act) (L : Facts) : Prop where
 fr : ∀ s v, lk st.fr s = some v → (∃ p, (s, p, a.tmps.getD s undef) ∈ L ∧ ∀ u w', p u w' → PVX g w W1 v u w') ∨ (∀ w', PVX g w W1 v (a.tmps.getD s undef) w')
 size : a.tmps.size = nt
 defers : a.defers = []
omit hE hC in
theorem HWX.put {g : Gh} {w W1 : World} {nt : Nat} {st : St} {a : Act} {L : Facts} {o : Oper} {e : Nat} {v : Value} {x : AV} (h : HWX g w W1 nt st a L) (hoe : o.dst = some e) (hlt : e < nt) : HWX g w W1 nt (st.put (some e) x) (a.put o.dst v) (factOf o (PVX g w W1 x) v L) := by
 refine ⟨fun s y hs => ?_, by rw [put_size]; exact h.size, by rw [put_defers_same]; exact h.defers⟩
 rw [get_put hoe h.size hlt]; rw [lk_put] at hs
 by_cases he : e = s
 · rw [if_pos he] at hs ⊢; cases hs
   refine .inl ⟨PVX g w W1 x, ?_, fun u w' h => h⟩
   simp [factOf, hoe, he]
 · rw [if_neg he] at hs ⊢
   rcases h.fr s y hs with ⟨p, hp, hpv⟩ | hp
   · refine .inl ⟨p, ?_, hpv⟩
     unfold factOf; rw [hoe]; exact List.mem_cons_of_mem _ hp
   · exact .inr hp
omit hE hC in
theorem facts_find {looks : List Nat} {w : World} {s : Nat} {p : Value → World → Prop} {v : Value} (hm : s ∈ looks) : ∀ L : Facts, factsOf looks L w → (s, p, v) ∈ L → p v w
 | [], _, h => by cases h
 | x :: L, hf, hx => by
  rcases List.mem_cons.1 hx with rfl | hx
  · exact hf.1 (by simpa using hm)
  · exact facts_find hm L hf.2 hx
omit hE hC in
theorem HWX.sim {B : Base} {g : Gh} {w W1 W2 : World} {st0 st : St} {a0 a : Act} {L : Facts} {l : List Nat} {H2 : Heap} (h : HWX g w W1 B.nt st a L) (S2 : Sim P B g ⟨st0.fr, H2, st0.G⟩ a0 W2) (hW : W2.heap.size = w.heap.size) (h2 : W2 = w ∨ W2 = W1) {bs : Array Obj} {d : Nat} (hf : factsOf l L (app W2 bs d)) :
 Sim P B ⟨MXX g w.heap.size (app W2 bs d), g.bx, g.ow⟩ ⟨only l st.fr, H2, st0.G⟩ a (app W2 bs d) := by
 have hbel : Below w.heap.size W2 (app W2 bs d) := (Below.refl _ _).app (by rw [hW]; exact Nat.le_refl _) bs d
 have S3 := S2.grow (MXX.grow hW (fun b j hm => by rw [← hW]; exact S2.live b j hm) hbel)
 refine ⟨fun s v hs => ?_, h.size, h.defers, S3.live, S3.bx, S3.ow, S3.fr, S3.bxB, S3.owB, S3.pre, S3.gk⟩
 obtain ⟨hm, hl⟩ := lk_only hs
 have kr : Keeps w.heap.size (app W2 bs d) (app W2 bs d) := ⟨Nat.le_refl _, fun _ _ _ => rfl⟩
 rcases h.fr s v hl with ⟨p, hp, hpv⟩ | hp
 · exact hpv _ _ (facts_find hm L hf hp) W2 _ h2 kr hbel
 · exact hp _ W2 _ h2 kr hbel
omit hE hC in
theorem HWX.all {B : Base} {g : Gh} {w W1 W2 : World} {st0 st : St} {a0 a : Act} {L : Facts} {H2 : Heap} (h : HWX g w W1 B.nt st a L) (S2 : Sim P B g ⟨st0.fr, H2, st0.G⟩ a0 W2) (hW : W2.heap.size = w.heap.size) (h2 : W2 = w ∨ W2 = W1) {bs : Array Obj} {d : Nat} (hf : factsAll L (app W2 bs d)) :
 Sim P B ⟨MXX g w.heap.size (app W2 bs d), g.bx, g.ow⟩ ⟨st.fr, H2, st0.G⟩ a (app W2 bs d) := by
 have hbel : Below w.heap.size W2 (app W2 bs d) := (Below.refl _ _).app (by rw [hW]; exact Nat.le_refl _) bs d
 have S3 := S2.grow (MXX.grow hW (fun b j hm => by rw [← hW]; exact S2.live b j hm) hbel)
 refine ⟨fun s v hl => ?_, h.size, h.defers, S3.live, S3.bx, S3.ow, S3.fr, S3.bxB, S3.owB, S3.pre, S3.gk⟩
 have kr : Keeps w.heap.size (app W2 bs d) (app W2 bs d) := ⟨Nat.le_refl _, fun _ _ _ => rfl⟩
 rcases h.fr s v hl with ⟨p, hp, hpv⟩ | hp
 · exact hpv _ _ (facts_mem L hf hp) W2 _ h2 kr hbel
 · exact hp _ W2 _ h2 kr hbel
theorem aheadsI_ph {ops : Array Oper} {B : Base} {g : Gh} {st0 : St} {a0 : Act} {w : World} {b0 : Nat} {kk : St → Option R} {r : R} (S : Sim P B g st0 a0 w) : ∀ (l : List Oper), dstsIn B.nt l = true → ∀ {st : St}, st.H = st0.H ∧ st.G = st0.G → aheadsI E call b0 ops l kk st = some r →
 ∃ st1, (st1.H = st0.H ∧ st1.G = st0.G) ∧ kk st1 = some r ∧ ∀ (W1 : World) (H1 : Heap), Two g w W1 → Sim P B g ⟨st0.fr, H1, st0.G⟩ a0 W1 → (∀ b, b ≠ b0 → H1[b]? = st0.H[b]?) →
  ∃ Sp : List Spec, ∀ (Wf : Nat → World) (Fin : Nat → List Oper → Act → Facts → Prop) (l2 : List Oper) (S2 : List Spec) (ph2 : List Ph) (n2 : Nat), Wf 0 = w → Wf 1 = W1 →
  (∀ a L, HWX g w W1 B.nt st1 a L → wpPhN P ops Wf Fin n2 0 l2 S2 ph2 a L) → ∀ a L, HWX g w W1 B.nt st a L → wpPhN P ops Wf Fin (l.length + n2) 0 (l ++ l2) (Sp ++ S2) (List.replicate l.length (.rng 0 1) ++ ph2) a L := by
 intro l
 induction l with
 | nil =>
  intro _ st hH h
  refine ⟨st, hH, h, fun W1 H1 _ _ _ => ⟨[], fun Wf Fin l2 S2 ph2 n2 _ _ hk a L hw => ?_⟩⟩
  simpa using hk a L hw
 | cons o l ih =>
  intro hd st hH h
  obtain ⟨hd1, hd2⟩ := dstsIn_cons hd
  simp only [aheadsI] at h
  split at h
  · rename_i e hoe hg
    have hlt := hd1 e hoe
    cases hi : indepOp b0 ⟨only (o.looksAt ops) st.fr, st.H, st.G⟩ o with
    | false => rw [hi] at h; cases h
    | true =>
     rw [hi, condA_true] at h
     split at h
     case h_2 => cases h
     rename_i av hval
     have h1 := h
     obtain ⟨av2, st', h6', h2⟩ := aop_sound hE hC hval
     cases h6'
     obtain ⟨st1, h3, h4, h5⟩ := ih hd2 (st := st.put (some e) av) hH h1
     refine ⟨st1, h3, h4, fun W1 H1 T S1 hH1 => ?_⟩
     obtain ⟨Sr, hSr⟩ := h5 W1 H1 T S1 hH1
     refine ⟨.has (PVX g w W1 av) :: Sr, fun Wf Fin l2 S2 ph2 n2 hW0 hW1 hk a L hw => ?_⟩
     have hlen : (o :: l).length + n2 = (l.length + n2) + 1 := by simp; omega
     rw [hlen, List.length_cons, List.replicate_succ]
     refine ⟨?_, fun p hp => ?_, fun v => ?_⟩
     · unfold OwedPh
       simp only
       rw [if_pos (wanted_none hg)]
       intro q _ hq1 bs d hf K hK
       have hq : q = 0 ∨ q = 1 := by omega
       rcases hq with rfl | rfl
       · rw [hW0] at hf hK ⊢
         have S3 := hw.sim S rfl (.inl rfl) hf
         have S4 : Sim P B ⟨MXX g w.heap.size (app w bs d), g.bx, g.ow⟩ ⟨only (o.looksAt ops) st.fr, st.H, st.G⟩ a (app w bs d) := by rw [hH.1, hH.2]; exact S3
         exact (h2.still rfl).2 B _ a _ S4 K _ fun v w' M' hG hv => hK v w' hG.below (PVX.of T rfl (fun _ _ _ => rfl) hG hv)
       · rw [hW1] at hf hK ⊢
         have S3 := hw.sim S1 T.size (.inr rfl) hf
         -- the same operation over the other heap
         have hind : aop E call false o ⟨only (o.looksAt ops) st.fr, H1, st.G⟩ (fun v _ => some v) = aop E call false o ⟨only (o.looksAt ops) st.fr, st.H, st.G⟩ (fun v _ => some v) := aop_indep hi (fun b hb => by rw [hH.1]; exact hH1 b hb)
         rw [← hind, hH.2] at hval
         obtain ⟨av', st'', h6, h7⟩ := aop_sound hE hC hval
         cases h6
         exact (h7.still rfl).2 B _ a _ S3 K _ fun v w' M' hG hv => hK v w' hG.below (PVX.of T T.size (fun b j hm => T.cell b j hm) hG hv)
     · cases hp
       exact ⟨by rw [hoe]; rfl, fun v w' w2 hk2 h => by rw [hW0] at hk2; exact h.keep hk2⟩
     · exact hSr Wf Fin l2 S2 ph2 n2 hW0 hW1 hk _ _ (hw.put hoe hlt)
  · cases h
def valC : Cell → Value
 | .int k n => .int k n
 | .bool b => .bool b
 | .str l => .string ⟨l.toArray⟩
 | _ => undef
def valA : AV → Value
 | .one c => valC c
 | .agg cs => .agg (cs.map valC).toArray
 | _ => undef
omit hE hC in
theorem plain_val {g : Gh} {w : World} {v : Value} {c : Cell} (h : Rc g w v c) (hp : plainC c = true) : v = valC c := by
 cases c <;> simp only [plainC, Bool.false_eq_true] at hp
 · exact Rc.int_inv h
 · exact Rc.bool_inv h
 · exact Rc.str_inv h
omit hE hC in
theorem plain_rd {M : Mem} {w : World} {c : Cell} (hp : plainC c = true) : Rd M w (valC c) c := by
 cases c <;> simp only [plainC, Bool.false_eq_true] at hp
 · exact .int _ _
 · exact .bool _
 · exact .str _
omit hE hC in
theorem plain_valA {g : Gh} {w : World} {v : Value} {x : AV} {cs : List Cell} (h : Rv g w v x) (hc : x.cells? = some cs) (hp : cs.all plainC = true) : v = valA x := by
 rw [List.all_eq_true] at hp
 cases x with
 | one c =>
  simp only [AV.cells?, Option.some.injEq] at hc
  subst hc
  exact plain_val h (hp c (by simp))
 | agg xs =>
  simp only [AV.cells?, Option.some.injEq] at hc
  subst hc
  obtain ⟨vs, rfl, h1, h2⟩ := h
  show Value.agg vs = Value.agg _
  congr 1
  apply Array.ext
  · simp [h1]
  · intro i hi1 hi2
    have hi : i < xs.length := by rw [← h1]; exact hi1
    have := plain_val (h2 i vs[i] xs[i] (Array.getElem?_eq_getElem hi1) (List.getElem?_eq_getElem hi)) (hp _ (List.getElem_mem hi))
    simpa using this
 | tup _ => cases hc
 | undef => cases hc
omit hE hC in
theorem plain_cells {x : AV} {cs : List Cell} (hc : x.cells? = some cs) (hp : cs.all plainC = true) : (valA x).cells = (cs.map valC).toArray := by
 cases x with
 | one c =>
  simp only [AV.cells?, Option.some.injEq] at hc
  subst hc
  cases c <;> first | rfl | simp [plainC] at hp
 | agg xs =>
  simp only [AV.cells?, Option.some.injEq] at hc
  subst hc
  rfl
 | tup _ => cases hc
 | undef => cases hc
def putVals (vs : Array Value) (o : Nat) (new : List Value) : Array Value := (vs.toList.take o ++ new ++ vs.toList.drop (o + new.length)).toArray
omit hE hC in
theorem run_store_rd {t : TypeId} {blk o : Nat} {e : TypeId} {vs : Array Value} {w : World} {x : AV} {cs : List Cell} (hti : ∀ w : World, (sizeOf t).run P w = .ok cs.length w) (h : w.heap[blk]? = some (.cells vs e (0, 0))) (hle : o + cs.length ≤ vs.size) (hc : x.cells? = some cs) (hp : cs.all plainC = true) :
 (Instr.storeAt t (.pointer (some ⟨blk, o, none⟩)) (valA x)).run P w = .ok () (rd w blk (putVals vs o (cs.map valC))) := by
 have hcl := plain_cells hc hp
 have hst := run_storeCells_at P blk o e (cs.map valC) 0 vs w h (by simpa using hle) (fun u hu => by
  obtain ⟨c, hcm, rfl⟩ := List.mem_map.1 hu
  rw [List.all_eq_true] at hp
  have := hp c hcm
  cases c <;> first | rfl | simp [plainC] at this)
 simp only [Nat.add_zero] at hst
 simp only [Instr.storeAt, Instr.sureAddr, storeVar, Sem.run_bind, Sem.run_pure, Result.andThen_ok, hti w, hcl]
 rw [if_neg (by simp)]
 exact hst
omit hE hC in
theorem put_rel {g : Gh} {w w' : World} {vs : Array Value} {cs new : List Cell} {o : Nat} (h : RvA g w vs cs) (hk : ∀ v c, Rc g w v c → Rc g w' v c) (hp : new.all plainC = true) (hle : o + new.length ≤ cs.length) : RvA g w' (putVals vs o (new.map valC)) (setCells cs o new) := by
 have hl2 := h.1
 rw [List.all_eq_true] at hp
 refine ⟨by unfold setCells putVals; simp; omega, fun i u c hu hcc => ?_⟩
 unfold setCells at hcc
 unfold putVals at hu
 simp only [List.getElem?_toArray] at hu
 rw [List.append_assoc, List.getElem?_append, List.length_take] at hu hcc
 have e1 : min o vs.toList.length = o := by simp; omega
 have e2 : min o cs.length = o := by omega
 rw [e1] at hu
 rw [e2] at hcc
 split at hcc
 · rename_i hlt
   rw [if_pos hlt, List.getElem?_take, if_pos hlt] at hu
   rw [List.getElem?_take, if_pos hlt] at hcc
   exact hk _ _ (h.2 i u c (by simpa using hu) hcc)
 · rename_i hge
   rw [if_neg hge] at hu
   rw [List.getElem?_append] at hu hcc
   rw [List.length_map] at hu
   split at hcc
   · rename_i hlt
     rw [if_pos hlt, List.getElem?_map, hcc] at hu
     cases hu
     exact .data (plain_rd (hp c (List.mem_of_getElem? hcc)))
   · rename_i hge2
     rw [if_neg hge2] at hu
     rw [List.getElem?_drop] at hu hcc
     exact hk _ _ (h.2 _ u c (by simpa using hu) hcc)
omit hE hC in
theorem ev_only {l : List Nat} {fr : List (Nat × AV)} {H : Heap} {G : Option Heap} {x : Operand} {v : AV} (h : AX.ev ⟨only l fr, H, G⟩ x = some v) : AX.ev ⟨fr, H, G⟩ x = some v := by
 cases x with
 | tmp t => exact (lk_only h).2
 | _ => exact h
omit [Inv] hE hC in
theorem isGp_ptr {st : St} {x : Operand} {b oo : Nat} (h : AX.ev st x = some (.one (.ptr b oo))) : isGp st x = false := by
 unfold isGp; rw [h]
theorem store_region {ops : Array Oper} {id hd : Nat} {B : Base} {g : Gh} {st : St} {a : Act} {w : World} {kk : St → Option R} {r : R} {Q : Exit → Act → World → Prop} (S : Sim P B g st a w) (hfol : P.follows .mixedOrders = true)
 (hdst : dstsIn B.nt ops.toList = true) (hsh : phaseOk ops (hd % 1000 + 1) B.nt (phOf (hd % 1000)) = true)
 (h : aheadsI E call (hd / 1000 - 1) ops (ops.toList.take (hd % 1000)) (fun st1 => condA (storesAt (hd / 1000 - 1) ops st1 (ops.toList.drop (hd % 1000))) (aops E call ops (ops.toList.drop (hd % 1000)) kk st1) none) st = some r)
 (hQ : ∀ g st a w, Sim P B g st a w → kk st = some r → Q .normal a w) : (Code.region id ops true).wp P Q a w := by
 generalize hd / 1000 - 1 = b0 at h
 generalize hd % 1000 = s at h hsh
 have htail : ∀ n, dstsIn B.nt (ops.toList.drop n) = true := fun n => by
  unfold dstsIn at hdst ⊢
  rw [List.all_eq_true] at hdst ⊢
  exact fun x hx => hdst x (List.mem_of_mem_drop hx)
 have hhead : ∀ n, dstsIn B.nt (ops.toList.take n) = true := fun n => by
  unfold dstsIn at hdst ⊢
  rw [List.all_eq_true] at hdst ⊢
  exact fun x hx => hdst x (List.mem_of_mem_take hx)
 obtain ⟨st1, hH, hk, main⟩ := aheadsI_ph hE hC S (ops.toList.take s) (hhead s) ⟨rfl, rfl⟩ h
 cases hs : storesAt b0 ops st1 (ops.toList.drop s) with
 | false => rw [hs] at hk; cases hk
 | true =>
  rw [hs, condA_true] at hk
  cases hdr : ops.toList.drop s with
  | nil => rw [hdr] at hs; cases hs
  | cons o rest =>
   rw [hdr] at hs hk
   have hrestT : dstsIn B.nt rest = true := by
    have := htail s
    rw [hdr] at this
    exact (dstsIn_cons this).2
   simp only [storesAt] at hs
   split at hs
   · rename_i t pa px hg hod ho
     split at hs
     · rename_i b oo x hpa hpx
       rw [Bool.and_eq_true] at hs
       obtain ⟨hb, hpl⟩ := hs
       have hb := Nat.eq_of_beq_eq_true hb
       subst hb
       split at hpl
       · rename_i cs hcs
         -- the store, in the order of the text
         simp only [aops, hg, hod] at hk
         unfold aop at hk
         simp only [ho, condA_true] at hk
         rw [isGp_ptr (ev_only hpa), Bool.and_false, condA_false] at hk
         rw [ev_only hpa, ev_only hpx] at hk
         cases hti : tyN E.T t with
         | none => rw [hti] at hk; cases hk
         | some ti =>
         rw [hti] at hk
         simp only [hcs] at hk
         cases hln : Nat.beq cs.length ti.leaves.length with
         | false => rw [hln] at hk; cases hk
         | true =>
         rw [hln, condA_true] at hk
         cases hsb : setBox st1.H b oo cs with
         | none => rw [hsb] at hk; cases hk
         | some H' =>
         rw [hsb] at hk
         simp only [St.put] at hk
         obtain ⟨cs0, hcs0, hle, rfl, hplain⟩ := setBox_some hsb
         rw [hH.1] at hcs0
         obtain ⟨blk, hbx, hbox⟩ := S.bx.box b cs0 hcs0
         obtain ⟨htt, hnt⟩ := tyN_some hti
         have hsize : ∀ w : World, (sizeOf t).run P w = .ok cs.length w := fun w => by
          rw [Nat.eq_of_beq_eq_true hln]; exact (not_tup hE htt hnt).size
         cases hbox with
         | row vs e fz cs1 _ _ _ _ => cases hplain
         | map es ck ks _ _ => cases hplain
         | bld t' p' v' c' _ _ _ => cases hplain
         | cells vs e _ hblk hrva =>
         have hlt : blk < w.heap.size := (Array.getElem?_eq_some_iff.1 hblk).1
         let W1 := rd w blk (putVals vs oo (cs.map valC))
         have hmem : blk ∈ g.bx := List.mem_of_getElem? hbx
         have T : Two g w W1 := ⟨rd_size _ _ _, S.live, fun b j hm => rd_cell_ne w blk b _ j (fun e => S.bx.M blk hmem j (by rw [← e]; exact hm))⟩
         have S1 : Sim P B g ⟨st.fr, st.H.set b (setCells cs0 oo cs), st.G⟩ a W1 := by
          refine S.turnBox hbx rfl rfl rfl (by rw [T.size]; exact Nat.le_refl _) (fun k _ hk => rd_block_ne w blk k _ hk) fun hc' => ?_
          exact .cells _ e _ (setRow_heap w blk vs _ e _ hblk) (put_rel hrva hc' hpl hle)
         obtain ⟨Sp, hSp0⟩ := main W1 (st.H.set b (setCells cs0 oo cs)) T S1 (fun b' hb' => by rw [List.getElem?_set_ne (Ne.symm hb')])
         have hlen : (ops.toList.take s).length = s := by
          rw [List.length_take]
          have : s < ops.toList.length := by
           rcases Nat.lt_or_ge s ops.toList.length with h1 | h1
           · exact h1
           · rw [List.drop_of_length_le h1] at hdr; cases hdr
          omega
         have hops : ops.toList.toArray = ops := by simp
         have key : (Code.region id ops.toList.toArray true).wp P Q a (app w #[] w.drawn) := by
          refine wp_region_phx (Ws := [W1]) (S := Sp ++ [.is undef]) (s + 1) (ph := phOf s) hfol (fun Fin hFin => ?_) (by rw [hops, S.size]; exact hsh)
          rw [hops]
          have hSp := hSp0 (fun q => (w :: [W1]).getD q w) Fin (o :: rest) [.is undef] [.wr] 1 rfl rfl (fun a' L' hw => by
           refine ⟨?_, ?_⟩
           · unfold OwedPh
             simp only
             refine ⟨wanted_none hg, by show W1.heap.size = w.heap.size; exact T.size, fun bs d hf K hK => ?_⟩
             have S3 := hw.sim S rfl (.inl rfl) hf
             have hp3 := S3.ev (x := pa) (v := .one (.ptr b oo)) (by exact hpa)
             have hx3 := S3.ev (x := px) (v := x) (by exact hpx)
             obtain ⟨blk', hpv, hbx'⟩ := Rc.ptr_inv hp3
             have hbx' : g.bx[b]? = some blk' := hbx'
             rw [hbx] at hbx'; cases hbx'
             have hxv := plain_valA hx3 hcs hpl
             have hrun := run_store_rd (P := P) (w := app w bs d) hsize (by rw [app_heap w bs d blk hlt]; exact hblk) (by rw [hrva.1]; exact hle) hcs hpl
             rw [rd_app w blk _ bs d hlt] at hrun
             unfold Oper.wp
             have hex : (execOp a'.eval o).run P (app w bs d) = .ok .skip (app W1 bs d) := by
              simp only [execOp, ho, hpv, hxv, Sem.run_bind]
              rw [hrun]; rfl
             show Oper.wp P o a' (app w bs d) K _
             unfold Oper.wp
             rw [hex]
             exact hK undef bs d ⟨#[], by simp⟩ rfl
           · refine hFin 1 W1 rest _ L' rfl fun _ bs d hfa => ?_
             have S5 := hw.all S1 T.size (.inr rfl) hfa
             rw [hops, hod]
             rw [hH.1, hH.2] at hk
             exact aops_sound hE hC hQ rest hrestT S5 hk)
          rw [hlen] at hSp
          have := hSp a [] ⟨fun s v hs => .inr fun w' w0 w'' h0 hk' hb' => ?_, S.size, S.defers⟩
          · rw [← hdr, List.take_append_drop] at this
            exact this
          · refine (S.frame s v hs).kept (g' := ⟨MXX g w.heap.size w'', g.bx, g.ow⟩) ⟨fun b' j hm => ⟨.inl hm, ?_⟩, List.prefix_refl _⟩ (fun _ _ h => h) (fun _ _ h => h)
            have e1 : w''.cell? ⟨b', j, none⟩ = w0.cell? ⟨b', j, none⟩ := World.cell?_of_block (w := w0) (hb'.block b' (S.live b' j hm))
            rw [e1]
            rcases h0 with rfl | rfl
            · rfl
            · exact T.cell b' j hm
         rw [hops, app_nil] at key
         exact key
       · cases hpl
     · cases hs
   · cases hs
theorem alloc_region {ops : Array Oper} {id p s : Nat} {B : Base} {g : Gh} {st : St} {a : Act} {w : World} {kk : St → Option R} {r : R} {Q : Exit → Act → World → Prop} (S : Sim P B g st a w) (hfol : P.follows .mixedOrders = true)
 (hdst : dstsIn B.nt ops.toList = true) (hsh : shapeOk ops s B.nt = true) (h : aheadsA E call p s ops kk st = some r)
 (hQ : ∀ g st a w, Sim P B g st a w → kk st = some r → Q .normal a w) : (Code.region id ops true).wp P Q a w := by
 have htail : ∀ n, dstsIn B.nt (ops.toList.drop n) = true := fun n => by
  unfold dstsIn at hdst ⊢
  rw [List.all_eq_true] at hdst ⊢
  exact fun x hx => hdst x (List.mem_of_mem_drop hx)
 have hhead : ∀ n, dstsIn B.nt (ops.toList.take n) = true := fun n => by
  unfold dstsIn at hdst ⊢
  rw [List.all_eq_true] at hdst ⊢
  exact fun x hx => hdst x (List.mem_of_mem_take hx)
 unfold aheadsA at h
 split at h
 · cases h
 · rename_i o rest hdr
   split at h
   · rename_i t e hal hgd hoe
     cases hb : !(inL E.gal (some e)) && Nat.blt p s && (aloneB e (ops.toList.take p) && aloneB e ((ops.toList.take s).drop (p + 1))) with
     | false => rw [hb] at h; cases h
     | true =>
     rw [hb, condA_true] at h
     simp only [Bool.and_eq_true] at hb
     obtain ⟨⟨hgal, hps⟩, _, halone⟩ := hb
     rw [Bool.not_eq_true'] at hgal
     rw [Nat.blt_eq] at hps
     have hplen : p < ops.toList.length := by
      rcases Nat.lt_or_ge p ops.toList.length with h1 | h1
      · exact h1
      · rw [List.drop_of_length_le h1] at hdr; cases hdr
     have ho := allocOf_some hal
     have hoin : o ∈ ops.toList.take s := by
      have h1 : (ops.toList.take s)[p]? = some o := by
       rw [List.getElem?_take, if_pos hps]
       have : (ops.toList.drop p)[0]? = some o := by rw [hdr]; rfl
       rwa [List.getElem?_drop, Nat.add_zero] at this
      exact List.mem_of_getElem? h1
     have helt : e < B.nt := by
      have := hhead s
      unfold dstsIn at this
      rw [List.all_eq_true] at this
      have := this o hoin
      rw [hoe] at this
      simpa using this
     obtain ⟨Sp, hS⟩ := aheads_sound hE hC S (kk := fun st2 => aop E call true o ⟨keepFr st2.fr (dstL (ops.toList.take s)) ++ rmAll st.fr (dstL (ops.toList.take s)), st.H, st.G⟩ fun v st3 => aops E call ops (ops.toList.drop s) kk (st3.put (some e) v)) (r := r)
      (Fin := fun a L => ∀ bs d, factsAll L (app w bs d) → wpList P ops Q (ops.toList.drop s) a (app w bs d))
      (J := fun l a' L => (∃ k, l = (ops.toList.take s).drop k ∧ (p < k → (e, Fresh E w t, a'.tmps.getD e undef) ∈ L)) ∧ (∀ x, x ∉ dstL (ops.toList.take s) → a'.tmps.getD x undef = a.tmps.getD x undef) ∧ a'.tmps.size = B.nt)
      (fun o' l a' v L L' ⟨⟨k, hk, hfact⟩, hsame, hsz⟩ hLL hnew => by
       have hmem : o' ∈ ops.toList.take s := List.mem_of_mem_drop (by rw [← hk]; exact List.mem_cons_self)
       have hl : l = (ops.toList.take s).drop (k + 1) := by
        have := congrArg List.tail hk
        rw [List.tail_drop] at this
        exact this
       refine ⟨⟨k + 1, hl, fun hpk => ?_⟩, fun x hx => ?_, by rw [put_size]; exact hsz⟩
       · by_cases hpk2 : p < k
         · have hne : o'.dst ≠ some e := alone_ne halone (by
            have e1 : (ops.toList.take s).drop k = ((ops.toList.take s).drop (p + 1)).drop (k - (p + 1)) := by rw [List.drop_drop]; congr 1; omega
            rw [e1] at hk
            exact List.mem_of_mem_drop (by rw [← hk]; exact List.mem_cons_self))
           have : (a'.put o'.dst v).tmps.getD e undef = a'.tmps.getD e undef := by
            cases hd' : o'.dst with
            | none => rfl
            | some d =>
             simp only [Act.put, Array.getD_eq_getD_getElem?, Array.getElem?_setIfInBounds]
             rw [if_neg (fun h => hne (by rw [hd', h]))]
           rw [this]
           exact hLL _ (hfact hpk2)
         · obtain rfl : k = p := by omega
           have hoo : o' = o := by
            have h1 : ((ops.toList.take s).drop k)[0]? = some o' := by rw [← hk]; rfl
            rw [List.getElem?_drop, Nat.add_zero, List.getElem?_take, if_pos hps] at h1
            have h2 : (ops.toList.drop k)[0]? = some o := by rw [hdr]; rfl
            rw [List.getElem?_drop, Nat.add_zero, h1] at h2
            exact Option.some.inj h2
           subst hoo
           rw [get_put hoe hsz helt, if_pos rfl]
           exact hnew hgd t e hal hoe
       · have hne : o'.dst ≠ some x := fun hd' => hx (mem_dstL hd' hmem)
         rw [← hsame x hx]
         cases hd' : o'.dst with
         | none => rfl
         | some d =>
          simp only [Act.put, Array.getD_eq_getD_getElem?, Array.getElem?_setIfInBounds]
          rw [if_neg (fun h => hne (by rw [hd', h]))])
      (fun st' a' L hH hw ⟨⟨k, hk, hfact⟩, hsame, hsz⟩ hk2 bs d hfa => by
       have hbel : Below w.heap.size w (app w bs d) := (Below.refl _ _).app (Nat.le_refl _) bs d
       have hpk : p < k := by
        have := congrArg List.length hk
        rw [List.length_drop, List.length_take] at this
        simp only [List.length_nil] at this
        omega
       obtain ⟨blk, z, ti, hv, hge, hblk, hti, hz⟩ := facts_mem L hfa (hfact hpk)
       have S3 : Sim P B g ⟨keepFr st'.fr (dstL (ops.toList.take s)) ++ rmAll st.fr (dstL (ops.toList.take s)), st.H, st.G⟩ a' w := by
        refine ⟨fun x v hx => ?_, hw.size, hw.defers, S.live, S.bx, S.ow, S.fr, S.bxB, S.owB, S.pre, S.gk⟩
        rcases lk_app hx with hx | hx
        · obtain ⟨_, h2, h3⟩ := lk_keep hx
          have hpv : PV g w v (a'.tmps.getD x undef) (app w bs d) := by
           rcases hw.fr x v h2 with ⟨p, hp, hpv⟩ | hp
           · exact hpv _ _ (facts_mem L hfa hp)
           · exact hp _ hbel
          exact plain_rc hpv.2 h3 (fun _ _ h => h)
        · obtain ⟨h1, h2⟩ := lk_rmAll hx
          rw [hsame x h1]
          exact S.frame x v h2
       unfold aop at hk2
       simp only [ho, hoe, hgal, condA_true, condA_false] at hk2
       rw [hti] at hk2
       obtain ⟨g', h7, h8⟩ := adopt_sound S3 hz hge hbel hblk (E.selfs.any (Nat.beq t))
       refine aops_sound hE hC hQ _ (htail s) (g := g') ?_ hk2
       refine ⟨fun x v hx => ?_, h8.size, h8.defers, h8.live, h8.bx, h8.ow, h8.fr, h8.bxB, h8.owB, h8.pre, h8.gk⟩
       rw [lk_put] at hx
       by_cases hex : e = x
       · rw [if_pos hex] at hx
         cases hx
         rw [← hex, hv]
         exact h7
       · rw [if_neg hex] at hx
         exact h8.frame x v hx) (ops.toList.take s) (hhead s) ⟨rfl, rfl⟩ h
     exact wp_region_text0 s Sp hfol (by rw [S.size]; exact hsh) (hS a [] ⟨fun s v hs => .inr fun w' hb => ⟨hb, (S.frame s v hs).grow (MX.grow S.live hb) S.live⟩, fun s b hs => Rc.bool_inv (S.frame s _ hs), fun s hs => S.frame s _ hs, S.size, S.defers⟩
      ⟨⟨0, rfl, fun h => by omega⟩, fun _ _ => rfl, S.size⟩)
   · cases h
def wpAnyR (P : Program) (ops : Array Oper) (Q : Exit → Act → World → Prop) (R : Nat → World → World → Prop) : Nat → Array Bool → Act → World → Prop
 | 0, listed, a, w => Region.ready .any ops listed = [] ∧ Q .normal a w
 | fuel + 1, listed, a, w => (Region.ready .any ops listed = [] → Q .normal a w) ∧ ∀ i ∈ Region.ready .any ops listed, wpOp P ops Q i (fun a' w' => R i w w' ∧ wpAnyR P ops Q R fuel (listed.setIfInBounds i true) a' w') a w
omit [Inv] hE hC in
theorem wpAny_of_R {ops : Array Oper} {Q : Exit → Act → World → Prop} {R : Nat → World → World → Prop} : ∀ (fuel : Nat) (listed : Array Bool) (a : Act) (w : World), wpAnyR P ops Q R fuel listed a w → wpAny P .any ops Q fuel listed a w
 | 0, _, _, _, h => h
 | fuel + 1, _, _, _, h => ⟨h.1, fun i hi => wpOp_mono (fun a' w' h' => wpAny_of_R fuel _ a' w' h'.2) (h.2 i hi)⟩
def Clos (ops : Array Oper) (listed : Array Bool) : Prop := ∀ (k : Nat) ok, ops[k]? = some ok → listed.getD k false = true → ∀ e ∈ ok.after, Region.binds .any e = true → listed.getD e.on false = true
omit [Inv] hE hC in
theorem Clos.step {ops : Array Oper} {listed : Array Bool} (h : Clos ops listed) {j : Nat} (hj : j ∈ Region.ready .any ops listed) : Clos ops (listed.setIfInBounds j true) := fun k ok hk hl e he hb => by
 obtain ⟨_, oj, hoj, hall⟩ := mem_ready.1 hj
 by_cases hjk : j = k
 · subst hjk
   rw [hk] at hoj; cases hoj
   exact getD_set_true (hall e he hb)
 · rw [getD_set_ne false hjk] at hl
   exact getD_set_true (h k ok hk hl e he hb)
omit [Inv] hE hC in
theorem wpAnyR_first {ops : Array Oper} {Q : Exit → Act → World → Prop} {R : Nat → World → World → Prop} {T : World → World → Prop} {i : Nat} {oi : Oper} {v : Value} (hi : ops[i]? = some oi) (hsel : ∀ (j : Nat) (o : Oper) cs b, ops[j]? = some o → o.op ≠ .select cs b)
 (hQ : ∀ c a w, Q (.panic c) (a.put oi.dst v) w → Q (.panic c) a w) (hrefl : ∀ w, T w w) (htr : ∀ w w' w'', T w w' → T w' w'' → T w w'') (hRi : ∀ w, R i w w) :
 ∀ (fuel : Nat) (listed : Array Bool) (a : Act) (w : World),
  (∀ j oj, ops[j]? = some oj → j ≠ i → listed.getD j true = false → (∀ e ∈ oj.after, Region.binds .any e = true → e.on ≠ i) → oi.apart ops oj = true ∧ ((∀ e ∈ oj.after, Region.binds .any e = true → ∀ o', ops[e.on]? = some o' → ∀ e' ∈ o'.after, Region.binds .any e' = true → e'.on ≠ i) → ∀ w w', R j w w' → T w w')) → Clos ops listed →
  i ∈ Region.ready .any ops listed → YieldsIf P ops (T w) oi v a →
  wpAnyR P ops Q R fuel (listed.setIfInBounds i true) (a.put oi.dst v) w → wpAnyR P ops Q R (fuel + 1) listed a w := by
 intro fuel
 induction fuel with
 | zero =>
  intro listed a w _ _ hr hy H
  refine ⟨fun h => (by rw [h] at hr; cases hr), fun j hj => ?_⟩
  by_cases hji : j = i
  · subst hji; exact hy.wpOp hi (hrefl w) ⟨hRi w, H⟩
  · have := ready_mono hj hji
    rw [H.1] at this
    cases this
 | succ fuel ih =>
  intro listed a w hfree hcl hr hy H
  refine ⟨fun h => (by rw [h] at hr; cases hr), fun j hj => ?_⟩
  by_cases hji : j = i
  · subst hji; exact hy.wpOp hi (hrefl w) ⟨hRi w, H⟩
  · have h1 := H.2 j (ready_mono hj hji)
    obtain ⟨hjun, oj, hoj, hall⟩ := mem_ready.1 hj
    have hnot : ∀ e ∈ oj.after, Region.binds .any e = true → e.on ≠ i := fun e he hb heq => by
     have h1 := hall e he hb
     have h0 := (mem_ready.1 hr).1
     rw [heq] at h1
     rcases Nat.lt_or_ge i listed.size with h' | h'
     · simp [h'] at h0 h1; rw [h0] at h1; cases h1
     · simp [Array.getElem?_eq_none h'] at h1
    obtain ⟨hap, hRT⟩ := hfree j oj hoj hji hjun hnot
    have hRT := hRT fun e he hb o' ho' e' he' hb' heq => by
     have h1 := hcl e.on o' ho' (hall e he hb) e' he' hb'
     have h0 := (mem_ready.1 hr).1
     rw [heq] at h1
     rcases Nat.lt_or_ge i listed.size with h' | h'
     · simp [h'] at h0 h1; rw [h0] at h1; cases h1
     · simp [Array.getElem?_eq_none h'] at h1
    have h2 := wpOp_putIf hoj hap (fun cs b => hsel i oi cs b hi) (fun cs b => hsel j oj cs b hoj) hQ hy h1
    have hfree' : ∀ k ok, ops[k]? = some ok → k ≠ i → (listed.setIfInBounds j true).getD k true = false →
     (∀ e ∈ ok.after, Region.binds .any e = true → e.on ≠ i) → oi.apart ops ok = true ∧ ((∀ e ∈ ok.after, Region.binds .any e = true → ∀ o', ops[e.on]? = some o' → ∀ e' ∈ o'.after, Region.binds .any e' = true → e'.on ≠ i) → ∀ w w', R k w w' → T w w') := fun k ok hk hki hun hno => by
     refine hfree k ok hk hki ?_ hno
     by_cases hjk : j = k
     · subst hjk; exact hjun
     · rw [getD_set_ne true hjk] at hun; exact hun
    refine wpOp_mono (fun a' w' h3 => ⟨h3.2.1, ih (listed.setIfInBounds j true) a' w' hfree' (hcl.step hj) (ready_mono hr (Ne.symm hji)) ?_ ?_⟩) h2
    · refine h3.1.imp (fun ⟨hw, hv⟩ => ⟨hw, fun w'' hT => hv w'' (htr _ _ _ (hRT _ _ h3.2.1) hT)⟩) id
    · rw [Array.setIfInBounds_comm _ _ hji]
      exact h3.2.2
def OnlyAt {α : Type} (blk : Nat) : Sem α → Prop
 | .pure _ => True
 | .halt _ => True
 | .load _ a k => a.block = blk ∧ ∀ v, OnlyAt blk (k v)
 | .program k => ∀ p, OnlyAt blk (k p)
 | _ => False
omit [Inv] hE hC in
theorem OnlyAt.bind {α β : Type} {blk : Nat} {x : Sem α} {f : α → Sem β} (hx : OnlyAt blk x) (hf : ∀ a, OnlyAt blk (f a)) : OnlyAt blk (x >>= f) := by
 show OnlyAt blk (x.bind f)
 induction x with
 | pure a => exact hf a
 | halt h => exact trivial
 | load m a k ih => exact ⟨hx.1, fun v => ih v (hx.2 v)⟩
 | program k ih => exact fun p => ih p (hx p)
 | _ => exact hx.elim
omit [Inv] hE hC in
theorem OnlyAt.run {α : Type} {blk : Nat} {x : Sem α} (hx : OnlyAt blk x) {w w' w1 : World} {v : α} {vs : Array Value} {e : TypeId} {fz : Nat × Nat} (hc : w.heap[blk]? = some (.cells vs e fz)) (hs : w'.heap[blk]? = w.heap[blk]?) (h : x.run P w = .ok v w1) :
 w1 = w ∧ x.run P w' = .ok v w' := by
 induction x with
 | pure a => simp only [Sem.run, Result.ok.injEq] at h ⊢; exact ⟨h.2.symm, h.1, trivial⟩
 | halt h1 => simp only [Sem.run] at h; cases h
 | load m a k ih =>
  obtain ⟨hb, hk⟩ := hx
  have e1 : w'.cell? a = w.cell? a := by unfold World.cell?; rw [hb, hs]
  simp only [Sem.run] at h ⊢
  rw [e1]
  cases hv : w.cell? a with
  | some u => rw [hv] at h; exact ih u (hk u) h
  | none =>
   rw [hv] at h
   unfold World.farLoad at h
   rw [hb, hc] at h
   cases h
 | program k ih => exact ih P (hx P) h
 | _ => exact hx.elim
omit [Inv] hE hC in
theorem onlyAt_info {blk : Nat} (t : TypeId) : OnlyAt blk (typeInfo t) := by
 unfold typeInfo
 refine OnlyAt.bind (fun _ => trivial) fun p => ?_
 split <;> trivial
omit [Inv] hE hC in
theorem onlyAt_under {blk : Nat} (t : TypeId) : OnlyAt blk (underlying t) := by
 unfold underlying
 refine OnlyAt.bind (fun _ => trivial) fun p => ?_
 split <;> trivial
omit [Inv] hE hC in
theorem onlyAt_cells {blk o : Nat} : ∀ (n i : Nat) (acc : Array Value), OnlyAt blk (loadCellsFrom ⟨blk, o, none⟩ i n acc)
 | 0, _, _ => trivial
 | n + 1, i, acc => by
  unfold loadCellsFrom
  refine OnlyAt.bind ⟨?_, fun _ => trivial⟩ fun v => onlyAt_cells n (i + 1) (acc.push v)
  unfold Addr.add; split <;> rfl
omit [Inv] hE hC in
theorem onlyAt_load {blk o : Nat} (t : TypeId) : OnlyAt blk (Instr.loadAt t (.pointer (some ⟨blk, o, none⟩))) := by
 show OnlyAt blk (loadVar t ⟨blk, o, none⟩)
 unfold loadVar isAgg
 refine OnlyAt.bind (OnlyAt.bind (onlyAt_under t) fun u => ?_) fun b => ?_
 · split <;> trivial
 · split
   · refine OnlyAt.bind ?_ fun n => OnlyAt.bind (onlyAt_cells _ _ _) fun _ => trivial
     unfold sizeOf
     exact OnlyAt.bind (onlyAt_info t) fun _ => trivial
   · exact ⟨rfl, fun _ => trivial⟩
def OnlyPut {α : Type} (blk : Nat) : Sem α → Prop
 | .pure _ => True
 | .halt _ => True
 | .store _ a _ k => a.block = blk ∧ OnlyPut blk k
 | .program k => ∀ p, OnlyPut blk (k p)
 | _ => False
omit [Inv] hE hC in
theorem OnlyPut.bind {α β : Type} {blk : Nat} {x : Sem α} {f : α → Sem β} (hx : OnlyPut blk x) (hf : ∀ a, OnlyPut blk (f a)) : OnlyPut blk (x >>= f) := by
 show OnlyPut blk (x.bind f)
 induction x with
 | pure a => exact hf a
 | halt h => exact trivial
 | store m a v k ih => exact ⟨hx.1, ih hx.2⟩
 | program k ih => exact fun p => ih p (hx p)
 | _ => exact hx.elim
omit [Inv] hE hC in
theorem store_run {α : Type} {m : Mode} {a : Addr} {u : Value} {k : Sem α} {w w1 : World} {v : α} (h : (Sem.store m a u k).run P w = .ok v w1) : k.run P (w.setCell a u) = .ok v w1 ∨ ∃ w2, w.farStore P a u (m == Mode.atomic) = .ok w2 := by
  cases u <;> simp only [Sem.run] at h <;> first
    | (cases h; done)
    | (split at h
       · split at h
         · cases h
         · exact .inl h
       · split at h
         · exact .inr ⟨_, ‹_›⟩
         · cases h)
omit [Inv] hE hC in
theorem OnlyPut.run {α : Type} {blk : Nat} {x : Sem α} (hx : OnlyPut blk x) {w w1 : World} {v : α} {vs : Array Value} {e : TypeId} {fz : Nat × Nat} (hc : w.heap[blk]? = some (.cells vs e fz)) (h : x.run P w = .ok v w1) :
 ∀ q, q ≠ blk → w1.heap[q]? = w.heap[q]? := by
 induction x generalizing w vs with
 | pure a => simp only [Sem.run, Result.ok.injEq] at h; obtain ⟨_, rfl⟩ := h; exact fun _ _ => rfl
 | halt h1 => simp only [Sem.run] at h; cases h
 | store m a u k ih =>
  obtain ⟨hb, hk⟩ := hx
  rcases store_run h with h | h
  · have e1 : ∀ q, q ≠ blk → (w.setCell a u).heap[q]? = w.heap[q]? := fun q hq => by
     simp only [World.setCell, hb]
     rw [Array.getElem?_modify, if_neg (Ne.symm hq)]
    have e2 : ∃ vs, (w.setCell a u).heap[blk]? = some (.cells vs e fz) := by
     simp only [World.setCell, hb]
     rw [Array.getElem?_modify, if_pos rfl, hc]
     exact ⟨_, rfl⟩
    obtain ⟨vs', e2⟩ := e2
    exact fun q hq => (ih hk e2 h q hq).trans (e1 q hq)
  · obtain ⟨w2, h⟩ := h
    unfold World.farStore at h
    rw [hb, hc] at h
    cases h
 | program k ih => exact ih P (hx P) hc h
 | _ => exact hx.elim
omit [Inv] hE hC in
theorem onlyPut_cells {blk o : Nat} : ∀ (vs : List Value) (i : Nat), OnlyPut blk (storeCells ⟨blk, o, none⟩ vs i)
 | [], _ => trivial
 | v :: vs, i => by
  unfold storeCells
  refine OnlyPut.bind ⟨?_, trivial⟩ fun _ => onlyPut_cells vs (i + 1)
  unfold Addr.add; split <;> rfl
omit [Inv] hE hC in
theorem onlyPut_store {blk o : Nat} (t : TypeId) (v : Value) : OnlyPut blk (Instr.storeAt t (.pointer (some ⟨blk, o, none⟩)) v) := by
 show OnlyPut blk (storeVar t ⟨blk, o, none⟩ v)
 unfold storeVar sizeOf typeInfo
 refine OnlyPut.bind (OnlyPut.bind (OnlyPut.bind (fun _ => trivial) fun p => ?_) fun _ => trivial) fun n => ?_
 · split <;> trivial
 · split
   · exact trivial
   · exact onlyPut_cells _ _
def noQ : Exit → Act → World → Prop := fun _ _ _ => False
omit [Inv] hE hC in
theorem still_wp {o : Oper} {a : Act} {w : World} {K : Act → World → Prop} (hs : stillOp o.op = true) (hn : ∀ x, o.op = .nilCheck x → ∃ A, a.eval x = .pointer (some A))
 (hf : ∀ t x f, o.op = .fieldAddr t x f → ∃ u, ∀ w' : World, (Instr.fieldAt t (a.eval x) f).run P w' = .ok u w') (h : o.wp P a w K noQ) : ∃ v, (∀ w' : World, (execOp a.eval o).run P w' = .ok (.value v) w') ∧ K (a.put o.dst v) w := by
 have key : ∀ v, (∀ w' : World, (execOp a.eval o).run P w' = .ok (.value v) w') → ∃ v, (∀ w' : World, (execOp a.eval o).run P w' = .ok (.value v) w') ∧ K (a.put o.dst v) w := fun v hv => by
  refine ⟨v, hv, ?_⟩
  unfold Oper.wp at h
  rw [hv w] at h
  exact h
 cases ho : o.op with
 | move x => exact key (a.eval x) fun w' => by simp only [execOp, ho]; rfl
 | assign x => exact key (a.eval x) fun w' => by simp only [execOp, ho]; rfl
 | pick c x y =>
  unfold Oper.wp at h
  simp only [execOp, ho] at h
  cases hb : a.eval c with
  | bool b => exact key (if b then a.eval x else a.eval y) fun w' => by simp only [execOp, ho, hb]; rfl
  | _ => rw [hb] at h; simp [asBool, Oper.upon, Sem.run_bind, stuck, Sem.run, noQ] at h
 | nilCheck x =>
  obtain ⟨A, hA⟩ := hn x ho
  exact key (.pointer (some A)) fun w' => by simp only [execOp, ho, hA]; rfl
 | fieldAddr t x f =>
  obtain ⟨u, hu⟩ := hf t x f ho
  exact key u fun w' => by simp only [execOp, ho]; exact run_v (hu w')
 | extract x i =>
  unfold Oper.wp at h
  simp only [execOp, ho] at h
  cases hb : a.eval x with
  | tuple vs =>
   rw [hb] at h
   cases hi : vs[i]? with
   | some u => exact key u fun w' => by simp only [execOp, ho, hb]; simp [Instr.extract, hi]
   | none => simp [Instr.extract, hi, Oper.upon, Sem.run_bind, stuck, Sem.run, noQ] at h
  | _ => rw [hb] at h; simp [Instr.extract, Oper.upon, Sem.run_bind, stuck, Sem.run, noQ] at h
 | _ => simp [stillOp, ho] at hs
omit [Inv] hE hC in
theorem load_wp {o : Oper} {t : TypeId} {x : Operand} {a : Act} {w : World} {K : Act → World → Prop} {blk off : Nat} {vs : Array Value} {e : TypeId} {fz : Nat × Nat} (ho : o.op = .load t x) (hx : a.eval x = .pointer (some ⟨blk, off, none⟩))
 (hc : w.heap[blk]? = some (.cells vs e fz)) (h : o.wp P a w K noQ) : ∃ v, (∀ w' : World, w'.heap[blk]? = w.heap[blk]? → (execOp a.eval o).run P w' = .ok (.value v) w') ∧ K (a.put o.dst v) w := by
 unfold Oper.wp at h
 have e1 : ∀ w' : World, (execOp a.eval o).run P w' = ((Instr.loadAt t (.pointer (some ⟨blk, off, none⟩))).run P w').andThen fun v w'' => .ok (.value v) w'' := fun w' => by
  simp only [execOp, ho, hx, Sem.run_bind]
  rfl
 rw [e1 w] at h
 cases hr : (Instr.loadAt t (.pointer (some ⟨blk, off, none⟩))).run P w with
 | halt y w1 =>
  rw [hr] at h
  cases y <;> simp [Result.andThen, Oper.upon, noQ] at h
 | ok v w1 =>
  obtain ⟨rfl, _⟩ := (onlyAt_load t).run hc rfl hr
  rw [hr] at h
  refine ⟨v, fun w' hw => ?_, h⟩
  rw [e1 w', ((onlyAt_load t).run hc hw hr).2]
  rfl
omit [Inv] hE hC in
theorem store_wp {o : Oper} {t : TypeId} {x y : Operand} {a : Act} {w : World} {K : Act → World → Prop} {blk off : Nat} {vs : Array Value} {e : TypeId} {fz : Nat × Nat} (ho : o.op = .store t x y) (hx : a.eval x = .pointer (some ⟨blk, off, none⟩))
 (hc : w.heap[blk]? = some (.cells vs e fz)) (h : o.wp P a w K noQ) : o.wp P a w (fun a' w' => K a' w' ∧ ∀ q, q ≠ blk → w'.heap[q]? = w.heap[q]?) noQ := by
 unfold Oper.wp at h ⊢
 have e1 : (execOp a.eval o).run P w = ((Instr.storeAt t (.pointer (some ⟨blk, off, none⟩)) (a.eval y)).run P w).andThen fun _ w'' => .ok .skip w'' := by
  simp only [execOp, ho, hx, Sem.run_bind]
  rfl
 rw [e1] at h ⊢
 cases hr : (Instr.storeAt t (.pointer (some ⟨blk, off, none⟩)) (a.eval y)).run P w with
 | halt z w1 =>
  rw [hr] at h
  cases z <;> simp [Result.andThen, Oper.upon, noQ] at h
 | ok v w1 =>
  rw [hr] at h
  exact ⟨h, (onlyPut_store t _).run hc hr⟩
omit [Inv] hE hC in
theorem wp_noQ {o : Oper} {a : Act} {w : World} {K : Act → World → Prop} {Q : Exit → Act → World → Prop} (h : o.wp P a w K noQ) : o.wp P a w K Q := by
 unfold Oper.wp at h ⊢
 generalize (execOp a.eval o).run P w = r at *
 cases r with
 | ok n w' =>
  cases n <;> simp only [Oper.upon] at h ⊢ <;> first | exact h | skip
  case enter g args =>
   refine Calls.mono h fun e w'' he => ?_
   cases e with
   | returned v => exact he
   | panicked c => exact he.elim
   | outgrown => obtain ⟨_, _, hf⟩ := he; exact hf.elim
 | halt x w' =>
  cases x <;> simp only [Oper.upon, noQ] at h ⊢
omit [Inv] hE hC in
theorem plainBox_some {st : St} {b : Nat} {x : Option R} {r : R} (h : plainBoxK st b x = some r) : x = some r ∧ ∃ cs, st.H[b]? = some cs ∧ ∀ ck ks, cs ≠ [.map ck ks] := by
 unfold plainBoxK at h
 split at h
 · exact ⟨h, _, ‹_›, fun _ _ e => by cases e⟩
 · exact ⟨h, _, ‹_›, fun _ _ e => by cases e⟩
 · exact ⟨h, _, ‹_›, fun _ _ e => by cases e⟩
 · cases h
omit hE hC in
theorem box_cells {B : Base} {g : Gh} {st : St} {a : Act} {w : World} (S : Sim P B g st a w) {b blk : Nat} {cs : List Cell} (hb : g.bx[b]? = some blk) (hcs : st.H[b]? = some cs) (hne : ∀ ck ks, cs ≠ [.map ck ks]) : ∃ vs e fz, w.heap[blk]? = some (.cells vs e fz) := by
 obtain ⟨blk2, h5, h6⟩ := S.bx.box b cs hcs
 rw [hb] at h5; cases h5
 cases h6 with
 | cells vs e _ h7 _ => exact ⟨_, _, _, h7⟩
 | row vs e fz _ h7 _ _ _ => exact ⟨_, _, _, h7⟩
 | bld t p v c h7 _ _ => exact ⟨_, _, _, h7⟩
 | map es ck ks _ _ => exact absurd rfl (hne ck ks)
omit hC in
theorem fieldAddr_all {full : Bool} {o : Oper} {t : TypeId} {x : Operand} {f : Nat} {st : St} {k : AV → St → Option R} {r : R} (ho : o.op = .fieldAddr t x f) (h : aop E call full o st k = some r) {B : Base} {g : Gh} {a : Act} {w : World} (S : Sim P B g st a w)
 (hp : (∃ b oo, ev st x = some (.one (.ptr b oo))) ∨ ∃ b oo, ev st x = some (.one (.gptr b oo))) : ∃ u, ∀ w' : World, (Instr.fieldAt t (a.eval x) f).run P w' = .ok u w' := by
 unfold aop at h
 simp only [ho] at h
 rcases hp with ⟨b, oo, hx⟩ | ⟨b, oo, hx⟩
 · rw [hx] at h
   obtain ⟨blk, he, _⟩ := Rc.ptr_inv (S.ev hx)
   split at h
   · rename_i l fs b' oo' ht hx'
     split at h
     · rename_i o' n t' hf
       exact ⟨_, fun w' => by rw [he]; exact fieldAt_run (not_tup hE ht (by simp)) hf⟩
     · cases h
   · rename_i hx'; cases hx'
   · rename_i hx'; cases hx'
   · rename_i hx'; cases hx'
   · cases h
 · rw [hx] at h
   obtain ⟨blk, he, _⟩ := Rc.gptr_inv (S.ev hx)
   split at h
   · rename_i hx'; cases hx'
   · rename_i hx'; cases hx'
   · rename_i hx'; cases hx'
   · rename_i l fs b' oo' ht hx'
     split at h
     · rename_i o' n t' hf
       exact ⟨_, fun w' => by rw [he]; exact fieldAt_run (not_tup hE ht (by simp)) hf⟩
     · cases h
   · cases h
def StayT (t blk : Nat) (w w' : World) : Prop := (t = 0 → w.heap.size ≤ w'.heap.size ∧ ∀ k, k < w.heap.size → w'.heap[k]? = w.heap[k]?) ∧ (t ≠ 0 → w'.heap[blk]? = w.heap[blk]?)
omit [Inv] hE hC in
theorem StayT.refl (t blk : Nat) (w : World) : StayT t blk w w := ⟨fun _ => ⟨Nat.le_refl _, fun _ _ => rfl⟩, fun _ => rfl⟩
omit [Inv] hE hC in
theorem StayT.trans {t blk : Nat} {w w' w'' : World} (h : StayT t blk w w') (k : StayT t blk w' w'') : StayT t blk w w'' :=
 ⟨fun e => ⟨Nat.le_trans (h.1 e).1 (k.1 e).1, fun q hq => ((k.1 e).2 q (Nat.lt_of_lt_of_le hq (h.1 e).1)).trans ((h.1 e).2 q hq)⟩, fun e => (k.2 e).trans (h.2 e)⟩
theorem refCallK_sound {o : Oper} {t : Nat} {st : St} {k : AV → St → Option R} {r : R} (h : refCallK E call o t st k = some r) : ∃ bs av st' bb oo, lk st.fr t = some (.one (.ptr bb oo)) ∧ bb ∉ bs ∧ k av st' = some r ∧ ResX P o bs st av st' := by
 unfold refCallK at h
 split at h
 · rename_i c ho
   split at h
   · rename_i f asl bb oo hcal has hlk
     cases hg : E.isG f || ((E.prim f).isSome || ((E.primH f).isSome || (E.primS f).isSome)) with
     | true => rw [hg] at h; cases h
     | false =>
      rw [hg, condA_false] at h
      rw [Bool.or_eq_false_iff] at hg
      have hent : Enters P o f st asl := fun B g a w S => ⟨c.args.toList.map a.eval, evl_rel S _ _ has, fun fn K Q hf hb hn hc => by
       obtain ⟨cal, args, tys⟩ := c
       simp only at hcal
       subst hcal
       refine wp_callF ho hf hb hn ?_
       rw [args_vals]; exact hc⟩
      cases hbs : refsOf asl [] with
      | none => rw [hbs] at h; cases h
      | some bs0 =>
       rw [hbs] at h
       simp only at h
       cases hin : inL bs0 (some bb) with
       | true => rw [hin] at h; cases h
       | false =>
        rw [hin, condA_false] at h
        obtain ⟨bs, av, st', h1, h2, h3⟩ := call_refX (k := k) (r := r) hC hg.1 hent (by rw [condA_true, hbs]; exact h)
        rw [hbs] at h1; cases h1
        refine ⟨bs0, av, st', bb, oo, hlk, fun hm => ?_, h2, h3⟩
        simp only [inL] at hin
        rw [List.any_eq_false] at hin
        exact hin bb hm (Nat.beq_refl bb)
   · cases h
 · cases h
theorem aseq_sound {ops : Array Oper} {B : Base} {kk : St → Option R} {r : R} {Q : Exit → Act → World → Prop} {t blk o0 : Nat} {plan0 : List (Nat × Nat)} (hQ : ∀ g st a w, Sim P B g st a w → kk st = some r → Q .normal a w) (hQp : ∀ c a w, ¬ Q (.panic c) a w)
 (hsel : Region.noSelect ops = true) (hdst : ∀ (i : Nat) o, ops[i]? = some o → ∀ d, o.dst = some d → d < B.nt ∧ d + 1 ≠ t) : ∀ (plan : List (Nat × Nat)) (listed : Array Bool) {g : Gh} {st : St} {a : Act} {w : World}, seqOkGo ops plan0 plan listed = true → Clos ops listed → Sim P B g st a w →
  (t ≠ 0 → a.tmps.getD (t - 1) undef = .pointer (some ⟨blk, o0, none⟩)) → aseq E call ops t plan kk st = some r → wpAnyR P ops Q (fun j w w' => clsOf plan0 j ≠ 2 → StayT t blk w w') plan.length listed a w
 | [], listed, g, st, a, w, hok, _, S, _, h => ⟨List.isEmpty_iff.1 hok, hQ g st a w S h⟩
 | (i, c) :: pl, listed, g, st, a, w, hok, hcl, S, hv0, h => by
  simp only [seqOkGo, Bool.and_eq_true] at hok
  obtain ⟨⟨⟨hrd, hcond⟩, hcls⟩, hnext⟩ := hok
  have hcls := Nat.eq_of_beq_eq_true hcls
  simp only [aseq] at h
  split at h
  · cases h
  · rename_i o ho
    have hd1 := fun d hd => (hdst i o ho d hd).1
    have hput : ∀ v, t ≠ 0 → (a.put o.dst v).tmps.getD (t - 1) undef = .pointer (some ⟨blk, o0, none⟩) := fun v ht => by
     rw [← hv0 ht]
     cases hd : o.dst with
     | none => rfl
     | some d =>
      have := (hdst i o ho d hd).2
      simp only [Act.put, Array.getD_eq_getD_getElem?, Array.getElem?_setIfInBounds]
      rw [if_neg (fun e => this (by rw [e]; exact Nat.sub_add_cancel (Nat.pos_of_ne_zero ht)))]
    have hmem : i ∈ Region.ready .any ops listed := by simpa using hrd
    have next : ∀ {g' st' v w'}, Sim P B g' st' (a.put o.dst v) w' → aseq E call ops t pl kk st' = some r → wpAnyR P ops Q (fun j w w' => clsOf plan0 j ≠ 2 → StayT t blk w w') pl.length (listed.setIfInBounds i true) (a.put o.dst v) w' := fun {g' st' v w'} S' h' =>
     aseq_sound hQ hQp hsel hdst pl _ hnext (hcl.step hmem) S' (hput v) h'
    -- the three kinds of steps
    have first0 : c = 0 → ∀ v, YieldsIf P ops (fun _ => True) o v a → wpAnyR P ops Q (fun j w w' => clsOf plan0 j ≠ 2 → StayT t blk w w') pl.length (listed.setIfInBounds i true) (a.put o.dst v) w → wpAnyR P ops Q (fun j w w' => clsOf plan0 j ≠ 2 → StayT t blk w w') (pl.length + 1) listed a w := fun hc v hy H => by
     subst hc
     exact wpAnyR_first (T := fun _ _ => True) ho (Region.noSelect_spec hsel) (fun c a w h => absurd h (hQp _ _ _)) (fun _ => trivial) (fun _ _ _ _ _ => trivial) (fun w _ => StayT.refl t blk w) pl.length listed a w (fun j oj hj hne hun hno => ⟨Region.free_spec ho hcond j oj hj hne hun hno, fun _ _ _ _ => trivial⟩) hcl hmem hy H
    have first1 : c = 1 → ∀ v, YieldsIf P ops (StayT t blk w) o v a → wpAnyR P ops Q (fun j w w' => clsOf plan0 j ≠ 2 → StayT t blk w w') pl.length (listed.setIfInBounds i true) (a.put o.dst v) w → wpAnyR P ops Q (fun j w w' => clsOf plan0 j ≠ 2 → StayT t blk w w') (pl.length + 1) listed a w := fun hc v hy H => by
     subst hc
     have hcond : (Region.free .any ops listed i && loadFree ops plan0 listed i) = true := hcond
     rw [Bool.and_eq_true] at hcond
     refine wpAnyR_first (T := StayT t blk) ho (Region.noSelect_spec hsel) (fun c a w h => absurd h (hQp _ _ _)) (StayT.refl t blk) (fun _ _ _ h k => h.trans k) (fun w _ => StayT.refl t blk w) pl.length listed a w (fun j oj hj hne hun hno => ⟨Region.free_spec ho hcond.1 j oj hj hne hun hno, fun hno2 w w' hR => hR fun e => ?_⟩) hcl hmem hy H
     have h2 := hcond.2
     unfold loadFree at h2
     rw [List.all_eq_true] at h2
     have h3 := h2 j (List.mem_range.2 (Array.getElem?_eq_some_iff.1 hj).1)
     rw [e, hun, hj] at h3
     simp only [Nat.beq_refl, Bool.not_true, Bool.or_false, Bool.or_eq_true, beq_iff_eq] at h3
     rcases h3 with h3 | h3
     · exact hne h3
     · rcases h3 with h3 | h3
       · unfold waitsOn at h3
         obtain ⟨ed, he, hb⟩ := Array.any_eq_true'.1 h3
         simp only [Bool.and_eq_true, beq_iff_eq] at hb
         exact hno ed he hb.1 hb.2
       · obtain ⟨ed, he, hb⟩ := Array.any_eq_true'.1 h3
         rw [Bool.and_eq_true] at hb
         obtain ⟨hb1, hb2⟩ := hb
         split at hb2
         · rename_i o' ho'
           unfold waitsOn at hb2
           obtain ⟨e2, he2, hb3⟩ := Array.any_eq_true'.1 hb2
           simp only [Bool.and_eq_true, beq_iff_eq] at hb3
           exact hno2 ed he hb1 o' ho' e2 he2 hb3.1 hb3.2
         · cases hb2
    have only2 : c ≠ 0 → c ≠ 1 → wpOp P ops Q i (fun a' w' => (clsOf plan0 i ≠ 2 → StayT t blk w w') ∧ wpAnyR P ops Q (fun j w w' => clsOf plan0 j ≠ 2 → StayT t blk w w') pl.length (listed.setIfInBounds i true) a' w') a w → wpAnyR P ops Q (fun j w w' => clsOf plan0 j ≠ 2 → StayT t blk w w') (pl.length + 1) listed a w := fun h0 h1 H => by
     have e0 : Nat.beq c 0 = false := by cases hb : Nat.beq c 0 with | true => exact absurd (Nat.eq_of_beq_eq_true hb) h0 | false => rfl
     have e1 : Nat.beq c 1 = false := by cases hb : Nat.beq c 1 with | true => exact absurd (Nat.eq_of_beq_eq_true hb) h1 | false => rfl
     rw [e0, e1, condA_false, condA_false, beq_iff_eq] at hcond
     refine ⟨fun e => (by rw [hcond] at e; cases e), fun j hj => ?_⟩
     rw [hcond, List.mem_singleton] at hj
     subst hj
     exact H
    have skip : ∀ st2, StEq st st2 → Region.wanted o (yielded ops a.tmps) = false → aseq E call ops t pl kk (st2.put o.dst .undef) = some r → wpAnyR P ops Q (fun j w w' => clsOf plan0 j ≠ 2 → StayT t blk w w') (pl.length + 1) listed a w := fun st2 he hw h => by
     have H := next ((S.eqv he).put hd1 (show Rv g w undef .undef from rfl)) h
     by_cases h0 : c = 0
     · exact first0 h0 undef (.inr ⟨hw, rfl⟩) H
     · by_cases h1 : c = 1
       · exact first1 h1 undef (.inr ⟨hw, rfl⟩) H
       · refine only2 h0 h1 ?_
         unfold wpOp
         simp only [ho, hw, Bool.false_eq_true, if_false]
         exact ⟨fun _ => StayT.refl t blk w, H⟩
    have run : ∀ st2, StEq st st2 → Region.wanted o (yielded ops a.tmps) = true → seqRun E call t c o st2 (fun v st' => aseq E call ops t pl kk (st'.put o.dst v)) = some r → wpAnyR P ops Q (fun j w w' => clsOf plan0 j ≠ 2 → StayT t blk w w') (pl.length + 1) listed a w := fun st2 he hw h => by
     have S2 := S.eqv he
     have wpo : ∀ {K : Act → World → Prop}, o.wp P a w K Q → wpOp P ops Q i K a w := fun {K} hk => by
      unfold wpOp
      simp only [ho, hw, if_true]
      exact .inl hk
     have loads : ∀ {t' x blk' off vs e fz}, o.op = .load t' x → a.eval x = .pointer (some ⟨blk', off, none⟩) → w.heap[blk']? = some (.cells vs e fz) → aop E call true o st2 (fun v st' => aseq E call ops t pl kk (st'.put o.dst v)) = some r →
      ∃ v, (∀ w' : World, w'.heap[blk']? = w.heap[blk']? → (execOp a.eval o).run P w' = .ok (.value v) w') ∧ ∃ g' st', Sim P B g' st' (a.put o.dst v) w ∧ aseq E call ops t pl kk st' = some r := fun {t' x blk' off vs e fz} hop hx hc h => by
      obtain ⟨av, st', h1, hres⟩ := aop_sound hE hC h
      have hwp := hres.eff B g a w S2 (fun a' w' => ∃ g', Sim P B g' (st'.put o.dst av) a' w') noQ (fun v w' g' hv S' => ⟨g', S'.put hd1 hv⟩)
      obtain ⟨v, hv, g', S'⟩ := load_wp hop hx hc hwp
      exact ⟨v, hv, g', _, S', h1⟩
     have gobjc : ∀ {t' x b oo}, o.op = .load t' x → ev st2 x = some (.one (.gptr b oo)) → aop E call true o st2 (fun v st' => aseq E call ops t pl kk (st'.put o.dst v)) = some r → ∃ blk', a.eval x = .pointer (some ⟨blk', oo, none⟩) ∧ ∃ vs e, w.heap[blk']? = some (.cells vs e (0, 0)) := fun {t' x b oo} hop hx h => by
      obtain ⟨blk', e1, e2⟩ := Rc.gptr_inv (S2.ev hx)
      have hG : ∃ G, st2.G = some G := by
       have h5 := h
       unfold aop at h5
       simp only [hop] at h5
       split at h5
       · rename_i ti p _ hp
         rw [hx] at hp
         cases hp
         obtain ⟨G, cs, hG, _⟩ := gobj_some h5
         exact ⟨G, hG⟩
       · cases h5
      obtain ⟨G, hG⟩ := hG
      have hgk := S2.gk
      rw [hG] at hgk
      have hi : b < G.length := by rw [← hgk.2.1.len]; exact (List.getElem?_eq_some_iff.1 e2).1
      obtain ⟨blk2, h5, h6⟩ := hgk.2.1.obj b _ (List.getElem?_eq_getElem hi)
      rw [e2] at h5; cases h5
      cases h6 with
      | cells vs e _ h7 _ _ => exact ⟨blk', e1, vs, e, h7⟩
     unfold seqRun at h
     split at h
     · -- it looks at no memory
       cases hst : stillOp o.op && stillAt o.op st2 with
       | false => rw [hst] at h; cases h
       | true =>
        rw [hst, condA_true] at h
        rw [Bool.and_eq_true] at hst
        obtain ⟨av, st', h1, hres⟩ := aop_sound hE hC h
        have hwp := hres.eff B g a w S2 (fun a' w' => ∃ g', Sim P B g' (st'.put o.dst av) a' w') noQ (fun v w' g' hv S' => ⟨g', S'.put hd1 hv⟩)
        obtain ⟨v, hv, g', S'⟩ := still_wp hst.1 (fun x hx => by
         have h2 := hst.2
         rw [hx] at h2
         simp only [stillAt] at h2
         split at h2
         · rename_i hx5; obtain ⟨blk', e1, _⟩ := Rc.ptr_inv (S2.ev hx5); exact ⟨_, e1⟩
         · rename_i hx5; obtain ⟨blk', e1, _⟩ := Rc.gptr_inv (S2.ev hx5); exact ⟨_, e1⟩
         · cases h2) (fun t' x f hx => by
         have h2 := hst.2
         rw [hx] at h2
         simp only [stillAt] at h2
         split at h2
         · exact fieldAddr_all hE hx h S2 (.inl ⟨_, _, ‹_›⟩)
         · exact fieldAddr_all hE hx h S2 (.inr ⟨_, _, ‹_›⟩)
         · cases h2) hwp
        exact first0 rfl v (.inl ⟨hw, fun w' _ => hv w'⟩) (next S' h1)
     · -- a load
       split at h
       · rename_i t' x hop
         split at h
         · rename_i b oo hx
           cases hm : Nat.beq t 0 || boxAt st2 (t - 1) b with
           | false => rw [hm] at h; cases h
           | true =>
            rw [hm, condA_true] at h
            obtain ⟨blk', e1, e2⟩ := Rc.ptr_inv (S2.ev hx)
            have hb : t ≠ 0 → blk' = blk := fun ht => by
             have h4 := hv0 ht
             rw [Bool.or_eq_true] at hm
             rcases hm with hm | hm
             · exact absurd (Nat.eq_of_beq_eq_true hm) ht
             · unfold boxAt at hm
               split at hm
               · rename_i bb oo' hlk
                 have hm := Nat.eq_of_beq_eq_true hm
                 subst hm
                 obtain ⟨blk2, e3, e4⟩ := Rc.ptr_inv (S2.frame _ _ hlk)
                 rw [h4] at e3
                 cases e3
                 rw [e2] at e4
                 exact Option.some.inj e4
               · cases hm
            obtain ⟨h, cs, hcs, hne⟩ := plainBox_some h
            obtain ⟨vs, e, fz, hc⟩ := box_cells S2 e2 hcs hne
            obtain ⟨v, hv, g', st', S', h1⟩ := loads hop e1 hc h
            refine first1 rfl v (.inl ⟨hw, fun w' hT => hv w' ?_⟩) (next S' h1)
            by_cases ht : t = 0
            · exact (hT.1 ht).2 blk' (Array.getElem?_eq_some_iff.1 hc).1
            · rw [hb ht]; exact hT.2 ht
         · rename_i b oo hx
           cases hm : Nat.beq t 0 with
           | false => rw [hm] at h; cases h
           | true =>
            rw [hm, condA_true] at h
            have ht := Nat.eq_of_beq_eq_true hm
            obtain ⟨blk', e1, vs, e, hc⟩ := gobjc hop hx h
            obtain ⟨v, hv, g', st', S', h1⟩ := loads hop e1 hc h
            exact first1 rfl v (.inl ⟨hw, fun w' hT => hv w' ((hT.1 ht).2 blk' (Array.getElem?_eq_some_iff.1 hc).1)⟩) (next S' h1)
         · cases h
       · cases h
     · -- nothing else may come
       obtain ⟨av, st', h1, hres⟩ := aop_sound hE hC h
       refine only2 (by decide) (by decide) (wpo (hres.eff B g a w S2 _ _ fun v w' g' hv S' => ⟨fun hne => absurd hcls hne, next (S'.put hd1 hv) h1⟩))
     · -- it makes memory alone
       cases hm : Nat.beq t 0 with
       | false => rw [hm] at h; cases h
       | true =>
        rw [hm, condA_true] at h
        have ht := Nat.eq_of_beq_eq_true hm
        obtain ⟨av, st', h1, hres⟩ := aop_sound hE hC h
        obtain ⟨he2, hp⟩ := hres.still rfl
        refine only2 (by decide) (by decide) (wpo (hp B g a w S2 _ _ fun v w' M' hG hv => ⟨fun _ => ⟨fun _ => ⟨hG.below.size, fun k hk => hG.below.block k hk⟩, fun hne => absurd ht hne⟩, next (((S2.grow hG).eqv he2).put hd1 hv) h1⟩))
     · -- a load, alone
       split at h
       · rename_i t' x hop
         have fin : ∀ {blk' off vs e fz}, a.eval x = .pointer (some ⟨blk', off, none⟩) → w.heap[blk']? = some (.cells vs e fz) → aop E call true o st2 (fun v st' => aseq E call ops t pl kk (st'.put o.dst v)) = some r → wpAnyR P ops Q (fun j w w' => clsOf plan0 j ≠ 2 → StayT t blk w w') (pl.length + 1) listed a w := fun {blk' off vs e fz} e1 hc h => by
          obtain ⟨v, hv, g', st', S', h1⟩ := loads hop e1 hc h
          refine only2 (by decide) (by decide) (wpo ?_)
          unfold Oper.wp
          rw [hv w rfl]
          exact ⟨fun _ => StayT.refl t blk w, next S' h1⟩
         split at h
         · rename_i b oo hx
           obtain ⟨blk', e1, e2⟩ := Rc.ptr_inv (S2.ev hx)
           obtain ⟨h, cs, hcs, hne⟩ := plainBox_some h
           obtain ⟨vs, e, fz, hc⟩ := box_cells S2 e2 hcs hne
           exact fin e1 hc h
         · rename_i b oo hx
           obtain ⟨blk', e1, vs, e, hc⟩ := gobjc hop hx h
           exact fin e1 hc h
         · cases h
       · cases h
     · -- a store to another box
       cases hm : Nat.beq t 0 with
       | true => rw [hm] at h; cases h
       | false =>
        rw [hm, condA_false] at h
        have ht : t ≠ 0 := fun e => by rw [e] at hm; cases hm
        split at h
        · rename_i t' x y hop
          split at h
          · rename_i b oo hx
            cases hbn : boxNot st2 (t - 1) b with
            | false => rw [hbn] at h; cases h
            | true =>
             rw [hbn, condA_true] at h
             obtain ⟨blk', e1, e2⟩ := Rc.ptr_inv (S2.ev hx)
             obtain ⟨h, cs, hcs, hne⟩ := plainBox_some h
             obtain ⟨vs, e, fz, hc⟩ := box_cells S2 e2 hcs hne
             have hbb : blk ≠ blk' := fun e => by
              unfold boxNot at hbn
              split at hbn
              · rename_i bb oo' hlk
                obtain ⟨blk2, e3, e4⟩ := Rc.ptr_inv (S2.frame _ _ hlk)
                rw [hv0 ht] at e3
                cases e3
                have hbe : bb = b := nodup_at S.bx.nodup e4 (by rw [e]; exact e2)
                rw [hbe, Nat.beq_refl] at hbn
                cases hbn
              · cases hbn
             obtain ⟨av, st', h1, hres⟩ := aop_sound hE hC h
             have hwp := store_wp hop e1 hc (hres.eff B g a w S2 (fun a' w' => ∃ g', Sim P B g' (st'.put o.dst av) a' w' ∧ ∃ v, a' = a.put o.dst v) noQ (fun v w' g' hv S' => ⟨g', S'.put hd1 hv, v, rfl⟩))
             refine only2 (by decide) (by decide) (wpo (wp_noQ (Oper.wp_mono (fun a' w' h3 => ?_) hwp)))
             obtain ⟨⟨g', S', v, rfl⟩, hoth⟩ := h3
             exact ⟨fun _ => ⟨fun e => absurd e ht, fun _ => hoth blk hbb⟩, next S' h1⟩
          · cases h
        · cases h
     · -- a call that is handed boxes
       cases hm : Nat.beq t 0 with
       | true => rw [hm] at h; cases h
       | false =>
        rw [hm, condA_false] at h
        have ht : t ≠ 0 := fun e => by rw [e] at hm; cases hm
        obtain ⟨bs, av, st', bb, oo, hlk, hnb, h1, hX⟩ := refCallK_sound (P := P) hE hC h
        have hbb : g.bx[bb]? = some blk := by
         obtain ⟨blk', e1, e2⟩ := Rc.ptr_inv (S2.frame _ _ hlk)
         rw [hv0 ht] at e1
         cases e1
         exact e2
        exact only2 (fun e => by simp_all) (fun e => by simp_all) (wpo (hX B g a w S2 _ _ fun v w' g' hv S' hst => ⟨fun _ => ⟨fun e => absurd e ht, fun _ => hst bb blk hbb hnb⟩, next (S'.put hd1 hv) h1⟩))
    split at h
    · rename_i hg
      exact run st (StEq.refl _) (wanted_none hg) h
    · rename_i j want hg
      split at h
      · cases h
      · rename_i d hdj
        split at h
        · rename_i b hb
          have hy := yielded_bool hdj (S.frame d _ hb).bool_inv
          have hf : ∀ c, b = c → StEq st (st.fix (.tmp d) c) := fun c hc => fix_eq (x := .tmp d) (by subst hc; exact hb)
          have hwt : Region.wanted o (yielded ops a.tmps) = (some b == some want) := by rw [wanted_some hg, hy]
          cases b with
          | true =>
           cases want with
           | true => exact run _ (hf true rfl) (by rw [hwt]; rfl) h
           | false => exact skip _ (hf true rfl) (by rw [hwt]; rfl) h
          | false =>
           cases want with
           | true => exact skip _ (hf false rfl) (by rw [hwt]; rfl) h
           | false => exact run _ (hf false rfl) (by rw [hwt]; rfl) h
        · rename_i hb
          have hy := yielded_undef hdj (S.frame d _ hb)
          exact skip st (StEq.refl _) (by rw [wanted_some hg, hy]; rfl) h
        · cases h
theorem seq_region {ops : Array Oper} {id t : Nat} {plan : List (Nat × Nat)} {B : Base} {g : Gh} {st : St} {a : Act} {w : World} {kk : St → Option R} {r : R} {Q : Exit → Act → World → Prop} (S : Sim P B g st a w) (hfol : P.follows .mixedOrders = true)
 (hok : seqOk ops t B.nt plan = true) (h : aseq E call ops t plan kk st = some r) (hlen : plan.length = ops.size) (hv0 : t ≠ 0 → ∃ blk o0, a.tmps.getD (t - 1) undef = .pointer (some ⟨blk, o0, none⟩))
 (hQ : ∀ g st a w, Sim P B g st a w → kk st = some r → Q .normal a w) : (Code.region id ops true).wp P Q a w := by
 have hb : Below w.heap.size w { w with drawn := w.drawn + 1 } := ⟨rfl, rfl, rfl, Nat.le_refl _, fun _ _ => rfl⟩
 have S1 := S.grow (MX.grow S.live hb)
 refine wp_mono (Q := fun e a w => e = .normal ∧ Q .normal a w) ?_ (fun e a w ⟨h1, h2⟩ => by rw [h1]; exact h2)
 refine wp_region_any hfol ?_
 suffices hR : ∃ R, wpAnyR P ops (fun e a w => e = .normal ∧ Q .normal a w) R ops.size (Array.replicate ops.size false) a { w with drawn := w.drawn + 1 } by
  obtain ⟨R, hR⟩ := hR
  exact wpAny_of_R _ _ _ _ hR
 unfold seqOk at hok
 simp only [Bool.and_eq_true] at hok
 obtain ⟨⟨hsel, hdst⟩, hgo⟩ := hok
 rw [List.all_eq_true] at hdst
 rw [← hlen] at hgo ⊢
 have hc0 : Clos ops (Array.replicate plan.length false) := fun k ok hk hl => by
  simp [Array.getD_eq_getD_getElem?, Array.getElem?_replicate] at hl
  split at hl <;> simp at hl
 have hds : ∀ (i : Nat) o, ops[i]? = some o → ∀ d, o.dst = some d → d < B.nt ∧ d + 1 ≠ t := fun i o ho d hd => by
  have := hdst o (by rw [Array.mem_toList_iff]; exact Array.mem_of_getElem? ho)
  rw [hd] at this
  simp only [Bool.and_eq_true, Nat.blt_eq, Bool.not_eq_true'] at this
  exact ⟨this.1, fun e => by rw [e, Nat.beq_refl] at this; cases this.2⟩
 by_cases ht : t = 0
 · exact ⟨_, aseq_sound hE hC (blk := 0) (o0 := 0) (fun g st a w S' hk => ⟨rfl, hQ g st a w S' hk⟩) (fun c a w h => by cases h.1) hsel hds plan _ hgo hc0 S1 (fun h => absurd ht h) h⟩
 · obtain ⟨blk, o0, hv⟩ := hv0 ht
   exact ⟨_, aseq_sound hE hC (blk := blk) (o0 := o0) (fun g st a w S' hk => ⟨rfl, hQ g st a w S' hk⟩) (fun c a w h => by cases h.1) hsel hds plan _ hgo hc0 S1 (fun _ => hv) h⟩
theorem region_sound {ops : Array Oper} {id hd : Nat} {draw : Bool} {B : Base} {g : Gh} {st : St} {a : Act} {w : World} {kk : St → Option R} {r : R} {Q : Exit → Act → World → Prop} (S : Sim P B g st a w) (hfol : P.follows .mixedOrders = true)
 (hdst : dstsIn B.nt ops.toList = true) (hdraw : draw = true → okShape ops hd B.nt = true) (h0 : draw = false → hd = 0) (h : regionK E call hd ops kk st = some r) (hQ : ∀ g st a w, Sim P B g st a w → kk st = some r → Q .normal a w) : (Code.region id ops draw).wp P Q a w := by
 have htail : ∀ n, dstsIn B.nt (ops.toList.drop n) = true := fun n => by
  unfold dstsIn at hdst ⊢
  rw [List.all_eq_true] at hdst ⊢
  exact fun x hx => hdst x (List.mem_of_mem_drop hx)
 have hhead : ∀ n, dstsIn B.nt (ops.toList.take n) = true := fun n => by
  unfold dstsIn at hdst ⊢
  rw [List.all_eq_true] at hdst ⊢
  exact fun x hx => hdst x (List.mem_of_mem_take hx)
 unfold regionK at h
 cases hsq : Nat.ble seqBase hd with
 | true =>
  rw [hsq, condA_true] at h
  cases draw with
  | false => rw [h0 rfl] at hsq; cases hsq
  | true =>
   have hsh := hdraw rfl
   unfold okShape at hsh
   rw [hsq, condA_true] at hsh
   have hpl : ∀ f n, (planOf f n).length = f := fun f => by
    induction f with
    | zero => intro n; rfl
    | succ f ih => intro n; simp [planOf, ih]
   unfold seqAt at h
   cases ht : Nat.beq ((hd - seqBase) % 4096) 0 with
   | true =>
    rw [ht, condA_true] at h
    exact seq_region hE hC S hfol hsh h (hpl _ _) (fun hne => absurd (Nat.eq_of_beq_eq_true ht) hne) hQ
   | false =>
    rw [ht, condA_false] at h
    split at h
    · rename_i b oo hlk
      obtain ⟨blk, e1, _⟩ := Rc.ptr_inv (S.frame _ _ hlk)
      exact seq_region hE hC S hfol hsh h (hpl _ _) (fun _ => ⟨blk, oo, e1⟩) hQ
    · cases h
 | false =>
 rw [hsq, condA_false] at h
 cases hmil : Nat.ble 1000000 hd with
 | true =>
  rw [hmil, condA_true] at h
  cases draw with
  | false => rw [h0 rfl] at hmil; cases hmil
  | true =>
   have hsh := hdraw rfl
   unfold okShape at hsh
   rw [hsq, condA_false, hmil, condA_true] at hsh
   exact alloc_region hE hC S hfol hdst hsh h hQ
 | false =>
 rw [hmil, condA_false] at h
 replace hdraw : draw = true → condA (Nat.ble 1000 hd) (phaseOk ops (hd % 1000 + 1) B.nt (phOf (hd % 1000))) (shapeOk ops hd B.nt) = true := fun hd2 => by
  have := hdraw hd2
  unfold okShape at this
  rwa [hsq, condA_false, hmil, condA_false] at this
 cases hbig : Nat.ble 1000 hd with
 | true =>
  rw [hbig, condA_true] at h
  cases draw with
  | false => rw [h0 rfl] at hbig; cases hbig
  | true =>
   have hsh := hdraw rfl
   rw [hbig, condA_true] at hsh
   exact store_region hE hC S hfol hdst hsh h hQ
 | false =>
 rw [hbig, condA_false] at h
 replace hdraw : draw = true → shapeOk ops hd B.nt = true := fun hd2 => by
  have := hdraw hd2
  rwa [hbig, condA_false] at this
 cases draw with
 | false =>
  obtain rfl := h0 rfl
  simp only [List.take_zero, List.drop_zero, aheads] at h
  refine wp_region ?_
  have := aops_sound hE hC hQ ops.toList hdst S h
  rw [List.range_eq_range', ← Array.length_toList, wpOps_eq_wpList ops.toList 0 (fun j => by simp)]
  exact this
 | true =>
  obtain ⟨Sp, hS⟩ := aheads_sound hE hC S (kk := aops E call ops (ops.toList.drop hd) kk) (r := r) (Fin := fun a L => ∀ bs d, factsAll L (app w bs d) → wpList P ops Q (ops.toList.drop hd) a (app w bs d)) (J := fun _ _ _ => True) (fun _ _ _ _ _ _ _ _ _ => trivial)
   (fun st' a' L hH hw _ hk bs d hfa => by
    have hbel : Below w.heap.size w (app w bs d) := (Below.refl _ _).app (Nat.le_refl _) bs d
    have S1 : Sim P B ⟨MX g w (app w bs d), g.bx, g.ow⟩ st' a' (app w bs d) := by
     refine Sim.at S hH hbel (fun s v hs => ?_) hw.size hw.defers
     rcases hw.fr s v hs with ⟨p, hp, hpv⟩ | hp
     · refine hpv _ _ ?_
       exact facts_mem L hfa hp
     · exact hp _ hbel
    exact aops_sound hE hC hQ _ (htail hd) S1 hk) (ops.toList.take hd) (hhead hd) ⟨rfl, rfl⟩ h
  refine wp_region_text0 hd Sp hfol (by rw [S.size]; exact hdraw rfl) (hS a [] ⟨fun s v hs => .inr fun w' hb => ⟨hb, (S.frame s v hs).grow (MX.grow S.live hb) S.live⟩, fun s b hs => Rc.bool_inv (S.frame s _ hs), fun s hs => S.frame s _ hs, S.size, S.defers⟩ trivial)
end
end AX
end Go.Proofs.YtnkppakkeobegaaGreatDoor
namespace Go.Proofs.YtnkppakkeobegaaGreatDoor
namespace AX
variable [Inv]
open Go.RowKit
variable {P : Program} {R : Type}
omit [Inv] in
theorem lk_pick {fr : List (Nat × AV)} {s : Nat} {v : AV} : ∀ {keep : List Nat}, lk (pickFr fr keep) s = some v → ∃ u, lk fr s = some u ∧ (v = u ∨ v = u.bare) ∧ (s, v) ∈ pickFr fr keep
 | [], h => by cases h
 | t :: r, h => by
  simp only [pickFr] at h ⊢
  have tail : lk (pickFr fr r) s = some v → ∀ x, ∃ u, lk fr s = some u ∧ (v = u ∨ v = u.bare) ∧ (s, v) ∈ x :: pickFr fr r := fun h x => by
   obtain ⟨u, h1, h2, h3⟩ := lk_pick h
   exact ⟨u, h1, h2, List.mem_cons_of_mem _ h3⟩
  cases hbare : Nat.ble 10000000 t with
  | true =>
   rw [hbare] at h
   simp only [condA_true] at h ⊢
   split at h
   · exact lk_pick h
   · rename_i u hc
     simp only [lk] at h
     cases hb : Nat.beq (t - 10000000) s with
     | true =>
      rw [hb] at h
      have := Nat.eq_of_beq_eq_true hb
      subst this
      simp only [condA_true, Option.some.injEq] at h
      subst h
      exact ⟨_, hc, .inr rfl, List.mem_cons_self⟩
     | false => rw [hb] at h; exact tail h _
  | false =>
   rw [hbare] at h
   simp only [condA_false] at h ⊢
   split at h
   · exact lk_pick h
   · rename_i c hc
     simp only [lk] at h
     cases hb : Nat.beq t s with
     | true =>
      rw [hb] at h
      have := Nat.eq_of_beq_eq_true hb
      subst this
      simp only [condA_true, Option.some.injEq] at h
      subst h
      exact ⟨_, hc, .inl rfl, List.mem_cons_self⟩
     | false => rw [hb] at h; exact tail h _
   · rename_i u _ hc
     simp only [lk] at h
     cases hb : Nat.beq t s with
     | true =>
      rw [hb] at h
      have := Nat.eq_of_beq_eq_true hb
      subst this
      simp only [condA_true, Option.some.injEq] at h
      subst h
      exact ⟨_, hc, .inr rfl, List.mem_cons_self⟩
     | false => rw [hb] at h; exact tail h _
omit [Inv] in
theorem bx_cut {bx : List Nat} {b n blk : Nat} (hp : Nat.blt b n = true) (h : bx[b]? = some blk) : (bx.take n)[b]? = some blk := by
 have hb : b < n := by
  simp only [Nat.blt] at hp
  exact Nat.le_of_ble_eq_true hp
 rw [List.getElem?_take, if_pos hb]; exact h
omit [Inv] in
theorem Rc.cut {g : Gh} {w : World} {v : Value} {c : Cell} {n : Nat} (h : Rc g w v c) (hp : ptrBelow n c = true) : Rc ⟨g.M, g.bx.take n, g.ow⟩ w v c := by
 cases h with
 | data h => exact .data h
 | own L h1 h2 => exact .own L h1 h2
 | ptr b o blk h =>
  refine .ptr b o blk ?_
  have hb : b < n := by
   simp only [ptrBelow, Nat.blt] at hp
   exact Nat.le_of_ble_eq_true hp
  show (g.bx.take n)[b]? = some blk
  rw [List.getElem?_take, if_pos hb]; exact h
 | eptr blk o f cs h1 h2 => exact .eptr blk o f cs h1 h2
 | bsl b sz m blk cap h h2 h3 => exact .bsl b sz m blk cap (bx_cut hp h) h2 h3
 | bptr b o blk h => exact .bptr b o blk (bx_cut hp h)
 | mapr b blk h => exact .mapr b blk (bx_cut hp h)
omit [Inv] in
theorem RvA.cut {g : Gh} {w : World} {vs : Array Value} {cs : List Cell} {n : Nat} (h : RvA g w vs cs) (hp : cs.all (ptrBelow n) = true) : RvA ⟨g.M, g.bx.take n, g.ow⟩ w vs cs :=
 ⟨h.1, fun i v c hv hc => (h.2 i v c hv hc).cut (by rw [List.all_eq_true] at hp; exact hp c (List.mem_of_getElem? hc))⟩
omit [Inv] in
theorem Rv.cut {g : Gh} {w : World} {v : Value} {x : AV} {n : Nat} (h : Rv g w v x) (hp : x.ptrBelow n = true) : Rv ⟨g.M, g.bx.take n, g.ow⟩ w v x := by
 cases x with
 | one c => exact Rc.cut h hp
 | agg cs => obtain ⟨vs, rfl, h⟩ := h; exact ⟨vs, rfl, h.cut hp⟩
 | tup xs =>
  obtain ⟨vs, rfl, h1, h2⟩ := h
  refine ⟨vs, rfl, h1, fun i u x hu hx => ?_⟩
  have hp2 : x.cells.all (ptrBelow n) = true := by
   have hp3 : xs.all (fun v => v.cells.all (ptrBelow n)) = true := hp
   rw [List.all_eq_true] at hp3; exact hp3 x (List.mem_of_getElem? hx)
  have hr := h2 i u x hu hx
  cases x with
  | one c => exact Rc.cut hr (by simpa [V1.cells] using hp2)
  | agg cs => obtain ⟨vs', rfl, hr⟩ := hr; exact ⟨vs', rfl, hr.cut hp2⟩
 | undef => exact h
theorem Sim.cut {B : Base} {g : Gh} {st : St} {a : Act} {w : World} {keep : List Nat} {n : Nat} (S : Sim P B g st a w) (h1 : (pickFr st.fr keep).all (fun p => p.2.ptrBelow n) = true) (h2 : (st.H.take n).all (fun b => b.all (ptrBelow n)) = true) (hn : B.bx0.length ≤ n) :
 Sim P B ⟨g.M, g.bx.take n, g.ow⟩ ⟨pickFr st.fr keep, st.H.take n, st.G⟩ a w := by
 refine ⟨fun s v hs => ?_, S.size, S.defers, S.live, ?_, ⟨S.ow.row, S.ow.ne⟩, ⟨S.fr.os, S.fr.tape, S.fr.output, S.fr.size, S.fr.block, S.fr.kp, S.fr.old⟩, fun blk hb => S.bxB blk (List.mem_of_mem_take hb), S.owB, List.prefix_take_iff.2 ⟨S.pre, hn⟩, S.gk.keep ⟨rfl, rfl⟩ (Kp.refl _ _) (fun _ _ => rfl) (fun _ _ _ h => h) (fun b hb hm => S.gk.obx b hb (List.mem_of_mem_take hm)) S.gk.oow⟩
 · obtain ⟨u, h3, h4, h5⟩ := lk_pick hs
   have hp : v.ptrBelow n = true := by rw [List.all_eq_true] at h1; exact h1 _ h5
   have hr : Rv g w (a.tmps.getD s undef) v := by
    rcases h4 with rfl | rfl
    · exact S.frame s _ h3
    · exact (S.frame s _ h3).map (f := Cell.bare) fun v c hc => hc.bare (Kp.refl _ _) (fun _ _ h => h)
   exact hr.cut hp
 · refine ⟨by simp [S.bx.len], S.bx.nodup.sublist (List.take_sublist _ _), fun blk hb j => S.bx.M blk (List.mem_of_mem_take hb) j, fun L v b hL hb hm => S.bx.ow L v b hL hb (List.mem_of_mem_take hm), fun i cs hi => ?_⟩
   rw [List.getElem?_take] at hi
   split at hi
   · rename_i hlt
     obtain ⟨blk, h3, h4⟩ := S.bx.box i cs hi
     refine ⟨blk, ?_, ?_⟩
     · show (g.bx.take n)[i]? = _
       rw [List.getElem?_take, if_pos hlt]; exact h3
     · rw [List.all_eq_true] at h2
       have h6 := h2 cs (List.mem_of_getElem? (i := i) (by rw [List.getElem?_take, if_pos hlt]; exact hi))
       cases h4 with
       | cells vs e _ h4 h5 => exact .cells vs e _ h4 (h5.cut h6)
       | row vs e fz cs1 q1 q2 q3 q4 => exact .row vs e fz cs1 q1 q2 q3 q4
       | map es ck ks q1 q2 => exact .map es ck ks q1 q2
       | bld t' p' v' c' q1 q2 q3 => exact .bld t' p' v' c' q1 q2 (q3.cut (by rw [List.all_eq_true] at h6; exact h6 c' (by simp)))
   · cases hi
omit [Inv] in
theorem isNm_iff {m n : Nm} : isNm m n = true ↔ m.slot = n.slot ∧ m.ix = n.ix := by
 unfold isNm
 rw [Bool.and_eq_true]
 exact ⟨fun h => ⟨Nat.eq_of_beq_eq_true h.1, Nat.eq_of_beq_eq_true h.2⟩, fun h => ⟨by rw [h.1]; exact Nat.beq_refl _, by rw [h.2]; exact Nat.beq_refl _⟩⟩
def Gh.ren (g : Gh) (L N : Nm) (v : Value) : Gh := ⟨g.M, g.bx, fun n => if n = N then some v else condA (eitherNm L N n) (none) <| g.ow n⟩
theorem Sim.ren {B : Base} {g : Gh} {st : St} {a : Act} {w : World} {L N : Nm} {v : Value} (S : Sim P B g st a w) (hL : g.ow L = some v) (hN : N.elem = L.elem) : Sim P B (g.ren L N v) (st.strike (eitherNm L N)) a w ∧ (g.ren L N v).ow N = some v ∧ ∀ n x, eitherNm L N n = false → g.ow n = some x → (g.ren L N v).ow n = some x := by
 have oth : ∀ n x, (g.ren L N v).ow n = some x → (n = N ∧ x = v) ∨ (n ≠ L ∧ g.ow n = some x) := fun n x h => by
  simp only [Gh.ren] at h
  split at h
  · rename_i e; cases h; exact .inl ⟨e, rfl⟩
  · cases he : eitherNm L N n with
    | true => rw [he] at h; cases h
    | false =>
     rw [he] at h
     refine .inr ⟨fun e => ?_, h⟩
     subst e
     unfold eitherNm at he
     rw [isNm_iff.2 ⟨rfl, rfl⟩] at he
     cases he
 have keep : ∀ n x, eitherNm L N n = false → g.ow n = some x → (g.ren L N v).ow n = some x := fun n x hp hx => by
  simp only [Gh.ren]
  have hne : n ≠ N := fun e => by
   subst e
   unfold eitherNm at hp
   rw [isNm_iff.2 ⟨rfl, rfl⟩] at hp
   simp at hp
  rw [if_neg hne, hp]; exact hx
 refine ⟨S.move (Kp.refl _ _) rfl (fun _ _ => rfl) (fun blk hb j => S.bx.M blk hb j) (fun n x hp hx => ?_) ⟨fun n x hx => ?_, fun n n' x x' hne hx hx' => ?_⟩ (fun n x b hx hb => ?_) (fun n x b hx hb => ?_) ⟨S.fr.os, S.fr.tape, S.fr.output, S.fr.size, S.fr.block, S.fr.kp, S.fr.old⟩ S.live (S.gk.keep ⟨rfl, rfl⟩ (Kp.refl _ _) (fun _ _ => rfl) (fun _ _ _ h => h) S.gk.obx fun n x b hx hb => ?_), by simp [Gh.ren], keep⟩
 · exact keep n x hp hx
 · rcases oth n x hx with ⟨rfl, rfl⟩ | ⟨_, h⟩
   · rw [hN]; exact S.ow.row L _ hL
   · exact S.ow.row n x h
 · rcases oth n x hx with ⟨rfl, rfl⟩ | ⟨h1, h2⟩ <;> rcases oth n' x' hx' with ⟨rfl, rfl⟩ | ⟨h3, h4⟩
   · exact absurd rfl hne
   · exact S.ow.ne L n' _ x' (Ne.symm h3) hL h4
   · exact S.ow.ne n L x _ h1 h2 hL
   · exact S.ow.ne n n' x x' hne h2 h4
 · rcases oth n x hx with ⟨_, rfl⟩ | ⟨_, h⟩
   · exact S.bx.ow L _ b hL hb
   · exact S.bx.ow n x b h hb
 · rcases oth n x hx with ⟨_, rfl⟩ | ⟨_, h⟩
   · exact S.owB L _ b hL hb
   · exact S.owB n x b h hb
 · rcases oth n x hx with ⟨_, rfl⟩ | ⟨_, h⟩
   · exact S.gk.oow L _ b hL hb
   · exact S.gk.oow n x b h hb
omit [Inv] in
theorem lk_setFr {s t : Nat} {v : AV} : ∀ {fr : List (Nat × AV)}, lk (setFr s v fr) t = if s = t then (lk fr s).map (fun _ => v) else lk fr t
 | [] => by simp [setFr, lk]
 | (u, x) :: r => by
  simp only [setFr]
  cases hb : Nat.beq u s with
  | true =>
   have := Nat.eq_of_beq_eq_true hb
   subst this
   simp only [condA_true, lk]
   cases hc : Nat.beq u t with
   | true => have := Nat.eq_of_beq_eq_true hc; subst this; simp [Nat.beq_refl]
   | false =>
    have hne : u ≠ t := fun e => by subst e; rw [Nat.beq_refl] at hc; cases hc
    simp only [condA_false, if_neg hne]
    rw [lk_setFr, if_neg hne]
  | false =>
   simp only [condA_false, lk]
   cases hc : Nat.beq u t with
   | true =>
    have := Nat.eq_of_beq_eq_true hc
    subst this
    have hne : s ≠ u := fun e => by subst e; rw [Nat.beq_refl] at hb; cases hb
    simp [hne]
   | false =>
    simp only [condA_false]
    rw [lk_setFr]
    by_cases he : s = t
    · subst he; simp [hb]
    · simp [he]
theorem renSlot_sound {B : Base} {g : Gh} {st : St} {a : Act} {w : World} (S : Sim P B g st a w) (s : Nat) : ∃ g', Sim P B g' (renSlot st s) a w := by
 unfold renSlot
 split
 · rename_i L sz cs hs
   cases isNm L ⟨s, 0, L.elem⟩ with
   | true => exact ⟨g, S⟩
   | false =>
    simp only [condA_false]
    obtain ⟨h1, h2⟩ := Rc.own_inv (S.frame s _ hs)
    obtain ⟨S1, h3, _⟩ := S.ren (N := ⟨s, 0, L.elem⟩) h1 rfl
    refine ⟨_, fun t v ht => ?_, S1.size, S1.defers, S1.live, S1.bx, S1.ow, S1.fr, S1.bxB, S1.owB, S1.pre, S1.gk⟩
    rw [lk_setFr] at ht
    split at ht
    · rename_i he
      subst he
      cases hl : lk (strikeFr (eitherNm L ⟨s, 0, L.elem⟩) st.fr) s with
      | none => rw [hl] at ht; cases ht
      | some u =>
       rw [hl] at ht
       simp only [Option.map_some, Option.some.injEq] at ht
       subst ht
       exact .own _ h3 h2
    · exact S1.frame t v ht
 · exact ⟨g, S⟩
theorem renCell_sound {B : Base} {g : Gh} {st : St} {a : Act} {w : World} (b : Nat) (S : Sim P B g st a w) (i : Nat) : ∃ g', Sim P B g' (renCell b st i) a w := by
 unfold renCell
 split
 · rename_i cs hcs
   split
   · rename_i L sz xs hc
     cases isNm L ⟨boxSlot b, i, L.elem⟩ with
     | true => exact ⟨g, S⟩
     | false =>
      simp only [condA_false]
      obtain ⟨blk, h4, h5⟩ := S.bx.box b cs hcs
      have hnb : ∀ c0, cs = [c0] → rowy c0 = true → False := fun c0 e hr => by
       subst e
       cases i with
       | zero => simp at hc; subst hc; cases hr
       | succ i => simp at hc
      cases h5 with
      | row vs e fz cs1 _ _ _ _ => exact (hnb _ rfl rfl).elim
      | map es ck ks _ _ => exact (hnb _ rfl rfl).elim
      | bld t' p' v' c' h5 h6 h7 =>
       have hi1 : i = 1 ∧ c' = .sl (some L) sz xs := by
        match i, hc with
        | 0, hc => simp at hc
        | 1, hc => exact ⟨rfl, by simpa using hc⟩
        | n + 2, hc => simp at hc
       obtain ⟨rfl, rfl⟩ := hi1
       obtain ⟨h1, h2⟩ := Rc.own_inv h7
       obtain ⟨S1, h3, h10⟩ := S.ren (N := ⟨boxSlot b, 1, L.elem⟩) h1 rfl
       refine ⟨_, S1.frame, S1.size, S1.defers, S1.live, ⟨by simp [S1.bx.len, St.strike], S1.bx.nodup, S1.bx.M, S1.bx.ow, fun j cs' hj => ?_⟩, S1.ow, S1.fr, S1.bxB, S1.owB, S1.pre, S1.gk⟩
       rw [List.getElem?_set] at hj
       split at hj
       · rename_i hbj
         subst hbj
         split at hj
         · cases hj
           exact ⟨blk, h4, .bld t' p' v' _ h5 h6 (.own _ h3 h2)⟩
         · cases hj
       · exact S1.bx.box j cs' hj
      | cells vs e _ h5 h6 =>
      have hil : i < vs.size := by rw [h6.1]; exact (List.getElem?_eq_some_iff.1 hc).1
      obtain ⟨h1, h2⟩ := Rc.own_inv (h6.2 i _ _ (Array.getElem?_eq_getElem hil) hc)
      obtain ⟨S1, h3, h10⟩ := S.ren (N := ⟨boxSlot b, i, L.elem⟩) h1 rfl
      refine ⟨_, S1.frame, S1.size, S1.defers, S1.live, ⟨by simp [S1.bx.len, St.strike], S1.bx.nodup, S1.bx.M, S1.bx.ow, fun j cs' hj => ?_⟩, S1.ow, S1.fr, S1.bxB, S1.owB, S1.pre, S1.gk⟩
      rw [List.getElem?_set] at hj
      split at hj
      · rename_i hbj
        subst hbj
        split at hj
        · cases hj
          have h9 : RvA (g.ren L ⟨boxSlot b, i, L.elem⟩ _) w vs (cs.map (Cell.strike (eitherNm L ⟨boxSlot b, i, L.elem⟩))) := h6.map fun v c hv => hv.strike (Kp.refl _ _) (fun _ _ h => h) h10
          refine ⟨blk, h4, .cells vs e _ h5 ⟨by rw [List.length_set]; exact h9.1, fun q v c hv hcc => ?_⟩⟩
          rw [List.getElem?_set] at hcc
          split at hcc
          · rename_i hq
            subst hq
            split at hcc
            · cases hcc
              rw [Array.getElem?_eq_getElem hil] at hv; cases hv
              exact .own _ h3 h2
            · cases hcc
          · exact h9.2 q v c hv hcc
        · cases hj
      · exact S1.bx.box j cs' hj
   · exact ⟨g, S⟩
 · exact ⟨g, S⟩
theorem fold_sound {α : Type} {B : Base} {a : Act} {w : World} {f : St → α → St} (hf : ∀ g st x, Sim P B g st a w → ∃ g', Sim P B g' (f st x) a w) : ∀ (l : List α) (g : Gh) (st : St), Sim P B g st a w → ∃ g', Sim P B g' (l.foldl f st) a w
 | [], g, st, S => ⟨g, S⟩
 | x :: l, g, st, S => by
  obtain ⟨g', S'⟩ := hf g st x S
  exact fold_sound hf l g' _ S'
theorem prune_sound {B : Base} {g : Gh} {st st' : St} {a : Act} {w : World} {keep : List Nat} {hk : Nat} (S : Sim P B g st a w) (h : prune keep hk st = some st') (hn : B.bx0.length ≤ hk) : ∃ g', Sim P B g' st' a w := by
 unfold prune at h
 cases hc : (pickFr st.fr keep).all (fun p => p.2.ptrBelow hk) && (st.H.take hk).all (fun b => b.all (ptrBelow hk)) with
 | false => rw [hc] at h; cases h
 | true =>
  rw [hc] at h
  simp only [condA_true, Option.some.injEq] at h
  subst h
  rw [Bool.and_eq_true] at hc
  have S1 := S.cut hc.1 hc.2 hn
  obtain ⟨g2, S2⟩ := fold_sound (fun g st s S => renSlot_sound S s) keep _ _ S1
  exact fold_sound (fun g st b S => by
   unfold renBox
   split
   · exact fold_sound (fun g st i S => renCell_sound b S i) _ g st S
   · exact ⟨g, S⟩) (List.range (st.H.take hk).length) g2 _ S2
omit [Inv] in
theorem hintOf_mem : ∀ {hints : List (Nat × List Nat × Nat)} {id : Nat} {x : List Nat × Nat}, hintOf hints id = some x → ∃ i, (i, x) ∈ hints
 | [], _, _, h => by cases h
 | (i, y) :: r, id, x, h => by
  simp only [hintOf] at h
  cases hb : Nat.beq i id with
  | true => rw [hb] at h; simp only [condA_true, Option.some.injEq] at h; subst h; exact ⟨i, List.mem_cons_self⟩
  | false =>
   rw [hb] at h
   obtain ⟨j, hj⟩ := hintOf_mem (show hintOf r id = some x from h)
   exact ⟨j, List.mem_cons_of_mem _ hj⟩
theorem pruneAt_sound {B : Base} {g : Gh} {st st' : St} {a : Act} {w : World} {hints : List (Nat × List Nat × Nat)} {id : Nat} (S : Sim P B g st a w) (h : pruneAt hints id st = some st') (hh : ∀ x ∈ hints, B.bx0.length ≤ x.2.2) : ∃ g', Sim P B g' st' a w := by
 unfold pruneAt at h
 split at h
 · cases h; exact ⟨g, S⟩
 · rename_i keep hk he
   obtain ⟨i, hi⟩ := hintOf_mem he
   exact prune_sound S h (hh _ hi)
end AX
end Go.Proofs.YtnkppakkeobegaaGreatDoor
namespace Go.Proofs.YtnkppakkeobegaaGreatDoor
namespace AX
variable [Inv]
open Go.RowKit
variable {P : Program} {R : Type}
omit [Inv] in
theorem wp_goto_loopX {a : Act} {w : World} {Q : Exit → Act → World → Prop} {b : Code} (l : Nat) (J : Act → World → Prop) (μ : Act → World → Nat) (hf : findLabel ((Code.label l).seq b) l = some (Code.skip.seq b)) (h0 : J a w)
 (pass : ∀ a w, J a w → b.wp P (Exit.jump l (fun a' w' => J a' w' ∧ μ a' w' < μ a w) Q) a w) : (Code.scope ((Code.label l).seq b)).wp P Q a w := by
 refine wp_scope_jumps l J μ hf ?_ ?_
 · refine wp_seq ?_
   refine wp_label ?_
   refine wp_mono (pass a w h0) fun e a' w' h => ?_
   cases e <;> first | exact h | exact ⟨h.1, h.2.1⟩
 · intro a w h
   refine wp_seq ?_
   refine wp_skip ?_
   exact pass a w h
omit [Inv] in
theorem least_of {p : Nat → Prop} (h : ∃ m, p m) : ∃ m, p m ∧ ∀ k, p k → m ≤ k := by
 obtain ⟨m, hm⟩ := h
 induction m using Nat.strongRecOn with
 | _ m ih =>
  by_cases hk : ∃ k, k < m ∧ p k
  · obtain ⟨k, h1, h2⟩ := hk; exact ih k h1 h2
  · exact ⟨m, hm, fun k hk2 => by
     rcases Nat.lt_or_ge k m with h | h
     · exact absurd ⟨k, h, hk2⟩ hk
     · exact h⟩
open Classical in
noncomputable def rounds (G : Nat → Act → World → Prop) (a : Act) (w : World) : Nat := if h : ∃ m, G m a w then Classical.choose (least_of h) else 0
omit [Inv] in
theorem rounds_spec {G : Nat → Act → World → Prop} {a : Act} {w : World} (h : ∃ m, G m a w) : G (rounds G a w) a w ∧ ∀ k, G k a w → rounds G a w ≤ k := by
 unfold rounds
 rw [dif_pos h]
 exact Classical.choose_spec (least_of h)
def exOf : Ex → Exit
 | .normal => .normal
 | .exit i => .exit i
 | .goto l => .goto l
 | .ret => .ret
def KQ (P : Program) (B : Base) (k : Ex → St → Option R) (r : R) (e : Exit) (a : Act) (w : World) : Prop := ∃ e', exOf e' = e ∧ ∃ g st, Sim P B g st a w ∧ k e' st = some r
theorem Sim.drop {B : Base} {g : Gh} {st : St} {a : Act} {w : World} (S : Sim P B g st a w) (x : Operand) : Sim P B g (st.drop x) a w := by
 cases x with
 | tmp t =>
  refine ⟨fun s v hs => ?_, S.size, S.defers, S.live, S.bx, S.ow, S.fr, S.bxB, S.owB, S.pre, S.gk⟩
  simp only [St.drop, lk_rm] at hs
  split at hs
  · cases hs
  · exact S.frame s v hs
 | _ => exact S
theorem Sim.condSt {B : Base} {g : Gh} {st : St} {a : Act} {w : World} (S : Sim P B g st a w) {hints : List (Nat × List Nat × Nat)} {c : Operand} {b : Bool} (h : AX.ev st c = some (.one (.bool b))) : Sim P B g (AX.condSt hints c b st) a w := by
 unfold AX.condSt
 split
 · split
   · exact S.drop _
   · exact S.eqv (fix_eq h)
 · exact S.drop _
omit [Inv] in
theorem appSl_some {X : Type} {sz : Nat} {c : Cell} {j : List Cell → X} {k : X → Option R} {r : R} (h : appSl sz c j k = some r) : ∃ l, c = .sl none sz l ∧ k (j l) = some r := by
 unfold appSl at h
 split at h
 · rename_i nm s l
   split at h
   · cases hb : Nat.beq s sz with
     | false => rw [hb] at h; cases h
     | true => rw [hb] at h; rw [Nat.eq_of_beq_eq_true hb]; exact ⟨l, rfl, h⟩
   · cases h
 · cases h
omit [Inv] in
theorem appNm_some {X : Type} {sz s i e : Nat} {c : Cell} {j : List Cell → X} {k : X → Option R} {r : R} (h : appNm sz s i e c j k = some r) : ∃ l, c = .sl (some ⟨s, i, e⟩) sz l ∧ k (j l) = some r := by
 unfold appNm at h
 split at h
 · rename_i nm s' l
   split at h
   · cases h
   · rename_i n
     cases hb : Nat.beq s' sz && (Nat.beq n.slot s && (Nat.beq n.ix i && Nat.beq n.elem e)) with
     | false => rw [hb] at h; cases h
     | true =>
      rw [hb] at h
      simp only [Bool.and_eq_true] at hb
      obtain ⟨h1, h2, h3, h4⟩ := hb
      obtain ⟨n1, n2, n3⟩ := n
      rw [Nat.eq_of_beq_eq_true h1]
      have e1 : n1 = s := Nat.eq_of_beq_eq_true h2
      have e2 : n2 = i := Nat.eq_of_beq_eq_true h3
      have e3 : n3 = e := Nat.eq_of_beq_eq_true h4
      subst e1 e2 e3
      exact ⟨l, rfl, h⟩
 · cases h
omit [Inv] in
theorem CS.app_lam {X : Type} {s : CS} {c : Cell} {f : Cell → X} {k : X → Option R} {r : R} (h : s.app c (s.lam f) k = some r) : k (f c) = some r := by
 cases s with
 | int kd => obtain ⟨n, e, h1⟩ := castI_some h; rw [e]; exact h1
 | bool => obtain ⟨n, e, h1⟩ := castB_some h; rw [e]; exact h1
 | str => obtain ⟨n, e, h1⟩ := castS_some h; rw [e]; exact h1
 | err => obtain ⟨n, e, h1⟩ := castE_some h; rw [e]; exact h1
 | sl sz => obtain ⟨l, e, h1⟩ := appSl_some h; rw [e]; exact h1
 | nm sz s i e => obtain ⟨l, e, h1⟩ := appNm_some h; rw [e]; exact h1
 | nilp => simp only [CS.app] at h; split at h <;> first | exact h | cases h
 | nilm => simp only [CS.app] at h; split at h <;> first | exact h | cases h
 | ptr b o =>
  simp only [CS.app] at h
  split at h
  · rename_i b' o'
    cases hb : Nat.beq b' b && Nat.beq o' o with
    | false => rw [hb] at h; cases h
    | true =>
     rw [hb] at h
     rw [Bool.and_eq_true] at hb
     rw [Nat.eq_of_beq_eq_true hb.1, Nat.eq_of_beq_eq_true hb.2]; exact h
  · cases h
 | mapr b =>
  simp only [CS.app] at h
  split at h
  · rename_i b'
    cases hb : Nat.beq b' b with
    | false => rw [hb] at h; cases h
    | true => rw [hb] at h; rw [Nat.eq_of_beq_eq_true hb]; exact h
  · cases h
 | raw => exact h
 | row => simp only [CS.app] at h; split at h <;> first | exact h | cases h
 | gpo => simp only [CS.app] at h; split at h <;> first | exact h | cases h
 | map => simp only [CS.app] at h; split at h <;> first | exact h | cases h
 | bsl b sz =>
  simp only [CS.app] at h
  split at h
  · rename_i b' s n
    cases hb : Nat.beq b' b && Nat.beq s sz with
    | false => rw [hb] at h; cases h
    | true =>
     rw [hb] at h
     rw [Bool.and_eq_true] at hb
     rw [Nat.eq_of_beq_eq_true hb.1, Nat.eq_of_beq_eq_true hb.2]; exact h
  · cases h
 | bptr b =>
  simp only [CS.app] at h
  split at h
  · rename_i b' o
    cases hb : Nat.beq b' b with
    | false => rw [hb] at h; cases h
    | true => rw [hb] at h; rw [Nat.eq_of_beq_eq_true hb]; exact h
  · cases h
 | gptr o =>
  simp only [CS.app] at h
  split at h
  · rename_i b o'
    cases hb : Nat.beq o' o with
    | false => rw [hb] at h; cases h
    | true => rw [hb] at h; rw [Nat.eq_of_beq_eq_true hb]; exact h
  · cases h
 | clo0 q =>
  simp only [CS.app] at h
  split at h
  · rename_i q' n cs
    cases hb : Nat.beq q' q && Nat.beq n 0 with
    | false => rw [hb] at h; cases h
    | true =>
     rw [hb] at h
     rw [Bool.and_eq_true] at hb
     rw [Nat.eq_of_beq_eq_true hb.1, Nat.eq_of_beq_eq_true hb.2]
     cases cs with
     | nil => exact h
     | cons _ _ => cases h
  · cases h
omit [Inv] in
theorem CSs.app_lam {X : Type} : ∀ {l : List CS} {cs : List Cell} {f : List Cell → X} {k : X → Option R} {r : R}, CSs.app l cs (CSs.lam l f) k = some r → k (f cs) = some r
 | [], cs, f, k, r, h => by
  simp only [CSs.app] at h
  split at h
  · exact h
  · cases h
 | s :: l, cs, f, k, r, h => by
  simp only [CSs.app] at h
  split at h
  · cases h
  · rename_i c q
    have h1 := CS.app_lam (s := s) (c := c) (f := fun c => CSs.lam l fun cs => f (c :: cs)) h
    exact CSs.app_lam (f := fun cs => f (c :: cs)) h1
def CellsAs (cs cs' : List Cell) : Prop := cs' = cs ∨ LikeL cs cs'
omit [Inv] in
theorem LS.app_lam {X : Type} {s : LS} {cs : List Cell} {f : List Cell → X} {k : X → Option R} {r : R} (h : s.app cs (s.lam f) k = some r) : ∃ cs', CellsAs cs cs' ∧ k (f cs') = some r := by
 cases s with
 | cells l => exact ⟨cs, .inl rfl, CSs.app_lam h⟩
 | sk d =>
  obtain ⟨x, a, b, rfl, h1, h2⟩ := d.ok _ _ _ h
  unfold takeAll at h2
  split at h2
  · exact ⟨d.enc x, .inr (by simpa using h1), h2⟩
  · cases h2
inductive AVAs : AV → AV → Prop
 | same (v : AV) : AVAs v v
 | agg {cs cs' : List Cell} : CellsAs cs cs' → AVAs (.agg cs) (.agg cs')
 | sl0 (sz : Nat) (l : List Cell) : AVAs (.one (.sl none 0 l)) (.one (.sl none sz l))
omit [Inv] in
theorem CS.norm_as (s : CS) (c : Cell) : AVAs (.one c) (.one (s.norm c)) := by
 unfold CS.norm
 split
 · rename_i sz
   unfold normSl
   split
   · rename_i nm s' l
     split
     · cases hb : Nat.beq s' 0 with
       | true => rw [Nat.eq_of_beq_eq_true hb]; exact .sl0 sz l
       | false => exact .same _
     · exact .same _
   · exact .same _
 · exact .same _
omit [Inv] in
theorem VS.app_lam {X : Type} {s : VS} {v : AV} {f : AV → X} {k : X → Option R} {r : R} (h : s.app v (s.lam f) k = some r) : ∃ v', AVAs v v' ∧ k (f v') = some r := by
 cases s with
 | one s =>
  simp only [VS.app] at h
  split at h
  · exact ⟨_, CS.norm_as s _, CS.app_lam (f := fun c => f (.one c)) h⟩
  · cases h
 | agg s =>
  simp only [VS.app] at h
  split at h
  · obtain ⟨cs', h1, h2⟩ := LS.app_lam (f := fun cs => f (.agg cs)) h
    exact ⟨_, .agg h1, h2⟩
  · cases h
 | undef =>
  simp only [VS.app] at h
  split at h
  · exact ⟨_, .same _, h⟩
  · cases h
omit [Inv] in
theorem FrS.app_lam {X : Type} : ∀ {l : List (Nat × VS)} {fr : List (Nat × AV)} {f : List (Nat × AV) → X} {k : X → Option R} {r : R}, FrS.app l fr (FrS.lam l f) k = some r →
 ∃ fr', (∀ s v', lk fr' s = some v' → ∃ v, lk fr s = some v ∧ AVAs v v') ∧ k (f fr') = some r
 | [], fr, f, k, r, h => by
  simp only [FrS.app] at h
  split at h
  · exact ⟨[], fun s v' h => (by cases h), h⟩
  · cases h
 | s :: l, fr, f, k, r, h => by
  simp only [FrS.app] at h
  split at h
  · cases h
  · rename_i v q
    cases hb : Nat.beq v.1 s.1 with
    | false => rw [hb] at h; cases h
    | true =>
     rw [hb, condA_true] at h
     obtain ⟨v', h1, h2⟩ := VS.app_lam (f := fun v => FrS.lam l fun fr => f ((s.1, v) :: fr)) h
     obtain ⟨fr', h3, h4⟩ := FrS.app_lam h2
     refine ⟨_, fun t u hu => ?_, h4⟩
     have hs := Nat.eq_of_beq_eq_true hb
     simp only [lk] at hu
     obtain ⟨v1, v2⟩ := v
     simp only at hs h1
     subst hs
     simp only [lk]
     cases hbt : Nat.beq s.1 t with
     | true =>
      rw [hbt, condA_true] at hu
      cases hu
      exact ⟨_, rfl, h1⟩
     | false =>
      rw [hbt, condA_false] at hu
      exact h3 t u hu
omit [Inv] in
theorem HpS.app_lam {X : Type} : ∀ {l : List LS} {H : List (List Cell)} {f : List (List Cell) → X} {k : X → Option R} {r : R}, HpS.app l H (HpS.lam l f) k = some r →
 ∃ H', H'.length = H.length ∧ (∀ (i : Nat) cs', H'[i]? = some cs' → ∃ cs, H[i]? = some cs ∧ CellsAs cs cs') ∧ k (f H') = some r
 | [], H, f, k, r, h => by
  simp only [HpS.app] at h
  split at h
  · exact ⟨[], rfl, fun s v' h => by simp at h, h⟩
  · cases h
 | s :: l, H, f, k, r, h => by
  simp only [HpS.app] at h
  split at h
  · cases h
  · rename_i cs q
    obtain ⟨cs', h1, h2⟩ := LS.app_lam (f := fun cs => HpS.lam l fun H => f (cs :: H)) h
    obtain ⟨H', h3, h4, h5⟩ := HpS.app_lam h2
    refine ⟨_, by simp [h3], fun i c hc => ?_, h5⟩
    cases i with
    | zero => simp at hc; subst hc; exact ⟨cs, rfl, h1⟩
    | succ i => exact h4 i c (by simpa using hc)
omit [Inv] in
theorem SS.app_lam0 {s : SS} {st : St} {k : St → Option R} {r : R} (h : s.app st (s.lam0 k) = some r) :
 ∃ fr' H', (∀ x v', lk fr' x = some v' → ∃ v, lk st.fr x = some v ∧ AVAs v v') ∧ H'.length = st.H.length ∧ (∀ (i : Nat) cs', H'[i]? = some cs' → ∃ cs, st.H[i]? = some cs ∧ CellsAs cs cs') ∧ k ⟨fr', H', st.G⟩ = some r := by
 unfold SS.app SS.lam0 at h
 obtain ⟨fr', h1, h⟩ := FrS.app_lam (f := fun fr => HpS.lam s.H fun H => gLam s.G fun G => k ⟨fr, H, G⟩) h
 obtain ⟨H', h2, h3, h⟩ := HpS.app_lam (f := fun H => gLam s.G fun G => k ⟨fr', H, G⟩) h
 refine ⟨fr', H', h1, h2, h3, ?_⟩
 cases hg : s.G with
 | true =>
  rw [hg] at h
  simp only [gApp] at h
  split at h
  · rename_i G hG; rw [hG]; exact h
  · cases h
 | false =>
  rw [hg] at h
  simp only [gApp] at h
  split at h
  · cases h
  · rename_i hG; rw [hG]; exact h
omit [Inv] in
theorem setP_same {t : Nat} {v : AV} : ∀ {fr : List (Nat × AV)}, lk fr t = some v → setP t v fr = fr
 | [], h => by cases h
 | (s, u) :: r, h => by
  simp only [lk] at h
  simp only [setP]
  cases hb : Nat.beq s t with
  | true => rw [hb, condA_true] at h; cases h; rfl
  | false => rw [hb, condA_false] at h; rw [condA_false, setP_same h]
omit [Inv] in
theorem splitP_some {k : St → Option R} {r : R} : ∀ {l : List Nat} {st : St}, splitP l k st = some r → k st = some r
 | [], _, h => h
 | t :: l, st, h => by
  simp only [splitP] at h
  split at h
  · rename_i c hc
    cases c with
    | nilp => have := splitP_some (l := l) h; rwa [setP_same hc] at this
    | gptr b o => have := splitP_some (l := l) h; rwa [setP_same hc] at this
    | _ => cases h
  · cases h
omit [Inv] in
theorem SS.app_lam {s : SS} {st : St} {k : St → Option R} {r : R} (h : s.app st (s.lam k) = some r) :
 ∃ fr' H', (∀ x v', lk fr' x = some v' → ∃ v, lk st.fr x = some v ∧ AVAs v v') ∧ H'.length = st.H.length ∧ (∀ (i : Nat) cs', H'[i]? = some cs' → ∃ cs, st.H[i]? = some cs ∧ CellsAs cs cs') ∧ k ⟨fr', H', st.G⟩ = some r := by
 obtain ⟨fr', H', h1, h2, h3, h4⟩ := SS.app_lam0 h
 exact ⟨fr', H', h1, h2, h3, splitP_some h4⟩
omit [Inv] in
theorem SS.app_bot {s : SS} {st : St} {r : R} (h : s.app st s.bot = some r) : False := by
 obtain ⟨_, _, _, _, _, h⟩ := SS.app_lam0 h
 cases h
omit [Inv] in
theorem LikeC.rc {c c' : Cell} (h : LikeC c c') : rowy c = false ∧ ∀ (g : Gh) w v, Rc g w v c → Rc g w v c' := by
 cases h with
 | int => exact ⟨rfl, fun _ _ _ h => h⟩
 | bool => exact ⟨rfl, fun _ _ _ h => h⟩
 | str => exact ⟨rfl, fun _ _ _ h => h⟩
 | err => exact ⟨rfl, fun _ _ _ h => h⟩
 | sl nm s sz l hs => exact ⟨rfl, fun g w v h => .data (h.sized hs).dataSl⟩
omit [Inv] in
theorem LikeL.get {l l' : List Cell} (h : LikeL l l') : l'.length = l.length ∧ ∀ (i : Nat) c', l'[i]? = some c' → ∃ c, l[i]? = some c ∧ LikeC c c' := by
 induction h with
 | nil => exact ⟨rfl, fun i c h => by simp at h⟩
 | cons h1 _ ih =>
  refine ⟨by simp [ih.1], fun i c' hc => ?_⟩
  cases i with
  | zero => simp at hc; subst hc; exact ⟨_, rfl, h1⟩
  | succ i => exact ih.2 i c' (by simpa using hc)
omit [Inv] in
theorem LikeL.rvA {g : Gh} {w : World} {vs : Array Value} {l l' : List Cell} (h : LikeL l l') (hv : RvA g w vs l) : RvA g w vs l' := by
 obtain ⟨h1, h2⟩ := h.get
 refine ⟨by rw [h1]; exact hv.1, fun i v c' hi hc => ?_⟩
 obtain ⟨c, h3, h4⟩ := h2 i c' hc
 exact h4.rc.2 g w v (hv.2 i v c hi h3)
omit [Inv] in
theorem CellsAs.box {g : Gh} {w : World} {blk : Nat} {cs cs' : List Cell} (h : CellsAs cs cs') (hb : BoxIs g w blk cs) : BoxIs g w blk cs' := by
 rcases h with rfl | h
 · exact hb
 · have hr : ∀ c r, cs = c :: r → rowy c = false := fun c r e => by
    subst e; cases h with | cons h _ => exact h.rc.1
   cases hb with
   | cells vs e _ h1 h2 => exact .cells vs e _ h1 (h.rvA h2)
   | row vs e fz cs _ _ _ _ => cases hr _ _ rfl
   | map es ck ks _ _ => cases hr _ _ rfl
   | bld t p v c _ _ _ => cases hr _ _ rfl
omit [Inv] in
theorem AVAs.rv {g : Gh} {w : World} {u : Value} {v v' : AV} (h : AVAs v v') (hv : Rv g w u v) : Rv g w u v' := by
 cases h with
 | same => exact hv
 | agg h =>
  rcases h with rfl | h
  · exact hv
  · obtain ⟨vs, rfl, h2⟩ := hv; exact ⟨vs, rfl, h.rvA h2⟩
 | sl0 sz l => exact Rc.sized hv (.inr rfl)
theorem Sim.as {B : Base} {g : Gh} {st : St} {a : Act} {w : World} (S : Sim P B g st a w) {fr' : List (Nat × AV)} {H' : List (List Cell)} (h1 : ∀ x v', lk fr' x = some v' → ∃ v, lk st.fr x = some v ∧ AVAs v v') (h2 : H'.length = st.H.length)
 (h3 : ∀ (i : Nat) cs', H'[i]? = some cs' → ∃ cs, st.H[i]? = some cs ∧ CellsAs cs cs') : Sim P B g ⟨fr', H', st.G⟩ a w := by
 refine ⟨fun s v hs => ?_, S.size, S.defers, S.live, ⟨by rw [S.bx.len]; exact h2.symm, S.bx.nodup, S.bx.M, S.bx.ow, fun i cs hi => ?_⟩, S.ow, S.fr, S.bxB, S.owB, S.pre, S.gk⟩
 · obtain ⟨u, h4, h5⟩ := h1 s v hs
   exact h5.rv (S.frame s u h4)
 · obtain ⟨cs0, h4, h5⟩ := h3 i cs hi
   obtain ⟨blk, h6, h7⟩ := S.bx.box i cs0 h4
   exact ⟨blk, h6, h5.box h7⟩
theorem app_sound {B : Base} {g : Gh} {s : SS} {st : St} {a : Act} {w : World} {k : St → Option R} {r : R} (S : Sim P B g st a w) (h : s.app st (s.lam k) = some r) : ∃ st', Sim P B g st' a w ∧ k st' = some r := by
 obtain ⟨fr', H', h1, h2, h3, h4⟩ := SS.app_lam h
 exact ⟨_, S.as h1 h2 h3, h4⟩
omit [Inv] in
theorem prK_some {id : Nat} {pr : St → Option St} {f : St → Option R} {st : St} {r : R} (h : prK id pr f st = some r) : ∃ st1, pr st = some st1 ∧ f st1 = some r := by
 unfold prK at h
 split at h
 · cases h
 · rw [forceSt_eq] at h
   exact ⟨_, ‹_›, h⟩
section
variable {E : Env} {call : CallF} (hE : EnvOk P E) (hC : CallOk P E call) (hfol : P.follows .mixedOrders = true)
include hE hC hfol
theorem code_sound {B : Base} {hints : List (Nat × List Nat × Nat)} {shs : List (Nat × SS)} {hds : List (Nat × Nat)} {n : Nat} (c : Code) (hok : okCode B.nt hds c = true) (hh : ∀ x ∈ hints, B.bx0.length ≤ x.2.2) {k : Ex → St → Option R} {r : R} {g : Gh} {st : St} {a : Act} {w : World} (S : Sim P B g st a w) (h : aexec E call hints shs hds n c k st = some r) : c.wp P (KQ P B k r) a w := by
 cases c with
 | skip => exact wp_skip ⟨.normal, rfl, g, st, S, h⟩
 | label l => exact wp_label ⟨.normal, rfl, g, st, S, h⟩
 | exit id => exact wp_exit ⟨.exit id, rfl, g, st, S, h⟩
 | goto l => exact wp_goto ⟨.goto l, rfl, g, st, S, h⟩
 | ret => exact wp_ret ⟨.ret, rfl, g, st, S, h⟩
 | rangeFunc => cases h
 | refuse => cases h
 | region id ops draw =>
  simp only [okCode, Bool.and_eq_true] at hok
  simp only [aexec] at h
  refine region_sound hE hC (hd := condA (draw) (heads hds id) <| 0) S hfol hok.1 (fun hd => ?_) (fun hd => by rw [hd]; rfl) h fun g st a w S h => ?_
  · subst hd; simpa using hok.2
  · obtain ⟨st1, h1, h2⟩ := prK_some h
    obtain ⟨g', S'⟩ := pruneAt_sound S h1 hh
    exact ⟨.normal, rfl, g', st1, S', h2⟩
 | seq x y =>
  simp only [okCode, Bool.and_eq_true] at hok
  simp only [aexec] at h
  split at h
  · refine wp_seq (wp_mono (code_sound x hok.1 hh S h) fun e a' w' hk => ?_)
    obtain ⟨e', he, g', st', S', hk⟩ := hk
    cases e' <;> subst he
    · exact code_sound y hok.2 hh S' hk
    · exact ⟨_, rfl, g', st', S', hk⟩
    · exact ⟨_, rfl, g', st', S', hk⟩
    · exact ⟨_, rfl, g', st', S', hk⟩
  · rename_i s hs
    unfold joinK at h
    refine wp_seq (wp_mono (code_sound x hok.1 hh S h) fun e a' w' hk => ?_)
    obtain ⟨e', he, g', st', S', hk⟩ := hk
    cases e' <;> subst he
    · obtain ⟨st1, h1, h2⟩ := prK_some hk
      obtain ⟨g2, S2⟩ := pruneAt_sound S' h1 hh
      obtain ⟨st3, S3, h3⟩ := app_sound S2 h2
      exact code_sound y hok.2 hh S3 h3
    · exact ⟨_, rfl, g', st', S', hk⟩
    · exact ⟨_, rfl, g', st', S', hk⟩
    · exact ⟨_, rfl, g', st', S', hk⟩
 | cond x y z =>
  simp only [okCode, Bool.and_eq_true] at hok
  simp only [aexec] at h
  split at h
  · rename_i t ht
    refine wp_cond (t := t) (S.ev ht).bool_inv ?_
    cases t with
    | true => exact code_sound y hok.1 hh (S.condSt ht) h
    | false => exact code_sound z hok.2 hh (S.condSt ht) h
  · cases h
 | block id x =>
  simp only [okCode] at hok
  simp only [aexec] at h
  refine wp_block (wp_mono (code_sound x hok hh S h) fun e a' w' hk => ?_)
  obtain ⟨e', he, g', st', S', hk⟩ := hk
  cases e' <;> subst he
  · exact ⟨_, rfl, g', st', S', hk⟩
  · rename_i i
    simp only [kBlk] at hk
    simp only [exOf, Exit.inBlock]
    cases hb : Nat.beq i id with
    | true =>
     rw [hb] at hk
     rw [if_pos (Nat.eq_of_beq_eq_true hb)]
     exact ⟨.normal, rfl, g', st', S', hk⟩
    | false =>
     rw [hb] at hk
     rw [if_neg (fun e => by subst e; rw [Nat.beq_refl] at hb; cases hb)]
     exact ⟨.exit i, rfl, g', st', S', hk⟩
  · exact ⟨_, rfl, g', st', S', hk⟩
  · exact ⟨_, rfl, g', st', S', hk⟩
 | loop x =>
  simp only [okCode] at hok
  simp only [aexec] at h
  split at h
  · cases h
  · rename_i s hs
    generalize hF : (fun self => s.lam (aexec E call hints shs hds n x (kSeq (fun _ => prK (loopKey x) (pruneAt hints (loopKey x)) fun st2 => s.app st2 self) k))) = F at h
    let G : Nat → Act → World → Prop := fun m a w => ∃ g st, Sim P B g st a w ∧ s.app st (loopJ s.bot F m) = some r
    obtain ⟨st0, h0, h⟩ := prK_some h
    obtain ⟨g0, S0⟩ := pruneAt_sound S h0 hh
    refine wp_loop (fun a w => ∃ m, G m a w) (rounds G) ⟨n, g0, st0, S0, h⟩ fun a w hI => ?_
    obtain ⟨hG, hmin⟩ := rounds_spec hI
    generalize rounds G a w = m at hG hmin
    obtain ⟨g1, st1, S1, h1⟩ := hG
    cases m with
    | zero => exact (SS.app_bot h1).elim
    | succ m =>
     simp only [loopJ] at h1
     rw [← hF] at h1
     obtain ⟨st1', S1', h1⟩ := app_sound S1 h1
     refine wp_mono (code_sound x hok hh S1' h1) fun e a' w' hk => ?_
     obtain ⟨e', he, g', st', S', hk⟩ := hk
     cases e' <;> subst he
     · obtain ⟨st3, h3, h4⟩ := prK_some hk
       obtain ⟨g3, S3⟩ := pruneAt_sound S' h3 hh
       rw [hF] at h4
       have hg : G m a' w' := ⟨g3, st3, S3, h4⟩
       refine ⟨⟨m, hg⟩, Nat.lt_of_le_of_lt ((rounds_spec ⟨m, hg⟩).2 m hg) (Nat.lt_succ_self m)⟩
     · exact ⟨_, rfl, g', st', S', hk⟩
     · exact ⟨_, rfl, g', st', S', hk⟩
     · exact ⟨_, rfl, g', st', S', hk⟩
 | scope x =>
  simp only [okCode] at hok
  cases x with
  | seq y b =>
   cases y with
   | label l =>
    simp only [okCode, Bool.true_and] at hok
    simp only [aexec] at h
    split at h
    · cases h
    · rename_i s hs
      generalize hF : (fun self => s.lam (aexec E call hints shs hds n b (kGoto l (prK (loopKey b) (pruneAt hints (loopKey b)) fun st2 => s.app st2 self) k))) = F at h
      obtain ⟨st0, h0, h⟩ := prK_some h
      obtain ⟨g0, S0⟩ := pruneAt_sound S h0 hh
      let G : Nat → Act → World → Prop := fun m a w => ∃ g st, Sim P B g st a w ∧ s.app st (loopJ s.bot F m) = some r
      refine wp_goto_loopX l (fun a w => ∃ m, G m a w) (rounds G) (by simp [findLabel]) ⟨n, g0, st0, S0, h⟩ fun a w hI => ?_
      obtain ⟨hG, hmin⟩ := rounds_spec hI
      generalize rounds G a w = m at hG hmin
      obtain ⟨g1, st1, S1, h1⟩ := hG
      cases m with
      | zero => exact (SS.app_bot h1).elim
      | succ m =>
       simp only [loopJ] at h1
       rw [← hF] at h1
       obtain ⟨st1', S1', h1⟩ := app_sound S1 h1
       refine wp_mono (code_sound b hok hh S1' h1) fun e a' w' hk => ?_
       obtain ⟨e', he, g', st', S', hk⟩ := hk
       cases e' <;> subst he
       · exact ⟨_, rfl, g', st', S', hk⟩
       · exact ⟨_, rfl, g', st', S', hk⟩
       · rename_i l'
         simp only [kGoto] at hk
         cases hb : Nat.beq l' l with
         | true =>
          rw [hb] at hk
          simp only [condA_true] at hk
          have := Nat.eq_of_beq_eq_true hb
          subst this
          obtain ⟨st3, h3, h4⟩ := prK_some hk
          obtain ⟨g3, S3⟩ := pruneAt_sound S' h3 hh
          rw [hF] at h4
          have hg : G m a' w' := ⟨g3, st3, S3, h4⟩
          exact ⟨rfl, ⟨m, hg⟩, Nat.lt_of_le_of_lt ((rounds_spec ⟨m, hg⟩).2 m hg) (Nat.lt_succ_self m)⟩
         | false =>
          rw [hb] at hk
          cases hk
       · exact ⟨_, rfl, g', st', S', hk⟩
   | _ => cases h
  | _ => cases h
termination_by SizeOf.sizeOf c
end
omit [Inv] in
theorem run_mapM_all {α β : Type} {f : α → Sem β} {w : World} : ∀ {l : List α} {ys : List β}, All2 (fun x y => (f x).run P w = .ok y w) l ys → (l.mapM f).run P w = .ok ys w
 | _, _, .nil => by simp
 | _, _, .cons (xs := xs) (bs := bs) h hr => by
  have := run_mapM_all hr
  simp [List.mapM_cons, h, this]
def resSem (tmps : Array Value) : ResultVar → Sem Value
 | .tmp t => pure (tmps.getD t undef)
 | .cell p t => do loadVar t (← asAddr (tmps.getD p undef))
section
variable {E : Env} (hE : EnvOk P E)
include hE
omit hE in
omit [Inv] in
theorem resSem_eq (fn : Func) (tmps : Array Value) : results fn tmps = (do let vs ← fn.results.mapM (resSem tmps); pure (if h : vs.size = 1 then vs[0] else .tuple vs)) := by
 unfold results
 congr 1
theorem res_sound {B : Base} {g : Gh} {st : St} {a : Act} {w : World} (S : Sim P B g st a w) : ∀ (l : List ResultVar) (vs : List V1), ress E st l = some vs →
 ∃ us, All2 (fun x y => (resSem a.tmps x).run P w = .ok y w) l us ∧ All2 (fun v u => Rv1 g w u v) vs us
 | [], vs, h => by cases h; exact ⟨[], .nil, .nil⟩
 | x :: l, vs, h => by
  simp only [ress] at h
  split at h
  · rename_i v vs' hv hvs
    cases h
    obtain ⟨us, h1, h2⟩ := res_sound S l vs' hvs
    cases x with
    | tmp t =>
     have hv : resOf st (.tmp t) = some v := hv
     simp only [resOf] at hv
     refine ⟨a.tmps.getD t undef :: us, .cons rfl h1, .cons ?_ h2⟩
     split at hv
     · cases hv; exact S.frame t _ ‹_›
     · cases hv; exact S.frame t _ ‹_›
     · cases hv
    | cell p t =>
     simp only [resCell] at hv
     split at hv
     · rename_i x ti hp ht
       rw [loadK_bind] at hv
       obtain ⟨av, h3, h4⟩ := bind_some_inv hv
       obtain ⟨av', u, h5, h6, h7⟩ := loadK_sound S (ty_ok hE.T ht) (S.frame p _ hp) h3
       cases h5
       refine ⟨u :: us, .cons ?_ h1, .cons ?_ h2⟩
       · have hx : ∃ A, a.tmps.getD p undef = .pointer (some A) := by
          have hr := S.frame p _ hp
          generalize a.tmps.getD p undef = q at hr
          unfold loadK at h3
          split at h3
          · obtain ⟨blk, rfl, _⟩ := Rc.ptr_inv hr; exact ⟨_, rfl⟩
          · cases hr with
            | data h => cases h
            | eptr => exact ⟨_, rfl⟩
          · cases h3
         obtain ⟨A, hA⟩ := hx
         rw [hA] at h6
         simp only [resSem, hA]
         simpa [Instr.loadAt, Instr.sureAddr, asAddr] using h6
       · split at h4
         · cases h4; exact h7
         · cases h4; exact h7
         · cases h4
     · cases hv
  · cases h
theorem end_sound {B : Base} {g : Gh} {st : St} {a : Act} {w : World} {fn : Func} {res : List ResultVar} {e : Ex} {v : AV} {H' : Heap} {h0 : Nat} (S : Sim P B g st a w) (hr : fn.results.toList = res) (h : kEnd E h0 res e st = some (v, H')) :
 (e = .normal ∨ e = .ret) ∧ H' = outH h0 st.H st.G ∧ ∃ u, (results fn a.tmps).run P w = .ok u w ∧ Rv g w u v := by
 have key : (match ress E st res with | some [v] => some (v.av, outH h0 st.H st.G) | some vs => some (.tup vs, outH h0 st.H st.G) | none => none) = some (v, H') → H' = outH h0 st.H st.G ∧ ∃ u, (results fn a.tmps).run P w = .ok u w ∧ Rv g w u v := fun h => by
  have hm : ∀ vs, ress E st res = some vs → ∃ us, (results fn a.tmps).run P w = .ok (if h : us.size = 1 then us[0] else .tuple us) w ∧ All2 (fun v u => Rv1 g w u v) vs us.toList := fun vs hvs => by
   obtain ⟨us, h1, h2⟩ := res_sound hE S res vs hvs
   refine ⟨us.toArray, ?_, by simpa using h2⟩
   rw [← hr] at h1
   have hrun := run_mapM_all h1
   rw [resSem_eq, Array.mapM_eq_mapM_toList]
   simp only [Sem.run_bind]
   simp [hrun]
  split at h
  · rename_i x hx
    cases h
    obtain ⟨us, h1, h2⟩ := hm _ hx
    cases hus : us.toList with
    | nil => rw [hus] at h2; cases h2
    | cons u r =>
     rw [hus] at h2
     cases h2 with
     | cons h3 h4 =>
      cases h4
      have hu : us = #[u] := by apply Array.toList_inj.1; rw [hus]
      subst hu
      exact ⟨rfl, u, by simpa using h1, h3.av⟩
  · rename_i vs hvs hx
    cases h
    obtain ⟨us, h1, h2⟩ := hm _ hx
    have hl := h2.get
    have hne : ¬ us.size = 1 := fun h1 => by
     have : vs.length = 1 := by rw [hl]; simpa using h1
     cases vs with
     | nil => cases this
     | cons y r => cases r with
      | nil => exact hvs y rfl
      | cons _ _ => simp at this
    rw [dif_neg hne] at h1
    refine ⟨rfl, .tuple us, h1, us, rfl, by simpa using hl.symm, fun i u x hu hx => ?_⟩
    have get : ∀ {vs : List V1} {us : List Value}, All2 (fun v u => Rv1 g w u v) vs us → ∀ (i : Nat) u x, us[i]? = some u → vs[i]? = some x → Rv1 g w u x := fun h => by
     induction h with
     | nil => intro i u x hu _; simp at hu
     | cons h1 _ ih =>
      intro i u x hu hx
      cases i with
      | zero => simp at hu hx; subst hu; subst hx; exact h1
      | succ i => exact ih i u x (by simpa using hu) (by simpa using hx)
    exact get h2 i u x (by simpa using hu) hx
  · cases h
 cases e with
 | normal => exact ⟨.inl rfl, key h⟩
 | ret => exact ⟨.inr rfl, key h⟩
 | exit i => cases h
 | goto l => cases h
end
structure FunOk (P : Program) (f : FuncId) (x : FX) : Prop where
 ex : ∃ fn, P.funcs[f]? = some fn ∧ fn.body = some x.body ∧ fn.results.toList = x.res ∧ fn.ntmps = x.nt ∧ okCode x.nt x.hds x.body = true ∧ fn.name ≠ "runtime.NumGoroutine"
omit [Inv] in
theorem lk_arg : ∀ (args : List AV) (i s : Nat) (v : AV), lk (argFr i args) s = some v → i ≤ s ∧ args[s - i]? = some v
 | [], i, s, v, h => by cases h
 | a :: r, i, s, v, h => by
  simp only [argFr, lk] at h
  cases hb : Nat.beq i s with
  | true =>
   rw [hb] at h
   have := Nat.eq_of_beq_eq_true hb
   subst this
   exact ⟨Nat.le_refl _, by simpa using h⟩
  | false =>
   rw [hb] at h
   have hne : i ≠ s := fun e => by subst e; rw [Nat.beq_refl] at hb; cases hb
   obtain ⟨h1, h2⟩ := lk_arg r (i + 1) s v h
   refine ⟨by omega, ?_⟩
   rw [show s - i = (s - (i + 1)) + 1 by omega, List.getElem?_cons_succ]
   exact h2
omit [Inv] in
theorem All2.at {α β : Type} {C : α → β → Prop} {l : List α} {m : List β} (h : All2 C l m) : ∀ (i : Nat) a, l[i]? = some a → ∃ b, m[i]? = some b ∧ C a b := by
 induction h with
 | nil => intro i a h; simp at h
 | cons h1 _ ih =>
  intro i a ha
  cases i with
  | zero => simp at ha; subst ha; exact ⟨_, rfl, h1⟩
  | succ i => obtain ⟨b, hb, hc⟩ := ih i a (by simpa using ha); exact ⟨b, by simpa using hb, hc⟩
theorem EnvOk.box {E : Env} (h : EnvOk P E) (l l2 l3 : List Nat) : EnvOk P (E.box l l2 l3) := ⟨h.T, h.eqs, h.prim, h.primH, h.primS, h.primG⟩
theorem CallOk.box {E : Env} {call : CallF} (h : CallOk P E call) (l l2 l3 : List Nat) : CallOk P (E.box l l2 l3) call := ⟨h.ok, h.fn⟩
theorem acall_sound {E : Env} {fx : FuncId → Option FX} (hE : EnvOk P E) (hfol : P.follows .mixedOrders = true) (hF : ∀ f x, fx f = some x → FunOk P f x) : ∀ n, CallOk P E (acall E fx n)
 | 0 => ⟨fun f args H v H' h => (by cases h), fun f args H v H' h => (by cases h)⟩
 | n + 1 => by
  have ih := acall_sound hE hfol hF n
  have inv : ∀ f args H v H', acall E fx (n + 1) f args H = some (v, H') → ∃ x, fx f = some x ∧ args.length ≤ x.nt ∧ (∀ y ∈ x.hints, (inH (E.isG f) H).length ≤ y.2.2) ∧ aexec (E.box x.bxs x.gal x.tak) (acall E fx n) x.hints (instShs (instOf args) x.shs) x.hds (n + 1) x.body (kEnd E (inH (E.isG f) H).length x.res) ⟨argFr 0 args, inH (E.isG f) H, inG (E.isG f) H⟩ = some (v, H') := fun f args H v H' h => by
   simp only [acall] at h
   split at h
   · cases h
   · rename_i x hx
     cases hle : Nat.ble args.length x.nt && x.hints.all (fun h => Nat.ble (inH (E.isG f) H).length h.2.2) with
     | false => rw [hle] at h; cases h
     | true =>
      rw [hle] at h
      rw [Bool.and_eq_true, List.all_eq_true] at hle
      exact ⟨x, hx, Nat.le_of_ble_eq_true hle.1, fun y hy => Nat.le_of_ble_eq_true (hle.2 y hy), h⟩
  refine ⟨fun f args H v H' h g D w vals hI hl hB hO hDb hDo hGI hA => ?_, fun f args H v H' h => ?_⟩
  · obtain ⟨x, hx, hle, hh, hr⟩ := inv f args H v H' h
    obtain ⟨fn, h1, h2, h3, h4, h5, _⟩ := (hF f x hx).ex
    have hlen : vals.length = args.length := hA.get.symm
    refine calls_of_wp h1 h2 ?_
    let B : Base := ⟨w, g.M, D, x.nt, g.bx, E.isG f, hI⟩
    have S : Sim P B g ⟨argFr 0 args, inH (E.isG f) H, inG (E.isG f) H⟩ { tmps := vals.toArray ++ Array.replicate (fn.ntmps - vals.toArray.size) undef, defers := [] } w := by
     refine ⟨fun s u hs => ?_, ?_, rfl, hl, hB, hO, ⟨rfl, rfl, rfl, Nat.le_refl _, fun k _ _ => rfl, Kp.refl _ _, fun _ _ _ _ h => h⟩, fun blk hb => .inl (hDb blk hb), fun L v b h hb => .inl (hDo L v b h hb), List.prefix_refl _, ?_⟩
     · obtain ⟨_, h6⟩ := lk_arg args 0 s u hs
       obtain ⟨b, h7, h8⟩ := hA.at s u (by simpa using h6)
       have hs2 : s < vals.length := (List.getElem?_eq_some_iff.1 h7).1
       have : (vals.toArray ++ Array.replicate (fn.ntmps - vals.toArray.size) undef).getD s undef = b := by
        rw [Array.getD_eq_getD_getElem?, Array.getElem?_append_left (by simpa using hs2)]
        simp [h7]
       rw [this]; exact h8
     · simp only [Array.size_append, Array.size_replicate, List.size_toArray, B]
       omega
     · show GkOk P B g (inG (E.isG f) H) w
       unfold GIn at hGI
       have hb : B.gm = E.isG f := rfl
       cases hg : E.isG f with
       | false => exact ⟨hb.trans hg, rfl, rfl⟩
       | true =>
        obtain ⟨q1, q2⟩ := hGI hg
        exact ⟨hb.trans hg, q1, fun b hp => .inl (q2 b hp)⟩
    refine wp_mono (code_sound (hE.box x.bxs x.gal x.tak) (ih.box x.bxs x.gal x.tak) hfol (B := B) x.body h5 (fun y hy => by show g.bx.length ≤ _; rw [hB.len]; exact hh y hy) S hr) fun e a' w' hk => ?_
    obtain ⟨e', he, g', st', S', hk⟩ := hk
    obtain ⟨hor, hH, u, h6, h7⟩ := end_sound hE S' h3 hk
    have fin : a'.defers = [] ∧ ∃ v_1, (results fn a'.tmps).run P w' = .ok v_1 w' ∧ ∃ u g' B fr HH GG a', Ending.returned v_1 = .returned u ∧ B.w0 = w ∧ B.M0 = g.M ∧ B.D = D ∧ B.bx0 = g.bx ∧ B.gm = E.isG f ∧ Sim P B g' ⟨fr, HH, GG⟩ a' w' ∧ Rv g' w' u v ∧ H' = outH (inH (E.isG f) H).length HH GG :=
     ⟨S'.defers, u, h6, u, g', B, st'.fr, st'.H, st'.G, a', rfl, rfl, rfl, rfl, rfl, rfl, S', h7, hH⟩
    rcases hor with rfl | rfl <;> subst he <;> exact fin
  · obtain ⟨x, hx, _, _, _⟩ := inv f args H v H' h
    obtain ⟨fn, h1, h2, _, _, _, h6⟩ := (hF f x hx).ex
    exact ⟨fn, h1, by rw [h2]; rfl, h6⟩
end AX
end Go.Proofs.YtnkppakkeobegaaGreatDoor
