/-
  Layer 06: great or small letters of the verb, of FROM and TO: the plain law.
-/
import Derived.Test.YtfbicbgdfcbhpaaDoorCmPar
set_option maxRecDepth 20000
set_option linter.unusedVariables false
set_option linter.unusedSimpArgs false
set_option linter.unusedSectionVars false
namespace Go.Proofs.YtfbicbgdfcbhpaaDoor
open SC AX
namespace CM
theorem upL_len (l : List UInt8) : (upL l).length = l.length := List.length_map ..
theorem printC_up (c : UInt8) : printC (upC c) = printC c := by
  rw [Bool.eq_iff_iff, printC_iff, printC_iff, upC_print]
theorem printL_up : ∀ l : List UInt8, printL (upL l) = printL l
  | [] => rfl
  | c :: r => by
    show printL (upC c :: upL r) = _
    rw [printL_cons, printL_cons, printC_up, printL_up r]
theorem cut_parts (l : List UInt8) : Lib.cut l [32] = (l.take (Lib.cut l [32]).1.length, l.drop ((Lib.cut l [32]).1.length + 1), decide ((Lib.cut l [32]).1.length < l.length)) := by
  rcases hit_cases 32 l with h | ⟨a, b, rfl, h⟩
  · rw [cut_no h]; simp
  · rw [cut_hit a b h]; simp
theorem cut_up (l : List UInt8) : (Lib.cut (upL l) [32]).1.length = (Lib.cut l [32]).1.length := by
  rcases hit_cases 32 l with h | ⟨a, b, rfl, h⟩
  · rw [cut_no h, cut_no fun x hx => by
      obtain ⟨y, hy, rfl⟩ := List.mem_map.1 hx
      exact fun e => h y hy ((upC_other y 32 (.inl rfl)).1 e)]
    exact upL_len l
  · have e : upL (a ++ 32 :: b) = upL a ++ 32 :: upL b := by
      show List.map upC (a ++ 32 :: b) = _
      rw [List.map_append, List.map_cons]; rfl
    rw [e, cut_hit a b h, cut_hit (upL a) (upL b) fun x hx => by
      obtain ⟨y, hy, rfl⟩ := List.mem_map.1 hx
      exact fun e => h y hy ((upC_other y 32 (.inl rfl)).1 e)]
    exact upL_len a
def verbalQ (l : List UInt8) (i : Nat) : Bool := if (Lib.cut l [32]).1.length < i then decide (verbQ (Lib.cut l [32]).1 = 4 ∨ verbQ (Lib.cut l [32]).1 = 5) else true
/-- letters that stand in the verb, or in FROM or TO, may be turned -/
structure Flip (l c : List UInt8) : Prop where
  up : upL c = upL l
  keep : ∀ p : Nat, c[p]? ≠ l[p]? → (∀ q : Nat, q ≤ p → l[q]? ≠ some 58) ∧ verbalQ l p = true
theorem Flip.refl (l : List UInt8) : Flip l l := ⟨rfl, fun p h => absurd rfl h⟩
theorem Flip.len {l c : List UInt8} (h : Flip l c) : c.length = l.length := by
  have := congrArg List.length h.up
  rwa [upL_len, upL_len] at this
theorem Flip.at {l c : List UInt8} (h : Flip l c) {p : Nat} (h1 : p < c.length) (h2 : p < l.length) : upC c[p] = upC l[p] := by
  have h3 : (upL c)[p]? = (upL l)[p]? := by rw [h.up]
  unfold upL at h3
  rw [List.getElem?_map, List.getElem?_map, List.getElem?_eq_getElem h1, List.getElem?_eq_getElem h2] at h3
  simpa using h3
theorem Flip.colon {l c : List UInt8} (h : Flip l c) {p : Nat} (h1 : p < c.length) (hne : c[p] ≠ 58) : l[p]? ≠ some 58 := by
  have h2 : p < l.length := by rw [← h.len]; exact h1
  have := h.at h1 h2
  rw [List.getElem?_eq_getElem h2]
  intro e
  have e : l[p] = 58 := by simpa using e
  rw [e] at this
  exact hne ((upC_other c[p] 58 (.inr rfl)).1 this)
theorem Flip.set {l c : List UInt8} (h : Flip l c) {p : Nat} (h1 : p < c.length) (hne : c[p] ≠ 58) (hq : ∀ q : Nat, q < p → l[q]? ≠ some 58) (hv : verbalQ l p = true) {x : UInt8} (hx : upC x = upC c[p]) : Flip l (c.set p x) := by
  refine ⟨?_, fun q hd => ?_⟩
  · rw [← h.up]
    show List.map upC (c.set p x) = List.map upC c
    rw [List.map_set, hx]
    apply List.ext_getElem?
    intro i
    by_cases e : i = p
    · subst e
      rw [List.getElem?_set_self (by simpa using h1), List.getElem?_map, List.getElem?_eq_getElem h1]; rfl
    · rw [List.getElem?_set_ne (fun e2 => e e2.symm)]
  · by_cases e : q = p
    · subst e
      refine ⟨fun r hr => ?_, hv⟩
      rcases Nat.lt_or_ge r q with hr2 | hr2
      · exact hq r hr2
      · obtain rfl : r = q := by omega
        exact h.colon h1 hne
    · rw [List.getElem?_set_ne (fun e2 => e e2.symm)] at hd
      exact h.keep q hd
theorem pathQ_congr {c : S_api_Cmd} {r r' front : List UInt8} {null : Bool} (h1 : r'.length = r.length) (h2 : upL (r'.take front.length) = upL (r.take front.length)) (h3 : upL (r.take front.length) = front → r'.drop front.length = r.drop front.length) :
    pathQ c r' front null = pathQ c r front null := by
  unfold pathQ
  rw [h1, h2]
  by_cases h : r.length < front.length ∨ upL (r.take front.length) ≠ front
  · rw [if_pos h, if_pos h]
  · rw [if_neg h, if_neg h, h3 (by
      by_cases e : upL (r.take front.length) = front
      · exact e
      · exact absurd (.inr e) h)]
theorem flip_path {l c : List UInt8} (hF : Flip l c) {k : Nat} {x : S_api_Cmd} {f : List UInt8} {null : Bool} : pathQ x (c.drop k) (f ++ [58]) null = pathQ x (l.drop k) (f ++ [58]) null := by
  have hl := hF.len
  refine pathQ_congr (by simp [hl]) ?_ fun he => ?_
  · have := congrArg (fun z => (z.drop k).take (f ++ [58]).length) hF.up
    unfold upL at this ⊢
    rw [List.map_take, List.map_take, List.map_drop, List.map_drop]
    exact this
  · apply List.ext_getElem?
    intro i
    rw [List.getElem?_drop, List.getElem?_drop, List.getElem?_drop, List.getElem?_drop]
    by_cases hd : c[k + ((f ++ [58]).length + i)]? = l[k + ((f ++ [58]).length + i)]?
    · exact hd
    · refine absurd ?_ ((hF.keep _ hd).1 (k + f.length) (by simp; omega))
      have h4 : (upL ((l.drop k).take (f ++ [58]).length))[f.length]? = some 58 := by rw [he]; simp
      unfold upL at h4
      rw [List.getElem?_map, List.getElem?_take, if_pos (by simp), List.getElem?_drop] at h4
      cases hx : l[k + f.length]? with
      | none => rw [hx] at h4; cases h4
      | some y =>
        rw [hx] at h4
        have : upC y = 58 := by simpa using h4
        rw [(upC_other y 58 (.inr rfl)).1 this]
theorem flip_parse {l c : List UInt8} (hF : Flip l c) : parseQ c = parseQ l := by
  have hl := hF.len
  have hp : printL c = printL l := by rw [← printL_up c, hF.up, printL_up]
  unfold parseQ
  rw [hl, hp]
  by_cases h : 510 < l.length ∨ printL l = false
  · rw [if_pos h, if_pos h]
  · rw [if_neg h, if_neg h]
    have hk : (Lib.cut c [32]).1.length = (Lib.cut l [32]).1.length := by rw [← cut_up c, hF.up, cut_up]
    have hv : verbQ (Lib.cut c [32]).1 = verbQ (Lib.cut l [32]).1 := by
      have e1 : (Lib.cut c [32]).1 = c.take (Lib.cut c [32]).1.length := congrArg Prod.fst (cut_parts c)
      have e2 : (Lib.cut l [32]).1 = l.take (Lib.cut l [32]).1.length := congrArg Prod.fst (cut_parts l)
      rw [e1, e2, hk]
      unfold verbQ upL
      rw [List.map_take, List.map_take]
      have := hF.up
      unfold upL at this
      rw [this]
    have hr : (Lib.cut c [32]).2.1 = c.drop ((Lib.cut l [32]).1.length + 1) := by rw [← hk]; exact congrArg (fun z => z.2.1) (cut_parts c)
    have hr2 : (Lib.cut l [32]).2.1 = l.drop ((Lib.cut l [32]).1.length + 1) := congrArg (fun z => z.2.1) (cut_parts l)
    have hb : (Lib.cut c [32]).2.2 = (Lib.cut l [32]).2.2 := by
      have e1 : (Lib.cut c [32]).2.2 = decide ((Lib.cut c [32]).1.length < c.length) := congrArg (fun z => z.2.2) (cut_parts c)
      have e2 : (Lib.cut l [32]).2.2 = decide ((Lib.cut l [32]).1.length < l.length) := congrArg (fun z => z.2.2) (cut_parts l)
      rw [e1, e2, hk, hl]
    rw [hv, hr, hr2, hb]
    congr 1
    by_cases h45 : verbQ (Lib.cut l [32]).1 = 4 ∨ verbQ (Lib.cut l [32]).1 = 5
    · rcases h45 with h4 | h5
      · rw [h4]
        exact flip_path (f := [70, 82, 79, 77]) hF
      · rw [h5]
        exact flip_path (f := [84, 79]) hF
    · have e : c.drop ((Lib.cut l [32]).1.length + 1) = l.drop ((Lib.cut l [32]).1.length + 1) := by
        apply List.ext_getElem?
        intro i
        rw [List.getElem?_drop, List.getElem?_drop]
        by_cases hd : c[(Lib.cut l [32]).1.length + 1 + i]? = l[(Lib.cut l [32]).1.length + 1 + i]?
        · exact hd
        · have := (hF.keep _ hd).2
          unfold verbalQ at this
          rw [if_pos (by omega), decide_eq_true_eq] at this
          exact absurd this h45
      rw [e]
end CM
end Go.Proofs.YtfbicbgdfcbhpaaDoor
