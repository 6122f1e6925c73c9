/-
  DsnPure, CopyN.
-/
import Derived.Test.YteahkgbnfbjkhaaGreatDoorRe00
import Derived.Lib.IndexMore
import Derived.Lib.Index
import Derived.Test.YteahkgbnfbjkhaaGreatDoorRe08
import Derived.Laws.CopyRow
import Derived.Laws.CopyOwn
import Derived.Laws.MakeOwn
set_option maxRecDepth 20000
set_option linter.unusedVariables false
set_option linter.unusedSimpArgs false
set_option linter.unusedSectionVars false
namespace Go.Proofs.YteahkgbnfbjkhaaGreatDoor
def stripC : List UInt8 → List UInt8
 | [] => []
 | [c] => [c]
 | c :: d :: r => if c = 13 ∧ d = 10 then stripC r else c :: stripC (d :: r)
def cutAll : Nat → List UInt8 → List UInt8
 | 0, l => l
 | n + 1, l => l.take (Lib.index l [13, 10]).toNat ++ cutAll n (l.drop ((Lib.index l [13, 10]).toNat + 2))
theorem idx_cons2 (c d : UInt8) (r : List UInt8) : Lib.index (c :: d :: r) [13, 10] = if c = 13 ∧ d = 10 then 0 else (if Lib.index (d :: r) [13, 10] = -1 then -1 else Lib.index (d :: r) [13, 10] + 1) := by
 rw [Lib.index]
 by_cases h : c = 13 ∧ d = 10
 · obtain ⟨rfl, rfl⟩ := h
   simp [List.isPrefixOf]
 · have hp : ([13, 10] : List UInt8).isPrefixOf (c :: d :: r) = false := by
    simp only [List.isPrefixOf, Bool.and_true, Bool.and_eq_false_iff, beq_eq_false_iff_ne]
    by_cases hc : c = 13
    · right; intro e; exact h ⟨hc, e.symm⟩
    · left; intro e; exact hc e.symm
   rw [if_neg (by rw [hp]; simp), if_neg h]
   simp only [beq_iff_eq]
theorem idx_one (c : UInt8) : Lib.index [c] [13, 10] = -1 := by simp [Lib.index, List.isPrefixOf]
theorem idx_nil : Lib.index [] [13, 10] = -1 := by rfl
theorem idx_room : ∀ l : List UInt8, Lib.index l [13, 10] ≠ -1 → 0 ≤ Lib.index l [13, 10] ∧ (Lib.index l [13, 10]).toNat + 2 ≤ l.length
 | [], h => absurd idx_nil h
 | [c], h => absurd (idx_one c) h
 | c :: d :: r, h => by
  rw [idx_cons2] at h ⊢
  by_cases hc : c = 13 ∧ d = 10
  · rw [if_pos hc] at h ⊢; simp
  · rw [if_neg hc] at h ⊢
    by_cases h1 : Lib.index (d :: r) [13, 10] = -1
    · rw [if_pos h1] at h; exact absurd rfl h
    · rw [if_neg h1] at h ⊢
      have := idx_room (d :: r) h1
      simp only [List.length_cons] at *
      omega
theorem strip_none : ∀ l : List UInt8, Lib.index l [13, 10] = -1 → stripC l = l
 | [], _ => rfl
 | [c], _ => rfl
 | c :: d :: r, h => by
  rw [idx_cons2] at h
  by_cases hc : c = 13 ∧ d = 10
  · rw [if_pos hc] at h; cases h
  · rw [if_neg hc] at h
    rw [stripC, if_neg hc]
    by_cases h1 : Lib.index (d :: r) [13, 10] = -1
    · rw [strip_none _ h1]
    · rw [if_neg h1] at h
      have := idx_room _ h1
      omega
theorem strip_some : ∀ l : List UInt8, Lib.index l [13, 10] ≠ -1 → stripC l = l.take (Lib.index l [13, 10]).toNat ++ stripC (l.drop ((Lib.index l [13, 10]).toNat + 2))
 | [], h => absurd idx_nil h
 | [c], h => absurd (idx_one c) h
 | c :: d :: r, h => by
  rw [idx_cons2] at h ⊢
  by_cases hc : c = 13 ∧ d = 10
  · rw [if_pos hc, stripC, if_pos hc]; rfl
  · rw [if_neg hc] at h ⊢
    by_cases h1 : Lib.index (d :: r) [13, 10] = -1
    · rw [if_pos h1] at h; exact absurd rfl h
    · have h2 := idx_room _ h1
      rw [if_neg h1, stripC, if_neg hc, strip_some _ h1]
      obtain ⟨k, hk⟩ : ∃ k : Nat, Lib.index (d :: r) [13, 10] = (k : Int) := ⟨_, (Int.toNat_of_nonneg h2.1).symm⟩
      rw [hk, show ((k : Int) + 1).toNat = k + 1 by omega, Int.toNat_natCast, List.take_succ_cons, List.cons_append]
      rfl
theorem count_succ {l : List UInt8} {n : Nat} : ∀ {f : Nat}, l.length < f → Lib.countFrom [13, 10] f l = n + 1 → Lib.index l [13, 10] ≠ -1 ∧ Lib.countFrom [13, 10] f (l.drop ((Lib.index l [13, 10]).toNat + 2)) = n
 | 0, h, _ => by omega
 | f + 1, h, e => by
  rw [Lib.countFrom] at e
  by_cases h1 : Lib.index l [13, 10] = -1
  · rw [h1] at e; simp at e
  · refine ⟨h1, ?_⟩
    rw [if_neg (by simpa using h1)] at e
    have e : Lib.countFrom [13, 10] f (l.drop ((Lib.index l [13, 10]).toNat + 2)) = n := by
     have : ([13, 10] : List UInt8).length = 2 := rfl
     rw [this] at e; omega
    have hr := idx_room l h1
    have hstep : ∀ (f : Nat) (m : List UInt8), m.length < f → Lib.countFrom [13, 10] (f + 1) m = Lib.countFrom [13, 10] f m := by
     intro f
     induction f with
     | zero => intro m h; omega
     | succ f ih =>
      intro m hm
      have e1 : ∀ g, Lib.countFrom [13, 10] (g + 1) m = if (Lib.index m [13, 10] == -1) = true then 0 else 1 + Lib.countFrom [13, 10] g (m.drop ((Lib.index m [13, 10]).toNat + ([13, 10] : List UInt8).length)) := fun g => rfl
      rw [e1, e1]
      by_cases h2 : Lib.index m [13, 10] = -1
      · rw [if_pos (by simpa using h2), if_pos (by simpa using h2)]
      · have := idx_room m h2
        rw [if_neg (by simpa using h2), if_neg (by simpa using h2)]
        congr 1
        refine ih _ ?_
        rw [List.length_drop]
        show m.length - ((Lib.index m [13, 10]).toNat + 2) < f
        omega
    rw [hstep f _ (by rw [List.length_drop]; omega)]
    exact e
theorem count_zero {l : List UInt8} {f : Nat} (h : l.length < f) (e : Lib.countFrom [13, 10] f l = 0) : Lib.index l [13, 10] = -1 := by
 cases f with
 | zero => omega
 | succ f =>
  rw [Lib.countFrom] at e
  by_cases h1 : Lib.index l [13, 10] = -1
  · exact h1
  · rw [if_neg (by simpa using h1)] at e; omega
theorem cut_strip : ∀ (n : Nat) (l : List UInt8) (f : Nat), l.length < f → Lib.countFrom [13, 10] f l = n → cutAll n l = stripC l
 | 0, l, f, h, e => (strip_none l (count_zero h e)).symm
 | n + 1, l, f, h, e => by
  obtain ⟨h1, h2⟩ := count_succ h e
  rw [cutAll, strip_some l h1, cut_strip n _ f (by rw [List.length_drop]; omega) h2]
theorem cutAll_len : ∀ (n : Nat) (l : List UInt8) (f : Nat), l.length < f → Lib.countFrom [13, 10] f l = n → (cutAll n l).length + 2 * n = l.length
 | 0, l, f, _, _ => rfl
 | n + 1, l, f, h, e => by
  obtain ⟨h1, h2⟩ := count_succ h e
  have hr := idx_room l h1
  have := cutAll_len n _ f (by rw [List.length_drop]; omega) h2
  rw [cutAll, List.length_append, List.length_take]
  rw [List.length_drop] at this
  omega
end Go.Proofs.YteahkgbnfbjkhaaGreatDoor
set_option maxRecDepth 20000
set_option linter.unusedVariables false
set_option linter.unusedSimpArgs false
set_option linter.unusedSectionVars false
namespace Go.Proofs.YteahkgbnfbjkhaaGreatDoor
open Go.ChangeShapes Go.WideShapes Go.ChangeAt Go.RowKit
section
variable {P : Program}
theorem run_copy_bytes (w : World) (dT sT ty elem : TypeId) (n : Nat) (g o dLen dCap : Nat) (q : Option Addr) (sCap : Nat) (cur : Array Value) (t : TypeId) (L : List UInt8)
 (hu : P.underlying dT = some (.slice elem)) (hs : (P.info? elem).map (·.size) = some 1)
 (hg : w.heap[g]? = some (.cells cur t (0, 0))) (hn : n = Nat.min L.length dLen) (hcl : L.length ≤ dLen)
 (hsrc : BytesAt w q sCap L) (hfit : o + L.length ≤ cur.size) :
 (Builtin.copy_ #[dT, sT] ty #[.slice (some ⟨g, o, none⟩) dLen dCap, .slice q L.length sCap]).run P w =
  .ok (goInt L.length) (w.setRow g (cur.toList.take o ++ Lib.byteCells L ++ cur.toList.drop (o + L.length)).toArray) := by
 have hnl : L.length = n := by rw [hn]; exact (Nat.min_eq_left hcl).symm
 have hlen : (Lib.byteCells L).length = n := by rw [← hnl]; simp [Lib.byteCells]
 have h1 : ∀ v ∈ Lib.byteCells L, v.oneCell' = true := fun v hv => by
  simp only [Lib.byteCells, List.mem_map] at hv
  obtain ⟨c, _, rfl⟩ := hv; rfl
 have hst := run_storeCells_at P g o t (Lib.byteCells L) 0 cur w hg (by simpa [hlen, ← hnl] using hfit) h1
 rw [hlen] at hst
 cases hq : P.info? elem with
 | none => simp [hq] at hs
 | some i =>
  have hi : i.size = 1 := by simpa [hq] using hs
  cases q with
  | none =>
   obtain ⟨rfl, rfl⟩ := hsrc.nil rfl
   simp only [List.length_nil] at hnl
   subst hnl
   rw [List.length_nil]
   rw [Nat.add_zero] at hst
   generalize w.setRow g (cur.toList.take o ++ Lib.byteCells [] ++ cur.toList.drop (o + 0)).toArray = W at hst ⊢
   have hst : (storeCells ⟨g, o, none⟩ []).run P w = .ok () W := hst
   simp [Builtin.copy_, run_underlying hu, Builtin.lenOf, Builtin.firstCells, sizeOf, typeInfo, hq, hi]
   rw [hst]; rfl
  | some a =>
   have hl := run_loadCells_list (P := P) w a (Lib.byteCells L) (fun j u hu => by
    have hj : j < L.length := by have := (List.getElem?_eq_some_iff.1 hu).1; simpa [Lib.byteCells] using this
    obtain ⟨bb, off, e1, e2, e3⟩ := hsrc.cell (by intro e; subst e; simp at hj)
    injection e1 with e1
    subst e1
    rw [Addr.add_lit, e3 j hj]
    simpa [Lib.byteCells, hj] using hu)
   rw [hlen] at hl
   have hn2 : Nat.min n dLen = n := by rw [← hnl]; exact Nat.min_eq_left hcl
   rw [hnl]
   simp [Builtin.copy_, run_underlying hu, Builtin.lenOf, Builtin.firstCells, sizeOf, typeInfo, hq, hi, hn2, hl, hst]
end
end Go.Proofs.YteahkgbnfbjkhaaGreatDoor
