/-
  Go's library for the reckoning: what all its functions' facts lean on.
-/
import Derived.Test.YtfbicbgdfcbhpaaDoorAV24
import Derived.Test.YtfbicbgdfcbhpaaDoorRow4
set_option maxRecDepth 20000
set_option linter.unusedVariables false
set_option linter.unusedSimpArgs false
set_option linter.unusedSectionVars false
namespace Go.Proofs.YtfbicbgdfcbhpaaDoor
open Go.ChangeShapes Go.WideShapes Go.ChangeAt Go.RowKit
namespace AX
instance libInv : Inv := ⟨LibAt, fun _ _ h hb => h.below hb⟩
def baOf (l : List UInt8) : ByteArray := ⟨l.toArray⟩
theorem baOf_size (l : List UInt8) : (baOf l).size = l.length := by show l.toArray.size = _; simp
theorem baOf_list (l : List UInt8) : (baOf l).data.toList = l := by simp [baOf]
theorem ba_list (s : ByteArray) : baOf s.data.toList = s := by cases s; simp [baOf]
theorem four_rv {g : Gh} {w : World} {a b c d : Value} {x y z u : V1} (h1 : Rv1 g w a x) (h2 : Rv1 g w b y) (h3 : Rv1 g w c z) (h4 : Rv1 g w d u) : Rv g w (.tuple #[a, b, c, d]) (.tup [x, y, z, u]) :=
  ⟨_, rfl, rfl, fun i v x hv hx => by
    match i, hv, hx with
    | 0, hv, hx => cases hv; cases hx; exact h1
    | 1, hv, hx => cases hv; cases hx; exact h2
    | 2, hv, hx => cases hv; cases hx; exact h3
    | 3, hv, hx => cases hv; cases hx; exact h4
    | n + 4, hv, _ => simp at hv⟩
theorem two_rv {g : Gh} {w : World} {a b : Value} {x y : V1} (h1 : Rv1 g w a x) (h2 : Rv1 g w b y) : Rv g w (.tuple #[a, b]) (.tup [x, y]) :=
  ⟨_, rfl, rfl, fun i v x hv hx => by
    match i, hv, hx with
    | 0, hv, hx => cases hv; cases hx; exact h1
    | 1, hv, hx => cases hv; cases hx; exact h2
    | n + 2, hv, _ => simp at hv⟩
theorem three_rv {g : Gh} {w : World} {a b c : Value} {x y z : V1} (h1 : Rv1 g w a x) (h2 : Rv1 g w b y) (h3 : Rv1 g w c z) : Rv g w (.tuple #[a, b, c]) (.tup [x, y, z]) :=
  ⟨_, rfl, rfl, fun i v x hv hx => by
    match i, hv, hx with
    | 0, hv, hx => cases hv; cases hx; exact h1
    | 1, hv, hx => cases hv; cases hx; exact h2
    | 2, hv, hx => cases hv; cases hx; exact h3
    | n + 3, hv, _ => simp at hv⟩
theorem same_grow {M : Mem} {w w' : World} (hl : ∀ b j, M b j → b < w.heap.size) (hb : Below w.heap.size w w') : Grow ⟨M, [], fun _ => none⟩ w M w' := ⟨hb, fun _ _ h => h, fun _ _ _ h => h, fun b j h => Nat.lt_of_lt_of_le (hl b j h) hb.size⟩
theorem bif_some {β : Type} {c : Bool} {x r : β} (h : (bif c then some x else none) = some r) : c = true ∧ x = r := by
  cases c with
  | true => exact ⟨rfl, by simpa using h⟩
  | false => cases h
/-- A row of strings at a place. -/
theorem strs_cells {M : Mem} {w : World} {v : Value} {ls : List (List UInt8)} (h : Rd M w v (.sl none 1 (ls.map .str))) (hne : ls ≠ []) : ∃ b off cap, v = .slice (some ⟨b, off, none⟩) ls.length cap ∧ ls.length ≤ cap ∧ b < w.heap.size ∧ ∀ (j : Nat) x, ls[j]? = some x → w.cell? ⟨b, off + j, none⟩ = some (.string (baOf x)) := by
  generalize hcs : ls.map Cell.str = cs at h
  cases h with
  | slN => exact absurd (List.map_eq_nil_iff.1 hcs) hne
  | sl0 => exact absurd (List.map_eq_nil_iff.1 hcs) hne
  | sl b off len cap sz f cs hz hl hle hc hr =>
    subst hcs
    have hlen : len = ls.length := by simpa using hl.symm
    subst hlen
    have hat : ∀ (j : Nat) x, ls[j]? = some x → w.cell? ⟨b, off + j, none⟩ = some (.string (baOf x)) := fun j x hx => by
      have hj : j < ls.length := (List.getElem?_eq_some_iff.1 hx).1
      have h1 := (hc j (by simpa using hj)).2
      have h2 := hr j (.str x) (by simp [hx])
      rw [h1]
      generalize f j = u at h2
      cases h2; rfl
    have h0 : 0 < ls.length := List.length_pos_iff.2 hne
    exact ⟨b, off, cap, rfl, hle, World.block_lt_of_cell? w _ (hat 0 _ (List.getElem?_eq_getElem h0)), hat⟩
/-- A new block of strings. -/
theorem alloc_strs {M : Mem} {w : World} {t : TypeId} (hl : ∀ b j, M b j → b < w.heap.size) (ls : List (List UInt8)) :
    ∃ M', Grow ⟨M, [], fun _ => none⟩ w M' (w.alloc (.cells (ls.map fun x => Value.string ⟨x.toArray⟩).toArray t)) ∧ Rd M' (w.alloc (.cells (ls.map fun x => Value.string ⟨x.toArray⟩).toArray t)) (.slice (some ⟨w.heap.size, 0, none⟩) ls.length ls.length) (.sl none 1 (ls.map .str)) := by
  refine ⟨fun k j => M k j ∨ (k = w.heap.size ∧ j < ls.length), ⟨(Below.refl _ _).alloc (Nat.le_refl _) _, fun _ _ h => .inl h, fun k j hk h => h.elim id fun h => by omega, fun k j h => h.elim (fun h => by have := hl k j h; simp; omega) fun h => by simp; omega⟩, ?_⟩
  refine .sl w.heap.size 0 ls.length ls.length 1 (fun i => (ls.map fun x => Value.string ⟨x.toArray⟩).getD i undef) _ (by decide) (by simp) (Nat.le_refl _) (fun i hi => ⟨.inr ⟨rfl, by simpa using hi⟩, ?_⟩) fun i c hc => ?_
  · have hi' : i < ls.length := by simpa using hi
    rw [Nat.zero_add, World.cell?_alloc_at _ _ _ _ rfl]
    simp [hi', List.getD]
  · have hi' : i < ls.length := by have := (List.getElem?_eq_some_iff.1 hc).1; simpa using this
    simp [hi'] at hc
    subst hc
    simp [List.getD, hi']
    exact .str _
end AX
end Go.Proofs.YtfbicbgdfcbhpaaDoor
