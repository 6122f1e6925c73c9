/-
  LwBase.
-/
import Derived.Test.YtnkppakkeobegaaGreatDoorZC15
import Derived.Test.YtnkppakkeobegaaGreatDoorZC28
set_option maxRecDepth 20000
set_option linter.unusedVariables false
set_option linter.unusedSimpArgs false
set_option linter.unusedSectionVars false
namespace Go.Proofs.YtnkppakkeobegaaGreatDoor
open Go.ChangeShapes Go.WideShapes Go.ChangeAt Go.RowKit
namespace AX
instance libInv : Inv := ⟨LibAt, fun _ _ h hb => h.below hb⟩
theorem baOf_size (l : List UInt8) : (baOf l).size = l.length := by show l.toArray.size = _; simp
theorem baOf_list (l : List UInt8) : (baOf l).data.toList = l := by simp [baOf]
theorem two_rv {g : Gh} {w : World} {a b : Value} {x y : V1} (h1 : Rv1 g w a x) (h2 : Rv1 g w b y) : Rv g w (.tuple #[a, b]) (.tup [x, y]) :=
 ⟨_, rfl, rfl, fun i v x hv hx => by
  match i, hv, hx with
  | 0, hv, hx => cases hv; cases hx; exact h1
  | 1, hv, hx => cases hv; cases hx; exact h2
  | n + 2, hv, _ => simp at hv⟩
theorem three_rv {g : Gh} {w : World} {a b c : Value} {x y z : V1} (h1 : Rv1 g w a x) (h2 : Rv1 g w b y) (h3 : Rv1 g w c z) : Rv g w (.tuple #[a, b, c]) (.tup [x, y, z]) :=
 ⟨_, rfl, rfl, fun i v x hv hx => by
  match i, hv, hx with
  | 0, hv, hx => cases hv; cases hx; exact h1
  | 1, hv, hx => cases hv; cases hx; exact h2
  | 2, hv, hx => cases hv; cases hx; exact h3
  | n + 3, hv, _ => simp at hv⟩
theorem same_grow {M : Mem} {w w' : World} (hl : ∀ b j, M b j → b < w.heap.size) (hb : Below w.heap.size w w') : Grow ⟨M, [], fun _ => none⟩ w M w' := ⟨hb, fun _ _ h => h, fun _ _ _ h => h, fun b j h => Nat.lt_of_lt_of_le (hl b j h) hb.size, rfl, rfl⟩
theorem bif_some {β : Type} {c : Bool} {x r : β} (h : (bif c then some x else none) = some r) : c = true ∧ x = r := by
 cases c with
 | true => exact ⟨rfl, by simpa using h⟩
 | false => cases h
theorem alloc_strs {M : Mem} {w : World} {t : TypeId} (hl : ∀ b j, M b j → b < w.heap.size) (ls : List (List UInt8)) :
 ∃ M', Grow ⟨M, [], fun _ => none⟩ w M' (w.alloc (.cells (ls.map fun x => Value.string ⟨x.toArray⟩).toArray t)) ∧ Rd M' (w.alloc (.cells (ls.map fun x => Value.string ⟨x.toArray⟩).toArray t)) (.slice (some ⟨w.heap.size, 0, none⟩) ls.length ls.length) (.sl none 1 (ls.map .str)) := by
 refine ⟨⟨fun k j => M k j ∨ (k = w.heap.size ∧ j < ls.length), M.gx, M.gw⟩, ⟨(Below.refl _ _).alloc (Nat.le_refl _) _, fun _ _ h => .inl h, fun k j hk h => h.elim id fun h => by omega, fun k j h => h.elim (fun h => by have := hl k j h; simp; omega) fun h => by simp; omega, rfl, rfl⟩, ?_⟩
 refine .sl w.heap.size 0 ls.length ls.length 1 (fun i => (ls.map fun x => Value.string ⟨x.toArray⟩).getD i undef) _ (by decide) (by simp) (Nat.le_refl _) (fun i hi => ⟨.inr ⟨rfl, by simpa using hi⟩, ?_⟩) fun i c hc => ?_
 · have hi' : i < ls.length := by simpa using hi
   rw [Nat.zero_add, World.cell?_alloc_at _ _ _ _ rfl]
   simp [hi', List.getD]
 · have hi' : i < ls.length := by have := (List.getElem?_eq_some_iff.1 hc).1; simpa using this
   simp [hi'] at hc
   subst hc
   simp [List.getD, hi']
   exact .str _
end AX
end Go.Proofs.YtnkppakkeobegaaGreatDoor
