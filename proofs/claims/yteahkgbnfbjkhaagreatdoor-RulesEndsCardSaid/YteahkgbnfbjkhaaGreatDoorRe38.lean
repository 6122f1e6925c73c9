/-
  DsnBuild3.
-/
import Derived.Test.YteahkgbnfbjkhaaGreatDoorRe36
import Derived.Test.YteahkgbnfbjkhaaGreatDoorRe08
set_option maxRecDepth 20000
set_option linter.unusedVariables false
set_option linter.unusedSimpArgs false
set_option linter.unusedSectionVars false
namespace Go.Proofs.YteahkgbnfbjkhaaGreatDoor
open Go.ChangeShapes Go.WideShapes Go.ChangeAt Go.RowKit
noncomputable def outQ (r : Rep11) : Option (List UInt8) := if dgoodB r = true then buildQ (repFields r.host (textS r.toL r.toD) (stampS r.now) (markS r.id (markN r.id r.head))) (repBody r.host (textS r.rcL r.rcD) ⟨r.status.toArray⟩ r.reason r.id (stampS r.came) (markS r.id (markN r.id r.head)) r.head) else none
set_option maxHeartbeats 4000000 in
theorem dbuildAny_calls {w : World} {q : Option Addr} {cap : Nat} (r : Rep11) (hr : r.Small) (ht : r.Tiny) (hb : BytesAt w q cap r.head) (hw : LibAt w) :
 Calls Tryz.prog 20 #[.agg (r.cells q cap)] w (OutPost (outQ r) w) := by
 cases hg : dgoodB r
 · have hq : outQ r = none := by unfold outQ; rw [hg]; rfl
   rw [hq]
   have kg := fun (W : World) (hW : Below w.heap.size w W) => dgood_calls r hr (hb.below hW) (hw.below hW)
   rw [hg] at kg
   replace kg := Lib.hid kg
   have hpost : ∀ w', Below w.heap.size w w' → OutPost none w (.returned (.tuple #[.slice none 0 0, .int .i64 3])) w' := fun w' h => .inl ⟨rfl, rfl, h⟩
   replace hpost := Lib.hid hpost
   clear hb hw hr ht hg hq
   obtain ⟨host, toL, toD, rcL, rcD, status, reason, id, came, now, head⟩ := r
   unfold Rep11.cells at *
   dsimp only at *
   generalize (⟨status.toArray⟩ : ByteArray) = st at *
   go_enter Tryz.func20, Tryz.ntmps20
   go_wp2_with (go_at_call 21; ((with_reducible refine (kg.out _ (by (repeat' (first | (with_reducible exact Below.refl _ _) | (with_reducible refine Below.app ?_ ?_ _ _) | (with_reducible refine Below.alloc ?_ ?_ _) | (with_reducible refine Below.drew ?_) | (with_reducible refine Below.setCell ?_ ?_ _) | (with_reducible assumption) | omega | (simp; omega) | (simp; done))))).mono ?_); rintro r w1 ⟨rfl, hb1⟩; obtain ⟨b1, d1, rfl⟩ := of_below hb1; clear hb1))
   go_returns
   exact hpost.out _ (by (repeat' (first | (with_reducible exact Below.refl _ _) | (with_reducible refine Below.app ?_ ?_ _ _) | (with_reducible refine Below.alloc ?_ ?_ _) | (with_reducible refine Below.drew ?_) | (with_reducible refine Below.setCell ?_ ?_ _) | (with_reducible assumption) | omega | (simp; omega) | (simp; done))))
 · have hq : outQ r = buildQ (repFields r.host (textS r.toL r.toD) (stampS r.now) (markS r.id (markN r.id r.head))) (repBody r.host (textS r.rcL r.rcD) ⟨r.status.toArray⟩ r.reason r.id (stampS r.came) (markS r.id (markN r.id r.head)) r.head) := by unfold outQ; rw [hg]; rfl
   rw [hq]
   exact dbuild_calls r hr ht hb hw hg
end Go.Proofs.YteahkgbnfbjkhaaGreatDoor
