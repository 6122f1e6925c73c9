/-
  LwNum, LwSplit.
-/
import Derived.Test.YtnkppakkeobegaaGreatDoorZM32
import Derived.Test.YtnkppakkeobegaaGreatDoorZM33
import Derived.Lib.AtoiAll
import Derived.Lib.AtoiTie
import Derived.Lib.ItoaMem
import Derived.Lib.Split
set_option maxRecDepth 20000
set_option linter.unusedVariables false
set_option linter.unusedSimpArgs false
set_option linter.unusedSectionVars false
namespace Go.Proofs.YtnkppakkeobegaaGreatDoor
open Go.ChangeShapes Go.WideShapes Go.ChangeAt Go.RowKit
namespace AX
end AX
end Go.Proofs.YtnkppakkeobegaaGreatDoor
set_option maxRecDepth 20000
set_option linter.unusedVariables false
set_option linter.unusedSimpArgs false
set_option linter.unusedSectionVars false
namespace Go.Proofs.YtnkppakkeobegaaGreatDoor
open Go.ChangeShapes Go.WideShapes Go.ChangeAt Go.RowKit
namespace AX
theorem lp_splitB (s sep : ByteArray) : Lib.splitB sep 0 (Lib.countB s sep) s = (Lib.split s.data.toList sep.data.toList).map fun x => ⟨x.toArray⟩ := by
 have h := Lib.splitB_data sep 0 (Lib.countB s sep) s
 have h2 : Lib.split s.data.toList sep.data.toList = (Lib.splitB sep 0 (Lib.countB s sep) s).map (·.data.toList) := h.symm
 rw [h2, List.map_map]
 conv => lhs; rw [← List.map_id (Lib.splitB sep 0 (Lib.countB s sep) s)]
 exact List.map_congr_left fun _ _ => rfl
theorem pSplit_ok : PrimOk Tryz.prog 112 pSplit := by
 refine ⟨fun args v h M w vals hI hl hA => ?_, ⟨Tryz.f112, by kernel_rfl, by kernel_rfl, of_decide_eq_true (by kernel_rfl)⟩⟩
 unfold pSplit at h
 split at h
 · rename_i l c
   obtain ⟨hd, rfl⟩ := bif_some h
   have hd := of_decide_eq_true hd
   obtain ⟨x, y, rfl, hx, hy⟩ := hA.two
   obtain rfl := Rc.str_inv hx
   obtain rfl := Rc.str_inv hy
   have hW : LibAt w := hI
   obtain ⟨m, hm⟩ := hW.max
   have hs := lp_splitB ⟨l.toArray⟩ ⟨#[c]⟩
   have hlen := Lib.splitB_all ⟨#[c]⟩ (Nat.le_refl 1) 0 _ (⟨l.toArray⟩ : ByteArray) rfl
   rw [hs, List.length_map] at hlen
   have hsp : Lib.split (⟨l.toArray⟩ : ByteArray).data.toList (⟨#[c]⟩ : ByteArray).data.toList = Lib.split l [c] := by simp
   rw [hsp] at hs hlen
   obtain ⟨M', hG, hR⟩ := alloc_strs (t := 9) hl (Lib.split l [c])
   refine (Tryz.strings_Split ⟨l.toArray⟩ ⟨#[c]⟩ m w (by show l.toArray.size < _; rw [List.size_toArray]; omega) hm (Nat.le_refl 1)).mono fun e w' ⟨h1, h2⟩ => ?_
   rw [hs, List.map_map] at h2
   rw [← hlen] at h1
   subst h2
   exact ⟨_, M', h1, hG, .data hR⟩
 · cases h
theorem lp_drewN (n : Nat) (X : World) : Below X.heap.size X (X.drewN n) := by
 induction n with
 | zero => exact Below.refl _ _
 | succ n ih => exact ih.drew
theorem pCut_ok : PrimOk Tryz.prog 102 pCut := by
 refine ⟨fun args v h M w vals hI hl hA => ?_, ⟨Tryz.f102, by kernel_rfl, by kernel_rfl, of_decide_eq_true (by kernel_rfl)⟩⟩
 unfold pCut at h
 split at h
 · rename_i l sep
   obtain ⟨hd, rfl⟩ := bif_some h
   have hd := of_decide_eq_true hd
   obtain ⟨x, y, rfl, hx, hy⟩ := hA.two
   obtain rfl := Rc.str_inv hx
   obtain rfl := Rc.str_inv hy
   have hW : LibAt w := hI
   obtain ⟨m, hm⟩ := hW.max
   refine (Tryz.strings_Cut ⟨l.toArray⟩ ⟨sep.toArray⟩ m w (by show l.toArray.size < _; rw [List.size_toArray]; omega) hm).mono fun e w' ⟨h1, n, h2⟩ => ⟨_, M, h1, same_grow hl ?_, three_rv (.data (.str _)) (.data (.str _)) (.data (.bool _))⟩
   subst h2
   exact lp_drewN _ _
 · cases h
end AX
end Go.Proofs.YtnkppakkeobegaaGreatDoor
