/-
  LwNum, LwSplit, ReplyAtoi.
-/
import Derived.Test.YtnkppakkeobegaaGreatDoorZP28
import Derived.Test.YtnkppakkeobegaaGreatDoorZP29
import Derived.Lib.AtoiAll
import Derived.Lib.AtoiTie
import Derived.Lib.ItoaMem
import Derived.Lib.Split
import Derived.Test.YtnkppakkeobegaaGreatDoorZP12
set_option maxRecDepth 20000
set_option linter.unusedVariables false
set_option linter.unusedSimpArgs false
set_option linter.unusedSectionVars false
namespace Go.Proofs.YtnkppakkeobegaaGreatDoor
open Go.ChangeShapes Go.WideShapes Go.ChangeAt Go.RowKit
namespace AX
end AX
end Go.Proofs.YtnkppakkeobegaaGreatDoor
set_option maxRecDepth 20000
set_option linter.unusedVariables false
set_option linter.unusedSimpArgs false
set_option linter.unusedSectionVars false
namespace Go.Proofs.YtnkppakkeobegaaGreatDoor
open Go.ChangeShapes Go.WideShapes Go.ChangeAt Go.RowKit
namespace AX
theorem lp_splitB (s sep : ByteArray) : Lib.splitB sep 0 (Lib.countB s sep) s = (Lib.split s.data.toList sep.data.toList).map fun x => ⟨x.toArray⟩ := by
 have h := Lib.splitB_data sep 0 (Lib.countB s sep) s
 have h2 : Lib.split s.data.toList sep.data.toList = (Lib.splitB sep 0 (Lib.countB s sep) s).map (·.data.toList) := h.symm
 rw [h2, List.map_map]
 conv => lhs; rw [← List.map_id (Lib.splitB sep 0 (Lib.countB s sep) s)]
 exact List.map_congr_left fun _ _ => rfl
theorem pSplit_ok : PrimOk Tryz.prog 112 pSplit := by
 refine ⟨fun args v h M w vals hI hl hA => ?_, ⟨Tryz.f112, by kernel_rfl, by kernel_rfl, of_decide_eq_true (by kernel_rfl)⟩⟩
 unfold pSplit at h
 split at h
 · rename_i l c
   obtain ⟨hd, rfl⟩ := bif_some h
   have hd := of_decide_eq_true hd
   obtain ⟨x, y, rfl, hx, hy⟩ := hA.two
   obtain rfl := Rc.str_inv hx
   obtain rfl := Rc.str_inv hy
   have hW : LibAt w := hI
   obtain ⟨m, hm⟩ := hW.max
   have hs := lp_splitB ⟨l.toArray⟩ ⟨#[c]⟩
   have hlen := Lib.splitB_all ⟨#[c]⟩ (Nat.le_refl 1) 0 _ (⟨l.toArray⟩ : ByteArray) rfl
   rw [hs, List.length_map] at hlen
   have hsp : Lib.split (⟨l.toArray⟩ : ByteArray).data.toList (⟨#[c]⟩ : ByteArray).data.toList = Lib.split l [c] := by simp
   rw [hsp] at hs hlen
   obtain ⟨M', hG, hR⟩ := alloc_strs (t := 9) hl (Lib.split l [c])
   refine (Tryz.strings_Split ⟨l.toArray⟩ ⟨#[c]⟩ m w (by show l.toArray.size < _; rw [List.size_toArray]; omega) hm (Nat.le_refl 1)).mono fun e w' ⟨h1, h2⟩ => ?_
   rw [hs, List.map_map] at h2
   rw [← hlen] at h1
   subst h2
   exact ⟨_, M', h1, hG, .data hR⟩
 · cases h
theorem lp_drewN (n : Nat) (X : World) : Below X.heap.size X (X.drewN n) := by
 induction n with
 | zero => exact Below.refl _ _
 | succ n ih => exact ih.drew
theorem pCut_ok : PrimOk Tryz.prog 102 pCut := by
 refine ⟨fun args v h M w vals hI hl hA => ?_, ⟨Tryz.f102, by kernel_rfl, by kernel_rfl, of_decide_eq_true (by kernel_rfl)⟩⟩
 unfold pCut at h
 split at h
 · rename_i l sep
   obtain ⟨hd, rfl⟩ := bif_some h
   have hd := of_decide_eq_true hd
   obtain ⟨x, y, rfl, hx, hy⟩ := hA.two
   obtain rfl := Rc.str_inv hx
   obtain rfl := Rc.str_inv hy
   have hW : LibAt w := hI
   obtain ⟨m, hm⟩ := hW.max
   refine (Tryz.strings_Cut ⟨l.toArray⟩ ⟨sep.toArray⟩ m w (by show l.toArray.size < _; rw [List.size_toArray]; omega) hm).mono fun e w' ⟨h1, n, h2⟩ => ⟨_, M, h1, same_grow hl ?_, three_rv (.data (.str _)) (.data (.str _)) (.data (.bool _))⟩
   subst h2
   exact lp_drewN _ _
 · cases h
end AX
end Go.Proofs.YtnkppakkeobegaaGreatDoor
set_option maxRecDepth 20000
set_option linter.unusedVariables false
set_option linter.unusedSimpArgs false
set_option linter.unusedSectionVars false
namespace Go.Proofs.YtnkppakkeobegaaGreatDoor
open Go.ChangeShapes Go.WideShapes Go.ChangeAt Go.RowKit
theorem bytesWorld_or {w w' : World} {e : TypeId} (h : w' = w ∨ ∃ t, w' = Lib.bytesWorld w e t) : Below w.heap.size w w' := by
 rcases h with rfl | ⟨t, rfl⟩
 · exact Below.refl _ _
 · exact Lib.bytesWorld_below _ _ _
theorem atoi_ok {l : List UInt8} {v : Int} (h : Lib.atoiAll l = .ok v) (hl : l.length ≤ 100000000) (w : World) :
 Calls Tryz.prog 113 #[.string ⟨l.toArray⟩] w fun e w' => e = .returned (.tuple #[.int .i64 v, .nilIface]) ∧ Below w.heap.size w w' :=
 (Tryz.strconv_Atoi_ok ⟨l.toArray⟩ (by show l.toArray.size ≤ _; rw [List.size_toArray]; omega) v h w).mono fun _ _ ⟨h1, h2⟩ => ⟨h1, bytesWorld_or h2⟩
theorem atoi_no {l : List UInt8} (h : ∀ v, Lib.atoiAll l ≠ .ok v) (hl : l.length ≤ 100000000) {w : World} (hw : LibAt w) :
 Calls Tryz.prog 113 #[.string ⟨l.toArray⟩] w fun e w' => ∃ v t p, e = .returned (.tuple #[.int .i64 v, .iface t p]) ∧ Below w.heap.size w w' := by
 have hlim : (⟨l.toArray⟩ : ByteArray).size ≤ 281474976710656 := by show l.toArray.size ≤ _; rw [List.size_toArray]; omega
 rcases hx : Lib.atoiAll l with v | _ | _
 · exact absurd hx (h v)
 · obtain ⟨ev, h1, h2⟩ := hw.syn
   exact (Any.strconv_Atoi_syntax Tryz.laysC172 ⟨l.toArray⟩ hlim hx ev w h1 h2).mono fun _ _ ⟨N, h3, _, _, h4⟩ => ⟨_, _, _, h3, h4⟩
 · obtain ⟨ev, h1, h2⟩ := hw.rng
   exact (Tryz.strconv_Atoi_range ⟨l.toArray⟩ hlim hx ev w h1 h2).mono fun _ _ ⟨N, h3, _, _, h4⟩ => ⟨_, _, _, h3, h4⟩
theorem itoa_below {w w' : World} (h : ∃ k os, w' = Go.Sort.grow (w.drewN k) os) : Below w.heap.size w w' := by
 obtain ⟨k, os, rfl⟩ := h
 exact Lib.below_grow _ w (Nat.le_refl _) k os
theorem itoa_calls (n : Int) (h0 : -9223372036854775808 ≤ n) (h1 : n ≤ 9223372036854775807) {w : World} (hw : LibAt w) :
 Calls Tryz.prog 81 #[.int .i64 n] w fun e w' => e = .returned (.string ⟨(Lib.itoa n).toArray⟩) ∧ Below w.heap.size w w' :=
 (Tryz.strconv_Itoa n h0 h1 w hw.pow).mono fun _ _ ⟨h2, h3⟩ => ⟨h2, itoa_below h3⟩
theorem splitB_list (s sep : ByteArray) : Lib.splitB sep 0 (Lib.countB s sep) s = (Lib.split s.data.toList sep.data.toList).map fun x => ⟨x.toArray⟩ := by
 have h := Lib.splitB_data sep 0 (Lib.countB s sep) s
 have h2 : Lib.split s.data.toList sep.data.toList = (Lib.splitB sep 0 (Lib.countB s sep) s).map (·.data.toList) := h.symm
 rw [h2, List.map_map]
 conv => lhs; rw [← List.map_id (Lib.splitB sep 0 (Lib.countB s sep) s)]
 exact List.map_congr_left fun _ _ => rfl
theorem splitPt_calls (l : List UInt8) (c : UInt8) (hl : l.length ≤ 100000000) {w : World} (hw : LibAt w) :
 Calls Tryz.prog 112 #[.string ⟨l.toArray⟩, .string ⟨#[c]⟩] w fun e w' =>
  e = .returned (.slice (some ⟨w.heap.size, 0, none⟩) (Lib.split l [c]).length (Lib.split l [c]).length) ∧
  w' = w.alloc (.cells ((Lib.split l [c]).map fun x => Value.string ⟨x.toArray⟩).toArray 9) := by
 obtain ⟨m, hm⟩ := hw.max
 have hs := splitB_list ⟨l.toArray⟩ ⟨#[c]⟩
 have hlen := Lib.splitB_all ⟨#[c]⟩ (Nat.le_refl 1) 0 _ (⟨l.toArray⟩ : ByteArray) rfl
 rw [hs, List.length_map] at hlen
 refine (Tryz.strings_Split ⟨l.toArray⟩ ⟨#[c]⟩ m w (by show l.toArray.size < _; rw [List.size_toArray]; omega) hm (Nat.le_refl 1)).mono fun e w' ⟨h1, h2⟩ => ⟨?_, ?_⟩
 · rw [h1, ← hlen]
 · rw [h2, hs, List.map_map]; rfl
end Go.Proofs.YtnkppakkeobegaaGreatDoor
