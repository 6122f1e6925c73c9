/-
  AddrBytes, Reader.
-/
import Derived.Test.YtnkppakkeobegaaGreatDoorProg
import Derived.Test.YtnkppakkeobegaaGreatDoorZC14
import Derived.Test.YtnkppakkeobegaaGreatDoorZC30
import Derived.Lib.IndexAny
import Derived.Test.YtnkppakkeobegaaGreatDoorZC01
import Derived.Test.YtnkppakkeobegaaGreatDoorZC02
set_option maxRecDepth 20000
set_option linter.unusedVariables false
set_option linter.unusedSimpArgs false
set_option linter.unusedSectionVars false
namespace Go.Proofs.YtnkppakkeobegaaGreatDoor
open Go.ChangeShapes Go.WideShapes Go.ChangeAt Go.RowKit
theorem digit_calls (c : UInt8) (w : World) : Calls Tryz.prog 95 #[.int .u8 (c.toNat : Int)] w fun r w' => r = .returned (.bool (digitB c)) ∧ w = w' := by
 go_enter Tryz.func95, Tryz.ntmps95
 go_wp2
 all_goals (go_returns; refine ⟨rb ?_, rfl⟩; go_light; unfold digitB; first | (simp; done) | (rw [Bool.eq_iff_iff]; simp; omega))
theorem plain_calls (c : UInt8) (w : World) : Calls Tryz.prog 206 #[.int .u8 (c.toNat : Int)] w fun r w' => r = .returned (.bool (plainB c)) ∧ w = w' := by
 go_enter Tryz.func206, Tryz.ntmps206
 go_wp2
 all_goals (go_returns; refine ⟨rb ?_, rfl⟩; go_light; unfold plainB; first | (simp; done) | (rw [Bool.eq_iff_iff]; simp; omega))
end Go.Proofs.YtnkppakkeobegaaGreatDoor
set_option maxRecDepth 20000
set_option linter.unusedVariables false
set_option linter.unusedSimpArgs false
set_option linter.unusedSectionVars false
namespace Go.Proofs.YtnkppakkeobegaaGreatDoor
open Go.ChangeShapes Go.WideShapes Go.ChangeAt Go.RowKit
theorem getD_lt {s : ByteArray} {n : Nat} (h : n < s.size) : s.data.toList.getD n 0 = s[n] := by simp [List.getD, h]; rfl
theorem getD_ge {s : ByteArray} {n : Nat} (h : s.size ≤ n) : s.data.toList.getD n 0 = 0 := by
 have : s.data[n]? = none := Array.getElem?_eq_none h
 simp [List.getD, this]
set_option maxHeartbeats 1000000 in
theorem next_calls {s : ByteArray} {m : Int} {lg : Bool} {b : Nat} {w : World} (n : Nat) (hm : m = n) (hn : n ≤ s.size) (h : RowIs w b #[.string s, .int .i64 m, .bool lg]) :
 Calls Tryz.prog 65 #[.pointer (some ⟨b, 0, none⟩)] w (After b #[.string s, .int .i64 n, .bool lg] (.returned (.int .u8 ((s.data.toList.getD n 0).toNat : Int))) w) := by
 subst hm
 refine h.lift (fun w0 hI => ?_)
 have hb := hI.lt
 by_cases hlt : n < s.size
 · rw [getD_lt hlt]
   have hne : ¬ (n : Int) = s.size := by omega
   go_enter Tryz.func65, Tryz.ntmps65
   go_wp2
   (apply wp_region_text 10; kernel_rfl; kernel_rfl; intro Fin hFin; (repeat (first | (apply text_run; exact rfl; (focus (intro bs d hF K hK; (repeat rw [app_app] at hK); (repeat rw [app_app]); (repeat rw [Array.append_assoc] at hK); (repeat rw [Array.append_assoc]); go_step; first  | fail  | (refine hK _ ?_; (repeat' (first | (with_reducible exact Below.refl _ _) | (with_reducible refine Below.app ?_ ?_ _ _) | (with_reducible refine Below.alloc ?_ ?_ _) | (with_reducible refine Below.drew ?_) | (with_reducible refine Below.setCell ?_ ?_ _) | (with_reducible assumption) | omega | (simp; omega) | (simp; done)))))); (try simp only [Act.put, List.setIfInBounds_toArray, List.set_cons_zero, List.set_cons_succ])) | (apply text_skip; exact rfl; (try simp only [Act.put, List.setIfInBounds_toArray, List.set_cons_zero, List.set_cons_succ])))); apply text_end; apply hFin; clear hFin Fin; intro bs d hfa)
   go_wp2
   (apply wp_region_text 9; kernel_rfl; kernel_rfl; intro Fin hFin; (repeat (first | (apply text_run; exact rfl; (focus (intro bs d hF K hK; (repeat rw [app_app] at hK); (repeat rw [app_app]); (repeat rw [Array.append_assoc] at hK); (repeat rw [Array.append_assoc]); go_step; first  | fail  | (refine hK _ ?_; (repeat' (first | (with_reducible exact Below.refl _ _) | (with_reducible refine Below.app ?_ ?_ _ _) | (with_reducible refine Below.alloc ?_ ?_ _) | (with_reducible refine Below.drew ?_) | (with_reducible refine Below.setCell ?_ ?_ _) | (with_reducible assumption) | omega | (simp; omega) | (simp; done)))))); (try simp only [Act.put, List.setIfInBounds_toArray, List.set_cons_zero, List.set_cons_succ])) | (apply text_skip; exact rfl; (try simp only [Act.put, List.setIfInBounds_toArray, List.set_cons_zero, List.set_cons_succ])))); apply text_end; apply hFin; clear hFin Fin; intro bs d hfa)
   go_wp2
   go_returns
   (first | exact ⟨rfl, _, _, rfl⟩ | exact ⟨rfl, #[], _, (app_nil _).symm⟩ | (refine ⟨rfl, ?_⟩; simp only [app_app]; exact ⟨_, _, rfl⟩) | (refine ⟨rfl, of_below ?_⟩; ((repeat' (first | (with_reducible exact Below.refl _ _) | (with_reducible refine Below.app ?_ ?_ _ _) | (with_reducible refine Below.alloc ?_ ?_ _) | (with_reducible refine Below.drew ?_) | (with_reducible refine Below.setCell ?_ ?_ _) | (with_reducible assumption) | omega | (simp; omega) | (simp; done))) <;> exact Below.refl _ _)))
 · rw [getD_ge (by omega)]
   have hne : n = s.size := by omega
   subst hne
   go_enter Tryz.func65, Tryz.ntmps65
   go_wp2
   (apply wp_region_text 10; kernel_rfl; kernel_rfl; intro Fin hFin; (repeat (first | (apply text_run; exact rfl; (focus (intro bs d hF K hK; (repeat rw [app_app] at hK); (repeat rw [app_app]); (repeat rw [Array.append_assoc] at hK); (repeat rw [Array.append_assoc]); go_step; first  | fail  | (refine hK _ ?_; (repeat' (first | (with_reducible exact Below.refl _ _) | (with_reducible refine Below.app ?_ ?_ _ _) | (with_reducible refine Below.alloc ?_ ?_ _) | (with_reducible refine Below.drew ?_) | (with_reducible refine Below.setCell ?_ ?_ _) | (with_reducible assumption) | omega | (simp; omega) | (simp; done)))))); (try simp only [Act.put, List.setIfInBounds_toArray, List.set_cons_zero, List.set_cons_succ])) | (apply text_skip; exact rfl; (try simp only [Act.put, List.setIfInBounds_toArray, List.set_cons_zero, List.set_cons_succ])))); apply text_end; apply hFin; clear hFin Fin; intro bs d hfa)
   go_wp2
   go_returns
   (first | exact ⟨rfl, _, _, rfl⟩ | exact ⟨rfl, #[], _, (app_nil _).symm⟩ | (refine ⟨rfl, ?_⟩; simp only [app_app]; exact ⟨_, _, rfl⟩) | (refine ⟨rfl, of_below ?_⟩; ((repeat' (first | (with_reducible exact Below.refl _ _) | (with_reducible refine Below.app ?_ ?_ _ _) | (with_reducible refine Below.alloc ?_ ?_ _) | (with_reducible refine Below.drew ?_) | (with_reducible refine Below.setCell ?_ ?_ _) | (with_reducible assumption) | omega | (simp; omega) | (simp; done))) <;> exact Below.refl _ _)))
def posOf (w : World) (b : Nat) : Nat := (intOf ((w.cell? ⟨b, 1, none⟩).getD undef)).toNat
theorem posOf_rd {w0 : World} {b : Nat} (hI : IsRow w0 b) (c : Array Value) (bs : Array Obj) (d : Nat) : posOf (app (rd w0 b c) bs d) b = (intOf ((c[1]?).getD undef)).toNat := by
 unfold posOf
 rw [app_cell _ _ _ _ _ (by rw [rd_size]; exact hI.lt), rd_cell hI]
end Go.Proofs.YtnkppakkeobegaaGreatDoor
