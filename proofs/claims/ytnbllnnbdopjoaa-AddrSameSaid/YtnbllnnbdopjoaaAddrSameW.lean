/-
  addr.Same: what it gives.
-/
import Derived.Test.YtnbllnnbdopjoaaAddrText
namespace Go.Proofs.Ytnbllnnbdopjoaa
open Go.ChangeShapes Go.WideShapes Go.ChangeAt Go.RowKit

def noneB (x y : ByteArray) : Bool := x.toList.isEmpty && y.toList.isEmpty
def sameB (x y x2 y2 : ByteArray) : Bool := if (noneB x y || noneB x2 y2) = true then x.toList == x2.toList && y.toList == y2.toList else !(keyS x y).toList.isEmpty && (keyS x y).toList == (keyS x2 y2).toList
set_option maxHeartbeats 4000000 in
theorem same_calls (x y x2 y2 : ByteArray) (h1 : x.size ≤ 40000000000000) (h2 : y.size ≤ 40000000000000) (h3 : x2.size ≤ 40000000000000) (h4 : y2.size ≤ 40000000000000) (w : World) :
    Calls Try.prog 20 #[.agg #[.string x, .string y], .agg #[.string x2, .string y2]] w fun r w' => r = .returned (.bool (sameB x y x2 y2)) ∧ Below w.heap.size w w' := by
  have k1 := key_calls x y h1 h2
  have k2 := key_calls x2 y2 h3 h4
  generalize hS : sameB x y x2 y2 = S
  replace hS := Lib.hid hS
  generalize hu : keyS x y = u at *
  generalize hu2 : keyS x2 y2 = u2 at *
  replace hu := Lib.hid hu
  replace hu2 := Lib.hid hu2
  replace k1 := Lib.hid k1
  replace k2 := Lib.hid k2
  by_cases ha : x.toList = [] ∧ y.toList = []
  · obtain ⟨ha1, ha2⟩ := ha
    go_enter Try.func20, Try.ntmps20
    go_wp2
    all_goals (go_returns; refine ⟨rb ?_, by (repeat' (first | (with_reducible exact Below.refl _ _) | (with_reducible refine Below.app ?_ ?_ _ _) | (with_reducible refine Below.alloc ?_ ?_ _) | (with_reducible refine Below.drew ?_) | (with_reducible refine Below.setCell ?_ ?_ _) | (with_reducible assumption) | omega | (simp; omega) | (simp; done)))⟩; rw [← hS.out]; unfold sameB noneB; go_light; first | (simp_all; done) | (rw [Bool.eq_iff_iff]; simp_all; done))
  · by_cases hb : x2.toList = [] ∧ y2.toList = []
    · obtain ⟨hb1, hb2⟩ := hb
      by_cases hx : x.toList = []
      · have hy : ¬ y.toList = [] := fun h => ha ⟨hx, h⟩
        clear ha
        go_enter Try.func20, Try.ntmps20
        go_wp2
        all_goals (go_returns; refine ⟨rb ?_, by (repeat' (first | (with_reducible exact Below.refl _ _) | (with_reducible refine Below.app ?_ ?_ _ _) | (with_reducible refine Below.alloc ?_ ?_ _) | (with_reducible refine Below.drew ?_) | (with_reducible refine Below.setCell ?_ ?_ _) | (with_reducible assumption) | omega | (simp; omega) | (simp; done)))⟩; rw [← hS.out]; unfold sameB noneB; go_light; first | (simp_all; done) | (rw [Bool.eq_iff_iff]; simp_all; done))
      · clear ha
        go_enter Try.func20, Try.ntmps20
        go_wp2
        all_goals (go_returns; refine ⟨rb ?_, by (repeat' (first | (with_reducible exact Below.refl _ _) | (with_reducible refine Below.app ?_ ?_ _ _) | (with_reducible refine Below.alloc ?_ ?_ _) | (with_reducible refine Below.drew ?_) | (with_reducible refine Below.setCell ?_ ?_ _) | (with_reducible assumption) | omega | (simp; omega) | (simp; done)))⟩; rw [← hS.out]; unfold sameB noneB; go_light; first | (simp_all; done) | (rw [Bool.eq_iff_iff]; simp_all; done))
    · have hun : u.toList.isEmpty = true ∨ u.toList.isEmpty = false := by cases u.toList.isEmpty <;> simp
      rcases hun with hun | hun
      all_goals
        by_cases hx : x.toList = []
        · have hy : y.toList.isEmpty = false := by rw [List.isEmpty_eq_false_iff]; exact fun h => ha ⟨hx, h⟩
          have hy' : ¬ y.toList = [] := fun h => ha ⟨hx, h⟩
          clear ha
          by_cases hx2 : x2.toList = []
          · have hy2 : y2.toList.isEmpty = false := by rw [List.isEmpty_eq_false_iff]; exact fun h => hb ⟨hx2, h⟩
            have hy2' : ¬ y2.toList = [] := fun h => hb ⟨hx2, h⟩
            clear hb
            go_enter Try.func20, Try.ntmps20
            go_wp2
            (apply wp_region_text 11; kernel_rfl; kernel_rfl; intro Fin hFin; (repeat (first | (apply text_run; exact rfl; (focus (intro bs d hF K hK; (repeat rw [app_app] at hK); (repeat rw [app_app]); (repeat rw [Array.append_assoc] at hK); (repeat rw [Array.append_assoc]); go_step; first  | (go_at_call 23; ((with_reducible refine (k1.out _).mono ?_); rintro r w1 ⟨rfl, hb⟩; simp only []; exact hK _ hb)) | (go_at_call 23; ((with_reducible refine (k2.out _).mono ?_); rintro r w1 ⟨rfl, hb⟩; simp only []; exact hK _ hb))  | (refine hK _ ?_; (repeat' (first | (with_reducible exact Below.refl _ _) | (with_reducible refine Below.app ?_ ?_ _ _) | (with_reducible refine Below.alloc ?_ ?_ _) | (with_reducible refine Below.drew ?_) | (with_reducible refine Below.setCell ?_ ?_ _) | (with_reducible assumption) | omega | (simp; omega) | (simp; done)))))); (try simp only [Act.put, List.setIfInBounds_toArray, List.set_cons_zero, List.set_cons_succ])) | (apply text_skip; exact rfl; (try simp only [Act.put, List.setIfInBounds_toArray, List.set_cons_zero, List.set_cons_succ])))); apply text_end; apply hFin; clear hFin Fin; intro bs d hfa)
            go_wp2
            all_goals (go_returns; refine ⟨rb ?_, by (repeat' (first | (with_reducible exact Below.refl _ _) | (with_reducible refine Below.app ?_ ?_ _ _) | (with_reducible refine Below.alloc ?_ ?_ _) | (with_reducible refine Below.drew ?_) | (with_reducible refine Below.setCell ?_ ?_ _) | (with_reducible assumption) | omega | (simp; omega) | (simp; done)))⟩; rw [← hS.out]; unfold sameB noneB; rw [hu.out, hu2.out]; go_light; first | (simp_all; done) | (rw [Bool.eq_iff_iff]; simp_all; done))
          · have hx2' : x2.toList.isEmpty = false := by rw [List.isEmpty_eq_false_iff]; exact hx2
            clear hb
            go_enter Try.func20, Try.ntmps20
            go_wp2
            (apply wp_region_text 11; kernel_rfl; kernel_rfl; intro Fin hFin; (repeat (first | (apply text_run; exact rfl; (focus (intro bs d hF K hK; (repeat rw [app_app] at hK); (repeat rw [app_app]); (repeat rw [Array.append_assoc] at hK); (repeat rw [Array.append_assoc]); go_step; first  | (go_at_call 23; ((with_reducible refine (k1.out _).mono ?_); rintro r w1 ⟨rfl, hb⟩; simp only []; exact hK _ hb)) | (go_at_call 23; ((with_reducible refine (k2.out _).mono ?_); rintro r w1 ⟨rfl, hb⟩; simp only []; exact hK _ hb))  | (refine hK _ ?_; (repeat' (first | (with_reducible exact Below.refl _ _) | (with_reducible refine Below.app ?_ ?_ _ _) | (with_reducible refine Below.alloc ?_ ?_ _) | (with_reducible refine Below.drew ?_) | (with_reducible refine Below.setCell ?_ ?_ _) | (with_reducible assumption) | omega | (simp; omega) | (simp; done)))))); (try simp only [Act.put, List.setIfInBounds_toArray, List.set_cons_zero, List.set_cons_succ])) | (apply text_skip; exact rfl; (try simp only [Act.put, List.setIfInBounds_toArray, List.set_cons_zero, List.set_cons_succ])))); apply text_end; apply hFin; clear hFin Fin; intro bs d hfa)
            go_wp2
            all_goals (go_returns; refine ⟨rb ?_, by (repeat' (first | (with_reducible exact Below.refl _ _) | (with_reducible refine Below.app ?_ ?_ _ _) | (with_reducible refine Below.alloc ?_ ?_ _) | (with_reducible refine Below.drew ?_) | (with_reducible refine Below.setCell ?_ ?_ _) | (with_reducible assumption) | omega | (simp; omega) | (simp; done)))⟩; rw [← hS.out]; unfold sameB noneB; rw [hu.out, hu2.out]; go_light; first | (simp_all; done) | (rw [Bool.eq_iff_iff]; simp_all; done))
        · have hx' : x.toList.isEmpty = false := by rw [List.isEmpty_eq_false_iff]; exact hx
          clear ha
          by_cases hx2 : x2.toList = []
          · have hy2 : y2.toList.isEmpty = false := by rw [List.isEmpty_eq_false_iff]; exact fun h => hb ⟨hx2, h⟩
            have hy2' : ¬ y2.toList = [] := fun h => hb ⟨hx2, h⟩
            clear hb
            go_enter Try.func20, Try.ntmps20
            go_wp2
            (apply wp_region_text 11; kernel_rfl; kernel_rfl; intro Fin hFin; (repeat (first | (apply text_run; exact rfl; (focus (intro bs d hF K hK; (repeat rw [app_app] at hK); (repeat rw [app_app]); (repeat rw [Array.append_assoc] at hK); (repeat rw [Array.append_assoc]); go_step; first  | (go_at_call 23; ((with_reducible refine (k1.out _).mono ?_); rintro r w1 ⟨rfl, hb⟩; simp only []; exact hK _ hb)) | (go_at_call 23; ((with_reducible refine (k2.out _).mono ?_); rintro r w1 ⟨rfl, hb⟩; simp only []; exact hK _ hb))  | (refine hK _ ?_; (repeat' (first | (with_reducible exact Below.refl _ _) | (with_reducible refine Below.app ?_ ?_ _ _) | (with_reducible refine Below.alloc ?_ ?_ _) | (with_reducible refine Below.drew ?_) | (with_reducible refine Below.setCell ?_ ?_ _) | (with_reducible assumption) | omega | (simp; omega) | (simp; done)))))); (try simp only [Act.put, List.setIfInBounds_toArray, List.set_cons_zero, List.set_cons_succ])) | (apply text_skip; exact rfl; (try simp only [Act.put, List.setIfInBounds_toArray, List.set_cons_zero, List.set_cons_succ])))); apply text_end; apply hFin; clear hFin Fin; intro bs d hfa)
            go_wp2
            all_goals (go_returns; refine ⟨rb ?_, by (repeat' (first | (with_reducible exact Below.refl _ _) | (with_reducible refine Below.app ?_ ?_ _ _) | (with_reducible refine Below.alloc ?_ ?_ _) | (with_reducible refine Below.drew ?_) | (with_reducible refine Below.setCell ?_ ?_ _) | (with_reducible assumption) | omega | (simp; omega) | (simp; done)))⟩; rw [← hS.out]; unfold sameB noneB; rw [hu.out, hu2.out]; go_light; first | (simp_all; done) | (rw [Bool.eq_iff_iff]; simp_all; done))
          · have hx2' : x2.toList.isEmpty = false := by rw [List.isEmpty_eq_false_iff]; exact hx2
            clear hb
            go_enter Try.func20, Try.ntmps20
            go_wp2
            (apply wp_region_text 11; kernel_rfl; kernel_rfl; intro Fin hFin; (repeat (first | (apply text_run; exact rfl; (focus (intro bs d hF K hK; (repeat rw [app_app] at hK); (repeat rw [app_app]); (repeat rw [Array.append_assoc] at hK); (repeat rw [Array.append_assoc]); go_step; first  | (go_at_call 23; ((with_reducible refine (k1.out _).mono ?_); rintro r w1 ⟨rfl, hb⟩; simp only []; exact hK _ hb)) | (go_at_call 23; ((with_reducible refine (k2.out _).mono ?_); rintro r w1 ⟨rfl, hb⟩; simp only []; exact hK _ hb))  | (refine hK _ ?_; (repeat' (first | (with_reducible exact Below.refl _ _) | (with_reducible refine Below.app ?_ ?_ _ _) | (with_reducible refine Below.alloc ?_ ?_ _) | (with_reducible refine Below.drew ?_) | (with_reducible refine Below.setCell ?_ ?_ _) | (with_reducible assumption) | omega | (simp; omega) | (simp; done)))))); (try simp only [Act.put, List.setIfInBounds_toArray, List.set_cons_zero, List.set_cons_succ])) | (apply text_skip; exact rfl; (try simp only [Act.put, List.setIfInBounds_toArray, List.set_cons_zero, List.set_cons_succ])))); apply text_end; apply hFin; clear hFin Fin; intro bs d hfa)
            go_wp2
            all_goals (go_returns; refine ⟨rb ?_, by (repeat' (first | (with_reducible exact Below.refl _ _) | (with_reducible refine Below.app ?_ ?_ _ _) | (with_reducible refine Below.alloc ?_ ?_ _) | (with_reducible refine Below.drew ?_) | (with_reducible refine Below.setCell ?_ ?_ _) | (with_reducible assumption) | omega | (simp; omega) | (simp; done)))⟩; rw [← hS.out]; unfold sameB noneB; rw [hu.out, hu2.out]; go_light; first | (simp_all; done) | (rw [Bool.eq_iff_iff]; simp_all; done))
end Go.Proofs.Ytnbllnnbdopjoaa
