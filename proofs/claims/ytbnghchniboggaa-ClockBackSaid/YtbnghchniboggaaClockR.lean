/-
  pigeonholeref09.Days: what it gives.
-/
import Derived.Test.YtbnghchniboggaaClock
namespace Go.Proofs.Ytbnghchniboggaa
open Go.ChangeShapes Go.WideShapes Go.ChangeAt Go.RowKit

set_option maxHeartbeats 2000000 in
theorem rdays_calls (y m : Int) (w : World) : Calls Try.prog 20 #[.int .i64 y, .int .i64 m] w fun r w' => r = .returned (.int .i64 (daysIn y m)) ∧ Below w.heap.size w w' := by
  by_cases h : 1970 ≤ y ∧ y ≤ 9999 ∧ 1 ≤ m ∧ m ≤ 12
  · obtain ⟨h1, h2, h3, h4⟩ := h
    have hm : m = 1 ∨ m = 2 ∨ m = 3 ∨ m = 4 ∨ m = 5 ∨ m = 6 ∨ m = 7 ∨ m = 8 ∨ m = 9 ∨ m = 10 ∨ m = 11 ∨ m = 12 := by omega
    go_enter Try.func20, Try.ntmps20
    rcases hm with rfl | rfl | rfl | rfl | rfl | rfl | rfl | rfl | rfl | rfl | rfl | rfl
    all_goals
      go_wp2_with (go_at_call 18; ((refine (rleap_calls _ _).mono ?_); rintro r w1 ⟨rfl, rfl⟩))
      all_goals (go_returns; refine ⟨ri ?_, by (repeat' (first | (with_reducible exact Below.refl _ _) | (with_reducible refine Below.app ?_ ?_ _ _) | (with_reducible refine Below.alloc ?_ ?_ _) | (with_reducible refine Below.drew ?_) | (with_reducible refine Below.setCell ?_ ?_ _) | (with_reducible assumption) | omega | (simp; omega) | (simp; done)))⟩; go_light; simp only [daysIn]; grind)
  · go_enter Try.func20, Try.ntmps20
    go_wp2
    all_goals (go_light; first | (go_returns; refine ⟨ri ?_, by (repeat' (first | (with_reducible exact Below.refl _ _) | (with_reducible refine Below.app ?_ ?_ _ _) | (with_reducible refine Below.alloc ?_ ?_ _) | (with_reducible refine Below.drew ?_) | (with_reducible refine Below.setCell ?_ ?_ _) | (with_reducible assumption) | omega | (simp; omega) | (simp; done)))⟩; simp only [daysIn]; grind) | (exfalso; omega))
end Go.Proofs.Ytbnghchniboggaa
