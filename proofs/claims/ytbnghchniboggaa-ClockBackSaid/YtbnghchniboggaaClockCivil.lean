/-
  clock.Civil: what it gives.
-/
import Derived.Test.YtbnghchniboggaaClockPlain
namespace Go.Proofs.Ytbnghchniboggaa
open Go.ChangeShapes Go.WideShapes Go.ChangeAt Go.RowKit

/-- The date of a time, as its seven numbers. -/
def civV (t : Int) : Value := .agg #[.int .i64 (dY (t / 86400 + 719468)), .int .i64 (dM (t / 86400 + 719468)), .int .i64 (dD (t / 86400 + 719468)), .int .i64 (t % 86400 / 3600), .int .i64 (t % 86400 / 60 % 60), .int .i64 (t % 86400 % 60), .int .i64 ((t / 86400 + 3) % 7)]

theorem before_1970 (w : World) : Calls Try.prog 29 #[.int .i64 1970, .int .i64 1, .int .i64 1] w fun r w' => r = .returned (.int .i64 719468) ∧ w = w' := by
  have := before_calls 1970 1 1 (by omega) (by omega) (by omega) w
  simpa [bef, fbef] using this

set_option maxHeartbeats 4000000 in
theorem civil_calls (t : Int) (h0 : 0 ≤ t) (h1 : t ≤ 253402300799) (w : World) : Calls Try.prog 13 #[.int .i64 t] w fun r w' => r = .returned (.tuple #[civV t, .bool true]) ∧ Below w.heap.size w w' := by
  obtain ⟨k1, k2, k3, k4, -⟩ := cBounds ((t / 86400 + 719468) % 146097) (by omega) (by omega)
  have hn1 : 0 ≤ t / 86400 := by omega
  have hn2 : t / 86400 ≤ 2932896 := by omega
  unfold civV dY dM dD
  have hx1 : 0 ≤ (t / 86400 + 719468) % 146097 := by omega
  have hx2 : (t / 86400 + 719468) % 146097 ≤ 146096 := by omega
  have hE1 : 0 ≤ (t / 86400 + 719468) / 146097 := by omega
  have hE2 : (t / 86400 + 719468) / 146097 ≤ 30 := by omega
  generalize hx : (t / 86400 + 719468) % 146097 = x at *
  generalize hE : (t / 86400 + 719468) / 146097 = E at *
  generalize hY : cYear x = Y at *
  generalize hT : cAt x = T at *
  unfold cAt at hT
  rw [hY] at hT
  unfold cYear at hY
  generalize hm : (5 * T + 2) / 153 = m at *
  have hm1 : 0 ≤ m := by omega
  have hm2 : m ≤ 11 := by omega
  go_enter Try.func13, Try.ntmps13
  go_wp2_with (go_at_call 29; ((refine (before_1970 _).mono ?_); rintro r w1 ⟨rfl, rfl⟩))
  all_goals
    go_returns
    refine ⟨?_, by (repeat' (first | (with_reducible exact Below.refl _ _) | (with_reducible refine Below.app ?_ ?_ _ _) | (with_reducible refine Below.alloc ?_ ?_ _) | (with_reducible refine Below.drew ?_) | (with_reducible refine Below.setCell ?_ ?_ _) | (with_reducible assumption) | omega | (simp; omega) | (simp; done)))⟩
    go_light
    rfl
theorem civil_none (t : Int) (h : t < 0 ∨ 253402300799 < t) (w : World) : Calls Try.prog 13 #[.int .i64 t] w fun r w' => r = .returned (.tuple #[.agg #[.int .i64 0, .int .i64 0, .int .i64 0, .int .i64 0, .int .i64 0, .int .i64 0, .int .i64 0], .bool false]) ∧ Below w.heap.size w w' := by
  go_enter Try.func13, Try.ntmps13
  rcases h with h | h
  all_goals
    go_wp2
    all_goals (go_returns; exact ⟨rfl, by (repeat' (first | (with_reducible exact Below.refl _ _) | (with_reducible refine Below.app ?_ ?_ _ _) | (with_reducible refine Below.alloc ?_ ?_ _) | (with_reducible refine Below.drew ?_) | (with_reducible refine Below.setCell ?_ ?_ _) | (with_reducible assumption) | omega | (simp; omega) | (simp; done)))⟩)
end Go.Proofs.Ytbnghchniboggaa
