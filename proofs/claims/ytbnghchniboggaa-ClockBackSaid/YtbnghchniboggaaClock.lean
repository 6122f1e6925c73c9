/-
  What the functions of package clock, and of its reference, give: years, months, days.
-/
import Derived.Test.YtbnghchniboggaaProg
import Derived.Test.YtbnghchniboggaaBase
namespace Go.Proofs.Ytbnghchniboggaa
open Go.ChangeShapes Go.WideShapes Go.ChangeAt Go.RowKit

def leap (y : Int) : Bool := decide (1970 ≤ y ∧ y ≤ 9999 ∧ y % 4 = 0 ∧ (y % 100 ≠ 0 ∨ y % 400 = 0))
def daysIn (y m : Int) : Int := if y < 1970 ∨ 9999 < y ∨ m < 1 ∨ 12 < m then 0 else if m = 2 then (if leap y = true then 29 else 28) else if m = 4 ∨ m = 6 ∨ m = 9 ∨ m = 11 then 30 else 31

theorem leap_calls (y : Int) (w : World) : Calls Try.prog 17 #[.int .i64 y] w fun r w' => r = .returned (.bool (leap y)) ∧ w = w' := by
  by_cases h : 1970 ≤ y ∧ y ≤ 9999
  · obtain ⟨h1, h2⟩ := h
    go_enter Try.func17, Try.ntmps17
    go_wp2
    all_goals (go_returns; refine ⟨rb ?_, rfl⟩; go_light; simp only [leap]; first | (simp; omega) | (simp; done) | grind)
  · replace h : y < 1970 ∨ 9999 < y := by omega
    go_enter Try.func17, Try.ntmps17
    rcases h with h | h
    all_goals
      go_wp2
      all_goals (go_returns; refine ⟨rb ?_, rfl⟩; go_light; simp only [leap]; first | (simp; omega) | (simp; done) | grind)
theorem rleap_calls (y : Int) (w : World) : Calls Try.prog 18 #[.int .i64 y] w fun r w' => r = .returned (.bool (leap y)) ∧ w = w' := by
  by_cases h : 1970 ≤ y ∧ y ≤ 9999
  · obtain ⟨h1, h2⟩ := h
    go_enter Try.func18, Try.ntmps18
    go_wp2
    all_goals (go_returns; refine ⟨rb ?_, rfl⟩; go_light; simp only [leap]; first | (simp; omega) | (simp; done) | grind)
  · replace h : y < 1970 ∨ 9999 < y := by omega
    go_enter Try.func18, Try.ntmps18
    rcases h with h | h
    all_goals
      go_wp2
      all_goals (go_returns; refine ⟨rb ?_, rfl⟩; go_light; simp only [leap]; first | (simp; omega) | (simp; done) | grind)
set_option maxHeartbeats 1000000 in
theorem days_calls (y m : Int) (w : World) : Calls Try.prog 19 #[.int .i64 y, .int .i64 m] w fun r w' => r = .returned (.int .i64 (daysIn y m)) ∧ w = w' := by
  go_enter Try.func19, Try.ntmps19
  go_wp2_with (go_at_call 17; ((refine (leap_calls _ _).mono ?_); rintro r w1 ⟨rfl, rfl⟩))
  all_goals (go_returns; refine ⟨ri ?_, rfl⟩; go_light; simp only [daysIn]; grind)
def withinB (n b : Int) : Bool := decide (0 ≤ n ∧ n < b)
theorem within_calls (n b : Int) (w : World) : Calls Try.prog 35 #[.int .i64 n, .int .i64 b] w fun r w' => r = .returned (.bool (withinB n b)) ∧ w = w' := by
  go_enter Try.func35, Try.ntmps35
  go_wp2
  all_goals (go_returns; refine ⟨rb ?_, rfl⟩; go_light; grind [withinB])
theorem length_calls (y : Int) (w : World) : Calls Try.prog 30 #[.int .i64 y] w fun r w' => r = .returned (.int .i64 (if leap y = true then 366 else 365)) ∧ w = w' := by
  go_enter Try.func30, Try.ntmps30
  go_wp2_with (go_at_call 18; ((refine (rleap_calls _ _).mono ?_); rintro r w1 ⟨rfl, rfl⟩))
  all_goals (go_returns; refine ⟨ri ?_, rfl⟩; go_light; simp_all)

def fbef (y m d : Int) : Int := 365 * y + y / 4 - y / 100 + y / 400 + (153 * (m - 3) + 2) / 5 + d - 1
def bef (y m d : Int) : Int := if m ≤ 2 then fbef (y - 1) (m + 12) d else fbef y m d
theorem before_calls (y m d : Int) (hy : 1970 ≤ y ∧ y ≤ 9999) (hm : 1 ≤ m ∧ m ≤ 12) (hd : 1 ≤ d ∧ d ≤ 31) (w : World) : Calls Try.prog 29 #[.int .i64 y, .int .i64 m, .int .i64 d] w fun r w' => r = .returned (.int .i64 (bef y m d)) ∧ w = w' := by
  obtain ⟨hy1, hy2⟩ := hy
  obtain ⟨hm1, hm2⟩ := hm
  obtain ⟨hd1, hd2⟩ := hd
  go_enter Try.func29, Try.ntmps29
  go_wp2
  all_goals (go_returns; refine ⟨ri ?_, rfl⟩; go_light; simp only [bef, fbef]; first | (rw [if_pos (by omega)]; done) | (rw [if_neg (by omega)]; done) | (rw [if_pos (by omega)]; omega) | (rw [if_neg (by omega)]; omega))

end Go.Proofs.Ytbnghchniboggaa
