/-
  The time of a date: clock.Seconds and its reference.
-/
import Derived.Test.YtbnghchniboggaaClockPlain
import Derived.Test.YtbnghchniboggaaClockR
import Derived.Test.YtbnghchniboggaaStable
namespace Go.Proofs.Ytbnghchniboggaa
open Go.ChangeShapes Go.WideShapes Go.ChangeAt Go.RowKit

/-- Is that a date, with its day of the week? -/
def isDate (y m d h i s w : Int) : Prop := Right y m d ∧ 0 ≤ h ∧ h < 24 ∧ 0 ≤ i ∧ i < 60 ∧ 0 ≤ s ∧ s < 60 ∧ w = (bef y m d - 719468 + 3) % 7
def secOf (y m d h i s : Int) : Int := 86400 * (bef y m d - 719468) + 3600 * h + 60 * i + s
theorem daysIn_bd (y m : Int) : 0 ≤ daysIn y m ∧ daysIn y m ≤ 31 := by unfold daysIn; repeat' split <;> omega
theorem right_of {y m d : Int} (h1 : 1 ≤ d) (h2 : d ≤ daysIn y m) : Right y m d := by
  have : ¬ (y < 1970 ∨ 9999 < y ∨ m < 1 ∨ 12 < m) := fun h => by unfold daysIn at h2; rw [if_pos h] at h2; omega
  exact ⟨by omega, by omega, by omega, by omega, h1, h2⟩
theorem bef_bd {y m d : Int} (h : Right y m d) : 719468 ≤ bef y m d ∧ bef y m d ≤ 3652364 := by
  have a := in_year h
  obtain ⟨h1, h2, h3, h4, h5, h6⟩ := h
  have e1 : bef 1970 1 1 = 719468 := by decide
  have e2 : bef 10000 1 1 = 3652365 := by decide
  have b : bef 1970 1 1 ≤ bef y 1 1 := by
    rcases Int.lt_or_le 1970 y with hl | hl
    · have := year_mono hl; have := (year_end 1970 (by omega) (by omega)).2; split at this <;> omega
    · have : y = 1970 := by omega
      subst this; exact Int.le_refl _
  have c : bef (y + 1) 1 1 ≤ bef 10000 1 1 := year_mono (by omega)
  omega

set_option maxHeartbeats 2000000 in
theorem seconds_yes (y m d h i s wk : Int) (hd : isDate y m d h i s wk) (w : World) : Calls Try.prog 21 #[.agg #[.int .i64 y, .int .i64 m, .int .i64 d, .int .i64 h, .int .i64 i, .int .i64 s, .int .i64 wk]] w
    fun r w' => r = .returned (.tuple #[.int .i64 (secOf y m d h i s), .bool true]) ∧ Below w.heap.size w w' := by
  obtain ⟨hr, a1, a2, a3, a4, a5, a6, hw⟩ := hd
  obtain ⟨b1, b2⟩ := bef_bd hr
  obtain ⟨c1, c2⟩ := daysIn_bd y m
  obtain ⟨r1, r2, r3, r4, r5, r6⟩ := hr
  unfold secOf
  generalize hB : bef y m d = B at *
  subst hw
  have f1 : withinB h 24 = true := by simp [withinB]; omega
  have f2 : withinB i 60 = true := by simp [withinB]; omega
  have f3 : withinB s 60 = true := by simp [withinB]; omega
  have f4 : decide (d < 1) = false := by simp; omega
  have f5 : decide (daysIn y m < d) = false := by simp; omega
  have hbe := @before_calls y m d ⟨r1, r2⟩ ⟨r3, r4⟩ ⟨r5, by omega⟩
  rw [hB] at hbe
  have h19 : ∀ w : World, Calls Try.prog 29 #[.int .i64 1970, .int .i64 1, .int .i64 1] w fun r w' => r = .returned (.int .i64 719468) ∧ w = w' := fun w => by
    have := before_calls 1970 1 1 (by omega) (by omega) (by omega) w
    simpa [bef, fbef] using this
  replace hbe := Lib.hid hbe
  replace h19 := Lib.hid h19
  replace hB := Lib.hid hB
  go_enter Try.func21, Try.ntmps21
  go_wp2
  (apply wp_region_text 31; kernel_rfl; kernel_rfl; intro Fin hFin; (repeat (first | (apply text_run; exact rfl; (focus (intro bs d hF K hK; (try rw [app_app] at hK); (try rw [app_app]); go_step; first  | (go_at_call 19; ((refine (days_calls _ _ _).mono ?_); rintro r w1 ⟨rfl, rfl⟩; simp only []; exact hK _ (Below.refl _ _))) | (go_at_call 35; ((refine (within_calls _ _ _).mono ?_); rintro r w1 ⟨rfl, rfl⟩; simp only []; exact hK _ (Below.refl _ _)))  | (refine hK _ ?_; (repeat' (first | (with_reducible exact Below.refl _ _) | (with_reducible refine Below.app ?_ ?_ _ _) | (with_reducible refine Below.alloc ?_ ?_ _) | (with_reducible refine Below.drew ?_) | (with_reducible refine Below.setCell ?_ ?_ _) | (with_reducible assumption) | omega | (simp; omega) | (simp; done)))))); (try simp only [Act.put, List.setIfInBounds_toArray, List.set_cons_zero, List.set_cons_succ])) | (apply text_skip; exact rfl; (try simp only [Act.put, List.setIfInBounds_toArray, List.set_cons_zero, List.set_cons_succ])))); apply text_end; apply hFin; clear hFin Fin; intro bs d hfa)
  go_wp2_with (go_at_call 29; first | (((with_reducible refine (hbe.out _).mono ?_); rintro r w1 ⟨rfl, rfl⟩)) | (((with_reducible refine (h19.out _).mono ?_); rintro r w1 ⟨rfl, rfl⟩)))
  go_returns
  refine ⟨?_, by (repeat' (first | (with_reducible exact Below.refl _ _) | (with_reducible refine Below.app ?_ ?_ _ _) | (with_reducible refine Below.alloc ?_ ?_ _) | (with_reducible refine Below.drew ?_) | (with_reducible refine Below.setCell ?_ ?_ _) | (with_reducible assumption) | omega | (simp; omega) | (simp; done)))⟩
  rfl

set_option maxHeartbeats 4000000 in
theorem seconds_no (y m d h i s wk : Int) (hn : ¬ isDate y m d h i s wk) (w : World) : Calls Try.prog 21 #[.agg #[.int .i64 y, .int .i64 m, .int .i64 d, .int .i64 h, .int .i64 i, .int .i64 s, .int .i64 wk]] w
    fun r w' => r = .returned (.tuple #[.int .i64 0, .bool false]) ∧ Below w.heap.size w w' := by
  obtain ⟨c1, c2⟩ := daysIn_bd y m
  by_cases f4 : decide (d < 1) = true
  · go_enter Try.func21, Try.ntmps21
    go_wp2
    (apply wp_region_text 31; kernel_rfl; kernel_rfl; intro Fin hFin; (repeat (first | (apply text_run; exact rfl; (focus (intro bs d hF K hK; (try rw [app_app] at hK); (try rw [app_app]); go_step; first  | fail  | (refine hK _ ?_; (repeat' (first | (with_reducible exact Below.refl _ _) | (with_reducible refine Below.app ?_ ?_ _ _) | (with_reducible refine Below.alloc ?_ ?_ _) | (with_reducible refine Below.drew ?_) | (with_reducible refine Below.setCell ?_ ?_ _) | (with_reducible assumption) | omega | (simp; omega) | (simp; done)))))); (try simp only [Act.put, List.setIfInBounds_toArray, List.set_cons_zero, List.set_cons_succ])) | (apply text_skip; exact rfl; (try simp only [Act.put, List.setIfInBounds_toArray, List.set_cons_zero, List.set_cons_succ])))); apply text_end; apply hFin; clear hFin Fin; intro bs d hfa)
    go_wp2
    go_returns; exact ⟨rfl, by (repeat' (first | (with_reducible exact Below.refl _ _) | (with_reducible refine Below.app ?_ ?_ _ _) | (with_reducible refine Below.alloc ?_ ?_ _) | (with_reducible refine Below.drew ?_) | (with_reducible refine Below.setCell ?_ ?_ _) | (with_reducible assumption) | omega | (simp; omega) | (simp; done)))⟩
  replace f4 : decide (d < 1) = false := by simpa using f4
  by_cases f5 : decide (daysIn y m < d) = true
  · go_enter Try.func21, Try.ntmps21
    go_wp2
    (apply wp_region_text 31; kernel_rfl; kernel_rfl; intro Fin hFin; (repeat (first | (apply text_run; exact rfl; (focus (intro bs d hF K hK; (try rw [app_app] at hK); (try rw [app_app]); go_step; first  | (go_at_call 19; ((refine (days_calls _ _ _).mono ?_); rintro r w1 ⟨rfl, rfl⟩; simp only []; exact hK _ (Below.refl _ _)))  | (refine hK _ ?_; (repeat' (first | (with_reducible exact Below.refl _ _) | (with_reducible refine Below.app ?_ ?_ _ _) | (with_reducible refine Below.alloc ?_ ?_ _) | (with_reducible refine Below.drew ?_) | (with_reducible refine Below.setCell ?_ ?_ _) | (with_reducible assumption) | omega | (simp; omega) | (simp; done)))))); (try simp only [Act.put, List.setIfInBounds_toArray, List.set_cons_zero, List.set_cons_succ])) | (apply text_skip; exact rfl; (try simp only [Act.put, List.setIfInBounds_toArray, List.set_cons_zero, List.set_cons_succ])))); apply text_end; apply hFin; clear hFin Fin; intro bs d hfa)
    go_wp2
    go_returns; exact ⟨rfl, by (repeat' (first | (with_reducible exact Below.refl _ _) | (with_reducible refine Below.app ?_ ?_ _ _) | (with_reducible refine Below.alloc ?_ ?_ _) | (with_reducible refine Below.drew ?_) | (with_reducible refine Below.setCell ?_ ?_ _) | (with_reducible assumption) | omega | (simp; omega) | (simp; done)))⟩
  replace f5 : decide (daysIn y m < d) = false := by simpa using f5
  by_cases f1 : withinB h 24 = false
  · go_enter Try.func21, Try.ntmps21
    go_wp2
    (apply wp_region_text 31; kernel_rfl; kernel_rfl; intro Fin hFin; (repeat (first | (apply text_run; exact rfl; (focus (intro bs d hF K hK; (try rw [app_app] at hK); (try rw [app_app]); go_step; first  | (go_at_call 19; ((refine (days_calls _ _ _).mono ?_); rintro r w1 ⟨rfl, rfl⟩; simp only []; exact hK _ (Below.refl _ _))) | (go_at_call 35; ((refine (within_calls _ _ _).mono ?_); rintro r w1 ⟨rfl, rfl⟩; simp only []; exact hK _ (Below.refl _ _)))  | (refine hK _ ?_; (repeat' (first | (with_reducible exact Below.refl _ _) | (with_reducible refine Below.app ?_ ?_ _ _) | (with_reducible refine Below.alloc ?_ ?_ _) | (with_reducible refine Below.drew ?_) | (with_reducible refine Below.setCell ?_ ?_ _) | (with_reducible assumption) | omega | (simp; omega) | (simp; done)))))); (try simp only [Act.put, List.setIfInBounds_toArray, List.set_cons_zero, List.set_cons_succ])) | (apply text_skip; exact rfl; (try simp only [Act.put, List.setIfInBounds_toArray, List.set_cons_zero, List.set_cons_succ])))); apply text_end; apply hFin; clear hFin Fin; intro bs d hfa)
    go_wp2
    go_returns; exact ⟨rfl, by (repeat' (first | (with_reducible exact Below.refl _ _) | (with_reducible refine Below.app ?_ ?_ _ _) | (with_reducible refine Below.alloc ?_ ?_ _) | (with_reducible refine Below.drew ?_) | (with_reducible refine Below.setCell ?_ ?_ _) | (with_reducible assumption) | omega | (simp; omega) | (simp; done)))⟩
  replace f1 : withinB h 24 = true := by simpa using f1
  by_cases f2 : withinB i 60 = false
  · go_enter Try.func21, Try.ntmps21
    go_wp2
    (apply wp_region_text 31; kernel_rfl; kernel_rfl; intro Fin hFin; (repeat (first | (apply text_run; exact rfl; (focus (intro bs d hF K hK; (try rw [app_app] at hK); (try rw [app_app]); go_step; first  | (go_at_call 19; ((refine (days_calls _ _ _).mono ?_); rintro r w1 ⟨rfl, rfl⟩; simp only []; exact hK _ (Below.refl _ _))) | (go_at_call 35; ((refine (within_calls _ _ _).mono ?_); rintro r w1 ⟨rfl, rfl⟩; simp only []; exact hK _ (Below.refl _ _)))  | (refine hK _ ?_; (repeat' (first | (with_reducible exact Below.refl _ _) | (with_reducible refine Below.app ?_ ?_ _ _) | (with_reducible refine Below.alloc ?_ ?_ _) | (with_reducible refine Below.drew ?_) | (with_reducible refine Below.setCell ?_ ?_ _) | (with_reducible assumption) | omega | (simp; omega) | (simp; done)))))); (try simp only [Act.put, List.setIfInBounds_toArray, List.set_cons_zero, List.set_cons_succ])) | (apply text_skip; exact rfl; (try simp only [Act.put, List.setIfInBounds_toArray, List.set_cons_zero, List.set_cons_succ])))); apply text_end; apply hFin; clear hFin Fin; intro bs d hfa)
    go_wp2
    go_returns; exact ⟨rfl, by (repeat' (first | (with_reducible exact Below.refl _ _) | (with_reducible refine Below.app ?_ ?_ _ _) | (with_reducible refine Below.alloc ?_ ?_ _) | (with_reducible refine Below.drew ?_) | (with_reducible refine Below.setCell ?_ ?_ _) | (with_reducible assumption) | omega | (simp; omega) | (simp; done)))⟩
  replace f2 : withinB i 60 = true := by simpa using f2
  by_cases f3 : withinB s 60 = false
  · go_enter Try.func21, Try.ntmps21
    go_wp2
    (apply wp_region_text 31; kernel_rfl; kernel_rfl; intro Fin hFin; (repeat (first | (apply text_run; exact rfl; (focus (intro bs d hF K hK; (try rw [app_app] at hK); (try rw [app_app]); go_step; first  | (go_at_call 19; ((refine (days_calls _ _ _).mono ?_); rintro r w1 ⟨rfl, rfl⟩; simp only []; exact hK _ (Below.refl _ _))) | (go_at_call 35; ((refine (within_calls _ _ _).mono ?_); rintro r w1 ⟨rfl, rfl⟩; simp only []; exact hK _ (Below.refl _ _)))  | (refine hK _ ?_; (repeat' (first | (with_reducible exact Below.refl _ _) | (with_reducible refine Below.app ?_ ?_ _ _) | (with_reducible refine Below.alloc ?_ ?_ _) | (with_reducible refine Below.drew ?_) | (with_reducible refine Below.setCell ?_ ?_ _) | (with_reducible assumption) | omega | (simp; omega) | (simp; done)))))); (try simp only [Act.put, List.setIfInBounds_toArray, List.set_cons_zero, List.set_cons_succ])) | (apply text_skip; exact rfl; (try simp only [Act.put, List.setIfInBounds_toArray, List.set_cons_zero, List.set_cons_succ])))); apply text_end; apply hFin; clear hFin Fin; intro bs d hfa)
    go_wp2
    go_returns; exact ⟨rfl, by (repeat' (first | (with_reducible exact Below.refl _ _) | (with_reducible refine Below.app ?_ ?_ _ _) | (with_reducible refine Below.alloc ?_ ?_ _) | (with_reducible refine Below.drew ?_) | (with_reducible refine Below.setCell ?_ ?_ _) | (with_reducible assumption) | omega | (simp; omega) | (simp; done)))⟩
  replace f3 : withinB s 60 = true := by simpa using f3
  have hr : Right y m d := right_of (by simp at f4; omega) (by simp at f5; omega)
  have hw : ¬ wk = (bef y m d - 719468 + 3) % 7 := fun hw => hn (by
    simp only [withinB, decide_eq_true_eq] at f1 f2 f3
    exact ⟨hr, f1.1, f1.2, f2.1, f2.2, f3.1, f3.2, hw⟩)
  obtain ⟨b1, b2⟩ := bef_bd hr
  have hbe := @before_calls y m d ⟨hr.1, hr.2.1⟩ ⟨hr.2.2.1, hr.2.2.2.1⟩ ⟨hr.2.2.2.2.1, by have := hr.2.2.2.2.2; omega⟩
  generalize hB : bef y m d = B at *
  have h19 : ∀ w : World, Calls Try.prog 29 #[.int .i64 1970, .int .i64 1, .int .i64 1] w fun r w' => r = .returned (.int .i64 719468) ∧ w = w' := fun w => by
    have := before_calls 1970 1 1 (by omega) (by omega) (by omega) w
    simpa [bef, fbef] using this
  replace hbe := Lib.hid hbe
  replace h19 := Lib.hid h19
  replace hB := Lib.hid hB
  replace hr := Lib.hid hr
  go_enter Try.func21, Try.ntmps21
  go_wp2
  (apply wp_region_text 31; kernel_rfl; kernel_rfl; intro Fin hFin; (repeat (first | (apply text_run; exact rfl; (focus (intro bs d hF K hK; (try rw [app_app] at hK); (try rw [app_app]); go_step; first  | (go_at_call 19; ((refine (days_calls _ _ _).mono ?_); rintro r w1 ⟨rfl, rfl⟩; simp only []; exact hK _ (Below.refl _ _))) | (go_at_call 35; ((refine (within_calls _ _ _).mono ?_); rintro r w1 ⟨rfl, rfl⟩; simp only []; exact hK _ (Below.refl _ _)))  | (refine hK _ ?_; (repeat' (first | (with_reducible exact Below.refl _ _) | (with_reducible refine Below.app ?_ ?_ _ _) | (with_reducible refine Below.alloc ?_ ?_ _) | (with_reducible refine Below.drew ?_) | (with_reducible refine Below.setCell ?_ ?_ _) | (with_reducible assumption) | omega | (simp; omega) | (simp; done)))))); (try simp only [Act.put, List.setIfInBounds_toArray, List.set_cons_zero, List.set_cons_succ])) | (apply text_skip; exact rfl; (try simp only [Act.put, List.setIfInBounds_toArray, List.set_cons_zero, List.set_cons_succ])))); apply text_end; apply hFin; clear hFin Fin; intro bs d hfa)
  go_wp2_with (go_at_call 29; first | (((with_reducible refine (hbe.out _).mono ?_); rintro r w1 ⟨rfl, rfl⟩)) | (((with_reducible refine (h19.out _).mono ?_); rintro r w1 ⟨rfl, rfl⟩)))
  go_returns; exact ⟨rfl, by (repeat' (first | (with_reducible exact Below.refl _ _) | (with_reducible refine Below.app ?_ ?_ _ _) | (with_reducible refine Below.alloc ?_ ?_ _) | (with_reducible refine Below.drew ?_) | (with_reducible refine Below.setCell ?_ ?_ _) | (with_reducible assumption) | omega | (simp; omega) | (simp; done)))⟩
end Go.Proofs.Ytbnghchniboggaa
