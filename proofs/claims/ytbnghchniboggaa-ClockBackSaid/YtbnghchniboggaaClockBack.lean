/-
  clock.ClockBack answers true at every input: each time's date and stamp tell it again; a day later is the next day of the week.
-/
import Derived.Test.YtbnghchniboggaaAwake09
import Derived.Test.YtbnghchniboggaaRow
import Derived.Test.YtbnghchniboggaaOpen
namespace Go.Proofs.Ytbnghchniboggaa
open Go.ChangeShapes Go.WideShapes Go.ChangeAt Go.RowKit

/-- The day behind a day. -/
theorem next_day (n : Int) (h0 : 719468 ≤ n) (h1 : n + 1 ≤ 719468 + 2932896) : dD (n + 1) = dD n + 1 ∨ dD (n + 1) = 1 ∧ dD n = daysIn (dY n) (dM n) := by
  obtain ⟨a1, a2⟩ := date_of n h0 (by omega)
  obtain ⟨b1, b2⟩ := date_of (n + 1) (by omega) h1
  generalize dY n = y at *
  generalize dM n = m at *
  generalize dD n = d at *
  obtain ⟨r1, r2, r3, r4, r5, r6⟩ := a1
  by_cases hd : d = daysIn y m
  · right
    by_cases hm : m ≤ 11
    · have he := month_end y m r1 r2 r3 hm
      have hb := bef_day y m d
      have hR : Right y (m + 1) 1 := ⟨r1, r2, by omega, by omega, by omega, by have := month_one (y := y) (m := m + 1) r1 r2 (by omega) (by omega); omega⟩
      exact ⟨(right_one b1 hR (by omega)).2.2, hd⟩
    · have hm' : m = 12 := by omega
      subst hm'
      have he := (year_end y r1 r2).1
      have hb := bef_day y 12 d
      have h31 : daysIn y 12 = 31 := by unfold daysIn; rw [if_neg (by omega)]; simp
      have hy : y ≤ 9998 := by
        rcases Int.lt_or_le y 9999 with h | h
        · omega
        · have : y = 9999 := by omega
          subst this
          have e2 : bef 10000 1 1 = 3652365 := by decide
          have e3 : bef (9999 + 1) 1 1 = 3652365 := e2
          omega
      have hR : Right (y + 1) 1 1 := ⟨by omega, by omega, by omega, by omega, by omega, by have := month_one (y := y + 1) (m := 1) (by omega) (by omega) (by omega) (by omega); omega⟩
      exact ⟨(right_one b1 hR (by omega)).2.2, hd⟩
  · left
    have hb := bef_day y m d
    have hb' := bef_day y m (d + 1)
    have hR : Right y m (d + 1) := ⟨r1, r2, r3, r4, by omega, by omega⟩
    exact (right_one b1 hR (by omega)).2.2
theorem stamp_inj {t u : Int} (h0 : 0 ≤ t) (h1 : t ≤ 253402300799) (h2 : 0 ≤ u) (h3 : u ≤ 253402300799) (h : stampOf t = stampOf u) : t = u := by
  have a := (stamp_tells t h0 h1).2.2.2
  have b := (stamp_tells u h2 h3).2.2.2
  rw [h, b] at a
  exact a.symm

set_option maxRecDepth 20000 in
set_option maxHeartbeats 4000000 in
theorem clockBack_out (t : Int) (h : t < 0 ∨ 253402300799 < t) (w : World) : Calls Try.prog 7 #[.int .i64 t] w fun r w' => r = .returned (.bool true) ∧ Below w.heap.size w w' := by
  have c1 := Lib.hid (civil_none t h)
  have c3 := Lib.hid (stamp_none t h)
  go_enter Try.func7, Try.ntmps7
  rcases h with h | h
  all_goals
    go_wp2_with first
      | (go_at_call 12; ((refine (awake09 _).mono ?_); rintro r w1 ⟨rfl, hb⟩; obtain ⟨b1, b1d, rfl⟩ := of_below hb; clear hb))
      | (go_at_call 13; ((refine (c1.out _).mono ?_); rintro r w1 ⟨rfl, hb⟩; obtain ⟨b2, b2d, rfl⟩ := of_below hb; clear hb))
      | (go_at_call 15; ((refine (c3.out _).mono ?_); rintro r w1 ⟨rfl, hb⟩; obtain ⟨b4, b4d, rfl⟩ := of_below hb; clear hb))
    all_goals (go_returns; exact ⟨rfl, by (repeat' (first | (with_reducible exact Below.refl _ _) | (with_reducible refine Below.app ?_ ?_ _ _) | (with_reducible refine Below.alloc ?_ ?_ _) | (with_reducible refine Below.drew ?_) | (with_reducible refine Below.setCell ?_ ?_ _) | (with_reducible assumption) | omega | (simp; omega) | (simp; done)))⟩)

set_option maxRecDepth 20000 in
set_option maxHeartbeats 8000000 in
theorem clockBack_in (t : Int) (h0 : 0 ≤ t) (h1 : t ≤ 253402300799) (w : World) : Calls Try.prog 7 #[.int .i64 t] w fun r w' => r = .returned (.bool true) ∧ Below w.heap.size w w' := by
  have c1 := civil_calls t h0 h1
  have c3 := stamp_calls t h0 h1
  have c4 := parse_stamp t h0 h1
  obtain ⟨hd, hs⟩ := date_of_time t h0 h1
  have c2 := seconds_yes _ _ _ _ _ _ _ hd
  rw [hs] at c2
  obtain ⟨hsz, -, -, -⟩ := stamp_tells t h0 h1
  have hD := hd.1.2.2.2.2
  unfold civV at c1
  have hsz' : ((stampOf t).size : Int) = 31 := by omega
  have k1 : decide (dD (t / 86400 + 719468) < 1) = false := by simp; omega
  have k2 : decide (daysIn (dY (t / 86400 + 719468)) (dM (t / 86400 + 719468)) < dD (t / 86400 + 719468)) = false := by simp; omega
  by_cases hlast : 253402214399 < t
  · clear hd hD hs hsz
    generalize stampOf t = st at *
    generalize dY (t / 86400 + 719468) = x1 at *
    generalize dM (t / 86400 + 719468) = x2 at *
    generalize dD (t / 86400 + 719468) = x3 at *
    generalize t % 86400 / 3600 = x4 at *
    generalize t % 86400 / 60 % 60 = x5 at *
    generalize t % 86400 % 60 = x6 at *
    generalize (t / 86400 + 3) % 7 = x7 at *
    replace c1 := Lib.hid c1
    replace c2 := Lib.hid c2
    replace c3 := Lib.hid c3
    replace c4 := Lib.hid c4
    go_enter Try.func7, Try.ntmps7
    go_wp2_with first
      | (go_at_call 12; ((refine (awake09 _).mono ?_); rintro r w1 ⟨rfl, hb⟩; obtain ⟨b1, b1d, rfl⟩ := of_below hb; clear hb))
      | (go_at_call 13; ((refine (c1.out _).mono ?_); rintro r w1 ⟨rfl, hb⟩; obtain ⟨b2, b2d, rfl⟩ := of_below hb; clear hb))
      | (go_at_call 15; ((refine (c3.out _).mono ?_); rintro r w1 ⟨rfl, hb⟩; obtain ⟨b4, b4d, rfl⟩ := of_below hb; clear hb))
      | (go_at_call 21; ((refine (c2.out _).mono ?_); rintro r w1 ⟨rfl, hb⟩; obtain ⟨b5, b5d, rfl⟩ := of_below hb; clear hb))
      | (go_at_call 23; ((refine (c4.out _).mono ?_); rintro r w1 ⟨rfl, hb⟩; obtain ⟨b6, b6d, rfl⟩ := of_below hb; clear hb))
    (apply wp_region_text 36; kernel_rfl; kernel_rfl; intro Fin hFin; (repeat (first | (apply text_run; exact rfl; (focus (intro bs d hF K hK; (try rw [app_app] at hK); (try rw [app_app]); (try simp only [Array.append_assoc] at hK ⊢); go_step; first  | (go_at_call 19; ((refine (days_calls _ _ _).mono ?_); rintro r w1 ⟨rfl, rfl⟩; simp only []; exact hK _ (Below.refl _ _)))  | (refine hK _ ?_; (repeat' (first | (with_reducible exact Below.refl _ _) | (with_reducible refine Below.app ?_ ?_ _ _) | (with_reducible refine Below.alloc ?_ ?_ _) | (with_reducible refine Below.drew ?_) | (with_reducible refine Below.setCell ?_ ?_ _) | (with_reducible assumption) | omega | (simp; omega) | (simp; done)))))); (try simp only [Act.put, List.setIfInBounds_toArray, List.set_cons_zero, List.set_cons_succ])) | (apply text_skip; exact rfl; (try simp only [Act.put, List.setIfInBounds_toArray, List.set_cons_zero, List.set_cons_succ])))); apply text_end; apply hFin; clear hFin Fin; intro bs d hfa)
    go_wp2
    go_returns; exact ⟨rfl, by (repeat' (first | (with_reducible exact Below.refl _ _) | (with_reducible refine Below.app ?_ ?_ _ _) | (with_reducible refine Below.alloc ?_ ?_ _) | (with_reducible refine Below.drew ?_) | (with_reducible refine Below.setCell ?_ ?_ _) | (with_reducible assumption) | omega | (simp; omega) | (simp; done)))⟩
  · have hn := next_day (t / 86400 + 719468) (by omega) (by omega)
    have c5 := civil_calls (t + 86400) (by omega) (by omega)
    have c6 := stamp_calls (t + 1) (by omega) (by omega)
    have hne : ¬ stampOf (t + 1) = stampOf t := fun h => by have := stamp_inj (by omega) (by omega) h0 h1 h; omega
    have hq := (Lib.bytes_beq_false_iff _ _).2 hne
    unfold civV at c5
    rw [show (t + 86400) / 86400 + 719468 = t / 86400 + 719468 + 1 by omega, show (t + 86400) % 86400 = t % 86400 by omega, show (t + 86400) / 86400 + 3 = t / 86400 + 3 + 1 by omega,
      show (t / 86400 + 3 + 1) % 7 = ((t / 86400 + 3) % 7 + 1) % 7 by omega] at c5
    have hwk : 0 ≤ (t / 86400 + 3) % 7 ∧ (t / 86400 + 3) % 7 < 7 := by omega
    obtain ⟨w0, w1⟩ := hwk
    have hx3 := daysIn_bd (dY (t / 86400 + 719468)) (dM (t / 86400 + 719468))
    obtain ⟨d1, d2⟩ := hD
    clear hd hs hsz hne
    generalize stampOf t = st at *
    generalize stampOf (t + 1) = st1 at *
    generalize dY (t / 86400 + 719468 + 1) = y1 at *
    generalize dM (t / 86400 + 719468 + 1) = y2 at *
    generalize dD (t / 86400 + 719468 + 1) = y3 at *
    generalize dY (t / 86400 + 719468) = x1 at *
    generalize dM (t / 86400 + 719468) = x2 at *
    generalize dD (t / 86400 + 719468) = x3 at *
    generalize t % 86400 / 3600 = x4 at *
    generalize t % 86400 / 60 % 60 = x5 at *
    generalize t % 86400 % 60 = x6 at *
    generalize (t / 86400 + 3) % 7 = x7 at *
    replace c1 := Lib.hid c1
    replace c2 := Lib.hid c2
    replace c3 := Lib.hid c3
    replace c4 := Lib.hid c4
    replace c5 := Lib.hid c5
    replace c6 := Lib.hid c6
    rcases hn with hn | ⟨hn, hn2⟩
    · subst hn
      go_enter Try.func7, Try.ntmps7
      go_wp2_with first
        | (go_at_call 12; ((refine (awake09 _).mono ?_); rintro r w1 ⟨rfl, hb⟩; obtain ⟨b1, b1d, rfl⟩ := of_below hb; clear hb))
        | (go_at_call 13; ((with_reducible refine (c1.out _).mono ?_); rintro r w1 ⟨rfl, hb⟩; obtain ⟨b2, b2d, rfl⟩ := of_below hb; clear hb))
        | (go_at_call 13; ((with_reducible refine (c5.out _).mono ?_); rintro r w1 ⟨rfl, hb⟩; obtain ⟨b3, b3d, rfl⟩ := of_below hb; clear hb))
        | (go_at_call 15; ((with_reducible refine (c3.out _).mono ?_); rintro r w1 ⟨rfl, hb⟩; obtain ⟨b4, b4d, rfl⟩ := of_below hb; clear hb))
        | (go_at_call 15; ((with_reducible refine (c6.out _).mono ?_); rintro r w1 ⟨rfl, hb⟩; obtain ⟨b7, b7d, rfl⟩ := of_below hb; clear hb))
        | (go_at_call 21; ((refine (c2.out _).mono ?_); rintro r w1 ⟨rfl, hb⟩; obtain ⟨b5, b5d, rfl⟩ := of_below hb; clear hb))
        | (go_at_call 23; ((refine (c4.out _).mono ?_); rintro r w1 ⟨rfl, hb⟩; obtain ⟨b6, b6d, rfl⟩ := of_below hb; clear hb))
      (apply wp_region_text 36; kernel_rfl; kernel_rfl; intro Fin hFin; (repeat (first | (apply text_run; exact rfl; (focus (intro bs d hF K hK; (try rw [app_app] at hK); (try rw [app_app]); (try simp only [Array.append_assoc] at hK ⊢); go_step; first  | (go_at_call 19; ((refine (days_calls _ _ _).mono ?_); rintro r w1 ⟨rfl, rfl⟩; simp only []; exact hK _ (Below.refl _ _)))  | (refine hK _ ?_; (repeat' (first | (with_reducible exact Below.refl _ _) | (with_reducible refine Below.app ?_ ?_ _ _) | (with_reducible refine Below.alloc ?_ ?_ _) | (with_reducible refine Below.drew ?_) | (with_reducible refine Below.setCell ?_ ?_ _) | (with_reducible assumption) | omega | (simp; omega) | (simp; done)))))); (try simp only [Act.put, List.setIfInBounds_toArray, List.set_cons_zero, List.set_cons_succ])) | (apply text_skip; exact rfl; (try simp only [Act.put, List.setIfInBounds_toArray, List.set_cons_zero, List.set_cons_succ])))); apply text_end; apply hFin; clear hFin Fin; intro bs d hfa)
      go_wp2_with first
        | (go_at_call 13; ((with_reducible refine (c5.out _).mono ?_); rintro r w1 ⟨rfl, hb⟩; obtain ⟨b3, b3d, rfl⟩ := of_below hb; clear hb))
        | (go_at_call 15; ((with_reducible refine (c6.out _).mono ?_); rintro r w1 ⟨rfl, hb⟩; obtain ⟨b7, b7d, rfl⟩ := of_below hb; clear hb))
      (apply wp_region_text 60; kernel_rfl; kernel_rfl; intro Fin hFin; (repeat (first | (apply text_run; exact rfl; (focus (intro bs d hF K hK; (try rw [app_app] at hK); (try rw [app_app]); go_step; first  | (go_at_call 19; ((refine (days_calls _ _ _).mono ?_); rintro r w1 ⟨rfl, rfl⟩; simp only []; exact hK _ (Below.refl _ _)))  | (refine hK _ ?_; (repeat' (first | (with_reducible exact Below.refl _ _) | (with_reducible refine Below.app ?_ ?_ _ _) | (with_reducible refine Below.alloc ?_ ?_ _) | (with_reducible refine Below.drew ?_) | (with_reducible refine Below.setCell ?_ ?_ _) | (with_reducible assumption) | omega | (simp; omega) | (simp; done)))))); (try simp only [Act.put, List.setIfInBounds_toArray, List.set_cons_zero, List.set_cons_succ])) | (apply text_skip; exact rfl; (try simp only [Act.put, List.setIfInBounds_toArray, List.set_cons_zero, List.set_cons_succ])))); apply text_end; apply hFin; clear hFin Fin; intro bs d hfa)
      go_wp2
      go_returns; exact ⟨rfl, by (repeat' (first | (with_reducible exact Below.refl _ _) | (with_reducible refine Below.app ?_ ?_ _ _) | (with_reducible refine Below.alloc ?_ ?_ _) | (with_reducible refine Below.drew ?_) | (with_reducible refine Below.setCell ?_ ?_ _) | (with_reducible assumption) | omega | (simp; omega) | (simp; done)))⟩
    · subst hn
      have hne : ¬ (1 : Int) = x3 + 1 := by omega
      have hdc : ∀ w : World, Calls Try.prog 19 #[.int .i64 x1, .int .i64 x2] w fun r w' => r = .returned (.int .i64 x3) ∧ w = w' := fun w => by rw [hn2]; exact days_calls _ _ _
      have hx3a : 0 ≤ x3 ∧ x3 ≤ 31 := by omega
      obtain ⟨hx3b, hx3c⟩ := hx3a
      have hne2 : ((1 : Int) == x3 + 1) = false := by simp; omega
      clear hn2 k2 hx3 d2
      replace hdc := Lib.hid hdc
      go_enter Try.func7, Try.ntmps7
      go_wp2_with first
        | (go_at_call 12; ((refine (awake09 _).mono ?_); rintro r w1 ⟨rfl, hb⟩; obtain ⟨b1, b1d, rfl⟩ := of_below hb; clear hb))
        | (go_at_call 13; ((with_reducible refine (c1.out _).mono ?_); rintro r w1 ⟨rfl, hb⟩; obtain ⟨b2, b2d, rfl⟩ := of_below hb; clear hb))
        | (go_at_call 13; ((with_reducible refine (c5.out _).mono ?_); rintro r w1 ⟨rfl, hb⟩; obtain ⟨b3, b3d, rfl⟩ := of_below hb; clear hb))
        | (go_at_call 15; ((with_reducible refine (c3.out _).mono ?_); rintro r w1 ⟨rfl, hb⟩; obtain ⟨b4, b4d, rfl⟩ := of_below hb; clear hb))
        | (go_at_call 15; ((with_reducible refine (c6.out _).mono ?_); rintro r w1 ⟨rfl, hb⟩; obtain ⟨b7, b7d, rfl⟩ := of_below hb; clear hb))
        | (go_at_call 21; ((refine (c2.out _).mono ?_); rintro r w1 ⟨rfl, hb⟩; obtain ⟨b5, b5d, rfl⟩ := of_below hb; clear hb))
        | (go_at_call 23; ((refine (c4.out _).mono ?_); rintro r w1 ⟨rfl, hb⟩; obtain ⟨b6, b6d, rfl⟩ := of_below hb; clear hb))
      (apply wp_region_text 36; kernel_rfl; kernel_rfl; intro Fin hFin; (repeat (first | (apply text_run; exact rfl; (focus (intro bs d hF K hK; (try rw [app_app] at hK); (try rw [app_app]); (try simp only [Array.append_assoc] at hK ⊢); go_step; first  | (go_at_call 19; ((refine (hdc.out _).mono ?_); rintro r w1 ⟨rfl, rfl⟩; simp only []; exact hK _ (Below.refl _ _)))  | (refine hK _ ?_; (repeat' (first | (with_reducible exact Below.refl _ _) | (with_reducible refine Below.app ?_ ?_ _ _) | (with_reducible refine Below.alloc ?_ ?_ _) | (with_reducible refine Below.drew ?_) | (with_reducible refine Below.setCell ?_ ?_ _) | (with_reducible assumption) | omega | (simp; omega) | (simp; done)))))); (try simp only [Act.put, List.setIfInBounds_toArray, List.set_cons_zero, List.set_cons_succ])) | (apply text_skip; exact rfl; (try simp only [Act.put, List.setIfInBounds_toArray, List.set_cons_zero, List.set_cons_succ])))); apply text_end; apply hFin; clear hFin Fin; intro bs d hfa)
      go_wp2_with first
        | (go_at_call 13; ((with_reducible refine (c5.out _).mono ?_); rintro r w1 ⟨rfl, hb⟩; obtain ⟨b3, b3d, rfl⟩ := of_below hb; clear hb))
        | (go_at_call 15; ((with_reducible refine (c6.out _).mono ?_); rintro r w1 ⟨rfl, hb⟩; obtain ⟨b7, b7d, rfl⟩ := of_below hb; clear hb))
      (apply wp_region_text 60; kernel_rfl; kernel_rfl; intro Fin hFin; (repeat (first | (apply text_run; exact rfl; (focus (intro bs d hF K hK; (try rw [app_app] at hK); (try rw [app_app]); go_step; first  | (go_at_call 19; ((refine (hdc.out _).mono ?_); rintro r w1 ⟨rfl, rfl⟩; simp only []; exact hK _ (Below.refl _ _)))  | (refine hK _ ?_; (repeat' (first | (with_reducible exact Below.refl _ _) | (with_reducible refine Below.app ?_ ?_ _ _) | (with_reducible refine Below.alloc ?_ ?_ _) | (with_reducible refine Below.drew ?_) | (with_reducible refine Below.setCell ?_ ?_ _) | (with_reducible assumption) | omega | (simp; omega) | (simp; done)))))); (try simp only [Act.put, List.setIfInBounds_toArray, List.set_cons_zero, List.set_cons_succ])) | (apply text_skip; exact rfl; (try simp only [Act.put, List.setIfInBounds_toArray, List.set_cons_zero, List.set_cons_succ])))); apply text_end; apply hFin; clear hFin Fin; intro bs d hfa)
      go_wp2
      go_returns; exact ⟨rfl, by (repeat' (first | (with_reducible exact Below.refl _ _) | (with_reducible refine Below.app ?_ ?_ _ _) | (with_reducible refine Below.alloc ?_ ?_ _) | (with_reducible refine Below.drew ?_) | (with_reducible refine Below.setCell ?_ ?_ _) | (with_reducible assumption) | omega | (simp; omega) | (simp; done)))⟩

theorem clockBack_law : LawWalk 7 Try.f7 := by
  intro H enc W base args ds ps hA hval
  rw [Try.params7] at hA hval
  obtain ⟨v0, vs0, d0, ds0, p0, q0, hargs, rfl, rfl, h0, r0⟩ := trodAll_cons hA
  obtain ⟨rfl, rfl, rfl⟩ := trodAll_nil r0
  obtain rfl : args = #[v0] := by cases args; simp_all
  obtain ⟨n0, rfl, -, -, w0⟩ := open_int Try.underlying3 (hval 0 _ _ rfl rfl) h0
  by_cases h : 0 ≤ n0 ∧ n0 ≤ 253402300799
  · exact clockBack_in n0 h.1 h.2 W
  · exact clockBack_out n0 (by omega) W

set_option maxRecDepth 100000 in
theorem clockBack_holds : Rows.ClockBackSaid :=
  OpenClaim.holds_of_wide 7 Try.f7 rfl rfl rfl rfl rfl rfl rfl ⟨rfl, rfl, rfl, rfl, rfl⟩ rfl rfl rfl rfl rfl (by kernel_rfl) Try.func7 (by kernel_rfl)
    (of_decide_eq_true (by kernel_rfl)) (by unfold Func.isWrapper; first | (rw [if_pos (by decide +kernel)]; kernel_rfl) | (rw [if_neg (by decide +kernel)]; exact ⟨rfl, rfl⟩))
    (fun os started H enc _ => law_lift (s := Rows.clockBackSpec) Try.func7 (by kernel_rfl) (by kernel_rfl) rfl (fun H ds hd => by match ds, hd with | [_], _ => rfl) (by kernel_rfl) os started H enc
      (ChangeSpec.witness6 (enc := enc) (C := Try.checked) false ⟨#[], #[.int .i64 0], []⟩ 8 (by kernel_rfl) (by kernel_rfl) (by kernel_rfl) (by kernel_rfl)) clockBack_law)
#print axioms clockBack_holds
end Go.Proofs.Ytbnghchniboggaa
