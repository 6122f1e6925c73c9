/-
  ref09.Seconds: what it gives.
-/
import Derived.Test.YtbnghchniboggaaClockSec
namespace Go.Proofs.Ytbnghchniboggaa
open Go.ChangeShapes Go.WideShapes Go.ChangeAt Go.RowKit

def rsecOf (y m d h i s wk : Int) : Int := if wk = (bef y m d - 719468 + 3) % 7 then secOf y m d h i s else -1

theorem month_one {y m : Int} (h1 : 1970 ≤ y) (h2 : y ≤ 9999) (h3 : 1 ≤ m) (h4 : m ≤ 12) : 28 ≤ daysIn y m := by unfold daysIn; rw [if_neg (by omega)]; repeat' split <;> omega
def RelM (d y m : Int) (W : World) (s3 s5 : Value) (wr : World) : Prop :=
  ∃ (k : Int) (bs : Array Obj) (e : Nat), 1 ≤ k ∧ k ≤ m ∧ s5 = .int .i64 k ∧ s3 = .int .i64 (bef y k 1 - 719468 + d - 1) ∧ wr = app W bs e

set_option maxHeartbeats 8000000 in
theorem rseconds_right (y m dy h i s wk : Int) (hr : Right y m dy) (t1 : 0 ≤ h ∧ h < 24) (t2 : 0 ≤ i ∧ i < 60) (t3 : 0 ≤ s ∧ s < 60) (w : World) : Calls Try.prog 22 #[.agg #[.int .i64 y, .int .i64 m, .int .i64 dy, .int .i64 h, .int .i64 i, .int .i64 s, .int .i64 wk]] w
    fun r w' => r = .returned (.int .i64 (rsecOf y m dy h i s wk)) ∧ Below w.heap.size w w' := by
  obtain ⟨c1, c2⟩ := daysIn_bd y m
  have hrH := Lib.hid hr
  obtain ⟨r1, r2, r3, r4, r5, r6⟩ := hr
  have f1 : decide (dy < 1) = false := by simp; omega
  have f2 : decide (daysIn y m < dy) = false := by simp; omega
  have f3 : decide (h < 0) = false := by simp; omega
  have f4 : decide (23 < h) = false := by simp; omega
  have f5 : decide (i < 0) = false := by simp; omega
  have f6 : decide (59 < i) = false := by simp; omega
  have f7 : decide (s < 0) = false := by simp; omega
  have f8 : decide (59 < s) = false := by simp; omega
  generalize hR : rsecOf y m dy h i s wk = R
  unfold rsecOf secOf at hR
  go_enter Try.func22, Try.ntmps22
  go_wp2
  (apply wp_region_text 43; kernel_rfl; kernel_rfl; intro Fin hFin; (repeat (first | (apply text_run; exact rfl; (focus (intro bs d hF K hK; (try rw [app_app] at hK); (try rw [app_app]); go_step; first  | (go_at_call 20; ((refine (rdays_calls _ _ _).mono ?_); rintro r w1 ⟨rfl, hb⟩; simp only []; exact hK _ hb))  | (refine hK _ ?_; (repeat' (first | (with_reducible exact Below.refl _ _) | (with_reducible refine Below.app ?_ ?_ _ _) | (with_reducible refine Below.alloc ?_ ?_ _) | (with_reducible refine Below.drew ?_) | (with_reducible refine Below.setCell ?_ ?_ _) | (with_reducible assumption) | omega | (simp; omega) | (simp; done)))))); (try simp only [Act.put, List.setIfInBounds_toArray, List.set_cons_zero, List.set_cons_succ])) | (apply text_skip; exact rfl; (try simp only [Act.put, List.setIfInBounds_toArray, List.set_cons_zero, List.set_cons_succ])))); apply text_end; apply hFin; clear hFin Fin; intro bs d hfa)
  go_wp2
  go_loop [3, 4] (fun n i => ∃ k : Int, 1970 ≤ k ∧ k ≤ y ∧ i = .int .i64 k ∧ n = .int .i64 (bef k 1 1 - 719468 + dy - 1)) (fun _ i => (y - intOf i).toNat)
  case atStart => exact ⟨1970, by omega, by omega, rfl, by rw [show bef 1970 1 1 = 719468 by decide]; congr 1; omega⟩
  case round =>
    obtain ⟨k, k1, k2, rfl, rfl⟩ := hrel
    by_cases hlt : k < y
    · have hb := bef_bd (y := k) (m := 1) (d := 1) ⟨k1, by omega, by omega, by omega, by omega, by have := month_one (y := k) (m := 1) (by omega) (by omega) (by omega) (by omega); omega⟩
      have he := Lib.hid (year_end k k1 (by omega)).2
      generalize bef k 1 1 = B at *
      go_wp2_with (go_at_call 30; ((refine (length_calls _ _).mono ?_); rintro r w1 ⟨rfl, rfl⟩))
      all_goals go_round
      case rel => exact ⟨k + 1, by omega, by omega, by go_num, by go_light; congr 1; have := he.out; grind⟩
      case measure => simp [intOf]; omega
    · have hk : k = y := by omega
      subst hk
      clear k1 k2
      go_wp2
      go_loopw [3, 5] (fun n q wr => RelM dy k m (w.alloc (.cells #[.int .i64 k, .int .i64 m, .int .i64 dy, .int .i64 h, .int .i64 i, .int .i64 s, .int .i64 wk] 27)) n q wr) (fun _ q _ => (m - intOf q).toNat)
      case atStart => exact ⟨1, bs, d, by omega, by omega, rfl, rfl, rfl⟩
      case round =>
        obtain ⟨j, bs2, d2, j1, j2, rfl, rfl, rfl⟩ := hrel
        by_cases hjm : j < m
        · have hb := bef_bd (y := k) (m := j) (d := 1) ⟨r1, by omega, by omega, by omega, by omega, by have := month_one (y := k) (m := j) (by omega) (by omega) (by omega) (by omega); omega⟩
          have he := Lib.hid (month_end k j r1 r2 j1 (by omega))
          obtain ⟨u1, u2⟩ := daysIn_bd k j
          have he' : Hid (Value.int .i64 (bef k j 1 - 719468 + dy - 1 + daysIn k j) = .int .i64 (bef k (j + 1) 1 - 719468 + dy - 1)) := by unfold Hid; congr 1; have := he.out; omega
          have u3 : bef k j 1 ≤ 3652364 := hb.2
          go_wp2_with (go_at_call 20; ((refine (rdays_calls _ _ _).mono ?_); rintro r w1 ⟨rfl, hb⟩; obtain ⟨b4, b4d, rfl⟩ := of_below hb; clear hb))
          go_roundw
          case rel => first | exact ⟨j + 1, _, _, by omega, by omega, by go_num, he'.out, rfl⟩ | ((repeat apply Exists.intro); refine ⟨?rl, ?fr⟩; case fr => ((repeat' apply And.intro) <;> exact rfl); case rl => exact ⟨j + 1, _, _, by omega, by omega, by go_num, he'.out, rfl⟩)
          case measure => simp [intOf]; omega
        · have hj : j = m := by omega
          subst hj
          clear j1 j2
          obtain ⟨b1, b2⟩ := bef_bd hrH.out
          rw [bef_day] at b1 b2
          rw [bef_day] at hR
          generalize bef k j 1 = B at *
          replace hR := Lib.hid hR
          go_wp2
          all_goals (go_returns; refine ⟨ri ?_, by (repeat' (first | (with_reducible exact Below.refl _ _) | (with_reducible refine Below.app ?_ ?_ _ _) | (with_reducible refine Below.alloc ?_ ?_ _) | (with_reducible refine Below.drew ?_) | (with_reducible refine Below.setCell ?_ ?_ _) | (with_reducible assumption) | omega | (simp; omega) | (simp; done)))⟩; go_light; have := hR.out; grind)

set_option maxHeartbeats 8000000 in
theorem rseconds_none (y m dy h i s wk : Int) (hn : ¬ (Right y m dy ∧ (0 ≤ h ∧ h < 24) ∧ (0 ≤ i ∧ i < 60) ∧ (0 ≤ s ∧ s < 60))) (w : World) : Calls Try.prog 22 #[.agg #[.int .i64 y, .int .i64 m, .int .i64 dy, .int .i64 h, .int .i64 i, .int .i64 s, .int .i64 wk]] w
    fun r w' => r = .returned (.int .i64 (-1)) ∧ Below w.heap.size w w' := by
  obtain ⟨c1, c2⟩ := daysIn_bd y m
  by_cases f1 : decide (dy < 1) = true
  · go_enter Try.func22, Try.ntmps22
    go_wp2
    (apply wp_region_text 43; kernel_rfl; kernel_rfl; intro Fin hFin; (repeat (first | (apply text_run; exact rfl; (focus (intro bs d hF K hK; (try rw [app_app] at hK); (try rw [app_app]); go_step; first  | fail  | (refine hK _ ?_; (repeat' (first | (with_reducible exact Below.refl _ _) | (with_reducible refine Below.app ?_ ?_ _ _) | (with_reducible refine Below.alloc ?_ ?_ _) | (with_reducible refine Below.drew ?_) | (with_reducible refine Below.setCell ?_ ?_ _) | (with_reducible assumption) | omega | (simp; omega) | (simp; done)))))); (try simp only [Act.put, List.setIfInBounds_toArray, List.set_cons_zero, List.set_cons_succ])) | (apply text_skip; exact rfl; (try simp only [Act.put, List.setIfInBounds_toArray, List.set_cons_zero, List.set_cons_succ])))); apply text_end; apply hFin; clear hFin Fin; intro bs d hfa)
    go_wp2
    go_returns; exact ⟨rfl, by (repeat' (first | (with_reducible exact Below.refl _ _) | (with_reducible refine Below.app ?_ ?_ _ _) | (with_reducible refine Below.alloc ?_ ?_ _) | (with_reducible refine Below.drew ?_) | (with_reducible refine Below.setCell ?_ ?_ _) | (with_reducible assumption) | omega | (simp; omega) | (simp; done)))⟩
  replace f1 : decide (dy < 1) = false := by simpa using f1
  by_cases f2 : decide (daysIn y m < dy) = true
  · go_enter Try.func22, Try.ntmps22
    go_wp2
    (apply wp_region_text 43; kernel_rfl; kernel_rfl; intro Fin hFin; (repeat (first | (apply text_run; exact rfl; (focus (intro bs d hF K hK; (try rw [app_app] at hK); (try rw [app_app]); go_step; first  | (go_at_call 20; ((refine (rdays_calls _ _ _).mono ?_); rintro r w1 ⟨rfl, hb⟩; simp only []; exact hK _ hb))  | (refine hK _ ?_; (repeat' (first | (with_reducible exact Below.refl _ _) | (with_reducible refine Below.app ?_ ?_ _ _) | (with_reducible refine Below.alloc ?_ ?_ _) | (with_reducible refine Below.drew ?_) | (with_reducible refine Below.setCell ?_ ?_ _) | (with_reducible assumption) | omega | (simp; omega) | (simp; done)))))); (try simp only [Act.put, List.setIfInBounds_toArray, List.set_cons_zero, List.set_cons_succ])) | (apply text_skip; exact rfl; (try simp only [Act.put, List.setIfInBounds_toArray, List.set_cons_zero, List.set_cons_succ])))); apply text_end; apply hFin; clear hFin Fin; intro bs d hfa)
    go_wp2
    go_returns; exact ⟨rfl, by (repeat' (first | (with_reducible exact Below.refl _ _) | (with_reducible refine Below.app ?_ ?_ _ _) | (with_reducible refine Below.alloc ?_ ?_ _) | (with_reducible refine Below.drew ?_) | (with_reducible refine Below.setCell ?_ ?_ _) | (with_reducible assumption) | omega | (simp; omega) | (simp; done)))⟩
  replace f2 : decide (daysIn y m < dy) = false := by simpa using f2
  by_cases f3 : decide (h < 0) = true
  · go_enter Try.func22, Try.ntmps22
    go_wp2
    (apply wp_region_text 43; kernel_rfl; kernel_rfl; intro Fin hFin; (repeat (first | (apply text_run; exact rfl; (focus (intro bs d hF K hK; (try rw [app_app] at hK); (try rw [app_app]); go_step; first  | (go_at_call 20; ((refine (rdays_calls _ _ _).mono ?_); rintro r w1 ⟨rfl, hb⟩; simp only []; exact hK _ hb))  | (refine hK _ ?_; (repeat' (first | (with_reducible exact Below.refl _ _) | (with_reducible refine Below.app ?_ ?_ _ _) | (with_reducible refine Below.alloc ?_ ?_ _) | (with_reducible refine Below.drew ?_) | (with_reducible refine Below.setCell ?_ ?_ _) | (with_reducible assumption) | omega | (simp; omega) | (simp; done)))))); (try simp only [Act.put, List.setIfInBounds_toArray, List.set_cons_zero, List.set_cons_succ])) | (apply text_skip; exact rfl; (try simp only [Act.put, List.setIfInBounds_toArray, List.set_cons_zero, List.set_cons_succ])))); apply text_end; apply hFin; clear hFin Fin; intro bs d hfa)
    go_wp2
    go_returns; exact ⟨rfl, by (repeat' (first | (with_reducible exact Below.refl _ _) | (with_reducible refine Below.app ?_ ?_ _ _) | (with_reducible refine Below.alloc ?_ ?_ _) | (with_reducible refine Below.drew ?_) | (with_reducible refine Below.setCell ?_ ?_ _) | (with_reducible assumption) | omega | (simp; omega) | (simp; done)))⟩
  replace f3 : decide (h < 0) = false := by simpa using f3
  by_cases f4 : decide (23 < h) = true
  · go_enter Try.func22, Try.ntmps22
    go_wp2
    (apply wp_region_text 43; kernel_rfl; kernel_rfl; intro Fin hFin; (repeat (first | (apply text_run; exact rfl; (focus (intro bs d hF K hK; (try rw [app_app] at hK); (try rw [app_app]); go_step; first  | (go_at_call 20; ((refine (rdays_calls _ _ _).mono ?_); rintro r w1 ⟨rfl, hb⟩; simp only []; exact hK _ hb))  | (refine hK _ ?_; (repeat' (first | (with_reducible exact Below.refl _ _) | (with_reducible refine Below.app ?_ ?_ _ _) | (with_reducible refine Below.alloc ?_ ?_ _) | (with_reducible refine Below.drew ?_) | (with_reducible refine Below.setCell ?_ ?_ _) | (with_reducible assumption) | omega | (simp; omega) | (simp; done)))))); (try simp only [Act.put, List.setIfInBounds_toArray, List.set_cons_zero, List.set_cons_succ])) | (apply text_skip; exact rfl; (try simp only [Act.put, List.setIfInBounds_toArray, List.set_cons_zero, List.set_cons_succ])))); apply text_end; apply hFin; clear hFin Fin; intro bs d hfa)
    go_wp2
    go_returns; exact ⟨rfl, by (repeat' (first | (with_reducible exact Below.refl _ _) | (with_reducible refine Below.app ?_ ?_ _ _) | (with_reducible refine Below.alloc ?_ ?_ _) | (with_reducible refine Below.drew ?_) | (with_reducible refine Below.setCell ?_ ?_ _) | (with_reducible assumption) | omega | (simp; omega) | (simp; done)))⟩
  replace f4 : decide (23 < h) = false := by simpa using f4
  by_cases f5 : decide (i < 0) = true
  · go_enter Try.func22, Try.ntmps22
    go_wp2
    (apply wp_region_text 43; kernel_rfl; kernel_rfl; intro Fin hFin; (repeat (first | (apply text_run; exact rfl; (focus (intro bs d hF K hK; (try rw [app_app] at hK); (try rw [app_app]); go_step; first  | (go_at_call 20; ((refine (rdays_calls _ _ _).mono ?_); rintro r w1 ⟨rfl, hb⟩; simp only []; exact hK _ hb))  | (refine hK _ ?_; (repeat' (first | (with_reducible exact Below.refl _ _) | (with_reducible refine Below.app ?_ ?_ _ _) | (with_reducible refine Below.alloc ?_ ?_ _) | (with_reducible refine Below.drew ?_) | (with_reducible refine Below.setCell ?_ ?_ _) | (with_reducible assumption) | omega | (simp; omega) | (simp; done)))))); (try simp only [Act.put, List.setIfInBounds_toArray, List.set_cons_zero, List.set_cons_succ])) | (apply text_skip; exact rfl; (try simp only [Act.put, List.setIfInBounds_toArray, List.set_cons_zero, List.set_cons_succ])))); apply text_end; apply hFin; clear hFin Fin; intro bs d hfa)
    go_wp2
    go_returns; exact ⟨rfl, by (repeat' (first | (with_reducible exact Below.refl _ _) | (with_reducible refine Below.app ?_ ?_ _ _) | (with_reducible refine Below.alloc ?_ ?_ _) | (with_reducible refine Below.drew ?_) | (with_reducible refine Below.setCell ?_ ?_ _) | (with_reducible assumption) | omega | (simp; omega) | (simp; done)))⟩
  replace f5 : decide (i < 0) = false := by simpa using f5
  by_cases f6 : decide (59 < i) = true
  · go_enter Try.func22, Try.ntmps22
    go_wp2
    (apply wp_region_text 43; kernel_rfl; kernel_rfl; intro Fin hFin; (repeat (first | (apply text_run; exact rfl; (focus (intro bs d hF K hK; (try rw [app_app] at hK); (try rw [app_app]); go_step; first  | (go_at_call 20; ((refine (rdays_calls _ _ _).mono ?_); rintro r w1 ⟨rfl, hb⟩; simp only []; exact hK _ hb))  | (refine hK _ ?_; (repeat' (first | (with_reducible exact Below.refl _ _) | (with_reducible refine Below.app ?_ ?_ _ _) | (with_reducible refine Below.alloc ?_ ?_ _) | (with_reducible refine Below.drew ?_) | (with_reducible refine Below.setCell ?_ ?_ _) | (with_reducible assumption) | omega | (simp; omega) | (simp; done)))))); (try simp only [Act.put, List.setIfInBounds_toArray, List.set_cons_zero, List.set_cons_succ])) | (apply text_skip; exact rfl; (try simp only [Act.put, List.setIfInBounds_toArray, List.set_cons_zero, List.set_cons_succ])))); apply text_end; apply hFin; clear hFin Fin; intro bs d hfa)
    go_wp2
    go_returns; exact ⟨rfl, by (repeat' (first | (with_reducible exact Below.refl _ _) | (with_reducible refine Below.app ?_ ?_ _ _) | (with_reducible refine Below.alloc ?_ ?_ _) | (with_reducible refine Below.drew ?_) | (with_reducible refine Below.setCell ?_ ?_ _) | (with_reducible assumption) | omega | (simp; omega) | (simp; done)))⟩
  replace f6 : decide (59 < i) = false := by simpa using f6
  by_cases f7 : decide (s < 0) = true
  · go_enter Try.func22, Try.ntmps22
    go_wp2
    (apply wp_region_text 43; kernel_rfl; kernel_rfl; intro Fin hFin; (repeat (first | (apply text_run; exact rfl; (focus (intro bs d hF K hK; (try rw [app_app] at hK); (try rw [app_app]); go_step; first  | (go_at_call 20; ((refine (rdays_calls _ _ _).mono ?_); rintro r w1 ⟨rfl, hb⟩; simp only []; exact hK _ hb))  | (refine hK _ ?_; (repeat' (first | (with_reducible exact Below.refl _ _) | (with_reducible refine Below.app ?_ ?_ _ _) | (with_reducible refine Below.alloc ?_ ?_ _) | (with_reducible refine Below.drew ?_) | (with_reducible refine Below.setCell ?_ ?_ _) | (with_reducible assumption) | omega | (simp; omega) | (simp; done)))))); (try simp only [Act.put, List.setIfInBounds_toArray, List.set_cons_zero, List.set_cons_succ])) | (apply text_skip; exact rfl; (try simp only [Act.put, List.setIfInBounds_toArray, List.set_cons_zero, List.set_cons_succ])))); apply text_end; apply hFin; clear hFin Fin; intro bs d hfa)
    go_wp2
    go_returns; exact ⟨rfl, by (repeat' (first | (with_reducible exact Below.refl _ _) | (with_reducible refine Below.app ?_ ?_ _ _) | (with_reducible refine Below.alloc ?_ ?_ _) | (with_reducible refine Below.drew ?_) | (with_reducible refine Below.setCell ?_ ?_ _) | (with_reducible assumption) | omega | (simp; omega) | (simp; done)))⟩
  replace f7 : decide (s < 0) = false := by simpa using f7
  by_cases f8 : decide (59 < s) = true
  · go_enter Try.func22, Try.ntmps22
    go_wp2
    (apply wp_region_text 43; kernel_rfl; kernel_rfl; intro Fin hFin; (repeat (first | (apply text_run; exact rfl; (focus (intro bs d hF K hK; (try rw [app_app] at hK); (try rw [app_app]); go_step; first  | (go_at_call 20; ((refine (rdays_calls _ _ _).mono ?_); rintro r w1 ⟨rfl, hb⟩; simp only []; exact hK _ hb))  | (refine hK _ ?_; (repeat' (first | (with_reducible exact Below.refl _ _) | (with_reducible refine Below.app ?_ ?_ _ _) | (with_reducible refine Below.alloc ?_ ?_ _) | (with_reducible refine Below.drew ?_) | (with_reducible refine Below.setCell ?_ ?_ _) | (with_reducible assumption) | omega | (simp; omega) | (simp; done)))))); (try simp only [Act.put, List.setIfInBounds_toArray, List.set_cons_zero, List.set_cons_succ])) | (apply text_skip; exact rfl; (try simp only [Act.put, List.setIfInBounds_toArray, List.set_cons_zero, List.set_cons_succ])))); apply text_end; apply hFin; clear hFin Fin; intro bs d hfa)
    go_wp2
    go_returns; exact ⟨rfl, by (repeat' (first | (with_reducible exact Below.refl _ _) | (with_reducible refine Below.app ?_ ?_ _ _) | (with_reducible refine Below.alloc ?_ ?_ _) | (with_reducible refine Below.drew ?_) | (with_reducible refine Below.setCell ?_ ?_ _) | (with_reducible assumption) | omega | (simp; omega) | (simp; done)))⟩
  replace f8 : decide (59 < s) = false := by simpa using f8
  simp only [decide_eq_false_iff_not] at f1 f2 f3 f4 f5 f6 f7 f8
  exact absurd ⟨right_of (by omega) (by omega), by omega, by omega, by omega⟩ hn

open Classical in
theorem rseconds_calls (y m dy h i s wk : Int) (w : World) : Calls Try.prog 22 #[.agg #[.int .i64 y, .int .i64 m, .int .i64 dy, .int .i64 h, .int .i64 i, .int .i64 s, .int .i64 wk]] w
    fun r w' => r = .returned (.int .i64 (if isDate y m dy h i s wk then secOf y m dy h i s else -1)) ∧ Below w.heap.size w w' := by
  by_cases hc : Right y m dy ∧ (0 ≤ h ∧ h < 24) ∧ (0 ≤ i ∧ i < 60) ∧ (0 ≤ s ∧ s < 60)
  · have := rseconds_right y m dy h i s wk hc.1 hc.2.1 hc.2.2.1 hc.2.2.2 w
    rw [show rsecOf y m dy h i s wk = if isDate y m dy h i s wk then secOf y m dy h i s else -1 from by
      unfold rsecOf
      by_cases hw : wk = (bef y m dy - 719468 + 3) % 7
      · rw [if_pos hw, if_pos ⟨hc.1, hc.2.1.1, hc.2.1.2, hc.2.2.1.1, hc.2.2.1.2, hc.2.2.2.1, hc.2.2.2.2, hw⟩]
      · rw [if_neg hw, if_neg (fun hd => hw hd.2.2.2.2.2.2.2)]] at this
    exact this
  · have := rseconds_none y m dy h i s wk hc w
    rw [if_neg (fun hd : isDate y m dy h i s wk => hc ⟨hd.1, ⟨hd.2.1, hd.2.2.1⟩, ⟨hd.2.2.2.1, hd.2.2.2.2.1⟩, ⟨hd.2.2.2.2.2.1, hd.2.2.2.2.2.2.1⟩⟩)]
    exact this

open Classical in
theorem seconds_calls (y m d h i s wk : Int) (w : World) : Calls Try.prog 21 #[.agg #[.int .i64 y, .int .i64 m, .int .i64 d, .int .i64 h, .int .i64 i, .int .i64 s, .int .i64 wk]] w
    fun r w' => r = .returned (.tuple #[.int .i64 (if isDate y m d h i s wk then secOf y m d h i s else 0), .bool (decide (isDate y m d h i s wk))]) ∧ Below w.heap.size w w' := by
  by_cases hd : isDate y m d h i s wk
  · have := seconds_yes y m d h i s wk hd w
    rw [if_pos hd, decide_eq_true hd]; exact this
  · have := seconds_no y m d h i s wk hd w
    rw [if_neg hd, decide_eq_false hd]; exact this
end Go.Proofs.Ytbnghchniboggaa
