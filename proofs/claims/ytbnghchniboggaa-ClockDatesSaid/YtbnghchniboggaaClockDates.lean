/-
  clock.ClockDates answers true at every input: the date and the stamp of any time, and how many days any month has, are the document's.
-/
import Derived.Test.YtbnghchniboggaaAwake09
import Derived.Test.YtbnghchniboggaaRow
import Derived.Test.YtbnghchniboggaaOpen
namespace Go.Proofs.Ytbnghchniboggaa
open Go.ChangeShapes Go.WideShapes Go.ChangeAt Go.RowKit

set_option maxRecDepth 20000 in
set_option maxHeartbeats 4000000 in
theorem clockDates_walk (t y m : Int) (w : World) : Calls Try.prog 4 #[.int .i64 t, .int .i64 y, .int .i64 m] w fun r w' => r = .returned (.bool true) ∧ Below w.heap.size w w' := by
  by_cases h : 0 ≤ t ∧ t ≤ 253402300799
  · have c1 := civil_calls t h.1 h.2
    have c2 := rcivil_calls t h.1 h.2
    have c3 := stamp_calls t h.1 h.2
    have c4 := rstamp_calls t h.1 h.2
    unfold civV at c1
    generalize stampOf t = st at *
    generalize dY (t / 86400 + 719468) = x1 at *
    generalize dM (t / 86400 + 719468) = x2 at *
    generalize dD (t / 86400 + 719468) = x3 at *
    generalize t % 86400 / 3600 = x4 at *
    generalize t % 86400 / 60 % 60 = x5 at *
    generalize t % 86400 % 60 = x6 at *
    generalize (t / 86400 + 3) % 7 = x7 at *
    replace c1 := Lib.hid c1
    replace c2 := Lib.hid c2
    replace c3 := Lib.hid c3
    replace c4 := Lib.hid c4
    go_enter Try.func4, Try.ntmps4
    go_wp2_with first
      | (go_at_call 12; ((refine (awake09 _).mono ?_); rintro r w1 ⟨rfl, hb⟩; obtain ⟨b1, b1d, rfl⟩ := of_below hb; clear hb))
      | (go_at_call 13; ((refine (c1.out _).mono ?_); rintro r w1 ⟨rfl, hb⟩; obtain ⟨b2, b2d, rfl⟩ := of_below hb; clear hb))
      | (go_at_call 14; ((refine (c2.out _).mono ?_); rintro r w1 ⟨rfl, hb⟩; obtain ⟨b3, b3d, rfl⟩ := of_below hb; clear hb))
      | (go_at_call 15; ((refine (c3.out _).mono ?_); rintro r w1 ⟨rfl, hb⟩; obtain ⟨b4, b4d, rfl⟩ := of_below hb; clear hb))
      | (go_at_call 16; ((refine (c4.out _).mono ?_); rintro r w1 ⟨rfl, hb⟩; obtain ⟨b5, b5d, rfl⟩ := of_below hb; clear hb))
      | (go_at_call 17; ((refine (leap_calls _ _).mono ?_); rintro r w1 ⟨rfl, rfl⟩))
      | (go_at_call 18; ((refine (rleap_calls _ _).mono ?_); rintro r w1 ⟨rfl, rfl⟩))
      | (go_at_call 19; ((refine (days_calls _ _ _).mono ?_); rintro r w1 ⟨rfl, rfl⟩))
      | (go_at_call 20; ((refine (rdays_calls _ _ _).mono ?_); rintro r w1 ⟨rfl, hb⟩; obtain ⟨b6, b6d, rfl⟩ := of_below hb; clear hb))
    go_returns; exact ⟨rfl, by (repeat' (first | (with_reducible exact Below.refl _ _) | (with_reducible refine Below.app ?_ ?_ _ _) | (with_reducible refine Below.alloc ?_ ?_ _) | (with_reducible refine Below.drew ?_) | (with_reducible refine Below.setCell ?_ ?_ _) | (with_reducible assumption) | omega | (simp; omega) | (simp; done)))⟩
  · have h' : t < 0 ∨ 253402300799 < t := by omega
    have c1 := Lib.hid (civil_none t h')
    have c2 := Lib.hid (rcivil_none t h')
    have c3 := Lib.hid (stamp_none t h')
    have c4 := Lib.hid (rstamp_none t h')
    clear h h'
    go_enter Try.func4, Try.ntmps4
    go_wp2_with first
      | (go_at_call 12; ((refine (awake09 _).mono ?_); rintro r w1 ⟨rfl, hb⟩; obtain ⟨b1, b1d, rfl⟩ := of_below hb; clear hb))
      | (go_at_call 13; ((refine (c1.out _).mono ?_); rintro r w1 ⟨rfl, hb⟩; obtain ⟨b2, b2d, rfl⟩ := of_below hb; clear hb))
      | (go_at_call 14; ((refine (c2.out _).mono ?_); rintro r w1 ⟨rfl, hb⟩; obtain ⟨b3, b3d, rfl⟩ := of_below hb; clear hb))
      | (go_at_call 15; ((refine (c3.out _).mono ?_); rintro r w1 ⟨rfl, hb⟩; obtain ⟨b4, b4d, rfl⟩ := of_below hb; clear hb))
      | (go_at_call 16; ((refine (c4.out _).mono ?_); rintro r w1 ⟨rfl, hb⟩; obtain ⟨b5, b5d, rfl⟩ := of_below hb; clear hb))
      | (go_at_call 17; ((refine (leap_calls _ _).mono ?_); rintro r w1 ⟨rfl, rfl⟩))
      | (go_at_call 18; ((refine (rleap_calls _ _).mono ?_); rintro r w1 ⟨rfl, rfl⟩))
      | (go_at_call 19; ((refine (days_calls _ _ _).mono ?_); rintro r w1 ⟨rfl, rfl⟩))
      | (go_at_call 20; ((refine (rdays_calls _ _ _).mono ?_); rintro r w1 ⟨rfl, hb⟩; obtain ⟨b6, b6d, rfl⟩ := of_below hb; clear hb))
    go_returns; exact ⟨rfl, by (repeat' (first | (with_reducible exact Below.refl _ _) | (with_reducible refine Below.app ?_ ?_ _ _) | (with_reducible refine Below.alloc ?_ ?_ _) | (with_reducible refine Below.drew ?_) | (with_reducible refine Below.setCell ?_ ?_ _) | (with_reducible assumption) | omega | (simp; omega) | (simp; done)))⟩

theorem clockDates_law : LawWalk 4 Try.f4 := by
  intro H enc W base args ds ps hA hval
  rw [Try.params4] at hA hval
  obtain ⟨v0, vs0, d0, ds0, p0, q0, hargs, rfl, rfl, h0, r0⟩ := trodAll_cons hA
  obtain ⟨v1, vs1, d1, ds1, p1, q1, rfl, rfl, rfl, h1, r1⟩ := trodAll_cons r0
  obtain ⟨v2, vs2, d2, ds2, p2, q2, rfl, rfl, rfl, h2, r2⟩ := trodAll_cons r1
  obtain ⟨rfl, rfl, rfl⟩ := trodAll_nil r2
  obtain rfl : args = #[v0, v1, v2] := by cases args; simp_all
  obtain ⟨n0, rfl, -, -, w0⟩ := open_int Try.underlying3 (hval 0 _ _ rfl rfl) h0
  obtain ⟨n1, rfl, -, -, w1⟩ := open_int Try.underlying3 (hval 1 _ _ rfl rfl) h1
  obtain ⟨n2, rfl, -, -, w2⟩ := open_int Try.underlying3 (hval 2 _ _ rfl rfl) h2
  exact clockDates_walk n0 n1 n2 W

set_option maxRecDepth 100000 in
theorem clockDates_holds : Rows.ClockDatesSaid :=
  OpenClaim.holds_of_wide 4 Try.f4 rfl rfl rfl rfl rfl rfl rfl ⟨rfl, rfl, rfl, rfl, rfl⟩ rfl rfl rfl rfl rfl (by kernel_rfl) Try.func4 (by kernel_rfl)
    (of_decide_eq_true (by kernel_rfl)) (by unfold Func.isWrapper; first | (rw [if_pos (by decide +kernel)]; kernel_rfl) | (rw [if_neg (by decide +kernel)]; exact ⟨rfl, rfl⟩))
    (fun os started H enc _ => law_lift (s := Rows.clockDatesSpec) Try.func4 (by kernel_rfl) (by kernel_rfl) rfl (fun H ds hd => by match ds, hd with | [_, _, _], _ => rfl) (by kernel_rfl) os started H enc
      (ChangeSpec.witness6 (enc := enc) (C := Try.checked) false ⟨#[], #[.int .i64 0, .int .i64 0, .int .i64 0], []⟩ 8 (by kernel_rfl) (by kernel_rfl) (by kernel_rfl) (by kernel_rfl)) clockDates_law)
#print axioms clockDates_holds
end Go.Proofs.Ytbnghchniboggaa
