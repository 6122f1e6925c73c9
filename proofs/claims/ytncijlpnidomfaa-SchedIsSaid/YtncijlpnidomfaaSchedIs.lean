/-
  sched.SchedIs answers true at every input: which tables are right, each delay, what is due and expired, and a state behind a failure or an end, are as the document says.
-/
import Derived.Test.YtncijlpnidomfaaProg
import Derived.Test.YtncijlpnidomfaaBase
import Derived.Test.YtncijlpnidomfaaSched
import Derived.Test.YtncijlpnidomfaaTries
import Derived.Test.YtncijlpnidomfaaStable
import Derived.Test.YtncijlpnidomfaaOpen
import Derived.Test.YtncijlpnidomfaaAwake22
import Derived.Test.YtncijlpnidomfaaRow
namespace Go.Proofs.Ytncijlpnidomfaa
open Go.ChangeShapes Go.WideShapes Go.ChangeAt Go.RowKit

set_option maxHeartbeats 2000000 in
theorem schedIs_walk (p : Option Addr) (zs : List Int) (cap : Nat) (e s t d c a n k code st : Int) (w : World) (hz : Hid (IntsAt w p zs)) (hl : zs.length ≤ 9223372036854775807) (ht : -9223372036854775808 ≤ t) (hn : -9223372036854775808 ≤ n) :
    Calls Try.prog 4 #[.agg #[.slice p zs.length cap, .int .i64 e], .agg #[.int .i64 s, .int .i64 t, .int .i64 d, .int .i64 c], .int .i64 a, .int .i64 n, .int .i64 k, .int .i64 code, .int .i64 st] w
      fun r w' => r = .returned (.bool true) ∧ Below w.heap.size w w' := by
  go_enter Try.func4, Try.ntmps4
  by_cases hbig : (100 : Int) < zs.length ∨ 4503599627370496 < n
  · go_wp2_with (go_at_call 6; ((refine (awake22 _).mono ?_); rintro r w1 ⟨rfl, hb⟩; obtain ⟨b1, b1d, rfl⟩ := of_below hb; clear hb))
    all_goals (go_light; first | (go_returns; exact ⟨rfl, by (repeat' (first | (with_reducible exact Below.refl _ _) | (with_reducible refine Below.app ?_ ?_ _ _) | (with_reducible refine Below.alloc ?_ ?_ _) | (with_reducible refine Below.drew ?_) | (with_reducible refine Below.setCell ?_ ?_ _) | (with_reducible assumption) | omega | (simp; omega) | (simp; done)))⟩) | (exfalso; omega))
  · go_wp2_with (go_at_call 6; ((refine (awake22 _).mono ?_); rintro r w1 ⟨rfl, hb⟩; obtain ⟨b1, b1d, rfl⟩ := of_below hb; clear hb))
    all_goals
      (apply wp_region_text 57; kernel_rfl; kernel_rfl; intro Fin hFin; (repeat (first | (apply text_run; exact rfl; (focus (intro bs d hF K hK; (try simp only [app_app] at hK ⊢); go_step; first  | (go_at_call 11; ((refine (good_calls _ _ _ _ _ (Lib.hid (hz.out.below (by (repeat' (first | (with_reducible exact Below.refl _ _) | (with_reducible refine Below.app ?_ ?_ _ _) | (with_reducible refine Below.alloc ?_ ?_ _) | (with_reducible refine Below.drew ?_) | (with_reducible refine Below.setCell ?_ ?_ _) | (with_reducible assumption) | omega | (simp; omega) | (simp; done)))) (Nat.le_refl _))) hl).mono ?_); rintro r w1 ⟨rfl, hb⟩; simp only []; exact hK _ hb)) | (go_at_call 8; ((refine (rgood_calls _ _ _ _ _ (Lib.hid (hz.out.below (by (repeat' (first | (with_reducible exact Below.refl _ _) | (with_reducible refine Below.app ?_ ?_ _ _) | (with_reducible refine Below.alloc ?_ ?_ _) | (with_reducible refine Below.drew ?_) | (with_reducible refine Below.setCell ?_ ?_ _) | (with_reducible assumption) | omega | (simp; omega) | (simp; done)))) (Nat.le_refl _))) hl).mono ?_); rintro r w1 ⟨rfl, hb⟩; simp only []; exact hK _ hb)) | (go_at_call 12; ((refine (delay_calls _ _ _ _ _ _ (Lib.hid (hz.out.below (by (repeat' (first | (with_reducible exact Below.refl _ _) | (with_reducible refine Below.app ?_ ?_ _ _) | (with_reducible refine Below.alloc ?_ ?_ _) | (with_reducible refine Below.drew ?_) | (with_reducible refine Below.setCell ?_ ?_ _) | (with_reducible assumption) | omega | (simp; omega) | (simp; done)))) (Nat.le_refl _))) hl).mono ?_); rintro r w1 ⟨rfl, hb⟩; simp only []; exact hK _ hb)) | (go_at_call 13; ((refine (rdelay_calls _ _ _ _ _ _ (Lib.hid (hz.out.below (by (repeat' (first | (with_reducible exact Below.refl _ _) | (with_reducible refine Below.app ?_ ?_ _ _) | (with_reducible refine Below.alloc ?_ ?_ _) | (with_reducible refine Below.drew ?_) | (with_reducible refine Below.setCell ?_ ?_ _) | (with_reducible assumption) | omega | (simp; omega) | (simp; done)))) (Nat.le_refl _))) hl).mono ?_); rintro r w1 ⟨rfl, hb⟩; simp only []; exact hK _ hb)) | (go_at_call 14; ((refine (due_calls _ _ _ _ _ _).mono ?_); rintro r w1 ⟨rfl, hb⟩; simp only []; exact hK _ hb)) | (go_at_call 9; ((refine (expired_calls _ _ _ _ _ _ _ (Lib.hid (hz.out.below (by (repeat' (first | (with_reducible exact Below.refl _ _) | (with_reducible refine Below.app ?_ ?_ _ _) | (with_reducible refine Below.alloc ?_ ?_ _) | (with_reducible refine Below.drew ?_) | (with_reducible refine Below.setCell ?_ ?_ _) | (with_reducible assumption) | omega | (simp; omega) | (simp; done)))) (Nat.le_refl _))) hl).mono ?_); rintro r w1 ⟨rfl, hb⟩; simp only []; exact hK _ hb)) | (go_at_call 15; ((refine (rexpired_calls _ _ _ _ _ _ _ (Lib.hid (hz.out.below (by (repeat' (first | (with_reducible exact Below.refl _ _) | (with_reducible refine Below.app ?_ ?_ _ _) | (with_reducible refine Below.alloc ?_ ?_ _) | (with_reducible refine Below.drew ?_) | (with_reducible refine Below.setCell ?_ ?_ _) | (with_reducible assumption) | omega | (simp; omega) | (simp; done)))) (Nat.le_refl _))) hl).mono ?_); rintro r w1 ⟨rfl, hb⟩; simp only []; exact hK _ hb)) | (go_at_call 10; ((refine (fail_calls _ _ _ _ _ _ _ _ _ _ _ (Lib.hid (hz.out.below (by (repeat' (first | (with_reducible exact Below.refl _ _) | (with_reducible refine Below.app ?_ ?_ _ _) | (with_reducible refine Below.alloc ?_ ?_ _) | (with_reducible refine Below.drew ?_) | (with_reducible refine Below.setCell ?_ ?_ _) | (with_reducible assumption) | omega | (simp; omega) | (simp; done)))) (Nat.le_refl _))) hl ht hn).mono ?_); rintro r w1 ⟨rfl, hb⟩; simp only []; exact hK _ hb)) | (go_at_call 16; ((refine (rfail_calls _ _ _ _ _ _ _ _ _ _ _ (Lib.hid (hz.out.below (by (repeat' (first | (with_reducible exact Below.refl _ _) | (with_reducible refine Below.app ?_ ?_ _ _) | (with_reducible refine Below.alloc ?_ ?_ _) | (with_reducible refine Below.drew ?_) | (with_reducible refine Below.setCell ?_ ?_ _) | (with_reducible assumption) | omega | (simp; omega) | (simp; done)))) (Nat.le_refl _))) hl ht hn).mono ?_); rintro r w1 ⟨rfl, hb⟩; simp only []; exact hK _ hb)) | (go_at_call 17; ((refine (end_calls _ _ _ _ _ _ _ ht).mono ?_); rintro r w1 ⟨rfl, hb⟩; simp only []; exact hK _ hb)) | (go_at_call 18; ((refine (rend_calls _ _ _ _ _ _ _ ht).mono ?_); rintro r w1 ⟨rfl, hb⟩; simp only []; exact hK _ hb))  | (refine hK _ ?_; (repeat' (first | (with_reducible exact Below.refl _ _) | (with_reducible refine Below.app ?_ ?_ _ _) | (with_reducible refine Below.alloc ?_ ?_ _) | (with_reducible refine Below.drew ?_) | (with_reducible refine Below.setCell ?_ ?_ _) | (with_reducible assumption) | omega | (simp; omega) | (simp; done)))))); (try simp only [Act.put, List.setIfInBounds_toArray, List.set_cons_zero, List.set_cons_succ])) | (apply text_skip; exact rfl; (try simp only [Act.put, List.setIfInBounds_toArray, List.set_cons_zero, List.set_cons_succ])))); apply text_end; apply hFin; clear hFin Fin; intro bs d hfa)
      go_wp2
      go_returns
      exact ⟨rfl, by (repeat' (first | (with_reducible exact Below.refl _ _) | (with_reducible refine Below.app ?_ ?_ _ _) | (with_reducible refine Below.alloc ?_ ?_ _) | (with_reducible refine Below.drew ?_) | (with_reducible refine Below.setCell ?_ ?_ _) | (with_reducible assumption) | omega | (simp; omega) | (simp; done)))⟩

theorem schedIs_law : LawWalk 4 Try.f4 := by
  intro H enc W base args ds ps hA hval
  rw [Try.params4] at hA hval
  obtain ⟨v0, vs0, d0, ds0, p0, q0, hargs, rfl, rfl, h0, r0⟩ := trodAll_cons hA
  obtain ⟨v1, vs1, d1, ds1, p1, q1, rfl, rfl, rfl, h1, r1⟩ := trodAll_cons r0
  obtain ⟨v2, vs2, d2, ds2, p2, q2, rfl, rfl, rfl, h2, r2⟩ := trodAll_cons r1
  obtain ⟨v3, vs3, d3, ds3, p3, q3, rfl, rfl, rfl, h3, r3⟩ := trodAll_cons r2
  obtain ⟨v4, vs4, d4, ds4, p4, q4, rfl, rfl, rfl, h4, r4⟩ := trodAll_cons r3
  obtain ⟨v5, vs5, d5, ds5, p5, q5, rfl, rfl, rfl, h5, r5⟩ := trodAll_cons r4
  obtain ⟨v6, vs6, d6, ds6, p6, q6, rfl, rfl, rfl, h6, r6⟩ := trodAll_cons r5
  obtain ⟨rfl, rfl, rfl⟩ := trodAll_nil r6
  obtain rfl : args = #[v0, v1, v2, v3, v4, v5, v6] := by cases args; simp_all
  obtain ⟨p, zs, cap, e, rfl, hz, hl⟩ := open_retry (hval 0 _ _ rfl rfl) h0
  obtain ⟨a, b, c, d, rfl, hb⟩ := open_state (hval 1 _ _ rfl rfl) h1
  obtain ⟨n2, rfl, -, -, w2⟩ := open_int Try.underlying3 (hval 2 _ _ rfl rfl) h2
  obtain ⟨n3, rfl, -, -, w3⟩ := open_int Try.underlying3 (hval 3 _ _ rfl rfl) h3
  obtain ⟨n4, rfl, -, -, w4⟩ := open_int Try.underlying3 (hval 4 _ _ rfl rfl) h4
  obtain ⟨n5, rfl, -, -, w5⟩ := open_int Try.underlying3 (hval 5 _ _ rfl rfl) h5
  obtain ⟨n6, rfl, -, -, w6⟩ := open_int Try.underlying3 (hval 6 _ _ rfl rfl) h6
  exact schedIs_walk p zs cap e a b c d n2 n3 n4 n5 n6 W hz hl hb (bounds_of_wf w3).1

set_option maxRecDepth 100000 in
theorem schedIs_holds : Rows.SchedIsSaid :=
  OpenClaim.holds_of_wide 4 Try.f4 rfl rfl rfl rfl rfl rfl rfl ⟨rfl, rfl, rfl, rfl, rfl⟩ rfl rfl rfl rfl rfl (by kernel_rfl) Try.func4 (by kernel_rfl)
    (of_decide_eq_true (by kernel_rfl)) (by unfold Func.isWrapper; first | (rw [if_pos (by decide +kernel)]; kernel_rfl) | (rw [if_neg (by decide +kernel)]; exact ⟨rfl, rfl⟩))
    (fun os started H enc _ => law_lift (s := Rows.schedIsSpec) Try.func4 (by kernel_rfl) (by kernel_rfl) rfl (fun H ds hd => by match ds, hd with | [_, _, _, _, _, _, _], _ => rfl) (by kernel_rfl) os started H enc
      (ChangeSpec.witness6 (enc := enc) (C := Try.checked) false ⟨#[], #[.agg #[.slice none 0 0, .int .i64 0], .agg #[.int .i64 0, .int .i64 0, .int .i64 0, .int .i64 0], .int .i64 0, .int .i64 0, .int .i64 0, .int .i64 0, .int .i64 0], []⟩ 8 (by kernel_rfl) (by kernel_rfl) (by kernel_rfl) (by kernel_rfl)) schedIs_law)
#print axioms schedIs_holds
end Go.Proofs.Ytncijlpnidomfaa
