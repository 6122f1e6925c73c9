/-
  clock.ClockSeconds answers true at every input: the time of any date is the document's; what is no date has none.
-/
import Derived.Test.YtbnghchniboggaaAwake09
import Derived.Test.YtbnghchniboggaaRow
import Derived.Test.YtbnghchniboggaaOpen
namespace Go.Proofs.Ytbnghchniboggaa
open Go.ChangeShapes Go.WideShapes Go.ChangeAt Go.RowKit

open Classical in
set_option maxRecDepth 20000 in
set_option maxHeartbeats 4000000 in
theorem clockSeconds_walk (y m d h i s wk : Int) (w : World) : Calls Try.prog 5 #[.agg #[.int .i64 y, .int .i64 m, .int .i64 d, .int .i64 h, .int .i64 i, .int .i64 s, .int .i64 wk]] w fun r w' => r = .returned (.bool true) ∧ Below w.heap.size w w' := by
  have c1 := seconds_calls y m d h i s wk
  have c2 := rseconds_calls y m d h i s wk
  by_cases hd : isDate y m d h i s wk
  · have hp := (stamp_of_date hd).2.1
    have hp' : ¬ secOf y m d h i s < 0 := by omega
    rw [if_pos hd] at c1 c2
    rw [decide_eq_true hd] at c1
    clear hd
    generalize secOf y m d h i s = t at *
    replace c1 := Lib.hid c1
    replace c2 := Lib.hid c2
    go_enter Try.func5, Try.ntmps5
    go_wp2_with first
      | (go_at_call 12; ((refine (awake09 _).mono ?_); rintro r w1 ⟨rfl, hb⟩; obtain ⟨b1, b1d, rfl⟩ := of_below hb; clear hb))
      | (go_at_call 21; ((refine (c1.out _).mono ?_); rintro r w1 ⟨rfl, hb⟩; obtain ⟨b2, b2d, rfl⟩ := of_below hb; clear hb))
      | (go_at_call 22; ((refine (c2.out _).mono ?_); rintro r w1 ⟨rfl, hb⟩; obtain ⟨b3, b3d, rfl⟩ := of_below hb; clear hb))
    all_goals (go_returns; exact ⟨rfl, by (repeat' (first | (with_reducible exact Below.refl _ _) | (with_reducible refine Below.app ?_ ?_ _ _) | (with_reducible refine Below.alloc ?_ ?_ _) | (with_reducible refine Below.drew ?_) | (with_reducible refine Below.setCell ?_ ?_ _) | (with_reducible assumption) | omega | (simp; omega) | (simp; done)))⟩)
  · rw [if_neg hd] at c1 c2
    rw [decide_eq_false hd] at c1
    clear hd
    replace c1 := Lib.hid c1
    replace c2 := Lib.hid c2
    go_enter Try.func5, Try.ntmps5
    go_wp2_with first
      | (go_at_call 12; ((refine (awake09 _).mono ?_); rintro r w1 ⟨rfl, hb⟩; obtain ⟨b1, b1d, rfl⟩ := of_below hb; clear hb))
      | (go_at_call 21; ((refine (c1.out _).mono ?_); rintro r w1 ⟨rfl, hb⟩; obtain ⟨b2, b2d, rfl⟩ := of_below hb; clear hb))
      | (go_at_call 22; ((refine (c2.out _).mono ?_); rintro r w1 ⟨rfl, hb⟩; obtain ⟨b3, b3d, rfl⟩ := of_below hb; clear hb))
    all_goals (go_returns; exact ⟨rfl, by (repeat' (first | (with_reducible exact Below.refl _ _) | (with_reducible refine Below.app ?_ ?_ _ _) | (with_reducible refine Below.alloc ?_ ?_ _) | (with_reducible refine Below.drew ?_) | (with_reducible refine Below.setCell ?_ ?_ _) | (with_reducible assumption) | omega | (simp; omega) | (simp; done)))⟩)

theorem cellsInt : Try.prog.cellsOf 3 = 1 := by kernel_rfl
theorem cellsCivil : Try.prog.cellsOf 27 = 7 := by kernel_rfl
section
variable {H : Type} {enc : TypeId × Value → H} {w : World}
theorem open_civil {r : Reach} {b0 : Nat} {v : Value} {d : DataW H} {ps : List MemPlace} {spare : Nat → Bool} (hv : Value.okWide Try.prog w r b0 27 v) (h : DataW.Trod enc Try.prog w 0 spare true 27 v d ps) :
    ∃ a b c d e f g, v = .agg #[.int .i64 a, .int .i64 b, .int .i64 c, .int .i64 d, .int .i64 e, .int .i64 f, .int .i64 g] := by
  obtain ⟨cs, rfl, hl, hf⟩ := open_agg Try.underlying27 hv h
  rw [cellsCivil] at hl
  match cs, hl with
  | [c0, c1, c2, c3, c4, c5, c6], _ =>
    obtain ⟨m0, y0, h0⟩ := hf 0 _ rfl 1 cellsInt
    obtain ⟨m1, y1, h1⟩ := hf 1 _ rfl 1 cellsInt
    obtain ⟨m2, y2, h2⟩ := hf 2 _ rfl 1 cellsInt
    obtain ⟨m3, y3, h3⟩ := hf 3 _ rfl 1 cellsInt
    obtain ⟨m4, y4, h4⟩ := hf 4 _ rfl 1 cellsInt
    obtain ⟨m5, y5, h5⟩ := hf 5 _ rfl 1 cellsInt
    obtain ⟨m6, y6, h6⟩ := hf 6 _ rfl 1 cellsInt
    obtain ⟨z0, e0, _⟩ := isInt_of (w := w) Try.underlying3 h0
    obtain ⟨z1, e1, _⟩ := isInt_of (w := w) Try.underlying3 h1
    obtain ⟨z2, e2, _⟩ := isInt_of (w := w) Try.underlying3 h2
    obtain ⟨z3, e3, _⟩ := isInt_of (w := w) Try.underlying3 h3
    obtain ⟨z4, e4, _⟩ := isInt_of (w := w) Try.underlying3 h4
    obtain ⟨z5, e5, _⟩ := isInt_of (w := w) Try.underlying3 h5
    obtain ⟨z6, e6, _⟩ := isInt_of (w := w) Try.underlying3 h6
    simp at e0 e1 e2 e3 e4 e5 e6
    subst e0; subst e1; subst e2; subst e3; subst e4; subst e5; subst e6
    exact ⟨_, _, _, _, _, _, _, rfl⟩
end

theorem clockSeconds_law : LawWalk 5 Try.f5 := by
  intro H enc W base args ds ps hA hval
  rw [Try.params5] at hA hval
  obtain ⟨v0, vs0, d0, ds0, p0, q0, hargs, rfl, rfl, h0, r0⟩ := trodAll_cons hA
  obtain ⟨rfl, rfl, rfl⟩ := trodAll_nil r0
  obtain rfl : args = #[v0] := by cases args; simp_all
  obtain ⟨a, b, c, d, e, f, g, rfl⟩ := open_civil (hval 0 _ _ rfl rfl) h0
  exact clockSeconds_walk a b c d e f g W

set_option maxRecDepth 100000 in
theorem clockSeconds_holds : Rows.ClockSecondsSaid :=
  OpenClaim.holds_of_wide 5 Try.f5 rfl rfl rfl rfl rfl rfl rfl ⟨rfl, rfl, rfl, rfl, rfl⟩ rfl rfl rfl rfl rfl (by kernel_rfl) Try.func5 (by kernel_rfl)
    (of_decide_eq_true (by kernel_rfl)) (by unfold Func.isWrapper; first | (rw [if_pos (by decide +kernel)]; kernel_rfl) | (rw [if_neg (by decide +kernel)]; exact ⟨rfl, rfl⟩))
    (fun os started H enc _ => law_lift (s := Rows.clockSecondsSpec) Try.func5 (by kernel_rfl) (by kernel_rfl) rfl (fun H ds hd => by match ds, hd with | [_], _ => rfl) (by kernel_rfl) os started H enc
      (ChangeSpec.witness6 (enc := enc) (C := Try.checked) false ⟨#[], #[.agg #[.int .i64 0, .int .i64 0, .int .i64 0, .int .i64 0, .int .i64 0, .int .i64 0, .int .i64 0]], []⟩ 8 (by kernel_rfl) (by kernel_rfl) (by kernel_rfl) (by kernel_rfl)) clockSeconds_law)
#print axioms clockSeconds_holds
end Go.Proofs.Ytbnghchniboggaa
