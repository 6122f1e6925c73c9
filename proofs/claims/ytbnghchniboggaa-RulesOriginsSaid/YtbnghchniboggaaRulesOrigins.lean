/-
  rules.RulesOrigins answers true at every input: the origins of two deliveries or reports are unlike, unless they are of one.
-/
import Derived.Test.YtbnghchniboggaaAwake27
import Derived.Test.YtbnghchniboggaaRow
import Derived.Test.YtbnghchniboggaaOpen
namespace Go.Proofs.Ytbnghchniboggaa
open Go.ChangeShapes Go.WideShapes Go.ChangeAt Go.RowKit

theorem origin_bd (i t : Int) (r : Bool) : 0 ≤ originOf i t r ∧ originOf i t r ≤ 70368744177703 := by
  unfold originOf; split <;> (cases r <;> simp <;> omega)
theorem origin_pos {i t : Int} {r : Bool} (h : ¬ originOf i t r = 0) : 1 ≤ i ∧ i ≤ 1099511627776 ∧ 0 ≤ t ∧ t < 20 ∧ originOf i t r = 64 * i + 2 * t + (if r then 1 else 0) := by
  unfold originOf at h ⊢
  split at h
  · exact absurd rfl h
  · rename_i hc; rw [if_neg hc]; exact ⟨by omega, by omega, by omega, by omega, rfl⟩

def originSays (a b i t : Int) (r : Bool) (i2 t2 : Int) (r2 : Bool) : Bool := (a == b) == (i == i2 && t == t2 && r == r2)
theorem origins_walk (i t : Int) (r : Bool) (i2 t2 : Int) (r2 : Bool) (hi : -9223372036854775808 ≤ i ∧ i ≤ 9223372036854775807) (w : World) :
    Calls Try.prog 3 #[.int .i64 i, .int .i64 t, .bool r, .int .i64 i2, .int .i64 t2, .bool r2] w fun e w' => e = .returned (.bool true) ∧ Below w.heap.size w w' := by
  have c1 := origin_calls i t r
  have c2 := origin_calls i2 t2 r2
  have c3 := rorigin_calls i t r
  obtain ⟨p1, p2⟩ := origin_bd i t r
  have c4 := least_calls (originOf i t r) p1 (by omega)
  by_cases hz : originOf i t r = 0 ∨ originOf i2 t2 r2 = 0
  · have hq1 : 1 ≤ originOf i t r / 64 + 1 := by omega
    generalize originOf i t r = a at *
    generalize originOf i2 t2 r2 = b at *
    generalize a / 64 + 1 = q at *
    replace c1 := Lib.hid c1
    replace c2 := Lib.hid c2
    replace c3 := Lib.hid c3
    replace c4 := Lib.hid c4
    rcases hz with hz | hz
    · subst hz
      go_enter Try.func3, Try.ntmps3
      go_wp2_with first
        | (go_at_call 8; ((refine (awake27 _).mono ?_); rintro r w1 ⟨rfl, hb⟩; obtain ⟨b1, b1d, rfl⟩ := of_below hb; clear hb))
        | (go_at_call 9; ((with_reducible refine (c1.out _).mono ?_); rintro _ _ ⟨rfl, rfl⟩))
        | (go_at_call 9; ((with_reducible refine (c2.out _).mono ?_); rintro _ _ ⟨rfl, rfl⟩))
        | (go_at_call 10; ((with_reducible refine (c3.out _).mono ?_); rintro _ _ ⟨rfl, rfl⟩))
        | (go_at_call 11; ((with_reducible refine (c4.out _).mono ?_); rintro _ _ ⟨rfl, rfl⟩))
      all_goals (go_returns; exact ⟨rfl, by (repeat' (first | (with_reducible exact Below.refl _ _) | (with_reducible refine Below.app ?_ ?_ _ _) | (with_reducible refine Below.alloc ?_ ?_ _) | (with_reducible refine Below.drew ?_) | (with_reducible refine Below.setCell ?_ ?_ _) | (with_reducible assumption) | omega | (simp; omega) | (simp; done)))⟩)
    · subst hz
      by_cases ha : a = 0
      · subst ha
        go_enter Try.func3, Try.ntmps3
        go_wp2_with first
          | (go_at_call 8; ((refine (awake27 _).mono ?_); rintro r w1 ⟨rfl, hb⟩; obtain ⟨b1, b1d, rfl⟩ := of_below hb; clear hb))
          | (go_at_call 9; ((with_reducible refine (c1.out _).mono ?_); rintro _ _ ⟨rfl, rfl⟩))
          | (go_at_call 9; ((with_reducible refine (c2.out _).mono ?_); rintro _ _ ⟨rfl, rfl⟩))
          | (go_at_call 10; ((with_reducible refine (c3.out _).mono ?_); rintro _ _ ⟨rfl, rfl⟩))
          | (go_at_call 11; ((with_reducible refine (c4.out _).mono ?_); rintro _ _ ⟨rfl, rfl⟩))
        all_goals (go_returns; exact ⟨rfl, by (repeat' (first | (with_reducible exact Below.refl _ _) | (with_reducible refine Below.app ?_ ?_ _ _) | (with_reducible refine Below.alloc ?_ ?_ _) | (with_reducible refine Below.drew ?_) | (with_reducible refine Below.setCell ?_ ?_ _) | (with_reducible assumption) | omega | (simp; omega) | (simp; done)))⟩)
      · have ha' : ((a : Int) == 0) = false := by simpa using ha
        go_enter Try.func3, Try.ntmps3
        go_wp2_with first
          | (go_at_call 8; ((refine (awake27 _).mono ?_); rintro r w1 ⟨rfl, hb⟩; obtain ⟨b1, b1d, rfl⟩ := of_below hb; clear hb))
          | (go_at_call 9; ((with_reducible refine (c1.out _).mono ?_); rintro _ _ ⟨rfl, rfl⟩))
          | (go_at_call 9; ((with_reducible refine (c2.out _).mono ?_); rintro _ _ ⟨rfl, rfl⟩))
          | (go_at_call 10; ((with_reducible refine (c3.out _).mono ?_); rintro _ _ ⟨rfl, rfl⟩))
          | (go_at_call 11; ((with_reducible refine (c4.out _).mono ?_); rintro _ _ ⟨rfl, rfl⟩))
        all_goals (go_returns; exact ⟨rfl, by (repeat' (first | (with_reducible exact Below.refl _ _) | (with_reducible refine Below.app ?_ ?_ _ _) | (with_reducible refine Below.alloc ?_ ?_ _) | (with_reducible refine Below.drew ?_) | (with_reducible refine Below.setCell ?_ ?_ _) | (with_reducible assumption) | omega | (simp; omega) | (simp; done)))⟩)
  · have hz1 : ¬ originOf i t r = 0 := fun h => hz (.inl h)
    have hz2 : ¬ originOf i2 t2 r2 = 0 := fun h => hz (.inr h)
    obtain ⟨u1, u2, u3, u4, u5⟩ := origin_pos hz1
    obtain ⟨v1, v2, v3, v4, v5⟩ := origin_pos hz2
    have hq : originOf i t r / 64 + 1 = i + 1 := by rw [u5]; cases r <;> simp <;> omega
    rw [hq] at c4
    have key : (originOf i t r == originOf i2 t2 r2) = (i == i2 && t == t2 && r == r2) := by
      rw [Bool.eq_iff_iff, u5, v5]
      simp only [Bool.and_eq_true, beq_iff_eq]
      cases r <;> cases r2 <;> simp <;> omega
    have key2 : decide (i2 < i + 1) = decide (i2 ≤ i) := by rw [decide_eq_decide]; omega
    have ha' : (originOf i t r == 0) = false := by simpa using hz1
    have hb' : (originOf i2 t2 r2 == 0) = false := by simpa using hz2
    clear u3 u4 u5 v3 v4 v5 hq hz1 hz2 hz
    generalize originOf i t r = a at *
    generalize originOf i2 t2 r2 = b at *
    replace c1 := Lib.hid c1
    replace c2 := Lib.hid c2
    replace c3 := Lib.hid c3
    replace c4 := Lib.hid c4
    by_cases e1 : i = i2
    · subst e1
      by_cases e2 : t = t2
      · subst e2
        by_cases e3 : r = r2
        · subst e3
          have ek : (a == b) = true := by rw [key]; simp
          clear key
          go_enter Try.func3, Try.ntmps3
          go_wp2_with first
            | (go_at_call 8; ((refine (awake27 _).mono ?_); rintro r w1 ⟨rfl, hb⟩; obtain ⟨b1, b1d, rfl⟩ := of_below hb; clear hb))
            | (go_at_call 9; ((with_reducible refine (c1.out _).mono ?_); rintro _ _ ⟨rfl, rfl⟩))
            | (go_at_call 9; ((with_reducible refine (c2.out _).mono ?_); rintro _ _ ⟨rfl, rfl⟩))
            | (go_at_call 10; ((with_reducible refine (c3.out _).mono ?_); rintro _ _ ⟨rfl, rfl⟩))
            | (go_at_call 11; ((with_reducible refine (c4.out _).mono ?_); rintro _ _ ⟨rfl, rfl⟩))
          all_goals (go_returns; exact ⟨rfl, by (repeat' (first | (with_reducible exact Below.refl _ _) | (with_reducible refine Below.app ?_ ?_ _ _) | (with_reducible refine Below.alloc ?_ ?_ _) | (with_reducible refine Below.drew ?_) | (with_reducible refine Below.setCell ?_ ?_ _) | (with_reducible assumption) | omega | (simp; omega) | (simp; done)))⟩)
        · have ek : (a == b) = false := by rw [key]; simp; exact e3
          have e3' : (r == r2) = false := by simpa using e3
          clear key
          go_enter Try.func3, Try.ntmps3
          go_wp2_with first
            | (go_at_call 8; ((refine (awake27 _).mono ?_); rintro r w1 ⟨rfl, hb⟩; obtain ⟨b1, b1d, rfl⟩ := of_below hb; clear hb))
            | (go_at_call 9; ((with_reducible refine (c1.out _).mono ?_); rintro _ _ ⟨rfl, rfl⟩))
            | (go_at_call 9; ((with_reducible refine (c2.out _).mono ?_); rintro _ _ ⟨rfl, rfl⟩))
            | (go_at_call 10; ((with_reducible refine (c3.out _).mono ?_); rintro _ _ ⟨rfl, rfl⟩))
            | (go_at_call 11; ((with_reducible refine (c4.out _).mono ?_); rintro _ _ ⟨rfl, rfl⟩))
          all_goals (go_returns; exact ⟨rfl, by (repeat' (first | (with_reducible exact Below.refl _ _) | (with_reducible refine Below.app ?_ ?_ _ _) | (with_reducible refine Below.alloc ?_ ?_ _) | (with_reducible refine Below.drew ?_) | (with_reducible refine Below.setCell ?_ ?_ _) | (with_reducible assumption) | omega | (simp; omega) | (simp; done)))⟩)
      · have ek : (a == b) = false := by rw [key]; simp [e2]
        have e2' : (t == t2) = false := by simpa using e2
        clear key
        go_enter Try.func3, Try.ntmps3
        go_wp2_with first
          | (go_at_call 8; ((refine (awake27 _).mono ?_); rintro r w1 ⟨rfl, hb⟩; obtain ⟨b1, b1d, rfl⟩ := of_below hb; clear hb))
          | (go_at_call 9; ((with_reducible refine (c1.out _).mono ?_); rintro _ _ ⟨rfl, rfl⟩))
          | (go_at_call 9; ((with_reducible refine (c2.out _).mono ?_); rintro _ _ ⟨rfl, rfl⟩))
          | (go_at_call 10; ((with_reducible refine (c3.out _).mono ?_); rintro _ _ ⟨rfl, rfl⟩))
          | (go_at_call 11; ((with_reducible refine (c4.out _).mono ?_); rintro _ _ ⟨rfl, rfl⟩))
        all_goals (go_returns; exact ⟨rfl, by (repeat' (first | (with_reducible exact Below.refl _ _) | (with_reducible refine Below.app ?_ ?_ _ _) | (with_reducible refine Below.alloc ?_ ?_ _) | (with_reducible refine Below.drew ?_) | (with_reducible refine Below.setCell ?_ ?_ _) | (with_reducible assumption) | omega | (simp; omega) | (simp; done)))⟩)
    · have ek : (a == b) = false := by rw [key]; simp [e1]
      have e1' : (i == i2) = false := by simpa using e1
      clear key
      go_enter Try.func3, Try.ntmps3
      go_wp2_with first
        | (go_at_call 8; ((refine (awake27 _).mono ?_); rintro r w1 ⟨rfl, hb⟩; obtain ⟨b1, b1d, rfl⟩ := of_below hb; clear hb))
        | (go_at_call 9; ((with_reducible refine (c1.out _).mono ?_); rintro _ _ ⟨rfl, rfl⟩))
        | (go_at_call 9; ((with_reducible refine (c2.out _).mono ?_); rintro _ _ ⟨rfl, rfl⟩))
        | (go_at_call 10; ((with_reducible refine (c3.out _).mono ?_); rintro _ _ ⟨rfl, rfl⟩))
        | (go_at_call 11; ((with_reducible refine (c4.out _).mono ?_); rintro _ _ ⟨rfl, rfl⟩))
      all_goals (go_returns; exact ⟨rfl, by (repeat' (first | (with_reducible exact Below.refl _ _) | (with_reducible refine Below.app ?_ ?_ _ _) | (with_reducible refine Below.alloc ?_ ?_ _) | (with_reducible refine Below.drew ?_) | (with_reducible refine Below.setCell ?_ ?_ _) | (with_reducible assumption) | omega | (simp; omega) | (simp; done)))⟩)

theorem rulesOrigins_law : LawWalk 3 Try.f3 := by
  intro H enc W base args ds ps hA hval
  rw [Try.params3] at hA hval
  obtain ⟨v0, vs0, d0, ds0, p0, q0, hargs, rfl, rfl, h0, r0⟩ := trodAll_cons hA
  obtain ⟨v1, vs1, d1, ds1, p1, q1, rfl, rfl, rfl, h1, r1⟩ := trodAll_cons r0
  obtain ⟨v2, vs2, d2, ds2, p2, q2, rfl, rfl, rfl, h2, r2⟩ := trodAll_cons r1
  obtain ⟨v3, vs3, d3, ds3, p3, q3, rfl, rfl, rfl, h3, r3⟩ := trodAll_cons r2
  obtain ⟨v4, vs4, d4, ds4, p4, q4, rfl, rfl, rfl, h4, r4⟩ := trodAll_cons r3
  obtain ⟨v5, vs5, d5, ds5, p5, q5, rfl, rfl, rfl, h5, r5⟩ := trodAll_cons r4
  obtain ⟨rfl, rfl, rfl⟩ := trodAll_nil r5
  obtain rfl : args = #[v0, v1, v2, v3, v4, v5] := by cases args; simp_all
  obtain ⟨n0, rfl, -, -, w0⟩ := open_int Try.underlying3 (hval 0 _ _ rfl rfl) h0
  obtain ⟨n1, rfl, -, -, w1⟩ := open_int Try.underlying3 (hval 1 _ _ rfl rfl) h1
  obtain ⟨n2, rfl, -⟩ := open_bool Try.underlying4 (hval 2 _ _ rfl rfl) h2
  obtain ⟨n3, rfl, -, -, w3⟩ := open_int Try.underlying3 (hval 3 _ _ rfl rfl) h3
  obtain ⟨n4, rfl, -, -, w4⟩ := open_int Try.underlying3 (hval 4 _ _ rfl rfl) h4
  obtain ⟨n5, rfl, -⟩ := open_bool Try.underlying4 (hval 5 _ _ rfl rfl) h5
  exact origins_walk n0 n1 n2 n3 n4 n5 (bounds_of_wf w0) W

set_option maxRecDepth 100000 in
theorem rulesOrigins_holds : Rows.RulesOriginsSaid :=
  OpenClaim.holds_of_wide 3 Try.f3 rfl rfl rfl rfl rfl rfl rfl ⟨rfl, rfl, rfl, rfl, rfl⟩ rfl rfl rfl rfl rfl (by kernel_rfl) Try.func3 (by kernel_rfl)
    (of_decide_eq_true (by kernel_rfl)) (by unfold Func.isWrapper; first | (rw [if_pos (by decide +kernel)]; kernel_rfl) | (rw [if_neg (by decide +kernel)]; exact ⟨rfl, rfl⟩))
    (fun os started H enc _ => law_lift (s := Rows.rulesOriginsSpec) Try.func3 (by kernel_rfl) (by kernel_rfl) rfl (fun H ds hd => by match ds, hd with | [_, _, _, _, _, _], _ => rfl) (by kernel_rfl) os started H enc
      (ChangeSpec.witness6 (enc := enc) (C := Try.checked) false ⟨#[], #[.int .i64 0, .int .i64 0, .bool false, .int .i64 0, .int .i64 0, .bool false], []⟩ 8 (by kernel_rfl) (by kernel_rfl) (by kernel_rfl) (by kernel_rfl)) rulesOrigins_law)
#print axioms rulesOrigins_holds
end Go.Proofs.Ytbnghchniboggaa
