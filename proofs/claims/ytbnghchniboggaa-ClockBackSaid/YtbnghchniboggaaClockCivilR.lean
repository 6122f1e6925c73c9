/-
  ref09.Civil: what it gives.
-/
import Derived.Test.YtbnghchniboggaaClockCivil
import Derived.Test.YtbnghchniboggaaClockSecR
namespace Go.Proofs.Ytbnghchniboggaa
open Go.ChangeShapes Go.WideShapes Go.ChangeAt Go.RowKit

def cwY (w : World) (G : Obj) (y m d h i s wk : Int) : World := (w.alloc G).alloc (.cells #[.int .i64 y, .int .i64 m, .int .i64 d, .int .i64 h, .int .i64 i, .int .i64 s, .int .i64 wk] 27)

def RelCY (w : World) (G : Obj) (n Y h i s wk : Int) (s3 : Value) (wr : World) : Prop :=
  ∃ y : Int, 1970 ≤ y ∧ y ≤ Y ∧ s3 = .int .i64 (n - bef y 1 1) ∧ wr = cwY w G y 1 0 h i s wk
def RelCM (w : World) (G : Obj) (n Y M h i s wk : Int) (s3 : Value) (wr : World) : Prop :=
  ∃ (m : Int) (bs : Array Obj) (e : Nat), 1 ≤ m ∧ m ≤ M ∧ s3 = .int .i64 (n - bef Y m 1) ∧ wr = app (cwY w G Y m 0 h i s wk) bs e

set_option maxRecDepth 20000 in
set_option maxHeartbeats 8000000 in
theorem rcivil_calls (t : Int) (h0 : 0 ≤ t) (h1 : t ≤ 253402300799) (w : World) : Calls Try.prog 14 #[.int .i64 t] w fun r w' => r = .returned (.agg #[.int .i64 (dY (t / 86400 + 719468)), .int .i64 (dM (t / 86400 + 719468)), .int .i64 (dD (t / 86400 + 719468)), .int .i64 (t % 86400 / 3600), .int .i64 (t % 86400 / 60 % 60), .int .i64 (t % 86400 % 60), .int .i64 ((t / 86400 + 3) % 7), .bool true]) ∧ Below w.heap.size w w' := by
  obtain ⟨hR, hB⟩ := date_of (t / 86400 + 719468) (by omega) (by omega)
  generalize dY (t / 86400 + 719468) = Y at *
  generalize dM (t / 86400 + 719468) = M at *
  generalize dD (t / 86400 + 719468) = D at *
  have e1 : t % 86400 / 60 % 60 = t % 3600 / 60 := by omega
  have e2 : t % 86400 % 60 = t % 60 := by omega
  rw [e1, e2]
  clear e1 e2
  obtain ⟨n1, n2⟩ := in_year hR
  obtain ⟨q1, q2⟩ := bef_bd hR
  rw [hB] at n1 n2 q1 q2
  have hBH := Lib.hid hB
  clear hB
  have hRH := Lib.hid hR
  obtain ⟨r1, r2, r3, r4, r5, r6⟩ := hR
  have n1H := Lib.hid n1
  have n2H := Lib.hid n2
  clear n1 n2
  go_enter Try.func14, Try.ntmps14
  go_wp2
  generalize t % 86400 % 3600 = z1
  generalize t % 86400 % 60 = z2
  go_loopw [3] (fun v wr => RelCY w (.cells #[.int .i64 0, .int .i64 0, .int .i64 0, .int .i64 0, .int .i64 0, .int .i64 0, .int .i64 0, .bool false] 31) (t / 86400 + 719468) Y (t % 86400 / 3600) (t % 3600 / 60) (t % 60) ((t / 86400 + 3) % 7) v wr) (fun v _ => (intOf v).toNat)
  case atStart => exact ⟨1970, by omega, by omega, by rw [show bef 1970 1 1 = 719468 by decide]; congr 1; omega, rfl⟩
  case round =>
    obtain ⟨y, y1, y2, rfl, rfl⟩ := hrel
    simp only [cwY]
    by_cases hlt : y < Y
    · have he := (year_end y y1 (by omega)).2
      have hm := year_mono hlt
      have hb := bef_bd (y := y) (m := 1) (d := 1) ⟨y1, by omega, by omega, by omega, by omega, by have := month_one (y := y) (m := 1) (by omega) (by omega) (by omega) (by omega); omega⟩
      have hge : (if leap y = true then (366 : Int) else 365) ≤ t / 86400 + 719468 - bef y 1 1 := by have := n1H.out; omega
      have he' : Hid (t / 86400 + 719468 - bef y 1 1 - (if leap y = true then (366 : Int) else 365) = t / 86400 + 719468 - bef (y + 1) 1 1) := by unfold Hid; omega
      have hl : 365 ≤ (if leap y = true then (366 : Int) else 365) ∧ (if leap y = true then (366 : Int) else 365) ≤ 366 := by split <;> omega
      have hlc := Lib.hid (length_calls y)
      clear he hm
      generalize (if leap y = true then (366 : Int) else 365) = L at *
      generalize hBy : bef y 1 1 = B at *
      replace hBy := Lib.hid hBy
      go_wp2_with (go_at_call 30; ((refine (hlc.out _).mono ?_); rintro r w1 ⟨rfl, rfl⟩))
      go_roundw
      case rel => first | exact ⟨y + 1, by omega, by omega, congrArg (Value.int .i64) he'.out, rfl⟩ | ((repeat apply Exists.intro); refine ⟨?rl, ?fr⟩; case fr => ((repeat' apply And.intro) <;> exact rfl); case rl => exact ⟨y + 1, by omega, by omega, congrArg (Value.int .i64) he'.out, rfl⟩)
      case measure => simp [intOf]; omega
    · have hy : y = Y := by omega
      subst hy
      have hge : t / 86400 + 719468 - bef y 1 1 < (if leap y = true then (366 : Int) else 365) := by have := n2H.out; have := (year_end y y1 r2).2; omega
      have hlc := Lib.hid (length_calls y)
      have hb := bef_bd (y := y) (m := 1) (d := 1) ⟨y1, r2, by omega, by omega, by omega, by have := month_one (y := y) (m := 1) (by omega) (by omega) (by omega) (by omega); omega⟩
      generalize (if leap y = true then (366 : Int) else 365) = L at *
      generalize hBy : bef y 1 1 = B at *
      replace hBy := Lib.hid hBy
      go_wp2_with (go_at_call 30; ((refine (hlc.out _).mono ?_); rintro r w1 ⟨rfl, rfl⟩))
      go_loopw [3] (fun v wr => RelCM w (.cells #[.int .i64 0, .int .i64 0, .int .i64 0, .int .i64 0, .int .i64 0, .int .i64 0, .int .i64 0, .bool false] 31) (t / 86400 + 719468) y M (t % 86400 / 3600) (t % 3600 / 60) (t % 60) ((t / 86400 + 3) % 7) v wr) (fun v _ => (intOf v).toNat)
      case atStart => exact ⟨1, #[], _, by omega, by omega, by rw [hBy.out], (app_nil _).symm⟩
      case round =>
        obtain ⟨m, bs, e, m1, m2, rfl, rfl⟩ := hrel
        simp only [cwY]
        clear hge hlc n2H
        obtain ⟨d1, d2⟩ := daysIn_bd y m
        by_cases hlm : m < M
        · have he := month_end y m r1 r2 m1 (by omega)
          have hmm := month_mono r1 r2 (M - (m + 1)).toNat (m + 1) (by omega) (by omega)
          rw [show m + 1 + ((M - (m + 1)).toNat : Int) = M by omega] at hmm
          have hbd := bef_day y M D
          have hn := hBH.out
          have hb2 := bef_bd (y := y) (m := m) (d := 1) ⟨r1, r2, m1, by omega, by omega, by have := month_one (y := y) (m := m) r1 r2 m1 (by omega); omega⟩
          have h28 := month_one (y := y) (m := m) r1 r2 m1 (by omega)
          have hge : daysIn y m ≤ t / 86400 + 719468 - bef y m 1 := by omega
          have he' : Hid (t / 86400 + 719468 - bef y m 1 - daysIn y m = t / 86400 + 719468 - bef y (m + 1) 1) := by unfold Hid; omega
          have hdc := Lib.hid (rdays_calls y m)
          clear he hmm hbd hn
          generalize daysIn y m = L at *
          generalize hBm : bef y m 1 = B2 at *
          replace hBm := Lib.hid hBm
          go_wp2_with (go_at_call 20; ((refine (hdc.out _).mono ?_); rintro r w1 ⟨rfl, hb⟩; obtain ⟨b4, b4d, rfl⟩ := of_below hb; clear hb))
          go_roundw
          case rel => first | exact ⟨m + 1, _, _, by omega, by omega, congrArg (Value.int .i64) he'.out, rfl⟩ | ((repeat apply Exists.intro); refine ⟨?rl, ?fr⟩; case fr => ((repeat' apply And.intro) <;> exact rfl); case rl => exact ⟨m + 1, _, _, by omega, by omega, congrArg (Value.int .i64) he'.out, rfl⟩)
          case measure => simp [intOf]; omega
        · have hm : m = M := by omega
          subst hm
          have hdc := Lib.hid (rdays_calls y m)
          have hDs : t / 86400 + 719468 - bef y m 1 = D - 1 := by have := hBH.out; have := bef_day y m D; omega
          rw [hDs]
          generalize daysIn y m = L at *
          go_wp2_with (go_at_call 20; ((refine (hdc.out _).mono ?_); rintro r w1 ⟨rfl, hb⟩; obtain ⟨b4, b4d, rfl⟩ := of_below hb; clear hb))
          go_returns
          refine ⟨?_, by (repeat' (first | (with_reducible exact Below.refl _ _) | (with_reducible refine Below.app ?_ ?_ _ _) | (with_reducible refine Below.alloc ?_ ?_ _) | (with_reducible refine Below.drew ?_) | (with_reducible refine Below.setCell ?_ ?_ _) | (with_reducible assumption) | omega | (simp; omega) | (simp; done)))⟩
          go_light
          rfl
theorem rcivil_none (t : Int) (h : t < 0 ∨ 253402300799 < t) (w : World) : Calls Try.prog 14 #[.int .i64 t] w fun r w' => r = .returned (.agg #[.int .i64 0, .int .i64 0, .int .i64 0, .int .i64 0, .int .i64 0, .int .i64 0, .int .i64 0, .bool false]) ∧ Below w.heap.size w w' := by
  go_enter Try.func14, Try.ntmps14
  rcases h with h | h
  all_goals
    go_wp2
    all_goals (go_returns; exact ⟨rfl, by (repeat' (first | (with_reducible exact Below.refl _ _) | (with_reducible refine Below.app ?_ ?_ _ _) | (with_reducible refine Below.alloc ?_ ?_ _) | (with_reducible refine Below.drew ?_) | (with_reducible refine Below.setCell ?_ ?_ _) | (with_reducible assumption) | omega | (simp; omega) | (simp; done)))⟩)
end Go.Proofs.Ytbnghchniboggaa
