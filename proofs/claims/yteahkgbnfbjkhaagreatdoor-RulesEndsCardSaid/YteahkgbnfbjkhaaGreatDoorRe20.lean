/-
  Words, Clock, ClockPlain, ClockCivil.
-/
import Derived.Test.YteahkgbnfbjkhaaGreatDoorProg
import Derived.Test.YteahkgbnfbjkhaaGreatDoorRe10
import Derived.Test.YteahkgbnfbjkhaaGreatDoorRe19
import Derived.Test.YteahkgbnfbjkhaaGreatDoorRe00
set_option maxRecDepth 20000
set_option linter.unusedVariables false
set_option linter.unusedSimpArgs false
set_option linter.unusedSectionVars false
namespace Go.Proofs.YteahkgbnfbjkhaaGreatDoor
open Go.ChangeShapes Go.WideShapes Go.ChangeAt Go.RowKit
def WordsAt (n : Nat) (f : Nat → ByteArray) (v : Value) (w : World) : Prop :=
 ∃ b, v = .slice (some ⟨b, 0, none⟩) n n ∧ b < w.heap.size ∧ ∀ i, i < n → w.cell? ⟨b, i, none⟩ = some (.string (f i))
def WordAt (s : ByteArray) (v : Value) (w : World) : Prop :=
 ∃ b i, v = .pointer (some ⟨b, i, none⟩) ∧ b < w.heap.size ∧ w.cell? ⟨b, i, none⟩ = some (.string s)
theorem WordsAt.mono {n f} : ∀ v w w', Below w.heap.size w w' → WordsAt n f v w → WordsAt n f v w' := fun v w w' hb ⟨b, h1, h2, h3⟩ =>
 ⟨b, h1, by have := hb.size; omega, fun i hi => (hb.cell (p := ⟨b, i, none⟩) h2).trans (h3 i hi)⟩
theorem WordAt.mono {s} : ∀ v w w', Below w.heap.size w w' → WordAt s v w → WordAt s v w' := fun v w w' hb ⟨b, i, h1, h2, h3⟩ =>
 ⟨b, i, h1, by have := hb.size; omega, (hb.cell (p := ⟨b, i, none⟩) h2).trans h3⟩
def wdOf : Nat → ByteArray
 | 0 => ⟨#[77, 111, 110]⟩ | 1 => ⟨#[84, 117, 101]⟩ | 2 => ⟨#[87, 101, 100]⟩ | 3 => ⟨#[84, 104, 117]⟩ | 4 => ⟨#[70, 114, 105]⟩ | 5 => ⟨#[83, 97, 116]⟩ | _ => ⟨#[83, 117, 110]⟩
def moOf : Nat → ByteArray
 | 0 => ⟨#[74, 97, 110]⟩ | 1 => ⟨#[70, 101, 98]⟩ | 2 => ⟨#[77, 97, 114]⟩ | 3 => ⟨#[65, 112, 114]⟩ | 4 => ⟨#[77, 97, 121]⟩ | 5 => ⟨#[74, 117, 110]⟩
 | 6 => ⟨#[74, 117, 108]⟩ | 7 => ⟨#[65, 117, 103]⟩ | 8 => ⟨#[83, 101, 112]⟩ | 9 => ⟨#[79, 99, 116]⟩ | 10 => ⟨#[78, 111, 118]⟩ | _ => ⟨#[68, 101, 99]⟩
@[go_sem] theorem wdOf_size (k : Nat) : (wdOf k).size = 3 := by unfold wdOf; split <;> rfl
@[go_sem] theorem moOf_size (k : Nat) : (moOf k).size = 3 := by unfold moOf; split <;> rfl
@[go_sem] theorem dig2_size (v : Int) : (dig2 v).size = 2 := rfl
@[go_sem] theorem dig4_size (v : Int) : (dig4 v).size = 4 := rfl
theorem weekdays_calls (w : World) : Calls Tryz.prog 107 #[] w fun r w' => (∃ v, r = .returned v ∧ WordsAt 7 wdOf v w') ∧ Below w.heap.size w w' := by
 go_enter Tryz.func107, Tryz.ntmps107
 go_wp2
 go_returns
 refine ⟨⟨_, rfl, _, rfl, by simp, fun i hi => ?_⟩, by (repeat' (first | (with_reducible exact Below.refl _ _) | (with_reducible refine Below.app ?_ ?_ _ _) | (with_reducible refine Below.alloc ?_ ?_ _) | (with_reducible refine Below.drew ?_) | (with_reducible refine Below.setCell ?_ ?_ _) | (with_reducible assumption) | omega | (simp; omega) | (simp; done)))⟩
 rw [World.cell?_alloc_mark]
 match i, hi with
 | 0, _ | 1, _ | 2, _ | 3, _ | 4, _ | 5, _ | 6, _ => rfl
theorem months_calls (w : World) : Calls Tryz.prog 109 #[] w fun r w' => (∃ v, r = .returned v ∧ WordsAt 12 moOf v w') ∧ Below w.heap.size w w' := by
 go_enter Tryz.func109, Tryz.ntmps109
 go_wp2
 go_returns
 refine ⟨⟨_, rfl, _, rfl, by simp, fun i hi => ?_⟩, by (repeat' (first | (with_reducible exact Below.refl _ _) | (with_reducible refine Below.app ?_ ?_ _ _) | (with_reducible refine Below.alloc ?_ ?_ _) | (with_reducible refine Below.drew ?_) | (with_reducible refine Below.setCell ?_ ?_ _) | (with_reducible assumption) | omega | (simp; omega) | (simp; done)))⟩
 rw [World.cell?_alloc_mark]
 match i, hi with
 | 0, _ | 1, _ | 2, _ | 3, _ | 4, _ | 5, _ | 6, _ | 7, _ | 8, _ | 9, _ | 10, _ | 11, _ => rfl
end Go.Proofs.YteahkgbnfbjkhaaGreatDoor
set_option maxRecDepth 20000
set_option linter.unusedVariables false
set_option linter.unusedSimpArgs false
set_option linter.unusedSectionVars false
namespace Go.Proofs.YteahkgbnfbjkhaaGreatDoor
open Go.ChangeShapes Go.WideShapes Go.ChangeAt Go.RowKit
def leap (y : Int) : Bool := decide (1970 ≤ y ∧ y ≤ 9999 ∧ y % 4 = 0 ∧ (y % 100 ≠ 0 ∨ y % 400 = 0))
def daysIn (y m : Int) : Int := if y < 1970 ∨ 9999 < y ∨ m < 1 ∨ 12 < m then 0 else if m = 2 then (if leap y = true then 29 else 28) else if m = 4 ∨ m = 6 ∨ m = 9 ∨ m = 11 then 30 else 31
theorem leap_calls (y : Int) (w : World) : Calls Tryz.prog 198 #[.int .i64 y] w fun r w' => r = .returned (.bool (leap y)) ∧ w = w' := by
 by_cases h : 1970 ≤ y ∧ y ≤ 9999
 · obtain ⟨h1, h2⟩ := h
   go_enter Tryz.func198, Tryz.ntmps198
   go_wp2
   all_goals (go_returns; refine ⟨rb ?_, rfl⟩; go_light; simp only [leap]; first | (simp; omega) | (simp; done) | grind)
 · replace h : y < 1970 ∨ 9999 < y := by omega
   go_enter Tryz.func198, Tryz.ntmps198
   rcases h with h | h
   all_goals
    go_wp2
    all_goals (go_returns; refine ⟨rb ?_, rfl⟩; go_light; simp only [leap]; first | (simp; omega) | (simp; done) | grind)
theorem rleap_calls (y : Int) (w : World) : Calls Tryz.prog 200 #[.int .i64 y] w fun r w' => r = .returned (.bool (leap y)) ∧ w = w' := by
 by_cases h : 1970 ≤ y ∧ y ≤ 9999
 · obtain ⟨h1, h2⟩ := h
   go_enter Tryz.func200, Tryz.ntmps200
   go_wp2
   all_goals (go_returns; refine ⟨rb ?_, rfl⟩; go_light; simp only [leap]; first | (simp; omega) | (simp; done) | grind)
 · replace h : y < 1970 ∨ 9999 < y := by omega
   go_enter Tryz.func200, Tryz.ntmps200
   rcases h with h | h
   all_goals
    go_wp2
    all_goals (go_returns; refine ⟨rb ?_, rfl⟩; go_light; simp only [leap]; first | (simp; omega) | (simp; done) | grind)
def fbef (y m d : Int) : Int := 365 * y + y / 4 - y / 100 + y / 400 + (153 * (m - 3) + 2) / 5 + d - 1
def bef (y m d : Int) : Int := if m ≤ 2 then fbef (y - 1) (m + 12) d else fbef y m d
theorem before_calls (y m d : Int) (hy : 1970 ≤ y ∧ y ≤ 9999) (hm : 1 ≤ m ∧ m ≤ 12) (hd : 1 ≤ d ∧ d ≤ 31) (w : World) : Calls Tryz.prog 162 #[.int .i64 y, .int .i64 m, .int .i64 d] w fun r w' => r = .returned (.int .i64 (bef y m d)) ∧ w = w' := by
 obtain ⟨hy1, hy2⟩ := hy
 obtain ⟨hm1, hm2⟩ := hm
 obtain ⟨hd1, hd2⟩ := hd
 go_enter Tryz.func162, Tryz.ntmps162
 go_wp2
 all_goals (go_returns; refine ⟨ri ?_, rfl⟩; go_light; simp only [bef, fbef]; first | (rw [if_pos (by omega)]; done) | (rw [if_neg (by omega)]; done) | (rw [if_pos (by omega)]; omega) | (rw [if_neg (by omega)]; omega))
end Go.Proofs.YteahkgbnfbjkhaaGreatDoor
set_option maxRecDepth 20000
set_option linter.unusedVariables false
set_option linter.unusedSimpArgs false
set_option linter.unusedSectionVars false
namespace Go.Proofs.YteahkgbnfbjkhaaGreatDoor
def cYear (x : Int) : Int := (x - x / 1460 + x / 36524 - x / 146096) / 365
def cAt (x : Int) : Int := x - (365 * cYear x + cYear x / 4 - cYear x / 100)
theorem cKey (x e b c Y p q : Int) (h0 : 0 ≤ x) (h1 : x ≤ 146096) (e1 : 1460 * e ≤ x) (e2 : x ≤ 1460 * e + 1459) (b1 : 36524 * b ≤ x) (b2 : x ≤ 36524 * b + 36523) (c1 : 146096 * c ≤ x) (c2 : x ≤ 146096 * c + 146095)
   (y1 : 365 * Y ≤ x - e + b - c) (y2 : x - e + b - c ≤ 365 * Y + 364) (p1 : 4 * p ≤ Y) (p2 : Y ≤ 4 * p + 3) (q1 : 100 * q ≤ Y) (q2 : Y ≤ 100 * q + 99) :
   0 ≤ Y ∧ Y ≤ 399 ∧ p - q ≤ e - b + c ∧ e - b + c ≤ p - q + 1 ∧ (x = 365 * Y + p - q + 365 → Y = 4 * p + 3 ∧ (Y ≠ 100 * q + 99 ∨ Y = 399)) := by
  have hb : b = 0 ∨ b = 1 ∨ b = 2 ∨ b = 3 ∨ b = 4 := by omega
  have hc : c = 0 ∨ c = 1 := by omega
  have g1 : 0 ≤ Y := by omega
  have g2 : Y ≤ 399 := by omega
  have hq : q = 0 ∨ q = 1 ∨ q = 2 ∨ q = 3 := by omega
  refine ⟨g1, g2, ?_, ?_, fun hx => ⟨?_, ?_⟩⟩
  all_goals (rcases hb with rfl | rfl | rfl | rfl | rfl <;> rcases hc with rfl | rfl <;> rcases hq with rfl | rfl | rfl | rfl <;> omega)
theorem cBounds (x : Int) (h0 : 0 ≤ x) (h1 : x ≤ 146096) : 0 ≤ cYear x ∧ cYear x ≤ 399 ∧ 0 ≤ cAt x ∧ cAt x ≤ 365 ∧ (cAt x = 365 → (cYear x + 1) % 4 = 0 ∧ ((cYear x + 1) % 100 ≠ 0 ∨ (cYear x + 1) % 400 = 0)) := by
 have hk := cKey x (x / 1460) (x / 36524) (x / 146096) (cYear x) (cYear x / 4) (cYear x / 100) h0 h1 (by omega) (by omega) (by omega) (by omega) (by omega) (by omega)
  (by unfold cYear; omega) (by unfold cYear; omega) (by omega) (by omega) (by omega) (by omega)
 have hY : 365 * cYear x ≤ x - x / 1460 + x / 36524 - x / 146096 ∧ x - x / 1460 + x / 36524 - x / 146096 ≤ 365 * cYear x + 364 := ⟨by unfold cYear; omega, by unfold cYear; omega⟩
 unfold cAt
 generalize cYear x = Y at *
 obtain ⟨k1, k2, k3, k4, k5⟩ := hk
 refine ⟨k1, k2, by omega, by omega, fun h => ?_⟩
 have := k5 (by omega)
 omega
def Right (y m d : Int) : Prop := 1970 ≤ y ∧ y ≤ 9999 ∧ 1 ≤ m ∧ m ≤ 12 ∧ 1 ≤ d ∧ d ≤ daysIn y m
def dY (n : Int) : Int := cYear (n % 146097) + 400 * (n / 146097) + (if 12 < (5 * cAt (n % 146097) + 2) / 153 + 3 then 1 else 0)
def dM (n : Int) : Int := if 12 < (5 * cAt (n % 146097) + 2) / 153 + 3 then (5 * cAt (n % 146097) + 2) / 153 + 3 - 12 else (5 * cAt (n % 146097) + 2) / 153 + 3
def dD (n : Int) : Int := cAt (n % 146097) - (153 * ((5 * cAt (n % 146097) + 2) / 153) + 2) / 5 + 1
theorem date_of (n : Int) (h0 : 719468 ≤ n) (h1 : n ≤ 719468 + 2932896) : Right (dY n) (dM n) (dD n) ∧ bef (dY n) (dM n) (dD n) = n := by
 obtain ⟨k1, k2, k3, k4, k5⟩ := cBounds (n % 146097) (by omega) (by omega)
 have hx : n % 146097 = cAt (n % 146097) + (365 * cYear (n % 146097) + cYear (n % 146097) / 4 - cYear (n % 146097) / 100) := by unfold cAt; omega
 have hn : n = 146097 * (n / 146097) + n % 146097 := by omega
 unfold dY dM dD
 generalize cYear (n % 146097) = Y at *
 generalize cAt (n % 146097) = T at *
 generalize n % 146097 = x at *
 generalize n / 146097 = E at *
 subst hx
 have hm : (5 * T + 2) / 153 = 0 ∨ (5 * T + 2) / 153 = 1 ∨ (5 * T + 2) / 153 = 2 ∨ (5 * T + 2) / 153 = 3 ∨ (5 * T + 2) / 153 = 4 ∨ (5 * T + 2) / 153 = 5 ∨ (5 * T + 2) / 153 = 6 ∨ (5 * T + 2) / 153 = 7 ∨ (5 * T + 2) / 153 = 8 ∨ (5 * T + 2) / 153 = 9 ∨ (5 * T + 2) / 153 = 10 ∨ (5 * T + 2) / 153 = 11 := by omega
 have hyr : 1969 ≤ Y + 400 * E ∧ Y + 400 * E ≤ 9999 ∧ (Y + 400 * E = 1969 → 306 ≤ T) ∧ (Y + 400 * E = 9999 → T ≤ 305) := by
  refine ⟨by omega, by omega, fun h => by omega, fun h => by omega⟩
 obtain ⟨r1, r2, r3, r4⟩ := hyr
 have v1 : (Y + 400 * E) / 4 = Y / 4 + 100 * E := by omega
 have v2 : (Y + 400 * E) / 100 = Y / 100 + 4 * E := by omega
 have v3 : (Y + 400 * E) / 400 = E := by omega
 have hpos : ∀ a b : Int, 1970 ≤ a → a ≤ 9999 → 1 ≤ b → b ≤ 12 → daysIn a b = if b = 2 then (if leap a = true then 29 else 28) else if b = 4 ∨ b = 6 ∨ b = 9 ∨ b = 11 then 30 else 31 := fun a b g1 g2 g3 g4 => by
  unfold daysIn; rw [if_neg (by omega)]
 rcases hm with hm | hm | hm | hm | hm | hm | hm | hm | hm | hm | hm | hm <;> rw [hm] <;> simp only [Int.reduceMul, Int.reduceAdd, Int.reduceDiv, Int.reduceLT, Int.reduceSub, if_true, if_false, Int.add_zero]
 all_goals
  refine ⟨⟨by omega, by omega, by omega, by omega, by omega, ?_⟩, by simp only [bef, fbef]; simp; omega⟩
  rw [hpos _ _ (by omega) (by omega) (by omega) (by omega)]
  simp
  try omega
 · -- February
   split
   · omega
   · rename_i hl
     have : T ≠ 365 := fun h => hl (by
      have := k5 h
      simp only [leap, decide_eq_true_eq]
      omega)
     omega
end Go.Proofs.YteahkgbnfbjkhaaGreatDoor
set_option maxRecDepth 20000
set_option linter.unusedVariables false
set_option linter.unusedSimpArgs false
set_option linter.unusedSectionVars false
namespace Go.Proofs.YteahkgbnfbjkhaaGreatDoor
open Go.ChangeShapes Go.WideShapes Go.ChangeAt Go.RowKit
def civV (t : Int) : Value := .agg #[.int .i64 (dY (t / 86400 + 719468)), .int .i64 (dM (t / 86400 + 719468)), .int .i64 (dD (t / 86400 + 719468)), .int .i64 (t % 86400 / 3600), .int .i64 (t % 86400 / 60 % 60), .int .i64 (t % 86400 % 60), .int .i64 ((t / 86400 + 3) % 7)]
theorem before_1970 (w : World) : Calls Tryz.prog 162 #[.int .i64 1970, .int .i64 1, .int .i64 1] w fun r w' => r = .returned (.int .i64 719468) ∧ w = w' := by
 have := before_calls 1970 1 1 (by omega) (by omega) (by omega) w
 simpa [bef, fbef] using this
set_option maxHeartbeats 4000000 in
theorem civil_calls (t : Int) (h0 : 0 ≤ t) (h1 : t ≤ 253402300799) (w : World) : Calls Tryz.prog 131 #[.int .i64 t] w fun r w' => r = .returned (.tuple #[civV t, .bool true]) ∧ Below w.heap.size w w' := by
 obtain ⟨k1, k2, k3, k4, -⟩ := cBounds ((t / 86400 + 719468) % 146097) (by omega) (by omega)
 have hn1 : 0 ≤ t / 86400 := by omega
 have hn2 : t / 86400 ≤ 2932896 := by omega
 unfold civV dY dM dD
 have hx1 : 0 ≤ (t / 86400 + 719468) % 146097 := by omega
 have hx2 : (t / 86400 + 719468) % 146097 ≤ 146096 := by omega
 have hE1 : 0 ≤ (t / 86400 + 719468) / 146097 := by omega
 have hE2 : (t / 86400 + 719468) / 146097 ≤ 30 := by omega
 generalize hx : (t / 86400 + 719468) % 146097 = x at *
 generalize hE : (t / 86400 + 719468) / 146097 = E at *
 generalize hY : cYear x = Y at *
 generalize hT : cAt x = T at *
 unfold cAt at hT
 rw [hY] at hT
 unfold cYear at hY
 generalize hm : (5 * T + 2) / 153 = m at *
 have hm1 : 0 ≤ m := by omega
 have hm2 : m ≤ 11 := by omega
 go_enter Tryz.func131, Tryz.ntmps131
 go_wp2_with (go_at_call 162; ((refine (before_1970 _).mono ?_); rintro r w1 ⟨rfl, rfl⟩))
 all_goals
  go_returns
  refine ⟨?_, by (repeat' (first | (with_reducible exact Below.refl _ _) | (with_reducible refine Below.app ?_ ?_ _ _) | (with_reducible refine Below.alloc ?_ ?_ _) | (with_reducible refine Below.drew ?_) | (with_reducible refine Below.setCell ?_ ?_ _) | (with_reducible assumption) | omega | (simp; omega) | (simp; done)))⟩
  go_light
  rfl
theorem civil_none (t : Int) (h : t < 0 ∨ 253402300799 < t) (w : World) : Calls Tryz.prog 131 #[.int .i64 t] w fun r w' => r = .returned (.tuple #[.agg #[.int .i64 0, .int .i64 0, .int .i64 0, .int .i64 0, .int .i64 0, .int .i64 0, .int .i64 0], .bool false]) ∧ Below w.heap.size w w' := by
 go_enter Tryz.func131, Tryz.ntmps131
 rcases h with h | h
 all_goals
  go_wp2
  all_goals (go_returns; exact ⟨rfl, by (repeat' (first | (with_reducible exact Below.refl _ _) | (with_reducible refine Below.app ?_ ?_ _ _) | (with_reducible refine Below.alloc ?_ ?_ _) | (with_reducible refine Below.drew ?_) | (with_reducible refine Below.setCell ?_ ?_ _) | (with_reducible assumption) | omega | (simp; omega) | (simp; done)))⟩)
end Go.Proofs.YteahkgbnfbjkhaaGreatDoor
