/-
  Dates, in plain arithmetic: the formula that finds a day's date finds a right one whose day that is; a day has one right date.
-/
import Derived.Test.YtbnghchniboggaaClock
namespace Go.Proofs.Ytbnghchniboggaa

def cYear (x : Int) : Int := (x - x / 1460 + x / 36524 - x / 146096) / 365
def cAt (x : Int) : Int := x - (365 * cYear x + cYear x / 4 - cYear x / 100)
theorem cKey (x e b c Y p q : Int) (h0 : 0 ≤ x) (h1 : x ≤ 146096) (e1 : 1460 * e ≤ x) (e2 : x ≤ 1460 * e + 1459) (b1 : 36524 * b ≤ x) (b2 : x ≤ 36524 * b + 36523) (c1 : 146096 * c ≤ x) (c2 : x ≤ 146096 * c + 146095)
   (y1 : 365 * Y ≤ x - e + b - c) (y2 : x - e + b - c ≤ 365 * Y + 364) (p1 : 4 * p ≤ Y) (p2 : Y ≤ 4 * p + 3) (q1 : 100 * q ≤ Y) (q2 : Y ≤ 100 * q + 99) :
   0 ≤ Y ∧ Y ≤ 399 ∧ p - q ≤ e - b + c ∧ e - b + c ≤ p - q + 1 ∧ (x = 365 * Y + p - q + 365 → Y = 4 * p + 3 ∧ (Y ≠ 100 * q + 99 ∨ Y = 399)) := by
  have hb : b = 0 ∨ b = 1 ∨ b = 2 ∨ b = 3 ∨ b = 4 := by omega
  have hc : c = 0 ∨ c = 1 := by omega
  have g1 : 0 ≤ Y := by omega
  have g2 : Y ≤ 399 := by omega
  have hq : q = 0 ∨ q = 1 ∨ q = 2 ∨ q = 3 := by omega
  refine ⟨g1, g2, ?_, ?_, fun hx => ⟨?_, ?_⟩⟩
  all_goals (rcases hb with rfl | rfl | rfl | rfl | rfl <;> rcases hc with rfl | rfl <;> rcases hq with rfl | rfl | rfl | rfl <;> omega)
theorem cBounds (x : Int) (h0 : 0 ≤ x) (h1 : x ≤ 146096) : 0 ≤ cYear x ∧ cYear x ≤ 399 ∧ 0 ≤ cAt x ∧ cAt x ≤ 365 ∧ (cAt x = 365 → (cYear x + 1) % 4 = 0 ∧ ((cYear x + 1) % 100 ≠ 0 ∨ (cYear x + 1) % 400 = 0)) := by
  have hk := cKey x (x / 1460) (x / 36524) (x / 146096) (cYear x) (cYear x / 4) (cYear x / 100) h0 h1 (by omega) (by omega) (by omega) (by omega) (by omega) (by omega)
    (by unfold cYear; omega) (by unfold cYear; omega) (by omega) (by omega) (by omega) (by omega)
  have hY : 365 * cYear x ≤ x - x / 1460 + x / 36524 - x / 146096 ∧ x - x / 1460 + x / 36524 - x / 146096 ≤ 365 * cYear x + 364 := ⟨by unfold cYear; omega, by unfold cYear; omega⟩
  unfold cAt
  generalize cYear x = Y at *
  obtain ⟨k1, k2, k3, k4, k5⟩ := hk
  refine ⟨k1, k2, by omega, by omega, fun h => ?_⟩
  have := k5 (by omega)
  omega

/-- A right date. -/
def Right (y m d : Int) : Prop := 1970 ≤ y ∧ y ≤ 9999 ∧ 1 ≤ m ∧ m ≤ 12 ∧ 1 ≤ d ∧ d ≤ daysIn y m
theorem month_end (y m : Int) (h1 : 1970 ≤ y) (h2 : y ≤ 9999) (h3 : 1 ≤ m) (h4 : m ≤ 11) : bef y (m + 1) 1 = bef y m 1 + daysIn y m := by
  have hm : m = 1 ∨ m = 2 ∨ m = 3 ∨ m = 4 ∨ m = 5 ∨ m = 6 ∨ m = 7 ∨ m = 8 ∨ m = 9 ∨ m = 10 ∨ m = 11 := by omega
  have hd : daysIn y m = if m = 2 then (if leap y = true then 29 else 28) else if m = 4 ∨ m = 6 ∨ m = 9 ∨ m = 11 then 30 else 31 := by
    unfold daysIn; rw [if_neg (by omega)]
  rw [hd]
  have hl : leap y = true ↔ (y % 4 = 0 ∧ (y % 100 ≠ 0 ∨ y % 400 = 0)) := by simp [leap, h1, h2]
  rcases hm with rfl | rfl | rfl | rfl | rfl | rfl | rfl | rfl | rfl | rfl | rfl
  all_goals (simp only [bef, fbef]; simp)
  all_goals (try omega)
  split
  · rename_i h; have := hl.1 h; omega
  · rename_i h; have : ¬ (y % 4 = 0 ∧ (y % 100 ≠ 0 ∨ y % 400 = 0)) := fun h' => h (hl.2 h'); omega
theorem year_end (y : Int) (h1 : 1970 ≤ y) (h2 : y ≤ 9999) : bef (y + 1) 1 1 = bef y 12 1 + 31 ∧ bef (y + 1) 1 1 = bef y 1 1 + (if leap y = true then 366 else 365) := by
  have hl : leap y = true ↔ (y % 4 = 0 ∧ (y % 100 ≠ 0 ∨ y % 400 = 0)) := by simp [leap, h1, h2]
  constructor
  · simp only [bef, fbef]; simp; omega
  · simp only [bef, fbef]; simp
    split
    · rename_i h; have := hl.1 h; omega
    · rename_i h; have : ¬ (y % 4 = 0 ∧ (y % 100 ≠ 0 ∨ y % 400 = 0)) := fun h' => h (hl.2 h'); omega
theorem bef_day (y m d : Int) : bef y m d = bef y m 1 + d - 1 := by unfold bef fbef; split <;> omega
theorem year_mono {y z : Int} (h : y < z) : bef (y + 1) 1 1 ≤ bef z 1 1 := by
  simp only [bef, fbef]; simp; omega
theorem month_mono {y : Int} (h1 : 1970 ≤ y) (h2 : y ≤ 9999) : ∀ (n : Nat) (m : Int), 1 ≤ m → m + n ≤ 12 → bef y m 1 ≤ bef y (m + n) 1
  | 0, m, _, _ => by simp
  | n + 1, m, h3, h4 => by
    have := month_mono h1 h2 n m h3 (by omega)
    have h5 := month_end y (m + n) h1 h2 (by omega) (by omega)
    have h6 : 0 ≤ daysIn y (m + n) := by unfold daysIn; repeat' split <;> omega
    rw [show m + ((n + 1 : Nat) : Int) = m + n + 1 by omega]
    omega
theorem in_year {y m d : Int} (h : Right y m d) : bef y 1 1 ≤ bef y m d ∧ bef y m d < bef (y + 1) 1 1 := by
  obtain ⟨h1, h2, h3, h4, h5, h6⟩ := h
  have a := month_mono h1 h2 (m - 1).toNat 1 (by omega) (by omega)
  rw [show (1 : Int) + ((m - 1).toNat : Nat) = m by omega] at a
  have b := bef_day y m d
  have y1 := (year_end y h1 h2).1
  refine ⟨by omega, ?_⟩
  rcases Int.lt_or_le m 12 with hlt | hge
  · have c := month_end y m h1 h2 h3 (by omega)
    have e := month_mono h1 h2 (12 - (m + 1)).toNat (m + 1) (by omega) (by omega)
    rw [show m + 1 + ((12 - (m + 1)).toNat : Nat) = 12 by omega] at e
    omega
  · have : m = 12 := by omega
    subst this
    have : daysIn y 12 = 31 := by unfold daysIn; rw [if_neg (by omega)]; simp
    omega
/-- A day has one right date. -/
theorem right_one {y m d y' m' d' : Int} (h : Right y m d) (h' : Right y' m' d') (he : bef y m d = bef y' m' d') : y = y' ∧ m = m' ∧ d = d' := by
  have a := in_year h
  have b := in_year h'
  have hy : y = y' := by
    rcases Int.lt_trichotomy y y' with hl | hl | hl
    · have := year_mono hl; omega
    · exact hl
    · have := year_mono hl; omega
  subst hy
  obtain ⟨h1, h2, h3, h4, h5, h6⟩ := h
  obtain ⟨_, _, k3, k4, k5, k6⟩ := h'
  have hm : m = m' := by
    have p := bef_day y m d
    have q := bef_day y m' d'
    rcases Int.lt_trichotomy m m' with hl | hl | hl
    · have c := month_end y m h1 h2 h3 (by omega)
      have e := month_mono h1 h2 (m' - (m + 1)).toNat (m + 1) (by omega) (by omega)
      rw [show m + 1 + ((m' - (m + 1)).toNat : Nat) = m' by omega] at e
      omega
    · exact hl
    · have c := month_end y m' h1 h2 k3 (by omega)
      have e := month_mono h1 h2 (m - (m' + 1)).toNat (m' + 1) (by omega) (by omega)
      rw [show m' + 1 + ((m - (m' + 1)).toNat : Nat) = m by omega] at e
      omega
  subst hm
  have p := bef_day y m d
  have q := bef_day y m d'
  exact ⟨rfl, rfl, by omega⟩

/-- The date of a day, counted from the first of March of the year 0 on. -/
def dY (n : Int) : Int := cYear (n % 146097) + 400 * (n / 146097) + (if 12 < (5 * cAt (n % 146097) + 2) / 153 + 3 then 1 else 0)
def dM (n : Int) : Int := if 12 < (5 * cAt (n % 146097) + 2) / 153 + 3 then (5 * cAt (n % 146097) + 2) / 153 + 3 - 12 else (5 * cAt (n % 146097) + 2) / 153 + 3
def dD (n : Int) : Int := cAt (n % 146097) - (153 * ((5 * cAt (n % 146097) + 2) / 153) + 2) / 5 + 1
theorem date_of (n : Int) (h0 : 719468 ≤ n) (h1 : n ≤ 719468 + 2932896) : Right (dY n) (dM n) (dD n) ∧ bef (dY n) (dM n) (dD n) = n := by
  obtain ⟨k1, k2, k3, k4, k5⟩ := cBounds (n % 146097) (by omega) (by omega)
  have hx : n % 146097 = cAt (n % 146097) + (365 * cYear (n % 146097) + cYear (n % 146097) / 4 - cYear (n % 146097) / 100) := by unfold cAt; omega
  have hn : n = 146097 * (n / 146097) + n % 146097 := by omega
  unfold dY dM dD
  generalize cYear (n % 146097) = Y at *
  generalize cAt (n % 146097) = T at *
  generalize n % 146097 = x at *
  generalize n / 146097 = E at *
  subst hx
  have hm : (5 * T + 2) / 153 = 0 ∨ (5 * T + 2) / 153 = 1 ∨ (5 * T + 2) / 153 = 2 ∨ (5 * T + 2) / 153 = 3 ∨ (5 * T + 2) / 153 = 4 ∨ (5 * T + 2) / 153 = 5 ∨ (5 * T + 2) / 153 = 6 ∨ (5 * T + 2) / 153 = 7 ∨ (5 * T + 2) / 153 = 8 ∨ (5 * T + 2) / 153 = 9 ∨ (5 * T + 2) / 153 = 10 ∨ (5 * T + 2) / 153 = 11 := by omega
  have hyr : 1969 ≤ Y + 400 * E ∧ Y + 400 * E ≤ 9999 ∧ (Y + 400 * E = 1969 → 306 ≤ T) ∧ (Y + 400 * E = 9999 → T ≤ 305) := by
    refine ⟨by omega, by omega, fun h => by omega, fun h => by omega⟩
  obtain ⟨r1, r2, r3, r4⟩ := hyr
  have v1 : (Y + 400 * E) / 4 = Y / 4 + 100 * E := by omega
  have v2 : (Y + 400 * E) / 100 = Y / 100 + 4 * E := by omega
  have v3 : (Y + 400 * E) / 400 = E := by omega
  have hpos : ∀ a b : Int, 1970 ≤ a → a ≤ 9999 → 1 ≤ b → b ≤ 12 → daysIn a b = if b = 2 then (if leap a = true then 29 else 28) else if b = 4 ∨ b = 6 ∨ b = 9 ∨ b = 11 then 30 else 31 := fun a b g1 g2 g3 g4 => by
    unfold daysIn; rw [if_neg (by omega)]
  rcases hm with hm | hm | hm | hm | hm | hm | hm | hm | hm | hm | hm | hm <;> rw [hm] <;> simp only [Int.reduceMul, Int.reduceAdd, Int.reduceDiv, Int.reduceLT, Int.reduceSub, if_true, if_false, Int.add_zero]
  all_goals
    refine ⟨⟨by omega, by omega, by omega, by omega, by omega, ?_⟩, by simp only [bef, fbef]; simp; omega⟩
    rw [hpos _ _ (by omega) (by omega) (by omega) (by omega)]
    simp
    try omega
  · -- February
    split
    · omega
    · rename_i hl
      have : T ≠ 365 := fun h => hl (by
        have := k5 h
        simp only [leap, decide_eq_true_eq]
        omega)
      omega
end Go.Proofs.Ytbnghchniboggaa
