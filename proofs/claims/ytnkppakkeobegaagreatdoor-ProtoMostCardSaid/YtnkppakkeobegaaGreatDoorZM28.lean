/-
  PmL.
-/
import Derived.Test.YtnkppakkeobegaaGreatDoorZM21
import Derived.Test.YtnkppakkeobegaaGreatDoorZM22
import Derived.Test.YtnkppakkeobegaaGreatDoorZM23
import Derived.Test.YtnkppakkeobegaaGreatDoorZM24
import Derived.Test.YtnkppakkeobegaaGreatDoorZM25
import Derived.Test.YtnkppakkeobegaaGreatDoorZM26
import Derived.Test.YtnkppakkeobegaaGreatDoorZM27
set_option maxRecDepth 20000
set_option linter.unusedVariables false
set_option linter.unusedSimpArgs false
set_option linter.unusedSectionVars false
namespace Go.Proofs.YtnkppakkeobegaaGreatDoor
namespace AX
noncomputable section
def pmG : Bool → Nat → Heap
 | false, 0 => pmG_f0
 | false, 1 => pmG_f1
 | false, 2 => pmG_f2
 | false, 3 => pmG_f3
 | false, 4 => pmG_f4
 | false, 5 => pmG_f5
 | false, 6 => pmG_f6
 | false, 7 => pmG_f7
 | false, 8 => pmG_f8
 | false, 9 => pmG_f9
 | false, 10 => pmG_f10
 | false, 11 => pmG_f11
 | false, 12 => pmG_f12
 | false, 13 => pmG_f13
 | false, 14 => pmG_f14
 | false, 15 => pmG_f15
 | false, 16 => pmG_f16
 | false, 17 => pmG_f17
 | false, 18 => pmG_f18
 | false, 19 => pmG_f19
 | false, 20 => pmG_f20
 | false, 21 => pmG_f21
 | false, 22 => pmG_f22
 | false, 23 => pmG_f23
 | false, 24 => pmG_f24
 | false, 25 => pmG_f25
 | false, 26 => pmG_f26
 | false, 27 => pmG_f27
 | false, 28 => pmG_f28
 | false, 29 => pmG_f29
 | false, 30 => pmG_f30
 | true, 0 => pmG_t0
 | true, 1 => pmG_t1
 | true, 2 => pmG_t2
 | true, 3 => pmG_t3
 | true, 4 => pmG_t4
 | true, 5 => pmG_t5
 | true, 6 => pmG_t6
 | true, 7 => pmG_t7
 | true, 8 => pmG_t8
 | true, 9 => pmG_t9
 | true, 10 => pmG_t10
 | true, 11 => pmG_t11
 | true, 12 => pmG_t12
 | true, 13 => pmG_t13
 | true, 14 => pmG_t14
 | true, 15 => pmG_t15
 | true, 16 => pmG_t16
 | true, 17 => pmG_t17
 | true, 18 => pmG_t18
 | true, 19 => pmG_t19
 | true, 20 => pmG_t20
 | true, 21 => pmG_t21
 | true, 22 => pmG_t22
 | true, 23 => pmG_t23
 | true, 24 => pmG_t24
 | true, 25 => pmG_t25
 | true, 26 => pmG_t26
 | true, 27 => pmG_t27
 | true, 28 => pmG_t28
 | true, 29 => pmG_t29
 | true, 30 => pmG_t30
 | _, _ => []
abbrev pmC : CallF := acall AXE AXF 1001000
theorem pmr (K : Bool → Int → Cell → Int → Int → Heap → OR) (x : Int) : ∀ (l : Bool) (i : Nat), i < 30 → pmR pmC 1001001 K l x 3 0 ((min i 20 : Nat) : Int) (i : Int) (pmG l i) = K l x (.gptr 3 0) ((min (i + 1) 20 : Nat) : Int) ((i + 1 : Nat) : Int) (pmG l (i + 1))
 | false, 0, _ => pmr_f0 K x
 | false, 1, _ => pmr_f1 K x
 | false, 2, _ => pmr_f2 K x
 | false, 3, _ => pmr_f3 K x
 | false, 4, _ => pmr_f4 K x
 | false, 5, _ => pmr_f5 K x
 | false, 6, _ => pmr_f6 K x
 | false, 7, _ => pmr_f7 K x
 | false, 8, _ => pmr_f8 K x
 | false, 9, _ => pmr_f9 K x
 | false, 10, _ => pmr_f10 K x
 | false, 11, _ => pmr_f11 K x
 | false, 12, _ => pmr_f12 K x
 | false, 13, _ => pmr_f13 K x
 | false, 14, _ => pmr_f14 K x
 | false, 15, _ => pmr_f15 K x
 | false, 16, _ => pmr_f16 K x
 | false, 17, _ => pmr_f17 K x
 | false, 18, _ => pmr_f18 K x
 | false, 19, _ => pmr_f19 K x
 | false, 20, _ => pmr_f20 K x
 | false, 21, _ => pmr_f21 K x
 | false, 22, _ => pmr_f22 K x
 | false, 23, _ => pmr_f23 K x
 | false, 24, _ => pmr_f24 K x
 | false, 25, _ => pmr_f25 K x
 | false, 26, _ => pmr_f26 K x
 | false, 27, _ => pmr_f27 K x
 | false, 28, _ => pmr_f28 K x
 | false, 29, _ => pmr_f29 K x
 | true, 0, _ => pmr_t0 K x
 | true, 1, _ => pmr_t1 K x
 | true, 2, _ => pmr_t2 K x
 | true, 3, _ => pmr_t3 K x
 | true, 4, _ => pmr_t4 K x
 | true, 5, _ => pmr_t5 K x
 | true, 6, _ => pmr_t6 K x
 | true, 7, _ => pmr_t7 K x
 | true, 8, _ => pmr_t8 K x
 | true, 9, _ => pmr_t9 K x
 | true, 10, _ => pmr_t10 K x
 | true, 11, _ => pmr_t11 K x
 | true, 12, _ => pmr_t12 K x
 | true, 13, _ => pmr_t13 K x
 | true, 14, _ => pmr_t14 K x
 | true, 15, _ => pmr_t15 K x
 | true, 16, _ => pmr_t16 K x
 | true, 17, _ => pmr_t17 K x
 | true, 18, _ => pmr_t18 K x
 | true, 19, _ => pmr_t19 K x
 | true, 20, _ => pmr_t20 K x
 | true, 21, _ => pmr_t21 K x
 | true, 22, _ => pmr_t22 K x
 | true, 23, _ => pmr_t23 K x
 | true, 24, _ => pmr_t24 K x
 | true, 25, _ => pmr_t25 K x
 | true, 26, _ => pmr_t26 K x
 | true, 27, _ => pmr_t27 K x
 | true, 28, _ => pmr_t28 K x
 | true, 29, _ => pmr_t29 K x
 | _, _ + 30, h => by omega
theorem pme : ∀ (l : Bool) (i : Nat), 1 ≤ i → i ≤ 30 → ok1 (pmJ pmC 1001001 l (i : Int) (.gptr 3 0) ((min i 20 : Nat) : Int) (pmG l i)) = true
 | _, 0, h, _ => by omega
 | false, 1, _, _ => pme_f1
 | false, 2, _, _ => pme_f2
 | false, 3, _, _ => pme_f3
 | false, 4, _, _ => pme_f4
 | false, 5, _, _ => pme_f5
 | false, 6, _, _ => pme_f6
 | false, 7, _, _ => pme_f7
 | false, 8, _, _ => pme_f8
 | false, 9, _, _ => pme_f9
 | false, 10, _, _ => pme_f10
 | false, 11, _, _ => pme_f11
 | false, 12, _, _ => pme_f12
 | false, 13, _, _ => pme_f13
 | false, 14, _, _ => pme_f14
 | false, 15, _, _ => pme_f15
 | false, 16, _, _ => pme_f16
 | false, 17, _, _ => pme_f17
 | false, 18, _, _ => pme_f18
 | false, 19, _, _ => pme_f19
 | false, 20, _, _ => pme_f20
 | false, 21, _, _ => pme_f21
 | false, 22, _, _ => pme_f22
 | false, 23, _, _ => pme_f23
 | false, 24, _, _ => pme_f24
 | false, 25, _, _ => pme_f25
 | false, 26, _, _ => pme_f26
 | false, 27, _, _ => pme_f27
 | false, 28, _, _ => pme_f28
 | false, 29, _, _ => pme_f29
 | false, 30, _, _ => pme_f30
 | true, 1, _, _ => pme_t1
 | true, 2, _, _ => pme_t2
 | true, 3, _, _ => pme_t3
 | true, 4, _, _ => pme_t4
 | true, 5, _, _ => pme_t5
 | true, 6, _, _ => pme_t6
 | true, 7, _, _ => pme_t7
 | true, 8, _, _ => pme_t8
 | true, 9, _, _ => pme_t9
 | true, 10, _, _ => pme_t10
 | true, 11, _, _ => pme_t11
 | true, 12, _, _ => pme_t12
 | true, 13, _, _ => pme_t13
 | true, 14, _, _ => pme_t14
 | true, 15, _, _ => pme_t15
 | true, 16, _, _ => pme_t16
 | true, 17, _, _ => pme_t17
 | true, 18, _, _ => pme_t18
 | true, 19, _, _ => pme_t19
 | true, 20, _, _ => pme_t20
 | true, 21, _, _ => pme_t21
 | true, 22, _, _ => pme_t22
 | true, 23, _, _ => pme_t23
 | true, 24, _, _ => pme_t24
 | true, 25, _, _ => pme_t25
 | true, 26, _, _ => pme_t26
 | true, 27, _, _ => pme_t27
 | true, 28, _, _ => pme_t28
 | true, 29, _, _ => pme_t29
 | true, 30, _, _ => pme_t30
 | _, _ + 31, _, h => by omega
theorem pm_loop (l : Bool) (x : Nat) (hx : x ≤ 30) : ∀ (k i m : Nat), i + k = x → k < m → loopJ (α := Bool → Int → Cell → Int → Int → Heap → OR) (fun _ _ _ _ _ _ => none) (f3_B5 pmC 1001001 (pmJ pmC 1001001)) m l (x : Int) (.gptr 3 0) ((min i 20 : Nat) : Int) (i : Int) (pmG l i) = pmJ pmC 1001001 l (x : Int) (.gptr 3 0) ((min x 20 : Nat) : Int) (pmG l x)
 | 0, i, m + 1, h, _ => by
  obtain rfl : i = x := by omega
  unfold loopJ
  exact pm_last _ _ _ _ _ _ _ _ _ _ _ (by omega)
 | k + 1, i, m + 1, h, hm => by
  unfold loopJ
  rw [pm_round _ _ _ _ _ _ _ _ _ _ _ (by omega), pmr _ _ l i (by omega)]
  exact pm_loop l x hx k (i + 1) m (by omega) (by omega)
theorem most (l : Bool) (x : Int) : ∃ G, acall AXE AXF 1001001 3 [.one (.bool l), .one (.int .i64 x)] [] = some (.one (.bool true), G) := by
 rw [f3_eq 1001000 l x [], pm_start]
 by_cases h1 : x < 1
 · exact ok1_ex (pms_low _ l x (decide_eq_true h1))
 by_cases h2 : x > 30
 · exact ok1_ex (pms_high _ l x (decide_eq_false h1) (decide_eq_true h2))
 obtain ⟨n, rfl⟩ : ∃ n : Nat, x = (n : Int) := ⟨x.toNat, by omega⟩
 have hs : ∀ K, pmS pmC 1001001 K l (n : Int) [] = K l (n : Int) (.gptr 3 0) ((min 0 20 : Nat) : Int) ((0 : Nat) : Int) (pmG l 0) := by
  intro K
  cases l with
  | false => exact pms_f K _ (decide_eq_false h1) (decide_eq_false h2)
  | true => exact pms_t K _ (decide_eq_false h1) (decide_eq_false h2)
 rw [hs, pm_loop l n (by omega) n 0 1001001 (by omega) (by omega)]
 exact ok1_ex (pme l n (by omega) (by omega))
end
end AX
end Go.Proofs.YtnkppakkeobegaaGreatDoor
