/-
  sched.SchedTries answers true at every input: behind just so many failures as it is told a message is expired; before, it isn't.
-/
import Derived.Test.YtncijlpnidomfaaProg
import Derived.Test.YtncijlpnidomfaaBase
import Derived.Test.YtncijlpnidomfaaSched
import Derived.Test.YtncijlpnidomfaaTries
import Derived.Test.YtncijlpnidomfaaOpen
import Derived.Test.YtncijlpnidomfaaAwake22
import Derived.Test.YtncijlpnidomfaaRow
namespace Go.Proofs.Ytncijlpnidomfaa
open Go.ChangeShapes Go.WideShapes Go.ChangeAt Go.RowKit

/-! ### The plain law -/
/-- how long is waited in all behind k failures -/
def waited (zs : List Int) (k : Nat) : Int := (zs.take k).sum + ((k - zs.length : Nat) : Int) * lastOf zs
theorem waited_lt {zs : List Int} {k : Nat} (h : k < zs.length) : waited zs (k + 1) = waited zs k + zs.getD k 0 := by
  unfold waited
  rw [List.take_succ_eq_append_getElem h, List.sum_append, show k + 1 - zs.length = 0 by omega, show k - zs.length = 0 by omega]
  simp [List.getD, h]
theorem waited_ge {zs : List Int} {k : Nat} (h : zs.length ≤ k) : waited zs (k + 1) = waited zs k + lastOf zs := by
  unfold waited
  rw [List.take_of_length_le h, List.take_of_length_le (by omega), show k + 1 - zs.length = (k - zs.length) + 1 by omega, Int.natCast_add, Int.add_mul]
  omega
theorem waited_delay {zs : List Int} {e : Int} (hg : good zs e = true) (k : Nat) : waited zs (k + 1) = waited zs k + delay zs e (k + 1) := by
  have hp := good_parts hg
  unfold delay
  rw [if_pos ⟨hg, by omega⟩]
  rcases Nat.lt_or_ge k zs.length with h | h
  · rw [waited_lt h, show (min ((k : Int) + 1) zs.length - 1).toNat = k by omega]
  · rw [waited_ge h, show (min ((k : Int) + 1) zs.length - 1).toNat = zs.length - 1 by omega]; rfl
theorem waited_zero (zs : List Int) : waited zs 0 = 0 := by simp [waited]
theorem last_bd {zs : List Int} {e : Int} (hg : good zs e = true) : 1 ≤ lastOf zs ∧ lastOf zs ≤ 2147483648 := by
  have hp := good_parts hg
  exact getD_all hp.1 _ (by omega)

theorem mul_le {a b c : Int} (h : a ≤ b) (hc : 0 ≤ c) : a * c ≤ b * c := Int.mul_le_mul_of_nonneg_right h hc
theorem triesGo_least {zs : List Int} {e : Int} (hg : good zs e = true) : ∀ n k, k + n = zs.length → (∀ i, i < k → waited zs i < e) →
    ∃ N : Nat, triesGo (lastOf zs) (zs.drop k) (e - waited zs k) k = N ∧ (∀ i, i < N → waited zs i < e) ∧ e ≤ waited zs N := by
  have hl := last_bd hg
  intro n
  induction n with
  | zero =>
    intro k hk hlt
    have hd : zs.drop k = [] := List.drop_of_length_le (by omega)
    rcases Int.lt_or_le 0 (e - waited zs k) with hpos | hneg
    · rw [hd, triesGo_end _ rfl hpos]
      generalize hq : (e - waited zs k + lastOf zs - 1) / lastOf zs = q
      have q1 : q * lastOf zs ≤ e - waited zs k + lastOf zs - 1 := by rw [← hq]; exact Int.ediv_mul_le _ (by omega)
      have q2 : e - waited zs k + lastOf zs - 1 < (q + 1) * lastOf zs := by rw [← hq]; exact Int.lt_ediv_add_one_mul_self _ (by omega)
      rw [Int.add_mul] at q2
      have q0 : 0 ≤ q := by
        rw [← hq]; exact Int.ediv_nonneg (by omega) (by omega)
      obtain ⟨r, rfl⟩ := Int.eq_ofNat_of_zero_le q0
      have key : ∀ j : Nat, waited zs (k + j) = waited zs k + (j : Int) * lastOf zs := by
        intro j
        induction j with
        | zero => simp
        | succ j ih => rw [← Nat.add_assoc, waited_ge (by omega), ih, Int.natCast_add, Int.add_mul]; omega
      refine ⟨k + r, by omega, fun i hi => ?_, by rw [key]; omega⟩
      rcases Nat.lt_or_ge i k with h | h
      · exact hlt i h
      · obtain ⟨j, rfl⟩ := Nat.le.dest h
        rw [key]
        have := mul_le (a := (j : Int) + 1) (b := (r : Int)) (c := lastOf zs) (by omega) (by omega)
        rw [Int.add_mul] at this
        omega
    · rw [triesGo_stop _ _ _ hneg]
      exact ⟨k, rfl, hlt, by omega⟩
  | succ n ih =>
    intro k hk hlt
    rcases Int.lt_or_le 0 (e - waited zs k) with hpos | hneg
    · rw [triesGo_step _ (drop_step 0 zs k (by omega)) hpos]
      have := ih (k + 1) (by omega) (fun i hi => by
        rcases Nat.lt_or_ge i k with h | h
        · exact hlt i h
        · have : i = k := by omega
          subst this; omega)
      rw [waited_lt (by omega)] at this
      rw [show e - waited zs k - zs.getD k 0 = e - (waited zs k + zs.getD k 0) by omega]
      exact this
    · rw [triesGo_stop _ _ _ hneg]
      exact ⟨k, rfl, hlt, by omega⟩
theorem tries_least {zs : List Int} {e : Int} (hg : good zs e = true) : ∃ N : Nat, tries zs e = N ∧ (∀ i, i < N → waited zs i < e) ∧ e ≤ waited zs N := by
  have := triesGo_least hg zs.length 0 (by omega) (fun i hi => absurd hi (by omega))
  rw [waited_zero] at this
  simpa [tries, hg] using this
theorem waited_big {zs : List Int} {k : Nat} (h : zs.length ≤ k) : waited zs k = zs.sum + ((k : Int) - zs.length) * lastOf zs := by
  unfold waited
  rw [List.take_of_length_le h, show ((k - zs.length : Nat) : Int) = (k : Int) - zs.length by omega]
theorem sum_take {zs : List Int} (k : Nat) (h : k < zs.length) : (zs.take (k + 1)).sum = (zs.take k).sum + zs.getD k 0 := by
  rw [List.take_succ_eq_append_getElem h, List.sum_append]; simp [List.getD, h]
theorem sum_bd {zs : List Int} (h : zs.all okd = true) : ∀ k, k ≤ zs.length → 0 ≤ (zs.take k).sum ∧ (zs.take k).sum ≤ 2147483648 * k := by
  intro k
  induction k with
  | zero => intro _; simp
  | succ k ih =>
    intro hk
    have h1 := ih (by omega)
    have h2 := getD_all h k (by omega)
    rw [sum_take k (by omega)]
    omega
theorem expired_is {zs : List Int} {e a s : Int} (hg : good zs e = true) (ha : 0 ≤ a ∧ a ≤ 1099511627776) (hs : 0 ≤ s ∧ s ≤ 1101659111424) : expired zs e a (a + s) = decide (e ≤ s) := by
  unfold expired timeB
  rw [hg]
  have h1 : (0 ≤ a ∧ a ≤ 4503599627370496) := by omega
  have h2 : (0 ≤ a + s ∧ a + s ≤ 4503599627370496) := by omega
  simp [h1, h2]
  omega
theorem waited_nonneg {zs : List Int} {e : Int} (hg : good zs e = true) (k : Nat) : 0 ≤ waited zs k := by
  induction k with
  | zero => rw [waited_zero]; omega
  | succ k ih => rw [waited_delay hg]; have := delay_bd zs e (k + 1); omega

def RelT (zs : List Int) (arrival : Int) (N : Nat) (W1 : World) (i : Value) (wr : World) : Prop :=
  ∃ (k : Nat) (c : Int) (bs : Array Obj) (d : Nat), i = .int .i64 k ∧ k ≤ N ∧ wr = app (W1.alloc (.cells #[.int .i64 0, .int .i64 k, .int .i64 (arrival + waited zs k), .int .i64 c] 29)) bs d

set_option maxHeartbeats 1000000 in
theorem schedTries_big (p : Option Addr) (zs : List Int) (cap : Nat) (e a : Int) (w : World) (hz : Hid (IntsAt w p zs)) (hl : zs.length ≤ 9223372036854775807) (hg : good zs e = true)
    (N : Nat) (hN : tries zs e = N) (hlt : ∀ i, i < N → waited zs i < e) (hge : e ≤ waited zs N) (hbig : 1000 < N) :
    Calls Try.prog 3 #[.agg #[.slice p zs.length cap, .int .i64 e], .int .i64 a] w fun r w' => r = .returned (.bool true) ∧ Below w.heap.size w w' := by
  obtain ⟨g1, g2, g3, g4, g5⟩ := good_parts hg
  obtain ⟨l1, l2⟩ := last_bd hg
  have G1 := Lib.hid g1
  clear g1
  have hm := hlt (N - 1) (by omega)
  clear hlt
  rw [waited_big (zs := zs) (k := N) (by omega)] at hge
  rw [waited_big (zs := zs) (k := N - 1) (by omega), show ((N - 1 : Nat) : Int) - zs.length = ((N : Int) - zs.length) - 1 by omega, Int.sub_mul] at hm
  obtain ⟨s1, s2⟩ := sum_bd G1.out zs.length (Nat.le_refl _)
  rw [List.take_length] at s1 s2
  have hprod : ((N : Int) - zs.length - 1) * lastOf zs = ((N : Int) - zs.length) * lastOf zs - lastOf zs := by rw [Int.sub_mul, Int.one_mul]
  obtain ⟨b, off, rfl, hb, hc⟩ := hz.out (zs.length - 1) (by omega)
  have e1 : ((zs.length : Int) - 1).toNat = zs.length - 1 := by omega
  have hl0 : zs.getD (zs.length - 1) 0 = lastOf zs := rfl
  rw [hl0] at hc
  clear hl0
  generalize lastOf zs = la at *
  have hP0 : 0 ≤ ((N : Int) - zs.length) * la := Int.mul_nonneg (by omega) (by omega)
  have hNe : (N : Int) ≤ 1101659111480 := by
    have := Int.mul_le_mul_of_nonneg_left l1 (show 0 ≤ (N : Int) - zs.length by omega)
    rw [Int.mul_one] at this
    omega
  generalize hPd : ((N : Int) - zs.length) * la = Pd at *
  replace hPd := Lib.hid hPd
  have hgH := Lib.hid hg
  go_enter Try.func3, Try.ntmps3
  go_wp2_with first
    | (go_at_call 6; ((refine (awake22 _).mono ?_); rintro r w1 ⟨rfl, hb⟩; obtain ⟨b1, b1d, rfl⟩ := of_below hb; clear hb))
    | (go_at_call 7; ((refine (tries_calls _ _ _ _ _ (Lib.hid (hz.out.below (by (repeat' (first | (with_reducible exact Below.refl _ _) | (with_reducible refine Below.app ?_ ?_ _ _) | (with_reducible refine Below.alloc ?_ ?_ _) | (with_reducible refine Below.drew ?_) | (with_reducible refine Below.setCell ?_ ?_ _) | (with_reducible assumption) | omega | (simp; omega) | (simp; done)))) (Nat.le_refl _))) hl).mono ?_); rintro r w1 ⟨rfl, hb⟩; obtain ⟨b2, b2d, rfl⟩ := of_below hb; clear hb))
    | (go_at_call 8; ((refine (rgood_calls _ _ _ _ _ (Lib.hid (hz.out.below (by (repeat' (first | (with_reducible exact Below.refl _ _) | (with_reducible refine Below.app ?_ ?_ _ _) | (with_reducible refine Below.alloc ?_ ?_ _) | (with_reducible refine Below.drew ?_) | (with_reducible refine Below.setCell ?_ ?_ _) | (with_reducible assumption) | omega | (simp; omega) | (simp; done)))) (Nat.le_refl _))) hl).mono ?_); rintro r w1 ⟨rfl, hb⟩; obtain ⟨b3, b3d, rfl⟩ := of_below hb; clear hb))
  go_loop [6, 7] (fun s i => ∃ k : Nat, k ≤ zs.length ∧ i = .int .i64 k ∧ s = .int .i64 (zs.take k).sum) (fun _ i => zs.length - (intOf i).toNat)
  case atStart => exact ⟨0, by omega, rfl, rfl⟩
  case round =>
    obtain ⟨k, hk, rfl, rfl⟩ := hrel
    by_cases hlk : k < zs.length
    · obtain ⟨b', off', h1, hb', hc'⟩ := hz.out k hlk
      injection h1 with h1
      injection h1 with h2 h3
      subst h2; subst h3
      have hs := Lib.hid (sum_take (zs := zs) k hlk)
      obtain ⟨t1, t2⟩ := sum_bd G1.out k (by omega)
      obtain ⟨d1, d2⟩ := getD_all G1.out k hlk
      generalize zs.getD k 0 = d at *
      generalize hT : (zs.take k).sum = T at *
      replace hT := Lib.hid hT
      go_wp2
      go_round
      case rel => exact ⟨k + 1, by omega, by go_num, by rw [hs.out]⟩
      case measure => simp [intOf]; omega
    · have hkk : k = zs.length := by omega
      subst hkk
      rw [List.take_length]
      generalize zs.sum = T at *
      clear hk hlk
      have q1 : (0 : Int) < (N : Int) - zs.length := by omega
      have q2 : e ≤ T + Pd := by omega
      have q3 : T + (Pd - la) < e := by omega
      have q4 : Pd ≤ 3298534883328 := by omega
      have hPd2 : ((N : Int) - zs.length) * la = Pd := hPd.out
      go_wp2
      all_goals
        go_returns
        refine ⟨rb ?_, by (repeat' (first | (with_reducible exact Below.refl _ _) | (with_reducible refine Below.app ?_ ?_ _ _) | (with_reducible refine Below.alloc ?_ ?_ _) | (with_reducible refine Below.drew ?_) | (with_reducible refine Below.setCell ?_ ?_ _) | (with_reducible assumption) | omega | (simp; omega) | (simp; done)))⟩
        go_light
        simp
        try omega
theorem waited_step {zs : List Int} {e a : Int} (hg : good zs e = true) (k : Nat) (ha : a ≤ 1099511627776) (hs : waited zs k ≤ 1101659111424) :
    dueOf (a + waited zs k) (delay zs e ((k : Int) + 1)) = a + waited zs (k + 1) := by
  have := delay_bd zs e ((k : Int) + 1)
  rw [dueOf_lo (by omega), waited_delay hg]
  push_cast
  omega

set_option maxHeartbeats 2000000 in
theorem schedTries_small (p : Option Addr) (zs : List Int) (cap : Nat) (e a : Int) (w : World) (hz : Hid (IntsAt w p zs)) (hl : zs.length ≤ 9223372036854775807) (hg : good zs e = true)
    (N : Nat) (hN : tries zs e = N) (hlt : ∀ i, i < N → waited zs i < e) (hge : e ≤ waited zs N) (hsmall : N ≤ 1000) (a0 : 0 ≤ a) (a1 : a ≤ 1099511627776) :
    Calls Try.prog 3 #[.agg #[.slice p zs.length cap, .int .i64 e], .int .i64 a] w fun r w' => r = .returned (.bool true) ∧ Below w.heap.size w w' := by
  obtain ⟨g1, g2, g3, g4, g5⟩ := good_parts hg
  replace hlt := Lib.hid hlt
  replace hge := Lib.hid hge
  have hgH := Lib.hid hg
  go_enter Try.func3, Try.ntmps3
  go_wp2_with first
    | (go_at_call 6; ((refine (awake22 _).mono ?_); rintro r w1 ⟨rfl, hb⟩; obtain ⟨b1, b1d, rfl⟩ := of_below hb; clear hb))
    | (go_at_call 7; ((refine (tries_calls _ _ _ _ _ (Lib.hid (hz.out.below (by (repeat' (first | (with_reducible exact Below.refl _ _) | (with_reducible refine Below.app ?_ ?_ _ _) | (with_reducible refine Below.alloc ?_ ?_ _) | (with_reducible refine Below.drew ?_) | (with_reducible refine Below.setCell ?_ ?_ _) | (with_reducible assumption) | omega | (simp; omega) | (simp; done)))) (Nat.le_refl _))) hl).mono ?_); rintro r w1 ⟨rfl, hb⟩; obtain ⟨b2, b2d, rfl⟩ := of_below hb; clear hb))
    | (go_at_call 8; ((refine (rgood_calls _ _ _ _ _ (Lib.hid (hz.out.below (by (repeat' (first | (with_reducible exact Below.refl _ _) | (with_reducible refine Below.app ?_ ?_ _ _) | (with_reducible refine Below.alloc ?_ ?_ _) | (with_reducible refine Below.drew ?_) | (with_reducible refine Below.setCell ?_ ?_ _) | (with_reducible assumption) | omega | (simp; omega) | (simp; done)))) (Nat.le_refl _))) hl).mono ?_); rintro r w1 ⟨rfl, hb⟩; obtain ⟨b3, b3d, rfl⟩ := of_below hb; clear hb))
  clear hg
  have hb0 : ∀ k, k ≤ N → 0 ≤ waited zs k ∧ waited zs k ≤ 1101659111424 := fun k hk => by
    refine ⟨waited_nonneg hgH.out k, ?_⟩
    rcases k with _ | k
    · rw [waited_zero]; omega
    · have h1 := hlt.out k (by omega)
      have h2 := delay_bd zs e (k + 1)
      rw [waited_delay hgH.out]; omega
  replace hb0 := Lib.hid hb0
  go_loopw [11] (fun i wr => RelT zs a N (app (w.alloc (.cells #[.slice p zs.length cap, .int .i64 e] 24)) (b1 ++ (b2 ++ b3)) b3d) i wr) (fun i _ => N - (intOf i).toNat)
  case atStart => exact ⟨0, 0, #[], _, rfl, by omega, by rw [waited_zero, Int.add_zero]; exact (app_nil _).symm⟩
  case round =>
    obtain ⟨k, c, bs, d, rfl, hk, rfl⟩ := hrel
    obtain ⟨w0, w1⟩ := hb0.out k hk
    have ht : tr1 (k : Int) = (k : Int) + 1 := tr1_lo (by omega)
    by_cases hkn : k < N
    · have hx : expired zs e a (a + waited zs k) = false := by rw [expired_is hgH.out ⟨a0, a1⟩ ⟨w0, w1⟩]; have := hlt.out k hkn; simpa using this
      have hd := waited_step hgH.out k a1 w1
      go_wp2_with first
        | (go_at_call 9; ((refine (expired_calls _ _ _ _ _ _ _ (Lib.hid (hz.out.below (by (repeat' (first | (with_reducible exact Below.refl _ _) | (with_reducible refine Below.app ?_ ?_ _ _) | (with_reducible refine Below.alloc ?_ ?_ _) | (with_reducible refine Below.drew ?_) | (with_reducible refine Below.setCell ?_ ?_ _) | (with_reducible assumption) | omega | (simp; omega) | (simp; done)))) (Nat.le_refl _))) hl).mono ?_); rintro r w1 ⟨rfl, hb⟩; obtain ⟨b4, b4d, rfl⟩ := of_below hb; clear hb))
        | (go_at_call 10; ((refine (fail_calls _ _ _ _ _ _ _ _ _ _ _ (Lib.hid (hz.out.below (by (repeat' (first | (with_reducible exact Below.refl _ _) | (with_reducible refine Below.app ?_ ?_ _ _) | (with_reducible refine Below.alloc ?_ ?_ _) | (with_reducible refine Below.drew ?_) | (with_reducible refine Below.setCell ?_ ?_ _) | (with_reducible assumption) | omega | (simp; omega) | (simp; done)))) (Nat.le_refl _))) hl (by omega) (by omega)).mono ?_); rintro r w1 ⟨rfl, hb⟩; obtain ⟨b5, b5d, rfl⟩ := of_below hb; clear hb))
      go_roundw
      case rel => first | exact ⟨k + 1, _, _, _, by go_num, by omega, by rw [Int.natCast_add]; rfl⟩ | ((repeat apply Exists.intro); refine ⟨?rl, ?fr⟩; case fr => ((repeat' apply And.intro) <;> exact rfl); case rl => exact ⟨k + 1, _, _, _, by go_num, by omega, by rw [Int.natCast_add]; rfl⟩)
      case measure => simp [intOf]; omega
    · have hkk : k = N := by omega
      subst hkk
      have hx : expired zs e a (a + waited zs k) = true := by rw [expired_is hgH.out ⟨a0, a1⟩ ⟨w0, w1⟩]; have := hge.out; simpa using this
      go_wp2_with (go_at_call 9; ((refine (expired_calls _ _ _ _ _ _ _ (Lib.hid (hz.out.below (by (repeat' (first | (with_reducible exact Below.refl _ _) | (with_reducible refine Below.app ?_ ?_ _ _) | (with_reducible refine Below.alloc ?_ ?_ _) | (with_reducible refine Below.drew ?_) | (with_reducible refine Below.setCell ?_ ?_ _) | (with_reducible assumption) | omega | (simp; omega) | (simp; done)))) (Nat.le_refl _))) hl).mono ?_); rintro r w1 ⟨rfl, hb⟩; obtain ⟨b4, b4d, rfl⟩ := of_below hb; clear hb))
      go_returns
      exact ⟨rfl, by (repeat' (first | (with_reducible exact Below.refl _ _) | (with_reducible refine Below.app ?_ ?_ _ _) | (with_reducible refine Below.alloc ?_ ?_ _) | (with_reducible refine Below.drew ?_) | (with_reducible refine Below.setCell ?_ ?_ _) | (with_reducible assumption) | omega | (simp; omega) | (simp; done)))⟩
set_option maxHeartbeats 400000 in
theorem schedTries_walk (p : Option Addr) (zs : List Int) (cap : Nat) (e a : Int) (w : World) (hz : Hid (IntsAt w p zs)) (hl : zs.length ≤ 9223372036854775807) :
    Calls Try.prog 3 #[.agg #[.slice p zs.length cap, .int .i64 e], .int .i64 a] w fun r w' => r = .returned (.bool true) ∧ Below w.heap.size w w' := by
  by_cases hg : good zs e = true
  · obtain ⟨N, hN, hlt, hge⟩ := tries_least hg
    rcases Nat.lt_or_ge 1000 N with hbig | hsmall
    · exact schedTries_big p zs cap e a w hz hl hg N hN hlt hge hbig
    · by_cases ha : 0 ≤ a ∧ a ≤ 1099511627776
      · exact schedTries_small p zs cap e a w hz hl hg N hN hlt hge hsmall ha.1 ha.2
      · have hc : a < 0 ∨ 1099511627776 < a := by omega
        clear hlt hge ha
        have hn1 : ¬ (1000 : Int) < N := by omega
        go_enter Try.func3, Try.ntmps3
        rcases hc with hc | hc
        all_goals
          go_wp2_with first
            | (go_at_call 6; ((refine (awake22 _).mono ?_); rintro r w1 ⟨rfl, hb⟩; obtain ⟨b1, b1d, rfl⟩ := of_below hb; clear hb))
            | (go_at_call 7; ((refine (tries_calls _ _ _ _ _ (Lib.hid (hz.out.below (by (repeat' (first | (with_reducible exact Below.refl _ _) | (with_reducible refine Below.app ?_ ?_ _ _) | (with_reducible refine Below.alloc ?_ ?_ _) | (with_reducible refine Below.drew ?_) | (with_reducible refine Below.setCell ?_ ?_ _) | (with_reducible assumption) | omega | (simp; omega) | (simp; done)))) (Nat.le_refl _))) hl).mono ?_); rintro r w1 ⟨rfl, hb⟩; obtain ⟨b2, b2d, rfl⟩ := of_below hb; clear hb))
            | (go_at_call 8; ((refine (rgood_calls _ _ _ _ _ (Lib.hid (hz.out.below (by (repeat' (first | (with_reducible exact Below.refl _ _) | (with_reducible refine Below.app ?_ ?_ _ _) | (with_reducible refine Below.alloc ?_ ?_ _) | (with_reducible refine Below.drew ?_) | (with_reducible refine Below.setCell ?_ ?_ _) | (with_reducible assumption) | omega | (simp; omega) | (simp; done)))) (Nat.le_refl _))) hl).mono ?_); rintro r w1 ⟨rfl, hb⟩; obtain ⟨b3, b3d, rfl⟩ := of_below hb; clear hb))
          go_returns
          exact ⟨rfl, by (repeat' (first | (with_reducible exact Below.refl _ _) | (with_reducible refine Below.app ?_ ?_ _ _) | (with_reducible refine Below.alloc ?_ ?_ _) | (with_reducible refine Below.drew ?_) | (with_reducible refine Below.setCell ?_ ?_ _) | (with_reducible assumption) | omega | (simp; omega) | (simp; done)))⟩
  · have H := tries_bad hg
    go_enter Try.func3, Try.ntmps3
    go_wp2_with first
      | (go_at_call 6; ((refine (awake22 _).mono ?_); rintro r w1 ⟨rfl, hb⟩; obtain ⟨b1, b1d, rfl⟩ := of_below hb; clear hb))
      | (go_at_call 7; ((refine (tries_calls _ _ _ _ _ (Lib.hid (hz.out.below (by (repeat' (first | (with_reducible exact Below.refl _ _) | (with_reducible refine Below.app ?_ ?_ _ _) | (with_reducible refine Below.alloc ?_ ?_ _) | (with_reducible refine Below.drew ?_) | (with_reducible refine Below.setCell ?_ ?_ _) | (with_reducible assumption) | omega | (simp; omega) | (simp; done)))) (Nat.le_refl _))) hl).mono ?_); rintro r w1 ⟨rfl, hb⟩; obtain ⟨b2, b2d, rfl⟩ := of_below hb; clear hb))
      | (go_at_call 8; ((refine (rgood_calls _ _ _ _ _ (Lib.hid (hz.out.below (by (repeat' (first | (with_reducible exact Below.refl _ _) | (with_reducible refine Below.app ?_ ?_ _ _) | (with_reducible refine Below.alloc ?_ ?_ _) | (with_reducible refine Below.drew ?_) | (with_reducible refine Below.setCell ?_ ?_ _) | (with_reducible assumption) | omega | (simp; omega) | (simp; done)))) (Nat.le_refl _))) hl).mono ?_); rintro r w1 ⟨rfl, hb⟩; obtain ⟨b3, b3d, rfl⟩ := of_below hb; clear hb))
    go_returns
    exact ⟨rfl, by (repeat' (first | (with_reducible exact Below.refl _ _) | (with_reducible refine Below.app ?_ ?_ _ _) | (with_reducible refine Below.alloc ?_ ?_ _) | (with_reducible refine Below.drew ?_) | (with_reducible refine Below.setCell ?_ ?_ _) | (with_reducible assumption) | omega | (simp; omega) | (simp; done)))⟩

theorem schedTries_law : LawWalk 3 Try.f3 := by
  intro H enc W base args ds ps hA hval
  rw [Try.params3] at hA hval
  obtain ⟨v0, vs0, d0, ds0, p0, q0, hargs, rfl, rfl, h0, r0⟩ := trodAll_cons hA
  obtain ⟨v1, vs1, d1, ds1, p1, q1, rfl, rfl, rfl, h1, r1⟩ := trodAll_cons r0
  obtain ⟨rfl, rfl, rfl⟩ := trodAll_nil r1
  obtain rfl : args = #[v0, v1] := by cases args; simp_all
  obtain ⟨p, zs, cap, e, rfl, hz, hl⟩ := open_retry (hval 0 _ _ rfl rfl) h0
  obtain ⟨n1, rfl, -, -, _⟩ := open_int Try.underlying3 (hval 1 _ _ rfl rfl) h1
  exact schedTries_walk p zs cap e n1 W hz hl

set_option maxRecDepth 100000 in
theorem schedTries_holds : Rows.SchedTriesSaid :=
  OpenClaim.holds_of_wide 3 Try.f3 rfl rfl rfl rfl rfl rfl rfl ⟨rfl, rfl, rfl, rfl, rfl⟩ rfl rfl rfl rfl rfl (by kernel_rfl) Try.func3 (by kernel_rfl)
    (of_decide_eq_true (by kernel_rfl)) (by unfold Func.isWrapper; first | (rw [if_pos (by decide +kernel)]; kernel_rfl) | (rw [if_neg (by decide +kernel)]; exact ⟨rfl, rfl⟩))
    (fun os started H enc _ => law_lift (s := Rows.schedTriesSpec) Try.func3 (by kernel_rfl) (by kernel_rfl) rfl (fun H ds hd => by match ds, hd with | [_, _], _ => rfl) (by kernel_rfl) os started H enc
      (ChangeSpec.witness6 (enc := enc) (C := Try.checked) false ⟨#[], #[.agg #[.slice none 0 0, .int .i64 0], .int .i64 0], []⟩ 8 (by kernel_rfl) (by kernel_rfl) (by kernel_rfl) (by kernel_rfl)) schedTries_law)
#print axioms schedTries_holds
end Go.Proofs.Ytncijlpnidomfaa
