/-
  ref10.may, Written: how a field is written, by definition.
-/
import Derived.Test.YtpoaegcaaflogaaDoorHeadBuild
namespace Go.Proofs.YtpoaegcaaflogaaDoor
open Go.ChangeShapes Go.WideShapes Go.ChangeAt Go.RowKit

theorem any_at {l : List UInt8} {k : Nat} (h : k < l.length) : ((l.drop k).any fun c => !blankC c) = (!blankC l[k] || (l.drop (k + 1)).any fun c => !blankC c) := by
  rw [List.drop_eq_getElem_cons h, List.any_cons]
set_option maxHeartbeats 4000000 in
theorem rmay_calls (s : ByteArray) (k f : Nat) (hs : s.size ≤ 100000000) (hk : k < s.size) (w : World) : Calls Tryd.prog 42 #[.string s, .int .i64 (k : Int), .int .i64 (f : Int)] w fun r w' => r = .returned (.bool (mayB s.data.toList f k)) ∧ w = w' := by
  have hsl : s.data.toList.length = s.size := by simp
  have hg : s.data.toList.getD k 0 = s[k] := by simp [List.getD, hk]; rfl
  have hv : mayB s.data.toList f k = (decide (s[k] = 32) && (decide (f < k) && (s.data.toList.drop k).any fun c => !blankC c)) := by unfold mayB; rw [hg]
  generalize mayB s.data.toList f k = R at *
  clear hg
  by_cases h1 : ((s[k].toNat : Int) != 32) = true
  · have h1' : ¬ s[k] = 32 := by intro e; rw [e] at h1; simp at h1
    rw [decide_eq_false h1', Bool.false_and] at hv
    replace hv := Lib.hid hv
    clear h1' hsl
    go_enter Tryd.func42, Tryd.ntmps42
    go_wp2
    go_returns
    exact ⟨rb hv.out.symm, rfl⟩
  · have h1 : ((s[k].toNat : Int) != 32) = false := by simpa using h1
    have h1' : s[k] = 32 := by rw [← UInt8.toNat_inj]; simp at h1 ⊢; omega
    rw [decide_eq_true h1', Bool.true_and] at hv
    clear h1'
    by_cases h2 : (k : Int) ≤ f
    · rw [decide_eq_false (by omega), Bool.false_and] at hv
      replace hv := Lib.hid hv
      clear hsl
      go_enter Tryd.func42, Tryd.ntmps42
      go_wp2
      go_returns
      exact ⟨rb hv.out.symm, rfl⟩
    · rw [decide_eq_true (by omega), Bool.true_and] at hv
      replace hv := Lib.hid hv
      replace hsl := Lib.hid hsl
      go_enter Tryd.func42, Tryd.ntmps42
      go_wp2
      go_loop [7] (fun i => ∃ j : Nat, k ≤ j ∧ j ≤ s.size ∧ i = .int .i64 j ∧ Hid (R = (s.data.toList.drop j).any fun c => !blankC c)) (fun i => s.size - (intOf i).toNat)
      case atStart => exact ⟨k, by omega, by omega, rfl, hv⟩
      case round =>
        obtain ⟨j, hj1, hj2, rfl, hr⟩ := hrel
        clear hv
        by_cases h3 : j < s.size
        · have h3i : (j : Int) < s.size := by omega
          have hst := @any_at s.data.toList j (by rw [hsl.out]; exact h3)
          rw [show s.data.toList[j]'(by rw [hsl.out]; exact h3) = s[j] from rfl] at hst
          have hbc := rblank_calls s[j]
          cases hb : blankC s[j]
          · have hR : Hid (R = true) := by unfold Hid; rw [hr.out, hst, hb]; rfl
            rw [hb] at hbc
            replace hbc := Lib.hid hbc
            clear hr hst hb
            go_wp2_with (go_at_call 33; ((refine (hbc.out _).mono ?_); rintro _ _ ⟨rfl, rfl⟩))
            go_returns
            exact ⟨rb hR.out.symm, rfl⟩
          · have hR : Hid (R = (s.data.toList.drop (j + 1)).any fun c => !blankC c) := by unfold Hid; rw [hr.out, hst, hb]; rfl
            rw [hb] at hbc
            replace hbc := Lib.hid hbc
            clear hr hst hb
            go_wp2_with (go_at_call 33; ((refine (hbc.out _).mono ?_); rintro _ _ ⟨rfl, rfl⟩))
            go_round
            case rel => exact ⟨j + 1, by omega, by omega, by go_num, hR⟩
            case measure => first | (simp [intOf]; done) | (simp [intOf]; omega)
        · have h3i : ¬ (j : Int) < s.size := by omega
          have hR : Hid (R = false) := by unfold Hid; rw [hr.out, List.drop_of_length_le (by rw [hsl.out]; omega)]; rfl
          clear hr
          go_wp2
          go_returns
          exact ⟨rb hR.out.symm, rfl⟩
theorem upQ_succ {p : Nat → Bool} : ∀ (d n m : Nat), n - m ≤ d → m ≤ n → 1 ≤ m → upQ p (n + 1) m = if upQ p n m ≠ 0 then upQ p n m else if p n = true then n else 0
  | 0, n, m, h, hm, h1 => by
    have e : m = n := by omega
    subst e
    rw [upQ_end (n := m) (by omega), if_neg (by simp)]
    cases hp : p m
    · rw [upQ_no (by omega) hp, upQ_end (by omega)]; rfl
    · rw [upQ_yes (by omega) hp]; rfl
  | d + 1, n, m, h, hm, h1 => by
    rcases Nat.eq_or_lt_of_le hm with e | hlt
    · subst e
      rw [upQ_end (n := m) (by omega), if_neg (by simp)]
      cases hp : p m
      · rw [upQ_no (by omega) hp, upQ_end (by omega)]; rfl
      · rw [upQ_yes (by omega) hp]; rfl
    · cases hp : p m
      · rw [upQ_no (by omega) hp, upQ_no hlt hp, upQ_succ d n (m + 1) (by omega) (by omega) (by omega)]
      · rw [upQ_yes (by omega) hp, upQ_yes hlt hp, if_pos (by omega)]
/-- The reference's search, as far as k. -/
def scanA (p : Nat → Bool) (k : Nat) : Nat := if k ≤ 79 then downQ p (k - 1) else if downQ p 78 ≠ 0 then downQ p 78 else upQ p k 79
theorem scanA_two (p : Nat → Bool) : scanA p 2 = 0 := by unfold scanA; rw [if_pos (by omega)]; rfl
theorem scanA_yes {p : Nat → Bool} {k : Nat} (hk : 2 ≤ k) (hp : p k = true) (h : k ≤ 78 ∨ scanA p k = 0) : scanA p (k + 1) = k := by
  unfold scanA at h ⊢
  by_cases h1 : k ≤ 78
  · rw [if_pos (by omega), Nat.add_sub_cancel, downQ_yes hk hp]
  · rcases h with h | h
    · exact absurd h h1
    · rw [if_neg (by omega)]
      by_cases h2 : k ≤ 79
      · have e : k = 79 := by omega
        subst e
        rw [if_pos (by omega)] at h
        rw [if_neg (by rw [show 79 - 1 = 78 from rfl] at h; rw [h]; simp), upQ_yes (by omega) hp]
      · rw [if_neg h2] at h
        by_cases h3 : downQ p 78 ≠ 0
        · rw [if_pos h3] at h; exact absurd h h3
        · rw [if_neg h3] at h ⊢
          rw [upQ_succ _ k 79 (Nat.le_refl _) (by omega) (by omega), h, if_neg (by simp), if_pos hp]
theorem scanA_lo {p : Nat → Bool} {k : Nat} (h : k ≤ 79) : scanA p k = downQ p (k - 1) := by unfold scanA; rw [if_pos h]
theorem scanA_hi {p : Nat → Bool} {k : Nat} (h : ¬ k ≤ 79) : scanA p k = if downQ p 78 ≠ 0 then downQ p 78 else upQ p k 79 := by unfold scanA; rw [if_neg h]
theorem scanA_no {p : Nat → Bool} {k : Nat} (hk : 2 ≤ k) (h : p k = false ∨ (78 < k ∧ scanA p k ≠ 0)) : scanA p (k + 1) = scanA p k := by
  by_cases h1 : k ≤ 78
  · rcases h with h | h
    · rw [scanA_lo (by omega), scanA_lo (by omega), Nat.add_sub_cancel, downQ_no hk h]
    · omega
  · rw [scanA_hi (k := k + 1) (by omega)]
    by_cases h2 : k ≤ 79
    · have e : k = 79 := by omega
      subst e
      rw [scanA_lo (k := 79) (by omega)] at h ⊢
      by_cases h3 : downQ p 78 ≠ 0
      · rw [if_pos h3]
      · rw [if_neg h3]
        have h4 : downQ p 78 = 0 := by simpa using h3
        rcases h with h | h
        · rw [upQ_no (by omega) h, upQ_end (by omega)]; exact h4.symm
        · exact absurd h.2 h3
    · rw [scanA_hi h2] at h ⊢
      by_cases h3 : downQ p 78 ≠ 0
      · rw [if_pos h3, if_pos h3]
      · rw [if_neg h3] at h ⊢
        rw [if_neg h3, upQ_succ _ k 79 (Nat.le_refl _) (by omega) (by omega)]
        rcases h with h | h
        · rw [h]
          by_cases h4 : upQ p k 79 ≠ 0
          · rw [if_pos h4]
          · have h5 : upQ p k 79 = 0 := by simpa using h4
            rw [if_neg h4, if_neg (by simp), h5]
        · rw [if_pos h.2]
theorem scanA_end {l : List UInt8} {f : Nat} (h : 78 < l.length) : scanA (mayB l f) l.length = foldN l f := by
  unfold scanA foldN
  rw [if_neg (show ¬ l.length ≤ 78 by omega)]
  by_cases h2 : l.length ≤ 79
  · have e : l.length = 79 := by omega
    rw [if_pos h2, e]
    by_cases h3 : downQ (mayB l f) 78 ≠ 0
    · rw [if_pos h3]
    · rw [if_neg h3, upQ_end (by omega)]; simpa using h3
  · rw [if_neg h2]
end Go.Proofs.YtpoaegcaaflogaaDoor
