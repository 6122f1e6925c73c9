/-
  head.Good; ref10.named, valued, Good.
-/
import Derived.Test.YtpoaegcaaflogaaDoorHeadGood
namespace Go.Proofs.YtpoaegcaaflogaaDoor
open Go.ChangeShapes Go.WideShapes Go.ChangeAt Go.RowKit

set_option maxHeartbeats 4000000 in
theorem good_calls (n v : ByteArray) (hn : n.size ≤ 100000000) (hv : v.size ≤ 100000000) (w : World) : Calls Tryd.prog 9 #[.agg #[.string n, .string v]] w fun r w' => r = .returned (.bool (goodF n.data.toList v.data.toList)) ∧ Below w.heap.size w w' := by
  have h1 := isName_calls n hn
  have h2 := isValue_calls v hv
  have hnl : n.data.toList.length = n.size := by simp
  have hvl : v.data.toList.length = v.size := by simp
  have hg : Hid (goodF n.data.toList v.data.toList = (nameB n.data.toList && (valueB v.data.toList && decide ((n.size : Int) + v.size ≤ 900)))) := by
    unfold Hid goodF
    rw [hnl, hvl]
    congr 2
    rw [decide_eq_decide]; omega
  clear hnl hvl
  generalize goodF n.data.toList v.data.toList = G at *
  generalize nameB n.data.toList = A at *
  generalize valueB v.data.toList = B at *
  replace h1 := Lib.hid h1
  replace h2 := Lib.hid h2
  go_enter Tryd.func9, Tryd.ntmps9
  go_wp2_with first
    | (go_at_call 21; ((refine (h1.out _).mono ?_); rintro r w1 ⟨rfl, hb⟩; obtain ⟨b1, b1d, rfl⟩ := of_below hb; clear hb))
    | (go_at_call 22; ((refine (h2.out _).mono ?_); rintro r w1 ⟨rfl, hb⟩; obtain ⟨b2, b2d, rfl⟩ := of_below hb; clear hb))
  all_goals
    go_returns
    refine ⟨rb ?_, by (repeat' (first | (with_reducible exact Below.refl _ _) | (with_reducible refine Below.app ?_ ?_ _ _) | (with_reducible refine Below.alloc ?_ ?_ _) | (with_reducible refine Below.drew ?_) | (with_reducible refine Below.setCell ?_ ?_ _) | (with_reducible assumption) | omega | (simp; omega) | (simp; done)))⟩
    rw [hg.out]
    first | (simp_all; done) | (cases A <;> cases B <;> simp_all)
def RNameAt (s : ByteArray) (R : Bool) (k : Nat) : Prop := NameAt s R k
set_option maxHeartbeats 4000000 in
theorem rnamed_calls (s : ByteArray) (hs : s.size ≤ 100000000) (w : World) : Calls Tryd.prog 23 #[.string s] w fun r w' => r = .returned (.bool (nameB s.data.toList)) ∧ w = w' := by
  have h0 : NameAt s (nameB s.data.toList) 0 := by unfold NameAt nameB; rfl
  generalize nameB s.data.toList = R at *
  replace h0 := Lib.hid h0
  go_enter Tryd.func23, Tryd.ntmps23
  go_wp2
  go_loop [3] (fun i => ∃ k : Nat, k ≤ s.size ∧ i = .int .i64 k ∧ Hid (NameAt s R k)) (fun i => s.size - (intOf i).toNat)
  case atStart => exact ⟨0, by omega, rfl, h0⟩
  case round =>
    obtain ⟨k, hk, rfl, hr⟩ := hrel
    clear h0
    by_cases hlt : k < s.size
    · have hgo := hr.out.go hlt
      have hno := hr.out.no hlt
      unfold nameC at hgo hno
      clear hr
      by_cases h1 : (s[k].toNat : Int) < 33
      · have hR := Lib.hid (hno (decide_eq_false (by omega)))
        clear hgo hno
        go_wp2
        go_returns
        exact ⟨rb hR.out.symm, rfl⟩
      · by_cases h2 : 126 < (s[k].toNat : Int)
        · have hR := Lib.hid (hno (decide_eq_false (by omega)))
          clear hgo hno
          go_wp2
          go_returns
          exact ⟨rb hR.out.symm, rfl⟩
        · by_cases h3 : ((s[k].toNat : Int) == 58) = true
          · have hR := Lib.hid (hno (decide_eq_false (by simp at h3; omega)))
            clear hgo hno
            go_wp2
            go_returns
            exact ⟨rb hR.out.symm, rfl⟩
          · have h3 : ((s[k].toNat : Int) == 58) = false := by simpa using h3
            have hR := Lib.hid (hgo (decide_eq_true (by simp at h3; omega)))
            clear hgo hno
            go_wp2
            go_round
            case rel => exact ⟨k + 1, by omega, by go_num, hR⟩
            case measure => first | (simp [intOf]; done) | (simp [intOf]; omega)
    · have hke : k = s.size := by omega
      subst hke
      have hR := Lib.hid hr.out.done
      clear hr
      have hsl : s.data.toList.length = s.size := by simp
      by_cases h0 : 0 < (s.size : Int)
      · have hR2 : Hid (R = true) := by
          unfold Hid; rw [hR.out]
          cases h : s.data.toList with
          | nil => rw [h] at hsl; simp only [List.length_nil] at hsl; omega
          | cons c r => rfl
        clear hR hsl
        go_wp2
        go_returns
        exact ⟨rb (by rw [hR2.out]; exact decide_eq_true (by omega)), rfl⟩
      · have hR2 : Hid (R = false) := by unfold Hid; rw [hR.out, List.eq_nil_of_length_eq_zero (l := s.data.toList) (by omega)]; rfl
        clear hR hsl
        go_wp2
        go_returns
        exact ⟨rb (by rw [hR2.out]; exact decide_eq_false (by omega)), rfl⟩
set_option maxRecDepth 20000 in
set_option maxHeartbeats 4000000 in
theorem rvalued_calls (s : ByteArray) (hs : s.size ≤ 100000000) (w : World) : Calls Tryd.prog 24 #[.string s] w fun r w' => r = .returned (.bool (valueB s.data.toList)) ∧ w = w' := by
  have h0 : ValAt s (valueB s.data.toList) 0 := by unfold ValAt valueB; rfl
  generalize valueB s.data.toList = R at *
  replace h0 := Lib.hid h0
  go_enter Tryd.func24, Tryd.ntmps24
  go_wp2
  go_loop [3] (fun i => ∃ k : Nat, k ≤ s.size ∧ i = .int .i64 k ∧ Hid (ValAt s R k)) (fun i => s.size - (intOf i).toNat)
  case atStart => exact ⟨0, by omega, rfl, h0⟩
  case round =>
    obtain ⟨k, hk, rfl, hr⟩ := hrel
    clear h0
    by_cases hlt : k < s.size
    · have hgo := hr.out.go hlt
      have hno := hr.out.no hlt
      unfold valC at hgo hno
      clear hr
      by_cases h3 : ((s[k].toNat : Int) != 9) = true
      · by_cases h1 : (s[k].toNat : Int) < 32
        · have hR := Lib.hid (hno (decide_eq_false (by simp at h3; omega)))
          clear hgo hno
          go_wp2
          go_returns
          exact ⟨rb hR.out.symm, rfl⟩
        · by_cases h2 : 126 < (s[k].toNat : Int)
          · have hR := Lib.hid (hno (decide_eq_false (by simp at h3; omega)))
            clear hgo hno
            go_wp2
            go_returns
            exact ⟨rb hR.out.symm, rfl⟩
          · have hR := Lib.hid (hgo (decide_eq_true (by omega)))
            clear hgo hno
            go_wp2
            go_round
            case rel => exact ⟨k + 1, by omega, by go_num, hR⟩
            case measure => first | (simp [intOf]; done) | (simp [intOf]; omega)
      · have h3 : ((s[k].toNat : Int) != 9) = false := by simpa using h3
        have hR := Lib.hid (hgo (decide_eq_true (by simp at h3; omega)))
        clear hgo hno
        go_wp2
        go_round
        case rel => exact ⟨k + 1, by omega, by go_num, hR⟩
        case measure => first | (simp [intOf]; done) | (simp [intOf]; omega)
    · have hke : k = s.size := by omega
      subst hke
      have hR := Lib.hid hr.out.done
      clear hr
      have hsl : s.data.toList.length = s.size := by simp
      by_cases hs0 : 0 < s.size
      · have h0e : ((s.size : Int) == 0) = false := by rw [beq_eq_false_iff_ne]; omega
        have hR2 : Hid (R = !blankC s[0]) := by unfold Hid; rw [hR.out, headB_at hs0]
        have hbc := Lib.hid (rblank_calls s[0])
        clear hR hsl
        generalize blankC s[0] = B at *
        go_wp2_with (go_at_call 33; ((refine (hbc.out _).mono ?_); rintro _ _ ⟨rfl, rfl⟩))
        all_goals
          go_returns
          exact ⟨rb hR2.out.symm, rfl⟩
      · have h0e : ((s.size : Int) == 0) = true := by rw [beq_iff_eq]; omega
        have hR2 : Hid (R = true) := by unfold Hid; rw [hR.out, List.eq_nil_of_length_eq_zero (l := s.data.toList) (by omega)]; rfl
        clear hR hsl
        go_wp2
        go_returns
        exact ⟨rb hR2.out.symm, rfl⟩
set_option maxHeartbeats 4000000 in
theorem rgood_calls (n v : ByteArray) (hn : n.size ≤ 100000000) (hv : v.size ≤ 100000000) (w : World) : Calls Tryd.prog 10 #[.agg #[.string n, .string v]] w fun r w' => r = .returned (.bool (goodF n.data.toList v.data.toList)) ∧ Below w.heap.size w w' := by
  have h1 := rnamed_calls n hn
  have h2 := rvalued_calls v hv
  have hnl : n.data.toList.length = n.size := by simp
  have hvl : v.data.toList.length = v.size := by simp
  have hg : Hid (goodF n.data.toList v.data.toList = (nameB n.data.toList && (valueB v.data.toList && decide ((n.size : Int) + v.size ≤ 900)))) := by
    unfold Hid goodF
    rw [hnl, hvl]
    congr 2
    rw [decide_eq_decide]; omega
  clear hnl hvl
  generalize goodF n.data.toList v.data.toList = G at *
  generalize nameB n.data.toList = A at *
  generalize valueB v.data.toList = B at *
  replace h1 := Lib.hid h1
  replace h2 := Lib.hid h2
  go_enter Tryd.func10, Tryd.ntmps10
  go_wp2_with first
    | (go_at_call 23; ((refine (h1.out _).mono ?_); rintro _ _ ⟨rfl, rfl⟩))
    | (go_at_call 24; ((refine (h2.out _).mono ?_); rintro _ _ ⟨rfl, rfl⟩))
  all_goals
    go_returns
    refine ⟨rb ?_, by (repeat' (first | (with_reducible exact Below.refl _ _) | (with_reducible refine Below.app ?_ ?_ _ _) | (with_reducible refine Below.alloc ?_ ?_ _) | (with_reducible refine Below.drew ?_) | (with_reducible refine Below.setCell ?_ ?_ _) | (with_reducible assumption) | omega | (simp; omega) | (simp; done)))⟩
    rw [hg.out]
    first | (simp_all; done) | (cases A <;> cases B <;> simp_all)
end Go.Proofs.YtpoaegcaaflogaaDoor
