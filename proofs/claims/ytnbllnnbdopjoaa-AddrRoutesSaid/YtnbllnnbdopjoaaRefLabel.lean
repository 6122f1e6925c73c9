/-
  ref05.label: what it gives.
-/
import Derived.Test.YtnbllnnbdopjoaaRefBytes
namespace Go.Proofs.Ytnbllnnbdopjoaa
open Go.ChangeShapes Go.WideShapes Go.ChangeAt Go.RowKit

def rlabelB (l : List UInt8) : Bool := l.all labelB && labelOk l
theorem labelB_int (c : UInt8) : labelB c = (alnumB c || ((c.toNat : Int) == 45)) := by
  unfold labelB; congr 1; rw [Bool.eq_iff_iff]; simp; rw [← UInt8.toNat_inj]; simp; omega
theorem labelOk_bytes {s : ByteArray} (h0 : 0 < s.size) : labelOk s.data.toList = (!((s[0].toNat : Int) == 45) && !((s[s.size - 1].toNat : Int) == 45)) := by
  have h := @labelOk_take s 0 s.size (by omega) h0
  have hl : s.data.toList.length = s.size := by simp
  rw [List.drop_zero, List.take_of_length_le (by omega), Nat.zero_add, getD_lt h0, getD_lt (show s.size - 1 < s.size by omega)] at h
  rw [h]
  simp only [u8_int]
  rw [Bool.eq_iff_iff]
  simp
set_option maxHeartbeats 4000000 in
theorem rlabel_calls (s : ByteArray) (hs : s.size ≤ 140000000000000) (w : World) : Calls Try.prog 46 #[.string s] w fun r w' => r = .returned (.bool (rlabelB s.data.toList)) ∧ w = w' := by
  have hlen : s.data.toList.length = s.size := by simp
  generalize hR : rlabelB s.data.toList = R
  replace hR := Lib.hid hR
  go_enter Try.func46, Try.ntmps46
  go_wp2
  go_loop [3] (fun i => ∃ k : Nat, k ≤ s.size ∧ i = .int .i64 k ∧ Hid (R = ((s.data.toList.drop k).all labelB && labelOk s.data.toList))) (fun i => s.size - (intOf i).toNat)
  case atStart => exact ⟨0, by omega, rfl, hR.out.symm⟩
  case round =>
    obtain ⟨k, hk, rfl, hr⟩ := hrel
    clear hR
    by_cases hlt : k < s.size
    · have had := @all_drop labelB s.data.toList k (by omega)
      have hgk : s.data.toList[k]'(by omega) = s[k] := rfl
      rw [hgk, labelB_int] at had
      have hac := alnum_calls s[k]
      cases hal : alnumB s[k]
      · rw [hal] at hac had
        replace hac := Lib.hid hac
        cases h45 : ((s[k].toNat : Int) == 45)
        · have hR : Hid (R = false) := by unfold Hid; rw [hr.out, had, h45]; rfl
          clear had hgk hal hr
          go_wp2_with (go_at_call 43; ((with_reducible refine (hac.out _).mono ?_); rintro _ _ ⟨rfl, rfl⟩))
          go_returns
          exact ⟨rb hR.out.symm, rfl⟩
        · have hR : Hid (R = ((s.data.toList.drop (k + 1)).all labelB && labelOk s.data.toList)) := by unfold Hid; rw [hr.out, had, h45]; rfl
          clear had hgk hal hr
          go_wp2_with (go_at_call 43; ((with_reducible refine (hac.out _).mono ?_); rintro _ _ ⟨rfl, rfl⟩))
          go_round
          case rel => exact ⟨k + 1, by omega, by go_num, hR⟩
          case measure => simp [intOf]; omega
      · rw [hal] at hac had
        replace hac := Lib.hid hac
        have hR : Hid (R = ((s.data.toList.drop (k + 1)).all labelB && labelOk s.data.toList)) := by unfold Hid; rw [hr.out, had]; rfl
        clear had hgk hal hr
        go_wp2_with (go_at_call 43; ((with_reducible refine (hac.out _).mono ?_); rintro _ _ ⟨rfl, rfl⟩))
        go_round
        case rel => exact ⟨k + 1, by omega, by go_num, hR⟩
        case measure => simp [intOf]; omega
    · have hke : k = s.size := by omega
      subst hke
      have hR : Hid (R = labelOk s.data.toList) := by unfold Hid; rw [hr.out, List.drop_of_length_le (by omega)]; rfl
      clear hr
      by_cases h0 : s.size = 0
      · have hR2 : Hid (R = false) := by
          unfold Hid
          rw [hR.out, List.eq_nil_of_length_eq_zero (by omega : s.data.toList.length = 0)]; rfl
        clear hR
        go_wp2
        all_goals first
          | (go_returns; exact ⟨rb hR2.out.symm, rfl⟩)
          | (exfalso; go_light; omega)
      · have hlb := labelOk_bytes (s := s) (by omega)
        rw [hlb] at hR
        clear hlb
        go_wp2
        all_goals first
          | (go_returns; refine ⟨rb ?_, rfl⟩; rw [hR.out]; clear hR; go_light; simp_all; done)
          | (go_returns; refine ⟨rb ?_, rfl⟩; rw [hR.out]; clear hR; go_light; rfl)
end Go.Proofs.Ytnbllnnbdopjoaa
