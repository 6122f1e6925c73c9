/-
  ref05: Atom, label, lower: what they give.
-/
import Derived.Test.YtnbllnnbdopjoaaAddrLower
import Derived.Test.YtnbllnnbdopjoaaReader2
import Derived.OwnWalk
namespace Go.Proofs.Ytnbllnnbdopjoaa
open Go.ChangeShapes Go.WideShapes Go.ChangeAt Go.RowKit

theorem oth_len : othersL.length = 19 := rfl
theorem oth_step (c : UInt8) (k : Nat) (h : k < 19) : (othersL.drop k).contains c = (((othersL[k]'(by rw [oth_len]; exact h)).toNat : Int) == (c.toNat : Int) || (othersL.drop (k + 1)).contains c) := by
  rw [List.drop_eq_getElem_cons (by rw [oth_len]; exact h), List.contains_cons]
  congr 1
  rw [Bool.eq_iff_iff]
  simp only [beq_iff_eq]
  rw [u8_int]
  exact eq_comm
set_option maxRecDepth 20000 in
set_option maxHeartbeats 2000000 in
theorem ratom_calls (c : UInt8) (w : World) : Calls Try.prog 48 #[.int .u8 (c.toNat : Int)] w fun r w' => r = .returned (.bool (atomB c)) ∧ w = w' := by
  have ha := alnum_calls c
  unfold atomB
  cases hal : alnumB c
  · rw [hal] at ha
    rw [Bool.false_or]
    replace ha := Lib.hid ha
    clear hal
    generalize hT : othersL.contains c = T
    replace hT := Lib.hid hT
    go_enter Try.func48, Try.ntmps48
    go_wp2_with (go_at_call 43; ((with_reducible refine (ha.out _).mono ?_); rintro _ _ ⟨rfl, rfl⟩))
    go_loop [4] (fun i => ∃ k : Nat, k ≤ 19 ∧ i = .int .i64 k ∧ Hid (T = (othersL.drop k).contains c)) (fun i => 19 - (intOf i).toNat)
    case atStart => exact ⟨0, by omega, rfl, hT.out.symm⟩
    case round =>
      obtain ⟨k, hk, rfl, hr⟩ := hrel
      clear hT
      by_cases hlt : k < 19
      · have hst := oth_step c k hlt
        by_cases he : (((othersL[k]'(by rw [oth_len]; exact hlt)).toNat : Int) == (c.toNat : Int)) = true
        · have hR : Hid (T = true) := by unfold Hid; rw [hr.out, hst, he]; rfl
          replace he := Lib.hid he
          clear hst hr
          go_wp2
          all_goals first
            | (go_returns; exact ⟨rb hR.out.symm, rfl⟩)
            | (exfalso; have h := he.out; rename_i h2; simp at h h2; exact h2 h)
        · rw [Bool.not_eq_true] at he
          have hR : Hid (T = (othersL.drop (k + 1)).contains c) := by unfold Hid; rw [hr.out, hst, he]; rfl
          replace he := Lib.hid he
          clear hst hr
          go_wp2
          all_goals first
            | (go_round
               case rel => exact ⟨k + 1, by omega, by go_num, hR⟩
               case measure => simp [intOf]; omega)
            | (exfalso; have h := he.out; rename_i h2 _; simp at h h2; exact h h2)
      · have hk : k = 19 := by omega
        subst hk
        have hR : Hid (T = false) := by unfold Hid; rw [hr.out]; rfl
        clear hr
        go_wp2
        go_returns
        exact ⟨rb hR.out.symm, rfl⟩
  · rw [hal] at ha
    replace ha := Lib.hid ha
    clear hal
    go_enter Try.func48, Try.ntmps48
    go_wp2_with (go_at_call 43; ((with_reducible refine (ha.out _).mono ?_); rintro _ _ ⟨rfl, rfl⟩))
    go_returns
    exact ⟨rfl, rfl⟩
end Go.Proofs.Ytnbllnnbdopjoaa
