/-
  Reader2.
-/
import Derived.Test.YtfbicbgdfcbhpaaGreatDoorCp12
import Derived.Lib.SlicesS
set_option maxRecDepth 20000
set_option linter.unusedVariables false
set_option linter.unusedSimpArgs false
set_option linter.unusedSectionVars false
namespace Go.Proofs.YtfbicbgdfcbhpaaGreatDoor
open Go.ChangeShapes Go.WideShapes Go.ChangeAt Go.RowKit

theorem enters_kind : ∀ args w, (callFunc 125 args).run Tryz.prog w = .ok (.enter 125 args) w := enters_of Tryz.func125 (by kernel_rfl) rfl
theorem enters_atext : ∀ args w, (callFunc 157 args).run Tryz.prog w = .ok (.enter 157 args) w := enters_of Tryz.func157 (by kernel_rfl) rfl
theorem kind_calls (c : UInt8) (w : World) : Calls Tryz.prog 125 #[.int .u8 (c.toNat : Int)] w fun r w' => r = .returned (.bool (labelB c)) ∧ w = w' := by
  have h45 : labelB c = (alnumB c || ((c.toNat : Int) == 45)) := by
    unfold labelB; congr 1; rw [Bool.eq_iff_iff]; simp; rw [← UInt8.toNat_inj]; simp; omega
  rw [h45]
  clear h45
  go_enter Tryz.func125, Tryz.ntmps125
  go_wp2_with first
    | (go_at_call 126; ((with_reducible refine (letter_calls _ _).mono ?_); rintro _ _ ⟨rfl, rfl⟩))
    | (go_at_call 127; ((with_reducible refine (digit_calls _ _).mono ?_); rintro _ _ ⟨rfl, rfl⟩))
  all_goals (go_returns; refine ⟨rb ?_, rfl⟩; go_light; unfold alnumB; simp_all)

theorem labelOk_take {s : ByteArray} {n k : Nat} (h : n + k ≤ s.size) (h0 : 0 < k) : labelOk ((s.data.toList.drop n).take k) = (decide (¬ s.data.toList.getD n 0 = 45) && decide (¬ s.data.toList.getD (n + k - 1) 0 = 45)) := by
  have hl : s.data.toList.length = s.size := by simp
  have hn : n < s.data.toList.length := by omega
  have hnk : n + k - 1 < s.data.toList.length := by omega
  unfold labelOk
  have e1 : ((s.data.toList.drop n).take k).isEmpty = false := by
    rw [List.isEmpty_eq_false_iff]; intro h; have := congrArg List.length h; simp at this; omega
  have e2 : ((s.data.toList.drop n).take k).head? = some (s.data.toList.getD n 0) := by
    rw [List.head?_take, if_neg (by omega), List.head?_drop, List.getD_eq_getElem?_getD, List.getElem?_eq_getElem hn]; rfl
  have e3 : ((s.data.toList.drop n).take k).getLast? = some (s.data.toList.getD (n + k - 1) 0) := by
    rw [List.getLast?_eq_getElem?]
    have : ((s.data.toList.drop n).take k).length = k := by simp; omega
    rw [this, List.getElem?_take, if_pos (by omega), List.getElem?_drop, show n + (k - 1) = n + k - 1 by omega, List.getD_eq_getElem?_getD, List.getElem?_eq_getElem hnk]
    rfl
  rw [e1, e2, e3]
  simp [bne, Bool.beq_eq_decide_eq]
theorem labelOk_none : labelOk [] = false := rfl

theorem ext_get {s : ByteArray} {n k i : Nat} (h : n + k ≤ s.size) (hi : i < k) (h' : i < (s.extract n (n + k)).size) : (s.extract n (n + k))[i] = s.data.toList.getD (n + i) 0 := by
  rw [getD_lt (show n + i < s.size by omega)]
  exact ByteArray.getElem_extract h'
theorem ext_some {s : ByteArray} {n k : Nat} (h : n + k ≤ s.size) (h0 : 0 < k) : ¬ (s.extract n (n + k)).toList = [] := by
  intro h'
  have h2 : (s.extract n (n + k)).data.toList = [] := by rw [← h']; exact (ByteArray.toList_mk _).symm
  have h3 := congrArg List.length h2
  simp at h3
  omega
theorem u8_int (x c : UInt8) : (x = c) = ((x.toNat : Int) = (c.toNat : Int)) := by rw [eq_iff_iff, ← UInt8.toNat_inj]; omega
set_option maxHeartbeats 2000000 in
theorem label_calls {s : ByteArray} {m : Int} {lg : Bool} {b : Nat} {w : World} (n : Nat) (hm : m = n) (hn : n ≤ s.size) (hs : s.size ≤ 9223372036854775807) (h : RowIs w b #[.string s, .int .i64 m, .bool lg]) :
    Calls Tryz.prog 91 #[.pointer (some ⟨b, 0, none⟩)] w
      (After b #[.string s, .int .i64 ((n + spanLen labelB (s.data.toList.drop n) : Nat) : Int), .bool lg] (.returned (.bool (labelOk ((s.data.toList.drop n).take (spanLen labelB (s.data.toList.drop n)))))) w) := by
  subst hm
  refine h.lift (fun w0 hI => ?_)
  have hb := hI.lt
  have hrun := @run_calls labelB _ enters_kind kind_calls s n lg b
  have hkl : n + spanLen labelB (s.data.toList.drop n) ≤ s.size := by have := spanLen_le labelB (s.data.toList.drop n); simp at this; omega
  have hrow := rd_row hI #[.string s, .int .i64 (n : Int), .bool lg]
  replace hrun := hrun n rfl hn hs hrow
  generalize hk : spanLen labelB (s.data.toList.drop n) = k at *
  clear hk
  by_cases h0 : k = 0
  · subst h0
    rw [List.take_zero, labelOk_none]
    have ht : (s.extract n (n + 0)).toList = [] := by simp
    replace hrun := Lib.hid hrun
    go_enter Tryz.func91, Tryz.ntmps91
    go_wp2_with (go_at_call 124; ((refine hrun.out.mono ?_); rintro r w1 ⟨rfl, bs, d, rfl⟩))
    go_returns
    (first | exact ⟨rfl, _, _, rfl⟩ | exact ⟨rfl, #[], _, (app_nil _).symm⟩ | (refine ⟨rfl, ?_⟩; simp only [app_app]; exact ⟨_, _, rfl⟩) | (refine ⟨rfl, of_below ?_⟩; ((repeat' (first | (with_reducible exact Below.refl _ _) | (with_reducible refine Below.app ?_ ?_ _ _) | (with_reducible refine Below.alloc ?_ ?_ _) | (with_reducible refine Below.drew ?_) | (with_reducible refine Below.setCell ?_ ?_ _) | (with_reducible assumption) | omega | (simp; omega) | (simp; done))) <;> exact Below.refl _ _)))
  · rw [labelOk_take hkl (by omega)]
    have hg0 := @ext_get s n k 0 hkl (by omega)
    have hg1 := @ext_get s n k (k - 1) hkl (by omega)
    rw [show n + (k - 1) = n + k - 1 by omega] at hg1
    rw [show n + 0 = n by omega] at hg0
    have ht := ext_some hkl (by omega)
    replace hrun := Lib.hid hrun
    replace hg0 := Lib.hid hg0
    replace hg1 := Lib.hid hg1
    go_enter Tryz.func91, Tryz.ntmps91
    go_wp2_with (go_at_call 124; ((refine hrun.out.mono ?_); rintro r w1 ⟨rfl, bs, d, rfl⟩))
    all_goals
      go_returns
      refine ⟨rb ?_, _, _, rfl⟩
      rw [← hg0.out (by simp; omega), ← hg1.out (by simp; omega)]
      go_light
      simp only [u8_int]
      rw [Bool.eq_iff_iff]
      simp_all
end Go.Proofs.YtfbicbgdfcbhpaaGreatDoor
