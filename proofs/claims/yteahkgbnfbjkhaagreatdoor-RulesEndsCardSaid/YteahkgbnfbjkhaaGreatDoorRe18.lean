/-
  DsnGood.
-/
import Derived.Test.YteahkgbnfbjkhaaGreatDoorRe17
set_option maxRecDepth 20000
set_option linter.unusedVariables false
set_option linter.unusedSimpArgs false
set_option linter.unusedSectionVars false
namespace Go.Proofs.YteahkgbnfbjkhaaGreatDoor
open Go.ChangeShapes Go.WideShapes Go.ChangeAt Go.RowKit
def AllAt (f : UInt8 → Bool) (E : Bool) (s : ByteArray) (R : Bool) (k : Nat) : Prop := R = ((s.data.toList.drop k).all f && E)
theorem AllAt.go {f : UInt8 → Bool} {E : Bool} {s : ByteArray} {R : Bool} {k : Nat} (h : AllAt f E s R k) (hk : k < s.size) (hc : f s[k] = true) : AllAt f E s R (k + 1) := by
 unfold AllAt at h ⊢
 have := @all_drop f s.data.toList k (by simpa using hk)
 rw [h, this, show s.data.toList[k]'(by simpa using hk) = s[k] from rfl, hc, Bool.true_and]
theorem AllAt.no {f : UInt8 → Bool} {E : Bool} {s : ByteArray} {R : Bool} {k : Nat} (h : AllAt f E s R k) (hk : k < s.size) (hc : f s[k] = false) : R = false := by
 unfold AllAt at h
 have := @all_drop f s.data.toList k (by simpa using hk)
 rw [h, this, show s.data.toList[k]'(by simpa using hk) = s[k] from rfl, hc]; rfl
theorem AllAt.done {f : UInt8 → Bool} {E : Bool} {s : ByteArray} {R : Bool} (h : AllAt f E s R s.size) : R = E := by
 unfold AllAt at h
 rw [h, List.drop_of_length_le (by simp)]; rfl
def reasonC (c : UInt8) : Bool := decide (32 ≤ c.toNat ∧ c.toNat ≤ 126)
def reasonE (s : ByteArray) : Bool := !s.data.toList.isEmpty && (decide (s.size ≤ 200) && (Lib.trimB s.data.toList 32 == s.data.toList))
def reasonB (s : ByteArray) : Bool := s.data.toList.all reasonC && reasonE s
set_option maxHeartbeats 4000000 in
theorem isReason_calls (s : ByteArray) (hs : s.size ≤ 100000000) (w : World) : Calls Tryz.prog 67 #[.string s] w fun r w' => r = .returned (.bool (reasonB s)) ∧ Below w.heap.size w w' := by
 obtain ⟨W, cap, hconv, hcell, hbel⟩ := bytes_of w s
 have hz : w.heap.size ≤ W.heap.size := hbel.size
 have htr := Lib.hid (Tryz.strings_Trim_one s 32 (by decide) W (by omega))
 have hlt0 : 0 < s.size → w.heap.size < W.heap.size := fun h => World.block_lt_of_cell? W _ (hcell 0 h)
 have h0 : AllAt reasonC (reasonE s) s (reasonB s) 0 := by unfold AllAt reasonB; rfl
 generalize reasonB s = R at *
 replace h0 := Lib.hid h0
 go_enter Tryz.func67, Tryz.ntmps67
 go_wp2
 go_loop [8] (fun i => ∃ k : Nat, k ≤ s.size ∧ i = .int .i64 k ∧ Hid (AllAt reasonC (reasonE s) s R k)) (fun i => s.size - (intOf i).toNat)
 case atStart => exact ⟨0, by omega, rfl, h0⟩
 case round =>
  obtain ⟨k, hk, rfl, hr⟩ := hrel
  clear h0
  by_cases hlt : k < s.size
  · have hce := hcell k hlt
    have hb := hlt0 (by omega)
    have hgo := hr.out.go hlt
    have hno := hr.out.no hlt
    unfold reasonC at hgo hno
    clear hcell hr htr
    by_cases h1 : (s[k].toNat : Int) < 32
    · have hR := Lib.hid (hno (decide_eq_false (by omega)))
      clear hgo hno
      go_wp2
      go_returns
      exact ⟨rb hR.out.symm, hbel⟩
    · by_cases h2 : 126 < (s[k].toNat : Int)
      · have hR := Lib.hid (hno (decide_eq_false (by omega)))
        clear hgo hno
        go_wp2
        go_returns
        exact ⟨rb hR.out.symm, hbel⟩
      · have hR := Lib.hid (hgo (decide_eq_true (by omega)))
        clear hgo hno
        go_wp2
        all_goals go_round
        case measure => simp [intOf]; omega
        case rel => exact ⟨k + 1, by omega, by go_num, hR⟩
  · obtain rfl : k = s.size := by omega
    have hR := hr.out.done
    clear hr hcell hlt0
    unfold reasonE at hR
    have hxl : Hid (s.toList = s.data.toList) := by unfold Hid; exact (ByteArray.toList_mk s.data.toList)
    replace hR := Lib.hid hR
    go_wp2_with (go_at_call 135; ((refine htr.out.mono ?_); rintro r w1 ⟨rfl, hw1⟩; have hbel3 : Below w.heap.size w w1 := by { rcases hw1 with rfl | rfl; exact hbel; exact hbel.drew }))
    all_goals go_returns
    all_goals refine ⟨rb ?_, by assumption⟩
    · rename_i h _
      rw [hR.out, ← hxl.out, h]; rfl
    · rw [hR.out, hxl.out, decide_eq_true (by omega), Bool.true_and]
    · rw [hR.out, decide_eq_false (by omega)]; simp
def idC (c : UInt8) : Bool := decide ((97 ≤ c.toNat ∧ c.toNat ≤ 122) ∨ (65 ≤ c.toNat ∧ c.toNat ≤ 90) ∨ (48 ≤ c.toNat ∧ c.toNat ≤ 57))
def idE (s : ByteArray) : Bool := !s.data.toList.isEmpty && decide (s.size ≤ 20)
def idB (s : ByteArray) : Bool := s.data.toList.all idC && idE s
set_option maxHeartbeats 4000000 in
theorem isId_calls (s : ByteArray) (hs : s.size ≤ 100000000) (w : World) : Calls Tryz.prog 68 #[.string s] w fun r w' => r = .returned (.bool (idB s)) ∧ Below w.heap.size w w' := by
 obtain ⟨W, cap, hconv, hcell, hbel⟩ := bytes_of w s
 have hz : w.heap.size ≤ W.heap.size := hbel.size
 have hlt0 : 0 < s.size → w.heap.size < W.heap.size := fun h => World.block_lt_of_cell? W _ (hcell 0 h)
 have h0 : AllAt idC (idE s) s (idB s) 0 := by unfold AllAt idB; rfl
 generalize idB s = R at *
 replace h0 := Lib.hid h0
 go_enter Tryz.func68, Tryz.ntmps68
 go_wp2
 go_loop [8] (fun i => ∃ k : Nat, k ≤ s.size ∧ i = .int .i64 k ∧ Hid (AllAt idC (idE s) s R k)) (fun i => s.size - (intOf i).toNat)
 case atStart => exact ⟨0, by omega, rfl, h0⟩
 case round =>
  obtain ⟨k, hk, rfl, hr⟩ := hrel
  clear h0
  by_cases hlt : k < s.size
  · have hce := hcell k hlt
    have hb := hlt0 (by omega)
    have hgo := hr.out.go hlt
    have hno := hr.out.no hlt
    unfold idC at hgo hno
    clear hcell hr
    generalize s[k] = c at hce hgo hno
    have hyes : ((97 ≤ c.toNat ∧ c.toNat ≤ 122) ∨ (65 ≤ c.toNat ∧ c.toNat ≤ 90) ∨ (48 ≤ c.toNat ∧ c.toNat ≤ 57)) → AllAt idC (idE s) s R (k + 1) := fun h => hgo (decide_eq_true h)
    have hnot : ¬ ((97 ≤ c.toNat ∧ c.toNat ≤ 122) ∨ (65 ≤ c.toNat ∧ c.toNat ≤ 90) ∨ (48 ≤ c.toNat ∧ c.toNat ≤ 57)) → R = false := fun h => hno (decide_eq_false h)
    clear hgo hno
    replace hyes := Lib.hid hyes
    replace hnot := Lib.hid hnot
    go_wp2
    all_goals first
     | (go_returns; exact ⟨rb (hnot.out (by omega)).symm, hbel⟩)
     | (go_round; (case measure => (simp [intOf]; omega)); (case rel => exact ⟨k + 1, by omega, by go_num, Lib.hid (hyes.out (by omega))⟩))
  · obtain rfl : k = s.size := by omega
    have hR := hr.out.done
    clear hr hcell hlt0
    unfold idE at hR
    have hxl : Hid (s.toList = s.data.toList) := by unfold Hid; exact (ByteArray.toList_mk s.data.toList)
    replace hR := Lib.hid hR
    go_wp2
    all_goals go_returns
    all_goals refine ⟨rb ?_, by assumption⟩
    · rename_i h _
      rw [hR.out, ← hxl.out, h]; rfl
    · rw [hR.out, hxl.out]
      congr 1
      rw [decide_eq_decide]; omega
end Go.Proofs.YteahkgbnfbjkhaaGreatDoor
