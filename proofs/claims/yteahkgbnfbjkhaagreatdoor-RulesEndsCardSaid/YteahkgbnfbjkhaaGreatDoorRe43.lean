/-
  EnvW, RefBytes, RefLabel.
-/
import Derived.Test.YteahkgbnfbjkhaaGreatDoorProg
import Derived.Test.YteahkgbnfbjkhaaGreatDoorRe41
import Derived.Test.YteahkgbnfbjkhaaGreatDoorRe25
import Derived.Test.YteahkgbnfbjkhaaGreatDoorRe23
import Derived.OwnWalk
set_option maxRecDepth 20000
set_option linter.unusedVariables false
set_option linter.unusedSimpArgs false
set_option linter.unusedSectionVars false
namespace Go.Proofs.YteahkgbnfbjkhaaGreatDoor
open Go.ChangeShapes Go.WideShapes Go.ChangeAt Go.RowKit
theorem ewithin_calls (n lo hi : Int) (w : World) : Calls Tryz.prog 144 #[.int .i64 n, .int .i64 lo, .int .i64 hi] w fun r w' => r = .returned (.bool (inB n lo hi)) ∧ w = w' := by
 go_enter Tryz.func144, Tryz.ntmps144
 go_wp2
 all_goals (go_returns; refine ⟨rb ?_, rfl⟩; go_light; grind [inB])
theorem rin_calls (n lo hi : Int) (w : World) : Calls Tryz.prog 80 #[.int .i64 n, .int .i64 lo, .int .i64 hi] w fun r w' => r = .returned (.bool (inB n lo hi)) ∧ w = w' := by
 go_enter Tryz.func80, Tryz.ntmps80
 go_wp2
 all_goals (go_returns; refine ⟨rb ?_, rfl⟩; go_light; grind [inB])
set_option maxHeartbeats 1000000 in
theorem goodState_calls (s : SV) (w : World) : Calls Tryz.prog 85 #[.agg #[.int .i64 s.st, .int .i64 s.tr, .int .i64 s.du, .int .i64 s.co]] w fun r w' => r = .returned (.bool (stateB s)) ∧ Below w.heap.size w w' := by
 obtain ⟨a, b, c, d⟩ := s
 dsimp only
 go_enter Tryz.func85, Tryz.ntmps85
 go_wp2_with (go_at_call 144; ((refine (ewithin_calls _ _ _ _).mono ?_); rintro r w1 ⟨rfl, rfl⟩))
 all_goals (go_returns; refine ⟨rb ?_, by (repeat' (first | (with_reducible exact Below.refl _ _) | (with_reducible refine Below.app ?_ ?_ _ _) | (with_reducible refine Below.alloc ?_ ?_ _) | (with_reducible refine Below.drew ?_) | (with_reducible refine Below.setCell ?_ ?_ _) | (with_reducible assumption) | omega | (simp; omega) | (simp; done)))⟩; unfold stateB; simp_all)
set_option maxHeartbeats 1000000 in
theorem rgoodState_calls (s : SV) (w : World) : Calls Tryz.prog 30 #[.agg #[.int .i64 s.st, .int .i64 s.tr, .int .i64 s.du, .int .i64 s.co]] w fun r w' => r = .returned (.bool (stateB s)) ∧ Below w.heap.size w w' := by
 obtain ⟨a, b, c, d⟩ := s
 dsimp only
 go_enter Tryz.func30, Tryz.ntmps30
 go_wp2_with (go_at_call 80; ((refine (rin_calls _ _ _ _).mono ?_); rintro r w1 ⟨rfl, rfl⟩))
 all_goals (go_returns; refine ⟨rb ?_, by (repeat' (first | (with_reducible exact Below.refl _ _) | (with_reducible refine Below.app ?_ ?_ _ _) | (with_reducible refine Below.alloc ?_ ?_ _) | (with_reducible refine Below.drew ?_) | (with_reducible refine Below.setCell ?_ ?_ _) | (with_reducible assumption) | omega | (simp; omega) | (simp; done)))⟩; unfold stateB; simp_all)
theorem good1_calls (s : SV) (w : World) : Calls Tryz.prog 84 #[.agg #[.int .i64 s.st, .int .i64 s.tr, .int .i64 s.du, .int .i64 s.co]] w fun r w' => r = .returned (.bool (!stateB s)) ∧ Below w.heap.size w w' := by
 have k := fun W => goodState_calls s W
 generalize stateB s = B at k ⊢
 obtain ⟨a, b, c, d⟩ := s
 dsimp only at k ⊢
 replace k := Lib.hid k
 go_enter Tryz.func84, Tryz.ntmps84
 go_wp2_with (go_at_call 85; ((refine (k.out _).mono ?_); rintro r w1 ⟨rfl, hb⟩; obtain ⟨b1, b1d, rfl⟩ := of_below hb; clear hb))
 go_returns
 exact ⟨rfl, by (repeat' (first | (with_reducible exact Below.refl _ _) | (with_reducible refine Below.app ?_ ?_ _ _) | (with_reducible refine Below.alloc ?_ ?_ _) | (with_reducible refine Below.drew ?_) | (with_reducible refine Below.setCell ?_ ?_ _) | (with_reducible assumption) | omega | (simp; omega) | (simp; done)))⟩
theorem all_at15 {α : Type} (f : α → Bool) (l : List α) (k : Nat) (h : k < l.length) : (l.drop k).all f = (f l[k] && (l.drop (k + 1)).all f) := by
 rw [List.drop_eq_getElem_cons h]; rfl
set_option maxHeartbeats 1000000 in
theorem indexState_calls (p : Option Addr) (ss : List SV) (cap : Nat) (w : World) (hz : Hid (Shows w 4 IsState p ss)) (hl : ss.length ≤ 9223372036854775807) :
 Calls Tryz.prog 145 #[.slice p ss.length cap, .func (.func 84) #[] #[]] w fun r w' => (∃ n : Int, r = .returned (.int .i64 n) ∧ (0 ≤ n ↔ ss.all stateB = false)) ∧ Below w.heap.size w w' := by
 go_enter Tryz.func145, Tryz.ntmps145
 go_wp2
 go_loopw [8] (fun i wr => ∃ k : Nat, k ≤ ss.length ∧ i = .int .i64 k ∧ Hid (ss.all stateB = (ss.drop k).all stateB) ∧ Ext w wr) (fun i _ => ss.length - (intOf i).toNat)
 case atStart => exact ⟨0, by omega, rfl, rfl, ext_of (Below.refl _ _)⟩
 case round =>
  obtain ⟨k, hk, rfl, hr, bs, d, rfl⟩ := hrel
  by_cases hlt : k < ss.length
  · obtain ⟨b, off, cs, rfl, hb, hcl, hc, rfl, -⟩ := hz.out k hlt
    have e0 := hc 0 (by omega)
    have e1 := hc 1 (by omega)
    have e2 := hc 2 (by omega)
    have e3 := hc 3 (by omega)
    clear hc
    simp at e0 e1 e2 e3
    have hs := hr.out
    rw [all_at15 _ _ _ hlt] at hs
    have kg := fun W => good1_calls ss[k] W
    generalize ss[k] = s at *
    obtain ⟨x0, x1, x2, x3⟩ := s
    dsimp only at e0 e1 e2 e3 kg
    cases hB : stateB ⟨x0, x1, x2, x3⟩
    · rw [hB] at kg hs
      replace hs := Lib.hid hs
      replace kg := Lib.hid kg
      clear hB hr
      go_wp2_with (go_at_call 84; ((with_reducible refine (kg.out _).mono ?_); rintro r w1 ⟨rfl, hb1⟩; obtain ⟨b1, d1, rfl⟩ := of_below hb1; clear hb1))
      go_returns
      exact ⟨⟨_, rfl, fun _ => hs.out, fun _ => by omega⟩, by (repeat' (first | (with_reducible exact Below.refl _ _) | (with_reducible refine Below.app ?_ ?_ _ _) | (with_reducible refine Below.alloc ?_ ?_ _) | (with_reducible refine Below.drew ?_) | (with_reducible refine Below.setCell ?_ ?_ _) | (with_reducible assumption) | omega | (simp; omega) | (simp; done)))⟩
    · rw [hB] at kg hs
      replace hs := Lib.hid hs
      replace kg := Lib.hid kg
      clear hB hr
      go_wp2_with (go_at_call 84; ((with_reducible refine (kg.out _).mono ?_); rintro r w1 ⟨rfl, hb1⟩; obtain ⟨b1, d1, rfl⟩ := of_below hb1; clear hb1))
      go_roundw
      case rel => exact ⟨k + 1, by omega, by go_num, hs, ext_of (by (repeat' (first | (with_reducible exact Below.refl _ _) | (with_reducible refine Below.app ?_ ?_ _ _) | (with_reducible refine Below.alloc ?_ ?_ _) | (with_reducible refine Below.drew ?_) | (with_reducible refine Below.setCell ?_ ?_ _) | (with_reducible assumption) | omega | (simp; omega) | (simp; done))))⟩
      case measure => simp [intOf]; omega
  · have hd : ss.drop k = [] := List.drop_of_length_le (by omega)
    have h1 := hr.out
    rw [hd] at h1
    replace h1 := Lib.hid h1
    go_wp2
    go_returns
    exact ⟨⟨_, rfl, fun h => by omega, fun h => by have := h1.out; rw [h] at this; cases this⟩, by (repeat' (first | (with_reducible exact Below.refl _ _) | (with_reducible refine Below.app ?_ ?_ _ _) | (with_reducible refine Below.alloc ?_ ?_ _) | (with_reducible refine Below.drew ?_) | (with_reducible refine Below.setCell ?_ ?_ _) | (with_reducible assumption) | omega | (simp; omega) | (simp; done)))⟩
theorem containsState_calls (p : Option Addr) (ss : List SV) (cap : Nat) (w : World) (hz : Hid (Shows w 4 IsState p ss)) (hl : ss.length ≤ 9223372036854775807) :
 Calls Tryz.prog 83 #[.slice p ss.length cap, .func (.func 84) #[] #[]] w fun r w' => r = .returned (.bool (!ss.all stateB)) ∧ Below w.heap.size w w' := by
 have k := Lib.hid (indexState_calls p ss cap w hz hl)
 go_enter Tryz.func83, Tryz.ntmps83
 go_wp2_with (go_at_call 145; ((with_reducible refine k.out.mono ?_); rintro r w1 ⟨⟨n, rfl, hn⟩, hb1⟩; replace hn := Lib.hid hn; obtain ⟨b1, d1, rfl⟩ := of_below hb1; clear hb1))
 all_goals
  go_returns
  refine ⟨rb ?_, by (repeat' (first | (with_reducible exact Below.refl _ _) | (with_reducible refine Below.app ?_ ?_ _ _) | (with_reducible refine Below.alloc ?_ ?_ _) | (with_reducible refine Below.drew ?_) | (with_reducible refine Below.setCell ?_ ?_ _) | (with_reducible assumption) | omega | (simp; omega) | (simp; done)))⟩
  have hn := hn.out
  go_light
  grind
end Go.Proofs.YteahkgbnfbjkhaaGreatDoor
set_option maxRecDepth 20000
set_option linter.unusedVariables false
set_option linter.unusedSimpArgs false
set_option linter.unusedSectionVars false
namespace Go.Proofs.YteahkgbnfbjkhaaGreatDoor
open Go.ChangeShapes Go.WideShapes Go.ChangeAt Go.RowKit
end Go.Proofs.YteahkgbnfbjkhaaGreatDoor
set_option maxRecDepth 20000
set_option linter.unusedVariables false
set_option linter.unusedSimpArgs false
set_option linter.unusedSectionVars false
namespace Go.Proofs.YteahkgbnfbjkhaaGreatDoor
open Go.ChangeShapes Go.WideShapes Go.ChangeAt Go.RowKit
def rlabelB (l : List UInt8) : Bool := l.all labelB && labelOk l
theorem labelB_int (c : UInt8) : labelB c = (alnumB c || ((c.toNat : Int) == 45)) := by
 unfold labelB; congr 1; rw [Bool.eq_iff_iff]; simp; rw [← UInt8.toNat_inj]; simp; omega
theorem labelOk_bytes {s : ByteArray} (h0 : 0 < s.size) : labelOk s.data.toList = (!((s[0].toNat : Int) == 45) && !((s[s.size - 1].toNat : Int) == 45)) := by
 have h := @labelOk_take s 0 s.size (by omega) h0
 have hl : s.data.toList.length = s.size := by simp
 rw [List.drop_zero, List.take_of_length_le (by omega), Nat.zero_add, getD_lt h0, getD_lt (show s.size - 1 < s.size by omega)] at h
 rw [h]
 simp only [u8_int]
 rw [Bool.eq_iff_iff]
 simp
set_option maxHeartbeats 4000000 in
theorem rlabel_calls (s : ByteArray) (hs : s.size ≤ 140000000000000) (w : World) : Calls Tryz.prog 199 #[.string s] w fun r w' => r = .returned (.bool (rlabelB s.data.toList)) ∧ w = w' := by
 have hlen : s.data.toList.length = s.size := by simp
 generalize hR : rlabelB s.data.toList = R
 replace hR := Lib.hid hR
 go_enter Tryz.func199, Tryz.ntmps199
 go_wp2
 go_loop [3] (fun i => ∃ k : Nat, k ≤ s.size ∧ i = .int .i64 k ∧ Hid (R = ((s.data.toList.drop k).all labelB && labelOk s.data.toList))) (fun i => s.size - (intOf i).toNat)
 case atStart => exact ⟨0, by omega, rfl, hR.out.symm⟩
 case round =>
  obtain ⟨k, hk, rfl, hr⟩ := hrel
  clear hR
  by_cases hlt : k < s.size
  · have had := @all_drop labelB s.data.toList k (by omega)
    have hgk : s.data.toList[k]'(by omega) = s[k] := rfl
    rw [hgk, labelB_int] at had
    have hac := alnum_calls s[k]
    cases hal : alnumB s[k]
    · rw [hal] at hac had
      replace hac := Lib.hid hac
      cases h45 : ((s[k].toNat : Int) == 45)
      · have hR : Hid (R = false) := by unfold Hid; rw [hr.out, had, h45]; rfl
        clear had hgk hal hr
        go_wp2_with (go_at_call 201; ((with_reducible refine (hac.out _).mono ?_); rintro _ _ ⟨rfl, rfl⟩))
        go_returns
        exact ⟨rb hR.out.symm, rfl⟩
      · have hR : Hid (R = ((s.data.toList.drop (k + 1)).all labelB && labelOk s.data.toList)) := by unfold Hid; rw [hr.out, had, h45]; rfl
        clear had hgk hal hr
        go_wp2_with (go_at_call 201; ((with_reducible refine (hac.out _).mono ?_); rintro _ _ ⟨rfl, rfl⟩))
        go_round
        case rel => exact ⟨k + 1, by omega, by go_num, hR⟩
        case measure => simp [intOf]; omega
    · rw [hal] at hac had
      replace hac := Lib.hid hac
      have hR : Hid (R = ((s.data.toList.drop (k + 1)).all labelB && labelOk s.data.toList)) := by unfold Hid; rw [hr.out, had]; rfl
      clear had hgk hal hr
      go_wp2_with (go_at_call 201; ((with_reducible refine (hac.out _).mono ?_); rintro _ _ ⟨rfl, rfl⟩))
      go_round
      case rel => exact ⟨k + 1, by omega, by go_num, hR⟩
      case measure => simp [intOf]; omega
  · have hke : k = s.size := by omega
    subst hke
    have hR : Hid (R = labelOk s.data.toList) := by unfold Hid; rw [hr.out, List.drop_of_length_le (by omega)]; rfl
    clear hr
    by_cases h0 : s.size = 0
    · have hR2 : Hid (R = false) := by
       unfold Hid
       rw [hR.out, List.eq_nil_of_length_eq_zero (by omega : s.data.toList.length = 0)]; rfl
      clear hR
      go_wp2
      all_goals first
       | (go_returns; exact ⟨rb hR2.out.symm, rfl⟩)
       | (exfalso; go_light; omega)
    · have hlb := labelOk_bytes (s := s) (by omega)
      rw [hlb] at hR
      clear hlb
      go_wp2
      all_goals first
       | (go_returns; refine ⟨rb ?_, rfl⟩; rw [hR.out]; clear hR; go_light; simp_all; done)
       | (go_returns; refine ⟨rb ?_, rfl⟩; rw [hR.out]; clear hR; go_light; rfl)
end Go.Proofs.YteahkgbnfbjkhaaGreatDoor
