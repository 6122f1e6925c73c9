/-
  RefGood, RefEnv.
-/
import Derived.Test.YteahkgbnfbjkhaaGreatDoorRe27
import Derived.Test.YteahkgbnfbjkhaaGreatDoorRe08
import Derived.Test.YteahkgbnfbjkhaaGreatDoorRe45
import Derived.Laws.BytesArg
import Derived.Test.YteahkgbnfbjkhaaGreatDoorRe41
import Derived.Test.YteahkgbnfbjkhaaGreatDoorRe43
import Derived.Test.YteahkgbnfbjkhaaGreatDoorRe10
set_option maxRecDepth 20000
set_option linter.unusedVariables false
set_option linter.unusedSimpArgs false
set_option linter.unusedSectionVars false
namespace Go.Proofs.YteahkgbnfbjkhaaGreatDoor
open Go.ChangeShapes Go.WideShapes Go.ChangeAt Go.RowKit
set_option maxHeartbeats 4000000 in
theorem rgood05_calls (x y : ByteArray) (hx : x.size ≤ 1000000000000) (hy : y.size ≤ 1000000000000) (w : World) : Calls Tryz.prog 81 #[.agg #[.string x, .string y]] w fun r w' => r = .returned (.bool (goodB x y)) ∧ Below w.heap.size w w' := by
 have hlen : x.data.toList.length = x.size := by simp
 have hdc := rdomain_calls y hy
 rw [← domain_law] at hdc
 replace hdc := Lib.hid hdc
 go_enter Tryz.func81, Tryz.ntmps81
 go_wp2
 go_loop [3] (fun i => ∃ k : Nat, k ≤ x.size ∧ i = .int .i64 k ∧ Hid (goodB x y = ((x.data.toList.drop k).all plainB && (!x.data.toList.isEmpty && decide (x.size ≤ 64) && domainB y.data.toList)))) (fun i => x.size - (intOf i).toNat)
 case atStart => exact ⟨0, by omega, rfl, by unfold Hid; rw [List.drop_zero]; rfl⟩
 case round =>
  obtain ⟨k, hk, rfl, hr⟩ := hrel
  by_cases hlt : k < x.size
  · have had := @all_drop plainB x.data.toList k (by omega)
    have hgk : x.data.toList[k]'(by omega) = x[k] := rfl
    rw [hgk] at had
    have hpc := rplain_calls x[k]
    by_cases hp : plainB x[k] = true
    · have hr' : Hid (goodB x y = ((x.data.toList.drop (k + 1)).all plainB && (!x.data.toList.isEmpty && decide (x.size ≤ 64) && domainB y.data.toList))) := by unfold Hid; rw [hr.out, had, hp, Bool.true_and]
      rw [hp] at hpc
      clear had hgk hp hr
      replace hpc := Lib.hid hpc
      go_wp2_with (go_at_call 143; ((with_reducible refine (hpc.out _).mono ?_); rintro _ _ ⟨rfl, rfl⟩))
      go_round
      case rel => exact ⟨k + 1, by omega, by go_num, hr'⟩
      case measure => simp [intOf]; omega
    · rw [Bool.not_eq_true] at hp
      have hr' : Hid (goodB x y = false) := by unfold Hid; rw [hr.out, had, hp]; rfl
      rw [hp] at hpc
      clear had hgk hp hr
      replace hpc := Lib.hid hpc
      go_wp2_with (go_at_call 143; ((with_reducible refine (hpc.out _).mono ?_); rintro _ _ ⟨rfl, rfl⟩))
      go_returns
      exact ⟨rb hr'.out.symm, by (repeat' (first | (with_reducible exact Below.refl _ _) | (with_reducible refine Below.app ?_ ?_ _ _) | (with_reducible refine Below.alloc ?_ ?_ _) | (with_reducible refine Below.drew ?_) | (with_reducible refine Below.setCell ?_ ?_ _) | (with_reducible assumption) | omega | (simp; omega) | (simp; done)))⟩
  · have hke : k = x.size := by omega
    subst hke
    have hr' : Hid (goodB x y = (!x.data.toList.isEmpty && decide (x.size ≤ 64) && domainB y.data.toList)) := by unfold Hid; rw [hr.out, List.drop_of_length_le (by omega)]; rfl
    have hemp : x.data.toList.isEmpty = decide (x.size = 0) := by rw [← hlen]; cases x.data.toList <;> simp
    clear hr
    by_cases h1 : 1 ≤ x.size
    · by_cases h64 : x.size ≤ 64
      · have hv : Hid (goodB x y = domainB y.data.toList) := by unfold Hid; rw [hr'.out, hemp]; simp [show x.size ≠ 0 by omega, h64]
        clear hemp hr'
        go_wp2_with (go_at_call 112; ((refine (hdc.out _).mono ?_); rintro r w1 ⟨rfl, hb⟩; obtain ⟨b1, b1d, rfl⟩ := of_below hb; clear hb))
        go_returns
        exact ⟨rb hv.out.symm, by (repeat' (first | (with_reducible exact Below.refl _ _) | (with_reducible refine Below.app ?_ ?_ _ _) | (with_reducible refine Below.alloc ?_ ?_ _) | (with_reducible refine Below.drew ?_) | (with_reducible refine Below.setCell ?_ ?_ _) | (with_reducible assumption) | omega | (simp; omega) | (simp; done)))⟩
      · have hv : Hid (goodB x y = false) := by unfold Hid; rw [hr'.out]; simp [h64]
        clear hemp hr'
        go_wp2
        go_returns
        exact ⟨rb hv.out.symm, by (repeat' (first | (with_reducible exact Below.refl _ _) | (with_reducible refine Below.app ?_ ?_ _ _) | (with_reducible refine Below.alloc ?_ ?_ _) | (with_reducible refine Below.drew ?_) | (with_reducible refine Below.setCell ?_ ?_ _) | (with_reducible assumption) | omega | (simp; omega) | (simp; done)))⟩
    · have hv : Hid (goodB x y = false) := by unfold Hid; rw [hr'.out, hemp]; simp [show x.size = 0 by omega]
      clear hemp hr'
      go_wp2
      go_returns
      exact ⟨rb hv.out.symm, by (repeat' (first | (with_reducible exact Below.refl _ _) | (with_reducible refine Below.app ?_ ?_ _ _) | (with_reducible refine Below.alloc ?_ ?_ _) | (with_reducible refine Below.drew ?_) | (with_reducible refine Below.setCell ?_ ?_ _) | (with_reducible assumption) | omega | (simp; omega) | (simp; done)))⟩
end Go.Proofs.YteahkgbnfbjkhaaGreatDoor
set_option maxRecDepth 20000
set_option linter.unusedVariables false
set_option linter.unusedSimpArgs false
set_option linter.unusedSectionVars false
namespace Go.Proofs.YteahkgbnfbjkhaaGreatDoor
open Go.ChangeShapes Go.WideShapes Go.ChangeAt Go.RowKit
theorem small_no {t : TV} (h : (100 : Int) < t.L.size ∨ (100 : Int) < t.D.size) : smallT t = false := decide_eq_false (by omega)
theorem small_yes {t : TV} (h : ¬ (100 : Int) < t.L.size) (h2 : ¬ (100 : Int) < t.D.size) : smallT t = true := decide_eq_true (by omega)
set_option maxHeartbeats 2000000 in
theorem light_calls {w : World} (j : JV) (q : JP) (h : JobAt w j q) : Calls Tryz.prog 9 #[.agg (j.cells q)] w fun r w' => r = .returned (.bool (lightB j)) ∧ Below w.heap.size w w' := by
  obtain ⟨hto, -, -, nt, ns, nb, nL, nD⟩ := h
  obtain ⟨id, arr, fL, fD, tos, sts, body⟩ := j
  obtain ⟨p4, c4, p5, c5, p6, c6⟩ := q
  unfold JV.cells lightB
  dsimp only at *
  unfold maxLen at nt ns nb nL nD
  have hR0 : Hid (tos.all smallT = (tos.drop 0).all smallT) := rfl
  generalize tos.all smallT = R at *
  replace hto := Lib.hid hto
  go_enter Tryz.func9, Tryz.ntmps9
  go_wp2
  all_goals first
    | (go_returns; refine ⟨rb ?_, by (repeat' (first | (with_reducible exact Below.refl _ _) | (with_reducible refine Below.app ?_ ?_ _ _) | (with_reducible refine Below.alloc ?_ ?_ _) | (with_reducible refine Below.drew ?_) | (with_reducible refine Below.setCell ?_ ?_ _) | (with_reducible assumption) | omega | (simp; omega) | (simp; done)))⟩; rw [lightN_no (by omega)]; rfl)
    | skip
  have hsm : lightN tos.length sts.length body.length fL.size fD.size = true := lightN_yes (by omega)
  replace hsm := Lib.hid hsm
  go_loop [3] (fun i => ∃ k : Nat, k ≤ tos.length ∧ i = .int .i64 k ∧ Hid (R = (tos.drop k).all smallT)) (fun i => tos.length - (intOf i).toNat)
  case atStart => exact ⟨0, by omega, rfl, hR0⟩
  case round =>
    obtain ⟨k, hk, rfl, hr⟩ := hrel
    clear hR0
    by_cases hlt : k < tos.length
    · obtain ⟨b, off, cs, rfl, hb, hcl, hc, ⟨rfl, ⟨g1, g2⟩, -⟩⟩ := hto.out k hlt
      have e1 := hc 1 (by omega)
      have e2 := hc 2 (by omega)
      clear hc
      simp at e1 e2
      have hs := hr.out
      rw [all_at15 _ _ _ hlt] at hs
      have hno : ((100 : Int) < (tos[k]'hlt).L.size ∨ (100 : Int) < (tos[k]'hlt).D.size) → smallT (tos[k]'hlt) = false := small_no
      have hyes : ¬ (100 : Int) < (tos[k]'hlt).L.size → ¬ (100 : Int) < (tos[k]'hlt).D.size → smallT (tos[k]'hlt) = true := small_yes
      generalize tos[k] = t at *
      obtain ⟨u, tL, tD⟩ := t
      dsimp only at e1 e2 g1 g2 hno hyes
      unfold maxLen at g1 g2
      generalize smallT ⟨u, tL, tD⟩ = B at *
      replace hs := Lib.hid hs
      replace hno := Lib.hid hno
      replace hyes := Lib.hid hyes
      clear hr
      go_wp2
      all_goals first
        | (go_round
           case rel => (refine ⟨k + 1, by omega, by go_num, ?_⟩; have hs := hs.out; rw [hyes.out (by omega) (by omega), Bool.true_and] at hs; exact hs)
           case measure => simp [intOf]; omega)
        | (go_returns; refine ⟨rb ?_, by (repeat' (first | (with_reducible exact Below.refl _ _) | (with_reducible refine Below.app ?_ ?_ _ _) | (with_reducible refine Below.alloc ?_ ?_ _) | (with_reducible refine Below.drew ?_) | (with_reducible refine Below.setCell ?_ ?_ _) | (with_reducible assumption) | omega | (simp; omega) | (simp; done)))⟩; rw [hsm.out, hs.out, hno.out (by omega)]; rfl)
    · have hd : tos.drop k = [] := List.drop_of_length_le (by omega)
      have h1 := hr.out
      rw [hd] at h1
      replace h1 := Lib.hid h1
      go_wp2
      go_returns
      exact ⟨rb (by rw [hsm.out, h1.out]; rfl), by (repeat' (first | (with_reducible exact Below.refl _ _) | (with_reducible refine Below.app ?_ ?_ _ _) | (with_reducible refine Below.alloc ?_ ?_ _) | (with_reducible refine Below.drew ?_) | (with_reducible refine Below.setCell ?_ ?_ _) | (with_reducible assumption) | omega | (simp; omega) | (simp; done)))⟩
theorem met_no {tos : List TV} {k : Nat} (hk : k < tos.length) (h : ∀ i (hi : i < tos.length), i < k → tos[i].user ≠ tos[k].user) : ((tos.take k).map (·.user)).contains tos[k].user = false := by
 rw [List.contains_eq_mem, decide_eq_false_iff_not]
 intro hm
 obtain ⟨t, ht, e⟩ := List.mem_map.1 hm
 obtain ⟨i, hi, rfl⟩ := List.mem_iff_getElem.1 ht
 rw [List.length_take] at hi
 rw [List.getElem_take] at e
 exact h i (by omega) (by omega) e
theorem met_yes {tos : List TV} {k i : Nat} (hk : k < tos.length) (hi : i < k) (h : (tos[i]'(by omega)).user = tos[k].user) : ((tos.take k).map (·.user)).contains tos[k].user = true := by
 rw [List.contains_eq_mem, decide_eq_true_eq]
 refine List.mem_map.2 ⟨tos[i]'(by omega), ?_, h⟩
 exact List.mem_iff_getElem.2 ⟨i, by rw [List.length_take]; omega, by rw [List.getElem_take]⟩
theorem tosB_at (tos : List TV) (k : Nat) (h : k < tos.length) : tosB ((tos.take k).map (·.user)) (tos.drop k) = (tgtB tos[k] && (!((tos.take k).map (·.user)).contains tos[k].user && tosB ((tos.take (k + 1)).map (·.user)) (tos.drop (k + 1)))) := by
 rw [List.drop_eq_getElem_cons h, List.take_succ_eq_append_getElem h]
 simp only [tosB, List.map_append, List.map_cons, List.map_nil]
end Go.Proofs.YteahkgbnfbjkhaaGreatDoor
