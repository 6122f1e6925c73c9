/-
  RefGood, AddrLaws.
-/
import Derived.Test.YtfbicbgdfcbhpaaGreatDoorCt29
import Derived.Test.YtfbicbgdfcbhpaaGreatDoorCt23
import Derived.Test.YtfbicbgdfcbhpaaGreatDoorCt24
import Derived.Laws.BytesArg
import Derived.Test.YtfbicbgdfcbhpaaGreatDoorCt26
set_option maxRecDepth 20000
set_option linter.unusedVariables false
set_option linter.unusedSimpArgs false
set_option linter.unusedSectionVars false
namespace Go.Proofs.YtfbicbgdfcbhpaaGreatDoor
open Go.ChangeShapes Go.WideShapes Go.ChangeAt Go.RowKit
set_option maxHeartbeats 4000000 in
theorem rgood_calls (x y : ByteArray) (hx : x.size ≤ 1000000000000) (hy : y.size ≤ 1000000000000) (w : World) : Calls Tryz.prog 111 #[.agg #[.string x, .string y]] w fun r w' => r = .returned (.bool (goodB x y)) ∧ Below w.heap.size w w' := by
 have hlen : x.data.toList.length = x.size := by simp
 have hdc := rdomain_calls y hy
 rw [← domain_law] at hdc
 replace hdc := Lib.hid hdc
 go_enter Tryz.func111, Tryz.ntmps111
 go_wp2
 go_loop [3] (fun i => ∃ k : Nat, k ≤ x.size ∧ i = .int .i64 k ∧ Hid (goodB x y = ((x.data.toList.drop k).all plainB && (!x.data.toList.isEmpty && decide (x.size ≤ 64) && domainB y.data.toList)))) (fun i => x.size - (intOf i).toNat)
 case atStart => exact ⟨0, by omega, rfl, by unfold Hid; rw [List.drop_zero]; rfl⟩
 case round =>
  obtain ⟨k, hk, rfl, hr⟩ := hrel
  by_cases hlt : k < x.size
  · have had := @all_drop plainB x.data.toList k (by omega)
    have hgk : x.data.toList[k]'(by omega) = x[k] := rfl
    rw [hgk] at had
    have hpc := rplain_calls x[k]
    by_cases hp : plainB x[k] = true
    · have hr' : Hid (goodB x y = ((x.data.toList.drop (k + 1)).all plainB && (!x.data.toList.isEmpty && decide (x.size ≤ 64) && domainB y.data.toList))) := by unfold Hid; rw [hr.out, had, hp, Bool.true_and]
      rw [hp] at hpc
      clear had hgk hp hr
      replace hpc := Lib.hid hpc
      go_wp2_with (go_at_call 143; ((with_reducible refine (hpc.out _).mono ?_); rintro _ _ ⟨rfl, rfl⟩))
      go_round
      case rel => exact ⟨k + 1, by omega, by go_num, hr'⟩
      case measure => simp [intOf]; omega
    · rw [Bool.not_eq_true] at hp
      have hr' : Hid (goodB x y = false) := by unfold Hid; rw [hr.out, had, hp]; rfl
      rw [hp] at hpc
      clear had hgk hp hr
      replace hpc := Lib.hid hpc
      go_wp2_with (go_at_call 143; ((with_reducible refine (hpc.out _).mono ?_); rintro _ _ ⟨rfl, rfl⟩))
      go_returns
      exact ⟨rb hr'.out.symm, by (repeat' (first | (with_reducible exact Below.refl _ _) | (with_reducible refine Below.app ?_ ?_ _ _) | (with_reducible refine Below.alloc ?_ ?_ _) | (with_reducible refine Below.drew ?_) | (with_reducible refine Below.setCell ?_ ?_ _) | (with_reducible assumption) | omega | (simp; omega) | (simp; done)))⟩
  · have hke : k = x.size := by omega
    subst hke
    have hr' : Hid (goodB x y = (!x.data.toList.isEmpty && decide (x.size ≤ 64) && domainB y.data.toList)) := by unfold Hid; rw [hr.out, List.drop_of_length_le (by omega)]; rfl
    have hemp : x.data.toList.isEmpty = decide (x.size = 0) := by rw [← hlen]; cases x.data.toList <;> simp
    clear hr
    by_cases h1 : 1 ≤ x.size
    · by_cases h64 : x.size ≤ 64
      · have hv : Hid (goodB x y = domainB y.data.toList) := by unfold Hid; rw [hr'.out, hemp]; simp [show x.size ≠ 0 by omega, h64]
        clear hemp hr'
        go_wp2_with (go_at_call 39; ((refine (hdc.out _).mono ?_); rintro r w1 ⟨rfl, hb⟩; obtain ⟨b1, b1d, rfl⟩ := of_below hb; clear hb))
        go_returns
        exact ⟨rb hv.out.symm, by (repeat' (first | (with_reducible exact Below.refl _ _) | (with_reducible refine Below.app ?_ ?_ _ _) | (with_reducible refine Below.alloc ?_ ?_ _) | (with_reducible refine Below.drew ?_) | (with_reducible refine Below.setCell ?_ ?_ _) | (with_reducible assumption) | omega | (simp; omega) | (simp; done)))⟩
      · have hv : Hid (goodB x y = false) := by unfold Hid; rw [hr'.out]; simp [h64]
        clear hemp hr'
        go_wp2
        go_returns
        exact ⟨rb hv.out.symm, by (repeat' (first | (with_reducible exact Below.refl _ _) | (with_reducible refine Below.app ?_ ?_ _ _) | (with_reducible refine Below.alloc ?_ ?_ _) | (with_reducible refine Below.drew ?_) | (with_reducible refine Below.setCell ?_ ?_ _) | (with_reducible assumption) | omega | (simp; omega) | (simp; done)))⟩
    · have hv : Hid (goodB x y = false) := by unfold Hid; rw [hr'.out, hemp]; simp [show x.size = 0 by omega]
      clear hemp hr'
      go_wp2
      go_returns
      exact ⟨rb hv.out.symm, by (repeat' (first | (with_reducible exact Below.refl _ _) | (with_reducible refine Below.app ?_ ?_ _ _) | (with_reducible refine Below.alloc ?_ ?_ _) | (with_reducible refine Below.drew ?_) | (with_reducible refine Below.setCell ?_ ?_ _) | (with_reducible assumption) | omega | (simp; omega) | (simp; done)))⟩
end Go.Proofs.YtfbicbgdfcbhpaaGreatDoor
set_option maxRecDepth 20000
set_option linter.unusedVariables false
set_option linter.unusedSimpArgs false
set_option linter.unusedSectionVars false
namespace Go.Proofs.YtfbicbgdfcbhpaaGreatDoor
theorem split_at : ∀ l : List UInt8, (∀ q ∈ splitP 46 l, q.all atomB = true) → l.all atCh = true
 | [], _ => rfl
 | x :: r, h => by
  rw [splitP] at h
  split at h
  · rename_i hx
    rw [List.all_cons, hx, split_at r (fun q hq => h q (by simp [hq]))]; rfl
  · cases hL : splitP 46 r with
    | nil => exact absurd hL (splitP_ne _ _)
    | cons a t =>
     rw [hL] at h
     have ha := h (x :: a) (by simp [prep])
     rw [List.all_cons, Bool.and_eq_true] at ha
     have hr := split_at r (fun q hq => by
      rw [hL] at hq
      rcases List.mem_cons.1 hq with rfl | hq
      · exact ha.2
      · exact h q (by simp [prep, hq]))
     rw [List.all_cons, hr]
     unfold atCh
     rw [ha.1]; rfl
theorem ratoms_all {l : List UInt8} (h : ratomsB l = true) : l.all atCh = true := split_at l (fun q hq => by
 have := List.all_eq_true.1 h q hq
 unfold partB at this
 rw [Bool.and_eq_true] at this
 exact this.1)
theorem ratoms_law (l : List UInt8) : atomsP l = some l.length ↔ ratomsB l = true := by
 rw [atoms_law l.length l (Nat.le_refl _)]
 constructor
 · intro h
   split at h
   · rename_i hl
     have e : spanLen atCh l = l.length := Option.some.inj h
     rwa [e, List.take_of_length_le (Nat.le_refl _)] at hl
   · cases h
 · intro h
   have e : spanLen atCh l = l.length := span_all _ _ (ratoms_all h)
   rw [e, List.take_of_length_le (Nat.le_refl _), if_pos h]
end Go.Proofs.YtfbicbgdfcbhpaaGreatDoor
