/-
  ref10.Same: two lists of fields.
-/
import Derived.Test.YtpoaegcaaflogaaDoorHeadSplit
namespace Go.Proofs.YtpoaegcaaflogaaDoor
open Go.ChangeShapes Go.WideShapes Go.ChangeAt Go.RowKit

theorem drop_eq_step {f1 f2 : List Fld} {k : Nat} (h1 : k < f1.length) (h2 : k < f2.length) : (f1.drop k = f2.drop k) ↔ (f1[k] = f2[k] ∧ f1.drop (k + 1) = f2.drop (k + 1)) := by
  rw [List.drop_eq_getElem_cons h1, List.drop_eq_getElem_cons h2, List.cons.injEq]
set_option maxHeartbeats 4000000 in
theorem ba_of_toList {a b : ByteArray} (h : a.toList = b.toList) : a = b := by
  rw [ByteArray.toList_eq, ByteArray.toList_eq] at h
  exact ByteArray.ext (Array.toList_inj.1 h)
theorem app_below {n : Nat} {w wr : World} (h : Below n w wr) (bs : Array Obj) (d : Nat) (hn : n ≤ wr.heap.size) : Below n w (app wr bs d) := by
  have h2 : Below n wr (app wr bs d) := by (repeat' (first | (with_reducible exact Below.refl _ _) | (with_reducible refine Below.app ?_ ?_ _ _) | (with_reducible refine Below.alloc ?_ ?_ _) | (with_reducible refine Below.drew ?_) | (with_reducible refine Below.setCell ?_ ?_ _) | (with_reducible assumption) | omega | (simp; omega) | (simp; done)))
  exact h.trans h2
theorem same10_calls {w : World} {q1 q2 : Option Addr} {c1 c2 : Nat} {f1 f2 : List Fld} (h1 : FieldsAt w q1 f1) (h2 : FieldsAt w q2 f2) (hn1 : f1.length ≤ 100000000) (_hn2 : f2.length ≤ 100000000) :
    Calls Tryd.prog 14 #[.slice q1 f1.length c1, .slice q2 f2.length c2] w fun r w' => r = .returned (.bool (decide (f1 = f2))) ∧ Below w.heap.size w w' := by
  have k1 := fun i (hi : i < f1.length) => h1.cell hi
  have k2 := fun i (hi : i < f2.length) => h2.cell hi
  clear h1 h2
  by_cases hl : f1.length = f2.length
  · have hR0 : Hid (decide (f1 = f2) = decide (f1.drop 0 = f2.drop 0)) := rfl
    generalize decide (f1 = f2) = R at *
    have hle : ((f1.length : Int) != (f2.length : Int)) = false := by simp; omega
    have hl2 := Lib.hid hl
    clear hl
    go_enter Tryd.func14, Tryd.ntmps14
    go_wp2
    go_loopw [5] (fun i wr => ∃ k : Nat, k ≤ f1.length ∧ i = .int .i64 k ∧ Below w.heap.size w wr ∧ Hid (R = decide (f1.drop k = f2.drop k))) (fun i _ => f1.length - (intOf i).toNat)
    case atStart => exact ⟨0, by omega, rfl, Below.refl _ _, hR0⟩
    case round =>
      obtain ⟨k, hk, rfl, hbw, hr⟩ := hrel
      clear hR0
      by_cases hlt : k < f1.length
      · have hlti : (k : Int) < f1.length := by omega
        have hlt2 : k < f2.length := by have := hl2.out; omega
        have hlti2 : (k : Int) < f2.length := by omega
        obtain ⟨b1, o1, rfl, e1, e2, e3⟩ := k1 k hlt
        obtain ⟨b2, o2, rfl, d1, d2, d3⟩ := k2 k hlt2
        have hst := drop_eq_step hlt hlt2
        replace e2 := (hbw.cell (p := ⟨b1, o1 + k * 2, none⟩) e1).trans e2
        replace e3 := (hbw.cell (p := ⟨b1, o1 + k * 2 + 1, none⟩) e1).trans e3
        replace d2 := (hbw.cell (p := ⟨b2, o2 + k * 2, none⟩) d1).trans d2
        replace d3 := (hbw.cell (p := ⟨b2, o2 + k * 2 + 1, none⟩) d1).trans d3
        have hws := hbw.size
        replace e1 := Nat.lt_of_lt_of_le e1 hws
        replace d1 := Nat.lt_of_lt_of_le d1 hws
        clear k1 k2
        have hpair : (f1[k] = f2[k]) ↔ (f1[k].1 = f2[k].1 ∧ f1[k].2 = f2[k].2) := Prod.ext_iff
        rw [hpair] at hst
        generalize f1[k].1 = x1 at *
        generalize f1[k].2 = x2 at *
        generalize f2[k].1 = y1 at *
        generalize f2[k].2 = y2 at *
        clear hpair
        go_wp2
        (apply wp_region_text 8; kernel_rfl; kernel_rfl; intro Fin hFin; (repeat (first | (apply text_run; exact rfl; (focus (intro bs d hF K hK; (repeat rw [app_app] at hK); (repeat rw [app_app]); (repeat rw [Array.append_assoc] at hK); (repeat rw [Array.append_assoc]); go_step; first  | (exfalso; assumption)  | (refine hK _ ?_; (repeat' (first | (with_reducible exact Below.refl _ _) | (with_reducible refine Below.app ?_ ?_ _ _) | (with_reducible refine Below.alloc ?_ ?_ _) | (with_reducible refine Below.drew ?_) | (with_reducible refine Below.setCell ?_ ?_ _) | (with_reducible assumption) | omega | (simp; omega) | (simp; done)))))); (try simp only [Act.put, List.setIfInBounds_toArray, List.set_cons_zero, List.set_cons_succ])) | (apply text_skip; exact rfl; (try simp only [Act.put, List.setIfInBounds_toArray, List.set_cons_zero, List.set_cons_succ])))); apply text_end; apply hFin; clear hFin Fin; intro bs d hfa)
        have hbe : Below w.heap.size w (app wr bs d) := app_below hbw bs d hws
        go_wp2
        case roundEnd =>
          have hR : R = decide (f1.drop (k + 1) = f2.drop (k + 1)) := by
            have g1 : x1 = y1 := ba_of_toList (by assumption)
            have g2 : x2 = y2 := ba_of_toList (by assumption)
            rw [hr.out]
            simp only [hst, g1, g2, true_and, and_self]
          replace hR := Lib.hid hR
          go_roundw
          case rel => exact ⟨k + 1, by omega, by go_num, hbe, hR⟩
          case measure => simp [intOf]; omega
        · have hR : R = false := by
            rw [hr.out, decide_eq_false]
            intro e
            have := (hst.1 e).1.2
            subst this
            contradiction
          go_returns
          exact ⟨rb hR.symm, hbe⟩
        · have hR : R = false := by
            rw [hr.out, decide_eq_false]
            intro e
            have := (hst.1 e).1.1
            subst this
            contradiction
          go_returns
          exact ⟨rb hR.symm, hbe⟩
      · have hlti : ¬ (k : Int) < f1.length := by omega
        have hR : Hid (R = true) := by
          unfold Hid; rw [hr.out, List.drop_of_length_le (by omega), List.drop_of_length_le (by have := hl2.out; omega)]; rfl
        clear hr k1 k2
        go_wp2
        go_returns
        exact ⟨rb hR.out.symm, hbw⟩
  · have hR0 : Hid (decide (f1 = f2) = false) := by unfold Hid; rw [decide_eq_false]; intro e; rw [e] at hl; exact hl rfl
    have hle : ((f1.length : Int) != (f2.length : Int)) = true := by simp; omega
    clear hl k1 k2
    go_enter Tryd.func14, Tryd.ntmps14
    go_wp2
    go_returns
    exact ⟨rb hR0.out.symm, by (repeat' (first | (with_reducible exact Below.refl _ _) | (with_reducible refine Below.app ?_ ?_ _ _) | (with_reducible refine Below.alloc ?_ ?_ _) | (with_reducible refine Below.drew ?_) | (with_reducible refine Below.setCell ?_ ?_ _) | (with_reducible assumption) | omega | (simp; omega) | (simp; done)))⟩
end Go.Proofs.YtpoaegcaaflogaaDoor
