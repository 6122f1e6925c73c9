/-
  reply.Lasting, Codes, ref08.Few: what they give.
-/
import Derived.Test.YtalkglheaadigaaDoorReplyGood
import Derived.Test.YtalkglheaadigaaDoorLowerG
set_option maxRecDepth 20000
set_option linter.unusedVariables false
set_option linter.unusedSimpArgs false
set_option linter.unusedSectionVars false
namespace Go.Proofs.YtalkglheaadigaaDoor
open Go.ChangeShapes Go.WideShapes Go.ChangeAt Go.RowKit

theorem lasting_calls (n : Int) (w : World) : Calls Tryd.prog 29 #[.int .i64 n] w fun r w' => r = .returned (.bool (decide (500 ≤ n) && decide (n ≤ 599))) ∧ w = w' := by
  generalize hv : (decide (500 ≤ n) && decide (n ≤ 599)) = R
  replace hv := Lib.hid hv
  by_cases h1 : 500 ≤ n
  · by_cases h2 : n ≤ 599
    · have hR : Hid (R = true) := by unfold Hid; rw [← hv.out, decide_eq_true h1, decide_eq_true h2]; rfl
      clear hv
      go_enter Tryd.func29, Tryd.ntmps29
      go_wp2
      go_returns
      exact ⟨rb hR.out.symm, rfl⟩
    · have hR : Hid (R = false) := by unfold Hid; rw [← hv.out, decide_eq_false h2, Bool.and_false]
      clear hv
      go_enter Tryd.func29, Tryd.ntmps29
      go_wp2
      go_returns
      exact ⟨rb hR.out.symm, rfl⟩
  · have hR : Hid (R = false) := by unfold Hid; rw [← hv.out, decide_eq_false h1]; rfl
    clear hv
    go_enter Tryd.func29, Tryd.ntmps29
    go_wp2
    go_returns
    exact ⟨rb hR.out.symm, rfl⟩
/-- Has a reply few and short lines? -/
def few8B (e : List UInt8) (ss : List ByteArray) : Bool := decide (ss.length ≤ 20) && (decide (e.length ≤ 100) && ss.all fun s => decide (s.size ≤ 500))
theorem few8_bd {e : List UInt8} {ss : List ByteArray} (h : few8B e ss = true) : ss.length ≤ 20 ∧ e.length ≤ 100 ∧ ∀ s ∈ ss, s.size ≤ 500 := by
  unfold few8B at h
  rw [Bool.and_eq_true, Bool.and_eq_true, decide_eq_true_eq, decide_eq_true_eq, List.all_eq_true] at h
  exact ⟨h.1, h.2.1, fun s hs => by simpa using h.2.2 s hs⟩
theorem all_few {ss : List ByteArray} {k : Nat} (h : k < ss.length) : ((ss.drop k).all fun s => decide (s.size ≤ 500)) = (decide (ss[k].size ≤ 500) && (ss.drop (k + 1)).all fun s => decide (s.size ≤ 500)) := by
  rw [List.drop_eq_getElem_cons h, List.all_cons]
set_option maxHeartbeats 4000000 in
theorem few8_calls (code : Int) (e : List UInt8) (ss : List ByteArray) (cap : Nat) {p : Option Addr} {w : World} (hs : StrsAt w p ss) (he : e.length ≤ maxLen) (hn : ss.length ≤ maxLen) :
    Calls Tryd.prog 22 #[.agg #[.int .i64 code, .string ⟨e.toArray⟩, .slice p ss.length cap]] w fun r w' => r = .returned (.bool (few8B e ss)) ∧ Below w.heap.size w w' := by
  unfold maxLen at he hn
  have hcell := fun i (hi : i < ss.length) => hs.cell hi
  have hes : (⟨e.toArray⟩ : ByteArray).size = e.length := by show e.toArray.size = _; simp
  have hv : Hid (few8B e ss = (decide (ss.length ≤ 20) && (decide (e.length ≤ 100) && ss.all fun s => decide (s.size ≤ 500)))) := rfl
  generalize few8B e ss = R at *
  replace hcell := Lib.hid hcell
  clear hs
  by_cases h20 : 20 < (ss.length : Int)
  · have hR : Hid (R = false) := by unfold Hid; rw [hv.out, decide_eq_false (by omega)]; rfl
    clear hv
    go_enter Tryd.func22, Tryd.ntmps22
    go_wp2
    go_returns
    exact ⟨rb hR.out.symm, by (repeat' (first | (with_reducible exact Below.refl _ _) | (with_reducible refine Below.app ?_ ?_ _ _) | (with_reducible refine Below.alloc ?_ ?_ _) | (with_reducible refine Below.drew ?_) | (with_reducible refine Below.setCell ?_ ?_ _) | (with_reducible assumption) | omega | (simp; omega) | (simp; done)))⟩
  · by_cases h100 : 100 < (e.length : Int)
    · have hR : Hid (R = false) := by unfold Hid; rw [hv.out, decide_eq_false (show ¬ e.length ≤ 100 by omega)]; simp
      clear hv
      go_enter Tryd.func22, Tryd.ntmps22
      go_wp2
      go_returns
      exact ⟨rb hR.out.symm, by (repeat' (first | (with_reducible exact Below.refl _ _) | (with_reducible refine Below.app ?_ ?_ _ _) | (with_reducible refine Below.alloc ?_ ?_ _) | (with_reducible refine Below.drew ?_) | (with_reducible refine Below.setCell ?_ ?_ _) | (with_reducible assumption) | omega | (simp; omega) | (simp; done)))⟩
    · have hR0 : Hid (R = (ss.drop 0).all fun s => decide (s.size ≤ 500)) := by
        unfold Hid; rw [hv.out, decide_eq_true (show ss.length ≤ 20 by omega), decide_eq_true (show e.length ≤ 100 by omega), List.drop_zero]; rfl
      clear hv
      go_enter Tryd.func22, Tryd.ntmps22
      go_wp2
      go_loop [3] (fun i => ∃ k : Nat, k ≤ ss.length ∧ i = .int .i64 k ∧ Hid (R = (ss.drop k).all fun s => decide (s.size ≤ 500))) (fun i => ss.length - (intOf i).toNat)
      case atStart => exact ⟨0, by omega, rfl, hR0⟩
      case round =>
        obtain ⟨k, hk, rfl, hr⟩ := hrel
        clear hR0
        by_cases hlt : k < ss.length
        · have hlti : (k : Int) < ss.length := by omega
          obtain ⟨bb, off, rfl, hbb, hcl⟩ := hcell.out k hlt
          have hst := all_few hlt
          generalize ss[k] = s at *
          by_cases h5 : 500 < (s.size : Int)
          · have hR : Hid (R = false) := by unfold Hid; rw [hr.out, hst, decide_eq_false (by omega)]; rfl
            clear hr hst
            go_wp2
            go_returns
            exact ⟨rb hR.out.symm, by (repeat' (first | (with_reducible exact Below.refl _ _) | (with_reducible refine Below.app ?_ ?_ _ _) | (with_reducible refine Below.alloc ?_ ?_ _) | (with_reducible refine Below.drew ?_) | (with_reducible refine Below.setCell ?_ ?_ _) | (with_reducible assumption) | omega | (simp; omega) | (simp; done)))⟩
          · have hR : Hid (R = (ss.drop (k + 1)).all fun s => decide (s.size ≤ 500)) := by unfold Hid; rw [hr.out, hst, decide_eq_true (by omega)]; rfl
            clear hr hst
            go_wp2
            go_round
            case rel => exact ⟨k + 1, by omega, by go_num, hR⟩
            case measure => first | (simp [intOf]; done) | (simp [intOf]; omega)
        · have hlti : ¬ (k : Int) < ss.length := by omega
          have hR : Hid (R = true) := by unfold Hid; rw [hr.out, List.drop_of_length_le (by omega)]; rfl
          clear hr
          go_wp2
          go_returns
          exact ⟨rb hR.out.symm, by (repeat' (first | (with_reducible exact Below.refl _ _) | (with_reducible refine Below.app ?_ ?_ _ _) | (with_reducible refine Below.alloc ?_ ?_ _) | (with_reducible refine Below.drew ?_) | (with_reducible refine Below.setCell ?_ ?_ _) | (with_reducible assumption) | omega | (simp; omega) | (simp; done)))⟩
theorem infoInt8 : (Tryd.prog.info? 3).map (fun i => (i.zero, i.size, i.bytes)) = some (some (.int .i64 0), 1, 8) := by kernel_rfl
/-- Codes of a reply twice: two codes. -/
theorem codes_calls (code : Int) (e : ByteArray) (q : Option Addr) (qn qc : Nat) (g : Nat) {w : World} (hg : g < w.heap.size) (h0 : w.cell? ⟨g, 0, none⟩ = some (.int .i64 code)) (h1 : w.cell? ⟨g, 1, none⟩ = some (.string e)) (h2 : w.cell? ⟨g, 2, none⟩ = some (.slice q qn qc)) (h3 : w.cell? ⟨g, 3, none⟩ = some (.int .i64 code)) (h4 : w.cell? ⟨g, 4, none⟩ = some (.string e)) (h5 : w.cell? ⟨g, 5, none⟩ = some (.slice q qn qc)) :
    Calls Tryd.prog 27 #[.slice (some ⟨g, 0, none⟩) 2 2] w fun r w' => ∃ p c, r = .returned (.slice (some ⟨p, 0, none⟩) 2 c) ∧ w'.cell? ⟨p, 1, none⟩ = some (.int .i64 code) ∧ p < w'.heap.size ∧ Below w.heap.size w w' := by
  obtain ⟨i0, hi, hz0, hz1, hz2⟩ := info_parts infoInt8
  have hcs := Lib.hid (fun (W : World) (hW : Below w.heap.size w W) => (show W.cell? ⟨g, 0, none⟩ = some (.int .i64 code) ∧ W.cell? ⟨g, 1, none⟩ = some (.string e) ∧ W.cell? ⟨g, 2, none⟩ = some (.slice q qn qc) ∧ W.cell? ⟨g, 3, none⟩ = some (.int .i64 code) ∧ W.cell? ⟨g, 4, none⟩ = some (.string e) ∧ W.cell? ⟨g, 5, none⟩ = some (.slice q qn qc) ∧ g < W.heap.size from
    ⟨(hW.cell (p := ⟨g, 0, none⟩) hg).trans h0, (hW.cell (p := ⟨g, 1, none⟩) hg).trans h1, (hW.cell (p := ⟨g, 2, none⟩) hg).trans h2, (hW.cell (p := ⟨g, 3, none⟩) hg).trans h3, (hW.cell (p := ⟨g, 4, none⟩) hg).trans h4, (hW.cell (p := ⟨g, 5, none⟩) hg).trans h5, Nat.lt_of_lt_of_le hg hW.size⟩))
  clear hg h0 h1 h2 h3 h4 h5
  go_enter Tryd.func27, Tryd.ntmps27
  go_wp2
  go_loopw [3, 8] (fun v i wr => ∃ k : Nat, k ≤ 2 ∧ i = .int .i64 k ∧ wr.ownsRow w.heap.size 3 1 v k (List.replicate k (.int .i64 code)) ∧ Below w.heap.size w wr) (fun _ i _ => 2 - (intOf i).toNat)
  case atStart => exact ⟨0, by omega, rfl, World.ownsRow_nil _ _ _ _, Below.refl _ _⟩
  case round =>
    obtain ⟨k, hk, rfl, hown, hbw⟩ := hrel
    have hws := hbw.size
    obtain ⟨q0, q1, q2, q3, q4, q5, hgl⟩ := hcs.out wr hbw
    have hk3 : k = 0 ∨ k = 1 ∨ k = 2 := by omega
    rcases hk3 with rfl | rfl | rfl
    · go_wp2_with (at_builtin; refine wpList_append_own _ rfl _ _ 53 rfl w.heap.size 3 i0 (.int .i64 0) 1 8 Tryd.underlying53 hi hz0 hz1 hz2 rfl (by decide) _ _ _ rfl (own_below (w := wr) hown ?c0) _ 1 1 [.int .i64 code] rfl rfl ?c1 ?c2 ?c3 ?c4 ?c5 ?_; (case c0 => (repeat' (first | (with_reducible exact Below.refl _ _) | (with_reducible refine Below.app ?_ ?_ _ _) | (with_reducible refine Below.alloc ?_ ?_ _) | (with_reducible refine Below.drew ?_) | (with_reducible refine Below.setCell ?_ ?_ _) | (with_reducible assumption) | omega | (simp; omega) | (simp; done)))); (case c1 => exact one_new _ _ (by (first | rfl | omega | (simp; done) | (simp; omega))) _ _); (case c2 => (intro u hu; simp at hu; subst hu; rfl)); (case c3 => (unfold maxLen; omega)); (case c4 => omega); (case c5 => (first | rfl | omega | (simp; done) | (simp; omega))); intro v2 w2 hown2 hg2 _; have hb2 := (show Below w.heap.size w _ from hbw.trans (Below.mono (B := wr.heap.size) (by (repeat' (first | (with_reducible exact Below.refl _ _) | (with_reducible refine Below.app ?_ ?_ _ _) | (with_reducible refine Below.alloc ?_ ?_ _) | (with_reducible refine Below.drew ?_) | (with_reducible refine Below.setCell ?_ ?_ _) | (with_reducible assumption) | omega | (simp; omega) | (simp; done)))) hws)).grown hg2 (by (first | rfl | omega | (simp; done) | (simp; omega))) (fun k hk => (hown.lt k hk).1); clear hg2)
      go_roundw
      case rel => exact ⟨1, by omega, by go_num, by simpa using hown2, hb2⟩
      case measure => first | (simp [intOf]; done) | (simp [intOf]; omega)
    · go_wp2_with (at_builtin; refine wpList_append_own _ rfl _ _ 53 rfl w.heap.size 3 i0 (.int .i64 0) 1 8 Tryd.underlying53 hi hz0 hz1 hz2 rfl (by decide) _ _ _ rfl (own_below (w := wr) hown ?c0) _ 1 1 [.int .i64 code] rfl rfl ?c1 ?c2 ?c3 ?c4 ?c5 ?_; (case c0 => (repeat' (first | (with_reducible exact Below.refl _ _) | (with_reducible refine Below.app ?_ ?_ _ _) | (with_reducible refine Below.alloc ?_ ?_ _) | (with_reducible refine Below.drew ?_) | (with_reducible refine Below.setCell ?_ ?_ _) | (with_reducible assumption) | omega | (simp; omega) | (simp; done)))); (case c1 => exact one_new _ _ (by (first | rfl | omega | (simp; done) | (simp; omega))) _ _); (case c2 => (intro u hu; simp at hu; subst hu; rfl)); (case c3 => (unfold maxLen; omega)); (case c4 => omega); (case c5 => (first | rfl | omega | (simp; done) | (simp; omega))); intro v2 w2 hown2 hg2 _; have hb2 := (show Below w.heap.size w _ from hbw.trans (Below.mono (B := wr.heap.size) (by (repeat' (first | (with_reducible exact Below.refl _ _) | (with_reducible refine Below.app ?_ ?_ _ _) | (with_reducible refine Below.alloc ?_ ?_ _) | (with_reducible refine Below.drew ?_) | (with_reducible refine Below.setCell ?_ ?_ _) | (with_reducible assumption) | omega | (simp; omega) | (simp; done)))) hws)).grown hg2 (by (first | rfl | omega | (simp; done) | (simp; omega))) (fun k hk => (hown.lt k hk).1); clear hg2)
      go_roundw
      case rel => exact ⟨2, by omega, by go_num, by simpa using hown2, hb2⟩
      case measure => first | (simp [intOf]; done) | (simp [intOf]; omega)
    · obtain ⟨p, c, rfl⟩ := own_len hown
      rcases hown.2 with ⟨_, hn⟩ | ⟨gg, cp, cur, hvv, _, hgg, _⟩
      · cases hn
      · simp at hvv
        obtain ⟨rfl, rfl⟩ := hvv
        have hlt := (Array.getElem?_eq_some_iff.1 hgg).1
        have hc1 := hown.cells (g := gg) rfl 1 (.int .i64 code) (by simp)
        rw [show (⟨gg, 0, none⟩ : Addr).add 1 = ⟨gg, 1, none⟩ by simp [Addr.add]] at hc1
        replace hc1 := Lib.hid hc1
        clear hown hgg
        go_wp2
        go_returns
        exact ⟨gg, c, rfl, hc1.out, hlt, hbw⟩
end Go.Proofs.YtalkglheaadigaaDoor
