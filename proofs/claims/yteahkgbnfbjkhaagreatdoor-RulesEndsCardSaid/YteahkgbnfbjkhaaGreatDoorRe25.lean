/-
  Quoted, Local, Mailbox, AddrTop, AddrGood, AddrLower.
-/
import Derived.Test.YteahkgbnfbjkhaaGreatDoorRe24
import Derived.Test.YteahkgbnfbjkhaaGreatDoorRe17
import Derived.Lib.ConvBytes
import Derived.Laws.IdiomStrings
set_option maxRecDepth 20000
set_option linter.unusedVariables false
set_option linter.unusedSimpArgs false
set_option linter.unusedSectionVars false
namespace Go.Proofs.YteahkgbnfbjkhaaGreatDoor
open Go.ChangeShapes Go.WideShapes Go.ChangeAt Go.RowKit
end Go.Proofs.YteahkgbnfbjkhaaGreatDoor
set_option maxRecDepth 20000
set_option linter.unusedVariables false
set_option linter.unusedSimpArgs false
set_option linter.unusedSectionVars false
namespace Go.Proofs.YteahkgbnfbjkhaaGreatDoor
open Go.ChangeShapes Go.WideShapes Go.ChangeAt Go.RowKit
theorem aextract_list (s : ByteArray) (n k : Nat) : s.extract n (n + k) = ⟨((s.data.toList.drop n).take k).toArray⟩ := by
 apply ByteArray.ext
 apply Array.ext'
 rw [ByteArray.data_extract, Array.toList_extract, List.extract_eq_take_drop]
 simp
theorem size_bytes (t : List UInt8) : (⟨t.toArray⟩ : ByteArray).size = t.length := by simp [ByteArray.size]
end Go.Proofs.YteahkgbnfbjkhaaGreatDoor
set_option maxRecDepth 20000
set_option linter.unusedVariables false
set_option linter.unusedSimpArgs false
set_option linter.unusedSectionVars false
namespace Go.Proofs.YteahkgbnfbjkhaaGreatDoor
open Go.ChangeShapes Go.WideShapes Go.ChangeAt Go.RowKit
end Go.Proofs.YteahkgbnfbjkhaaGreatDoor
set_option maxRecDepth 20000
set_option linter.unusedVariables false
set_option linter.unusedSimpArgs false
set_option linter.unusedSectionVars false
namespace Go.Proofs.YteahkgbnfbjkhaaGreatDoor
open Go.ChangeShapes Go.WideShapes Go.ChangeAt Go.RowKit
theorem rd_alloc_at (w : World) (b : Nat) (c c' : Array Value) (T : TypeId) (h : b = w.heap.size) : rd (w.alloc (.cells c T)) b c' = w.alloc (.cells c' T) := by subst h; exact rd_alloc_own w c c' T
attribute [go_sem] rd_alloc_at
def domainB (l : List UInt8) : Bool := domP l == some l.length && decide (l.length ≤ 64)
theorem domP_le {l : List UInt8} {k : Nat} (h : domP l = some k) : k ≤ l.length := by
 have hT : ∀ m (l : List UInt8), l.length ≤ m → ∀ k, domT l = some k → k ≤ l.length := by
  intro m
  induction m with
  | zero => intro l hl k h; obtain rfl : l = [] := List.eq_nil_of_length_eq_zero (by omega); rw [domT] at h; cases h; simp
  | succ m ih =>
   intro l hl k h
   match l, h with
   | [], h => rw [domT] at h; cases h; simp
   | c :: r, h =>
    rw [domT] at h
    split at h
    · split at h
      · have hs := spanLen_le labelB r
        cases hx : domT (r.drop (spanLen labelB r)) with
        | none => rw [hx] at h; cases h
        | some y =>
         rw [hx] at h
         have := ih (r.drop (spanLen labelB r)) (by simp at hl ⊢; omega) y hx
         simp at h this ⊢
         omega
      · cases h
    · cases h; simp
 unfold domP at h
 split at h
 · have hs := spanLen_le labelB l
   cases hx : domT (l.drop (spanLen labelB l)) with
   | none => rw [hx] at h; cases h
   | some y =>
    rw [hx] at h
    have := hT _ _ (Nat.le_refl _) y hx
    simp at h this
    omega
 · cases h
set_option maxHeartbeats 2000000 in
theorem domain_calls (s : ByteArray) (hs : s.size ≤ 140000000000000) (w : World) : Calls Tryz.prog 65 #[.string s] w fun r w' => r = .returned (.bool (domainB s.data.toList)) ∧ Below w.heap.size w w' := by
 have hlen : s.data.toList.length = s.size := by simp
 have hrow := RowIs.new_at w #[.string s, .int .i64 0, .bool false] 141 _ rfl
 unfold domainB
 rw [hlen]
 cases hp : domP s.data.toList with
 | none =>
  have hd := domain_no 0 hp rfl (Nat.zero_le _) (by omega) hrow
  rw [show ((none : Option Nat) == some s.size) = false from rfl, Bool.false_and]
  clear hp hrow hlen
  replace hd := Lib.hid hd
  go_enter Tryz.func65, Tryz.ntmps65
  go_wp2_with (go_at_call 133; ((refine hd.out.mono ?_); rintro r w1 ⟨n2, lg2, hn2, rfl, bs3, d3, rfl⟩))
  go_returns
  exact ⟨rfl, by (repeat' (first | (with_reducible exact Below.refl _ _) | (with_reducible refine Below.app ?_ ?_ _ _) | (with_reducible refine Below.alloc ?_ ?_ _) | (with_reducible refine Below.drew ?_) | (with_reducible refine Below.setCell ?_ ?_ _) | (with_reducible assumption) | omega | (simp; omega) | (simp; done)))⟩
 | some k =>
  have hd := domain_yes 0 k hp rfl (Nat.zero_le _) (by omega) hrow
  have hk := domP_le hp
  rw [hlen] at hk
  have he : ((some k : Option Nat) == some s.size) = decide (k = s.size) := by rw [Bool.eq_iff_iff]; simp
  rw [he]
  rw [Nat.zero_add, Bool.false_or] at hd
  clear hp hrow hlen he
  by_cases hks : k = s.size
  · subst hks
    replace hd := Lib.hid hd
    go_enter Tryz.func65, Tryz.ntmps65
    go_wp2_with (go_at_call 133; ((refine hd.out.mono ?_); rintro r w1 ⟨rfl, bs3, d3, rfl⟩))
    all_goals
     go_returns
     refine ⟨rb ?_, by (repeat' (first | (with_reducible exact Below.refl _ _) | (with_reducible refine Below.app ?_ ?_ _ _) | (with_reducible refine Below.alloc ?_ ?_ _) | (with_reducible refine Below.drew ?_) | (with_reducible refine Below.setCell ?_ ?_ _) | (with_reducible assumption) | omega | (simp; omega) | (simp; done)))⟩
     go_light
     first | (simp; done) | (rw [Bool.eq_iff_iff]; simp; omega)
  · have hks' : ((k : Int) == (s.size : Int)) = false := by simp; omega
    have hks2 : ¬ (k : Int) = s.size := by omega
    rw [decide_eq_false hks]
    replace hd := Lib.hid hd
    go_enter Tryz.func65, Tryz.ntmps65
    go_wp2_with (go_at_call 133; ((refine hd.out.mono ?_); rintro r w1 ⟨rfl, bs3, d3, rfl⟩))
    all_goals
     go_returns
     exact ⟨rfl, by (repeat' (first | (with_reducible exact Below.refl _ _) | (with_reducible refine Below.app ?_ ?_ _ _) | (with_reducible refine Below.alloc ?_ ?_ _) | (with_reducible refine Below.drew ?_) | (with_reducible refine Below.setCell ?_ ?_ _) | (with_reducible assumption) | omega | (simp; omega) | (simp; done)))⟩
end Go.Proofs.YteahkgbnfbjkhaaGreatDoor
set_option maxRecDepth 20000
set_option linter.unusedVariables false
set_option linter.unusedSimpArgs false
set_option linter.unusedSectionVars false
namespace Go.Proofs.YteahkgbnfbjkhaaGreatDoor
open Go.ChangeShapes Go.WideShapes Go.ChangeAt Go.RowKit
def goodB (x y : ByteArray) : Bool := x.data.toList.all plainB && (!x.data.toList.isEmpty && decide (x.size ≤ 64) && domainB y.data.toList)
set_option maxHeartbeats 4000000 in
theorem good_calls (x y : ByteArray) (hx : x.size ≤ 140000000000000) (hy : y.size ≤ 140000000000000) (w : World) : Calls Tryz.prog 66 #[.agg #[.string x, .string y]] w fun r w' => r = .returned (.bool (goodB x y)) ∧ Below w.heap.size w w' := by
 obtain ⟨W, cap, hconv, hcell, hbel⟩ := bytes_of (w.alloc (.cells #[.string x, .string y] 26)) x
 have hlen : x.data.toList.length = x.size := by simp
 have hsz : (w.alloc (.cells #[.string x, .string y] 26)).heap.size = w.heap.size + 1 := by simp
 rw [hsz] at hconv hcell
 clear hsz
 have hbel2 : Below w.heap.size w W := by
  have := hbel.mono (show w.heap.size ≤ (w.alloc (.cells #[.string x, .string y] 26)).heap.size by simp)
  exact (by (repeat' (first | (with_reducible exact Below.refl _ _) | (with_reducible refine Below.app ?_ ?_ _ _) | (with_reducible refine Below.alloc ?_ ?_ _) | (with_reducible refine Below.drew ?_) | (with_reducible refine Below.setCell ?_ ?_ _) | (with_reducible assumption) | omega | (simp; omega) | (simp; done))) : Below w.heap.size w (w.alloc (.cells #[.string x, .string y] 26))).trans this
 have hc0 : W.cell? ⟨w.heap.size, 0, none⟩ = some (.string x) := (hbel.cell (p := ⟨w.heap.size, 0, none⟩) (by simp)).trans (by go_simp)
 have hc1 : W.cell? ⟨w.heap.size, 1, none⟩ = some (.string y) := (hbel.cell (p := ⟨w.heap.size, 1, none⟩) (by simp)).trans (by go_simp)
 have hz : w.heap.size < W.heap.size := by have := hbel.size; simp at this; omega
 clear hbel
 have hdc := Lib.hid (domain_calls y hy)
 go_enter Tryz.func66, Tryz.ntmps66
 go_wp2
 go_loop [9] (fun i => ∃ k : Nat, k ≤ x.size ∧ i = .int .i64 k ∧ Hid (goodB x y = ((x.data.toList.drop k).all plainB && (!x.data.toList.isEmpty && decide (x.size ≤ 64) && domainB y.data.toList)))) (fun i => x.size - (intOf i).toNat)
 case atStart => exact ⟨0, by omega, rfl, by unfold Hid; rw [List.drop_zero]; rfl⟩
 case round =>
  obtain ⟨k, hk, rfl, hr⟩ := hrel
  by_cases hlt : k < x.size
  · have hce := hcell k hlt
    have had := @all_drop plainB x.data.toList k (by omega)
    have hgk : x.data.toList[k]'(by omega) = x[k] := rfl
    rw [hgk] at had
    have hpc := plain_calls x[k]
    clear hcell
    by_cases hp : plainB x[k] = true
    · have hr' : Hid (goodB x y = ((x.data.toList.drop (k + 1)).all plainB && (!x.data.toList.isEmpty && decide (x.size ≤ 64) && domainB y.data.toList))) := by unfold Hid; rw [hr.out, had, hp, Bool.true_and]
      rw [hp] at hpc
      clear had hgk hp hr
      replace hpc := Lib.hid hpc
      go_wp2_with (go_at_call 134; ((with_reducible refine (hpc.out _).mono ?_); rintro _ _ ⟨rfl, rfl⟩))
      go_round
      case rel => exact ⟨k + 1, by omega, by go_num, hr'⟩
      case measure => simp [intOf]; omega
    · rw [Bool.not_eq_true] at hp
      have hr' : Hid (goodB x y = false) := by unfold Hid; rw [hr.out, had, hp]; rfl
      rw [hp] at hpc
      clear had hgk hp hr
      replace hpc := Lib.hid hpc
      go_wp2_with (go_at_call 134; ((with_reducible refine (hpc.out _).mono ?_); rintro _ _ ⟨rfl, rfl⟩))
      go_returns
      exact ⟨rb hr'.out.symm, hbel2⟩
  · have hke : k = x.size := by omega
    subst hke
    have hr' : Hid (goodB x y = (!x.data.toList.isEmpty && decide (x.size ≤ 64) && domainB y.data.toList)) := by unfold Hid; rw [hr.out, List.drop_of_length_le (by omega)]; rfl
    have hxl : Hid (x.toList = x.data.toList) := by unfold Hid; exact (ByteArray.toList_mk x.data.toList)
    clear hr hcell
    obtain ⟨cs, e, rfl⟩ := of_below hbel2
    go_wp2_with (go_at_call 65; ((refine (hdc.out _).mono ?_); rintro r w1 ⟨rfl, hb⟩; obtain ⟨b1, b1d, rfl⟩ := of_below hb; clear hb))
    all_goals
     go_returns
     refine ⟨rb ?_, by (repeat' (first | (with_reducible exact Below.refl _ _) | (with_reducible refine Below.app ?_ ?_ _ _) | (with_reducible refine Below.alloc ?_ ?_ _) | (with_reducible refine Below.drew ?_) | (with_reducible refine Below.setCell ?_ ?_ _) | (with_reducible assumption) | omega | (simp; omega) | (simp; done)))⟩
     have hd64 : decide (x.size ≤ 64) = decide ((x.size : Int) ≤ 64) := by rw [decide_eq_decide]; omega
     rw [hr'.out, ← hxl.out, hd64]
     go_light
     first | (simp_all; done) | (simp_all; omega) | (rw [Bool.eq_iff_iff]; simp_all; done)
end Go.Proofs.YteahkgbnfbjkhaaGreatDoor
set_option maxRecDepth 20000
set_option linter.unusedVariables false
set_option linter.unusedSimpArgs false
set_option linter.unusedSectionVars false
namespace Go.Proofs.YteahkgbnfbjkhaaGreatDoor
open Go.ChangeShapes Go.WideShapes Go.ChangeAt Go.RowKit
end Go.Proofs.YteahkgbnfbjkhaaGreatDoor
