/-
  addr.Good, addr.lower: what they give; '[]byte(s)'.
-/
import Derived.Test.YtnbllnnbdopjoaaAddrTop
import Derived.Lib.ConvBytes
import Derived.Laws.IdiomStrings
namespace Go.Proofs.Ytnbllnnbdopjoaa
open Go.ChangeShapes Go.WideShapes Go.ChangeAt Go.RowKit

/-- '[]byte(s)': a new row that holds the bytes. -/
theorem bytes_of (w : World) (s : ByteArray) : ∃ W cap, (convert 9 56 (.string s)).run Try.prog w = .ok (.slice (some ⟨w.heap.size, 0, none⟩) s.size cap) W ∧
    (∀ j (h : j < s.size), W.cell? ⟨w.heap.size, j, none⟩ = some (.int .u8 (s[j].toNat : Int))) ∧ Below w.heap.size w W := by
  refine ⟨_, _, run_bytes_of_string (P := Try.prog) w 9 56 5 s rfl rfl rfl, fun j h => ?_, by (repeat' (first | (with_reducible exact Below.refl _ _) | (with_reducible refine Below.app ?_ ?_ _ _) | (with_reducible refine Below.alloc ?_ ?_ _) | (with_reducible refine Below.drew ?_) | (with_reducible refine Below.setCell ?_ ?_ _) | (with_reducible assumption) | omega | (simp; omega) | (simp; done)))⟩
  exact (World.cell?_alloc_mark w.drew _ _ _ j).trans (bytesRow_at s _ j h)

def goodB (x y : ByteArray) : Bool := x.data.toList.all plainB && (!x.data.toList.isEmpty && decide (x.size ≤ 64) && domainB y.data.toList)
theorem all_drop {f : UInt8 → Bool} {l : List UInt8} {k : Nat} (h : k < l.length) : (l.drop k).all f = (f l[k] && (l.drop (k + 1)).all f) := by
  rw [List.drop_eq_getElem_cons h, List.all_cons]

set_option maxHeartbeats 4000000 in
theorem good_calls (x y : ByteArray) (hx : x.size ≤ 140000000000000) (hy : y.size ≤ 140000000000000) (w : World) : Calls Try.prog 17 #[.agg #[.string x, .string y]] w fun r w' => r = .returned (.bool (goodB x y)) ∧ Below w.heap.size w w' := by
  obtain ⟨W, cap, hconv, hcell, hbel⟩ := bytes_of (w.alloc (.cells #[.string x, .string y] 24)) x
  have hlen : x.data.toList.length = x.size := by simp
  have hsz : (w.alloc (.cells #[.string x, .string y] 24)).heap.size = w.heap.size + 1 := by simp
  rw [hsz] at hconv hcell
  clear hsz
  have hbel2 : Below w.heap.size w W := by
    have := hbel.mono (show w.heap.size ≤ (w.alloc (.cells #[.string x, .string y] 24)).heap.size by simp)
    exact (by (repeat' (first | (with_reducible exact Below.refl _ _) | (with_reducible refine Below.app ?_ ?_ _ _) | (with_reducible refine Below.alloc ?_ ?_ _) | (with_reducible refine Below.drew ?_) | (with_reducible refine Below.setCell ?_ ?_ _) | (with_reducible assumption) | omega | (simp; omega) | (simp; done))) : Below w.heap.size w (w.alloc (.cells #[.string x, .string y] 24))).trans this
  have hc0 : W.cell? ⟨w.heap.size, 0, none⟩ = some (.string x) := (hbel.cell (p := ⟨w.heap.size, 0, none⟩) (by simp)).trans (by go_simp)
  have hc1 : W.cell? ⟨w.heap.size, 1, none⟩ = some (.string y) := (hbel.cell (p := ⟨w.heap.size, 1, none⟩) (by simp)).trans (by go_simp)
  have hz : w.heap.size < W.heap.size := by have := hbel.size; simp at this; omega
  clear hbel
  have hdc := Lib.hid (domain_calls y hy)
  go_enter Try.func17, Try.ntmps17
  go_wp2
  go_loop [9] (fun i => ∃ k : Nat, k ≤ x.size ∧ i = .int .i64 k ∧ Hid (goodB x y = ((x.data.toList.drop k).all plainB && (!x.data.toList.isEmpty && decide (x.size ≤ 64) && domainB y.data.toList)))) (fun i => x.size - (intOf i).toNat)
  case atStart => exact ⟨0, by omega, rfl, by unfold Hid; rw [List.drop_zero]; rfl⟩
  case round =>
    obtain ⟨k, hk, rfl, hr⟩ := hrel
    by_cases hlt : k < x.size
    · have hce := hcell k hlt
      have had := @all_drop plainB x.data.toList k (by omega)
      have hgk : x.data.toList[k]'(by omega) = x[k] := rfl
      rw [hgk] at had
      have hpc := plain_calls x[k]
      clear hcell
      by_cases hp : plainB x[k] = true
      · have hr' : Hid (goodB x y = ((x.data.toList.drop (k + 1)).all plainB && (!x.data.toList.isEmpty && decide (x.size ≤ 64) && domainB y.data.toList))) := by unfold Hid; rw [hr.out, had, hp, Bool.true_and]
        rw [hp] at hpc
        clear had hgk hp hr
        replace hpc := Lib.hid hpc
        go_wp2_with (go_at_call 34; ((with_reducible refine (hpc.out _).mono ?_); rintro _ _ ⟨rfl, rfl⟩))
        go_round
        case rel => exact ⟨k + 1, by omega, by go_num, hr'⟩
        case measure => simp [intOf]; omega
      · rw [Bool.not_eq_true] at hp
        have hr' : Hid (goodB x y = false) := by unfold Hid; rw [hr.out, had, hp]; rfl
        rw [hp] at hpc
        clear had hgk hp hr
        replace hpc := Lib.hid hpc
        go_wp2_with (go_at_call 34; ((with_reducible refine (hpc.out _).mono ?_); rintro _ _ ⟨rfl, rfl⟩))
        go_returns
        exact ⟨rb hr'.out.symm, hbel2⟩
    · have hke : k = x.size := by omega
      subst hke
      have hr' : Hid (goodB x y = (!x.data.toList.isEmpty && decide (x.size ≤ 64) && domainB y.data.toList)) := by unfold Hid; rw [hr.out, List.drop_of_length_le (by omega)]; rfl
      have hxl : Hid (x.toList = x.data.toList) := by unfold Hid; exact (ByteArray.toList_mk x.data.toList)
      clear hr hcell
      obtain ⟨cs, e, rfl⟩ := of_below hbel2
      go_wp2_with (go_at_call 13; ((refine (hdc.out _).mono ?_); rintro r w1 ⟨rfl, hb⟩; obtain ⟨b1, b1d, rfl⟩ := of_below hb; clear hb))
      all_goals
        go_returns
        refine ⟨rb ?_, by (repeat' (first | (with_reducible exact Below.refl _ _) | (with_reducible refine Below.app ?_ ?_ _ _) | (with_reducible refine Below.alloc ?_ ?_ _) | (with_reducible refine Below.drew ?_) | (with_reducible refine Below.setCell ?_ ?_ _) | (with_reducible assumption) | omega | (simp; omega) | (simp; done)))⟩
        have hd64 : decide (x.size ≤ 64) = decide ((x.size : Int) ≤ 64) := by rw [decide_eq_decide]; omega
        rw [hr'.out, ← hxl.out, hd64]
        go_light
        first | (simp_all; done) | (simp_all; omega) | (rw [Bool.eq_iff_iff]; simp_all; done)
end Go.Proofs.Ytnbllnnbdopjoaa
