/-
  clock.Parse.
-/
import Derived.Test.YtbnghchniboggaaSuffix
import Derived.Test.YtbnghchniboggaaPlace
import Derived.Test.YtbnghchniboggaaNumber
import Derived.Test.YtbnghchniboggaaClockSec
import Derived.Lib.SlBytesConst
namespace Go.Proofs.Ytbnghchniboggaa
open Go.ChangeShapes Go.WideShapes Go.ChangeAt Go.RowKit

def formL : List Int := [119, 119, 119, 44, 32, 100, 100, 32, 109, 109, 109, 32, 121, 121, 121, 121, 32, 104, 104, 58, 109, 109, 58, 115, 115, 32, 43, 48, 48, 48, 48]
theorem form_cells (k : Nat) (h : k < 31) : (#[.int .u8 119, .int .u8 119, .int .u8 119, .int .u8 44, .int .u8 32, .int .u8 100, .int .u8 100, .int .u8 32, .int .u8 109, .int .u8 109, .int .u8 109, .int .u8 32, .int .u8 121, .int .u8 121, .int .u8 121, .int .u8 121, .int .u8 32, .int .u8 104, .int .u8 104, .int .u8 58, .int .u8 109, .int .u8 109, .int .u8 58, .int .u8 115, .int .u8 115, .int .u8 32, .int .u8 43, .int .u8 48, .int .u8 48, .int .u8 48, .int .u8 48] : Array Value)[k]? = some (.int .u8 (formL.getD k 0)) := by
  have e : (#[.int .u8 119, .int .u8 119, .int .u8 119, .int .u8 44, .int .u8 32, .int .u8 100, .int .u8 100, .int .u8 32, .int .u8 109, .int .u8 109, .int .u8 109, .int .u8 32, .int .u8 121, .int .u8 121, .int .u8 121, .int .u8 121, .int .u8 32, .int .u8 104, .int .u8 104, .int .u8 58, .int .u8 109, .int .u8 109, .int .u8 58, .int .u8 115, .int .u8 115, .int .u8 32, .int .u8 43, .int .u8 48, .int .u8 48, .int .u8 48, .int .u8 48] : Array Value) = (formL.map (Value.int .u8)).toArray := rfl
  rw [e]
  have hl : formL.length = 31 := rfl
  simp [List.getD, hl, h]
def isMark (c : Int) : Prop := c = 44 ∨ c = 32 ∨ c = 58
def markAt (s : ByteArray) (j : Nat) : Prop := isMark (formL.getD j 0) → ((s.data.toList.getD j 0).toNat : Int) = formL.getD j 0
def marksOk (s : ByteArray) : Prop := ∀ j, j < 31 → markAt s j

set_option maxRecDepth 20000 in
set_option maxHeartbeats 8000000 in
theorem parse_short (s : ByteArray) (hs : s.size ≠ 31) (_hl : s.size ≤ 9223372036854775807) (w : World) : Calls Try.prog 23 #[.string s] w fun r w' => r = .returned (.tuple #[.int .i64 0, .bool false]) ∧ Below w.heap.size w w' := by
  have hs' : ¬ (s.size : Int) = 31 := by omega
  go_enter Try.func23, Try.ntmps23
  go_wp2
  go_returns; exact ⟨rfl, by (repeat' (first | (with_reducible exact Below.refl _ _) | (with_reducible refine Below.app ?_ ?_ _ _) | (with_reducible refine Below.alloc ?_ ?_ _) | (with_reducible refine Below.drew ?_) | (with_reducible refine Below.setCell ?_ ?_ _) | (with_reducible assumption) | omega | (simp; omega) | (simp; done)))⟩

set_option maxRecDepth 20000 in
set_option maxHeartbeats 8000000 in
theorem parse_zone (s : ByteArray) (hs : s.size = 31) (hz : ¬ s.extract 25 31 = zoneB) (w : World) : Calls Try.prog 23 #[.string s] w fun r w' => r = .returned (.tuple #[.int .i64 0, .bool false]) ∧ Below w.heap.size w w' := by
  have hc := suffix_calls s hs
  rw [decide_eq_false hz] at hc
  replace hc := Lib.hid hc
  go_enter Try.func23, Try.ntmps23
  go_wp2_with (go_at_call 36; ((refine (hc.out _).mono ?_); rintro r w1 ⟨rfl, rfl⟩))
  go_returns; exact ⟨rfl, by (repeat' (first | (with_reducible exact Below.refl _ _) | (with_reducible refine Below.app ?_ ?_ _ _) | (with_reducible refine Below.alloc ?_ ?_ _) | (with_reducible refine Below.drew ?_) | (with_reducible refine Below.setCell ?_ ?_ _) | (with_reducible assumption) | omega | (simp; omega) | (simp; done)))⟩

set_option maxRecDepth 20000 in
set_option maxHeartbeats 8000000 in
theorem parse_marks (s : ByteArray) (hs : s.size = 31) (hz : s.extract 25 31 = zoneB) (hm : ¬ marksOk s) (w : World) : Calls Try.prog 23 #[.string s] w fun r w' => r = .returned (.tuple #[.int .i64 0, .bool false]) ∧ Below w.heap.size w w' := by
  have hc := suffix_calls s hs
  rw [decide_eq_true hz] at hc
  replace hc := Lib.hid hc
  have kc := fun (w : World) (C : Array Value) (n c : Nat) => Lib.run_convert_bytes_const (P := Try.prog) w 64 5 C n c rfl rfl
  go_enter Try.func23, Try.ntmps23
  go_wp2_with (go_at_call 36; ((refine (hc.out _).mono ?_); rintro r w1 ⟨rfl, rfl⟩))
  generalize hW : w.alloc (.cells #[.int .u8 119, .int .u8 119, .int .u8 119, .int .u8 44, .int .u8 32, .int .u8 100, .int .u8 100, .int .u8 32, .int .u8 109, .int .u8 109, .int .u8 109, .int .u8 32, .int .u8 121, .int .u8 121, .int .u8 121, .int .u8 121, .int .u8 32, .int .u8 104, .int .u8 104, .int .u8 58, .int .u8 109, .int .u8 109, .int .u8 58, .int .u8 115, .int .u8 115, .int .u8 32, .int .u8 43, .int .u8 48, .int .u8 48, .int .u8 48, .int .u8 48] 5 (31, 32)) = W
  have hbel : Below w.heap.size w W := by rw [← hW]; (repeat' (first | (with_reducible exact Below.refl _ _) | (with_reducible refine Below.app ?_ ?_ _ _) | (with_reducible refine Below.alloc ?_ ?_ _) | (with_reducible refine Below.drew ?_) | (with_reducible refine Below.setCell ?_ ?_ _) | (with_reducible assumption) | omega | (simp; omega) | (simp; done)))
  have hcell : ∀ k, k < 31 → W.cell? ⟨w.heap.size, k, none⟩ = some (.int .u8 (formL.getD k 0)) := fun k hk => by
    rw [← hW, World.cell?_alloc_mark, form_cells k hk]
  clear hW
  go_loop [18] (fun i => ∃ k : Nat, k ≤ 31 ∧ i = .int .i64 k ∧ Hid (∀ j, j < k → markAt s j)) (fun i => 31 - (intOf i).toNat)
  case atStart => exact ⟨0, by omega, rfl, fun j hj => absurd hj (by omega)⟩
  case round =>
    obtain ⟨k, hk, rfl, hr⟩ := hrel
    by_cases hlt : k < 31
    · have hce := hcell k hlt
      clear hcell
      have hst : Hid (markAt s k → ∀ j, j < k + 1 → markAt s j) := fun h j hj => if e : j = k then e ▸ h else hr.out j (by omega)
      have hks : k < s.size := by omega
      have hgd : s.data.toList.getD k 0 = s[k] := by simp [List.getD, hks]; rfl
      unfold markAt at hst
      rw [hgd] at hst
      generalize formL.getD k 0 = c at *
      go_wp2
      all_goals first
        | (go_returns; exact ⟨rfl, hbel⟩)
        | (go_round
           case rel => exact ⟨k + 1, by omega, by go_num, hst.out (fun hi => by unfold isMark at hi; go_light; simp at *; omega)⟩
           case measure => simp [intOf]; omega)
    · exact absurd (fun j hj => hr.out j (by omega)) hm
end Go.Proofs.Ytbnghchniboggaa
