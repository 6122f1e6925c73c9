/-
  The numbers that digits tell: clock.number and its reference.
-/
import Derived.Test.YtbnghchniboggaaProg
import Derived.Test.YtbnghchniboggaaBase
import Derived.Lib.ConvBytes
import Derived.Laws.IdiomStrings
namespace Go.Proofs.Ytbnghchniboggaa
open Go.ChangeShapes Go.WideShapes Go.ChangeAt Go.RowKit

def numGo : List UInt8 → Int → Int
  | [], v => v
  | c :: r, v => if (c.toNat : Int) < 48 ∨ 57 < (c.toNat : Int) then -1 else numGo r (10 * v + c.toNat - 48)
def numOf (s : ByteArray) : Int := numGo s.data.toList 0
def pw : Nat → Int
  | 0 => 0 | 1 => 9 | 2 => 99 | 3 => 999 | _ => 9999
theorem pw_step {k : Nat} (h : k < 4) : 10 * pw k + 9 ≤ pw (k + 1) := by
  match k, h with
  | 0, _ | 1, _ | 2, _ | 3, _ => decide
theorem pw_le (k : Nat) : pw k ≤ 9999 := by unfold pw; split <;> decide

set_option maxRecDepth 20000 in
set_option maxHeartbeats 4000000 in
theorem rnumber_calls (s : ByteArray) (hs : s.size ≤ 4) (w : World) : Calls Try.prog 40 #[.string s] w fun r w' => r = .returned (.int .i64 (numOf s)) ∧ w = w' := by
  go_enter Try.func40, Try.ntmps40
  go_wp2
  go_loop [3, 4] (fun v i => ∃ (k : Nat) (x : Int), k ≤ s.size ∧ i = .int .i64 k ∧ v = .int .i64 x ∧ 0 ≤ x ∧ x ≤ pw k ∧ Hid (numGo (s.data.toList.drop k) x = numOf s)) (fun _ i => s.size - (intOf i).toNat)
  case atStart => exact ⟨0, 0, by omega, rfl, rfl, by omega, by decide, rfl⟩
  case round =>
    obtain ⟨k, x, hk, rfl, rfl, hx0, hx1, hr⟩ := hrel
    by_cases hlt : k < s.size
    · have hp := Lib.hid (pw_step (k := k) (by omega))
      have hq : x ≤ 9999 := by have := pw_le k; omega
      replace hx1 := Lib.hid hx1
      have hds : Hid (s.data.toList.drop k = s[k] :: s.data.toList.drop (k + 1)) := by
        unfold Hid; rw [List.drop_eq_getElem_cons (by simpa using hlt)]; rfl
      have hb : (s[k].toNat : Int) < 256 := by have := s[k].toNat_lt; omega
      by_cases h1 : (s[k].toNat : Int) < 48 ∨ 57 < (s[k].toNat : Int)
      · have hf : Hid (-1 = numOf s) := by unfold Hid; rw [← hr.out, hds.out, numGo, if_pos h1]
        rcases h1 with h1 | h1
        all_goals
          go_wp2
          go_returns
          exact ⟨ri hf.out, rfl⟩
      · have h2 : 48 ≤ (s[k].toNat : Int) := by omega
        have h3 : (s[k].toNat : Int) ≤ 57 := by omega
        have hf : Hid (numGo (s.data.toList.drop (k + 1)) (10 * x + s[k].toNat - 48) = numOf s) := by unfold Hid; rw [← hr.out, hds.out, numGo, if_neg h1]
        clear h1
        go_wp2
        go_round
        case rel => exact ⟨k + 1, _, by omega, by go_num, rfl, by omega, by have := hp.out; have := hx1.out; omega, hf⟩
        case measure => simp [intOf]; omega
    · go_wp2
      go_returns
      exact ⟨ri (by rw [← hr.out, List.drop_of_length_le (by simp; omega)]; rfl), rfl⟩

/-- '[]byte(s)': a new row that holds the bytes. -/
theorem bytes_of (w : World) (s : ByteArray) : ∃ W cap, (convert 9 64 (.string s)).run Try.prog w = .ok (.slice (some ⟨w.heap.size, 0, none⟩) s.size cap) W ∧
    (∀ j (h : j < s.size), W.cell? ⟨w.heap.size, j, none⟩ = some (.int .u8 (s[j].toNat : Int))) ∧ Below w.heap.size w W := by
  refine ⟨_, _, run_bytes_of_string (P := Try.prog) w 9 64 5 s rfl rfl rfl, fun j h => ?_, by (repeat' (first | (with_reducible exact Below.refl _ _) | (with_reducible refine Below.app ?_ ?_ _ _) | (with_reducible refine Below.alloc ?_ ?_ _) | (with_reducible refine Below.drew ?_) | (with_reducible refine Below.setCell ?_ ?_ _) | (with_reducible assumption) | omega | (simp; omega) | (simp; done)))⟩
  exact (World.cell?_alloc_mark w.drew _ _ _ j).trans (bytesRow_at s _ j h)
set_option maxRecDepth 20000 in
set_option maxHeartbeats 4000000 in
theorem number_calls (s : ByteArray) (hs : s.size ≤ 4) (w : World) : Calls Try.prog 38 #[.string s] w fun r w' => r = .returned (.int .i64 (numOf s)) ∧ Below w.heap.size w w' := by
  obtain ⟨W, cap, hconv, hcell, hbel⟩ := bytes_of w s
  go_enter Try.func38, Try.ntmps38
  go_wp2
  go_loop [3, 9] (fun v i => ∃ (k : Nat) (x : Int), k ≤ s.size ∧ i = .int .i64 k ∧ v = .int .i64 x ∧ 0 ≤ x ∧ x ≤ pw k ∧ Hid (numGo (s.data.toList.drop k) x = numOf s)) (fun _ i => s.size - (intOf i).toNat)
  case atStart => exact ⟨0, 0, by omega, rfl, rfl, by omega, by decide, rfl⟩
  case round =>
    obtain ⟨k, x, hk, rfl, rfl, hx0, hx1, hr⟩ := hrel
    by_cases hlt : k < s.size
    · have hp := Lib.hid (pw_step (k := k) (by omega))
      have hq : x ≤ 9999 := by have := pw_le k; omega
      replace hx1 := Lib.hid hx1
      have hds : Hid (s.data.toList.drop k = s[k] :: s.data.toList.drop (k + 1)) := by
        unfold Hid; rw [List.drop_eq_getElem_cons (by simpa using hlt)]; rfl
      have hb : (s[k].toNat : Int) < 256 := by have := s[k].toNat_lt; omega
      by_cases h1 : (s[k].toNat : Int) < 48 ∨ 57 < (s[k].toNat : Int)
      · have hf : Hid (-1 = numOf s) := by unfold Hid; rw [← hr.out, hds.out, numGo, if_pos h1]
        rcases h1 with h1 | h1
        all_goals
          go_wp2
          go_returns
          exact ⟨ri hf.out, hbel⟩
      · have h2 : 48 ≤ (s[k].toNat : Int) := by omega
        have h3 : (s[k].toNat : Int) ≤ 57 := by omega
        have hf : Hid (numGo (s.data.toList.drop (k + 1)) (10 * x + s[k].toNat - 48) = numOf s) := by unfold Hid; rw [← hr.out, hds.out, numGo, if_neg h1]
        clear h1
        go_wp2
        go_round
        case rel => exact ⟨k + 1, _, by omega, by go_num, rfl, by omega, by have := hp.out; have := hx1.out; omega, by unfold Hid; rw [← hf.out]; congr 1; omega⟩
        case measure => simp [intOf]; omega
    · go_wp2
      go_returns
      exact ⟨ri (by rw [← hr.out, List.drop_of_length_le (by simp; omega)]; rfl), hbel⟩
end Go.Proofs.Ytbnghchniboggaa
