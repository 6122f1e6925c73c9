/-
  The place of a word: clock.place and its reference 'find'.
-/
import Derived.Test.YtbnghchniboggaaWords
import Derived.Lib.SlicesS
namespace Go.Proofs.Ytbnghchniboggaa
open Go.ChangeShapes Go.WideShapes Go.ChangeAt Go.RowKit

def placeGo (f : Nat → ByteArray) (s : ByteArray) : Nat → Nat → Int
  | 0, _ => -1
  | m + 1, k => if f k = s then k else placeGo f s m (k + 1)
def placeOf (n : Nat) (f : Nat → ByteArray) (s : ByteArray) : Int := placeGo f s n 0

set_option maxRecDepth 20000 in
set_option maxHeartbeats 4000000 in
theorem place_calls (n : Nat) (hn : n ≤ 100) (f : Nat → ByteArray) (s : ByteArray) (v : Value) (w : World) (hv : WordsAt n f v w) : Calls Try.prog 37 #[v, .string s] w fun r w' => r = .returned (.int .i64 (placeOf n f s)) ∧ w = w' := by
  obtain ⟨b, rfl, hb, hc⟩ := hv
  go_enter Try.func37, Try.ntmps37
  go_wp2
  go_loop [9] (fun i => ∃ (k : Nat), k ≤ n ∧ i = .int .i64 k ∧ Hid (placeGo f s (n - k) k = placeOf n f s)) (fun i => n - (intOf i).toNat)
  case atStart => exact ⟨0, by omega, rfl, rfl⟩
  case round =>
    obtain ⟨k, hk, rfl, hr⟩ := hrel
    by_cases hlt : k < n
    · have hce := hc k hlt
      have hst : Hid (placeGo f s (n - k) k = if f k = s then (k : Int) else placeGo f s (n - (k + 1)) (k + 1)) := by
        unfold Hid; rw [show n - k = (n - (k + 1)) + 1 by omega]; rfl
      by_cases he : f k = s
      · have hf : Hid ((k : Int) = placeOf n f s) := by unfold Hid; rw [← hr.out, hst.out, if_pos he]
        have hq := (Lib.bytes_beq_iff (f k) s).2 he
        clear he
        go_wp2
        go_returns
        exact ⟨ri hf.out, rfl⟩
      · have hf : Hid (placeGo f s (n - (k + 1)) (k + 1) = placeOf n f s) := by unfold Hid; rw [← hr.out, hst.out, if_neg he]
        have hq := (Lib.bytes_beq_false_iff (f k) s).2 he
        clear he
        go_wp2
        go_round
        case rel => exact ⟨k + 1, by omega, by go_num, hf⟩
        case measure => simp [intOf]; omega
    · have hf : Hid (-1 = placeOf n f s) := by unfold Hid; rw [← hr.out, show n - k = 0 by omega]; rfl
      go_wp2
      go_returns
      exact ⟨ri hf.out, rfl⟩

set_option maxRecDepth 20000 in
set_option maxHeartbeats 4000000 in
theorem find_calls (n : Nat) (hn : n ≤ 100) (f : Nat → ByteArray) (row s : ByteArray) (hrow : row.size = 3 * n) (hf : ∀ k, k < n → row.extract (3 * k) (3 * k + 3) = f k) (w : World) :
    Calls Try.prog 39 #[.string row, .string s] w fun r w' => r = .returned (.int .i64 (placeOf n f s)) ∧ w = w' := by
  go_enter Try.func39, Try.ntmps39
  go_wp2
  go_loop [5] (fun i => ∃ (k : Nat), k ≤ n ∧ i = .int .i64 k ∧ Hid (placeGo f s (n - k) k = placeOf n f s)) (fun i => n - (intOf i).toNat)
  case atStart => exact ⟨0, by omega, rfl, rfl⟩
  case round =>
    obtain ⟨k, hk, rfl, hr⟩ := hrel
    by_cases hlt : k < n
    · have hce := hf k hlt
      have hst : Hid (placeGo f s (n - k) k = if f k = s then (k : Int) else placeGo f s (n - (k + 1)) (k + 1)) := by
        unfold Hid; rw [show n - k = (n - (k + 1)) + 1 by omega]; rfl
      by_cases he : f k = s
      · have hf : Hid ((k : Int) = placeOf n f s) := by unfold Hid; rw [← hr.out, hst.out, if_pos he]
        have hq := (Lib.bytes_beq_iff (f k) s).2 he
        clear he
        go_wp2
        go_returns
        exact ⟨ri hf.out, rfl⟩
      · have hf : Hid (placeGo f s (n - (k + 1)) (k + 1) = placeOf n f s) := by unfold Hid; rw [← hr.out, hst.out, if_neg he]
        have hq := (Lib.bytes_beq_false_iff (f k) s).2 he
        clear he
        go_wp2
        go_round
        case rel => exact ⟨k + 1, by omega, by go_num, hf⟩
        case measure => simp [intOf]; omega
    · have hf : Hid (-1 = placeOf n f s) := by unfold Hid; rw [← hr.out, show n - k = 0 by omega]; rfl
      go_wp2
      go_returns
      exact ⟨ri hf.out, rfl⟩
end Go.Proofs.Ytbnghchniboggaa
