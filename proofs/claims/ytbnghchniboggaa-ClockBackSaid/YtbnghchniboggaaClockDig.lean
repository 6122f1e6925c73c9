/-
  The two functions 'digits': two or four digits of a number.
-/
import Derived.Test.YtbnghchniboggaaProg
import Derived.Test.YtbnghchniboggaaBase
import Derived.Laws.IdiomStrings
import Derived.Laws.Concat
namespace Go.Proofs.Ytbnghchniboggaa
open Go.ChangeShapes Go.WideShapes Go.ChangeAt Go.RowKit

def dgt (v : Int) : UInt8 := UInt8.ofNat (48 + v % 10).toNat
theorem dgt_nat (v : Int) : ((dgt v).toNat : Int) = 48 + v % 10 := by
  unfold dgt
  have : (48 + v % 10).toNat < 256 := by omega
  simp [UInt8.toNat_ofNat', Nat.mod_eq_of_lt this]; omega
def dig2 (v : Int) : ByteArray := ⟨#[dgt (v / 10), dgt v]⟩
def dig4 (v : Int) : ByteArray := ⟨#[dgt (v / 10 / 10 / 10), dgt (v / 10 / 10), dgt (v / 10), dgt v]⟩

theorem make2 (w : World) : (Instr.makeSlice 64 (.int .i64 2) (.int .i64 2)).run Try.prog w = .ok (.slice (some ⟨w.heap.size, 0, none⟩) 2 2) (w.alloc (.cells #[.int .u8 0, .int .u8 0] 5)) :=
  (run_make (P := Try.prog) w 64 5 _ _ rfl rfl rfl .i64 .i64 2 2 (by decide) (by decide) (by decide) (by decide)).trans (congrArg (fun c => Result.ok (Value.slice (some ⟨w.heap.size, 0, none⟩) 2 2) (w.alloc (.cells c 5))) (show _ = (#[.int .u8 0, .int .u8 0] : Array Value) from by kernel_rfl))
theorem make4 (w : World) : (Instr.makeSlice 64 (.int .i64 4) (.int .i64 4)).run Try.prog w = .ok (.slice (some ⟨w.heap.size, 0, none⟩) 4 4) (w.alloc (.cells #[.int .u8 0, .int .u8 0, .int .u8 0, .int .u8 0] 5)) :=
  (run_make (P := Try.prog) w 64 5 _ _ rfl rfl rfl .i64 .i64 4 4 (by decide) (by decide) (by decide) (by decide)).trans (congrArg (fun c => Result.ok (Value.slice (some ⟨w.heap.size, 0, none⟩) 4 4) (w.alloc (.cells c 5))) (show _ = (#[.int .u8 0, .int .u8 0, .int .u8 0, .int .u8 0] : Array Value) from by kernel_rfl))

theorem back2 (w : World) (b a : Int) : (convert 64 9 (.slice (some ⟨w.heap.size, 0, none⟩) 2 2)).run Try.prog (w.alloc (.cells #[.int .u8 (48 + b % 10), .int .u8 (48 + a % 10)] 5)) = .ok (.string ⟨#[dgt b, dgt a]⟩) (w.alloc (.cells #[.int .u8 (48 + b % 10), .int .u8 (48 + a % 10)] 5)) := by
  have h := run_convert_bytes_back (P := Try.prog) (w.alloc (.cells #[.int .u8 (48 + b % 10), .int .u8 (48 + a % 10)] 5)) 64 9 5 ⟨w.heap.size, 0, none⟩ 2 [dgt b, dgt a] rfl rfl rfl (fun j hj => by
    rw [show (⟨w.heap.size, 0, none⟩ : Addr).add j = ⟨w.heap.size, j, none⟩ by simp [Addr.add]; exact fun h => h.symm, World.cell?_alloc_mark]
    match j, hj with
    | 0, _ => simp [dgt_nat]
    | 1, _ => simp [dgt_nat])
  simpa using h
theorem back4 (w : World) (d c b a : Int) : (convert 64 9 (.slice (some ⟨w.heap.size, 0, none⟩) 4 4)).run Try.prog (w.alloc (.cells #[.int .u8 (48 + d % 10), .int .u8 (48 + c % 10), .int .u8 (48 + b % 10), .int .u8 (48 + a % 10)] 5)) = .ok (.string ⟨#[dgt d, dgt c, dgt b, dgt a]⟩) (w.alloc (.cells #[.int .u8 (48 + d % 10), .int .u8 (48 + c % 10), .int .u8 (48 + b % 10), .int .u8 (48 + a % 10)] 5)) := by
  have h := run_convert_bytes_back (P := Try.prog) (w.alloc (.cells #[.int .u8 (48 + d % 10), .int .u8 (48 + c % 10), .int .u8 (48 + b % 10), .int .u8 (48 + a % 10)] 5)) 64 9 5 ⟨w.heap.size, 0, none⟩ 4 [dgt d, dgt c, dgt b, dgt a] rfl rfl rfl (fun j hj => by
    rw [show (⟨w.heap.size, 0, none⟩ : Addr).add j = ⟨w.heap.size, j, none⟩ by simp [Addr.add]; exact fun h => h.symm, World.cell?_alloc_mark]
    match j, hj with
    | 0, _ => simp [dgt_nat]
    | 1, _ => simp [dgt_nat]
    | 2, _ => simp [dgt_nat]
    | 3, _ => simp [dgt_nat])
  simpa using h

set_option maxHeartbeats 2000000 in
theorem digits2_calls (v : Int) (h0 : 0 ≤ v) (h1 : v ≤ 9999) (w : World) : Calls Try.prog 32 #[.int .i64 v, .int .i64 2] w
    fun r w' => r = .returned (.string (dig2 v)) ∧ Below w.heap.size w w' := by
  have hmk := make2
  have hbk := back2 w (v / 10) v
  go_enter Try.func32, Try.ntmps32
  go_wp2
  refine wp_loop_rounds 3 ?_
  rw [rounds_succ]
  go_wp2
  rw [rounds_succ]
  go_wp2
  rw [rounds_succ]
  go_wp2
  go_returns; exact ⟨rfl, by (repeat' (first | (with_reducible exact Below.refl _ _) | (with_reducible refine Below.app ?_ ?_ _ _) | (with_reducible refine Below.alloc ?_ ?_ _) | (with_reducible refine Below.drew ?_) | (with_reducible refine Below.setCell ?_ ?_ _) | (with_reducible assumption) | omega | (simp; omega) | (simp; done)))⟩

set_option maxHeartbeats 2000000 in
theorem digits4_calls (v : Int) (h0 : 0 ≤ v) (h1 : v ≤ 9999) (w : World) : Calls Try.prog 32 #[.int .i64 v, .int .i64 4] w
    fun r w' => r = .returned (.string (dig4 v)) ∧ Below w.heap.size w w' := by
  have hmk := make4
  have hbk := back4 w (v / 10 / 10 / 10) (v / 10 / 10) (v / 10) v
  go_enter Try.func32, Try.ntmps32
  go_wp2
  refine wp_loop_rounds 5 ?_
  rw [rounds_succ]
  go_wp2
  rw [rounds_succ]
  go_wp2
  rw [rounds_succ]
  go_wp2
  rw [rounds_succ]
  go_wp2
  rw [rounds_succ]
  go_wp2
  go_returns; exact ⟨rfl, by (repeat' (first | (with_reducible exact Below.refl _ _) | (with_reducible refine Below.app ?_ ?_ _ _) | (with_reducible refine Below.alloc ?_ ?_ _) | (with_reducible refine Below.drew ?_) | (with_reducible refine Below.setCell ?_ ?_ _) | (with_reducible assumption) | omega | (simp; omega) | (simp; done)))⟩

theorem back1 (W : World) (g : Nat) (a : Int) (hg : g = W.heap.size) : (convert 64 9 (.slice (some ⟨g, 0, none⟩) 1 1)).run Try.prog (W.alloc (.cells #[.int .u8 (48 + a % 10)] 5)) = .ok (.string ⟨#[dgt a]⟩) (W.alloc (.cells #[.int .u8 (48 + a % 10)] 5)) := by
  subst hg
  have h := run_convert_bytes_back (P := Try.prog) (W.alloc (.cells #[.int .u8 (48 + a % 10)] 5)) 64 9 5 ⟨W.heap.size, 0, none⟩ 1 [dgt a] rfl rfl rfl (fun j hj => by
    rw [show (⟨W.heap.size, 0, none⟩ : Addr).add j = ⟨W.heap.size, j, none⟩ by simp [Addr.add]; exact fun h => h.symm, World.cell?_alloc_mark]
    match j, hj with
    | 0, _ => simp [dgt_nat])
  simpa using h

set_option maxHeartbeats 2000000 in
theorem rdigits2_calls (v : Int) (h0 : 0 ≤ v) (h1 : v ≤ 9999) (w : World) : Calls Try.prog 34 #[.int .i64 v, .int .i64 2] w
    fun r w' => r = .returned (.string (dig2 v)) ∧ Below w.heap.size w w' := by
  have hbk := back1
  go_enter Try.func34, Try.ntmps34
  go_wp2
  refine wp_loop_rounds 3 ?_
  rw [rounds_succ]
  go_wp2
  rw [rounds_succ]
  go_wp2
  rw [rounds_succ]
  go_wp2
  go_returns
  refine ⟨?_, by (repeat' (first | (with_reducible exact Below.refl _ _) | (with_reducible refine Below.app ?_ ?_ _ _) | (with_reducible refine Below.alloc ?_ ?_ _) | (with_reducible refine Below.drew ?_) | (with_reducible refine Below.setCell ?_ ?_ _) | (with_reducible assumption) | omega | (simp; omega) | (simp; done)))⟩
  first | rfl | (congr 2; apply ByteArray.ext; simp [dig2])

set_option maxHeartbeats 2000000 in
theorem rdigits4_calls (v : Int) (h0 : 0 ≤ v) (h1 : v ≤ 9999) (w : World) : Calls Try.prog 34 #[.int .i64 v, .int .i64 4] w
    fun r w' => r = .returned (.string (dig4 v)) ∧ Below w.heap.size w w' := by
  have hbk := back1
  go_enter Try.func34, Try.ntmps34
  go_wp2
  refine wp_loop_rounds 5 ?_
  rw [rounds_succ]
  go_wp2
  rw [rounds_succ]
  go_wp2
  rw [rounds_succ]
  go_wp2
  rw [rounds_succ]
  go_wp2
  rw [rounds_succ]
  go_wp2
  go_returns
  refine ⟨?_, by (repeat' (first | (with_reducible exact Below.refl _ _) | (with_reducible refine Below.app ?_ ?_ _ _) | (with_reducible refine Below.alloc ?_ ?_ _) | (with_reducible refine Below.drew ?_) | (with_reducible refine Below.setCell ?_ ?_ _) | (with_reducible assumption) | omega | (simp; omega) | (simp; done)))⟩
  first | rfl | (congr 2; apply ByteArray.ext; simp [dig4])
end Go.Proofs.Ytbnghchniboggaa
