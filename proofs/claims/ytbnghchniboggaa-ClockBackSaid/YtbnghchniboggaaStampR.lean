/-
  ref09.Stamp.
-/
import Derived.Test.YtbnghchniboggaaStamp
import Derived.Test.YtbnghchniboggaaClockCivilR
namespace Go.Proofs.Ytbnghchniboggaa
open Go.ChangeShapes Go.WideShapes Go.ChangeAt Go.RowKit

def wdRow : ByteArray := ⟨#[77, 111, 110, 84, 117, 101, 87, 101, 100, 84, 104, 117, 70, 114, 105, 83, 97, 116, 83, 117, 110]⟩
def moRow : ByteArray := ⟨#[74, 97, 110, 70, 101, 98, 77, 97, 114, 65, 112, 114, 77, 97, 121, 74, 117, 110, 74, 117, 108, 65, 117, 103, 83, 101, 112, 79, 99, 116, 78, 111, 118, 68, 101, 99]⟩
theorem wdRow_at (k : Nat) (h : k < 7) : wdRow.extract (3 * k) (3 * k + 3) = wdOf k := by
  match k, h with
  | 0, _ | 1, _ | 2, _ | 3, _ | 4, _ | 5, _ | 6, _ => decide
theorem moRow_at (k : Nat) (h : k < 12) : moRow.extract (3 * k) (3 * k + 3) = moOf k := by
  match k, h with
  | 0, _ | 1, _ | 2, _ | 3, _ | 4, _ | 5, _ | 6, _ | 7, _ | 8, _ | 9, _ | 10, _ | 11, _ => decide

set_option maxRecDepth 20000 in
set_option maxHeartbeats 8000000 in
theorem rstamp_calls (t : Int) (h0 : 0 ≤ t) (h1 : t ≤ 253402300799) (w : World) : Calls Try.prog 16 #[.int .i64 t] w fun r w' => r = .returned (.tuple #[.string (stampOf t), .bool true]) ∧ Below w.heap.size w w' := by
  have hciv := rcivil_calls t h0 h1
  obtain ⟨⟨r1, r2, r3, r4, r5, r6⟩, -⟩ := date_of (t / 86400 + 719468) (by omega) (by omega)
  have r7 : daysIn (dY (t / 86400 + 719468)) (dM (t / 86400 + 719468)) ≤ 31 := by unfold daysIn; repeat' split <;> omega
  unfold stampOf
  generalize dY (t / 86400 + 719468) = y at *
  generalize dM (t / 86400 + 719468) = m at *
  generalize dD (t / 86400 + 719468) = d at *
  have a1 : 0 ≤ t % 86400 / 3600 ∧ t % 86400 / 3600 < 24 := by omega
  have a2 : 0 ≤ t % 86400 / 60 % 60 ∧ t % 86400 / 60 % 60 < 60 := by omega
  have a3 : 0 ≤ t % 86400 % 60 ∧ t % 86400 % 60 < 60 := by omega
  have a4 : 0 ≤ (t / 86400 + 3) % 7 ∧ (t / 86400 + 3) % 7 < 7 := by omega
  generalize t % 86400 / 3600 = h at *
  generalize t % 86400 / 60 % 60 = i at *
  generalize t % 86400 % 60 = s at *
  generalize (t / 86400 + 3) % 7 = wk at *
  obtain ⟨k, rfl⟩ := Int.eq_ofNat_of_zero_le a4.1
  obtain ⟨j, rfl⟩ : ∃ j : Nat, m = (j : Int) + 1 := ⟨(m - 1).toNat, by omega⟩
  replace hciv := Lib.hid hciv
  have hw := wdRow_at k (by omega)
  have hm := moRow_at j (by omega)
  rw [show 3 * j = 3 * (j + 1) - 3 by omega, show 3 * (j + 1) - 3 + 3 = 3 * (j + 1) by omega] at hm
  unfold wdRow at hw
  unfold moRow at hm
  go_enter Try.func16, Try.ntmps16
  go_wp2_with (go_at_call 14; ((refine (hciv.out _).mono ?_); rintro r w1 ⟨rfl, hb⟩; obtain ⟨b1, b1d, rfl⟩ := of_below hb; clear hb))
  (apply wp_region_text 46; kernel_rfl; kernel_rfl; intro Fin hFin; (repeat (first | (apply text_run; exact rfl; (focus (intro bs d hF K hK; (try rw [app_app] at hK); (try rw [app_app]); go_step; first  | (go_at_call 34; ((with_reducible refine (rdigits2_calls _ (by omega) (by omega) _).mono ?_); rintro r w1 ⟨rfl, hb⟩; simp only []; exact hK _ hb)) | (go_at_call 34; ((with_reducible refine (rdigits4_calls _ (by omega) (by omega) _).mono ?_); rintro r w1 ⟨rfl, hb⟩; simp only []; exact hK _ hb))  | (refine hK _ ?_; (repeat' (first | (with_reducible exact Below.refl _ _) | (with_reducible refine Below.app ?_ ?_ _ _) | (with_reducible refine Below.alloc ?_ ?_ _) | (with_reducible refine Below.drew ?_) | (with_reducible refine Below.setCell ?_ ?_ _) | (with_reducible assumption) | omega | (simp; omega) | (simp; done)))))); (try simp only [Act.put, List.setIfInBounds_toArray, List.set_cons_zero, List.set_cons_succ])) | (apply text_skip; exact rfl; (try simp only [Act.put, List.setIfInBounds_toArray, List.set_cons_zero, List.set_cons_succ])))); apply text_end; apply hFin; clear hFin Fin; intro bs d hfa)
  clear hfa
  go_wp2
  go_returns
  refine ⟨?_, by (repeat' (first | (with_reducible exact Below.refl _ _) | (with_reducible refine Below.app ?_ ?_ _ _) | (with_reducible refine Below.alloc ?_ ?_ _) | (with_reducible refine Below.drew ?_) | (with_reducible refine Below.setCell ?_ ?_ _) | (with_reducible assumption) | omega | (simp; omega) | (simp; done)))⟩
  simp only [stampB, Int.toNat_natCast, Int.add_sub_cancel]
  rfl
theorem rstamp_none (t : Int) (h : t < 0 ∨ 253402300799 < t) (w : World) : Calls Try.prog 16 #[.int .i64 t] w fun r w' => r = .returned (.tuple #[.string ⟨#[]⟩, .bool false]) ∧ Below w.heap.size w w' := by
  have hciv := Lib.hid (rcivil_none t h)
  go_enter Try.func16, Try.ntmps16
  go_wp2_with (go_at_call 14; ((refine (hciv.out _).mono ?_); rintro r w1 ⟨rfl, hb⟩; obtain ⟨b1, b1d, rfl⟩ := of_below hb; clear hb))
  go_returns; exact ⟨rfl, by (repeat' (first | (with_reducible exact Below.refl _ _) | (with_reducible refine Below.app ?_ ?_ _ _) | (with_reducible refine Below.alloc ?_ ?_ _) | (with_reducible refine Below.drew ?_) | (with_reducible refine Below.setCell ?_ ?_ _) | (with_reducible assumption) | omega | (simp; omega) | (simp; done)))⟩
end Go.Proofs.Ytbnghchniboggaa
