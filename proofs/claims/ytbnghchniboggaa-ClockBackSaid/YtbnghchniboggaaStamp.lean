/-
  clock.Stamp and its reference.
-/
import Derived.Test.YtbnghchniboggaaWords
import Derived.Test.YtbnghchniboggaaClockCivil
namespace Go.Proofs.Ytbnghchniboggaa
open Go.ChangeShapes Go.WideShapes Go.ChangeAt Go.RowKit

def stampB (y m d h i s wk : Int) : ByteArray :=
  wdOf wk.toNat ++ ⟨#[44, 32]⟩ ++ dig2 d ++ ⟨#[32]⟩ ++ moOf (m - 1).toNat ++ ⟨#[32]⟩ ++ dig4 y ++ ⟨#[32]⟩ ++ dig2 h ++ ⟨#[58]⟩ ++ dig2 i ++ ⟨#[58]⟩ ++ dig2 s ++ ⟨#[32, 43, 48, 48, 48, 48]⟩
def stampOf (t : Int) : ByteArray :=
  stampB (dY (t / 86400 + 719468)) (dM (t / 86400 + 719468)) (dD (t / 86400 + 719468)) (t % 86400 / 3600) (t % 86400 / 60 % 60) (t % 86400 % 60) ((t / 86400 + 3) % 7)

set_option maxHeartbeats 8000000 in
theorem stamp_calls (t : Int) (h0 : 0 ≤ t) (h1 : t ≤ 253402300799) (w : World) : Calls Try.prog 15 #[.int .i64 t] w fun r w' => r = .returned (.tuple #[.string (stampOf t), .bool true]) ∧ Below w.heap.size w w' := by
  have hciv := civil_calls t h0 h1
  obtain ⟨⟨r1, r2, r3, r4, r5, r6⟩, -⟩ := date_of (t / 86400 + 719468) (by omega) (by omega)
  have r7 : daysIn (dY (t / 86400 + 719468)) (dM (t / 86400 + 719468)) ≤ 31 := by unfold daysIn; repeat' split <;> omega
  unfold civV at hciv
  unfold stampOf
  generalize dY (t / 86400 + 719468) = y at *
  generalize dM (t / 86400 + 719468) = m at *
  generalize dD (t / 86400 + 719468) = d at *
  have a1 : 0 ≤ t % 86400 / 3600 ∧ t % 86400 / 3600 < 24 := by omega
  have a2 : 0 ≤ t % 86400 / 60 % 60 ∧ t % 86400 / 60 % 60 < 60 := by omega
  have a3 : 0 ≤ t % 86400 % 60 ∧ t % 86400 % 60 < 60 := by omega
  have a4 : 0 ≤ (t / 86400 + 3) % 7 ∧ (t / 86400 + 3) % 7 < 7 := by omega
  generalize t % 86400 / 3600 = h at *
  generalize t % 86400 / 60 % 60 = i at *
  generalize t % 86400 % 60 = s at *
  generalize (t / 86400 + 3) % 7 = wk at *
  obtain ⟨k, rfl⟩ := Int.eq_ofNat_of_zero_le a4.1
  obtain ⟨j, rfl⟩ : ∃ j : Nat, m = (j : Int) + 1 := ⟨(m - 1).toNat, by omega⟩
  replace hciv := Lib.hid hciv
  go_enter Try.func15, Try.ntmps15
  go_wp2_with (go_at_call 13; ((refine (hciv.out _).mono ?_); rintro r w1 ⟨rfl, hb⟩; obtain ⟨b1, b1d, rfl⟩ := of_below hb; clear hb))
  (apply wp_region_text 23; kernel_rfl; kernel_rfl; intro Fin hFin; (repeat (first | (apply text_run; exact rfl; (focus (intro bs d hF K hK; (try rw [app_app] at hK); (try rw [app_app]); go_step; first  | (go_at_call 32; ((with_reducible refine (digits2_calls _ (by omega) (by omega) _).mono ?_); rintro r w1 ⟨rfl, hb⟩; simp only []; exact hK _ hb)) | (go_at_call 32; ((with_reducible refine (digits4_calls _ (by omega) (by omega) _).mono ?_); rintro r w1 ⟨rfl, hb⟩; simp only []; exact hK _ hb))  | (refine hK _ ?_; (repeat' (first | (with_reducible exact Below.refl _ _) | (with_reducible refine Below.app ?_ ?_ _ _) | (with_reducible refine Below.alloc ?_ ?_ _) | (with_reducible refine Below.drew ?_) | (with_reducible refine Below.setCell ?_ ?_ _) | (with_reducible assumption) | omega | (simp; omega) | (simp; done)))))); (try simp only [Act.put, List.setIfInBounds_toArray, List.set_cons_zero, List.set_cons_succ]))  | (apply text_has (WordsAt 7 wdOf); exact rfl; exact WordsAt.mono; exact rfl; (focus (intro bs d hF K hK; (try rw [app_app] at hK); (try rw [app_app]); go_step; (go_at_call 31; ((refine (weekdays_calls _).mono ?_); rintro r w1 ⟨⟨v, rfl, hv⟩, hb⟩; simp only []; exact hK _ _ hb hv)))); intro v; (try simp only [Act.put, factOf, List.setIfInBounds_toArray, List.set_cons_zero, List.set_cons_succ])) | (apply text_has (WordsAt 12 moOf); exact rfl; exact WordsAt.mono; exact rfl; (focus (intro bs d hF K hK; (try rw [app_app] at hK); (try rw [app_app]); go_step; (go_at_call 33; ((refine (months_calls _).mono ?_); rintro r w1 ⟨⟨v, rfl, hv⟩, hb⟩; simp only []; exact hK _ _ hb hv)))); intro v; (try simp only [Act.put, factOf, List.setIfInBounds_toArray, List.set_cons_zero, List.set_cons_succ])) | (apply text_has (WordAt (wdOf k)); exact rfl; exact WordAt.mono; exact rfl; (focus (intro bs d hF K hK; (try rw [app_app] at hK); (try rw [app_app]); obtain ⟨b, rfl, hb, hc⟩ := hF.1 rfl; go_step; exact hK _ _ (Below.refl _ _) ⟨b, k, rfl, hb, hc k (by omega)⟩)); intro v; (try simp only [Act.put, factOf, List.setIfInBounds_toArray, List.set_cons_zero, List.set_cons_succ])) | (apply text_has (WordAt (moOf j)); exact rfl; exact WordAt.mono; exact rfl; (focus (intro bs d hF K hK; (try rw [app_app] at hK); (try rw [app_app]); obtain ⟨b, rfl, hb, hc⟩ := hF.1 rfl; go_step; exact hK _ _ (Below.refl _ _) ⟨b, j, rfl, hb, hc j (by omega)⟩)); intro v; (try simp only [Act.put, factOf, List.setIfInBounds_toArray, List.set_cons_zero, List.set_cons_succ])) | (apply text_run; exact rfl; (focus (intro bs d hF K hK; (try rw [app_app] at hK); (try rw [app_app]); obtain ⟨b, q, rfl, hb, hc⟩ := hF.1 rfl; go_step; refine hK _ ?_; (repeat' (first | (with_reducible exact Below.refl _ _) | (with_reducible refine Below.app ?_ ?_ _ _) | (with_reducible refine Below.alloc ?_ ?_ _) | (with_reducible refine Below.drew ?_) | (with_reducible refine Below.setCell ?_ ?_ _) | (with_reducible assumption) | omega | (simp; omega) | (simp; done))))); (try simp only [Act.put, List.setIfInBounds_toArray, List.set_cons_zero, List.set_cons_succ]))  | (apply text_skip; exact rfl; (try simp only [Act.put, List.setIfInBounds_toArray, List.set_cons_zero, List.set_cons_succ])))); apply text_end; apply hFin; clear hFin Fin; intro bs d hfa)
  clear hfa
  go_wp2
  (apply wp_region_text 17; kernel_rfl; kernel_rfl; intro Fin hFin; (repeat (first | (apply text_run; exact rfl; (focus (intro bs d hF K hK; (try rw [app_app] at hK); (try rw [app_app]); go_step; first  | (go_at_call 32; ((with_reducible refine (digits2_calls _ (by omega) (by omega) _).mono ?_); rintro r w1 ⟨rfl, hb⟩; simp only []; exact hK _ hb))  | (refine hK _ ?_; (repeat' (first | (with_reducible exact Below.refl _ _) | (with_reducible refine Below.app ?_ ?_ _ _) | (with_reducible refine Below.alloc ?_ ?_ _) | (with_reducible refine Below.drew ?_) | (with_reducible refine Below.setCell ?_ ?_ _) | (with_reducible assumption) | omega | (simp; omega) | (simp; done)))))); (try simp only [Act.put, List.setIfInBounds_toArray, List.set_cons_zero, List.set_cons_succ])) | (apply text_skip; exact rfl; (try simp only [Act.put, List.setIfInBounds_toArray, List.set_cons_zero, List.set_cons_succ])))); apply text_end; apply hFin; clear hFin Fin; intro bs d hfa)
  go_wp2
  go_returns
  refine ⟨?_, by (repeat' (first | (with_reducible exact Below.refl _ _) | (with_reducible refine Below.app ?_ ?_ _ _) | (with_reducible refine Below.alloc ?_ ?_ _) | (with_reducible refine Below.drew ?_) | (with_reducible refine Below.setCell ?_ ?_ _) | (with_reducible assumption) | omega | (simp; omega) | (simp; done)))⟩
  simp only [stampB, Int.toNat_natCast, Int.add_sub_cancel]
  rfl
theorem stamp_none (t : Int) (h : t < 0 ∨ 253402300799 < t) (w : World) : Calls Try.prog 15 #[.int .i64 t] w fun r w' => r = .returned (.tuple #[.string ⟨#[]⟩, .bool false]) ∧ Below w.heap.size w w' := by
  have hciv := Lib.hid (civil_none t h)
  go_enter Try.func15, Try.ntmps15
  go_wp2_with (go_at_call 13; ((refine (hciv.out _).mono ?_); rintro r w1 ⟨rfl, hb⟩; obtain ⟨b1, b1d, rfl⟩ := of_below hb; clear hb))
  go_returns; exact ⟨rfl, by (repeat' (first | (with_reducible exact Below.refl _ _) | (with_reducible refine Below.app ?_ ?_ _ _) | (with_reducible refine Below.alloc ?_ ?_ _) | (with_reducible refine Below.drew ?_) | (with_reducible refine Below.setCell ?_ ?_ _) | (with_reducible assumption) | omega | (simp; omega) | (simp; done)))⟩
end Go.Proofs.Ytbnghchniboggaa
