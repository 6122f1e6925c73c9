/-
  clock.Parse where the marks are right.
-/
import Derived.Test.YtbnghchniboggaaParseLaw
import Derived.Test.YtbnghchniboggaaClockSecR
import Derived.Test.YtbnghchniboggaaFresh
namespace Go.Proofs.Ytbnghchniboggaa
open Go.ChangeShapes Go.WideShapes Go.ChangeAt Go.RowKit

open Classical in
noncomputable def parseV (s : ByteArray) : Value := .tuple #[.int .i64 (if pDate s then pSec s else 0), .bool (decide (pDate s))]

set_option maxRecDepth 20000 in
set_option maxHeartbeats 8000000 in
theorem parse_main (s : ByteArray) (hs : s.size = 31) (hz : s.extract 25 31 = zoneB) (hm : marksOk s) (w : World) : Calls Try.prog 23 #[.string s] w fun r w' => r = .returned (parseV s) ∧ Below w.heap.size w w' := by
  have hc := suffix_calls s hs
  rw [decide_eq_true hz] at hc
  replace hc := Lib.hid hc
  have hsec : ∀ w : World, Calls Try.prog 21 #[.agg #[.int .i64 (numOf (s.extract 12 16)), .int .i64 (placeOf 12 moOf (s.extract 8 11) + 1), .int .i64 (numOf (s.extract 5 7)), .int .i64 (numOf (s.extract 17 19)), .int .i64 (numOf (s.extract 20 22)), .int .i64 (numOf (s.extract 23 25)), .int .i64 (placeOf 7 wdOf (s.extract 0 3))]] w
    fun r w' => r = .returned (parseV s) ∧ Below w.heap.size w w' := seconds_calls (pY s) (pM s) (pD s) (pH s) (pI s) (pS s) (pW s)
  replace hsec := Lib.hid hsec
  obtain ⟨hpl1, hpl2⟩ := placeGo_bd 12 moOf (s.extract 8 11)
  generalize hV : parseV s = V at *
  have hV2 : ∃ x y, V = .tuple #[x, y] := ⟨_, _, hV.symm⟩
  clear hV
  obtain ⟨V0, V1, rfl⟩ := hV2
  have kc := fun (w : World) (C : Array Value) (n c : Nat) => Lib.run_convert_bytes_const (P := Try.prog) w 64 5 C n c rfl rfl
  go_enter Try.func23, Try.ntmps23
  go_wp2_with (go_at_call 36; ((refine (hc.out _).mono ?_); rintro r w1 ⟨rfl, rfl⟩))
  generalize hW : w.alloc (.cells #[.int .u8 119, .int .u8 119, .int .u8 119, .int .u8 44, .int .u8 32, .int .u8 100, .int .u8 100, .int .u8 32, .int .u8 109, .int .u8 109, .int .u8 109, .int .u8 32, .int .u8 121, .int .u8 121, .int .u8 121, .int .u8 121, .int .u8 32, .int .u8 104, .int .u8 104, .int .u8 58, .int .u8 109, .int .u8 109, .int .u8 58, .int .u8 115, .int .u8 115, .int .u8 32, .int .u8 43, .int .u8 48, .int .u8 48, .int .u8 48, .int .u8 48] 5 (31, 32)) = W
  have hbel : Below w.heap.size w W := by rw [← hW]; (repeat' (first | (with_reducible exact Below.refl _ _) | (with_reducible refine Below.app ?_ ?_ _ _) | (with_reducible refine Below.alloc ?_ ?_ _) | (with_reducible refine Below.drew ?_) | (with_reducible refine Below.setCell ?_ ?_ _) | (with_reducible assumption) | omega | (simp; omega) | (simp; done)))
  have hcell : ∀ k, k < 31 → W.cell? ⟨w.heap.size, k, none⟩ = some (.int .u8 (formL.getD k 0)) := fun k hk => by
    rw [← hW, World.cell?_alloc_mark, form_cells k hk]
  clear hW
  go_loop [18] (fun i => ∃ k : Nat, k ≤ 31 ∧ i = .int .i64 k ∧ Hid (∀ j, j < k → markAt s j)) (fun i => 31 - (intOf i).toNat)
  case atStart => exact ⟨0, by omega, rfl, fun j hj => absurd hj (by omega)⟩
  case round =>
    obtain ⟨k, hk, rfl, hr⟩ := hrel
    by_cases hlt : k < 31
    · have hce := hcell k hlt
      clear hcell
      have hst : Hid (markAt s k → ∀ j, j < k + 1 → markAt s j) := fun h j hj => if e : j = k then e ▸ h else hr.out j (by omega)
      have hks : k < s.size := by omega
      have hgd : s.data.toList.getD k 0 = s[k] := by simp [List.getD, hks]; rfl
      have hmk := Lib.hid (hm k hlt)
      unfold markAt at hst hmk
      rw [hgd] at hst hmk
      generalize formL.getD k 0 = c at *
      go_wp2
      all_goals first
        | (exfalso; have := hmk.out; unfold isMark at this; go_light; simp at *; omega)
        | (go_round
           case rel => exact ⟨k + 1, by omega, by go_num, hst.out (fun hi => by unfold isMark at hi; go_light; simp at *; omega)⟩
           case measure => simp [intOf]; omega)
    · obtain ⟨bs0, d0, rfl⟩ := of_below hbel
      clear hcell
      go_wp2
      (apply wp_region_text 26; kernel_rfl; kernel_rfl; intro Fin hFin; (repeat (first | (apply text_run; exact rfl; (focus (intro bs d hF K hK; (try rw [app_app] at hK); (try rw [app_app]); go_step; first  | (go_at_call 37; have hWd : WordsAt 7 wdOf _ _ := hF.1 rfl; (try rw [app_app] at hWd); ((with_reducible refine (place_calls 7 (by omega) wdOf _ _ _ hWd).mono ?_); rintro r w1 ⟨rfl, rfl⟩; simp only []; exact hK _ (Below.refl _ _))) | (go_at_call 37; have hWd : WordsAt 12 moOf _ _ := hF.1 rfl; (try rw [app_app] at hWd); ((with_reducible refine (place_calls 12 (by omega) moOf _ _ _ hWd).mono ?_); rintro r w1 ⟨rfl, rfl⟩; simp only []; exact hK _ (Below.refl _ _))) | (go_at_call 38; ((with_reducible refine (number_calls _ (by simp; omega) _).mono ?_); rintro r w1 ⟨rfl, hb⟩; simp only []; exact hK _ hb))  | (refine hK _ ?_; (repeat' (first | (with_reducible exact Below.refl _ _) | (with_reducible refine Below.app ?_ ?_ _ _) | (with_reducible refine Below.alloc ?_ ?_ _) | (with_reducible refine Below.drew ?_) | (with_reducible refine Below.setCell ?_ ?_ _) | (with_reducible assumption) | omega | (simp; omega) | (simp; done)))))); (try simp only [Act.put, List.setIfInBounds_toArray, List.set_cons_zero, List.set_cons_succ]))  | (apply text_has (WordsAt 7 wdOf); exact rfl; exact WordsAt.mono; exact rfl; (focus (intro bs d hF K hK; (try rw [app_app] at hK); (try rw [app_app]); go_step; (go_at_call 31; ((refine (weekdays_calls _).mono ?_); rintro r w1 ⟨⟨v, rfl, hv⟩, hb⟩; simp only []; exact hK _ _ hb hv)))); intro v; (try simp only [Act.put, factOf, List.setIfInBounds_toArray, List.set_cons_zero, List.set_cons_succ])) | (apply text_has (WordsAt 12 moOf); exact rfl; exact WordsAt.mono; exact rfl; (focus (intro bs d hF K hK; (try rw [app_app] at hK); (try rw [app_app]); go_step; (go_at_call 33; ((refine (months_calls _).mono ?_); rintro r w1 ⟨⟨v, rfl, hv⟩, hb⟩; simp only []; exact hK _ _ hb hv)))); intro v; (try simp only [Act.put, factOf, List.setIfInBounds_toArray, List.set_cons_zero, List.set_cons_succ])) | (apply text_has (NewAt w.heap.size (.cells #[.int .i64 0, .int .i64 0, .int .i64 0, .int .i64 0, .int .i64 0, .int .i64 0, .int .i64 0] 27)); exact rfl; exact NewAt.mono; exact rfl; (focus (intro bs d hF K hK; (try rw [app_app] at hK); (try rw [app_app]); go_step; refine hK _ _ ?g1 (NewAt.app ?g2 ?g3); (case g1 => (repeat' (first | (with_reducible exact Below.refl _ _) | (with_reducible refine Below.app ?_ ?_ _ _) | (with_reducible refine Below.alloc ?_ ?_ _) | (with_reducible refine Below.drew ?_) | (with_reducible refine Below.setCell ?_ ?_ _) | (with_reducible assumption) | omega | (simp; omega) | (simp; done)))); (case g2 => (first | (simp; done) | (simp; omega))); (case g3 => omega))); intro v; (try simp only [Act.put, factOf, List.setIfInBounds_toArray, List.set_cons_zero, List.set_cons_succ]))  | (apply text_skip; exact rfl; (try simp only [Act.put, List.setIfInBounds_toArray, List.set_cons_zero, List.set_cons_succ])))); apply text_end; apply hFin; clear hFin Fin; intro bs d hfa)
      rw [app_app] at hfa ⊢
      obtain ⟨⟨b, rfl, hbk, hblk⟩, -, -⟩ := hfa
      (refine wpList_store_row rfl 27 _ _ rfl b _ rfl rfl 27 _ hblk (by kernel_rfl) rfl (by simp [Value.oneCell']) ?_; obtain ⟨cs, he, hblk2⟩ := stored_new _ _ _ _ _ _ (#[.int .i64 (numOf (s.extract 12 16)), .int .i64 (placeOf 12 moOf (s.extract 8 11) + 1), .int .i64 (numOf (s.extract 5 7)), .int .i64 (numOf (s.extract 17 19)), .int .i64 (numOf (s.extract 20 22)), .int .i64 (numOf (s.extract 23 25)), .int .i64 (placeOf 7 wdOf (s.extract 0 3))]) hbk hblk; rw [he]; have r0 := cell_of_block hblk2 0; have r1 := cell_of_block hblk2 1; have r2 := cell_of_block hblk2 2; have r3 := cell_of_block hblk2 3; have r4 := cell_of_block hblk2 4; have r5 := cell_of_block hblk2 5; have r6 := cell_of_block hblk2 6; clear hblk hblk2 he)
      go_wp2_with (go_at_call 21; ((refine (hsec.out _).mono ?_); rintro r w1 ⟨rfl, hb⟩; obtain ⟨b9, b9d, rfl⟩ := of_below hb; clear hb))
      go_returns; exact ⟨rfl, by (repeat' (first | (with_reducible exact Below.refl _ _) | (with_reducible refine Below.app ?_ ?_ _ _) | (with_reducible refine Below.alloc ?_ ?_ _) | (with_reducible refine Below.drew ?_) | (with_reducible refine Below.setCell ?_ ?_ _) | (with_reducible assumption) | omega | (simp; omega) | (simp; done)))⟩
end Go.Proofs.Ytbnghchniboggaa
