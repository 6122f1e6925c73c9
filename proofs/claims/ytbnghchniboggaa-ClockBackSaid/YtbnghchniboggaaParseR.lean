/-
  ref09.Parse.
-/
import Derived.Test.YtbnghchniboggaaParseLaw
import Derived.Test.YtbnghchniboggaaStampR
import Derived.Test.YtbnghchniboggaaFresh
namespace Go.Proofs.Ytbnghchniboggaa
open Go.ChangeShapes Go.WideShapes Go.ChangeAt Go.RowKit

theorem wdRow_size : wdRow.size = 3 * 7 := rfl
theorem moRow_size : moRow.size = 3 * 12 := rfl
theorem rfind_wd (s : ByteArray) (w : World) : Calls Try.prog 39 #[.string wdRow, .string s] w fun r w' => r = .returned (.int .i64 (placeOf 7 wdOf s)) ∧ w = w' :=
  find_calls 7 (by omega) wdOf wdRow s wdRow_size wdRow_at w
theorem rfind_mo (s : ByteArray) (w : World) : Calls Try.prog 39 #[.string moRow, .string s] w fun r w' => r = .returned (.int .i64 (placeOf 12 moOf s)) ∧ w = w' :=
  find_calls 12 (by omega) moOf moRow s moRow_size moRow_at w

theorem rparse_short (s : ByteArray) (hs : s.size ≠ 31) (_hl : s.size ≤ 9223372036854775807) (w : World) : Calls Try.prog 24 #[.string s] w fun r w' => r = .returned (.tuple #[.int .i64 0, .bool false]) ∧ Below w.heap.size w w' := by
  have hs' : ¬ (s.size : Int) = 31 := by omega
  go_enter Try.func24, Try.ntmps24
  go_wp2
  go_returns; exact ⟨rfl, by (repeat' (first | (with_reducible exact Below.refl _ _) | (with_reducible refine Below.app ?_ ?_ _ _) | (with_reducible refine Below.alloc ?_ ?_ _) | (with_reducible refine Below.drew ?_) | (with_reducible refine Below.setCell ?_ ?_ _) | (with_reducible assumption) | omega | (simp; omega) | (simp; done)))⟩

set_option maxRecDepth 20000 in
set_option maxHeartbeats 8000000 in
theorem rparse_nodate (s : ByteArray) (hs : s.size = 31) (hd : ¬ pDate s) (w : World) : Calls Try.prog 24 #[.string s] w fun r w' => r = .returned (.tuple #[.int .i64 0, .bool false]) ∧ Below w.heap.size w w' := by
  have hf1 := rfind_wd (s.extract 0 3)
  have hf2 := rfind_mo (s.extract 8 11)
  unfold wdRow at hf1
  unfold moRow at hf2
  have hsec : ∀ w : World, Calls Try.prog 22 #[.agg #[.int .i64 (numOf (s.extract 12 16)), .int .i64 (placeOf 12 moOf (s.extract 8 11) + 1), .int .i64 (numOf (s.extract 5 7)), .int .i64 (numOf (s.extract 17 19)), .int .i64 (numOf (s.extract 20 22)), .int .i64 (numOf (s.extract 23 25)), .int .i64 (placeOf 7 wdOf (s.extract 0 3))]] w
    fun r w' => r = .returned (.int .i64 (-1)) ∧ Below w.heap.size w w' := fun w => by
    have := rseconds_calls (pY s) (pM s) (pD s) (pH s) (pI s) (pS s) (pW s) w
    rw [if_neg (show ¬ isDate (pY s) (pM s) (pD s) (pH s) (pI s) (pS s) (pW s) from hd)] at this
    exact this
  replace hsec := Lib.hid hsec
  replace hf1 := Lib.hid hf1
  replace hf2 := Lib.hid hf2
  obtain ⟨hpl1, hpl2⟩ := placeGo_bd 12 moOf (s.extract 8 11)
  clear hd
  go_enter Try.func24, Try.ntmps24
  go_wp2
  (apply wp_region_text 24; kernel_rfl; kernel_rfl; intro Fin hFin; (repeat (first | (apply text_run; exact rfl; (focus (intro bs d hF K hK; (try rw [app_app] at hK); (try rw [app_app]); go_step; first  | (go_at_call 39; ((with_reducible refine (hf1.out _).mono ?_); rintro r w1 ⟨rfl, rfl⟩; simp only []; exact hK _ (Below.refl _ _))) | (go_at_call 39; ((with_reducible refine (hf2.out _).mono ?_); rintro r w1 ⟨rfl, rfl⟩; simp only []; exact hK _ (Below.refl _ _))) | (go_at_call 40; ((with_reducible refine (rnumber_calls _ (by simp; omega) _).mono ?_); rintro r w1 ⟨rfl, rfl⟩; simp only []; exact hK _ (Below.refl _ _)))  | (refine hK _ ?_; (repeat' (first | (with_reducible exact Below.refl _ _) | (with_reducible refine Below.app ?_ ?_ _ _) | (with_reducible refine Below.alloc ?_ ?_ _) | (with_reducible refine Below.drew ?_) | (with_reducible refine Below.setCell ?_ ?_ _) | (with_reducible assumption) | omega | (simp; omega) | (simp; done)))))); (try simp only [Act.put, List.setIfInBounds_toArray, List.set_cons_zero, List.set_cons_succ]))  | (apply text_has (NewAt w.heap.size (.cells #[.int .i64 0, .int .i64 0, .int .i64 0, .int .i64 0, .int .i64 0, .int .i64 0, .int .i64 0] 27)); exact rfl; exact NewAt.mono; exact rfl; (focus (intro bs d hF K hK; (try rw [app_app] at hK); (try rw [app_app]); go_step; refine hK _ _ ?g1 (NewAt.app ?g2 ?g3); (case g1 => (repeat' (first | (with_reducible exact Below.refl _ _) | (with_reducible refine Below.app ?_ ?_ _ _) | (with_reducible refine Below.alloc ?_ ?_ _) | (with_reducible refine Below.drew ?_) | (with_reducible refine Below.setCell ?_ ?_ _) | (with_reducible assumption) | omega | (simp; omega) | (simp; done)))); (case g2 => (first | (simp; done) | (simp; omega))); (case g3 => omega))); intro v; (try simp only [Act.put, factOf, List.setIfInBounds_toArray, List.set_cons_zero, List.set_cons_succ]))  | (apply text_skip; exact rfl; (try simp only [Act.put, List.setIfInBounds_toArray, List.set_cons_zero, List.set_cons_succ])))); apply text_end; apply hFin; clear hFin Fin; intro bs d hfa)
  obtain ⟨⟨b, rfl, hbk, hblk⟩, -⟩ := hfa
  (refine wpList_store_row rfl 27 _ _ rfl b _ rfl rfl 27 _ hblk (by kernel_rfl) rfl (by simp [Value.oneCell']) ?_; obtain ⟨cs, he, hblk2⟩ := stored_new _ _ _ _ _ _ (#[.int .i64 (numOf (s.extract 12 16)), .int .i64 (placeOf 12 moOf (s.extract 8 11) + 1), .int .i64 (numOf (s.extract 5 7)), .int .i64 (numOf (s.extract 17 19)), .int .i64 (numOf (s.extract 20 22)), .int .i64 (numOf (s.extract 23 25)), .int .i64 (placeOf 7 wdOf (s.extract 0 3))]) hbk hblk; rw [he]; have r0 := cell_of_block hblk2 0; have r1 := cell_of_block hblk2 1; have r2 := cell_of_block hblk2 2; have r3 := cell_of_block hblk2 3; have r4 := cell_of_block hblk2 4; have r5 := cell_of_block hblk2 5; have r6 := cell_of_block hblk2 6; clear hblk hblk2 he)
  go_wp2_with (go_at_call 22; ((refine (hsec.out _).mono ?_); rintro r w1 ⟨rfl, hb⟩; obtain ⟨b1, b1d, rfl⟩ := of_below hb; clear hb))
  go_returns; exact ⟨rfl, by (repeat' (first | (with_reducible exact Below.refl _ _) | (with_reducible refine Below.app ?_ ?_ _ _) | (with_reducible refine Below.alloc ?_ ?_ _) | (with_reducible refine Below.drew ?_) | (with_reducible refine Below.setCell ?_ ?_ _) | (with_reducible assumption) | omega | (simp; omega) | (simp; done)))⟩

set_option maxRecDepth 20000 in
set_option maxHeartbeats 8000000 in
theorem rparse_date (s : ByteArray) (hs : s.size = 31) (hd : pDate s) (w : World) : Calls Try.prog 24 #[.string s] w fun r w' => r = .returned (.tuple #[.int .i64 (if stampOf (pSec s) = s then pSec s else 0), .bool (decide (stampOf (pSec s) = s))]) ∧ Below w.heap.size w w' := by
  obtain ⟨-, hp0, hp1⟩ := stamp_of_date hd
  have hf1 := rfind_wd (s.extract 0 3)
  have hf2 := rfind_mo (s.extract 8 11)
  unfold wdRow at hf1
  unfold moRow at hf2
  have hsec : ∀ w : World, Calls Try.prog 22 #[.agg #[.int .i64 (numOf (s.extract 12 16)), .int .i64 (placeOf 12 moOf (s.extract 8 11) + 1), .int .i64 (numOf (s.extract 5 7)), .int .i64 (numOf (s.extract 17 19)), .int .i64 (numOf (s.extract 20 22)), .int .i64 (numOf (s.extract 23 25)), .int .i64 (placeOf 7 wdOf (s.extract 0 3))]] w
    fun r w' => r = .returned (.int .i64 (pSec s)) ∧ Below w.heap.size w w' := fun w => by
    have := rseconds_calls (pY s) (pM s) (pD s) (pH s) (pI s) (pS s) (pW s) w
    rw [if_pos (show isDate (pY s) (pM s) (pD s) (pH s) (pI s) (pS s) (pW s) from hd)] at this
    exact this
  replace hp0 : 0 ≤ pSec s := hp0
  replace hp1 : pSec s ≤ 253402300799 := hp1
  have hst := rstamp_calls (pSec s) hp0 hp1
  obtain ⟨hpl1, hpl2⟩ := placeGo_bd 12 moOf (s.extract 8 11)
  generalize pSec s = t at *
  by_cases he : stampOf t = s
  · have hq := (Lib.bytes_beq_iff (stampOf t) s).2 he
    rw [if_pos he, decide_eq_true he]
    replace hsec := Lib.hid hsec
    replace hf1 := Lib.hid hf1
    replace hf2 := Lib.hid hf2
    replace hst := Lib.hid hst
    clear hd he
    generalize stampOf t = u at *
    go_enter Try.func24, Try.ntmps24
    go_wp2
    (apply wp_region_text 24; kernel_rfl; kernel_rfl; intro Fin hFin; (repeat (first | (apply text_run; exact rfl; (focus (intro bs d hF K hK; (try rw [app_app] at hK); (try rw [app_app]); go_step; first  | (go_at_call 39; ((with_reducible refine (hf1.out _).mono ?_); rintro r w1 ⟨rfl, rfl⟩; simp only []; exact hK _ (Below.refl _ _))) | (go_at_call 39; ((with_reducible refine (hf2.out _).mono ?_); rintro r w1 ⟨rfl, rfl⟩; simp only []; exact hK _ (Below.refl _ _))) | (go_at_call 40; ((with_reducible refine (rnumber_calls _ (by simp; omega) _).mono ?_); rintro r w1 ⟨rfl, rfl⟩; simp only []; exact hK _ (Below.refl _ _)))  | (refine hK _ ?_; (repeat' (first | (with_reducible exact Below.refl _ _) | (with_reducible refine Below.app ?_ ?_ _ _) | (with_reducible refine Below.alloc ?_ ?_ _) | (with_reducible refine Below.drew ?_) | (with_reducible refine Below.setCell ?_ ?_ _) | (with_reducible assumption) | omega | (simp; omega) | (simp; done)))))); (try simp only [Act.put, List.setIfInBounds_toArray, List.set_cons_zero, List.set_cons_succ]))  | (apply text_has (NewAt w.heap.size (.cells #[.int .i64 0, .int .i64 0, .int .i64 0, .int .i64 0, .int .i64 0, .int .i64 0, .int .i64 0] 27)); exact rfl; exact NewAt.mono; exact rfl; (focus (intro bs d hF K hK; (try rw [app_app] at hK); (try rw [app_app]); go_step; refine hK _ _ ?g1 (NewAt.app ?g2 ?g3); (case g1 => (repeat' (first | (with_reducible exact Below.refl _ _) | (with_reducible refine Below.app ?_ ?_ _ _) | (with_reducible refine Below.alloc ?_ ?_ _) | (with_reducible refine Below.drew ?_) | (with_reducible refine Below.setCell ?_ ?_ _) | (with_reducible assumption) | omega | (simp; omega) | (simp; done)))); (case g2 => (first | (simp; done) | (simp; omega))); (case g3 => omega))); intro v; (try simp only [Act.put, factOf, List.setIfInBounds_toArray, List.set_cons_zero, List.set_cons_succ]))  | (apply text_skip; exact rfl; (try simp only [Act.put, List.setIfInBounds_toArray, List.set_cons_zero, List.set_cons_succ])))); apply text_end; apply hFin; clear hFin Fin; intro bs d hfa)
    obtain ⟨⟨b, rfl, hbk, hblk⟩, -⟩ := hfa
    (refine wpList_store_row rfl 27 _ _ rfl b _ rfl rfl 27 _ hblk (by kernel_rfl) rfl (by simp [Value.oneCell']) ?_; obtain ⟨cs, he, hblk2⟩ := stored_new _ _ _ _ _ _ (#[.int .i64 (numOf (s.extract 12 16)), .int .i64 (placeOf 12 moOf (s.extract 8 11) + 1), .int .i64 (numOf (s.extract 5 7)), .int .i64 (numOf (s.extract 17 19)), .int .i64 (numOf (s.extract 20 22)), .int .i64 (numOf (s.extract 23 25)), .int .i64 (placeOf 7 wdOf (s.extract 0 3))]) hbk hblk; rw [he]; have r0 := cell_of_block hblk2 0; have r1 := cell_of_block hblk2 1; have r2 := cell_of_block hblk2 2; have r3 := cell_of_block hblk2 3; have r4 := cell_of_block hblk2 4; have r5 := cell_of_block hblk2 5; have r6 := cell_of_block hblk2 6; clear hblk hblk2 he)
    go_wp2_with first
      | (go_at_call 22; ((refine (hsec.out _).mono ?_); rintro r w1 ⟨rfl, hb⟩; obtain ⟨b1, b1d, rfl⟩ := of_below hb; clear hb))
      | (go_at_call 16; ((refine (hst.out _).mono ?_); rintro r w1 ⟨rfl, hb⟩; obtain ⟨b2, b2d, rfl⟩ := of_below hb; clear hb))
    go_returns; exact ⟨rfl, by (repeat' (first | (with_reducible exact Below.refl _ _) | (with_reducible refine Below.app ?_ ?_ _ _) | (with_reducible refine Below.alloc ?_ ?_ _) | (with_reducible refine Below.drew ?_) | (with_reducible refine Below.setCell ?_ ?_ _) | (with_reducible assumption) | omega | (simp; omega) | (simp; done)))⟩
  · have hq := (Lib.bytes_beq_false_iff (stampOf t) s).2 he
    rw [if_neg he, decide_eq_false he]
    replace hsec := Lib.hid hsec
    replace hf1 := Lib.hid hf1
    replace hf2 := Lib.hid hf2
    replace hst := Lib.hid hst
    clear hd he
    generalize stampOf t = u at *
    go_enter Try.func24, Try.ntmps24
    go_wp2
    (apply wp_region_text 24; kernel_rfl; kernel_rfl; intro Fin hFin; (repeat (first | (apply text_run; exact rfl; (focus (intro bs d hF K hK; (try rw [app_app] at hK); (try rw [app_app]); go_step; first  | (go_at_call 39; ((with_reducible refine (hf1.out _).mono ?_); rintro r w1 ⟨rfl, rfl⟩; simp only []; exact hK _ (Below.refl _ _))) | (go_at_call 39; ((with_reducible refine (hf2.out _).mono ?_); rintro r w1 ⟨rfl, rfl⟩; simp only []; exact hK _ (Below.refl _ _))) | (go_at_call 40; ((with_reducible refine (rnumber_calls _ (by simp; omega) _).mono ?_); rintro r w1 ⟨rfl, rfl⟩; simp only []; exact hK _ (Below.refl _ _)))  | (refine hK _ ?_; (repeat' (first | (with_reducible exact Below.refl _ _) | (with_reducible refine Below.app ?_ ?_ _ _) | (with_reducible refine Below.alloc ?_ ?_ _) | (with_reducible refine Below.drew ?_) | (with_reducible refine Below.setCell ?_ ?_ _) | (with_reducible assumption) | omega | (simp; omega) | (simp; done)))))); (try simp only [Act.put, List.setIfInBounds_toArray, List.set_cons_zero, List.set_cons_succ]))  | (apply text_has (NewAt w.heap.size (.cells #[.int .i64 0, .int .i64 0, .int .i64 0, .int .i64 0, .int .i64 0, .int .i64 0, .int .i64 0] 27)); exact rfl; exact NewAt.mono; exact rfl; (focus (intro bs d hF K hK; (try rw [app_app] at hK); (try rw [app_app]); go_step; refine hK _ _ ?g1 (NewAt.app ?g2 ?g3); (case g1 => (repeat' (first | (with_reducible exact Below.refl _ _) | (with_reducible refine Below.app ?_ ?_ _ _) | (with_reducible refine Below.alloc ?_ ?_ _) | (with_reducible refine Below.drew ?_) | (with_reducible refine Below.setCell ?_ ?_ _) | (with_reducible assumption) | omega | (simp; omega) | (simp; done)))); (case g2 => (first | (simp; done) | (simp; omega))); (case g3 => omega))); intro v; (try simp only [Act.put, factOf, List.setIfInBounds_toArray, List.set_cons_zero, List.set_cons_succ]))  | (apply text_skip; exact rfl; (try simp only [Act.put, List.setIfInBounds_toArray, List.set_cons_zero, List.set_cons_succ])))); apply text_end; apply hFin; clear hFin Fin; intro bs d hfa)
    obtain ⟨⟨b, rfl, hbk, hblk⟩, -⟩ := hfa
    (refine wpList_store_row rfl 27 _ _ rfl b _ rfl rfl 27 _ hblk (by kernel_rfl) rfl (by simp [Value.oneCell']) ?_; obtain ⟨cs, he, hblk2⟩ := stored_new _ _ _ _ _ _ (#[.int .i64 (numOf (s.extract 12 16)), .int .i64 (placeOf 12 moOf (s.extract 8 11) + 1), .int .i64 (numOf (s.extract 5 7)), .int .i64 (numOf (s.extract 17 19)), .int .i64 (numOf (s.extract 20 22)), .int .i64 (numOf (s.extract 23 25)), .int .i64 (placeOf 7 wdOf (s.extract 0 3))]) hbk hblk; rw [he]; have r0 := cell_of_block hblk2 0; have r1 := cell_of_block hblk2 1; have r2 := cell_of_block hblk2 2; have r3 := cell_of_block hblk2 3; have r4 := cell_of_block hblk2 4; have r5 := cell_of_block hblk2 5; have r6 := cell_of_block hblk2 6; clear hblk hblk2 he)
    go_wp2_with first
      | (go_at_call 22; ((refine (hsec.out _).mono ?_); rintro r w1 ⟨rfl, hb⟩; obtain ⟨b1, b1d, rfl⟩ := of_below hb; clear hb))
      | (go_at_call 16; ((refine (hst.out _).mono ?_); rintro r w1 ⟨rfl, hb⟩; obtain ⟨b2, b2d, rfl⟩ := of_below hb; clear hb))
    go_returns; exact ⟨rfl, by (repeat' (first | (with_reducible exact Below.refl _ _) | (with_reducible refine Below.app ?_ ?_ _ _) | (with_reducible refine Below.alloc ?_ ?_ _) | (with_reducible refine Below.drew ?_) | (with_reducible refine Below.setCell ?_ ?_ _) | (with_reducible assumption) | omega | (simp; omega) | (simp; done)))⟩

open Classical in
/-- Is that a stamp? -/
noncomputable def pOk (s : ByteArray) : Bool := decide (s.size = 31 ∧ marksB s ∧ pDate s)
open Classical in
noncomputable def pTime (s : ByteArray) : Int := if s.size = 31 ∧ marksB s ∧ pDate s then pSec s else 0
open Classical in
theorem rparse_calls (s : ByteArray) (hl : s.size ≤ 9223372036854775807) (w : World) : Calls Try.prog 24 #[.string s] w fun r w' => r = .returned (.tuple #[.int .i64 (pTime s), .bool (pOk s)]) ∧ Below w.heap.size w w' := by
  unfold pOk pTime
  by_cases hs : s.size = 31
  · by_cases hd : pDate s
    · have := rparse_date s hs hd w
      by_cases hm : marksB s
      · rw [if_pos ⟨hs, hm, hd⟩, decide_eq_true ⟨hs, hm, hd⟩]
        have he := (parse_iff s hs hd).1 hm
        rw [if_pos he, decide_eq_true he] at this
        exact this
      · rw [if_neg (fun h => hm h.2.1), decide_eq_false (fun h => hm h.2.1)]
        have he : ¬ stampOf (pSec s) = s := fun h => hm ((parse_iff s hs hd).2 h)
        rw [if_neg he, decide_eq_false he] at this
        exact this
    · rw [if_neg (fun h => hd h.2.2), decide_eq_false (fun h => hd h.2.2)]
      exact rparse_nodate s hs hd w
  · rw [if_neg (fun h => hs h.1), decide_eq_false (fun h => hs h.1)]
    exact rparse_short s hs hl w
end Go.Proofs.Ytbnghchniboggaa
