/-
  What the document's examples come to in the laws of layer 9.
-/
import Derived.Test.YtbnghchniboggaaParseYes
import Derived.Test.YtbnghchniboggaaParseR
namespace Go.Proofs.Ytbnghchniboggaa
open Go.ChangeShapes Go.WideShapes Go.ChangeAt Go.RowKit

open Classical in
theorem parse_calls (s : ByteArray) (hl : s.size ≤ 9223372036854775807) (w : World) : Calls Try.prog 23 #[.string s] w fun r w' => r = .returned (.tuple #[.int .i64 (pTime s), .bool (pOk s)]) ∧ Below w.heap.size w w' := by
  unfold pOk pTime
  by_cases hs : s.size = 31
  · by_cases hz : s.extract 25 31 = zoneB
    · by_cases hm : marksOk s
      · have := parse_main s hs hz hm w
        unfold parseV at this
        by_cases hd : pDate s
        · rw [if_pos ⟨hs, ⟨hz, hm⟩, hd⟩, decide_eq_true ⟨hs, ⟨hz, hm⟩, hd⟩]
          rw [if_pos hd, decide_eq_true hd] at this
          exact this
        · rw [if_neg (fun h => hd h.2.2), decide_eq_false (fun h => hd h.2.2)]
          rw [if_neg hd, decide_eq_false hd] at this
          exact this
      · rw [if_neg (fun h => hm h.2.1.2), decide_eq_false (fun h => hm h.2.1.2)]
        exact parse_marks s hs hz hm w
    · rw [if_neg (fun h => hz h.2.1.1), decide_eq_false (fun h => hz h.2.1.1)]
      exact parse_zone s hs hz w
  · rw [if_neg (fun h => hs h.1), decide_eq_false (fun h => hs h.1)]
    exact parse_short s hs hl w
open Classical in
/-- A stamp is read as its time. -/
theorem parse_stamp (t : Int) (h0 : 0 ≤ t) (h1 : t ≤ 253402300799) (w : World) : Calls Try.prog 23 #[.string (stampOf t)] w fun r w' => r = .returned (.tuple #[.int .i64 t, .bool true]) ∧ Below w.heap.size w w' := by
  obtain ⟨k1, k2, k3, k4⟩ := stamp_tells t h0 h1
  have := parse_calls (stampOf t) (by omega) w
  unfold pOk pTime at this
  rw [if_pos ⟨k1, k2, k3⟩, decide_eq_true ⟨k1, k2, k3⟩, k4] at this
  exact this

theorem stamp_0 : stampOf 0 = ⟨#[84, 104, 117, 44, 32, 48, 49, 32, 74, 97, 110, 32, 49, 57, 55, 48, 32, 48, 48, 58, 48, 48, 58, 48, 48, 32, 43, 48, 48, 48, 48]⟩ := by decide
theorem stamp_b : stampOf 951782400 = ⟨#[84, 117, 101, 44, 32, 50, 57, 32, 70, 101, 98, 32, 50, 48, 48, 48, 32, 48, 48, 58, 48, 48, 58, 48, 48, 32, 43, 48, 48, 48, 48]⟩ := by decide
set_option maxHeartbeats 2000000 in
set_option maxRecDepth 20000 in
theorem awake09 (w : World) : Calls Try.prog 12 #[] w fun r w' => r = .returned (.bool true) ∧ Below w.heap.size w w' := by
  have h0 := stamp_calls 0 (by omega) (by omega)
  have h1 := stamp_calls 951782400 (by omega) (by omega)
  have h2 := parse_stamp 951782400 (by omega) (by omega)
  rw [stamp_0] at h0
  rw [stamp_b] at h1 h2
  have e1 : leap 2000 = true := by decide
  have e2 : leap 2100 = false := by decide
  replace h0 := Lib.hid h0
  replace h1 := Lib.hid h1
  replace h2 := Lib.hid h2
  go_enter Try.func12, Try.ntmps12
  go_wp2_with first
    | (go_at_call 15; ((with_reducible refine (h0.out _).mono ?_); rintro r w1 ⟨rfl, hb⟩; obtain ⟨b1, b1d, rfl⟩ := of_below hb; clear hb))
    | (go_at_call 15; ((with_reducible refine (h1.out _).mono ?_); rintro r w1 ⟨rfl, hb⟩; obtain ⟨b2, b2d, rfl⟩ := of_below hb; clear hb))
    | (go_at_call 23; ((refine (h2.out _).mono ?_); rintro r w1 ⟨rfl, hb⟩; obtain ⟨b3, b3d, rfl⟩ := of_below hb; clear hb))
    | (go_at_call 17; ((refine (leap_calls _ _).mono ?_); rintro r w1 ⟨rfl, rfl⟩))
  go_returns; exact ⟨rfl, by (repeat' (first | (with_reducible exact Below.refl _ _) | (with_reducible refine Below.app ?_ ?_ _ _) | (with_reducible refine Below.alloc ?_ ?_ _) | (with_reducible refine Below.drew ?_) | (with_reducible refine Below.setCell ?_ ?_ _) | (with_reducible assumption) | omega | (simp; omega) | (simp; done)))⟩
end Go.Proofs.Ytbnghchniboggaa
