/-
  What the document's examples come to in the laws of layer 27.
-/
import Derived.Test.YtalkglheaadigaaDoorRules
import Derived.Test.YtalkglheaadigaaDoorTargets1
namespace Go.Proofs.YtalkglheaadigaaDoor
set_option maxRecDepth 20000
open Go.ChangeShapes Go.WideShapes Go.ChangeAt Go.RowKit

theorem ints_new27 (w : World) (xs : List Int) (T : TypeId) : IntsAt (w.alloc (.cells (xs.map (Value.int .i64)).toArray T)) (some ⟨w.heap.size, 0, none⟩) xs := fun i hi =>
  ⟨w.heap.size, 0, rfl, by simp, by
    simp [go_sem, List.getD, hi]⟩
theorem ints_two27 (w : World) (a b : Int) (T : TypeId) : IntsAt (w.alloc (.cells #[.int .i64 a, .int .i64 b] T)) (some ⟨w.heap.size, 0, none⟩) [a, b] := ints_new27 w [a, b] T
theorem ints_at27 (w : World) (b : Nat) (hb : b = w.heap.size) (x y : Int) (T : TypeId) : IntsAt (w.alloc (.cells #[.int .i64 x, .int .i64 y] T)) (some ⟨b, 0, none⟩) [x, y] := by subst hb; exact ints_two27 w x y T
theorem rcpt_ex (w : World) : Calls Tryd.prog 8 #[.int .i64 1, .int .i64 0, .bool false] w (OneLine 452 ⟨#[52, 46, 50, 46, 50]⟩ ⟨#[111, 118, 101, 114, 32, 113, 117, 111, 116, 97]⟩ w) := rcpt_calls 1 0 false w
theorem queued_ex (w : World) : Calls Tryd.prog 9 #[.int .i64 0] w (OneLine 250 (queuedEnh 0) (queuedLine 0) w) := queued_calls 0 w
theorem given_ex (p : Option Addr) (w : World) (hz : Hid (IntsAt w p [0, 7])) : Calls Tryd.prog 10 #[.slice p 2 2] w (OneLine 550 (givenEnh 7) (givenLine 7) w) := given_calls p [0, 7] 2 w hz (by decide)
theorem least_ex (w : World) : Calls Tryd.prog 31 #[.int .i64 64] w fun r w' => r = .returned (.int .i64 2) ∧ w = w' := least_calls 64 (by omega) (by omega) w
theorem origin_ex (w : World) : Calls Tryd.prog 30 #[.int .i64 1, .int .i64 0, .bool false] w fun r w' => r = .returned (.int .i64 64) ∧ w = w' := origin_calls 1 0 false w

set_option maxHeartbeats 2000000 in
theorem awake27 (w : World) : Calls Tryd.prog 7 #[] w fun r w' => r = .returned (.bool true) ∧ Below w.heap.size w w' := by
  have hf : ∀ (n : Int) (b c : Value) (w : World), (Instr.field 27 (.agg #[.int .i64 n, b, c]) 0).run Tryd.prog w = .ok (.int .i64 n) w := fun _ _ _ _ => by kernel_rfl
  go_enter Tryd.func7, Tryd.ntmps7
  go_wp2_with first
    | (go_at_call 8; ((with_reducible refine (rcpt_ex _).mono ?_); rintro r w1 ⟨p1, rfl, -, -, -, hb⟩; obtain ⟨b1, b1d, rfl⟩ := of_below hb; clear hb))
    | (go_at_call 9; ((with_reducible refine (queued_ex _).mono ?_); rintro r w1 ⟨p2, rfl, -, -, -, hb⟩; obtain ⟨b2, b2d, rfl⟩ := of_below hb; clear hb))
    | (go_at_call 30; ((with_reducible refine (origin_ex _).mono ?_); rintro r w1 ⟨rfl, rfl⟩))
    | (go_at_call 31; ((with_reducible refine (least_ex _).mono ?_); rintro r w1 ⟨rfl, rfl⟩))
    | (go_at_call 10; ((refine (given_ex _ _ ?hg).mono ?_); (case hg => exact Lib.hid (ints_at27 _ _ (by first | (simp; done) | (simp; omega)) 0 7 _)); rintro r w1 ⟨p3, rfl, -, -, -, hb⟩; obtain ⟨b3, b3d, rfl⟩ := of_below hb; clear hb))
    | (go_at_call 32; go_loud ((refine (targets_one _ _ (w.heap.size + b1.size + 1 + b2.size + 1 + b3.size + 1) ⟨#[97]⟩ ⟨#[120]⟩ _ ?h1 ?h2 ?h3 ?c1 ?c2 ?c3 ?c4 ?c5).mono ?_); (case h1 => first | (simp; done) | (simp; omega)); (case h2 => first | (simp; done) | (simp; omega)); (case h3 => first | (simp; done) | (simp; omega)); (case c1 => go_simp); (case c2 => go_simp); (case c3 => go_simp); (case c4 => go_simp); (case c5 => go_simp); rintro r w1 ⟨⟨p4, c4, rfl⟩, hb⟩; obtain ⟨b4, b4d, rfl⟩ := of_below hb; clear hb))
  go_returns; exact ⟨rfl, by (repeat' (first | (with_reducible exact Below.refl _ _) | (with_reducible refine Below.app ?_ ?_ _ _) | (with_reducible refine Below.alloc ?_ ?_ _) | (with_reducible refine Below.drew ?_) | (with_reducible refine Below.setCell ?_ ?_ _) | (with_reducible assumption) | omega | (simp; omega) | (simp; done)))⟩
end Go.Proofs.YtalkglheaadigaaDoor
