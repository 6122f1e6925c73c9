/-
  What the document's examples come to in the laws of layer 22; and what the arguments of these laws look like.
-/
import Derived.Test.YtncijlpnidomfaaProg
import Derived.Test.YtncijlpnidomfaaBase
import Derived.Test.YtncijlpnidomfaaSched
import Derived.Test.YtncijlpnidomfaaTries
import Derived.Test.YtncijlpnidomfaaStable
import Derived.Test.YtncijlpnidomfaaOpen
namespace Go.Proofs.Ytncijlpnidomfaa
open Go.ChangeShapes Go.WideShapes Go.ChangeAt Go.RowKit

theorem ints_new (w : World) (xs : List Int) (T : TypeId) : IntsAt (w.alloc (.cells (xs.map (Value.int .i64)).toArray T)) (some ⟨w.heap.size, 0, none⟩) xs := fun i hi =>
  ⟨w.heap.size, 0, rfl, by simp, by
    simp [go_sem, List.getD, hi]⟩
theorem ints_two (w : World) (a b : Int) (T : TypeId) : IntsAt (w.alloc (.cells #[.int .i64 a, .int .i64 b] T)) (some ⟨w.heap.size, 0, none⟩) [a, b] := ints_new w [a, b] T

set_option maxHeartbeats 2000000 in
theorem awake22 (w : World) : Calls Try.prog 6 #[] w fun r w' => r = .returned (.bool true) ∧ Below w.heap.size w w' := by
  have H0 := Lib.hid (ints_two w 10 20 3)
  have e1 : tr1 0 = 1 := rfl
  have e2 : delay [10, 20] 45 1 = 10 := by decide
  have e3 : delay [10, 20] 45 5 = 20 := by decide
  have e4 : good [10, 20] 45 = true := by decide
  have e5 : tries [10, 20] 45 = 3 := by decide
  have e6 : dueOf 100 10 = 110 := by decide
  go_enter Try.func6, Try.ntmps6
  go_wp2_with first
    | (go_at_call 10; ((refine (fail_calls _ [10, 20] _ _ _ _ _ _ _ _ _ (Lib.hid (H0.out.below (by (repeat' (first | (with_reducible exact Below.refl _ _) | (with_reducible refine Below.app ?_ ?_ _ _) | (with_reducible refine Below.alloc ?_ ?_ _) | (with_reducible refine Below.drew ?_) | (with_reducible refine Below.setCell ?_ ?_ _) | (with_reducible assumption) | omega | (simp; omega) | (simp; done)))) (Nat.le_refl _))) (by decide) (by decide) (by decide)).mono ?_); rintro r w1 ⟨rfl, hb⟩; obtain ⟨b1, b1d, rfl⟩ := of_below hb; clear hb))
    | (go_at_call 11; ((refine (good_calls _ [10, 20] _ _ _ (Lib.hid (H0.out.below (by (repeat' (first | (with_reducible exact Below.refl _ _) | (with_reducible refine Below.app ?_ ?_ _ _) | (with_reducible refine Below.alloc ?_ ?_ _) | (with_reducible refine Below.drew ?_) | (with_reducible refine Below.setCell ?_ ?_ _) | (with_reducible assumption) | omega | (simp; omega) | (simp; done)))) (Nat.le_refl _))) (by decide)).mono ?_); rintro r w1 ⟨rfl, hb⟩; obtain ⟨b2, b2d, rfl⟩ := of_below hb; clear hb))
    | (go_at_call 12; ((refine (delay_calls _ [10, 20] _ _ _ _ (Lib.hid (H0.out.below (by (repeat' (first | (with_reducible exact Below.refl _ _) | (with_reducible refine Below.app ?_ ?_ _ _) | (with_reducible refine Below.alloc ?_ ?_ _) | (with_reducible refine Below.drew ?_) | (with_reducible refine Below.setCell ?_ ?_ _) | (with_reducible assumption) | omega | (simp; omega) | (simp; done)))) (Nat.le_refl _))) (by decide)).mono ?_); rintro r w1 ⟨rfl, hb⟩; obtain ⟨b3, b3d, rfl⟩ := of_below hb; clear hb))
    | (go_at_call 7; ((refine (tries_calls _ [10, 20] _ _ _ (Lib.hid (H0.out.below (by (repeat' (first | (with_reducible exact Below.refl _ _) | (with_reducible refine Below.app ?_ ?_ _ _) | (with_reducible refine Below.alloc ?_ ?_ _) | (with_reducible refine Below.drew ?_) | (with_reducible refine Below.setCell ?_ ?_ _) | (with_reducible assumption) | omega | (simp; omega) | (simp; done)))) (Nat.le_refl _))) (by decide)).mono ?_); rintro r w1 ⟨rfl, hb⟩; obtain ⟨b4, b4d, rfl⟩ := of_below hb; clear hb))
    | (go_at_call 14; ((refine (due_calls _ _ _ _ _ _).mono ?_); rintro r w1 ⟨rfl, hb⟩; obtain ⟨b5, b5d, rfl⟩ := of_below hb; clear hb))
  go_returns; exact ⟨rfl, by (repeat' (first | (with_reducible exact Below.refl _ _) | (with_reducible refine Below.app ?_ ?_ _ _) | (with_reducible refine Below.alloc ?_ ?_ _) | (with_reducible refine Below.drew ?_) | (with_reducible refine Below.setCell ?_ ?_ _) | (with_reducible assumption) | omega | (simp; omega) | (simp; done)))⟩

theorem cellsInt : Try.prog.cellsOf 3 = 1 := by kernel_rfl
theorem cellsInts : Try.prog.cellsOf 22 = 1 := by kernel_rfl
theorem cellsRetry : Try.prog.cellsOf 24 = 2 := by kernel_rfl
theorem cellsState : Try.prog.cellsOf 29 = 4 := by kernel_rfl
section
variable {H : Type} {enc : TypeId × Value → H} {w : World}
theorem open_retry {r : Reach} {b0 : Nat} {v : Value} {d : DataW H} {ps : List MemPlace} {spare : Nat → Bool} (hv : Value.okWide Try.prog w r b0 24 v) (h : DataW.Trod enc Try.prog w 0 spare true 24 v d ps) :
    ∃ p zs cap e, v = .agg #[.slice p zs.length cap, .int .i64 e] ∧ IntsAt w p zs ∧ zs.length ≤ maxLen := by
  obtain ⟨cs, rfl, hl, hf⟩ := open_agg Try.underlying24 hv h
  rw [cellsRetry] at hl
  match cs, hl with
  | [c0, c1], _ =>
    obtain ⟨m0, y0, h0⟩ := hf 0 _ rfl 1 cellsInts
    obtain ⟨m1, y1, h1⟩ := hf 1 _ rfl 1 cellsInt
    obtain ⟨p, zs, cap, e0, e1, e2, e3⟩ := open_shows Try.underlying22 cellsInt (by omega) (isInt_of Try.underlying3) h0
    obtain ⟨z, e4, _⟩ := isInt_of (w := w) Try.underlying3 h1
    simp at e0 e4
    subst e0; subst e4
    exact ⟨p, zs, cap, z, rfl, ints_of_shows e3, by omega⟩
theorem open_state {r : Reach} {b0 : Nat} {v : Value} {d : DataW H} {ps : List MemPlace} {spare : Nat → Bool} (hv : Value.okWide Try.prog w r b0 29 v) (h : DataW.Trod enc Try.prog w 0 spare true 29 v d ps) :
    ∃ a b c d, v = .agg #[.int .i64 a, .int .i64 b, .int .i64 c, .int .i64 d] ∧ -9223372036854775808 ≤ b := by
  obtain ⟨cs, rfl, hl, hf⟩ := open_agg Try.underlying29 hv h
  rw [cellsState] at hl
  match cs, hl with
  | [c0, c1, c2, c3], _ =>
    obtain ⟨m0, y0, h0⟩ := hf 0 _ rfl 1 cellsInt
    obtain ⟨m1, y1, h1⟩ := hf 1 _ rfl 1 cellsInt
    obtain ⟨m2, y2, h2⟩ := hf 2 _ rfl 1 cellsInt
    obtain ⟨m3, y3, h3⟩ := hf 3 _ rfl 1 cellsInt
    obtain ⟨z0, e0, _⟩ := isInt_of (w := w) Try.underlying3 h0
    obtain ⟨z1, e1, e1b, _⟩ := isInt_of (w := w) Try.underlying3 h1
    obtain ⟨z2, e2, _⟩ := isInt_of (w := w) Try.underlying3 h2
    obtain ⟨z3, e3, _⟩ := isInt_of (w := w) Try.underlying3 h3
    simp at e0 e1 e2 e3
    subst e0; subst e1; subst e2; subst e3
    exact ⟨z0, z1, z2, z3, rfl, e1b⟩
end

end Go.Proofs.Ytncijlpnidomfaa
