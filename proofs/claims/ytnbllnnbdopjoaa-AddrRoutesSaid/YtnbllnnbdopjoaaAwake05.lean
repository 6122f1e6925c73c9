/-
  What the document's examples come to in the laws of layer 5.
-/
import Derived.Test.YtnbllnnbdopjoaaRead
import Derived.Test.YtnbllnnbdopjoaaAddrText
namespace Go.Proofs.Ytnbllnnbdopjoaa
open Go.ChangeShapes Go.WideShapes Go.ChangeAt Go.RowKit

theorem aw_parse : parseP ⟨#[34, 97, 32, 98, 34, 64, 120, 46, 111, 114, 103]⟩ = (⟨#[97, 32, 98]⟩, ⟨#[120, 46, 111, 114, 103]⟩, 0) := by decide +kernel
theorem aw_read : readP ⟨#[60, 64, 114, 46, 110, 101, 116, 58, 97, 64, 120, 62, 32, 121]⟩ false = (⟨#[97]⟩, ⟨#[120]⟩, 12, 0) := by decide +kernel
theorem aw_none : readP ⟨#[60, 62]⟩ false = (⟨#[]⟩, ⟨#[]⟩, 0, 3) := by decide +kernel
theorem aw_text : textS ⟨#[97, 32, 98]⟩ ⟨#[120, 46, 111, 114, 103]⟩ = ⟨#[34, 97, 32, 98, 34, 64, 120, 46, 111, 114, 103]⟩ := by decide +kernel
theorem aw_code : textE ⟨#[97, 32, 98]⟩ ⟨#[120, 46, 111, 114, 103]⟩ = 0 := by decide +kernel
set_option maxHeartbeats 4000000 in
set_option maxRecDepth 20000 in
theorem awake05 (w : World) : Calls Try.prog 8 #[] w fun r w' => r = .returned (.bool true) ∧ Below w.heap.size w w' := by
  have h0 := parse_calls ⟨#[34, 97, 32, 98, 34, 64, 120, 46, 111, 114, 103]⟩ (by show (11 : Nat) ≤ _; omega)
  have h1 := read_calls ⟨#[60, 64, 114, 46, 110, 101, 116, 58, 97, 64, 120, 62, 32, 121]⟩ false (by show (14 : Nat) ≤ _; omega)
  have h2 := read_calls ⟨#[60, 62]⟩ false (by show (2 : Nat) ≤ _; omega)
  have h3 := text_calls ⟨#[97, 32, 98]⟩ ⟨#[120, 46, 111, 114, 103]⟩ (by show (3 : Nat) ≤ _; omega) (by show (5 : Nat) ≤ _; omega)
  rw [aw_parse] at h0
  rw [aw_read] at h1
  rw [aw_none] at h2
  rw [aw_text, aw_code] at h3
  unfold ReadIs at h1 h2
  replace h0 := Lib.hid h0
  replace h1 := Lib.hid h1
  replace h2 := Lib.hid h2
  replace h3 := Lib.hid h3
  go_enter Try.func8, Try.ntmps8
  go_wp2_with first
    | (go_at_call 9; ((with_reducible refine (h0.out _).mono ?_); rintro r w1 ⟨rfl, hb⟩; obtain ⟨b1, b1d, rfl⟩ := of_below hb; clear hb))
    | (go_at_call 11; ((with_reducible refine (h1.out _).mono ?_); rintro r w1 ⟨rfl, hb⟩; obtain ⟨b2, b2d, rfl⟩ := of_below hb; clear hb))
    | (go_at_call 11; ((with_reducible refine (h2.out _).mono ?_); rintro r w1 ⟨rfl, hb⟩; obtain ⟨b3, b3d, rfl⟩ := of_below hb; clear hb))
    | (go_at_call 15; ((with_reducible refine (h3.out _).mono ?_); rintro r w1 ⟨rfl, hb⟩; obtain ⟨b4, b4d, rfl⟩ := of_below hb; clear hb))
  go_returns; exact ⟨rfl, by (repeat' (first | (with_reducible exact Below.refl _ _) | (with_reducible refine Below.app ?_ ?_ _ _) | (with_reducible refine Below.alloc ?_ ?_ _) | (with_reducible refine Below.drew ?_) | (with_reducible refine Below.setCell ?_ ?_ _) | (with_reducible assumption) | omega | (simp; omega) | (simp; done)))⟩
end Go.Proofs.Ytnbllnnbdopjoaa
