/-
  clock.ClockParses answers true at every input: which time any text is the stamp of, if any, is as the document says.
-/
import Derived.Test.YtbnghchniboggaaAwake09
import Derived.Test.YtbnghchniboggaaRow
import Derived.Test.YtbnghchniboggaaOpen
import Derived.ChangeMaps5
namespace Go.Proofs.Ytbnghchniboggaa
open Go.ChangeMaps Go.ChangeShapes Go.WideShapes Go.ChangeAt Go.RowKit

set_option maxRecDepth 20000 in
set_option maxHeartbeats 4000000 in
theorem clockParses_walk (s : ByteArray) (hl : s.size ≤ 9223372036854775807) (w : World) : Calls Try.prog 6 #[.string s] w fun r w' => r = .returned (.bool true) ∧ Below w.heap.size w w' := by
  have c1 := Lib.hid (parse_calls s hl)
  have c2 := Lib.hid (rparse_calls s hl)
  go_enter Try.func6, Try.ntmps6
  go_wp2_with first
    | (go_at_call 12; ((refine (awake09 _).mono ?_); rintro r w1 ⟨rfl, hb⟩; obtain ⟨b1, b1d, rfl⟩ := of_below hb; clear hb))
    | (go_at_call 23; ((refine (c1.out _).mono ?_); rintro r w1 ⟨rfl, hb⟩; obtain ⟨b2, b2d, rfl⟩ := of_below hb; clear hb))
    | (go_at_call 24; ((refine (c2.out _).mono ?_); rintro r w1 ⟨rfl, hb⟩; obtain ⟨b3, b3d, rfl⟩ := of_below hb; clear hb))
  all_goals (go_returns; exact ⟨rfl, by (repeat' (first | (with_reducible exact Below.refl _ _) | (with_reducible refine Below.app ?_ ?_ _ _) | (with_reducible refine Below.alloc ?_ ?_ _) | (with_reducible refine Below.drew ?_) | (with_reducible refine Below.setCell ?_ ?_ _) | (with_reducible assumption) | omega | (simp; omega) | (simp; done)))⟩)

theorem clockParses_law : LawWalk 6 Try.f6 := by
  intro H enc W base args ds ps hA hval
  rw [Try.params6] at hA hval
  obtain ⟨v0, vs0, d0, ds0, p0, q0, hargs, rfl, rfl, h0, r0⟩ := trodAll_cons hA
  obtain ⟨rfl, rfl, rfl⟩ := trodAll_nil r0
  obtain rfl : args = #[v0] := by cases args; simp_all
  obtain ⟨s, rfl, -, -, hs⟩ := open_string Try.underlying9 (hval 0 _ _ rfl rfl) h0
  exact clockParses_walk s (by unfold maxLen at hs; omega) W

set_option maxRecDepth 100000 in
theorem clockParses_holds : Rows.ClockParsesSaid :=
  OpenClaim.holds_of_wide 6 Try.f6 rfl rfl rfl rfl rfl rfl rfl ⟨rfl, rfl, rfl, rfl, rfl⟩ rfl rfl rfl rfl rfl (by kernel_rfl) Try.func6 (by kernel_rfl)
    (of_decide_eq_true (by kernel_rfl)) (by unfold Func.isWrapper; first | (rw [if_pos (by decide +kernel)]; kernel_rfl) | (rw [if_neg (by decide +kernel)]; exact ⟨rfl, rfl⟩))
    (fun os started H enc _ => law_lift (s := Rows.clockParsesSpec) Try.func6 (by kernel_rfl) (by kernel_rfl) rfl (fun H ds hd => by match ds, hd with | [_], _ => rfl) (by kernel_rfl) os started H enc
      (ChangeSpec.witness6 (enc := enc) (C := Try.checked) false ⟨#[], #[.string ⟨#[]⟩], []⟩ 8 (by kernel_rfl) (by kernel_rfl) (by kernel_rfl) (by kernel_rfl)) clockParses_law)
#print axioms clockParses_holds
end Go.Proofs.Ytbnghchniboggaa
