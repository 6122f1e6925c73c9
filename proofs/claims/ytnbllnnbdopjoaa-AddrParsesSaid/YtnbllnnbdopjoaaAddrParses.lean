/-
  addr.AddrParses answers true at every input: which mailbox, or which path, any text is or begins with, is as the document says.
-/
import Derived.Test.YtnbllnnbdopjoaaAwake05
import Derived.Test.YtnbllnnbdopjoaaRefRead
import Derived.Test.YtnbllnnbdopjoaaRefLabels
import Derived.Test.YtnbllnnbdopjoaaRefDomLaw
import Derived.Test.YtnbllnnbdopjoaaRow
import Derived.Test.YtnbllnnbdopjoaaOpen
import Derived.ChangeMaps5
namespace Go.Proofs.Ytnbllnnbdopjoaa
open Go.ChangeMaps Go.ChangeShapes Go.WideShapes Go.ChangeAt Go.RowKit

set_option maxRecDepth 20000 in
set_option maxHeartbeats 8000000 in
theorem addrParses_walk (s : ByteArray) (null : Bool) (w : World) : Calls Try.prog 3 #[.string s, .bool null] w fun r w' => r = .returned (.bool true) ∧ Below w.heap.size w w' := by
  by_cases hs : s.size ≤ 400
  · have hs2 : ¬ 400 < (s.size : Int) := by omega
    have c1 := parse_calls s (by omega)
    have c2 := rparse_calls s (by omega)
    have c3 := read_calls s null (by omega)
    have c4 := rread_calls s null (by omega)
    have c5 := domain_calls s (by omega)
    have c6 := rdomain_calls s (by omega)
    rw [← domain_law] at c6
    unfold ParseIs at c2
    unfold ReadIs at c3
    unfold GotIs at c4
    generalize parseP s = p at *
    generalize readP s null = q at *
    generalize domainB s.data.toList = b at *
    obtain ⟨p1, p2, p3⟩ := p
    obtain ⟨q1, q2, q3, q4⟩ := q
    replace c1 := Lib.hid c1
    replace c2 := Lib.hid c2
    replace c3 := Lib.hid c3
    replace c4 := Lib.hid c4
    replace c5 := Lib.hid c5
    replace c6 := Lib.hid c6
    clear hs
    go_enter Try.func3, Try.ntmps3
    go_wp2_with first
      | (go_at_call 8; ((refine (awake05 _).mono ?_); rintro r w1 ⟨rfl, hb⟩; obtain ⟨b1, b1d, rfl⟩ := of_below hb; clear hb))
      | (go_at_call 9; ((refine (c1.out _).mono ?_); rintro r w1 ⟨rfl, hb⟩; obtain ⟨b2, b2d, rfl⟩ := of_below hb; clear hb))
      | (go_at_call 10; ((refine (c2.out _).mono ?_); rintro r w1 ⟨rfl, hb⟩; obtain ⟨b3, b3d, rfl⟩ := of_below hb; clear hb))
      | (go_at_call 11; ((refine (c3.out _).mono ?_); rintro r w1 ⟨rfl, hb⟩; obtain ⟨b4, b4d, rfl⟩ := of_below hb; clear hb))
      | (go_at_call 12; ((refine (c4.out _).mono ?_); rintro r w1 ⟨rfl, hb⟩; obtain ⟨b5, b5d, rfl⟩ := of_below hb; clear hb))
      | (go_at_call 13; ((refine (c5.out _).mono ?_); rintro r w1 ⟨rfl, hb⟩; obtain ⟨b6, b6d, rfl⟩ := of_below hb; clear hb))
      | (go_at_call 14; ((refine (c6.out _).mono ?_); rintro r w1 ⟨rfl, hb⟩; obtain ⟨b7, b7d, rfl⟩ := of_below hb; clear hb))
    all_goals (go_returns; exact ⟨rfl, by (repeat' (first | (with_reducible exact Below.refl _ _) | (with_reducible refine Below.app ?_ ?_ _ _) | (with_reducible refine Below.alloc ?_ ?_ _) | (with_reducible refine Below.drew ?_) | (with_reducible refine Below.setCell ?_ ?_ _) | (with_reducible assumption) | omega | (simp; omega) | (simp; done)))⟩)
  · have hs2 : 400 < (s.size : Int) := by omega
    clear hs
    go_enter Try.func3, Try.ntmps3
    go_wp2_with first
      | (go_at_call 8; ((refine (awake05 _).mono ?_); rintro r w1 ⟨rfl, hb⟩; obtain ⟨b1, b1d, rfl⟩ := of_below hb; clear hb))
    all_goals (go_returns; exact ⟨rfl, by (repeat' (first | (with_reducible exact Below.refl _ _) | (with_reducible refine Below.app ?_ ?_ _ _) | (with_reducible refine Below.alloc ?_ ?_ _) | (with_reducible refine Below.drew ?_) | (with_reducible refine Below.setCell ?_ ?_ _) | (with_reducible assumption) | omega | (simp; omega) | (simp; done)))⟩)

theorem addrParses_law : LawWalk 3 Try.f3 := by
  intro H enc W base args ds ps hA hval
  rw [Try.params3] at hA hval
  obtain ⟨v0, vs0, d0, ds0, p0, q0, hargs, rfl, rfl, h0, r0⟩ := trodAll_cons hA
  obtain ⟨v1, vs1, d1, ds1, p1, q1, hargs1, rfl, rfl, h1, r1⟩ := trodAll_cons r0
  obtain ⟨rfl, rfl, rfl⟩ := trodAll_nil r1
  obtain rfl : args = #[v0, v1] := by cases args; simp_all
  obtain ⟨s, rfl, -, -, hs⟩ := open_string Try.underlying9 (hval 0 _ _ rfl rfl) h0
  obtain ⟨b, rfl, -⟩ := open_bool Try.underlying4 (hval 1 _ _ rfl rfl) h1
  exact addrParses_walk s b W

set_option maxRecDepth 100000 in
theorem addrParses_holds : Rows.AddrParsesSaid :=
  OpenClaim.holds_of_wide 3 Try.f3 rfl rfl rfl rfl rfl rfl rfl ⟨rfl, rfl, rfl, rfl, rfl⟩ rfl rfl rfl rfl rfl (by kernel_rfl) Try.func3 (by kernel_rfl)
    (of_decide_eq_true (by kernel_rfl)) (by unfold Func.isWrapper; first | (rw [if_pos (by decide +kernel)]; kernel_rfl) | (rw [if_neg (by decide +kernel)]; exact ⟨rfl, rfl⟩))
    (fun os started H enc _ => law_lift (s := Rows.addrParsesSpec) Try.func3 (by kernel_rfl) (by kernel_rfl) rfl (fun H ds hd => by match ds, hd with | [_, _], _ => rfl) (by kernel_rfl) os started H enc
      (ChangeSpec.witness6 (enc := enc) (C := Try.checked) false ⟨#[], #[.string ⟨#[]⟩, .bool false], []⟩ 8 (by kernel_rfl) (by kernel_rfl) (by kernel_rfl) (by kernel_rfl)) addrParses_law)
#print axioms addrParses_holds
end Go.Proofs.Ytnbllnnbdopjoaa
