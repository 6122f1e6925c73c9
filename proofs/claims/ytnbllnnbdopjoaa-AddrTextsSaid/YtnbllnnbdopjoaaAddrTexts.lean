/-
  addr.AddrTexts answers true at every input: how any mailbox is written, its path, its key, and whether it is right, is as the document says.
-/
import Derived.Test.YtnbllnnbdopjoaaAwake05
import Derived.Test.YtnbllnnbdopjoaaRefText
import Derived.Test.YtnbllnnbdopjoaaAddrRow
namespace Go.Proofs.Ytnbllnnbdopjoaa
open Go.ChangeMaps Go.ChangeShapes Go.WideShapes Go.ChangeAt Go.RowKit

set_option maxRecDepth 20000 in
set_option maxHeartbeats 8000000 in
theorem addrTexts_walk (x y : ByteArray) (w : World) : Calls Try.prog 7 #[.agg #[.string x, .string y]] w fun r w' => r = .returned (.bool true) ∧ Below w.heap.size w w' := by
  by_cases hx : x.size ≤ 100
  · by_cases hy : y.size ≤ 100
    · have hx2 : ¬ 100 < (x.size : Int) := by omega
      have hy2 : ¬ 100 < (y.size : Int) := by omega
      have c1 := text_calls x y (by omega) (by omega)
      have c2 := rtext_calls x y (by omega) (by omega)
      have c3 := path_calls x y (by omega) (by omega)
      have c4 := rpath_calls x y (by omega) (by omega)
      have c5 := good_calls x y (by omega) (by omega)
      have c6 := rgood_calls x y (by omega) (by omega)
      have c7 := key_calls x y (by omega) (by omega)
      have c8 := rkey_calls x y (by omega) (by omega)
      generalize textS x y = t1 at *
      generalize textE x y = t2 at *
      generalize pathS x y = t3 at *
      generalize pathE x y = t4 at *
      generalize goodB x y = t5 at *
      generalize keyS x y = t6 at *
      replace c1 := Lib.hid c1
      replace c2 := Lib.hid c2
      replace c3 := Lib.hid c3
      replace c4 := Lib.hid c4
      replace c5 := Lib.hid c5
      replace c6 := Lib.hid c6
      replace c7 := Lib.hid c7
      replace c8 := Lib.hid c8
      clear hx hy
      go_enter Try.func7, Try.ntmps7
      go_wp2_with first
        | (go_at_call 8; ((refine (awake05 _).mono ?_); rintro r w1 ⟨rfl, hb⟩; obtain ⟨b1, b1d, rfl⟩ := of_below hb; clear hb))
        | (go_at_call 15; ((refine (c1.out _).mono ?_); rintro r w1 ⟨rfl, hb⟩; obtain ⟨b2, b2d, rfl⟩ := of_below hb; clear hb))
        | (go_at_call 21; ((refine (c2.out _).mono ?_); rintro r w1 ⟨rfl, hb⟩; obtain ⟨b3, b3d, rfl⟩ := of_below hb; clear hb))
        | (go_at_call 16; ((refine (c3.out _).mono ?_); rintro r w1 ⟨rfl, hb⟩; obtain ⟨b4, b4d, rfl⟩ := of_below hb; clear hb))
        | (go_at_call 22; ((refine (c4.out _).mono ?_); rintro r w1 ⟨rfl, hb⟩; obtain ⟨b5, b5d, rfl⟩ := of_below hb; clear hb))
      (apply wp_region_text 32; kernel_rfl; kernel_rfl; intro Fin hFin; (repeat (first | (apply text_run; exact rfl; (focus (intro bs d hF K hK; (repeat rw [app_app] at hK); (repeat rw [app_app]); (repeat rw [Array.append_assoc] at hK); (repeat rw [Array.append_assoc]); go_step; first  | (go_at_call 17; ((with_reducible refine (c5.out _).mono ?_); rintro r w1 ⟨rfl, hb⟩; simp only []; exact hK _ hb)) | (go_at_call 18; ((with_reducible refine (c6.out _).mono ?_); rintro r w1 ⟨rfl, hb⟩; simp only []; exact hK _ hb)) | (go_at_call 23; ((with_reducible refine (c7.out _).mono ?_); rintro r w1 ⟨rfl, hb⟩; simp only []; exact hK _ hb)) | (go_at_call 19; ((with_reducible refine (c8.out _).mono ?_); rintro r w1 ⟨rfl, hb⟩; simp only []; exact hK _ hb))  | (refine hK _ ?_; (repeat' (first | (with_reducible exact Below.refl _ _) | (with_reducible refine Below.app ?_ ?_ _ _) | (with_reducible refine Below.alloc ?_ ?_ _) | (with_reducible refine Below.drew ?_) | (with_reducible refine Below.setCell ?_ ?_ _) | (with_reducible assumption) | omega | (simp; omega) | (simp; done)))))); (try simp only [Act.put, List.setIfInBounds_toArray, List.set_cons_zero, List.set_cons_succ])) | (apply text_skip; exact rfl; (try simp only [Act.put, List.setIfInBounds_toArray, List.set_cons_zero, List.set_cons_succ])))); apply text_end; apply hFin; clear hFin Fin; intro bs d hfa)
      go_wp2
      all_goals (go_returns; exact ⟨rfl, by (repeat' (first | (with_reducible exact Below.refl _ _) | (with_reducible refine Below.app ?_ ?_ _ _) | (with_reducible refine Below.alloc ?_ ?_ _) | (with_reducible refine Below.drew ?_) | (with_reducible refine Below.setCell ?_ ?_ _) | (with_reducible assumption) | omega | (simp; omega) | (simp; done)))⟩)
    · have hx2 : ¬ 100 < (x.size : Int) := by omega
      have hy2 : 100 < (y.size : Int) := by omega
      clear hx hy
      go_enter Try.func7, Try.ntmps7
      go_wp2_with (go_at_call 8; ((refine (awake05 _).mono ?_); rintro r w1 ⟨rfl, hb⟩; obtain ⟨b1, b1d, rfl⟩ := of_below hb; clear hb))
      all_goals (go_returns; exact ⟨rfl, by (repeat' (first | (with_reducible exact Below.refl _ _) | (with_reducible refine Below.app ?_ ?_ _ _) | (with_reducible refine Below.alloc ?_ ?_ _) | (with_reducible refine Below.drew ?_) | (with_reducible refine Below.setCell ?_ ?_ _) | (with_reducible assumption) | omega | (simp; omega) | (simp; done)))⟩)
  · have hx2 : 100 < (x.size : Int) := by omega
    clear hx
    go_enter Try.func7, Try.ntmps7
    go_wp2_with (go_at_call 8; ((refine (awake05 _).mono ?_); rintro r w1 ⟨rfl, hb⟩; obtain ⟨b1, b1d, rfl⟩ := of_below hb; clear hb))
    all_goals (go_returns; exact ⟨rfl, by (repeat' (first | (with_reducible exact Below.refl _ _) | (with_reducible refine Below.app ?_ ?_ _ _) | (with_reducible refine Below.alloc ?_ ?_ _) | (with_reducible refine Below.drew ?_) | (with_reducible refine Below.setCell ?_ ?_ _) | (with_reducible assumption) | omega | (simp; omega) | (simp; done)))⟩)

theorem addrTexts_law : LawWalk 7 Try.f7 := by
  intro H enc W base args ds ps hA hval
  rw [Try.params7] at hA hval
  obtain ⟨v0, vs0, d0, ds0, p0, q0, hargs, rfl, rfl, h0, r0⟩ := trodAll_cons hA
  obtain ⟨rfl, rfl, rfl⟩ := trodAll_nil r0
  obtain rfl : args = #[v0] := by cases args; simp_all
  obtain ⟨x, y, rfl, -, -⟩ := open_addr (hval 0 _ _ rfl rfl) h0
  exact addrTexts_walk x y W

set_option maxRecDepth 100000 in
theorem addrTexts_holds : Rows.AddrTextsSaid :=
  OpenClaim.holds_of_wide 7 Try.f7 rfl rfl rfl rfl rfl rfl rfl ⟨rfl, rfl, rfl, rfl, rfl⟩ rfl rfl rfl rfl rfl (by kernel_rfl) Try.func7 (by kernel_rfl)
    (of_decide_eq_true (by kernel_rfl)) (by unfold Func.isWrapper; first | (rw [if_pos (by decide +kernel)]; kernel_rfl) | (rw [if_neg (by decide +kernel)]; exact ⟨rfl, rfl⟩))
    (fun os started H enc _ => law_lift (s := Rows.addrTextsSpec) Try.func7 (by kernel_rfl) (by kernel_rfl) rfl (fun H ds hd => by match ds, hd with | [_], _ => rfl) (by kernel_rfl) os started H enc
      (ChangeSpec.witness6 (enc := enc) (C := Try.checked) false ⟨#[], #[.agg #[.string ⟨#[]⟩, .string ⟨#[]⟩]], []⟩ 8 (by kernel_rfl) (by kernel_rfl) (by kernel_rfl) (by kernel_rfl)) addrTexts_law)
#print axioms addrTexts_holds
end Go.Proofs.Ytnbllnnbdopjoaa
