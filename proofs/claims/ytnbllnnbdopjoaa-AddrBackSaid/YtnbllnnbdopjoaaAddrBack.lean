/-
  addr.AddrBack answers true at every input: a mailbox that is written is read as it was, alone and as a path.
-/
import Derived.Test.YtnbllnnbdopjoaaAwake05
import Derived.Test.YtnbllnnbdopjoaaAddrLaws
import Derived.Test.YtnbllnnbdopjoaaAddrRow
namespace Go.Proofs.Ytnbllnnbdopjoaa
open Go.ChangeMaps Go.ChangeShapes Go.WideShapes Go.ChangeAt Go.RowKit

set_option maxRecDepth 20000 in
set_option maxHeartbeats 8000000 in
theorem addrBack_walk (x y z : ByteArray) (w : World) : Calls Try.prog 5 #[.agg #[.string x, .string y], .string z] w fun r w' => r = .returned (.bool true) ∧ Below w.heap.size w w' := by
  by_cases hx : x.size ≤ 100
  · have hx2 : ¬ 100 < (x.size : Int) := by omega
    by_cases hy : y.size ≤ 100
    · have hy2 : ¬ 100 < (y.size : Int) := by omega
      by_cases hz : z.size ≤ 100
      · have hz2 : ¬ 100 < (z.size : Int) := by omega
        have c1 := text_calls x y (by omega) (by omega)
        have c2 := path_calls x y (by omega) (by omega)
        have c3 := good_calls x y (by omega) (by omega)
        cases hg : goodB x y
        · rw [hg] at c3
          have t1 : textS x y = ⟨#[]⟩ := by unfold textS; rw [hg]; rfl
          have t2 : textE x y = 3 := by unfold textE; rw [hg]; rfl
          rw [t1, t2] at c1
          by_cases h1 : x.toList = []
          · by_cases h2 : y.toList = []
            · have t3 : pathS x y = ⟨#[60, 62]⟩ := by unfold pathS; rw [if_pos ⟨h1, h2⟩]
              have t4 : pathE x y = 0 := by unfold pathE; rw [if_pos ⟨h1, h2⟩]
              rw [t3, t4] at c2
              replace c1 := Lib.hid c1
              replace c2 := Lib.hid c2
              replace c3 := Lib.hid c3
              clear hx hy hz t1 t2 t3 t4 hg
              go_enter Try.func5, Try.ntmps5
              go_wp2_with first
                | (go_at_call 8; ((refine (awake05 _).mono ?_); rintro r w1 ⟨rfl, hb⟩; obtain ⟨b1, b1d, rfl⟩ := of_below hb; clear hb))
                | (go_at_call 15; ((refine (c1.out _).mono ?_); rintro r w1 ⟨rfl, hb⟩; obtain ⟨b2, b2d, rfl⟩ := of_below hb; clear hb))
                | (go_at_call 16; ((refine (c2.out _).mono ?_); rintro r w1 ⟨rfl, hb⟩; obtain ⟨b3, b3d, rfl⟩ := of_below hb; clear hb))
                | (go_at_call 17; ((refine (c3.out _).mono ?_); rintro r w1 ⟨rfl, hb⟩; obtain ⟨b4, b4d, rfl⟩ := of_below hb; clear hb))
              all_goals (go_returns; exact ⟨rfl, by (repeat' (first | (with_reducible exact Below.refl _ _) | (with_reducible refine Below.app ?_ ?_ _ _) | (with_reducible refine Below.alloc ?_ ?_ _) | (with_reducible refine Below.drew ?_) | (with_reducible refine Below.setCell ?_ ?_ _) | (with_reducible assumption) | omega | (simp; omega) | (simp; done)))⟩)
            · have hn : ¬ (x.toList = [] ∧ y.toList = []) := fun h => h2 h.2
              have t3 : pathS x y = ⟨#[]⟩ := by unfold pathS; rw [if_neg hn, hg]; rfl
              have t4 : pathE x y = 3 := by unfold pathE; rw [if_neg hn, t2]
              rw [t3, t4] at c2
              replace c1 := Lib.hid c1
              replace c2 := Lib.hid c2
              replace c3 := Lib.hid c3
              clear hx hy hz t1 t2 t3 t4 hg hn
              go_enter Try.func5, Try.ntmps5
              go_wp2_with first
                | (go_at_call 8; ((refine (awake05 _).mono ?_); rintro r w1 ⟨rfl, hb⟩; obtain ⟨b1, b1d, rfl⟩ := of_below hb; clear hb))
                | (go_at_call 15; ((refine (c1.out _).mono ?_); rintro r w1 ⟨rfl, hb⟩; obtain ⟨b2, b2d, rfl⟩ := of_below hb; clear hb))
                | (go_at_call 16; ((refine (c2.out _).mono ?_); rintro r w1 ⟨rfl, hb⟩; obtain ⟨b3, b3d, rfl⟩ := of_below hb; clear hb))
                | (go_at_call 17; ((refine (c3.out _).mono ?_); rintro r w1 ⟨rfl, hb⟩; obtain ⟨b4, b4d, rfl⟩ := of_below hb; clear hb))
              all_goals (go_returns; exact ⟨rfl, by (repeat' (first | (with_reducible exact Below.refl _ _) | (with_reducible refine Below.app ?_ ?_ _ _) | (with_reducible refine Below.alloc ?_ ?_ _) | (with_reducible refine Below.drew ?_) | (with_reducible refine Below.setCell ?_ ?_ _) | (with_reducible assumption) | omega | (simp; omega) | (simp; done)))⟩)
          · have hn : ¬ (x.toList = [] ∧ y.toList = []) := fun h => h1 h.1
            have t3 : pathS x y = ⟨#[]⟩ := by unfold pathS; rw [if_neg hn, hg]; rfl
            have t4 : pathE x y = 3 := by unfold pathE; rw [if_neg hn, t2]
            rw [t3, t4] at c2
            replace c1 := Lib.hid c1
            replace c2 := Lib.hid c2
            replace c3 := Lib.hid c3
            clear hx hy hz t1 t2 t3 t4 hg hn
            go_enter Try.func5, Try.ntmps5
            go_wp2_with first
              | (go_at_call 8; ((refine (awake05 _).mono ?_); rintro r w1 ⟨rfl, hb⟩; obtain ⟨b1, b1d, rfl⟩ := of_below hb; clear hb))
              | (go_at_call 15; ((refine (c1.out _).mono ?_); rintro r w1 ⟨rfl, hb⟩; obtain ⟨b2, b2d, rfl⟩ := of_below hb; clear hb))
              | (go_at_call 16; ((refine (c2.out _).mono ?_); rintro r w1 ⟨rfl, hb⟩; obtain ⟨b3, b3d, rfl⟩ := of_below hb; clear hb))
              | (go_at_call 17; ((refine (c3.out _).mono ?_); rintro r w1 ⟨rfl, hb⟩; obtain ⟨b4, b4d, rfl⟩ := of_below hb; clear hb))
            all_goals (go_returns; exact ⟨rfl, by (repeat' (first | (with_reducible exact Below.refl _ _) | (with_reducible refine Below.app ?_ ?_ _ _) | (with_reducible refine Below.alloc ?_ ?_ _) | (with_reducible refine Below.drew ?_) | (with_reducible refine Below.setCell ?_ ?_ _) | (with_reducible assumption) | omega | (simp; omega) | (simp; done)))⟩)
        · have hts := textS_size x y
          have c4 := parse_calls (textS x y) (by omega)
          rw [parse_back hg] at c4
          have hn : ¬ (x.toList = [] ∧ y.toList = []) := by
            rintro ⟨h, _⟩
            have hxl : x.toList = x.data.toList := ByteArray.toList_mk x.data.toList
            unfold goodB at hg
            rw [← hxl, h] at hg
            simp at hg
          have t2 : textE x y = 0 := by unfold textE; rw [hg]; rfl
          have t4 : pathE x y = 0 := by unfold pathE; rw [if_neg hn, t2]
          have hps : (pathS x y).size ≤ 1000 := by
            unfold pathS
            rw [if_neg hn, if_pos hg]
            simp [ByteArray.size_append]
            have : (⟨#[60]⟩ : ByteArray).size = 1 := rfl
            have : (⟨#[62]⟩ : ByteArray).size = 1 := rfl
            omega
          have c5 := read_calls (pathS x y ++ z) false (by rw [ByteArray.size_append]; omega)
          rw [path_read hg z] at c5
          unfold ReadIs at c5
          rw [t2] at c1
          rw [t4] at c2
          rw [hg] at c3
          clear hn t2 t4 hg hx hy hts
          generalize textS x y = T at *
          generalize pathS x y = U at *
          replace c1 := Lib.hid c1
          replace c2 := Lib.hid c2
          replace c3 := Lib.hid c3
          replace c4 := Lib.hid c4
          replace c5 := Lib.hid c5
          go_enter Try.func5, Try.ntmps5
          go_wp2_with first
            | (go_at_call 8; ((refine (awake05 _).mono ?_); rintro r w1 ⟨rfl, hb⟩; obtain ⟨b1, b1d, rfl⟩ := of_below hb; clear hb))
            | (go_at_call 15; ((refine (c1.out _).mono ?_); rintro r w1 ⟨rfl, hb⟩; obtain ⟨b2, b2d, rfl⟩ := of_below hb; clear hb))
            | (go_at_call 16; ((refine (c2.out _).mono ?_); rintro r w1 ⟨rfl, hb⟩; obtain ⟨b3, b3d, rfl⟩ := of_below hb; clear hb))
            | (go_at_call 17; ((refine (c3.out _).mono ?_); rintro r w1 ⟨rfl, hb⟩; obtain ⟨b4, b4d, rfl⟩ := of_below hb; clear hb))
            | (go_at_call 9; ((refine (c4.out _).mono ?_); rintro r w1 ⟨rfl, hb⟩; obtain ⟨b5, b5d, rfl⟩ := of_below hb; clear hb))
            | (go_at_call 11; ((refine (c5.out _).mono ?_); rintro r w1 ⟨rfl, hb⟩; obtain ⟨b6, b6d, rfl⟩ := of_below hb; clear hb))
          all_goals (go_returns; exact ⟨rfl, by (repeat' (first | (with_reducible exact Below.refl _ _) | (with_reducible refine Below.app ?_ ?_ _ _) | (with_reducible refine Below.alloc ?_ ?_ _) | (with_reducible refine Below.drew ?_) | (with_reducible refine Below.setCell ?_ ?_ _) | (with_reducible assumption) | omega | (simp; omega) | (simp; done)))⟩)
      · have hz2 : 100 < (z.size : Int) := by omega
        clear hx hy hz
        go_enter Try.func5, Try.ntmps5
        go_wp2_with (go_at_call 8; ((refine (awake05 _).mono ?_); rintro r w1 ⟨rfl, hb⟩; obtain ⟨b1, b1d, rfl⟩ := of_below hb; clear hb))
        all_goals (go_returns; exact ⟨rfl, by (repeat' (first | (with_reducible exact Below.refl _ _) | (with_reducible refine Below.app ?_ ?_ _ _) | (with_reducible refine Below.alloc ?_ ?_ _) | (with_reducible refine Below.drew ?_) | (with_reducible refine Below.setCell ?_ ?_ _) | (with_reducible assumption) | omega | (simp; omega) | (simp; done)))⟩)
    · have hy2 : 100 < (y.size : Int) := by omega
      clear hx hy
      go_enter Try.func5, Try.ntmps5
      go_wp2_with (go_at_call 8; ((refine (awake05 _).mono ?_); rintro r w1 ⟨rfl, hb⟩; obtain ⟨b1, b1d, rfl⟩ := of_below hb; clear hb))
      all_goals (go_returns; exact ⟨rfl, by (repeat' (first | (with_reducible exact Below.refl _ _) | (with_reducible refine Below.app ?_ ?_ _ _) | (with_reducible refine Below.alloc ?_ ?_ _) | (with_reducible refine Below.drew ?_) | (with_reducible refine Below.setCell ?_ ?_ _) | (with_reducible assumption) | omega | (simp; omega) | (simp; done)))⟩)
  · have hx2 : 100 < (x.size : Int) := by omega
    clear hx
    go_enter Try.func5, Try.ntmps5
    go_wp2_with (go_at_call 8; ((refine (awake05 _).mono ?_); rintro r w1 ⟨rfl, hb⟩; obtain ⟨b1, b1d, rfl⟩ := of_below hb; clear hb))
    all_goals (go_returns; exact ⟨rfl, by (repeat' (first | (with_reducible exact Below.refl _ _) | (with_reducible refine Below.app ?_ ?_ _ _) | (with_reducible refine Below.alloc ?_ ?_ _) | (with_reducible refine Below.drew ?_) | (with_reducible refine Below.setCell ?_ ?_ _) | (with_reducible assumption) | omega | (simp; omega) | (simp; done)))⟩)

theorem addrBack_law : LawWalk 5 Try.f5 := by
  intro H enc W base args ds ps hA hval
  rw [Try.params5] at hA hval
  obtain ⟨v0, vs0, d0, ds0, p0, q0, hargs, rfl, rfl, h0, r0⟩ := trodAll_cons hA
  obtain ⟨v1, vs1, d1, ds1, p1, q1, hargs1, rfl, rfl, h1, r1⟩ := trodAll_cons r0
  obtain ⟨rfl, rfl, rfl⟩ := trodAll_nil r1
  obtain rfl : args = #[v0, v1] := by cases args; simp_all
  obtain ⟨x, y, rfl, -, -⟩ := open_addr (hval 0 _ _ rfl rfl) h0
  obtain ⟨z, rfl, -, -, -⟩ := open_string Try.underlying9 (hval 1 _ _ rfl rfl) h1
  exact addrBack_walk x y z W

set_option maxRecDepth 100000 in
theorem addrBack_holds : Rows.AddrBackSaid :=
  OpenClaim.holds_of_wide 5 Try.f5 rfl rfl rfl rfl rfl rfl rfl ⟨rfl, rfl, rfl, rfl, rfl⟩ rfl rfl rfl rfl rfl (by kernel_rfl) Try.func5 (by kernel_rfl)
    (of_decide_eq_true (by kernel_rfl)) (by unfold Func.isWrapper; first | (rw [if_pos (by decide +kernel)]; kernel_rfl) | (rw [if_neg (by decide +kernel)]; exact ⟨rfl, rfl⟩))
    (fun os started H enc _ => law_lift (s := Rows.addrBackSpec) Try.func5 (by kernel_rfl) (by kernel_rfl) rfl (fun H ds hd => by match ds, hd with | [_, _], _ => rfl) (by kernel_rfl) os started H enc
      (ChangeSpec.witness6 (enc := enc) (C := Try.checked) false ⟨#[], #[.agg #[.string ⟨#[]⟩, .string ⟨#[]⟩], .string ⟨#[]⟩], []⟩ 8 (by kernel_rfl) (by kernel_rfl) (by kernel_rfl) (by kernel_rfl)) addrBack_law)
#print axioms addrBack_holds
end Go.Proofs.Ytnbllnnbdopjoaa
