/-
  addr.AddrSame answers true at every input: two right mailboxes are one just if they are alike but for great and small letters.
-/
import Derived.Test.YtnbllnnbdopjoaaAwake05
import Derived.Test.YtnbllnnbdopjoaaRefGood
import Derived.Test.YtnbllnnbdopjoaaAddrSameW
import Derived.Test.YtnbllnnbdopjoaaAddrRow
namespace Go.Proofs.Ytnbllnnbdopjoaa
open Go.ChangeMaps Go.ChangeShapes Go.WideShapes Go.ChangeAt Go.RowKit

/-- What the document says of two mailboxes. -/
def wantB (x y x2 y2 : ByteArray) : Bool := noneB x y && noneB x2 y2 || goodB x y && goodB x2 y2 && (keyS x y).toList == (keyS x2 y2).toList
theorem none_good {x y : ByteArray} (h : noneB x y = true) : goodB x y = false := by
  unfold noneB at h
  unfold goodB
  have hxl : x.toList = x.data.toList := ByteArray.toList_mk x.data.toList
  simp only [Bool.and_eq_true] at h
  rw [← hxl, h.1]
  simp
theorem key_empty {x y : ByteArray} : (keyS x y).toList.isEmpty = !goodB x y := by
  unfold keyS
  have e : ∀ s : ByteArray, s.toList = s.data.toList := fun s => ByteArray.toList_mk s.data.toList
  cases goodB x y
  · rw [if_neg (by simp), e]; rfl
  · rw [if_pos rfl, e]
    simp
theorem want_same (x y x2 y2 : ByteArray) : sameB x y x2 y2 = wantB x y x2 y2 := by
  unfold sameB wantB
  have e0 : ∀ a b : ByteArray, noneB a b = true → a.toList = [] ∧ b.toList = [] := fun a b h => by unfold noneB at h; simpa using h
  by_cases h1 : noneB x y = true
  · rw [if_pos (by rw [h1]; rfl), h1, none_good h1]
    obtain ⟨hx, hy⟩ := e0 _ _ h1
    rw [hx, hy]
    unfold noneB
    simp only [Bool.true_and, Bool.false_and, Bool.or_false]
    cases x2.toList <;> cases y2.toList <;> rfl
  · rw [Bool.not_eq_true] at h1
    by_cases h2 : noneB x2 y2 = true
    · rw [if_pos (by rw [h1, h2]; rfl), h1, none_good h2]
      obtain ⟨hx, hy⟩ := e0 _ _ h2
      rw [hx, hy]
      unfold noneB at h1
      simp only [Bool.false_and, Bool.and_false, Bool.or_false]
      rw [← h1]
      cases x.toList <;> cases y.toList <;> rfl
    · rw [Bool.not_eq_true] at h2
      rw [if_neg (by rw [h1, h2]; simp), h1, key_empty, Bool.not_not]
      simp only [Bool.false_and, Bool.false_or]
      cases hg : goodB x y
      · rfl
      · cases hg2 : goodB x2 y2
        · have h3 : (keyS x2 y2).toList.isEmpty = true := by rw [key_empty, hg2]; rfl
          have h4 : (keyS x y).toList.isEmpty = false := by rw [key_empty, hg]; rfl
          cases hk : (keyS x y).toList with
          | nil => rw [hk] at h4; cases h4
          | cons a r =>
            cases hk2 : (keyS x2 y2).toList with
            | nil => rfl
            | cons b t => rw [hk2] at h3; cases h3
        · rfl
theorem want_swap (x y x2 y2 : ByteArray) : wantB x2 y2 x y = wantB x y x2 y2 := by
  unfold wantB
  rw [Bool.eq_iff_iff]
  simp only [Bool.or_eq_true, Bool.and_eq_true, beq_iff_eq]
  constructor
  · rintro (⟨a, b⟩ | ⟨⟨a, b⟩, c⟩)
    · exact .inl ⟨b, a⟩
    · exact .inr ⟨⟨b, a⟩, c.symm⟩
  · rintro (⟨a, b⟩ | ⟨⟨a, b⟩, c⟩)
    · exact .inl ⟨b, a⟩
    · exact .inr ⟨⟨b, a⟩, c.symm⟩

set_option maxRecDepth 20000 in
set_option maxHeartbeats 16000000 in
theorem addrSame_main (x y x2 y2 : ByteArray) (hx : x.size ≤ 100) (hy : y.size ≤ 100) (hx2 : x2.size ≤ 100) (hy2 : y2.size ≤ 100) (w : World) : Calls Try.prog 6 #[.agg #[.string x, .string y], .agg #[.string x2, .string y2]] w fun r w' => r = .returned (.bool true) ∧ Below w.heap.size w w' := by
  have g1 : ¬ 100 < (x.size : Int) := by omega
  have g2 : ¬ 100 < (y.size : Int) := by omega
  have g3 : ¬ 100 < (x2.size : Int) := by omega
  have g4 : ¬ 100 < (y2.size : Int) := by omega
  have c1 := same_calls x y x2 y2 (by omega) (by omega) (by omega) (by omega)
  have c2 := same_calls x2 y2 x y (by omega) (by omega) (by omega) (by omega)
  have c3 := rgood_calls x y (by omega) (by omega)
  have c4 := rgood_calls x2 y2 (by omega) (by omega)
  have c5 := rkey_calls x y (by omega) (by omega)
  have c6 := rkey_calls x2 y2 (by omega) (by omega)
  rw [want_same] at c1
  rw [want_same, want_swap] at c2
  clear hx hy hx2 hy2
  have hng : ∀ a b : ByteArray, a.toList = [] → goodB a b = false := fun a b h => by
    have hxl : a.toList = a.data.toList := ByteArray.toList_mk a.data.toList
    unfold goodB
    rw [← hxl, h]
    simp
  by_cases h1 : x.toList = []
  · have hg := hng x y h1
    by_cases h2 : y.toList = []
    · have hn : noneB x y = true := by unfold noneB; rw [h1, h2]; rfl
      by_cases h3 : x2.toList = []
      · by_cases h4 : y2.toList = []
        · have hn2 : noneB x2 y2 = true := by unfold noneB; rw [h3, h4]; rfl
          have hw : wantB x y x2 y2 = true := by unfold wantB; rw [hn, hn2]; rfl
          rw [hw] at c1 c2
          clear hw hn hn2 hg hng
          replace c1 := Lib.hid c1
          replace c2 := Lib.hid c2
          replace c3 := Lib.hid c3
          replace c4 := Lib.hid c4
          replace c5 := Lib.hid c5
          replace c6 := Lib.hid c6
          go_enter Try.func6, Try.ntmps6
          go_wp2_with (go_at_call 8; ((refine (awake05 _).mono ?_); rintro r w1 ⟨rfl, hb⟩; obtain ⟨b1, b1d, rfl⟩ := of_below hb; clear hb))
          (apply wp_region_text 23; kernel_rfl; kernel_rfl; intro Fin hFin; (repeat (first | (apply text_run; exact rfl; (focus (intro bs d hF K hK; (repeat rw [app_app] at hK); (repeat rw [app_app]); (repeat rw [Array.append_assoc] at hK); (repeat rw [Array.append_assoc]); go_step; first  | (go_at_call 18; ((with_reducible refine (c3.out _).mono ?_); rintro r w1 ⟨rfl, hb⟩; simp only []; exact hK _ hb)) | (go_at_call 18; ((with_reducible refine (c4.out _).mono ?_); rintro r w1 ⟨rfl, hb⟩; simp only []; exact hK _ hb)) | (go_at_call 19; ((with_reducible refine (c5.out _).mono ?_); rintro r w1 ⟨rfl, hb⟩; simp only []; exact hK _ hb)) | (go_at_call 19; ((with_reducible refine (c6.out _).mono ?_); rintro r w1 ⟨rfl, hb⟩; simp only []; exact hK _ hb))  | (refine hK _ ?_; (repeat' (first | (with_reducible exact Below.refl _ _) | (with_reducible refine Below.app ?_ ?_ _ _) | (with_reducible refine Below.alloc ?_ ?_ _) | (with_reducible refine Below.drew ?_) | (with_reducible refine Below.setCell ?_ ?_ _) | (with_reducible assumption) | omega | (simp; omega) | (simp; done)))))); (try simp only [Act.put, List.setIfInBounds_toArray, List.set_cons_zero, List.set_cons_succ])) | (apply text_skip; exact rfl; (try simp only [Act.put, List.setIfInBounds_toArray, List.set_cons_zero, List.set_cons_succ])))); apply text_end; apply hFin; clear hFin Fin; intro bs d hfa)
          go_wp2_with first
            | (go_at_call 20; ((with_reducible refine (c1.out _).mono ?_); rintro r w1 ⟨rfl, hb⟩; obtain ⟨b2, b2d, rfl⟩ := of_below hb; clear hb))
            | (go_at_call 20; ((with_reducible refine (c2.out _).mono ?_); rintro r w1 ⟨rfl, hb⟩; obtain ⟨b3, b3d, rfl⟩ := of_below hb; clear hb))
          all_goals (go_returns; exact ⟨rfl, by (repeat' (first | (with_reducible exact Below.refl _ _) | (with_reducible refine Below.app ?_ ?_ _ _) | (with_reducible refine Below.alloc ?_ ?_ _) | (with_reducible refine Below.drew ?_) | (with_reducible refine Below.setCell ?_ ?_ _) | (with_reducible assumption) | omega | (simp; omega) | (simp; done)))⟩)
        · have hn2 : noneB x2 y2 = false := by unfold noneB; rw [h3]; simpa using h4
          have hw : wantB x y x2 y2 = false := by unfold wantB; rw [hn2, hg]; simp
          have h4' : y2.toList.isEmpty = false := by simpa using h4
          rw [hw] at c1 c2
          rw [hg] at c3
          clear hw hn hn2 hg hng
          replace c1 := Lib.hid c1
          replace c2 := Lib.hid c2
          replace c3 := Lib.hid c3
          replace c4 := Lib.hid c4
          replace c5 := Lib.hid c5
          replace c6 := Lib.hid c6
          go_enter Try.func6, Try.ntmps6
          go_wp2_with (go_at_call 8; ((refine (awake05 _).mono ?_); rintro r w1 ⟨rfl, hb⟩; obtain ⟨b1, b1d, rfl⟩ := of_below hb; clear hb))
          (apply wp_region_text 23; kernel_rfl; kernel_rfl; intro Fin hFin; (repeat (first | (apply text_run; exact rfl; (focus (intro bs d hF K hK; (repeat rw [app_app] at hK); (repeat rw [app_app]); (repeat rw [Array.append_assoc] at hK); (repeat rw [Array.append_assoc]); go_step; first  | (go_at_call 18; ((with_reducible refine (c3.out _).mono ?_); rintro r w1 ⟨rfl, hb⟩; simp only []; exact hK _ hb)) | (go_at_call 18; ((with_reducible refine (c4.out _).mono ?_); rintro r w1 ⟨rfl, hb⟩; simp only []; exact hK _ hb)) | (go_at_call 19; ((with_reducible refine (c5.out _).mono ?_); rintro r w1 ⟨rfl, hb⟩; simp only []; exact hK _ hb)) | (go_at_call 19; ((with_reducible refine (c6.out _).mono ?_); rintro r w1 ⟨rfl, hb⟩; simp only []; exact hK _ hb))  | (refine hK _ ?_; (repeat' (first | (with_reducible exact Below.refl _ _) | (with_reducible refine Below.app ?_ ?_ _ _) | (with_reducible refine Below.alloc ?_ ?_ _) | (with_reducible refine Below.drew ?_) | (with_reducible refine Below.setCell ?_ ?_ _) | (with_reducible assumption) | omega | (simp; omega) | (simp; done)))))); (try simp only [Act.put, List.setIfInBounds_toArray, List.set_cons_zero, List.set_cons_succ])) | (apply text_skip; exact rfl; (try simp only [Act.put, List.setIfInBounds_toArray, List.set_cons_zero, List.set_cons_succ])))); apply text_end; apply hFin; clear hFin Fin; intro bs d hfa)
          go_wp2_with first
            | (go_at_call 20; ((with_reducible refine (c1.out _).mono ?_); rintro r w1 ⟨rfl, hb⟩; obtain ⟨b2, b2d, rfl⟩ := of_below hb; clear hb))
            | (go_at_call 20; ((with_reducible refine (c2.out _).mono ?_); rintro r w1 ⟨rfl, hb⟩; obtain ⟨b3, b3d, rfl⟩ := of_below hb; clear hb))
          all_goals (go_returns; exact ⟨rfl, by (repeat' (first | (with_reducible exact Below.refl _ _) | (with_reducible refine Below.app ?_ ?_ _ _) | (with_reducible refine Below.alloc ?_ ?_ _) | (with_reducible refine Below.drew ?_) | (with_reducible refine Below.setCell ?_ ?_ _) | (with_reducible assumption) | omega | (simp; omega) | (simp; done)))⟩)
      · have hn2 : noneB x2 y2 = false := by unfold noneB; simp [h3]
        have hw : wantB x y x2 y2 = false := by unfold wantB; rw [hn2, hg]; simp
        have h3' : x2.toList.isEmpty = false := by simpa using h3
        rw [hw] at c1 c2
        rw [hg] at c3
        clear hw hn hn2 hg hng
        replace c1 := Lib.hid c1
        replace c2 := Lib.hid c2
        replace c3 := Lib.hid c3
        replace c4 := Lib.hid c4
        replace c5 := Lib.hid c5
        replace c6 := Lib.hid c6
        go_enter Try.func6, Try.ntmps6
        go_wp2_with (go_at_call 8; ((refine (awake05 _).mono ?_); rintro r w1 ⟨rfl, hb⟩; obtain ⟨b1, b1d, rfl⟩ := of_below hb; clear hb))
        (apply wp_region_text 23; kernel_rfl; kernel_rfl; intro Fin hFin; (repeat (first | (apply text_run; exact rfl; (focus (intro bs d hF K hK; (repeat rw [app_app] at hK); (repeat rw [app_app]); (repeat rw [Array.append_assoc] at hK); (repeat rw [Array.append_assoc]); go_step; first  | (go_at_call 18; ((with_reducible refine (c3.out _).mono ?_); rintro r w1 ⟨rfl, hb⟩; simp only []; exact hK _ hb)) | (go_at_call 18; ((with_reducible refine (c4.out _).mono ?_); rintro r w1 ⟨rfl, hb⟩; simp only []; exact hK _ hb)) | (go_at_call 19; ((with_reducible refine (c5.out _).mono ?_); rintro r w1 ⟨rfl, hb⟩; simp only []; exact hK _ hb)) | (go_at_call 19; ((with_reducible refine (c6.out _).mono ?_); rintro r w1 ⟨rfl, hb⟩; simp only []; exact hK _ hb))  | (refine hK _ ?_; (repeat' (first | (with_reducible exact Below.refl _ _) | (with_reducible refine Below.app ?_ ?_ _ _) | (with_reducible refine Below.alloc ?_ ?_ _) | (with_reducible refine Below.drew ?_) | (with_reducible refine Below.setCell ?_ ?_ _) | (with_reducible assumption) | omega | (simp; omega) | (simp; done)))))); (try simp only [Act.put, List.setIfInBounds_toArray, List.set_cons_zero, List.set_cons_succ])) | (apply text_skip; exact rfl; (try simp only [Act.put, List.setIfInBounds_toArray, List.set_cons_zero, List.set_cons_succ])))); apply text_end; apply hFin; clear hFin Fin; intro bs d hfa)
        go_wp2_with first
          | (go_at_call 20; ((with_reducible refine (c1.out _).mono ?_); rintro r w1 ⟨rfl, hb⟩; obtain ⟨b2, b2d, rfl⟩ := of_below hb; clear hb))
          | (go_at_call 20; ((with_reducible refine (c2.out _).mono ?_); rintro r w1 ⟨rfl, hb⟩; obtain ⟨b3, b3d, rfl⟩ := of_below hb; clear hb))
        all_goals (go_returns; exact ⟨rfl, by (repeat' (first | (with_reducible exact Below.refl _ _) | (with_reducible refine Below.app ?_ ?_ _ _) | (with_reducible refine Below.alloc ?_ ?_ _) | (with_reducible refine Below.drew ?_) | (with_reducible refine Below.setCell ?_ ?_ _) | (with_reducible assumption) | omega | (simp; omega) | (simp; done)))⟩)
    · have hn : noneB x y = false := by unfold noneB; rw [h1]; simpa using h2
      have h2' : y.toList.isEmpty = false := by simpa using h2
      have hw : wantB x y x2 y2 = false := by unfold wantB; rw [hn, hg]; simp
      rw [hw] at c1 c2
      rw [hg] at c3
      clear hw hn hg hng
      replace c1 := Lib.hid c1
      replace c2 := Lib.hid c2
      replace c3 := Lib.hid c3
      replace c4 := Lib.hid c4
      replace c5 := Lib.hid c5
      replace c6 := Lib.hid c6
      go_enter Try.func6, Try.ntmps6
      go_wp2_with (go_at_call 8; ((refine (awake05 _).mono ?_); rintro r w1 ⟨rfl, hb⟩; obtain ⟨b1, b1d, rfl⟩ := of_below hb; clear hb))
      (apply wp_region_text 23; kernel_rfl; kernel_rfl; intro Fin hFin; (repeat (first | (apply text_run; exact rfl; (focus (intro bs d hF K hK; (repeat rw [app_app] at hK); (repeat rw [app_app]); (repeat rw [Array.append_assoc] at hK); (repeat rw [Array.append_assoc]); go_step; first  | (go_at_call 18; ((with_reducible refine (c3.out _).mono ?_); rintro r w1 ⟨rfl, hb⟩; simp only []; exact hK _ hb)) | (go_at_call 18; ((with_reducible refine (c4.out _).mono ?_); rintro r w1 ⟨rfl, hb⟩; simp only []; exact hK _ hb)) | (go_at_call 19; ((with_reducible refine (c5.out _).mono ?_); rintro r w1 ⟨rfl, hb⟩; simp only []; exact hK _ hb)) | (go_at_call 19; ((with_reducible refine (c6.out _).mono ?_); rintro r w1 ⟨rfl, hb⟩; simp only []; exact hK _ hb))  | (refine hK _ ?_; (repeat' (first | (with_reducible exact Below.refl _ _) | (with_reducible refine Below.app ?_ ?_ _ _) | (with_reducible refine Below.alloc ?_ ?_ _) | (with_reducible refine Below.drew ?_) | (with_reducible refine Below.setCell ?_ ?_ _) | (with_reducible assumption) | omega | (simp; omega) | (simp; done)))))); (try simp only [Act.put, List.setIfInBounds_toArray, List.set_cons_zero, List.set_cons_succ])) | (apply text_skip; exact rfl; (try simp only [Act.put, List.setIfInBounds_toArray, List.set_cons_zero, List.set_cons_succ])))); apply text_end; apply hFin; clear hFin Fin; intro bs d hfa)
      go_wp2_with first
        | (go_at_call 20; ((with_reducible refine (c1.out _).mono ?_); rintro r w1 ⟨rfl, hb⟩; obtain ⟨b2, b2d, rfl⟩ := of_below hb; clear hb))
        | (go_at_call 20; ((with_reducible refine (c2.out _).mono ?_); rintro r w1 ⟨rfl, hb⟩; obtain ⟨b3, b3d, rfl⟩ := of_below hb; clear hb))
      all_goals (go_returns; exact ⟨rfl, by (repeat' (first | (with_reducible exact Below.refl _ _) | (with_reducible refine Below.app ?_ ?_ _ _) | (with_reducible refine Below.alloc ?_ ?_ _) | (with_reducible refine Below.drew ?_) | (with_reducible refine Below.setCell ?_ ?_ _) | (with_reducible assumption) | omega | (simp; omega) | (simp; done)))⟩)
  · have hn : noneB x y = false := by unfold noneB; simp [h1]
    have h1' : x.toList.isEmpty = false := by simpa using h1
    cases hg : goodB x y
    · have hw : wantB x y x2 y2 = false := by unfold wantB; rw [hn, hg]; simp
      rw [hw] at c1 c2
      rw [hg] at c3
      clear hw hn hg hng
      replace c1 := Lib.hid c1
      replace c2 := Lib.hid c2
      replace c3 := Lib.hid c3
      replace c4 := Lib.hid c4
      replace c5 := Lib.hid c5
      replace c6 := Lib.hid c6
      go_enter Try.func6, Try.ntmps6
      go_wp2_with (go_at_call 8; ((refine (awake05 _).mono ?_); rintro r w1 ⟨rfl, hb⟩; obtain ⟨b1, b1d, rfl⟩ := of_below hb; clear hb))
      (apply wp_region_text 23; kernel_rfl; kernel_rfl; intro Fin hFin; (repeat (first | (apply text_run; exact rfl; (focus (intro bs d hF K hK; (repeat rw [app_app] at hK); (repeat rw [app_app]); (repeat rw [Array.append_assoc] at hK); (repeat rw [Array.append_assoc]); go_step; first  | (go_at_call 18; ((with_reducible refine (c3.out _).mono ?_); rintro r w1 ⟨rfl, hb⟩; simp only []; exact hK _ hb)) | (go_at_call 18; ((with_reducible refine (c4.out _).mono ?_); rintro r w1 ⟨rfl, hb⟩; simp only []; exact hK _ hb)) | (go_at_call 19; ((with_reducible refine (c5.out _).mono ?_); rintro r w1 ⟨rfl, hb⟩; simp only []; exact hK _ hb)) | (go_at_call 19; ((with_reducible refine (c6.out _).mono ?_); rintro r w1 ⟨rfl, hb⟩; simp only []; exact hK _ hb))  | (refine hK _ ?_; (repeat' (first | (with_reducible exact Below.refl _ _) | (with_reducible refine Below.app ?_ ?_ _ _) | (with_reducible refine Below.alloc ?_ ?_ _) | (with_reducible refine Below.drew ?_) | (with_reducible refine Below.setCell ?_ ?_ _) | (with_reducible assumption) | omega | (simp; omega) | (simp; done)))))); (try simp only [Act.put, List.setIfInBounds_toArray, List.set_cons_zero, List.set_cons_succ])) | (apply text_skip; exact rfl; (try simp only [Act.put, List.setIfInBounds_toArray, List.set_cons_zero, List.set_cons_succ])))); apply text_end; apply hFin; clear hFin Fin; intro bs d hfa)
      go_wp2_with first
        | (go_at_call 20; ((with_reducible refine (c1.out _).mono ?_); rintro r w1 ⟨rfl, hb⟩; obtain ⟨b2, b2d, rfl⟩ := of_below hb; clear hb))
        | (go_at_call 20; ((with_reducible refine (c2.out _).mono ?_); rintro r w1 ⟨rfl, hb⟩; obtain ⟨b3, b3d, rfl⟩ := of_below hb; clear hb))
      all_goals (go_returns; exact ⟨rfl, by (repeat' (first | (with_reducible exact Below.refl _ _) | (with_reducible refine Below.app ?_ ?_ _ _) | (with_reducible refine Below.alloc ?_ ?_ _) | (with_reducible refine Below.drew ?_) | (with_reducible refine Below.setCell ?_ ?_ _) | (with_reducible assumption) | omega | (simp; omega) | (simp; done)))⟩)
    · rw [hg] at c3
      cases hg2 : goodB x2 y2
      · have hw : wantB x y x2 y2 = false := by unfold wantB; rw [hn, hg2]; simp
        rw [hw] at c1 c2
        rw [hg2] at c4
        clear hw hn hg hg2 hng
        replace c1 := Lib.hid c1
        replace c2 := Lib.hid c2
        replace c3 := Lib.hid c3
        replace c4 := Lib.hid c4
        replace c5 := Lib.hid c5
        replace c6 := Lib.hid c6
        go_enter Try.func6, Try.ntmps6
        go_wp2_with (go_at_call 8; ((refine (awake05 _).mono ?_); rintro r w1 ⟨rfl, hb⟩; obtain ⟨b1, b1d, rfl⟩ := of_below hb; clear hb))
        (apply wp_region_text 23; kernel_rfl; kernel_rfl; intro Fin hFin; (repeat (first | (apply text_run; exact rfl; (focus (intro bs d hF K hK; (repeat rw [app_app] at hK); (repeat rw [app_app]); (repeat rw [Array.append_assoc] at hK); (repeat rw [Array.append_assoc]); go_step; first  | (go_at_call 18; ((with_reducible refine (c3.out _).mono ?_); rintro r w1 ⟨rfl, hb⟩; simp only []; exact hK _ hb)) | (go_at_call 18; ((with_reducible refine (c4.out _).mono ?_); rintro r w1 ⟨rfl, hb⟩; simp only []; exact hK _ hb)) | (go_at_call 19; ((with_reducible refine (c5.out _).mono ?_); rintro r w1 ⟨rfl, hb⟩; simp only []; exact hK _ hb)) | (go_at_call 19; ((with_reducible refine (c6.out _).mono ?_); rintro r w1 ⟨rfl, hb⟩; simp only []; exact hK _ hb))  | (refine hK _ ?_; (repeat' (first | (with_reducible exact Below.refl _ _) | (with_reducible refine Below.app ?_ ?_ _ _) | (with_reducible refine Below.alloc ?_ ?_ _) | (with_reducible refine Below.drew ?_) | (with_reducible refine Below.setCell ?_ ?_ _) | (with_reducible assumption) | omega | (simp; omega) | (simp; done)))))); (try simp only [Act.put, List.setIfInBounds_toArray, List.set_cons_zero, List.set_cons_succ])) | (apply text_skip; exact rfl; (try simp only [Act.put, List.setIfInBounds_toArray, List.set_cons_zero, List.set_cons_succ])))); apply text_end; apply hFin; clear hFin Fin; intro bs d hfa)
        go_wp2_with first
          | (go_at_call 20; ((with_reducible refine (c1.out _).mono ?_); rintro r w1 ⟨rfl, hb⟩; obtain ⟨b2, b2d, rfl⟩ := of_below hb; clear hb))
          | (go_at_call 20; ((with_reducible refine (c2.out _).mono ?_); rintro r w1 ⟨rfl, hb⟩; obtain ⟨b3, b3d, rfl⟩ := of_below hb; clear hb))
        all_goals (go_returns; exact ⟨rfl, by (repeat' (first | (with_reducible exact Below.refl _ _) | (with_reducible refine Below.app ?_ ?_ _ _) | (with_reducible refine Below.alloc ?_ ?_ _) | (with_reducible refine Below.drew ?_) | (with_reducible refine Below.setCell ?_ ?_ _) | (with_reducible assumption) | omega | (simp; omega) | (simp; done)))⟩)
      · have hw : wantB x y x2 y2 = ((keyS x y).toList == (keyS x2 y2).toList) := by unfold wantB; rw [hn, hg, hg2]; simp
        rw [hw] at c1 c2
        rw [hg2] at c4
        clear hw hn hg hg2 hng
        generalize keyS x y = u at *
        generalize keyS x2 y2 = u2 at *
        replace c1 := Lib.hid c1
        replace c2 := Lib.hid c2
        replace c3 := Lib.hid c3
        replace c4 := Lib.hid c4
        replace c5 := Lib.hid c5
        replace c6 := Lib.hid c6
        go_enter Try.func6, Try.ntmps6
        go_wp2_with (go_at_call 8; ((refine (awake05 _).mono ?_); rintro r w1 ⟨rfl, hb⟩; obtain ⟨b1, b1d, rfl⟩ := of_below hb; clear hb))
        (apply wp_region_text 23; kernel_rfl; kernel_rfl; intro Fin hFin; (repeat (first | (apply text_run; exact rfl; (focus (intro bs d hF K hK; (repeat rw [app_app] at hK); (repeat rw [app_app]); (repeat rw [Array.append_assoc] at hK); (repeat rw [Array.append_assoc]); go_step; first  | (go_at_call 18; ((with_reducible refine (c3.out _).mono ?_); rintro r w1 ⟨rfl, hb⟩; simp only []; exact hK _ hb)) | (go_at_call 18; ((with_reducible refine (c4.out _).mono ?_); rintro r w1 ⟨rfl, hb⟩; simp only []; exact hK _ hb)) | (go_at_call 19; ((with_reducible refine (c5.out _).mono ?_); rintro r w1 ⟨rfl, hb⟩; simp only []; exact hK _ hb)) | (go_at_call 19; ((with_reducible refine (c6.out _).mono ?_); rintro r w1 ⟨rfl, hb⟩; simp only []; exact hK _ hb))  | (refine hK _ ?_; (repeat' (first | (with_reducible exact Below.refl _ _) | (with_reducible refine Below.app ?_ ?_ _ _) | (with_reducible refine Below.alloc ?_ ?_ _) | (with_reducible refine Below.drew ?_) | (with_reducible refine Below.setCell ?_ ?_ _) | (with_reducible assumption) | omega | (simp; omega) | (simp; done)))))); (try simp only [Act.put, List.setIfInBounds_toArray, List.set_cons_zero, List.set_cons_succ])) | (apply text_skip; exact rfl; (try simp only [Act.put, List.setIfInBounds_toArray, List.set_cons_zero, List.set_cons_succ])))); apply text_end; apply hFin; clear hFin Fin; intro bs d hfa)
        go_wp2_with first
          | (go_at_call 20; ((with_reducible refine (c1.out _).mono ?_); rintro r w1 ⟨rfl, hb⟩; obtain ⟨b2, b2d, rfl⟩ := of_below hb; clear hb))
          | (go_at_call 20; ((with_reducible refine (c2.out _).mono ?_); rintro r w1 ⟨rfl, hb⟩; obtain ⟨b3, b3d, rfl⟩ := of_below hb; clear hb))
        all_goals (go_returns; exact ⟨rfl, by (repeat' (first | (with_reducible exact Below.refl _ _) | (with_reducible refine Below.app ?_ ?_ _ _) | (with_reducible refine Below.alloc ?_ ?_ _) | (with_reducible refine Below.drew ?_) | (with_reducible refine Below.setCell ?_ ?_ _) | (with_reducible assumption) | omega | (simp; omega) | (simp; done)))⟩)
theorem addrSame_walk (x y x2 y2 : ByteArray) (w : World) : Calls Try.prog 6 #[.agg #[.string x, .string y], .agg #[.string x2, .string y2]] w fun r w' => r = .returned (.bool true) ∧ Below w.heap.size w w' := by
  by_cases hx : x.size ≤ 100
  · by_cases hy : y.size ≤ 100
    · by_cases hx2 : x2.size ≤ 100
      · by_cases hy2 : y2.size ≤ 100
        · exact addrSame_main x y x2 y2 hx hy hx2 hy2 w
        · have g1 : ¬ 100 < (x.size : Int) := by omega
          have g2 : ¬ 100 < (y.size : Int) := by omega
          have g3 : ¬ 100 < (x2.size : Int) := by omega
          have g4 : 100 < (y2.size : Int) := by omega
          clear hx hy hx2 hy2
          go_enter Try.func6, Try.ntmps6
          go_wp2_with (go_at_call 8; ((refine (awake05 _).mono ?_); rintro r w1 ⟨rfl, hb⟩; obtain ⟨b1, b1d, rfl⟩ := of_below hb; clear hb))
          all_goals (go_returns; exact ⟨rfl, by (repeat' (first | (with_reducible exact Below.refl _ _) | (with_reducible refine Below.app ?_ ?_ _ _) | (with_reducible refine Below.alloc ?_ ?_ _) | (with_reducible refine Below.drew ?_) | (with_reducible refine Below.setCell ?_ ?_ _) | (with_reducible assumption) | omega | (simp; omega) | (simp; done)))⟩)
      · have g1 : ¬ 100 < (x.size : Int) := by omega
        have g2 : ¬ 100 < (y.size : Int) := by omega
        have g3 : 100 < (x2.size : Int) := by omega
        clear hx hy hx2
        go_enter Try.func6, Try.ntmps6
        go_wp2_with (go_at_call 8; ((refine (awake05 _).mono ?_); rintro r w1 ⟨rfl, hb⟩; obtain ⟨b1, b1d, rfl⟩ := of_below hb; clear hb))
        all_goals (go_returns; exact ⟨rfl, by (repeat' (first | (with_reducible exact Below.refl _ _) | (with_reducible refine Below.app ?_ ?_ _ _) | (with_reducible refine Below.alloc ?_ ?_ _) | (with_reducible refine Below.drew ?_) | (with_reducible refine Below.setCell ?_ ?_ _) | (with_reducible assumption) | omega | (simp; omega) | (simp; done)))⟩)
    · have g1 : ¬ 100 < (x.size : Int) := by omega
      have g2 : 100 < (y.size : Int) := by omega
      clear hx hy
      go_enter Try.func6, Try.ntmps6
      go_wp2_with (go_at_call 8; ((refine (awake05 _).mono ?_); rintro r w1 ⟨rfl, hb⟩; obtain ⟨b1, b1d, rfl⟩ := of_below hb; clear hb))
      all_goals (go_returns; exact ⟨rfl, by (repeat' (first | (with_reducible exact Below.refl _ _) | (with_reducible refine Below.app ?_ ?_ _ _) | (with_reducible refine Below.alloc ?_ ?_ _) | (with_reducible refine Below.drew ?_) | (with_reducible refine Below.setCell ?_ ?_ _) | (with_reducible assumption) | omega | (simp; omega) | (simp; done)))⟩)
  · have g1 : 100 < (x.size : Int) := by omega
    clear hx
    go_enter Try.func6, Try.ntmps6
    go_wp2_with (go_at_call 8; ((refine (awake05 _).mono ?_); rintro r w1 ⟨rfl, hb⟩; obtain ⟨b1, b1d, rfl⟩ := of_below hb; clear hb))
    all_goals (go_returns; exact ⟨rfl, by (repeat' (first | (with_reducible exact Below.refl _ _) | (with_reducible refine Below.app ?_ ?_ _ _) | (with_reducible refine Below.alloc ?_ ?_ _) | (with_reducible refine Below.drew ?_) | (with_reducible refine Below.setCell ?_ ?_ _) | (with_reducible assumption) | omega | (simp; omega) | (simp; done)))⟩)

theorem addrSame_law : LawWalk 6 Try.f6 := by
  intro H enc W base args ds ps hA hval
  rw [Try.params6] at hA hval
  obtain ⟨v0, vs0, d0, ds0, p0, q0, hargs, rfl, rfl, h0, r0⟩ := trodAll_cons hA
  obtain ⟨v1, vs1, d1, ds1, p1, q1, hargs1, rfl, rfl, h1, r1⟩ := trodAll_cons r0
  obtain ⟨rfl, rfl, rfl⟩ := trodAll_nil r1
  obtain rfl : args = #[v0, v1] := by cases args; simp_all
  obtain ⟨x, y, rfl, -, -⟩ := open_addr (hval 0 _ _ rfl rfl) h0
  obtain ⟨x2, y2, rfl, -, -⟩ := open_addr (hval 1 _ _ rfl rfl) h1
  exact addrSame_walk x y x2 y2 W

set_option maxRecDepth 100000 in
theorem addrSame_holds : Rows.AddrSameSaid :=
  OpenClaim.holds_of_wide 6 Try.f6 rfl rfl rfl rfl rfl rfl rfl ⟨rfl, rfl, rfl, rfl, rfl⟩ rfl rfl rfl rfl rfl (by kernel_rfl) Try.func6 (by kernel_rfl)
    (of_decide_eq_true (by kernel_rfl)) (by unfold Func.isWrapper; first | (rw [if_pos (by decide +kernel)]; kernel_rfl) | (rw [if_neg (by decide +kernel)]; exact ⟨rfl, rfl⟩))
    (fun os started H enc _ => law_lift (s := Rows.addrSameSpec) Try.func6 (by kernel_rfl) (by kernel_rfl) rfl (fun H ds hd => by match ds, hd with | [_, _], _ => rfl) (by kernel_rfl) os started H enc
      (ChangeSpec.witness6 (enc := enc) (C := Try.checked) false ⟨#[], #[.agg #[.string ⟨#[]⟩, .string ⟨#[]⟩], .agg #[.string ⟨#[]⟩, .string ⟨#[]⟩]], []⟩ 8 (by kernel_rfl) (by kernel_rfl) (by kernel_rfl) (by kernel_rfl)) addrSame_law)
#print axioms addrSame_holds
end Go.Proofs.Ytnbllnnbdopjoaa
