/-
  addr.Text, addr.Path, addr.Key, addr.Same: what they give.
-/
import Derived.Test.YtnbllnnbdopjoaaWritten
import Derived.Lib.SlicesS
namespace Go.Proofs.Ytnbllnnbdopjoaa
open Go.ChangeShapes Go.WideShapes Go.ChangeAt Go.RowKit

theorem writtenS_size (x : ByteArray) : (writtenS x).size ≤ 2 * x.size + 2 := by
  unfold writtenS
  split
  · omega
  · rw [size_bytes]
    have := escL_len x.data.toList
    simp at this ⊢
    omega
def textS (x y : ByteArray) : ByteArray := if goodB x y = true then writtenS x ++ ⟨#[64]⟩ ++ y else ⟨#[]⟩
def textE (x y : ByteArray) : Int := if goodB x y = true then 0 else 3
set_option maxHeartbeats 2000000 in
theorem text_calls (x y : ByteArray) (hx : x.size ≤ 40000000000000) (hy : y.size ≤ 40000000000000) (w : World) : Calls Try.prog 15 #[.agg #[.string x, .string y]] w fun r w' => r = .returned (.tuple #[.string (textS x y), .int .i64 (textE x y)]) ∧ Below w.heap.size w w' := by
  have hg := good_calls x y (by omega) (by omega)
  have hw := Lib.hid (written_calls x hx)
  have hws := writtenS_size x
  have hws2 : (writtenS x).size ≤ 100000000000000 := by omega
  clear hws
  unfold textS textE
  generalize writtenS x = u at *
  cases hb : goodB x y
  · rw [hb] at hg
    replace hg := Lib.hid hg
    clear hb
    go_enter Try.func15, Try.ntmps15
    go_wp2_with (go_at_call 17; ((refine (hg.out _).mono ?_); rintro r w1 ⟨rfl, hb⟩; obtain ⟨b1, b1d, rfl⟩ := of_below hb; clear hb))
    go_returns
    exact ⟨rfl, by (repeat' (first | (with_reducible exact Below.refl _ _) | (with_reducible refine Below.app ?_ ?_ _ _) | (with_reducible refine Below.alloc ?_ ?_ _) | (with_reducible refine Below.drew ?_) | (with_reducible refine Below.setCell ?_ ?_ _) | (with_reducible assumption) | omega | (simp; omega) | (simp; done)))⟩
  · rw [hb] at hg
    replace hg := Lib.hid hg
    clear hb
    go_enter Try.func15, Try.ntmps15
    go_wp2_with (go_at_call 17; ((refine (hg.out _).mono ?_); rintro r w1 ⟨rfl, hb⟩; obtain ⟨b1, b1d, rfl⟩ := of_below hb; clear hb))
    (apply wp_region_text 9; kernel_rfl; kernel_rfl; intro Fin hFin; (repeat (first | (apply text_run; exact rfl; (focus (intro bs d hF K hK; (repeat rw [app_app] at hK); (repeat rw [app_app]); (repeat rw [Array.append_assoc] at hK); (repeat rw [Array.append_assoc]); go_step; first  | (go_at_call 33; ((with_reducible refine (hw.out _).mono ?_); rintro r w1 ⟨rfl, hb⟩; simp only []; exact hK _ hb))  | (refine hK _ ?_; (repeat' (first | (with_reducible exact Below.refl _ _) | (with_reducible refine Below.app ?_ ?_ _ _) | (with_reducible refine Below.alloc ?_ ?_ _) | (with_reducible refine Below.drew ?_) | (with_reducible refine Below.setCell ?_ ?_ _) | (with_reducible assumption) | omega | (simp; omega) | (simp; done)))))); (try simp only [Act.put, List.setIfInBounds_toArray, List.set_cons_zero, List.set_cons_succ])) | (apply text_skip; exact rfl; (try simp only [Act.put, List.setIfInBounds_toArray, List.set_cons_zero, List.set_cons_succ])))); apply text_end; apply hFin; clear hFin Fin; intro bs d hfa)
    go_wp2
    go_returns
    exact ⟨rfl, by (repeat' (first | (with_reducible exact Below.refl _ _) | (with_reducible refine Below.app ?_ ?_ _ _) | (with_reducible refine Below.alloc ?_ ?_ _) | (with_reducible refine Below.drew ?_) | (with_reducible refine Below.setCell ?_ ?_ _) | (with_reducible assumption) | omega | (simp; omega) | (simp; done)))⟩

theorem textS_size (x y : ByteArray) : (textS x y).size ≤ 2 * x.size + 3 + y.size := by
  have := writtenS_size x
  unfold textS
  split
  · have h1 : (⟨#[64]⟩ : ByteArray).size = 1 := rfl
    rw [ByteArray.size_append, ByteArray.size_append, h1]; omega
  · exact Nat.zero_le _
def pathS (x y : ByteArray) : ByteArray := if x.toList = [] ∧ y.toList = [] then ⟨#[60, 62]⟩ else if goodB x y = true then ⟨#[60]⟩ ++ textS x y ++ ⟨#[62]⟩ else ⟨#[]⟩
def pathE (x y : ByteArray) : Int := if x.toList = [] ∧ y.toList = [] then 0 else textE x y
set_option maxHeartbeats 2000000 in
theorem path_calls (x y : ByteArray) (hx : x.size ≤ 40000000000000) (hy : y.size ≤ 40000000000000) (w : World) : Calls Try.prog 16 #[.agg #[.string x, .string y]] w fun r w' => r = .returned (.tuple #[.string (pathS x y), .int .i64 (pathE x y)]) ∧ Below w.heap.size w w' := by
  have ht := text_calls x y hx hy
  unfold pathS pathE
  unfold textE at ht
  by_cases h1 : x.toList = []
  · by_cases h2 : y.toList = []
    · rw [if_pos ⟨h1, h2⟩, if_pos ⟨h1, h2⟩]
      clear ht
      go_enter Try.func16, Try.ntmps16
      go_wp2
      go_returns
      exact ⟨rfl, by (repeat' (first | (with_reducible exact Below.refl _ _) | (with_reducible refine Below.app ?_ ?_ _ _) | (with_reducible refine Below.alloc ?_ ?_ _) | (with_reducible refine Below.drew ?_) | (with_reducible refine Below.setCell ?_ ?_ _) | (with_reducible assumption) | omega | (simp; omega) | (simp; done)))⟩
    · have hn : ¬ (x.toList = [] ∧ y.toList = []) := fun h => h2 h.2
      have h2' : (y.toList == []) = false := by simpa using h2
      rw [if_neg hn, if_neg hn]
      clear hn
      cases hb : goodB x y
      · rw [hb] at ht
        have hts : textS x y = ⟨#[]⟩ := by unfold textS; rw [hb]; rfl
        rw [hts] at ht
        unfold textE
        rw [hb]
        replace ht := Lib.hid ht
        clear hb hts
        go_enter Try.func16, Try.ntmps16
        go_wp2_with (go_at_call 15; ((refine (ht.out _).mono ?_); rintro r w1 ⟨rfl, hb⟩; obtain ⟨b1, b1d, rfl⟩ := of_below hb; clear hb))
        all_goals (go_returns; exact ⟨rfl, by (repeat' (first | (with_reducible exact Below.refl _ _) | (with_reducible refine Below.app ?_ ?_ _ _) | (with_reducible refine Below.alloc ?_ ?_ _) | (with_reducible refine Below.drew ?_) | (with_reducible refine Below.setCell ?_ ?_ _) | (with_reducible assumption) | omega | (simp; omega) | (simp; done)))⟩)
      · have hsz := textS_size x y
        have hsz2 : (textS x y).size ≤ 130000000000000 := by omega
        rw [hb] at ht
        unfold textE
        rw [hb]
        clear hb hsz
        generalize textS x y = u at *
        replace ht := Lib.hid ht
        go_enter Try.func16, Try.ntmps16
        go_wp2_with (go_at_call 15; ((refine (ht.out _).mono ?_); rintro r w1 ⟨rfl, hb⟩; obtain ⟨b1, b1d, rfl⟩ := of_below hb; clear hb))
        all_goals (go_returns; exact ⟨rfl, by (repeat' (first | (with_reducible exact Below.refl _ _) | (with_reducible refine Below.app ?_ ?_ _ _) | (with_reducible refine Below.alloc ?_ ?_ _) | (with_reducible refine Below.drew ?_) | (with_reducible refine Below.setCell ?_ ?_ _) | (with_reducible assumption) | omega | (simp; omega) | (simp; done)))⟩)
  · have hn : ¬ (x.toList = [] ∧ y.toList = []) := fun h => h1 h.1
    have h1' : (x.toList == []) = false := by simpa using h1
    rw [if_neg hn, if_neg hn]
    clear hn
    cases hb : goodB x y
    · rw [hb] at ht
      have hts : textS x y = ⟨#[]⟩ := by unfold textS; rw [hb]; rfl
      rw [hts] at ht
      unfold textE
      rw [hb]
      replace ht := Lib.hid ht
      clear hb hts
      go_enter Try.func16, Try.ntmps16
      go_wp2_with (go_at_call 15; ((refine (ht.out _).mono ?_); rintro r w1 ⟨rfl, hb⟩; obtain ⟨b1, b1d, rfl⟩ := of_below hb; clear hb))
      all_goals (go_returns; exact ⟨rfl, by (repeat' (first | (with_reducible exact Below.refl _ _) | (with_reducible refine Below.app ?_ ?_ _ _) | (with_reducible refine Below.alloc ?_ ?_ _) | (with_reducible refine Below.drew ?_) | (with_reducible refine Below.setCell ?_ ?_ _) | (with_reducible assumption) | omega | (simp; omega) | (simp; done)))⟩)
    · have hsz := textS_size x y
      have hsz2 : (textS x y).size ≤ 130000000000000 := by omega
      rw [hb] at ht
      unfold textE
      rw [hb]
      clear hb hsz
      generalize textS x y = u at *
      replace ht := Lib.hid ht
      go_enter Try.func16, Try.ntmps16
      go_wp2_with (go_at_call 15; ((refine (ht.out _).mono ?_); rintro r w1 ⟨rfl, hb⟩; obtain ⟨b1, b1d, rfl⟩ := of_below hb; clear hb))
      all_goals (go_returns; exact ⟨rfl, by (repeat' (first | (with_reducible exact Below.refl _ _) | (with_reducible refine Below.app ?_ ?_ _ _) | (with_reducible refine Below.alloc ?_ ?_ _) | (with_reducible refine Below.drew ?_) | (with_reducible refine Below.setCell ?_ ?_ _) | (with_reducible assumption) | omega | (simp; omega) | (simp; done)))⟩)

def keyS (x y : ByteArray) : ByteArray := if goodB x y = true then lowerS x ++ ⟨#[64]⟩ ++ lowerS y else ⟨#[]⟩
theorem lowerS_size (x : ByteArray) : (lowerS x).size = x.size := by unfold lowerS; rw [size_bytes]; simp
set_option maxHeartbeats 2000000 in
theorem key_calls (x y : ByteArray) (hx : x.size ≤ 40000000000000) (hy : y.size ≤ 40000000000000) (w : World) : Calls Try.prog 23 #[.agg #[.string x, .string y]] w fun r w' => r = .returned (.string (keyS x y)) ∧ Below w.heap.size w w' := by
  have hg := good_calls x y (by omega) (by omega)
  have hlx := Lib.hid (lower_calls x (by omega))
  have hly := Lib.hid (lower_calls y (by omega))
  have h1 : (lowerS x).size ≤ 40000000000000 := by rw [lowerS_size]; exact hx
  have h2 : (lowerS y).size ≤ 40000000000000 := by rw [lowerS_size]; exact hy
  unfold keyS
  cases hb : goodB x y
  · rw [hb] at hg
    replace hg := Lib.hid hg
    clear hb
    go_enter Try.func23, Try.ntmps23
    go_wp2_with (go_at_call 17; ((refine (hg.out _).mono ?_); rintro r w1 ⟨rfl, hb⟩; obtain ⟨b1, b1d, rfl⟩ := of_below hb; clear hb))
    go_returns
    exact ⟨rfl, by (repeat' (first | (with_reducible exact Below.refl _ _) | (with_reducible refine Below.app ?_ ?_ _ _) | (with_reducible refine Below.alloc ?_ ?_ _) | (with_reducible refine Below.drew ?_) | (with_reducible refine Below.setCell ?_ ?_ _) | (with_reducible assumption) | omega | (simp; omega) | (simp; done)))⟩
  · rw [hb] at hg
    replace hg := Lib.hid hg
    clear hb
    go_enter Try.func23, Try.ntmps23
    go_wp2_with (go_at_call 17; ((refine (hg.out _).mono ?_); rintro r w1 ⟨rfl, hb⟩; obtain ⟨b1, b1d, rfl⟩ := of_below hb; clear hb))
    (apply wp_region_text 9; kernel_rfl; kernel_rfl; intro Fin hFin; (repeat (first | (apply text_run; exact rfl; (focus (intro bs d hF K hK; (repeat rw [app_app] at hK); (repeat rw [app_app]); (repeat rw [Array.append_assoc] at hK); (repeat rw [Array.append_assoc]); go_step; first  | (go_at_call 38; ((with_reducible refine (hlx.out _).mono ?_); rintro r w1 ⟨rfl, hb⟩; simp only []; exact hK _ hb)) | (go_at_call 38; ((with_reducible refine (hly.out _).mono ?_); rintro r w1 ⟨rfl, hb⟩; simp only []; exact hK _ hb))  | (refine hK _ ?_; (repeat' (first | (with_reducible exact Below.refl _ _) | (with_reducible refine Below.app ?_ ?_ _ _) | (with_reducible refine Below.alloc ?_ ?_ _) | (with_reducible refine Below.drew ?_) | (with_reducible refine Below.setCell ?_ ?_ _) | (with_reducible assumption) | omega | (simp; omega) | (simp; done)))))); (try simp only [Act.put, List.setIfInBounds_toArray, List.set_cons_zero, List.set_cons_succ])) | (apply text_skip; exact rfl; (try simp only [Act.put, List.setIfInBounds_toArray, List.set_cons_zero, List.set_cons_succ])))); apply text_end; apply hFin; clear hFin Fin; intro bs d hfa)
    go_wp2
    go_returns
    exact ⟨rfl, by (repeat' (first | (with_reducible exact Below.refl _ _) | (with_reducible refine Below.app ?_ ?_ _ _) | (with_reducible refine Below.alloc ?_ ?_ _) | (with_reducible refine Below.drew ?_) | (with_reducible refine Below.setCell ?_ ?_ _) | (with_reducible assumption) | omega | (simp; omega) | (simp; done)))⟩
end Go.Proofs.Ytnbllnnbdopjoaa
