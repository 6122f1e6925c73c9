/-
  ref05.Read: what it gives.
-/
import Derived.Test.YtnbllnnbdopjoaaRefReadA
import Derived.Test.YtnbllnnbdopjoaaRefReadB
namespace Go.Proofs.Ytnbllnnbdopjoaa
open Go.ChangeShapes Go.WideShapes Go.ChangeAt Go.RowKit

set_option maxRecDepth 100000 in
set_option maxHeartbeats 8000000 in
theorem rread_null (s : ByteArray) (hn : Lib.hasPrefix s.data.toList [60, 62] = true) (w : World) : Calls Try.prog 12 #[.string s, .bool true] w (GotIs (⟨#[]⟩, ⟨#[]⟩, 2, 0) w) := by
  have hp : ((s.extract 0 2).toList == [60, 62]) = true := by rw [prefix_two]; exact hn
  have h2 : 2 ≤ s.size := by
    have hl : s.data.toList.length = s.size := by simp
    unfold Lib.hasPrefix at hn
    have := (List.isPrefixOf_iff_prefix.1 hn).length_le
    simpa [hl] using this
  clear hn
  go_enter Try.func12, Try.ntmps12
  go_wp2
  go_returns
  exact .of rfl rfl (by (repeat' (first | (with_reducible exact Below.refl _ _) | (with_reducible refine Below.app ?_ ?_ _ _) | (with_reducible refine Below.alloc ?_ ?_ _) | (with_reducible refine Below.drew ?_) | (with_reducible refine Below.setCell ?_ ?_ _) | (with_reducible assumption) | omega | (simp; omega) | (simp; done))))
set_option maxRecDepth 100000 in
set_option maxHeartbeats 8000000 in
theorem rread_no (s : ByteArray) (null : Bool) (hnl : nullB s null = false) (h60 : ¬ s.data.toList.getD 0 0 = 60) (w : World) : Calls Try.prog 12 #[.string s, .bool null] w (GotIs (⟨#[]⟩, ⟨#[]⟩, 0, 3) w) := by
  have hlen : s.data.toList.length = s.size := by simp
  have hp : null = true → ((s.extract 0 2).toList == [60, 62]) = false := fun h => by subst h; rw [prefix_two]; unfold nullB at hnl; rwa [Bool.true_and] at hnl
  have hxl : s.toList = s.data.toList := ByteArray.toList_mk s.data.toList
  clear hnl
  by_cases h0 : 0 < s.size
  · have he2 : s.toList.isEmpty = false := by
      rw [hxl]
      cases h : s.data.toList with
      | nil => rw [h] at hlen; simp at hlen; omega
      | cons a b => rfl
    have h60' : ((s[0].toNat : Int) != 60) = true := by
      rw [getD_lt h0, ← UInt8.toNat_inj] at h60; simp at h60 ⊢; omega
    clear hxl h60
    cases null
    all_goals
      try replace hp := hp rfl
      go_enter Try.func12, Try.ntmps12
      go_wp2
      all_goals
        go_returns
        exact .of rfl rfl (by (repeat' (first | (with_reducible exact Below.refl _ _) | (with_reducible refine Below.app ?_ ?_ _ _) | (with_reducible refine Below.alloc ?_ ?_ _) | (with_reducible refine Below.drew ?_) | (with_reducible refine Below.setCell ?_ ?_ _) | (with_reducible assumption) | omega | (simp; omega) | (simp; done))))
  · have he2 : s.toList.isEmpty = true := by
      rw [hxl]
      cases h : s.data.toList with
      | nil => rfl
      | cons a b => rw [h] at hlen; simp at hlen; omega
    have he3 : s.toList = [] := by simpa using he2
    clear hxl h60
    cases null
    all_goals
      try replace hp := hp rfl
      go_enter Try.func12, Try.ntmps12
      go_wp2
      all_goals
        go_returns
        exact .of rfl rfl (by (repeat' (first | (with_reducible exact Below.refl _ _) | (with_reducible refine Below.app ?_ ?_ _ _) | (with_reducible refine Below.alloc ?_ ?_ _) | (with_reducible refine Below.drew ?_) | (with_reducible refine Below.setCell ?_ ?_ _) | (with_reducible assumption) | omega | (simp; omega) | (simp; done))))
theorem rread_calls (s : ByteArray) (null : Bool) (hs : s.size ≤ 1000000000000) (w : World) : Calls Try.prog 12 #[.string s, .bool null] w (GotIs (readP s null) w) := by
  cases hnl : nullB s null
  case true =>
    have hn : null = true ∧ Lib.hasPrefix s.data.toList [60, 62] = true := by have := hnl; unfold nullB at this; simpa using this
    obtain ⟨rfl, hn⟩ := hn
    rw [show readP s true = (⟨#[]⟩, ⟨#[]⟩, 2, 0) by unfold readP; rw [if_pos hnl]]
    exact rread_null s hn w
  case false =>
  by_cases h60 : s.data.toList.getD 0 0 = 60
  · have h1 : 0 < s.size := getD_pos h60 (by decide)
    have h60' : ((s[0].toNat : Int) == 60) = true := by rw [getD_lt h1] at h60; rw [h60]; rfl
    by_cases hr : s.data.toList.getD 1 0 = 64
    · exact rread_route s null hs hnl h1 h60' hr w
    · exact rread_one s null hs hnl h1 h60' hr w
  · rw [readP_no hnl h60]
    exact rread_no s null hnl h60 w
end Go.Proofs.Ytnbllnnbdopjoaa
