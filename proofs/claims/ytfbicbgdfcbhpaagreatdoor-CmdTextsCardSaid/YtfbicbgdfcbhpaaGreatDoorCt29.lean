/-
  RefRead, AddrText.
-/
import Derived.Test.YtfbicbgdfcbhpaaGreatDoorCt27
import Derived.Test.YtfbicbgdfcbhpaaGreatDoorCt28
import Derived.Test.YtfbicbgdfcbhpaaGreatDoorCt21
import Derived.Lib.SlicesS
set_option maxRecDepth 20000
set_option linter.unusedVariables false
set_option linter.unusedSimpArgs false
set_option linter.unusedSectionVars false
namespace Go.Proofs.YtfbicbgdfcbhpaaGreatDoor
open Go.ChangeShapes Go.WideShapes Go.ChangeAt Go.RowKit
set_option maxRecDepth 100000 in
set_option maxHeartbeats 8000000 in
theorem rread_null (s : ByteArray) (hn : Lib.hasPrefix s.data.toList [60, 62] = true) (w : World) : Calls Tryz.prog 74 #[.string s, .bool true] w (GotIs (⟨#[]⟩, ⟨#[]⟩, 2, 0) w) := by
 have hp : ((s.extract 0 2).toList == [60, 62]) = true := by rw [prefix_two]; exact hn
 have h2 : 2 ≤ s.size := by
  have hl : s.data.toList.length = s.size := by simp
  unfold Lib.hasPrefix at hn
  have := (List.isPrefixOf_iff_prefix.1 hn).length_le
  simpa [hl] using this
 clear hn
 go_enter Tryz.func74, Tryz.ntmps74
 go_wp2
 go_returns
 exact .of rfl rfl (by (repeat' (first | (with_reducible exact Below.refl _ _) | (with_reducible refine Below.app ?_ ?_ _ _) | (with_reducible refine Below.alloc ?_ ?_ _) | (with_reducible refine Below.drew ?_) | (with_reducible refine Below.setCell ?_ ?_ _) | (with_reducible assumption) | omega | (simp; omega) | (simp; done))))
set_option maxRecDepth 100000 in
set_option maxHeartbeats 8000000 in
theorem rread_no (s : ByteArray) (null : Bool) (hnl : nullB s null = false) (h60 : ¬ s.data.toList.getD 0 0 = 60) (w : World) : Calls Tryz.prog 74 #[.string s, .bool null] w (GotIs (⟨#[]⟩, ⟨#[]⟩, 0, 3) w) := by
 have hlen : s.data.toList.length = s.size := by simp
 have hp : null = true → ((s.extract 0 2).toList == [60, 62]) = false := fun h => by subst h; rw [prefix_two]; unfold nullB at hnl; rwa [Bool.true_and] at hnl
 have hxl : s.toList = s.data.toList := ByteArray.toList_mk s.data.toList
 clear hnl
 by_cases h0 : 0 < s.size
 · have he2 : s.toList.isEmpty = false := by
    rw [hxl]
    cases h : s.data.toList with
    | nil => rw [h] at hlen; simp at hlen; omega
    | cons a b => rfl
   have h60' : ((s[0].toNat : Int) != 60) = true := by
    rw [getD_lt h0, ← UInt8.toNat_inj] at h60; simp at h60 ⊢; omega
   clear hxl h60
   cases null
   all_goals
    try replace hp := hp rfl
    go_enter Tryz.func74, Tryz.ntmps74
    go_wp2
    all_goals
     go_returns
     exact .of rfl rfl (by (repeat' (first | (with_reducible exact Below.refl _ _) | (with_reducible refine Below.app ?_ ?_ _ _) | (with_reducible refine Below.alloc ?_ ?_ _) | (with_reducible refine Below.drew ?_) | (with_reducible refine Below.setCell ?_ ?_ _) | (with_reducible assumption) | omega | (simp; omega) | (simp; done))))
 · have he2 : s.toList.isEmpty = true := by
    rw [hxl]
    cases h : s.data.toList with
    | nil => rfl
    | cons a b => rw [h] at hlen; simp at hlen; omega
   have he3 : s.toList = [] := by simpa using he2
   clear hxl h60
   cases null
   all_goals
    try replace hp := hp rfl
    go_enter Tryz.func74, Tryz.ntmps74
    go_wp2
    all_goals
     go_returns
     exact .of rfl rfl (by (repeat' (first | (with_reducible exact Below.refl _ _) | (with_reducible refine Below.app ?_ ?_ _ _) | (with_reducible refine Below.alloc ?_ ?_ _) | (with_reducible refine Below.drew ?_) | (with_reducible refine Below.setCell ?_ ?_ _) | (with_reducible assumption) | omega | (simp; omega) | (simp; done))))
theorem rread_calls (s : ByteArray) (null : Bool) (hs : s.size ≤ 1000000000000) (w : World) : Calls Tryz.prog 74 #[.string s, .bool null] w (GotIs (readP s null) w) := by
 cases hnl : nullB s null
 case true =>
  have hn : null = true ∧ Lib.hasPrefix s.data.toList [60, 62] = true := by have := hnl; unfold nullB at this; simpa using this
  obtain ⟨rfl, hn⟩ := hn
  rw [show readP s true = (⟨#[]⟩, ⟨#[]⟩, 2, 0) by unfold readP; rw [if_pos hnl]]
  exact rread_null s hn w
 case false =>
 by_cases h60 : s.data.toList.getD 0 0 = 60
 · have h1 : 0 < s.size := getD_pos h60 (by decide)
   have h60' : ((s[0].toNat : Int) == 60) = true := by rw [getD_lt h1] at h60; rw [h60]; rfl
   by_cases hr : s.data.toList.getD 1 0 = 64
   · exact rread_route s null hs hnl h1 h60' hr w
   · exact rread_one s null hs hnl h1 h60' hr w
 · rw [readP_no hnl h60]
   exact rread_no s null hnl h60 w
end Go.Proofs.YtfbicbgdfcbhpaaGreatDoor
set_option maxRecDepth 20000
set_option linter.unusedVariables false
set_option linter.unusedSimpArgs false
set_option linter.unusedSectionVars false
namespace Go.Proofs.YtfbicbgdfcbhpaaGreatDoor
open Go.ChangeShapes Go.WideShapes Go.ChangeAt Go.RowKit
theorem writtenS_size (x : ByteArray) : (writtenS x).size ≤ 2 * x.size + 2 := by
 unfold writtenS
 split
 · omega
 · rw [size_bytes]
   have := escL_len x.data.toList
   simp at this ⊢
   omega
def textS (x y : ByteArray) : ByteArray := if goodB x y = true then writtenS x ++ ⟨#[64]⟩ ++ y else ⟨#[]⟩
def textE (x y : ByteArray) : Int := if goodB x y = true then 0 else 3
set_option maxHeartbeats 2000000 in
theorem text_calls (x y : ByteArray) (hx : x.size ≤ 40000000000000) (hy : y.size ≤ 40000000000000) (w : World) : Calls Tryz.prog 76 #[.agg #[.string x, .string y]] w fun r w' => r = .returned (.tuple #[.string (textS x y), .int .i64 (textE x y)]) ∧ Below w.heap.size w w' := by
 have hg := good_calls x y (by omega) (by omega)
 have hw := Lib.hid (written_calls x hx)
 have hws := writtenS_size x
 have hws2 : (writtenS x).size ≤ 100000000000000 := by omega
 clear hws
 unfold textS textE
 generalize writtenS x = u at *
 cases hb : goodB x y
 · rw [hb] at hg
   replace hg := Lib.hid hg
   clear hb
   go_enter Tryz.func76, Tryz.ntmps76
   go_wp2_with (go_at_call 108; ((refine (hg.out _).mono ?_); rintro r w1 ⟨rfl, hb⟩; obtain ⟨b1, b1d, rfl⟩ := of_below hb; clear hb))
   go_returns
   exact ⟨rfl, by (repeat' (first | (with_reducible exact Below.refl _ _) | (with_reducible refine Below.app ?_ ?_ _ _) | (with_reducible refine Below.alloc ?_ ?_ _) | (with_reducible refine Below.drew ?_) | (with_reducible refine Below.setCell ?_ ?_ _) | (with_reducible assumption) | omega | (simp; omega) | (simp; done)))⟩
 · rw [hb] at hg
   replace hg := Lib.hid hg
   clear hb
   go_enter Tryz.func76, Tryz.ntmps76
   go_wp2_with (go_at_call 108; ((refine (hg.out _).mono ?_); rintro r w1 ⟨rfl, hb⟩; obtain ⟨b1, b1d, rfl⟩ := of_below hb; clear hb))
   (apply wp_region_text 9; kernel_rfl; kernel_rfl; intro Fin hFin; (repeat (first | (apply text_run; exact rfl; (focus (intro bs d hF K hK; (repeat rw [app_app] at hK); (repeat rw [app_app]); (repeat rw [Array.append_assoc] at hK); (repeat rw [Array.append_assoc]); go_step; first  | (go_at_call 109; ((with_reducible refine (hw.out _).mono ?_); rintro r w1 ⟨rfl, hb⟩; simp only []; exact hK _ hb))  | (refine hK _ ?_; (repeat' (first | (with_reducible exact Below.refl _ _) | (with_reducible refine Below.app ?_ ?_ _ _) | (with_reducible refine Below.alloc ?_ ?_ _) | (with_reducible refine Below.drew ?_) | (with_reducible refine Below.setCell ?_ ?_ _) | (with_reducible assumption) | omega | (simp; omega) | (simp; done)))))); (try simp only [Act.put, List.setIfInBounds_toArray, List.set_cons_zero, List.set_cons_succ])) | (apply text_skip; exact rfl; (try simp only [Act.put, List.setIfInBounds_toArray, List.set_cons_zero, List.set_cons_succ])))); apply text_end; apply hFin; clear hFin Fin; intro bs d hfa)
   go_wp2
   go_returns
   exact ⟨rfl, by (repeat' (first | (with_reducible exact Below.refl _ _) | (with_reducible refine Below.app ?_ ?_ _ _) | (with_reducible refine Below.alloc ?_ ?_ _) | (with_reducible refine Below.drew ?_) | (with_reducible refine Below.setCell ?_ ?_ _) | (with_reducible assumption) | omega | (simp; omega) | (simp; done)))⟩
theorem textS_size (x y : ByteArray) : (textS x y).size ≤ 2 * x.size + 3 + y.size := by
 have := writtenS_size x
 unfold textS
 split
 · have h1 : (⟨#[64]⟩ : ByteArray).size = 1 := rfl
   rw [ByteArray.size_append, ByteArray.size_append, h1]; omega
 · exact Nat.zero_le _
def pathS (x y : ByteArray) : ByteArray := if x.toList = [] ∧ y.toList = [] then ⟨#[60, 62]⟩ else if goodB x y = true then ⟨#[60]⟩ ++ textS x y ++ ⟨#[62]⟩ else ⟨#[]⟩
def pathE (x y : ByteArray) : Int := if x.toList = [] ∧ y.toList = [] then 0 else textE x y
set_option maxHeartbeats 2000000 in
theorem path_calls (x y : ByteArray) (hx : x.size ≤ 40000000000000) (hy : y.size ≤ 40000000000000) (w : World) : Calls Tryz.prog 46 #[.agg #[.string x, .string y]] w fun r w' => r = .returned (.tuple #[.string (pathS x y), .int .i64 (pathE x y)]) ∧ Below w.heap.size w w' := by
 have ht := text_calls x y hx hy
 unfold pathS pathE
 unfold textE at ht
 by_cases h1 : x.toList = []
 · by_cases h2 : y.toList = []
   · rw [if_pos ⟨h1, h2⟩, if_pos ⟨h1, h2⟩]
     clear ht
     go_enter Tryz.func46, Tryz.ntmps46
     go_wp2
     go_returns
     exact ⟨rfl, by (repeat' (first | (with_reducible exact Below.refl _ _) | (with_reducible refine Below.app ?_ ?_ _ _) | (with_reducible refine Below.alloc ?_ ?_ _) | (with_reducible refine Below.drew ?_) | (with_reducible refine Below.setCell ?_ ?_ _) | (with_reducible assumption) | omega | (simp; omega) | (simp; done)))⟩
   · have hn : ¬ (x.toList = [] ∧ y.toList = []) := fun h => h2 h.2
     have h2' : (y.toList == []) = false := by simpa using h2
     rw [if_neg hn, if_neg hn]
     clear hn
     cases hb : goodB x y
     · rw [hb] at ht
       have hts : textS x y = ⟨#[]⟩ := by unfold textS; rw [hb]; rfl
       rw [hts] at ht
       unfold textE
       rw [hb]
       replace ht := Lib.hid ht
       clear hb hts
       go_enter Tryz.func46, Tryz.ntmps46
       go_wp2_with (go_at_call 76; ((refine (ht.out _).mono ?_); rintro r w1 ⟨rfl, hb⟩; obtain ⟨b1, b1d, rfl⟩ := of_below hb; clear hb))
       all_goals (go_returns; exact ⟨rfl, by (repeat' (first | (with_reducible exact Below.refl _ _) | (with_reducible refine Below.app ?_ ?_ _ _) | (with_reducible refine Below.alloc ?_ ?_ _) | (with_reducible refine Below.drew ?_) | (with_reducible refine Below.setCell ?_ ?_ _) | (with_reducible assumption) | omega | (simp; omega) | (simp; done)))⟩)
     · have hsz := textS_size x y
       have hsz2 : (textS x y).size ≤ 130000000000000 := by omega
       rw [hb] at ht
       unfold textE
       rw [hb]
       clear hb hsz
       generalize textS x y = u at *
       replace ht := Lib.hid ht
       go_enter Tryz.func46, Tryz.ntmps46
       go_wp2_with (go_at_call 76; ((refine (ht.out _).mono ?_); rintro r w1 ⟨rfl, hb⟩; obtain ⟨b1, b1d, rfl⟩ := of_below hb; clear hb))
       all_goals (go_returns; exact ⟨rfl, by (repeat' (first | (with_reducible exact Below.refl _ _) | (with_reducible refine Below.app ?_ ?_ _ _) | (with_reducible refine Below.alloc ?_ ?_ _) | (with_reducible refine Below.drew ?_) | (with_reducible refine Below.setCell ?_ ?_ _) | (with_reducible assumption) | omega | (simp; omega) | (simp; done)))⟩)
 · have hn : ¬ (x.toList = [] ∧ y.toList = []) := fun h => h1 h.1
   have h1' : (x.toList == []) = false := by simpa using h1
   rw [if_neg hn, if_neg hn]
   clear hn
   cases hb : goodB x y
   · rw [hb] at ht
     have hts : textS x y = ⟨#[]⟩ := by unfold textS; rw [hb]; rfl
     rw [hts] at ht
     unfold textE
     rw [hb]
     replace ht := Lib.hid ht
     clear hb hts
     go_enter Tryz.func46, Tryz.ntmps46
     go_wp2_with (go_at_call 76; ((refine (ht.out _).mono ?_); rintro r w1 ⟨rfl, hb⟩; obtain ⟨b1, b1d, rfl⟩ := of_below hb; clear hb))
     all_goals (go_returns; exact ⟨rfl, by (repeat' (first | (with_reducible exact Below.refl _ _) | (with_reducible refine Below.app ?_ ?_ _ _) | (with_reducible refine Below.alloc ?_ ?_ _) | (with_reducible refine Below.drew ?_) | (with_reducible refine Below.setCell ?_ ?_ _) | (with_reducible assumption) | omega | (simp; omega) | (simp; done)))⟩)
   · have hsz := textS_size x y
     have hsz2 : (textS x y).size ≤ 130000000000000 := by omega
     rw [hb] at ht
     unfold textE
     rw [hb]
     clear hb hsz
     generalize textS x y = u at *
     replace ht := Lib.hid ht
     go_enter Tryz.func46, Tryz.ntmps46
     go_wp2_with (go_at_call 76; ((refine (ht.out _).mono ?_); rintro r w1 ⟨rfl, hb⟩; obtain ⟨b1, b1d, rfl⟩ := of_below hb; clear hb))
     all_goals (go_returns; exact ⟨rfl, by (repeat' (first | (with_reducible exact Below.refl _ _) | (with_reducible refine Below.app ?_ ?_ _ _) | (with_reducible refine Below.alloc ?_ ?_ _) | (with_reducible refine Below.drew ?_) | (with_reducible refine Below.setCell ?_ ?_ _) | (with_reducible assumption) | omega | (simp; omega) | (simp; done)))⟩)
end Go.Proofs.YtfbicbgdfcbhpaaGreatDoor
