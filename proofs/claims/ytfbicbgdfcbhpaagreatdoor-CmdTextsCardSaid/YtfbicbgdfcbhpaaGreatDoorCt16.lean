/-
  Local.
-/
import Derived.Test.YtfbicbgdfcbhpaaGreatDoorCt15
set_option maxRecDepth 20000
set_option linter.unusedVariables false
set_option linter.unusedSimpArgs false
set_option linter.unusedSectionVars false
namespace Go.Proofs.YtfbicbgdfcbhpaaGreatDoor
open Go.ChangeShapes Go.WideShapes Go.ChangeAt Go.RowKit
theorem extract_list (s : ByteArray) (n k : Nat) : s.extract n (n + k) = ⟨((s.data.toList.drop n).take k).toArray⟩ := by
 apply ByteArray.ext
 apply Array.ext'
 rw [ByteArray.data_extract, Array.toList_extract, List.extract_eq_take_drop]
 simp
def LPost (s : ByteArray) (lg : Bool) (b : Nat) : Option (List UInt8 × Nat) → World → Ending → World → Prop
 | some (t, K), w => After b #[.string s, .int .i64 K, .bool (lg || decide (64 < (t.length : Int)))] (.returned (.tuple #[.string ⟨t.toArray⟩, .bool true])) w
 | none, w => AfterF s b (.returned (.tuple #[.string ⟨#[]⟩, .bool false])) w
theorem LPost.yes {s : ByteArray} {lg : Bool} {b : Nat} {w : World} {R : Option (List UInt8 × Nat)} (t : List UInt8) (K : Nat) (e : Ending) (w' : World) (h1 : R = some (t, K)) (h2 : After b #[.string s, .int .i64 K, .bool (lg || decide (64 < (t.length : Int)))] (.returned (.tuple #[.string ⟨t.toArray⟩, .bool true])) w e w') : LPost s lg b R w e w' := by rw [h1]; exact h2
theorem LPost.no {s : ByteArray} {lg : Bool} {b : Nat} {w : World} {R : Option (List UInt8 × Nat)} (e : Ending) (w' : World) (h1 : R = none) (h2 : AfterF s b (.returned (.tuple #[.string ⟨#[]⟩, .bool false])) w e w') : LPost s lg b R w e w' := by rw [h1]; exact h2
theorem toList_bytes (t : List UInt8) : (⟨t.toArray⟩ : ByteArray).toList = t := ByteArray.toList_mk t
theorem size_bytes (t : List UInt8) : (⟨t.toArray⟩ : ByteArray).size = t.length := by simp [ByteArray.size]
set_option maxHeartbeats 4000000 in
theorem local_any {s : ByteArray} {m : Int} {lg : Bool} {b : Nat} {w : World} (n : Nat) (R : Option (List UInt8 × Nat)) (hd : (localP (s.data.toList.drop n)).map (fun x => (x.1, n + x.2)) = R) (hm : m = n) (hn : n ≤ s.size) (hs : s.size ≤ 140000000000000) (h : RowIs w b #[.string s, .int .i64 m, .bool lg]) :
 Calls Tryz.prog 133 #[.pointer (some ⟨b, 0, none⟩)] w (LPost s lg b R w) := by
 subst hm
 refine h.lift (fun w0 hI => ?_)
 have hyes := Lib.hid (@LPost.yes s lg b w0 R)
 have hno := Lib.hid (@LPost.no s lg b w0 R)
 have hb := hI.lt
 have hlen : s.data.toList.length = s.size := by simp
 have hg : (s.data.toList.drop n).getD 0 0 = s.data.toList.getD n 0 := by simp [List.getD]
 unfold localP at hd
 rw [hg] at hd
 by_cases hx : s.data.toList.getD n 0 = 34
 · rw [if_pos hx, List.drop_drop] at hd
   have hlt : n < s.size := by
    rcases Nat.lt_or_ge n s.size with h' | h'
    · exact h'
    · rw [getD_ge h'] at hx; cases hx
   have ht := @take_yes s n 34 lg b (rd w0 b #[.string s, .int .i64 n, .bool lg]) n rfl hlt (by rw [hx]; rfl) (by omega) (rd_row hI _)
   have hq := fun bs d R hR => @quoted_any s ((n + 1 : Nat) : Int) lg b (app (rd w0 b #[.string s, .int .i64 ((n + 1 : Nat) : Int), .bool lg]) bs d) (n + 1) R hR rfl hlt hs ((rd_row hI _).app _ _)
   clear hg hx
   cases hp : quotedP (s.data.toList.drop (n + 1)) with
   | none =>
    have hR : Hid (R = none) := by unfold Hid; rw [hp] at hd; exact hd.symm
    have hq := fun bs d => hq bs d none (by rw [hp]; rfl)
    clear hd hp
    replace ht := Lib.hid ht
    replace hq := Lib.hid hq
    go_enter Tryz.func133, Tryz.ntmps133
    go_wp2_with first
     | (go_at_call 95; ((refine ht.out.mono ?_); rintro r w1 ⟨rfl, bs1, d1, rfl⟩))
     | (go_at_call 155; ((refine (hq.out _ _).mono ?_); rintro r w1 ⟨n2, lg2, hn2, rfl, bs2, d2, rfl⟩))
    all_goals (go_returns; exact hno.out _ _ hR.out ⟨n2, _, hn2, by (first | exact ⟨rfl, _, _, rfl⟩ | exact ⟨rfl, #[], _, (app_nil _).symm⟩ | (refine ⟨rfl, ?_⟩; simp only [app_app]; exact ⟨_, _, rfl⟩) | (refine ⟨rfl, of_below ?_⟩; ((repeat' (first | (with_reducible exact Below.refl _ _) | (with_reducible refine Below.app ?_ ?_ _ _) | (with_reducible refine Below.alloc ?_ ?_ _) | (with_reducible refine Below.drew ?_) | (with_reducible refine Below.setCell ?_ ?_ _) | (with_reducible assumption) | omega | (simp; omega) | (simp; done))) <;> exact Below.refl _ _)))⟩)
   | some x =>
    obtain ⟨t, k⟩ := x
    have hq := fun bs d => hq bs d (some (t, n + 1 + k)) (by rw [hp]; rfl)
    have hqle := quotedP_le _ _ (Nat.le_refl _) t k hp
    have hkl : n + 1 + k ≤ s.size := by have := hqle.1; simp at this; omega
    have htl : t.length ≤ 140000000000000 := by omega
    rw [hp] at hd
    by_cases h0 : t = []
    · have hR : Hid (R = none) := by unfold Hid; simp [h0] at hd; exact hd.symm
      subst h0
      clear hd hp
      replace ht := Lib.hid ht
      replace hq := Lib.hid hq
      go_enter Tryz.func133, Tryz.ntmps133
      go_wp2_with first
       | (go_at_call 95; ((refine ht.out.mono ?_); rintro r w1 ⟨rfl, bs1, d1, rfl⟩))
       | (go_at_call 155; ((refine (hq.out _ _).mono ?_); rintro r w1 ⟨rfl, bs2, d2, rfl⟩))
      all_goals (go_returns; exact hno.out _ _ hR.out ⟨n + 1 + k, _, hkl, by (first | exact ⟨rfl, _, _, rfl⟩ | exact ⟨rfl, #[], _, (app_nil _).symm⟩ | (refine ⟨rfl, ?_⟩; simp only [app_app]; exact ⟨_, _, rfl⟩) | (refine ⟨rfl, of_below ?_⟩; ((repeat' (first | (with_reducible exact Below.refl _ _) | (with_reducible refine Below.app ?_ ?_ _ _) | (with_reducible refine Below.alloc ?_ ?_ _) | (with_reducible refine Below.drew ?_) | (with_reducible refine Below.setCell ?_ ?_ _) | (with_reducible assumption) | omega | (simp; omega) | (simp; done))) <;> exact Below.refl _ _)))⟩)
    · have hR : Hid (R = some (t, n + 1 + k)) := by unfold Hid; simp [h0] at hd; rw [← hd, Nat.add_assoc]
      have hT : Hid ((⟨t.toArray⟩ : ByteArray).toList = t) := toList_bytes t
      have hne : (⟨t.toArray⟩ : ByteArray).toList.isEmpty = false := by rw [toList_bytes, List.isEmpty_eq_false_iff]; exact h0
      have hne2 : t.isEmpty = false := by rw [List.isEmpty_eq_false_iff]; exact h0
      have hsz := Lib.hid (size_bytes t)
      clear hd hp h0
      replace ht := Lib.hid ht
      replace hq := Lib.hid hq
      cases lg
      all_goals
       go_enter Tryz.func133, Tryz.ntmps133
       go_wp2_with first
        | (go_at_call 95; ((refine ht.out.mono ?_); rintro r w1 ⟨rfl, bs1, d1, rfl⟩))
        | (go_at_call 155; ((refine (hq.out _ _).mono ?_); rintro r w1 ⟨rfl, bs2, d2, rfl⟩))
       go_returns
       exact hyes.out _ _ _ _ hR.out (by (first | exact ⟨rfl, _, _, rfl⟩ | exact ⟨rfl, #[], _, (app_nil _).symm⟩ | (refine ⟨rfl, ?_⟩; simp only [app_app]; exact ⟨_, _, rfl⟩) | (refine ⟨rfl, of_below ?_⟩; ((repeat' (first | (with_reducible exact Below.refl _ _) | (with_reducible refine Below.app ?_ ?_ _ _) | (with_reducible refine Below.alloc ?_ ?_ _) | (with_reducible refine Below.drew ?_) | (with_reducible refine Below.setCell ?_ ?_ _) | (with_reducible assumption) | omega | (simp; omega) | (simp; done))) <;> exact Below.refl _ _))))
 · rw [if_neg hx] at hd
   have ht := @take_no s n 34 lg b (rd w0 b #[.string s, .int .i64 n, .bool lg]) n rfl hn (fun _ e => by rw [u8_int] at hx; exact hx e.symm) (rd_row hI _)
   have hq := fun bs d R hR => @atoms_any s (n : Int) lg b (app (rd w0 b #[.string s, .int .i64 (n : Int), .bool lg]) bs d) n R hR rfl hn (by omega) ((rd_row hI _).app _ _)
   clear hg hx
   cases hp : atomsP (s.data.toList.drop n) with
   | none =>
    have hR : Hid (R = none) := by unfold Hid; rw [hp] at hd; exact hd.symm
    have hq := fun bs d => hq bs d none (by rw [hp]; rfl)
    clear hd hp
    replace ht := Lib.hid ht
    replace hq := Lib.hid hq
    go_enter Tryz.func133, Tryz.ntmps133
    go_wp2_with first
     | (go_at_call 95; ((refine ht.out.mono ?_); rintro r w1 ⟨rfl, bs1, d1, rfl⟩))
     | (go_at_call 138; ((refine (hq.out _ _).mono ?_); rintro r w1 ⟨n2, lg2, hn2, rfl, bs2, d2, rfl⟩))
    all_goals (go_returns; exact hno.out _ _ hR.out ⟨n2, _, hn2, by (first | exact ⟨rfl, _, _, rfl⟩ | exact ⟨rfl, #[], _, (app_nil _).symm⟩ | (refine ⟨rfl, ?_⟩; simp only [app_app]; exact ⟨_, _, rfl⟩) | (refine ⟨rfl, of_below ?_⟩; ((repeat' (first | (with_reducible exact Below.refl _ _) | (with_reducible refine Below.app ?_ ?_ _ _) | (with_reducible refine Below.alloc ?_ ?_ _) | (with_reducible refine Below.drew ?_) | (with_reducible refine Below.setCell ?_ ?_ _) | (with_reducible assumption) | omega | (simp; omega) | (simp; done))) <;> exact Below.refl _ _)))⟩)
   | some k =>
    have hq := fun bs d => hq bs d (some (n + k)) (by rw [hp]; rfl)
    obtain ⟨hk0, hk1⟩ := atomsP_pos hp
    have hkl : n + k ≤ s.size := by simp at hk1; omega
    have hR : Hid (R = some ((s.data.toList.drop n).take k, n + k)) := by unfold Hid; rw [hp] at hd; exact hd.symm
    have hne := ext_full hkl hk0
    have hex := Lib.hid (extract_list s n k)
    have hln : Hid ((((s.data.toList.drop n).take k).length : Int) = k) := by unfold Hid; simp; omega
    clear hd hp
    replace ht := Lib.hid ht
    replace hq := Lib.hid hq
    cases lg
    all_goals
     go_enter Tryz.func133, Tryz.ntmps133
     go_wp2_with first
      | (go_at_call 95; ((refine ht.out.mono ?_); rintro r w1 ⟨rfl, bs1, d1, rfl⟩))
      | (go_at_call 138; ((refine (hq.out _ _).mono ?_); rintro r w1 ⟨rfl, bs2, d2, rfl⟩))
     go_returns
     refine hyes.out _ _ _ _ hR.out ?_
     rw [hln.out, ← hex.out]
     (first | exact ⟨rfl, _, _, rfl⟩ | exact ⟨rfl, #[], _, (app_nil _).symm⟩ | (refine ⟨rfl, ?_⟩; simp only [app_app]; exact ⟨_, _, rfl⟩) | (refine ⟨rfl, of_below ?_⟩; ((repeat' (first | (with_reducible exact Below.refl _ _) | (with_reducible refine Below.app ?_ ?_ _ _) | (with_reducible refine Below.alloc ?_ ?_ _) | (with_reducible refine Below.drew ?_) | (with_reducible refine Below.setCell ?_ ?_ _) | (with_reducible assumption) | omega | (simp; omega) | (simp; done))) <;> exact Below.refl _ _)))
end Go.Proofs.YtfbicbgdfcbhpaaGreatDoor
