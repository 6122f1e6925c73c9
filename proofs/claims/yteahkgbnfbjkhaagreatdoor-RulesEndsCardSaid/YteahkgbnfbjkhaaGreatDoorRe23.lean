/-
  Reader2, Reader3.
-/
import Derived.Test.YteahkgbnfbjkhaaGreatDoorRe22
import Derived.Lib.SlicesS
set_option maxRecDepth 20000
set_option linter.unusedVariables false
set_option linter.unusedSimpArgs false
set_option linter.unusedSectionVars false
namespace Go.Proofs.YteahkgbnfbjkhaaGreatDoor
open Go.ChangeShapes Go.WideShapes Go.ChangeAt Go.RowKit
theorem enters_kind : ∀ args w, (callFunc 216 args).run Tryz.prog w = .ok (.enter 216 args) w := enters_of Tryz.func216 (by kernel_rfl) rfl
theorem enters_atext : ∀ args w, (callFunc 239 args).run Tryz.prog w = .ok (.enter 239 args) w := enters_of Tryz.func239 (by kernel_rfl) rfl
theorem kind_calls (c : UInt8) (w : World) : Calls Tryz.prog 216 #[.int .u8 (c.toNat : Int)] w fun r w' => r = .returned (.bool (labelB c)) ∧ w = w' := by
 have h45 : labelB c = (alnumB c || ((c.toNat : Int) == 45)) := by
  unfold labelB; congr 1; rw [Bool.eq_iff_iff]; simp; rw [← UInt8.toNat_inj]; simp; omega
 rw [h45]
 clear h45
 go_enter Tryz.func216, Tryz.ntmps216
 go_wp2_with first
  | (go_at_call 217; ((with_reducible refine (letter_calls _ _).mono ?_); rintro _ _ ⟨rfl, rfl⟩))
  | (go_at_call 218; ((with_reducible refine (digit_calls _ _).mono ?_); rintro _ _ ⟨rfl, rfl⟩))
 all_goals (go_returns; refine ⟨rb ?_, rfl⟩; go_light; unfold alnumB; simp_all)
theorem labelOk_take {s : ByteArray} {n k : Nat} (h : n + k ≤ s.size) (h0 : 0 < k) : labelOk ((s.data.toList.drop n).take k) = (decide (¬ s.data.toList.getD n 0 = 45) && decide (¬ s.data.toList.getD (n + k - 1) 0 = 45)) := by
 have hl : s.data.toList.length = s.size := by simp
 have hn : n < s.data.toList.length := by omega
 have hnk : n + k - 1 < s.data.toList.length := by omega
 unfold labelOk
 have e1 : ((s.data.toList.drop n).take k).isEmpty = false := by
  rw [List.isEmpty_eq_false_iff]; intro h; have := congrArg List.length h; simp at this; omega
 have e2 : ((s.data.toList.drop n).take k).head? = some (s.data.toList.getD n 0) := by
  rw [List.head?_take, if_neg (by omega), List.head?_drop, List.getD_eq_getElem?_getD, List.getElem?_eq_getElem hn]; rfl
 have e3 : ((s.data.toList.drop n).take k).getLast? = some (s.data.toList.getD (n + k - 1) 0) := by
  rw [List.getLast?_eq_getElem?]
  have : ((s.data.toList.drop n).take k).length = k := by simp; omega
  rw [this, List.getElem?_take, if_pos (by omega), List.getElem?_drop, show n + (k - 1) = n + k - 1 by omega, List.getD_eq_getElem?_getD, List.getElem?_eq_getElem hnk]
  rfl
 rw [e1, e2, e3]
 simp [bne, Bool.beq_eq_decide_eq]
theorem labelOk_none : labelOk [] = false := rfl
theorem ext_get {s : ByteArray} {n k i : Nat} (h : n + k ≤ s.size) (hi : i < k) (h' : i < (s.extract n (n + k)).size) : (s.extract n (n + k))[i] = s.data.toList.getD (n + i) 0 := by
 rw [getD_lt (show n + i < s.size by omega)]
 exact ByteArray.getElem_extract h'
theorem ext_some {s : ByteArray} {n k : Nat} (h : n + k ≤ s.size) (h0 : 0 < k) : ¬ (s.extract n (n + k)).toList = [] := by
 intro h'
 have h2 : (s.extract n (n + k)).data.toList = [] := by rw [← h']; exact (ByteArray.toList_mk _).symm
 have h3 := congrArg List.length h2
 simp at h3
 omega
theorem u8_int (x c : UInt8) : (x = c) = ((x.toNat : Int) = (c.toNat : Int)) := by rw [eq_iff_iff, ← UInt8.toNat_inj]; omega
set_option maxHeartbeats 2000000 in
theorem label_calls {s : ByteArray} {m : Int} {lg : Bool} {b : Nat} {w : World} (n : Nat) (hm : m = n) (hn : n ≤ s.size) (hs : s.size ≤ 9223372036854775807) (h : RowIs w b #[.string s, .int .i64 m, .bool lg]) :
 Calls Tryz.prog 182 #[.pointer (some ⟨b, 0, none⟩)] w
  (After b #[.string s, .int .i64 ((n + spanLen labelB (s.data.toList.drop n) : Nat) : Int), .bool lg] (.returned (.bool (labelOk ((s.data.toList.drop n).take (spanLen labelB (s.data.toList.drop n)))))) w) := by
 subst hm
 refine h.lift (fun w0 hI => ?_)
 have hb := hI.lt
 have hrun := @run_calls labelB _ enters_kind kind_calls s n lg b
 have hkl : n + spanLen labelB (s.data.toList.drop n) ≤ s.size := by have := spanLen_le labelB (s.data.toList.drop n); simp at this; omega
 have hrow := rd_row hI #[.string s, .int .i64 (n : Int), .bool lg]
 replace hrun := hrun n rfl hn hs hrow
 generalize hk : spanLen labelB (s.data.toList.drop n) = k at *
 clear hk
 by_cases h0 : k = 0
 · subst h0
   rw [List.take_zero, labelOk_none]
   have ht : (s.extract n (n + 0)).toList = [] := by simp
   replace hrun := Lib.hid hrun
   go_enter Tryz.func182, Tryz.ntmps182
   go_wp2_with (go_at_call 215; ((refine hrun.out.mono ?_); rintro r w1 ⟨rfl, bs, d, rfl⟩))
   go_returns
   (first | exact ⟨rfl, _, _, rfl⟩ | exact ⟨rfl, #[], _, (app_nil _).symm⟩ | (refine ⟨rfl, ?_⟩; simp only [app_app]; exact ⟨_, _, rfl⟩) | (refine ⟨rfl, of_below ?_⟩; ((repeat' (first | (with_reducible exact Below.refl _ _) | (with_reducible refine Below.app ?_ ?_ _ _) | (with_reducible refine Below.alloc ?_ ?_ _) | (with_reducible refine Below.drew ?_) | (with_reducible refine Below.setCell ?_ ?_ _) | (with_reducible assumption) | omega | (simp; omega) | (simp; done))) <;> exact Below.refl _ _)))
 · rw [labelOk_take hkl (by omega)]
   have hg0 := @ext_get s n k 0 hkl (by omega)
   have hg1 := @ext_get s n k (k - 1) hkl (by omega)
   rw [show n + (k - 1) = n + k - 1 by omega] at hg1
   rw [show n + 0 = n by omega] at hg0
   have ht := ext_some hkl (by omega)
   replace hrun := Lib.hid hrun
   replace hg0 := Lib.hid hg0
   replace hg1 := Lib.hid hg1
   go_enter Tryz.func182, Tryz.ntmps182
   go_wp2_with (go_at_call 215; ((refine hrun.out.mono ?_); rintro r w1 ⟨rfl, bs, d, rfl⟩))
   all_goals
    go_returns
    refine ⟨rb ?_, _, _, rfl⟩
    rw [← hg0.out (by simp; omega), ← hg1.out (by simp; omega)]
    go_light
    simp only [u8_int]
    rw [Bool.eq_iff_iff]
    simp_all
end Go.Proofs.YteahkgbnfbjkhaaGreatDoor
set_option maxRecDepth 20000
set_option linter.unusedVariables false
set_option linter.unusedSimpArgs false
set_option linter.unusedSectionVars false
namespace Go.Proofs.YteahkgbnfbjkhaaGreatDoor
open Go.ChangeShapes Go.WideShapes Go.ChangeAt Go.RowKit
def AfterF (s : ByteArray) (b : Nat) (r : Ending) (w : World) (e : Ending) (w' : World) : Prop := ∃ (n : Nat) (lg : Bool), n ≤ s.size ∧ After b #[.string s, .int .i64 n, .bool lg] r w e w'
theorem domT_drop (l : List UInt8) (j : Nat) : domT (l.drop j) = if l.getD j 0 = 46 then (if labelOk ((l.drop (j + 1)).take (spanLen labelB (l.drop (j + 1)))) = true then (domT (l.drop (j + 1 + spanLen labelB (l.drop (j + 1))))).map (spanLen labelB (l.drop (j + 1)) + 1 + ·) else none) else some 0 := by
 rcases Nat.lt_or_ge j l.length with h | h
 · rw [List.drop_eq_getElem_cons h, domT, List.drop_drop]
   simp only [List.getD_eq_getElem?_getD, List.getElem?_eq_getElem h, Option.getD_some]
 · have h0 : l.getD j 0 = 0 := by simp [List.getD, List.getElem?_eq_none h]
   rw [List.drop_of_length_le h, domT, h0, if_neg (by decide)]
theorem getD_46 {s : ByteArray} {j : Nat} (h : s.data.toList.getD j 0 = 46) : j < s.size := by
 rcases Nat.lt_or_ge j s.size with h' | h'
 · exact h'
 · rw [getD_ge h'] at h; cases h
def RelDom (s : ByteArray) (lg : Bool) (b : Nat) (w0 : World) (n : Nat) (R : Option Nat) (wr : World) : Prop :=
 ∃ (j : Nat) (bs : Array Obj) (d : Nat), n ≤ j ∧ j ≤ s.size ∧ wr = app (rd w0 b #[.string s, .int .i64 j, .bool lg]) bs d ∧ Hid ((domT (s.data.toList.drop j)).map (j + ·) = R)
set_option maxHeartbeats 4000000 in
theorem domain_yes {s : ByteArray} {m : Int} {lg : Bool} {b : Nat} {w : World} (n k : Nat) (hd : domP (s.data.toList.drop n) = some k) (hm : m = n) (hn : n ≤ s.size) (hs : s.size ≤ 9223372036854775807) (h : RowIs w b #[.string s, .int .i64 m, .bool lg]) :
 Calls Tryz.prog 133 #[.pointer (some ⟨b, 0, none⟩)] w
  (After b #[.string s, .int .i64 ((n + k : Nat) : Int), .bool (lg || decide (64 < (k : Int)))] (.returned (.tuple #[.string (s.extract n (n + k)), .bool true])) w) := by
 subst hm
 refine h.lift (fun w0 hI => ?_)
 have hb := hI.lt
 have hkl : n + spanLen labelB (s.data.toList.drop n) ≤ s.size := by have := spanLen_le labelB (s.data.toList.drop n); simp at this; omega
 unfold domP at hd
 split at hd
 case isFalse => cases hd
 rename_i hok
 have hl := @label_calls s n lg b (rd w0 b #[.string s, .int .i64 n, .bool lg]) n rfl hn hs (rd_row hI _)
 rw [hok] at hl
 rw [List.drop_drop] at hd
 have hst : Hid ((domT (s.data.toList.drop (n + spanLen labelB (s.data.toList.drop n)))).map (n + spanLen labelB (s.data.toList.drop n) + ·) = some (n + k)) := by
  unfold Hid
  cases hx : domT (s.data.toList.drop (n + spanLen labelB (s.data.toList.drop n))) with
  | none => rw [hx] at hd; cases hd
  | some y => rw [hx] at hd; simp at hd ⊢; omega
 clear hd hok
 generalize spanLen labelB (s.data.toList.drop n) = k0 at *
 obtain ⟨K, hK⟩ : ∃ K, K = n + k := ⟨_, rfl⟩
 have hkK : (k : Int) = (K : Int) - n := by omega
 rw [← hK] at hst ⊢
 rw [hkK]
 have hnK : n ≤ K := by omega
 clear hK hkK
 replace hl := Lib.hid hl
 go_enter Tryz.func133, Tryz.ntmps133
 go_wp2_with (go_at_call 182; ((with_reducible refine hl.out.mono ?_); rintro r w1 ⟨rfl, bs, d, rfl⟩))
 go_loopw [14] (fun _ wr => RelDom s lg b w0 n (some K) wr) (fun _ wr => s.size - posOf wr b)
 case atStart => exact ⟨n + k0, bs, d, by omega, hkl, rfl, hst⟩
 case round =>
  obtain ⟨j, bs2, d2, j1, j2, rfl, hr⟩ := hrel
  clear hl hst
  have hnx := @anext_calls s j lg b (app (rd w0 b #[.string s, .int .i64 j, .bool lg]) bs2 d2) j rfl j2 ((rd_row hI _).app _ _)
  have hdt := domT_drop s.data.toList j
  by_cases hx : s.data.toList.getD j 0 = 46
  · have hlt := getD_46 hx
    rw [if_pos hx] at hdt
    rw [hx] at hnx
    have hkl2 : j + 1 + spanLen labelB (s.data.toList.drop (j + 1)) ≤ s.size := by have := spanLen_le labelB (s.data.toList.drop (j + 1)); simp at this; omega
    split at hdt
    case isFalse => have := hr.out; rw [hdt] at this; cases this
    rename_i hok
    have hlb := fun bs d => @label_calls s (j + 1 : Nat) lg b (app (rd w0 b #[.string s, .int .i64 (j + 1 : Nat), .bool lg]) bs d) (j + 1) rfl hlt hs ((rd_row hI _).app _ _)
    rw [hok] at hlb
    have hr' : Hid ((domT (s.data.toList.drop (j + 1 + spanLen labelB (s.data.toList.drop (j + 1))))).map (j + 1 + spanLen labelB (s.data.toList.drop (j + 1)) + ·) = some K) := by
     have h0 := hr.out
     rw [hdt] at h0
     unfold Hid
     cases hy : domT (s.data.toList.drop (j + 1 + spanLen labelB (s.data.toList.drop (j + 1)))) with
     | none => rw [hy] at h0; cases h0
     | some y => rw [hy] at h0; simp at h0 ⊢; omega
    clear hdt hok hx
    generalize spanLen labelB (s.data.toList.drop (j + 1)) = k1 at *
    replace hnx := Lib.hid hnx
    replace hlb := Lib.hid hlb
    go_wp2_with first
     | (go_at_call 183; ((with_reducible refine hnx.out.mono ?_); rintro r w1 ⟨rfl, bs3, d3, rfl⟩))
     | (go_at_call 182; ((refine (hlb.out _ _).mono ?_); rintro r w1 ⟨rfl, bs4, d4, rfl⟩))
    go_roundw
    case rel => first | exact ⟨j + 1 + k1, _, _, by omega, hkl2, rfl, hr'⟩ | ((repeat apply Exists.intro); refine ⟨?rl, ?fr⟩; case fr => ((repeat' apply And.intro) <;> exact rfl); case rl => exact ⟨j + 1 + k1, _, _, by omega, hkl2, rfl, hr'⟩)
    case measure => rw [posOf_rd hI, posOf_rd hI]; simp [intOf]; omega
  · rw [if_neg hx] at hdt
    have hjk : j = K := by have := hr.out; rw [hdt] at this; simpa using this
    subst hjk
    have hx' : (((s.data.toList.getD j 0).toNat : Int) == 46) = false := by
     rw [u8_int] at hx; simpa using hx
    clear hx hdt hr
    generalize s.data.toList.getD j 0 = x at *
    replace hnx := Lib.hid hnx
    cases lg
    all_goals
     go_wp2_with (go_at_call 183; ((with_reducible refine hnx.out.mono ?_); rintro r w1 ⟨rfl, bs3, d3, rfl⟩))
     (apply wp_region_text 10; kernel_rfl; kernel_rfl; intro Fin hFin; (repeat (first | (apply text_run; exact rfl; (focus (intro bs d hF K hK; (repeat rw [app_app] at hK); (repeat rw [app_app]); (repeat rw [Array.append_assoc] at hK); (repeat rw [Array.append_assoc]); go_step; first  | fail  | (refine hK _ ?_; (repeat' (first | (with_reducible exact Below.refl _ _) | (with_reducible refine Below.app ?_ ?_ _ _) | (with_reducible refine Below.alloc ?_ ?_ _) | (with_reducible refine Below.drew ?_) | (with_reducible refine Below.setCell ?_ ?_ _) | (with_reducible assumption) | omega | (simp; omega) | (simp; done)))))); (try simp only [Act.put, List.setIfInBounds_toArray, List.set_cons_zero, List.set_cons_succ])) | (apply text_skip; exact rfl; (try simp only [Act.put, List.setIfInBounds_toArray, List.set_cons_zero, List.set_cons_succ])))); apply text_end; apply hFin; clear hFin Fin; intro bs d hfa)
     go_wp2
     go_returns
     (first | exact ⟨rfl, _, _, rfl⟩ | exact ⟨rfl, #[], _, (app_nil _).symm⟩ | (refine ⟨rfl, ?_⟩; simp only [app_app]; exact ⟨_, _, rfl⟩) | (refine ⟨rfl, of_below ?_⟩; ((repeat' (first | (with_reducible exact Below.refl _ _) | (with_reducible refine Below.app ?_ ?_ _ _) | (with_reducible refine Below.alloc ?_ ?_ _) | (with_reducible refine Below.drew ?_) | (with_reducible refine Below.setCell ?_ ?_ _) | (with_reducible assumption) | omega | (simp; omega) | (simp; done))) <;> exact Below.refl _ _)))
set_option maxHeartbeats 4000000 in
theorem domain_no {s : ByteArray} {m : Int} {lg : Bool} {b : Nat} {w : World} (n : Nat) (hd : domP (s.data.toList.drop n) = none) (hm : m = n) (hn : n ≤ s.size) (hs : s.size ≤ 9223372036854775807) (h : RowIs w b #[.string s, .int .i64 m, .bool lg]) :
 Calls Tryz.prog 133 #[.pointer (some ⟨b, 0, none⟩)] w (AfterF s b (.returned (.tuple #[.string ⟨#[]⟩, .bool false])) w) := by
 subst hm
 refine h.lift (fun w0 hI => ?_)
 have hb := hI.lt
 have hkl : n + spanLen labelB (s.data.toList.drop n) ≤ s.size := by have := spanLen_le labelB (s.data.toList.drop n); simp at this; omega
 have hl := @label_calls s n lg b (rd w0 b #[.string s, .int .i64 n, .bool lg]) n rfl hn hs (rd_row hI _)
 unfold domP at hd
 split at hd
 case isFalse hok =>
  rw [Bool.not_eq_true] at hok
  rw [hok] at hl
  clear hok hd
  generalize spanLen labelB (s.data.toList.drop n) = k0 at *
  replace hl := Lib.hid hl
  go_enter Tryz.func133, Tryz.ntmps133
  go_wp2_with (go_at_call 182; ((with_reducible refine hl.out.mono ?_); rintro r w1 ⟨rfl, bs, d, rfl⟩))
  go_returns
  exact ⟨n + k0, lg, hkl, (by (first | exact ⟨rfl, _, _, rfl⟩ | exact ⟨rfl, #[], _, (app_nil _).symm⟩ | (refine ⟨rfl, ?_⟩; simp only [app_app]; exact ⟨_, _, rfl⟩) | (refine ⟨rfl, of_below ?_⟩; ((repeat' (first | (with_reducible exact Below.refl _ _) | (with_reducible refine Below.app ?_ ?_ _ _) | (with_reducible refine Below.alloc ?_ ?_ _) | (with_reducible refine Below.drew ?_) | (with_reducible refine Below.setCell ?_ ?_ _) | (with_reducible assumption) | omega | (simp; omega) | (simp; done))) <;> exact Below.refl _ _))))⟩
 rename_i hok
 rw [hok] at hl
 rw [List.drop_drop] at hd
 have hst : Hid ((domT (s.data.toList.drop (n + spanLen labelB (s.data.toList.drop n)))).map (n + spanLen labelB (s.data.toList.drop n) + ·) = none) := by
  unfold Hid
  cases hx : domT (s.data.toList.drop (n + spanLen labelB (s.data.toList.drop n))) with
  | none => rfl
  | some y => rw [hx] at hd; cases hd
 clear hd hok
 generalize spanLen labelB (s.data.toList.drop n) = k0 at *
 replace hl := Lib.hid hl
 go_enter Tryz.func133, Tryz.ntmps133
 go_wp2_with (go_at_call 182; ((with_reducible refine hl.out.mono ?_); rintro r w1 ⟨rfl, bs, d, rfl⟩))
 go_loopw [14] (fun _ wr => RelDom s lg b w0 n none wr) (fun _ wr => s.size - posOf wr b)
 case atStart => exact ⟨n + k0, bs, d, by omega, hkl, rfl, hst⟩
 case round =>
  obtain ⟨j, bs2, d2, j1, j2, rfl, hr⟩ := hrel
  clear hl hst
  have hnx := @anext_calls s j lg b (app (rd w0 b #[.string s, .int .i64 j, .bool lg]) bs2 d2) j rfl j2 ((rd_row hI _).app _ _)
  have hdt := domT_drop s.data.toList j
  by_cases hx : s.data.toList.getD j 0 = 46
  · have hlt := getD_46 hx
    rw [if_pos hx] at hdt
    rw [hx] at hnx
    have hkl2 : j + 1 + spanLen labelB (s.data.toList.drop (j + 1)) ≤ s.size := by have := spanLen_le labelB (s.data.toList.drop (j + 1)); simp at this; omega
    have hlb := fun bs d => @label_calls s (j + 1 : Nat) lg b (app (rd w0 b #[.string s, .int .i64 (j + 1 : Nat), .bool lg]) bs d) (j + 1) rfl hlt hs ((rd_row hI _).app _ _)
    split at hdt
    case isFalse hok =>
     rw [Bool.not_eq_true] at hok
     rw [hok] at hlb
     clear hdt hok hx hr
     generalize spanLen labelB (s.data.toList.drop (j + 1)) = k1 at *
     replace hnx := Lib.hid hnx
     replace hlb := Lib.hid hlb
     go_wp2_with first
      | (go_at_call 183; ((with_reducible refine hnx.out.mono ?_); rintro r w1 ⟨rfl, bs3, d3, rfl⟩))
      | (go_at_call 182; ((refine (hlb.out _ _).mono ?_); rintro r w1 ⟨rfl, bs4, d4, rfl⟩))
     go_returns
     exact ⟨j + 1 + k1, lg, hkl2, (by (first | exact ⟨rfl, _, _, rfl⟩ | exact ⟨rfl, #[], _, (app_nil _).symm⟩ | (refine ⟨rfl, ?_⟩; simp only [app_app]; exact ⟨_, _, rfl⟩) | (refine ⟨rfl, of_below ?_⟩; ((repeat' (first | (with_reducible exact Below.refl _ _) | (with_reducible refine Below.app ?_ ?_ _ _) | (with_reducible refine Below.alloc ?_ ?_ _) | (with_reducible refine Below.drew ?_) | (with_reducible refine Below.setCell ?_ ?_ _) | (with_reducible assumption) | omega | (simp; omega) | (simp; done))) <;> exact Below.refl _ _))))⟩
    rename_i hok
    rw [hok] at hlb
    have hr' : Hid ((domT (s.data.toList.drop (j + 1 + spanLen labelB (s.data.toList.drop (j + 1))))).map (j + 1 + spanLen labelB (s.data.toList.drop (j + 1)) + ·) = none) := by
     have h0 := hr.out
     rw [hdt] at h0
     unfold Hid
     cases hy : domT (s.data.toList.drop (j + 1 + spanLen labelB (s.data.toList.drop (j + 1)))) with
     | none => rfl
     | some y => rw [hy] at h0; cases h0
    clear hdt hok hx
    generalize spanLen labelB (s.data.toList.drop (j + 1)) = k1 at *
    replace hnx := Lib.hid hnx
    replace hlb := Lib.hid hlb
    go_wp2_with first
     | (go_at_call 183; ((with_reducible refine hnx.out.mono ?_); rintro r w1 ⟨rfl, bs3, d3, rfl⟩))
     | (go_at_call 182; ((refine (hlb.out _ _).mono ?_); rintro r w1 ⟨rfl, bs4, d4, rfl⟩))
    go_roundw
    case rel => first | exact ⟨j + 1 + k1, _, _, by omega, hkl2, rfl, hr'⟩ | ((repeat apply Exists.intro); refine ⟨?rl, ?fr⟩; case fr => ((repeat' apply And.intro) <;> exact rfl); case rl => exact ⟨j + 1 + k1, _, _, by omega, hkl2, rfl, hr'⟩)
    case measure => rw [posOf_rd hI, posOf_rd hI]; simp [intOf]; omega
  · rw [if_neg hx] at hdt
    have := hr.out
    rw [hdt] at this
    cases this
end Go.Proofs.YteahkgbnfbjkhaaGreatDoor
