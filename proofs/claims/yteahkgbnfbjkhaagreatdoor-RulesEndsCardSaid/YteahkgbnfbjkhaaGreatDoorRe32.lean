/-
  HeadFold.
-/
import Derived.Test.YteahkgbnfbjkhaaGreatDoorRe31
import Derived.Test.YteahkgbnfbjkhaaGreatDoorRe15
import Derived.Shelf.Strings.SlTrimAscii
set_option maxRecDepth 20000
set_option linter.unusedVariables false
set_option linter.unusedSimpArgs false
set_option linter.unusedSectionVars false
namespace Go.Proofs.YteahkgbnfbjkhaaGreatDoor
open Go.ChangeShapes Go.WideShapes Go.ChangeAt Go.RowKit
def mayB (l : List UInt8) (f k : Nat) : Bool := decide (l.getD k 0 = 32) && (decide (f < k) && (l.drop k).any fun c => !blankC c)
theorem trim_contains (c : UInt8) : [(32 : UInt8), 9].contains c = blankC c := by
 unfold blankC
 rw [Bool.eq_iff_iff]
 simp [← UInt8.toNat_inj]
theorem trim_any (l : List UInt8) : (Lib.trimLeftS l [32, 9]).isEmpty = !l.any fun c => !blankC c := by
 unfold Lib.trimLeftS
 induction l with
 | nil => rfl
 | cons c r ih =>
  rw [List.dropWhile_cons, trim_contains]
  rw [List.any_cons]
  cases blankC c
  · rfl
  · exact ih
theorem trim_calls (s : ByteArray) (w : World) : Calls Tryz.prog 152 #[.string s, .string ⟨#[32, 9]⟩] w fun e w' => e = .returned (.string ⟨(Lib.trimLeftS s.data.toList [32, 9]).toArray⟩) ∧ Below w.heap.size w w' :=
 Any.strings_TrimLeft_laid Tryz.lays161 (by kernel_rfl) s ⟨#[32, 9]⟩ w (by decide) (fun j b h => by
  match j, h with
  | 0, h => simp at h; subst h; decide
  | 1, h => simp at h; subst h; decide)
set_option maxHeartbeats 4000000 in
theorem folds_calls (s : ByteArray) (k f : Nat) (hk : k < s.size) (w : World) : Calls Tryz.prog 206 #[.string s, .int .i64 (k : Int), .int .i64 (f : Int)] w fun r w' => r = .returned (.bool (mayB s.data.toList f k)) ∧ Below w.heap.size w w' := by
 have hg : s.data.toList.getD k 0 = s[k] := by simp [List.getD, hk]; rfl
 have hext : (s.extract k s.size).data.toList = s.data.toList.drop k := by
  simp only [ByteArray.data_extract]
  rw [Array.toList_extract]
  simp [List.take_of_length_le]
 have ht := trim_calls (s.extract k s.size)
 rw [hext] at ht
 have hta := trim_any (s.data.toList.drop k)
 have hv : mayB s.data.toList f k = (decide (s[k] = 32) && (decide (f < k) && !(Lib.trimLeftS (s.data.toList.drop k) [32, 9]).isEmpty)) := by
  unfold mayB; rw [hg, hta, Bool.not_not]
 generalize mayB s.data.toList f k = R at *
 generalize Lib.trimLeftS (s.data.toList.drop k) [32, 9] = T at *
 clear hta hext hg
 replace ht := Lib.hid ht
 by_cases h1 : ((s[k].toNat : Int) == 32) = true
 · have h1' : s[k] = 32 := by rw [← UInt8.toNat_inj]; simp at h1 ⊢; omega
   rw [decide_eq_true h1', Bool.true_and] at hv
   clear h1'
   by_cases h2 : (f : Int) < k
   · rw [decide_eq_true (by omega), Bool.true_and] at hv
     replace hv := Lib.hid hv
     go_enter Tryz.func206, Tryz.ntmps206
     go_wp2_with (go_at_call 152; ((refine (ht.out _).mono ?_); rintro r w1 ⟨rfl, hb⟩; obtain ⟨b1, b1d, rfl⟩ := of_below hb; clear hb))
     go_returns
     exact ⟨rb (by rw [hv.out]), by (repeat' (first | (with_reducible exact Below.refl _ _) | (with_reducible refine Below.app ?_ ?_ _ _) | (with_reducible refine Below.alloc ?_ ?_ _) | (with_reducible refine Below.drew ?_) | (with_reducible refine Below.setCell ?_ ?_ _) | (with_reducible assumption) | omega | (simp; omega) | (simp; done)))⟩
   · rw [decide_eq_false (by omega), Bool.false_and] at hv
     replace hv := Lib.hid hv
     go_enter Tryz.func206, Tryz.ntmps206
     go_wp2
     go_returns
     exact ⟨rb hv.out.symm, by (repeat' (first | (with_reducible exact Below.refl _ _) | (with_reducible refine Below.app ?_ ?_ _ _) | (with_reducible refine Below.alloc ?_ ?_ _) | (with_reducible refine Below.drew ?_) | (with_reducible refine Below.setCell ?_ ?_ _) | (with_reducible assumption) | omega | (simp; omega) | (simp; done)))⟩
 · have h1 : ((s[k].toNat : Int) == 32) = false := by simpa using h1
   have h1' : ¬ s[k] = 32 := by intro e; rw [e] at h1; simp at h1
   rw [decide_eq_false h1', Bool.false_and] at hv
   clear h1'
   replace hv := Lib.hid hv
   go_enter Tryz.func206, Tryz.ntmps206
   go_wp2
   go_returns
   exact ⟨rb hv.out.symm, by (repeat' (first | (with_reducible exact Below.refl _ _) | (with_reducible refine Below.app ?_ ?_ _ _) | (with_reducible refine Below.alloc ?_ ?_ _) | (with_reducible refine Below.drew ?_) | (with_reducible refine Below.setCell ?_ ?_ _) | (with_reducible assumption) | omega | (simp; omega) | (simp; done)))⟩
def downQ (p : Nat → Bool) : Nat → Nat
 | 0 => 0
 | 1 => 0
 | k + 2 => if p (k + 2) = true then k + 2 else downQ p (k + 1)
def upQ (p : Nat → Bool) (n k : Nat) : Nat := if k < n then (if p k = true then k else upQ p n (k + 1)) else 0
termination_by n - k
def foldN (l : List UInt8) (f : Nat) : Nat := if l.length ≤ 78 then 0 else if downQ (mayB l f) 78 ≠ 0 then downQ (mayB l f) 78 else upQ (mayB l f) l.length 79
theorem downQ_yes {p : Nat → Bool} {k : Nat} (h : 2 ≤ k) (hp : p k = true) : downQ p k = k := by
 obtain ⟨j, rfl⟩ : ∃ j, k = j + 2 := ⟨k - 2, by omega⟩
 rw [downQ, if_pos hp]
theorem downQ_no {p : Nat → Bool} {k : Nat} (h : 2 ≤ k) (hp : p k = false) : downQ p k = downQ p (k - 1) := by
 obtain ⟨j, rfl⟩ : ∃ j, k = j + 2 := ⟨k - 2, by omega⟩
 rw [downQ, if_neg (by rw [hp]; simp)]; rfl
theorem upQ_yes {p : Nat → Bool} {n k : Nat} (h : k < n) (hp : p k = true) : upQ p n k = k := by rw [upQ, if_pos h, if_pos hp]
theorem upQ_no {p : Nat → Bool} {n k : Nat} (h : k < n) (hp : p k = false) : upQ p n k = upQ p n (k + 1) := by rw [upQ, if_pos h, if_neg (by rw [hp]; simp)]
theorem upQ_end {p : Nat → Bool} {n k : Nat} (h : ¬ k < n) : upQ p n k = 0 := by rw [upQ, if_neg h]
def DownAt (p : Nat → Bool) (U F k : Nat) : Prop := F = if downQ p k ≠ 0 then downQ p k else U
set_option maxHeartbeats 4000000 in
theorem fold_calls (s : ByteArray) (f : Nat) (hs : s.size ≤ 100000000) (w : World) : Calls Tryz.prog 178 #[.string s, .int .i64 (f : Int)] w fun r w' => r = .returned (.int .i64 (foldN s.data.toList f : Int)) ∧ Below w.heap.size w w' := by
 have hsl : s.data.toList.length = s.size := by simp
 have hfc := fun k hk => folds_calls s k f hk
 by_cases h78 : s.size ≤ 78
 · have h78i : (s.size : Int) ≤ 78 := by omega
   have hF : Hid (foldN s.data.toList f = 0) := by unfold Hid foldN; rw [if_pos (by omega)]
   generalize foldN s.data.toList f = F at *
   clear hfc hsl
   go_enter Tryz.func178, Tryz.ntmps178
   go_wp2
   go_returns
   exact ⟨by rw [hF.out]; rfl, by (repeat' (first | (with_reducible exact Below.refl _ _) | (with_reducible refine Below.app ?_ ?_ _ _) | (with_reducible refine Below.alloc ?_ ?_ _) | (with_reducible refine Below.drew ?_) | (with_reducible refine Below.setCell ?_ ?_ _) | (with_reducible assumption) | omega | (simp; omega) | (simp; done)))⟩
 · have h78i : ¬ (s.size : Int) ≤ 78 := by omega
   have hF : DownAt (mayB s.data.toList f) (upQ (mayB s.data.toList f) s.size 79) (foldN s.data.toList f) 78 := by
    unfold DownAt foldN; rw [if_neg (by omega), hsl]
   have hF2 : downQ (mayB s.data.toList f) 1 = 0 := rfl
   generalize foldN s.data.toList f = F at *
   generalize mayB s.data.toList f = p at *
   clear hsl
   replace hF := Lib.hid hF
   replace hfc := Lib.hid hfc
   clear hF2
   go_enter Tryz.func178, Tryz.ntmps178
   go_wp2
   go_loopw [5] (fun i wr => ∃ k : Nat, 1 ≤ k ∧ k ≤ 78 ∧ i = .int .i64 k ∧ Hid (DownAt p (upQ p s.size 79) F k) ∧ Below w.heap.size w wr) (fun i _ => (intOf i).toNat)
   case atStart => exact ⟨78, by omega, by omega, rfl, hF, by (repeat' (first | (with_reducible exact Below.refl _ _) | (with_reducible refine Below.app ?_ ?_ _ _) | (with_reducible refine Below.alloc ?_ ?_ _) | (with_reducible refine Below.drew ?_) | (with_reducible refine Below.setCell ?_ ?_ _) | (with_reducible assumption) | omega | (simp; omega) | (simp; done)))⟩
   case round =>
    obtain ⟨k, hk1, hk2, rfl, hr, hb⟩ := hrel
    obtain ⟨bs, d, rfl⟩ := of_below hb
    clear hF hb
    by_cases h2 : 2 ≤ k
    · have h2i : 2 ≤ (k : Int) := by omega
      have hc := hfc.out k (by omega)
      cases hp : p k
      · have hR : Hid (DownAt p (upQ p s.size 79) F (k - 1)) := by
         have := hr.out; unfold DownAt at this; unfold Hid DownAt; rw [downQ_no h2 hp] at this; exact this
        rw [hp] at hc
        replace hc := Lib.hid hc
        clear hr hp
        go_wp2_with (go_at_call 206; ((refine (hc.out _).mono ?_); rintro r w1 ⟨rfl, hb⟩; obtain ⟨b1, b1d, rfl⟩ := of_below hb; clear hb))
        go_roundw
        case rel => exact ⟨k - 1, by omega, by omega, by first | go_num | (congr 1; omega), hR, by (repeat' (first | (with_reducible exact Below.refl _ _) | (with_reducible refine Below.app ?_ ?_ _ _) | (with_reducible refine Below.alloc ?_ ?_ _) | (with_reducible refine Below.drew ?_) | (with_reducible refine Below.setCell ?_ ?_ _) | (with_reducible assumption) | omega | (simp; omega) | (simp; done)))⟩
        case measure => first | (simp [intOf]; done) | (simp [intOf]; omega)
      · have hR : Hid (F = k) := by
         have := hr.out; unfold DownAt at this; rw [downQ_yes h2 hp, if_pos (by omega)] at this; exact this
        rw [hp] at hc
        replace hc := Lib.hid hc
        clear hr hp
        go_wp2_with (go_at_call 206; ((refine (hc.out _).mono ?_); rintro r w1 ⟨rfl, hb⟩; obtain ⟨b1, b1d, rfl⟩ := of_below hb; clear hb))
        go_returns
        exact ⟨by rw [hR.out]; rfl, by (repeat' (first | (with_reducible exact Below.refl _ _) | (with_reducible refine Below.app ?_ ?_ _ _) | (with_reducible refine Below.alloc ?_ ?_ _) | (with_reducible refine Below.drew ?_) | (with_reducible refine Below.setCell ?_ ?_ _) | (with_reducible assumption) | omega | (simp; omega) | (simp; done)))⟩
    · have h2i : ¬ 2 ≤ (k : Int) := by omega
      have hke : k = 1 := by omega
      subst hke
      have hR : Hid (F = upQ p s.size 79) := by
       have := hr.out; unfold DownAt at this; exact this
      clear hr
      go_wp2
      go_loopw [6] (fun i wr => ∃ k : Nat, 79 ≤ k ∧ k ≤ s.size ∧ i = .int .i64 k ∧ Hid (F = upQ p s.size k) ∧ Below w.heap.size w wr) (fun i _ => s.size - (intOf i).toNat)
      case atStart => exact ⟨79, by omega, by omega, rfl, hR, by (repeat' (first | (with_reducible exact Below.refl _ _) | (with_reducible refine Below.app ?_ ?_ _ _) | (with_reducible refine Below.alloc ?_ ?_ _) | (with_reducible refine Below.drew ?_) | (with_reducible refine Below.setCell ?_ ?_ _) | (with_reducible assumption) | omega | (simp; omega) | (simp; done)))⟩
      case round =>
       obtain ⟨k, hk1, hk2, rfl, hr, hb⟩ := hrel
       obtain ⟨bs2, d2, rfl⟩ := of_below hb
       clear hR hb
       by_cases h3 : k < s.size
       · have h3i : (k : Int) < s.size := by omega
         have hc := hfc.out k h3
         cases hp : p k
         · have hR : Hid (F = upQ p s.size (k + 1)) := by unfold Hid; rw [hr.out, upQ_no h3 hp]
           rw [hp] at hc
           replace hc := Lib.hid hc
           clear hr hp
           go_wp2_with (go_at_call 206; ((refine (hc.out _).mono ?_); rintro r w1 ⟨rfl, hb⟩; obtain ⟨b1, b1d, rfl⟩ := of_below hb; clear hb))
           go_roundw
           case rel => exact ⟨k + 1, by omega, by omega, by go_num, hR, by (repeat' (first | (with_reducible exact Below.refl _ _) | (with_reducible refine Below.app ?_ ?_ _ _) | (with_reducible refine Below.alloc ?_ ?_ _) | (with_reducible refine Below.drew ?_) | (with_reducible refine Below.setCell ?_ ?_ _) | (with_reducible assumption) | omega | (simp; omega) | (simp; done)))⟩
           case measure => first | (simp [intOf]; done) | (simp [intOf]; omega)
         · have hR : Hid (F = k) := by unfold Hid; rw [hr.out, upQ_yes h3 hp]
           rw [hp] at hc
           replace hc := Lib.hid hc
           clear hr hp
           go_wp2_with (go_at_call 206; ((refine (hc.out _).mono ?_); rintro r w1 ⟨rfl, hb⟩; obtain ⟨b1, b1d, rfl⟩ := of_below hb; clear hb))
           go_returns
           exact ⟨by rw [hR.out]; rfl, by (repeat' (first | (with_reducible exact Below.refl _ _) | (with_reducible refine Below.app ?_ ?_ _ _) | (with_reducible refine Below.alloc ?_ ?_ _) | (with_reducible refine Below.drew ?_) | (with_reducible refine Below.setCell ?_ ?_ _) | (with_reducible assumption) | omega | (simp; omega) | (simp; done)))⟩
       · have h3i : ¬ (k : Int) < s.size := by omega
         have hR : Hid (F = 0) := by unfold Hid; rw [hr.out, upQ_end h3]
         clear hr
         go_wp2
         go_returns
         exact ⟨by rw [hR.out]; rfl, by (repeat' (first | (with_reducible exact Below.refl _ _) | (with_reducible refine Below.app ?_ ?_ _ _) | (with_reducible refine Below.alloc ?_ ?_ _) | (with_reducible refine Below.drew ?_) | (with_reducible refine Below.setCell ?_ ?_ _) | (with_reducible assumption) | omega | (simp; omega) | (simp; done)))⟩
end Go.Proofs.YteahkgbnfbjkhaaGreatDoor
