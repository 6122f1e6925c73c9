/-
  RefMailbox, RefParse, RefRead0.
-/
import Derived.Test.YtfbicbgdfcbhpaaGreatDoorCt25
import Derived.Test.YtfbicbgdfcbhpaaGreatDoorCt17
import Derived.Test.YtfbicbgdfcbhpaaGreatDoorCt03
import Derived.Test.YtfbicbgdfcbhpaaGreatDoorCt19
import Derived.Deep.DeepCutAuto
import Derived.Deep.CutBlock
set_option maxRecDepth 20000
set_option linter.unusedVariables false
set_option linter.unusedSimpArgs false
set_option linter.unusedSectionVars false
namespace Go.Proofs.YtfbicbgdfcbhpaaGreatDoor
open Go.ChangeShapes Go.WideShapes Go.ChangeAt Go.RowKit
theorem domP_pos {l : List UInt8} {d : Nat} (h : domP l = some d) : 0 < d := by
 unfold domP at h
 split at h
 · rename_i hx
   have hs : 0 < spanLen labelB l := by
    rcases Nat.eq_zero_or_pos (spanLen labelB l) with h0 | h0
    · rw [h0] at hx; simp [labelOk] at hx
    · exact h0
   cases hy : domT (l.drop (spanLen labelB l)) with
   | none => rw [hy] at h; cases h
   | some y => rw [hy] at h; cases h; simp; omega
 · cases h
theorem rdomN_eq (l : List UInt8) : rdomN l = (domP l).getD 0 := by
 rw [dom_law _ _ (Nat.le_refl _)]
 unfold rdomN
 split <;> rfl
theorem localP_pos {l t : List UInt8} {k : Nat} (h : localP l = some (t, k)) : 0 < k ∧ t.length ≤ k ∧ k ≤ l.length := by
 have h2 := localP_le h
 refine ⟨?_, h2.2, h2.1⟩
 unfold localP at h
 split at h
 · split at h
   · split at h
     · cases h
     · cases h; omega
   · cases h
 · cases hx : atomsP l with
   | none => rw [hx] at h; cases h
   | some y =>
    rw [hx] at h
    have := (atomsP_pos hx).1
    cases h
    exact this
def gotP (s : ByteArray) : ByteArray × ByteArray × Int × Int :=
 match mailboxP s.data.toList with
 | none => (⟨#[]⟩, ⟨#[]⟩, 0, 3)
 | some (t, d, k) => (⟨t.toArray⟩, s.extract (k - d) k, k, if 64 < t.length ∨ 64 < d then 4 else 0)
def GotIs (v : ByteArray × ByteArray × Int × Int) (w : World) (r : Ending) (w' : World) : Prop :=
 r = .returned (.agg #[.string v.1, .string v.2.1, .int .i64 v.2.2.1, .int .i64 v.2.2.2]) ∧ Below w.heap.size w w'
theorem GotIs.of {v v' : ByteArray × ByteArray × Int × Int} {w : World} {r : Ending} {w' : World} (h : v' = v) (h1 : r = .returned (.agg #[.string v.1, .string v.2.1, .int .i64 v.2.2.1, .int .i64 v.2.2.2])) (h2 : Below w.heap.size w w') : GotIs v' w r w' := by subst h; exact ⟨h1, h2⟩
set_option maxHeartbeats 4000000 in
theorem rmailbox_calls (s : ByteArray) (hs : s.size ≤ 1000000000000) (w : World) : Calls Tryz.prog 105 #[.string s] w (GotIs (gotP s) w) := by
 have hlen : s.data.toList.length = s.size := by simp
 have hlo := rlocal_calls s hs
 generalize hG : gotP s = G
 unfold gotP mailboxP at hG
 cases hl : localP s.data.toList with
 | none =>
  rw [hl] at hlo hG
  simp only [Option.getD_none] at hlo
  have hlo := Lib.hid hlo
  replace hG := Lib.hid hG
  clear hl
  go_enter Tryz.func105, Tryz.ntmps105
  go_wp2_with (go_at_call 136; ((refine (hlo.out _).mono ?_); rintro _ w1 ⟨rfl, hbw⟩; obtain ⟨bs1, d1, rfl⟩ := of_below hbw; clear hbw))
  go_returns
  exact .of hG.out.symm rfl (by (repeat' (first | (with_reducible exact Below.refl _ _) | (with_reducible refine Below.app ?_ ?_ _ _) | (with_reducible refine Below.alloc ?_ ?_ _) | (with_reducible refine Below.drew ?_) | (with_reducible refine Below.setCell ?_ ?_ _) | (with_reducible assumption) | omega | (simp; omega) | (simp; done))))
 | some x =>
  obtain ⟨t, k⟩ := x
  rw [hl] at hlo hG
  obtain ⟨hk0, htk, hkl⟩ := localP_pos hl
  rw [hlen] at hkl
  simp only [Option.getD_some] at hlo
  simp only [] at hG
  have hlo := Lib.hid hlo
  clear hl
  have hkz : ((k : Int) == 0) = false := by simp; omega
  by_cases hks : k = s.size
  · subst hks
    rw [getD_ge (by omega)] at hG
    rw [if_neg (by decide)] at hG
    replace hG := Lib.hid hG
    go_enter Tryz.func105, Tryz.ntmps105
    go_wp2_with (go_at_call 136; ((refine (hlo.out _).mono ?_); rintro _ w1 ⟨rfl, hbw⟩; obtain ⟨bs1, d1, rfl⟩ := of_below hbw; clear hbw))
    go_returns
    exact .of hG.out.symm rfl (by (repeat' (first | (with_reducible exact Below.refl _ _) | (with_reducible refine Below.app ?_ ?_ _ _) | (with_reducible refine Below.alloc ?_ ?_ _) | (with_reducible refine Below.drew ?_) | (with_reducible refine Below.setCell ?_ ?_ _) | (with_reducible assumption) | omega | (simp; omega) | (simp; done))))
  · have hlt : k < s.size := by omega
    have hks2 : ((k : Int) == (s.size : Int)) = false := by simp; omega
    rw [getD_lt hlt] at hG
    clear hks
    cases h64 : ((s[k].toNat : Int) == 64)
    · have hne : ¬ s[k] = 64 := by intro e; rw [e] at h64; simp at h64
      have h64' : ((s[k].toNat : Int) != 64) = true := by simp [bne, h64]
      rw [if_neg hne] at hG
      replace hG := Lib.hid hG
      clear hne
      go_enter Tryz.func105, Tryz.ntmps105
      go_wp2_with (go_at_call 136; ((refine (hlo.out _).mono ?_); rintro _ w1 ⟨rfl, hbw⟩; obtain ⟨bs1, d1, rfl⟩ := of_below hbw; clear hbw))
      go_returns
      exact .of hG.out.symm rfl (by (repeat' (first | (with_reducible exact Below.refl _ _) | (with_reducible refine Below.app ?_ ?_ _ _) | (with_reducible refine Below.alloc ?_ ?_ _) | (with_reducible refine Below.drew ?_) | (with_reducible refine Below.setCell ?_ ?_ _) | (with_reducible assumption) | omega | (simp; omega) | (simp; done))))
    · have hne : s[k] = 64 := by rw [← UInt8.toNat_inj]; simp at h64 ⊢; omega
      have h64' : ((s[k].toNat : Int) != 64) = false := by simp [bne, h64]
      rw [if_pos hne] at hG
      clear hne
      have hex : (s.extract (k + 1) s.size).data.toList = s.data.toList.drop (k + 1) := by
       have := extract_list s (k + 1) (s.size - (k + 1))
       rw [show k + 1 + (s.size - (k + 1)) = s.size by omega] at this
       rw [this]
       show (s.data.toList.drop (k + 1)).take _ = _
       rw [List.take_of_length_le (by simp)]
      have hdo := rdom_calls (s.extract (k + 1) s.size) (by rw [ByteArray.size_extract]; omega)
      rw [hex, rdomN_eq] at hdo
      clear hex
      cases hd : domP (s.data.toList.drop (k + 1)) with
      | none =>
       rw [hd] at hdo hG
       simp only [Option.getD_none] at hdo
       replace hG := Lib.hid hG
       replace hdo := Lib.hid hdo
       clear hd
       go_enter Tryz.func105, Tryz.ntmps105
       go_wp2_with first
        | (go_at_call 136; ((refine (hlo.out _).mono ?_); rintro _ w1 ⟨rfl, hbw⟩; obtain ⟨bs1, d1, rfl⟩ := of_below hbw; clear hbw))
        | (go_at_call 104; ((refine (hdo.out _).mono ?_); rintro _ w1 ⟨rfl, hbw⟩; obtain ⟨bs2, d2, rfl⟩ := of_below hbw; clear hbw))
       go_returns
       exact .of hG.out.symm rfl (by (repeat' (first | (with_reducible exact Below.refl _ _) | (with_reducible refine Below.app ?_ ?_ _ _) | (with_reducible refine Below.alloc ?_ ?_ _) | (with_reducible refine Below.drew ?_) | (with_reducible refine Below.setCell ?_ ?_ _) | (with_reducible assumption) | omega | (simp; omega) | (simp; done))))
      | some d =>
       have hd0 := domP_pos hd
       have hdl := domP_le hd
       rw [hd] at hdo hG
       simp only [Option.getD_some] at hdo
       simp only [Option.map_some, List.length_drop, hlen] at hG hdl
       rw [show k + 1 + d - d = k + 1 by omega] at hG
       replace hdo := Lib.hid hdo
       clear hd
       have hdz : ((d : Int) == 0) = false := by simp; omega
       by_cases h1 : 64 < t.length
       · simp only [h1, true_or, if_true] at hG
         have h1' : decide (64 < (t.length : Int)) = true := by simp; omega
         replace hG := Lib.hid hG
         clear h1
         go_enter Tryz.func105, Tryz.ntmps105
         go_wp2_with first
          | (go_at_call 136; ((refine (hlo.out _).mono ?_); rintro _ w1 ⟨rfl, hbw⟩; obtain ⟨bs1, d1, rfl⟩ := of_below hbw; clear hbw))
          | (go_at_call 104; ((refine (hdo.out _).mono ?_); rintro _ w1 ⟨rfl, hbw⟩; obtain ⟨bs2, d2, rfl⟩ := of_below hbw; clear hbw))
         go_returns
         exact .of hG.out.symm rfl (by (repeat' (first | (with_reducible exact Below.refl _ _) | (with_reducible refine Below.app ?_ ?_ _ _) | (with_reducible refine Below.alloc ?_ ?_ _) | (with_reducible refine Below.drew ?_) | (with_reducible refine Below.setCell ?_ ?_ _) | (with_reducible assumption) | omega | (simp; omega) | (simp; done))))
       · have h1' : decide (64 < (t.length : Int)) = false := by simp; omega
         by_cases h2 : 64 < d
         · simp only [h2, or_true, if_true] at hG
           have h2' : decide (64 < (d : Int)) = true := by simp; omega
           replace hG := Lib.hid hG
           clear h1 h2
           go_enter Tryz.func105, Tryz.ntmps105
           go_wp2_with first
            | (go_at_call 136; ((refine (hlo.out _).mono ?_); rintro _ w1 ⟨rfl, hbw⟩; obtain ⟨bs1, d1, rfl⟩ := of_below hbw; clear hbw))
            | (go_at_call 104; ((refine (hdo.out _).mono ?_); rintro _ w1 ⟨rfl, hbw⟩; obtain ⟨bs2, d2, rfl⟩ := of_below hbw; clear hbw))
           go_returns
           exact .of hG.out.symm rfl (by (repeat' (first | (with_reducible exact Below.refl _ _) | (with_reducible refine Below.app ?_ ?_ _ _) | (with_reducible refine Below.alloc ?_ ?_ _) | (with_reducible refine Below.drew ?_) | (with_reducible refine Below.setCell ?_ ?_ _) | (with_reducible assumption) | omega | (simp; omega) | (simp; done))))
         · simp only [h1, h2, or_false, if_false] at hG
           have h2' : decide (64 < (d : Int)) = false := by simp; omega
           replace hG := Lib.hid hG
           clear h1 h2
           go_enter Tryz.func105, Tryz.ntmps105
           go_wp2_with first
            | (go_at_call 136; ((refine (hlo.out _).mono ?_); rintro _ w1 ⟨rfl, hbw⟩; obtain ⟨bs1, d1, rfl⟩ := of_below hbw; clear hbw))
            | (go_at_call 104; ((refine (hdo.out _).mono ?_); rintro _ w1 ⟨rfl, hbw⟩; obtain ⟨bs2, d2, rfl⟩ := of_below hbw; clear hbw))
           go_returns
           exact .of hG.out.symm rfl (by (repeat' (first | (with_reducible exact Below.refl _ _) | (with_reducible refine Below.app ?_ ?_ _ _) | (with_reducible refine Below.alloc ?_ ?_ _) | (with_reducible refine Below.drew ?_) | (with_reducible refine Below.setCell ?_ ?_ _) | (with_reducible assumption) | omega | (simp; omega) | (simp; done))))
end Go.Proofs.YtfbicbgdfcbhpaaGreatDoor
set_option maxRecDepth 20000
set_option linter.unusedVariables false
set_option linter.unusedSimpArgs false
set_option linter.unusedSectionVars false
namespace Go.Proofs.YtfbicbgdfcbhpaaGreatDoor
open Go.ChangeShapes Go.WideShapes Go.ChangeAt Go.RowKit
theorem mailboxP_ge {l t : List UInt8} {d k : Nat} (h : mailboxP l = some (t, d, k)) : k ≤ l.length ∧ d ≤ k ∧ t.length ≤ k := by
 have h0 := mailboxP_le h
 unfold mailboxP at h
 split at h
 · cases h
 · rename_i t' k' hl
   have h1 := localP_pos hl
   split at h
   · cases hd : domP (l.drop (k' + 1)) with
     | none => rw [hd] at h; cases h
     | some d' => rw [hd] at h; cases h; exact ⟨h0, by omega, by omega⟩
   · cases h
end Go.Proofs.YtfbicbgdfcbhpaaGreatDoor
set_option maxRecDepth 20000
set_option linter.unusedVariables false
set_option linter.unusedSimpArgs false
set_option linter.unusedSectionVars false
namespace Go.Proofs.YtfbicbgdfcbhpaaGreatDoor
open Go.ChangeShapes Go.WideShapes Go.ChangeAt Go.RowKit
theorem ext_tail (s : ByteArray) (k : Nat) (h : k ≤ s.size) : (s.extract k s.size).data.toList = s.data.toList.drop k := by
 have := extract_list s k (s.size - k)
 rw [show k + (s.size - k) = s.size by omega] at this
 rw [this]
 show (s.data.toList.drop k).take _ = _
 rw [List.take_of_length_le (by simp)]
theorem ext_ext (s : ByteArray) (K a b : Nat) (h : K + b ≤ s.size) : (s.extract K s.size).extract a b = s.extract (K + a) (K + b) := by
 apply ByteArray.ext
 simp only [ByteArray.data_extract, Array.extract_extract]
 congr 1
 have : s.data.size = s.size := rfl
 omega
theorem prefix_two (s : ByteArray) : ((s.extract 0 2).toList == [60, 62]) = Lib.hasPrefix s.data.toList [60, 62] := by
 have e : (s.extract 0 2).toList = s.data.toList.take 2 := by
  have := extract_list s 0 2
  rw [Nat.zero_add, List.drop_zero] at this
  rw [this]
  exact ByteArray.toList_mk _
 rw [e]
 unfold Lib.hasPrefix
 match s.data.toList with
 | [] => rfl
 | [a] => simp [List.isPrefixOf]
 | a :: b :: r => simp [List.isPrefixOf]; rw [Bool.eq_iff_iff]; simp; exact ⟨fun h => ⟨h.1.symm, h.2.symm⟩, fun h => ⟨h.1.symm, h.2.symm⟩⟩
def tailP (s : ByteArray) (K : Nat) (lg : Bool) : ByteArray × ByteArray × Int × Int :=
 match (((mailboxP (s.data.toList.drop K)).map (fun x => (x.1, x.2.1, K + x.2.2)) : Option (List UInt8 × Nat × Nat))) with
 | none => (⟨#[]⟩, ⟨#[]⟩, 0, 3)
 | some (t, d, M) => if s.data.toList.getD M 0 = 62 then (if ((lg || decide (64 < (t.length : Int))) || decide (64 < (d : Int))) = true then (⟨#[]⟩, ⟨#[]⟩, 0, 4) else (⟨t.toArray⟩, s.extract (M - d) M, (M : Int) + 1, 0)) else (⟨#[]⟩, ⟨#[]⟩, 0, 3)
def routedP (s : ByteArray) : Option (Nat × Bool) → ByteArray × ByteArray × Int × Int
 | none => (⟨#[]⟩, ⟨#[]⟩, 0, 3)
 | some x => tailP s x.1 x.2
theorem readP_tail {s : ByteArray} {null : Bool} (hn : nullB s null = false) (h60 : s.data.toList.getD 0 0 = 60) (R : Option (Nat × Bool)) (hR : (if s.data.toList.getD 1 0 = 64 then (routeT (s.data.toList.drop 1)).map (fun x => (1 + x.1, false || x.2)) else some (1, false)) = R) :
 readP s null = routedP s R := by
 unfold readP pathP routedP
 rw [if_neg (by rw [hn]; simp), if_pos h60, hR]
 cases R with
 | none => rfl
 | some x =>
  obtain ⟨K, lg⟩ := x
  unfold tailP
  simp only []
  cases (mailboxP (s.data.toList.drop K)).map (fun x => (x.1, x.2.1, K + x.2.2)) with
  | none => rfl
  | some y =>
   obtain ⟨t, d, M⟩ := y
   simp only []
   by_cases hM : s.data.toList.getD M 0 = 62
   · rw [if_pos hM, if_pos hM]
   · rw [if_neg hM, if_neg hM]
theorem readP_no {s : ByteArray} {null : Bool} (hn : nullB s null = false) (h60 : ¬ s.data.toList.getD 0 0 = 60) : readP s null = (⟨#[]⟩, ⟨#[]⟩, 0, 3) := by
 unfold readP pathP
 rw [if_neg (by rw [hn]; simp), if_neg h60]
end Go.Proofs.YtfbicbgdfcbhpaaGreatDoor
