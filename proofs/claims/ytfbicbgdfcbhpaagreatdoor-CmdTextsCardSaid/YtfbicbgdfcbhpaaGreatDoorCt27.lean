/-
  RefReadA.
-/
import Derived.Test.YtfbicbgdfcbhpaaGreatDoorCt26
import Derived.Deep.DeepCutAuto
import Derived.Deep.CutBlock
set_option maxRecDepth 20000
set_option linter.unusedVariables false
set_option linter.unusedSimpArgs false
set_option linter.unusedSectionVars false
namespace Go.Proofs.YtfbicbgdfcbhpaaGreatDoor
open Go.ChangeShapes Go.WideShapes Go.ChangeAt Go.RowKit
set_option maxHeartbeats 8000000 in
theorem rread_one (s : ByteArray) (null : Bool) (hs : s.size ≤ 1000000000000) (hnl : nullB s null = false) (h1 : 0 < s.size) (h60 : ((s[0].toNat : Int) == 60) = true) (hr : ¬ s.data.toList.getD 1 0 = 64) (w : World) : Calls Tryz.prog 74 #[.string s, .bool null] w (GotIs (readP s null) w) := by
 have hlen : s.data.toList.length = s.size := by simp
 have h60' : ((s[0].toNat : Int) != 60) = false := by simp [bne, h60]
 have he : s.data.toList.getD 0 0 = 60 := by rw [getD_lt h1, ← UInt8.toNat_inj]; simp at h60 ⊢; omega
 have hG := readP_tail hnl he _ rfl
 rw [if_neg hr] at hG
 have hxl : s.toList = s.data.toList := ByteArray.toList_mk s.data.toList
 have he2 : s.toList.isEmpty = false := by
  rw [hxl]
  cases h : s.data.toList with
  | nil => rw [h] at hlen; simp at hlen; omega
  | cons a b => rfl
 have hp : null = true → ((s.extract 0 2).toList == [60, 62]) = false := fun h => by subst h; rw [prefix_two]; unfold nullB at hnl; rwa [Bool.true_and] at hnl
 have hr2 : 1 < s.size → ∀ (hh : 1 < s.size), ((s[1].toNat : Int) == 64) = false := fun _ hh => by
  rw [getD_lt hh, ← UInt8.toNat_inj] at hr
  simp at hr ⊢; omega
 clear hr he hxl hnl
 simp only [routedP] at hG
 generalize hGG : readP s null = G at hG
 clear hGG
 replace hG := hG.symm
 unfold tailP at hG
 have hK : 1 ≤ s.size := h1
 by_cases hsz : 1 < s.size
 · have hr3 := hr2 hsz hsz
   clear hr2
   have hbig := Lib.hid (rmailbox_calls (s.extract 1 s.size) (by rw [ByteArray.size_extract]; omega))
   have htd : (s.extract 1 s.size).data.toList = s.data.toList.drop 1 := ext_tail s 1 hK
   have hgot := Lib.hid (show gotP (s.extract 1 s.size) = gotP (s.extract 1 s.size) from rfl)
   unfold gotP at hbig
   rw [htd] at hbig
   clear htd hgot
   cases hm : mailboxP (s.data.toList.drop 1) with
   | none =>
    rw [hm] at hbig hG
    simp only [Option.map_none] at hG
    replace hbig := hbig.out
    simp only [] at hbig
    replace hbig := Lib.hid hbig
    replace hG := Lib.hid hG
    clear hm
    cases null
    all_goals
     try replace hp := hp rfl
     go_enter Tryz.func74, Tryz.ntmps74
     go_wp2_with (go_at_call 105; ((refine (hbig.out _).mono ?_); rintro _ w1 ⟨rfl, hbw⟩; obtain ⟨bs1, d1, rfl⟩ := of_below hbw; clear hbw))
     all_goals
      go_returns
      exact .of hG.out.symm (by first | rfl | (push_cast; rfl)) (by (repeat' (first | (with_reducible exact Below.refl _ _) | (with_reducible refine Below.app ?_ ?_ _ _) | (with_reducible refine Below.alloc ?_ ?_ _) | (with_reducible refine Below.drew ?_) | (with_reducible refine Below.setCell ?_ ?_ _) | (with_reducible assumption) | omega | (simp; omega) | (simp; done))))
   | some x =>
    obtain ⟨t, d, k⟩ := x
    have hk := mailboxP_ge hm
    rw [hm] at hbig hG
    simp only [Option.map_some] at hG
    replace hbig := hbig.out
    simp only [] at hbig
    rw [List.length_drop, hlen] at hk
    have hKk : 1 + k ≤ s.size := by omega
    have hexx : (s.extract 1 s.size).extract (k - d) k = s.extract (1 + k - d) (1 + k) := by rw [ext_ext s 1 (k - d) k (by omega)]; congr 1; omega
    rw [hexx] at hbig
    clear hexx hm
    by_cases hlt : 1 + k < s.size
    · have hng : ¬ (s.size : Int) ≤ (1 : Int) + k := by omega
      rw [getD_lt hlt] at hG
      cases h62 : ((s[1 + k].toNat : Int) == 62)
      · have hne : ¬ s[1 + k] = 62 := by intro e; rw [e] at h62; simp at h62
        have h62' : ((s[1 + k].toNat : Int) != 62) = true := by simp [bne, h62]
        rw [if_neg hne] at hG
        clear hne
        generalize (if 64 < t.length ∨ 64 < d then (4 : Int) else 0) = e at hbig
        replace hbig := Lib.hid hbig
        replace hG := Lib.hid hG
        cases null
        all_goals
         try replace hp := hp rfl
         go_enter Tryz.func74, Tryz.ntmps74
         go_wp2_with (go_at_call 105; ((refine (hbig.out _).mono ?_); rintro _ w1 ⟨rfl, hbw⟩; obtain ⟨bs1, d1, rfl⟩ := of_below hbw; clear hbw))
         all_goals
          go_returns
          exact .of hG.out.symm (by first | rfl | (push_cast; rfl)) (by (repeat' (first | (with_reducible exact Below.refl _ _) | (with_reducible refine Below.app ?_ ?_ _ _) | (with_reducible refine Below.alloc ?_ ?_ _) | (with_reducible refine Below.drew ?_) | (with_reducible refine Below.setCell ?_ ?_ _) | (with_reducible assumption) | omega | (simp; omega) | (simp; done))))
      · have hne : s[1 + k] = 62 := by rw [← UInt8.toNat_inj]; simp at h62 ⊢; omega
        have h62' : ((s[1 + k].toNat : Int) != 62) = false := by simp [bne, h62]
        rw [if_pos hne] at hG
        clear hne
        try simp only [] at hG
        by_cases h1 : 64 < t.length ∨ 64 < d
        · rw [if_pos h1] at hbig
          have hor : ((false || decide (64 < (t.length : Int))) || decide (64 < (d : Int))) = true := by
           rcases h1 with h | h
           · have : decide (64 < (t.length : Int)) = true := by simp; omega
             rw [this]; simp
           · have : decide (64 < (d : Int)) = true := by simp; omega
             rw [this]; simp
          rw [if_pos hor] at hG
          clear hor h1
          replace hbig := Lib.hid hbig
          replace hG := Lib.hid hG
          cases null
          all_goals
           try replace hp := hp rfl
           go_enter Tryz.func74, Tryz.ntmps74
           go_wp2_with (go_at_call 105; ((refine (hbig.out _).mono ?_); rintro _ w1 ⟨rfl, hbw⟩; obtain ⟨bs1, d1, rfl⟩ := of_below hbw; clear hbw))
           all_goals
            go_returns
            exact .of hG.out.symm (by first | rfl | (push_cast; rfl)) (by (repeat' (first | (with_reducible exact Below.refl _ _) | (with_reducible refine Below.app ?_ ?_ _ _) | (with_reducible refine Below.alloc ?_ ?_ _) | (with_reducible refine Below.drew ?_) | (with_reducible refine Below.setCell ?_ ?_ _) | (with_reducible assumption) | omega | (simp; omega) | (simp; done))))
        · rw [if_neg h1] at hbig
          have hor : ((false || decide (64 < (t.length : Int))) || decide (64 < (d : Int))) = false := by
           have h2 : decide (64 < (t.length : Int)) = false := by simp; omega
           have h3 : decide (64 < (d : Int)) = false := by simp; omega
           rw [h2, h3]; simp
          rw [hor] at hG
          clear hor h1
          replace hbig := Lib.hid hbig
          rw [if_neg (by simp)] at hG
          replace hG := Lib.hid hG
          cases null
          all_goals
           try replace hp := hp rfl
           go_enter Tryz.func74, Tryz.ntmps74
           go_wp2_with (go_at_call 105; ((refine (hbig.out _).mono ?_); rintro _ w1 ⟨rfl, hbw⟩; obtain ⟨bs1, d1, rfl⟩ := of_below hbw; clear hbw))
           all_goals
            go_returns
            exact .of hG.out.symm (by first | rfl | (push_cast; rfl)) (by (repeat' (first | (with_reducible exact Below.refl _ _) | (with_reducible refine Below.app ?_ ?_ _ _) | (with_reducible refine Below.alloc ?_ ?_ _) | (with_reducible refine Below.drew ?_) | (with_reducible refine Below.setCell ?_ ?_ _) | (with_reducible assumption) | omega | (simp; omega) | (simp; done))))
    · have hng : (s.size : Int) ≤ (1 : Int) + k := by omega
      have hM : 1 + k = s.size := by omega
      rw [getD_ge (by omega)] at hG
      rw [if_neg (by decide)] at hG
      generalize (if 64 < t.length ∨ 64 < d then (4 : Int) else 0) = e at hbig
      replace hbig := Lib.hid hbig
      replace hG := Lib.hid hG
      clear hM
      cases null
      all_goals
       try replace hp := hp rfl
       go_enter Tryz.func74, Tryz.ntmps74
       go_wp2_with (go_at_call 105; ((refine (hbig.out _).mono ?_); rintro _ w1 ⟨rfl, hbw⟩; obtain ⟨bs1, d1, rfl⟩ := of_below hbw; clear hbw))
       all_goals
        go_returns
        exact .of hG.out.symm (by first | rfl | (push_cast; rfl)) (by (repeat' (first | (with_reducible exact Below.refl _ _) | (with_reducible refine Below.app ?_ ?_ _ _) | (with_reducible refine Below.alloc ?_ ?_ _) | (with_reducible refine Below.drew ?_) | (with_reducible refine Below.setCell ?_ ?_ _) | (with_reducible assumption) | omega | (simp; omega) | (simp; done))))
 · have hs1 : s.size = 1 := by omega
   have hgot := rmailbox_calls (s.extract 1 s.size) (by rw [ByteArray.size_extract]; omega)
   have htd : (s.extract 1 s.size).data.toList = s.data.toList.drop 1 := ext_tail s 1 hK
   have hnil : s.data.toList.drop 1 = [] := List.drop_of_length_le (by omega)
   have hmb0 : mailboxP [] = none := by decide +kernel
   unfold gotP at hgot
   rw [htd, hnil, hmb0] at hgot
   rw [hnil, hmb0] at hG
   simp only [Option.map_none] at hG
   simp only [] at hgot
   replace hgot := Lib.hid hgot
   replace hG := Lib.hid hG
   clear htd hnil hmb0 hr2 hs1
   cases null
   all_goals
    try replace hp := hp rfl
    go_enter Tryz.func74, Tryz.ntmps74
    go_wp2_with (go_at_call 105; ((with_reducible refine (hgot.out _).mono ?_); rintro _ w1 ⟨rfl, hbw⟩; obtain ⟨bs1, d1, rfl⟩ := of_below hbw; clear hbw))
    all_goals
     go_returns
     exact .of hG.out.symm rfl (by (repeat' (first | (with_reducible exact Below.refl _ _) | (with_reducible refine Below.app ?_ ?_ _ _) | (with_reducible refine Below.alloc ?_ ?_ _) | (with_reducible refine Below.drew ?_) | (with_reducible refine Below.setCell ?_ ?_ _) | (with_reducible assumption) | omega | (simp; omega) | (simp; done))))
end Go.Proofs.YtfbicbgdfcbhpaaGreatDoor
