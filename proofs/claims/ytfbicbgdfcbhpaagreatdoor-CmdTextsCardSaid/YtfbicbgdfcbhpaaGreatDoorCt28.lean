/-
  RefReadB.
-/
import Derived.Test.YtfbicbgdfcbhpaaGreatDoorCt26
import Derived.Deep.DeepCutAuto
import Derived.Deep.CutBlock
set_option maxRecDepth 20000
set_option linter.unusedVariables false
set_option linter.unusedSimpArgs false
set_option linter.unusedSectionVars false
namespace Go.Proofs.YtfbicbgdfcbhpaaGreatDoor
open Go.ChangeShapes Go.WideShapes Go.ChangeAt Go.RowKit
def RelRR (s : ByteArray) (w0 : World) (R : Option (Nat × Bool)) (a l : Value) (wr : World) : Prop :=
 ∃ (j : Nat) (lg : Bool) (bs : Array Obj) (d : Nat), 1 ≤ j ∧ j ≤ s.size ∧ a = .int .i64 j ∧ l = .bool lg ∧ wr = app w0 bs d ∧ Hid ((routeT (s.data.toList.drop j)).map (fun x => (j + x.1, lg || x.2)) = R)
def CutRR (s : ByteArray) (w0 : World) (R : Option (Nat × Bool)) (a l : Value) (wr : World) : Prop :=
 ∃ (K : Nat) (lg : Bool) (bs : Array Obj) (d : Nat), 1 ≤ K ∧ K ≤ s.size ∧ a = .int .i64 K ∧ l = .bool lg ∧ wr = app w0 bs d ∧ Hid (R = some (K, lg))
set_option maxRecDepth 100000 in
set_option maxHeartbeats 16000000 in
theorem rread_route (s : ByteArray) (null : Bool) (hs : s.size ≤ 1000000000000) (hnl : nullB s null = false) (h1 : 0 < s.size) (h60 : ((s[0].toNat : Int) == 60) = true) (hr : s.data.toList.getD 1 0 = 64) (w : World) : Calls Tryz.prog 74 #[.string s, .bool null] w (GotIs (readP s null) w) := by
 have hlen : s.data.toList.length = s.size := by simp
 have h60' : ((s[0].toNat : Int) != 60) = false := by simp [bne, h60]
 have he : s.data.toList.getD 0 0 = 60 := by rw [getD_lt h1, ← UInt8.toNat_inj]; simp at h60 ⊢; omega
 have hG := readP_tail hnl he _ rfl
 rw [if_pos hr] at hG
 have hxl : s.toList = s.data.toList := ByteArray.toList_mk s.data.toList
 have he2 : s.toList.isEmpty = false := by
  rw [hxl]
  cases h : s.data.toList with
  | nil => rw [h] at hlen; simp at hlen; omega
  | cons a b => rfl
 have hp : null = true → ((s.extract 0 2).toList == [60, 62]) = false := fun h => by subst h; rw [prefix_two]; unfold nullB at hnl; rwa [Bool.true_and] at hnl
 have hsz : 1 < s.size := getD_pos hr (by decide)
 have hr3 : ((s[1].toNat : Int) == 64) = true := by
  rw [getD_lt hsz, ← UInt8.toNat_inj] at hr
  simp at hr ⊢; omega
 clear hr he hxl hnl
 generalize hRR : (routeT (s.data.toList.drop 1)).map (fun x => (1 + x.1, false || x.2)) = R at hG
 generalize hGG : readP s null = G at hG
 clear hGG
 replace hG := Lib.hid hG
 replace hRR := Lib.hid hRR
 have hcut1 : w = w := rfl
 clear hcut1
 cases null
 all_goals
  try replace hp := hp rfl
  go_enter Tryz.func74, Tryz.ntmps74
  go_upto_if 39 with (fail)
  go_cut [5, 6] (fun a l wx => CutRR s (w.alloc (.cells #[.string ⟨#[]⟩, .string ⟨#[]⟩, .int .i64 0, .int .i64 0] 98)) R a l wx)
  case first =>
   go_wp2
   go_loopw [5, 6] (fun a l wr => RelRR s (w.alloc (.cells #[.string ⟨#[]⟩, .string ⟨#[]⟩, .int .i64 0, .int .i64 0] 98)) R a l wr) (fun a _ _ => s.size - (intOf a).toNat)
   case atStart => exact ⟨1, false, #[], _, by omega, by omega, rfl, rfl, (app_nil _).symm, by unfold Hid; rw [← hRR.out]⟩
   case round =>
    obtain ⟨j, lg, bs, d, j1, hj, rfl, rfl, rfl, hr⟩ := hrel
    clear hRR
    have hdt := routeT_drop s.data.toList j
    by_cases hjs : j = s.size
    · subst hjs
      have hR : Hid (R = none) := by unfold Hid; rw [← hr.out, hdt, getD_ge (Nat.le_refl _), if_neg (by decide)]; rfl
      clear hr hdt
      go_wp2
      go_returns
      exact .of (show _ = ((⟨#[]⟩, ⟨#[]⟩, 0, 3) : ByteArray × ByteArray × Int × Int) by rw [hG.out, hR.out]; rfl) rfl (by (repeat' (first | (with_reducible exact Below.refl _ _) | (with_reducible refine Below.app ?_ ?_ _ _) | (with_reducible refine Below.alloc ?_ ?_ _) | (with_reducible refine Below.drew ?_) | (with_reducible refine Below.setCell ?_ ?_ _) | (with_reducible assumption) | omega | (simp; omega) | (simp; done))))
    · have hlt : j < s.size := by omega
      have hng : ¬ (s.size : Int) ≤ j := by omega
      rw [getD_lt hlt] at hdt
      clear hjs
      cases h64 : ((s[j].toNat : Int) == 64)
      · have hne : ¬ s[j] = 64 := by intro e; rw [e] at h64; simp at h64
        have h64' : ((s[j].toNat : Int) != 64) = true := by simp [bne, h64]
        have hR : Hid (R = none) := by unfold Hid; rw [← hr.out, hdt, if_neg hne]; rfl
        clear hr hdt hne
        go_wp2
        go_returns
        exact .of (show _ = ((⟨#[]⟩, ⟨#[]⟩, 0, 3) : ByteArray × ByteArray × Int × Int) by rw [hG.out, hR.out]; rfl) rfl (by (repeat' (first | (with_reducible exact Below.refl _ _) | (with_reducible refine Below.app ?_ ?_ _ _) | (with_reducible refine Below.alloc ?_ ?_ _) | (with_reducible refine Below.drew ?_) | (with_reducible refine Below.setCell ?_ ?_ _) | (with_reducible assumption) | omega | (simp; omega) | (simp; done))))
      · have hne : s[j] = 64 := by rw [← UInt8.toNat_inj]; simp at h64 ⊢; omega
        have h64' : ((s[j].toNat : Int) != 64) = false := by simp [bne, h64]
        rw [if_pos hne] at hdt
        clear hne
        have hdo := rdom_calls (s.extract (j + 1) s.size) (by rw [ByteArray.size_extract]; omega)
        rw [ext_tail s (j + 1) (by omega), rdomN_eq] at hdo
        cases hd : domP (s.data.toList.drop (j + 1)) with
        | none =>
         rw [hd] at hdo hdt
         simp only [Option.getD_none] at hdo
         have hR : Hid (R = none) := by unfold Hid; rw [← hr.out, hdt]; rfl
         replace hdo := Lib.hid hdo
         clear hr hdt hd
         go_wp2_with (go_at_call 104; ((refine (hdo.out _).mono ?_); rintro _ w1 ⟨rfl, hbw⟩; obtain ⟨bs2, d2, rfl⟩ := of_below hbw; clear hbw))
         go_returns
         exact .of (show _ = ((⟨#[]⟩, ⟨#[]⟩, 0, 3) : ByteArray × ByteArray × Int × Int) by rw [hG.out, hR.out]; rfl) rfl (by (repeat' (first | (with_reducible exact Below.refl _ _) | (with_reducible refine Below.app ?_ ?_ _ _) | (with_reducible refine Below.alloc ?_ ?_ _) | (with_reducible refine Below.drew ?_) | (with_reducible refine Below.setCell ?_ ?_ _) | (with_reducible assumption) | omega | (simp; omega) | (simp; done))))
        | some n =>
         have hd0 := domP_pos hd
         have hdl := domP_le hd
         rw [hd] at hdo hdt
         simp only [Option.getD_some] at hdo
         simp only [List.length_drop, hlen] at hdl
         simp only [] at hdt
         have hnz : ((n : Int) == 0) = false := by simp; omega
         replace hdo := Lib.hid hdo
         clear hd
         by_cases hend : j + 1 + n = s.size
         · have hend2 : (s.size : Int) ≤ (j : Int) + 1 + n := by omega
           have hend3 : ¬ (j : Int) + 1 + n < s.size := by omega
           rw [getD_ge (by omega), if_neg (by decide), if_neg (by decide)] at hdt
           have hR : Hid (R = none) := by unfold Hid; rw [← hr.out, hdt]; rfl
           clear hr hdt hend
           go_wp2_with (go_at_call 104; ((refine (hdo.out _).mono ?_); rintro _ w1 ⟨rfl, hbw⟩; obtain ⟨bs2, d2, rfl⟩ := of_below hbw; clear hbw))
           all_goals
            go_returns
            exact .of (show _ = ((⟨#[]⟩, ⟨#[]⟩, 0, 3) : ByteArray × ByteArray × Int × Int) by rw [hG.out, hR.out]; rfl) rfl (by (repeat' (first | (with_reducible exact Below.refl _ _) | (with_reducible refine Below.app ?_ ?_ _ _) | (with_reducible refine Below.alloc ?_ ?_ _) | (with_reducible refine Below.drew ?_) | (with_reducible refine Below.setCell ?_ ?_ _) | (with_reducible assumption) | omega | (simp; omega) | (simp; done))))
         · have hlt2 : j + 1 + n < s.size := by omega
           have hend2 : ¬ (s.size : Int) ≤ (j : Int) + 1 + n := by omega
           have hend3 : (j : Int) + 1 + n < s.size := by omega
           rw [getD_lt hlt2] at hdt
           clear hend
           cases h44 : ((s[j + 1 + n].toNat : Int) == 44)
           · have hne4 : ¬ s[j + 1 + n] = 44 := by intro e; rw [e] at h44; simp at h44
             rw [if_neg hne4] at hdt
             clear hne4
             cases h58 : ((s[j + 1 + n].toNat : Int) == 58)
             · have hne5 : ¬ s[j + 1 + n] = 58 := by intro e; rw [e] at h58; simp at h58
               have h58' : ((s[j + 1 + n].toNat : Int) != 58) = true := by simp [bne, h58]
               rw [if_neg hne5] at hdt
               have hR : Hid (R = none) := by unfold Hid; rw [← hr.out, hdt]; rfl
               clear hr hdt hne5
               go_wp2_with (go_at_call 104; ((refine (hdo.out _).mono ?_); rintro _ w1 ⟨rfl, hbw⟩; obtain ⟨bs2, d2, rfl⟩ := of_below hbw; clear hbw))
               all_goals
                go_returns
                exact .of (show _ = ((⟨#[]⟩, ⟨#[]⟩, 0, 3) : ByteArray × ByteArray × Int × Int) by rw [hG.out, hR.out]; rfl) rfl (by (repeat' (first | (with_reducible exact Below.refl _ _) | (with_reducible refine Below.app ?_ ?_ _ _) | (with_reducible refine Below.alloc ?_ ?_ _) | (with_reducible refine Below.drew ?_) | (with_reducible refine Below.setCell ?_ ?_ _) | (with_reducible assumption) | omega | (simp; omega) | (simp; done))))
             · have hne5 : s[j + 1 + n] = 58 := by rw [← UInt8.toNat_inj]; simp at h58 ⊢; omega
               have h58' : ((s[j + 1 + n].toNat : Int) != 58) = false := by simp [bne, h58]
               rw [if_pos hne5] at hdt
               have hR : Hid (R = some (j + 1 + n + 1, (lg || decide (64 < (n : Int))))) := by unfold Hid; rw [← hr.out, hdt]; simp; omega
               clear hr hdt hne5
               cases lg
               all_goals
                go_wp2_with (go_at_call 104; ((refine (hdo.out _).mono ?_); rintro _ w1 ⟨rfl, hbw⟩; obtain ⟨bs2, d2, rfl⟩ := of_below hbw; clear hbw))
                go_meet
                exact ⟨j + 1 + n + 1, _, _, _, by omega, by omega, by go_num, by simp; rfl, rfl, by simpa using hR⟩
           · have hne4 : s[j + 1 + n] = 44 := by rw [← UInt8.toNat_inj]; simp at h44 ⊢; omega
             rw [if_pos hne4] at hdt
             have hR : Hid ((routeT (s.data.toList.drop (j + 1 + n + 1))).map (fun x => (j + 1 + n + 1 + x.1, (lg || decide (64 < (n : Int))) || x.2)) = R) := by
              unfold Hid; rw [← hr.out, hdt, Option.map_map]; congr 1; funext x; simp [Bool.or_assoc]; omega
             clear hr hdt hne4
             cases lg
             all_goals
              go_wp2_with (go_at_call 104; ((refine (hdo.out _).mono ?_); rintro _ w1 ⟨rfl, hbw⟩; obtain ⟨bs2, d2, rfl⟩ := of_below hbw; clear hbw))
              go_roundw
              case rel => first | exact ⟨j + 1 + n + 1, _, _, _, by omega, by omega, by go_num, by simp; rfl, rfl, by simpa using hR⟩ | ((repeat apply Exists.intro); refine ⟨?rl, ?fr⟩; case fr => ((repeat' apply And.intro) <;> exact rfl); case rl => exact ⟨j + 1 + n + 1, _, _, _, by omega, by omega, by go_num, by simp; rfl, rfl, by simpa using hR⟩)
              case measure => first | (simp [intOf]; done) | (simp [intOf]; omega)
  case rest =>
   clear hRR
   obtain ⟨K, lg, bs0, d0, k1, hKs, rfl, rfl, rfl, hR⟩ := hcut
   replace hG : tailP s K lg = G := by rw [hG.out, hR.out]; rfl
   clear hR
   unfold tailP at hG
   have hbig := Lib.hid (rmailbox_calls (s.extract K s.size) (by rw [ByteArray.size_extract]; omega))
   have htd : (s.extract K s.size).data.toList = s.data.toList.drop K := ext_tail s K hKs
   have hgot := Lib.hid (show gotP (s.extract K s.size) = gotP (s.extract K s.size) from rfl)
   unfold gotP at hbig
   rw [htd] at hbig
   clear htd hgot
   cases hm : mailboxP (s.data.toList.drop K) with
   | none =>
    rw [hm] at hbig hG
    simp only [Option.map_none] at hG
    replace hbig := hbig.out
    simp only [] at hbig
    replace hbig := Lib.hid hbig
    replace hG := Lib.hid hG
    clear hm
    go_wp2_with (go_at_call 105; ((refine (hbig.out _).mono ?_); rintro _ w1 ⟨rfl, hbw⟩; obtain ⟨bs1, d1, rfl⟩ := of_below hbw; clear hbw))
    all_goals
     go_returns
     exact .of hG.out.symm (by first | rfl | (push_cast; rfl)) (by (repeat' (first | (with_reducible exact Below.refl _ _) | (with_reducible refine Below.app ?_ ?_ _ _) | (with_reducible refine Below.alloc ?_ ?_ _) | (with_reducible refine Below.drew ?_) | (with_reducible refine Below.setCell ?_ ?_ _) | (with_reducible assumption) | omega | (simp; omega) | (simp; done))))
   | some x =>
    obtain ⟨t, d, k⟩ := x
    have hk := mailboxP_ge hm
    rw [hm] at hbig hG
    simp only [Option.map_some] at hG
    replace hbig := hbig.out
    simp only [] at hbig
    rw [List.length_drop, hlen] at hk
    have hKk : K + k ≤ s.size := by omega
    have hexx : (s.extract K s.size).extract (k - d) k = s.extract (K + k - d) (K + k) := by rw [ext_ext s K (k - d) k (by omega)]; congr 1; omega
    rw [hexx] at hbig
    clear hexx hm
    by_cases hlt : K + k < s.size
    · have hng : ¬ (s.size : Int) ≤ (K : Int) + k := by omega
      rw [getD_lt hlt] at hG
      cases h62 : ((s[K + k].toNat : Int) == 62)
      · have hne : ¬ s[K + k] = 62 := by intro e; rw [e] at h62; simp at h62
        have h62' : ((s[K + k].toNat : Int) != 62) = true := by simp [bne, h62]
        rw [if_neg hne] at hG
        clear hne
        generalize (if 64 < t.length ∨ 64 < d then (4 : Int) else 0) = e at hbig
        replace hbig := Lib.hid hbig
        replace hG := Lib.hid hG
        go_wp2_with (go_at_call 105; ((refine (hbig.out _).mono ?_); rintro _ w1 ⟨rfl, hbw⟩; obtain ⟨bs1, d1, rfl⟩ := of_below hbw; clear hbw))
        all_goals
         go_returns
         exact .of hG.out.symm (by first | rfl | (push_cast; rfl)) (by (repeat' (first | (with_reducible exact Below.refl _ _) | (with_reducible refine Below.app ?_ ?_ _ _) | (with_reducible refine Below.alloc ?_ ?_ _) | (with_reducible refine Below.drew ?_) | (with_reducible refine Below.setCell ?_ ?_ _) | (with_reducible assumption) | omega | (simp; omega) | (simp; done))))
      · have hne : s[K + k] = 62 := by rw [← UInt8.toNat_inj]; simp at h62 ⊢; omega
        have h62' : ((s[K + k].toNat : Int) != 62) = false := by simp [bne, h62]
        rw [if_pos hne] at hG
        clear hne
        try simp only [] at hG
        by_cases h1 : 64 < t.length ∨ 64 < d
        · rw [if_pos h1] at hbig
          have hor : ((lg || decide (64 < (t.length : Int))) || decide (64 < (d : Int))) = true := by
           rcases h1 with h | h
           · have : decide (64 < (t.length : Int)) = true := by simp; omega
             rw [this]; simp
           · have : decide (64 < (d : Int)) = true := by simp; omega
             rw [this]; simp
          rw [if_pos hor] at hG
          clear hor h1
          replace hbig := Lib.hid hbig
          replace hG := Lib.hid hG
          go_wp2_with (go_at_call 105; ((refine (hbig.out _).mono ?_); rintro _ w1 ⟨rfl, hbw⟩; obtain ⟨bs1, d1, rfl⟩ := of_below hbw; clear hbw))
          all_goals
           go_returns
           exact .of hG.out.symm (by first | rfl | (push_cast; rfl)) (by (repeat' (first | (with_reducible exact Below.refl _ _) | (with_reducible refine Below.app ?_ ?_ _ _) | (with_reducible refine Below.alloc ?_ ?_ _) | (with_reducible refine Below.drew ?_) | (with_reducible refine Below.setCell ?_ ?_ _) | (with_reducible assumption) | omega | (simp; omega) | (simp; done))))
        · rw [if_neg h1] at hbig
          have hor : ((lg || decide (64 < (t.length : Int))) || decide (64 < (d : Int))) = lg := by
           have h2 : decide (64 < (t.length : Int)) = false := by simp; omega
           have h3 : decide (64 < (d : Int)) = false := by simp; omega
           rw [h2, h3]; simp
          rw [hor] at hG
          clear hor h1
          replace hbig := Lib.hid hbig
          cases lg
          · rw [if_neg (by simp)] at hG
            replace hG := Lib.hid hG
            go_wp2_with (go_at_call 105; ((refine (hbig.out _).mono ?_); rintro _ w1 ⟨rfl, hbw⟩; obtain ⟨bs1, d1, rfl⟩ := of_below hbw; clear hbw))
            all_goals
             go_returns
             exact .of hG.out.symm (by first | rfl | (push_cast; rfl)) (by (repeat' (first | (with_reducible exact Below.refl _ _) | (with_reducible refine Below.app ?_ ?_ _ _) | (with_reducible refine Below.alloc ?_ ?_ _) | (with_reducible refine Below.drew ?_) | (with_reducible refine Below.setCell ?_ ?_ _) | (with_reducible assumption) | omega | (simp; omega) | (simp; done))))
          · rw [if_pos rfl] at hG
            replace hG := Lib.hid hG
            go_wp2_with (go_at_call 105; ((refine (hbig.out _).mono ?_); rintro _ w1 ⟨rfl, hbw⟩; obtain ⟨bs1, d1, rfl⟩ := of_below hbw; clear hbw))
            all_goals
             go_returns
             exact .of hG.out.symm (by first | rfl | (push_cast; rfl)) (by (repeat' (first | (with_reducible exact Below.refl _ _) | (with_reducible refine Below.app ?_ ?_ _ _) | (with_reducible refine Below.alloc ?_ ?_ _) | (with_reducible refine Below.drew ?_) | (with_reducible refine Below.setCell ?_ ?_ _) | (with_reducible assumption) | omega | (simp; omega) | (simp; done))))
    · have hng : (s.size : Int) ≤ (K : Int) + k := by omega
      have hM : K + k = s.size := by omega
      rw [getD_ge (by omega)] at hG
      rw [if_neg (by decide)] at hG
      generalize (if 64 < t.length ∨ 64 < d then (4 : Int) else 0) = e at hbig
      replace hbig := Lib.hid hbig
      replace hG := Lib.hid hG
      clear hM
      go_wp2_with (go_at_call 105; ((refine (hbig.out _).mono ?_); rintro _ w1 ⟨rfl, hbw⟩; obtain ⟨bs1, d1, rfl⟩ := of_below hbw; clear hbw))
      all_goals
       go_returns
       exact .of hG.out.symm (by first | rfl | (push_cast; rfl)) (by (repeat' (first | (with_reducible exact Below.refl _ _) | (with_reducible refine Below.app ?_ ?_ _ _) | (with_reducible refine Below.alloc ?_ ?_ _) | (with_reducible refine Below.drew ?_) | (with_reducible refine Below.setCell ?_ ?_ _) | (with_reducible assumption) | omega | (simp; omega) | (simp; done))))
end Go.Proofs.YtfbicbgdfcbhpaaGreatDoor
