/-
  RefEnv2.
-/
import Derived.Test.YteahkgbnfbjkhaaGreatDoorRe46
set_option maxRecDepth 20000
set_option linter.unusedVariables false
set_option linter.unusedSimpArgs false
set_option linter.unusedSectionVars false
set_option linter.unnecessarySimpa false
namespace Go.Proofs.YteahkgbnfbjkhaaGreatDoor
open Go.ChangeShapes Go.WideShapes Go.ChangeAt Go.RowKit
def RelO15 (tos : List TV) (R : Bool) (w : World) (i : Value) (wr : World) : Prop := ∃ k : Nat, k ≤ tos.length ∧ i = .int .i64 k ∧ Hid (R = tosB ((tos.take k).map (·.user)) (tos.drop k)) ∧ Ext w wr
def RelI15 (tos : List TV) (k : Nat) (u : Int) (w : World) (m : Value) (wr : World) : Prop := ∃ n : Nat, n ≤ k ∧ m = .int .i64 n ∧ Hid (∀ i (hi : i < tos.length), i < n → tos[i].user ≠ u) ∧ Ext w wr
set_option maxHeartbeats 4000000 in
theorem renv_calls {w : World} (j : JV) (q : JP) (h : JobAt w j q) (hl : lightB j = true) : Calls Tryz.prog 29 #[.agg (j.cells q)] w fun r w' => r = .returned (.bool (envB j)) ∧ Below w.heap.size w w' := by
 obtain ⟨hto, -, -, -, -, -, -, -⟩ := h
 obtain ⟨⟨nt, -, -, nL, nD⟩, hsz⟩ := light_parts hl
 clear hl
 obtain ⟨id, arr, fL, fD, tos, sts, body⟩ := j
 obtain ⟨p4, c4, p5, c5, p6, c6⟩ := q
 unfold JV.cells envB
 dsimp only at *
 have kf := fun W => rgood05_calls fL fD (by omega) (by omega) W
 unfold fromB null27B
 generalize goodB fL fD = G at kf ⊢
 have hR0 : Hid (tosB [] tos = tosB ((tos.take 0).map (·.user)) (tos.drop 0)) := rfl
 generalize tosB [] tos = R at *
 replace hto := Lib.hid hto
 replace kf := Lib.hid kf
 go_enter Tryz.func29, Tryz.ntmps29
 go_wp2_with first
  | (go_at_call 80; ((refine (rin_calls _ _ _ _).mono ?_); rintro r w1 ⟨rfl, rfl⟩))
  | (go_at_call 81; ((with_reducible refine (kf.out _).mono ?_); rintro r w1 ⟨rfl, hb1⟩; obtain ⟨b1, d1, rfl⟩ := of_below hb1; clear hb1))
 all_goals first
  | (go_returns; refine ⟨rb ?_, by (repeat' (first | (with_reducible exact Below.refl _ _) | (with_reducible refine Below.app ?_ ?_ _ _) | (with_reducible refine Below.alloc ?_ ?_ _) | (with_reducible refine Below.drew ?_) | (with_reducible refine Below.setCell ?_ ?_ _) | (with_reducible assumption) | omega | (simp; omega) | (simp; done)))⟩; simp_all; done)
  | skip
 all_goals
  (try simp only [Bool.not_eq_false'] at *)
  (try (rename G = true => hG; simp only [hG]))
  (try (rename inB (tos.length : Int) 1 20 = true => hI; simp only [hI]))
  (try simp only [Bool.not_true, Bool.not_false, Bool.and_false, Bool.and_true, Bool.false_and, Bool.true_and])
  have hpre : (inB id 1 1099511627776 && (inB arr 0 4503599627370496 && (inB tos.length 1 20 && ((fL.toList.isEmpty && fD.toList.isEmpty) || G)))) = true := by simp_all
  have hout : ∀ x : Bool, (inB id 1 1099511627776 && (inB arr 0 4503599627370496 && (inB tos.length 1 20 && (((fL.toList.isEmpty && fD.toList.isEmpty) || G) && x)))) = x := fun x => by
   simp only [Bool.and_eq_true] at hpre
   obtain ⟨h1, h2, h3, h4⟩ := hpre
   rw [h1, h2, h3, h4]; simp
  replace hout := Lib.hid hout
  clear hpre kf
  go_loopw [3] (fun i wr => RelO15 tos R (w.alloc (.cells #[.int .i64 id, .int .i64 arr, .string fL, .string fD, .slice p4 tos.length c4, .slice p5 sts.length c5, .slice p6 body.length c6] 31)) i wr) (fun i _ => tos.length - (intOf i).toNat)
  case atStart => exact ⟨0, by omega, rfl, hR0, ext_of (by (repeat' (first | (with_reducible exact Below.refl _ _) | (with_reducible refine Below.app ?_ ?_ _ _) | (with_reducible refine Below.alloc ?_ ?_ _) | (with_reducible refine Below.drew ?_) | (with_reducible refine Below.setCell ?_ ?_ _) | (with_reducible assumption) | omega | (simp; omega) | (simp; done))))⟩
  case round =>
   obtain ⟨k, hk, rfl, hr, bs, d, rfl⟩ := hrel
   clear hR0
   by_cases hlt : k < tos.length
   · obtain ⟨b, off, cs, rfl, hb, hcl, hc, rfl, -, -⟩ := hto.out k hlt
     have e0 := hc 0 (by omega)
     have e1 := hc 1 (by omega)
     have e2 := hc 2 (by omega)
     clear hc
     simp at e0 e1 e2
     have hat : ∀ n (hn : n < tos.length), w.cell? ⟨b, off + n * 3, none⟩ = some (.int .i64 tos[n].user) := fun n hn => by
      obtain ⟨b', off', cs', e, _, _, hc', rfl, -⟩ := hto.out n hn
      cases e
      have := hc' 0 (by omega)
      simpa using this
     replace hat := Lib.hid hat
     obtain ⟨s1, s2⟩ := hsz k hlt
     have kt := fun W => rgood05_calls (tos[k]'hlt).L (tos[k]'hlt).D (by omega) (by omega) W
     have hs := hr.out
     rw [tosB_at tos k hlt] at hs
     have hmn := fun h => met_no (tos := tos) (k := k) hlt h
     have hmy := fun i (hi : i < k) h => met_yes (tos := tos) (k := k) (i := i) hlt hi h
     unfold tgtB at hs
     generalize hT : tos[k] = t at *
     obtain ⟨u, tL, tD⟩ := t
     dsimp only at *
     generalize goodB tL tD = G2 at *
     generalize (List.map (fun x => x.user) (List.take k tos)).contains u = M at *
     replace hs := Lib.hid hs
     replace hmn := Lib.hid hmn
     replace hmy := Lib.hid hmy
     replace kt := Lib.hid kt
     clear hr hsz hto hT
     go_wp2_with first
      | (go_at_call 80; ((refine (rin_calls _ _ _ _).mono ?_); rintro r w1 ⟨rfl, rfl⟩))
      | (go_at_call 81; ((with_reducible refine (kt.out _).mono ?_); rintro r w1 ⟨rfl, hb1⟩; obtain ⟨b1, d1, rfl⟩ := of_below hb1; clear hb1))
     all_goals first
      | (go_returns; refine ⟨rb ?_, by (repeat' (first | (with_reducible exact Below.refl _ _) | (with_reducible refine Below.app ?_ ?_ _ _) | (with_reducible refine Below.alloc ?_ ?_ _) | (with_reducible refine Below.drew ?_) | (with_reducible refine Below.setCell ?_ ?_ _) | (with_reducible assumption) | omega | (simp; omega) | (simp; done)))⟩; rw [hout.out, hs.out]; simp_all; done)
      | skip
     have hs2 : Hid (R = (!M && tosB ((tos.take (k + 1)).map (·.user)) (tos.drop (k + 1)))) := by
      have := hs.out
      unfold Hid
      simp_all
     clear hs
     go_loopw [4] (fun m wr => RelI15 tos k u (w.alloc (.cells #[.int .i64 id, .int .i64 arr, .string fL, .string fD, .slice (some ⟨b, off, none⟩) tos.length c4, .slice p5 sts.length c5, .slice p6 body.length c6] 31)) m wr) (fun m _ => k - (intOf m).toNat)
     case atStart => exact ⟨0, by omega, rfl, Lib.hid (fun i hi h => absurd h (by omega)), ext_of (by (repeat' (first | (with_reducible exact Below.refl _ _) | (with_reducible refine Below.app ?_ ?_ _ _) | (with_reducible refine Below.alloc ?_ ?_ _) | (with_reducible refine Below.drew ?_) | (with_reducible refine Below.setCell ?_ ?_ _) | (with_reducible assumption) | omega | (simp; omega) | (simp; done))))⟩
     case round =>
      obtain ⟨n, hn, rfl, hne, bs2, d2, rfl⟩ := hrel
      by_cases hnk : n < k
      · have hln : n < tos.length := by omega
        have hx := hat.out n hln
        have hy := fun h => hmy.out n hnk h
        have hz : tos[n].user ≠ u → ∀ i (hi : i < tos.length), i < n + 1 → tos[i].user ≠ u := fun h i hi hin => if e : i = n then by subst e; exact h else hne.out i hi (by omega)
        generalize tos[n].user = v at *
        replace hy := Lib.hid hy
        replace hz := Lib.hid hz
        clear hat hmy hne
        go_wp2
        (apply wp_region_text 13; kernel_rfl; kernel_rfl; intro Fin hFin; (repeat (first | (apply text_run; exact rfl; (focus (intro bs d hF K hK; (repeat rw [app_app] at hK); (repeat rw [app_app]); (repeat rw [Array.append_assoc] at hK); (repeat rw [Array.append_assoc]); go_step; first   | (refine hK _ ?_; (repeat' (first | (with_reducible exact Below.refl _ _) | (with_reducible refine Below.app ?_ ?_ _ _) | (with_reducible refine Below.alloc ?_ ?_ _) | (with_reducible refine Below.drew ?_) | (with_reducible refine Below.setCell ?_ ?_ _) | (with_reducible assumption) | omega | (simp; omega) | (simp; done)))))); (try simp only [Act.put, List.setIfInBounds_toArray, List.set_cons_zero, List.set_cons_succ])) | (apply text_skip; exact rfl; (try simp only [Act.put, List.setIfInBounds_toArray, List.set_cons_zero, List.set_cons_succ])))); apply text_end; apply hFin; clear hFin Fin; intro bs d hfa)
        go_wp2
        · go_returns; refine ⟨rb ?_, by (repeat' (first | (with_reducible exact Below.refl _ _) | (with_reducible refine Below.app ?_ ?_ _ _) | (with_reducible refine Below.alloc ?_ ?_ _) | (with_reducible refine Below.drew ?_) | (with_reducible refine Below.setCell ?_ ?_ _) | (with_reducible assumption) | omega | (simp; omega) | (simp; done)))⟩; rw [hout.out, hs2.out, hy.out (by go_light; grind)]; rfl
        · go_roundw
          case rel => exact ⟨n + 1, by omega, by go_num, Lib.hid (hz.out (by go_light; grind)), ext_of (by (repeat' (first | (with_reducible exact Below.refl _ _) | (with_reducible refine Below.app ?_ ?_ _ _) | (with_reducible refine Below.alloc ?_ ?_ _) | (with_reducible refine Below.drew ?_) | (with_reducible refine Below.setCell ?_ ?_ _) | (with_reducible assumption) | omega | (simp; omega) | (simp; done))))⟩
          case measure => simp [intOf]; omega
      · obtain rfl : n = k := by omega
        have hM := hmn.out hne.out
        have hR2 := hs2.out
        rw [hM, Bool.not_false, Bool.true_and] at hR2
        replace hR2 := Lib.hid hR2
        clear hs2 hat hmy hmn hM
        go_wp2
        go_roundw
        case rel => first | exact ⟨n + 1, by omega, by go_num, hR2, ext_of (by (repeat' (first | (with_reducible exact Below.refl _ _) | (with_reducible refine Below.app ?_ ?_ _ _) | (with_reducible refine Below.alloc ?_ ?_ _) | (with_reducible refine Below.drew ?_) | (with_reducible refine Below.setCell ?_ ?_ _) | (with_reducible assumption) | omega | (simp; omega) | (simp; done))))⟩ | ((repeat apply Exists.intro); refine ⟨?rl, ?fr⟩; case fr => ((repeat' apply And.intro) <;> exact rfl); case rl => exact ⟨n + 1, by omega, by go_num, hR2, ext_of (by (repeat' (first | (with_reducible exact Below.refl _ _) | (with_reducible refine Below.app ?_ ?_ _ _) | (with_reducible refine Below.alloc ?_ ?_ _) | (with_reducible refine Below.drew ?_) | (with_reducible refine Below.setCell ?_ ?_ _) | (with_reducible assumption) | omega | (simp; omega) | (simp; done))))⟩)
        case measure => simp [intOf]; omega
   · have hd : tos.drop k = [] := List.drop_of_length_le (by omega)
     have hR2 := hr.out
     rw [hd] at hR2
     replace hR2 : Hid (R = true) := hR2
     clear hr hsz
     go_wp2
     go_returns
     refine ⟨rb ?_, by (repeat' (first | (with_reducible exact Below.refl _ _) | (with_reducible refine Below.app ?_ ?_ _ _) | (with_reducible refine Below.alloc ?_ ?_ _) | (with_reducible refine Below.drew ?_) | (with_reducible refine Below.setCell ?_ ?_ _) | (with_reducible assumption) | omega | (simp; omega) | (simp; done)))⟩
     rw [hout.out, hR2.out]
set_option maxHeartbeats 2000000 in
theorem rgoodJob_calls {w : World} (j : JV) (q : JP) (h : JobAt w j q) (hl : lightB j = true) : Calls Tryz.prog 10 #[.agg (j.cells q)] w fun r w' => r = .returned (.bool (jobB j)) ∧ Below w.heap.size w w' := by
 have ke := fun (W : World) (hW : Below w.heap.size w W) => renv_calls j q (h.below hW) hl
 obtain ⟨-, hs, -, -, -, -, -, -⟩ := h
 obtain ⟨⟨nt, ns, nb, -, -⟩, -⟩ := light_parts hl
 unfold jobB
 generalize envB j = E at ke ⊢
 clear hl
 obtain ⟨id, arr, fL, fD, tos, sts, body⟩ := j
 obtain ⟨p4, c4, p5, c5, p6, c6⟩ := q
 unfold JV.cells at *
 dsimp only at *
 have hR0 : Hid (sts.all stateB = (sts.drop 0).all stateB) := rfl
 generalize sts.all stateB = R at *
 replace hs := Lib.hid hs
 replace ke := Lib.hid ke
 go_enter Tryz.func10, Tryz.ntmps10
 go_wp2_with (go_at_call 29; ((with_reducible refine (ke.out _ (by (repeat' (first | (with_reducible exact Below.refl _ _) | (with_reducible refine Below.app ?_ ?_ _ _) | (with_reducible refine Below.alloc ?_ ?_ _) | (with_reducible refine Below.drew ?_) | (with_reducible refine Below.setCell ?_ ?_ _) | (with_reducible assumption) | omega | (simp; omega) | (simp; done))))).mono ?_); rintro r w1 ⟨rfl, hb1⟩; obtain ⟨b1, d1, rfl⟩ := of_below hb1; clear hb1))
 all_goals first
  | (go_returns; refine ⟨rb ?_, by (repeat' (first | (with_reducible exact Below.refl _ _) | (with_reducible refine Below.app ?_ ?_ _ _) | (with_reducible refine Below.alloc ?_ ?_ _) | (with_reducible refine Below.drew ?_) | (with_reducible refine Below.setCell ?_ ?_ _) | (with_reducible assumption) | omega | (simp; omega) | (simp; done)))⟩; first | (simp_all; done) | (rw [midB_no (by omega)]; simp; done))
  | skip
 have hmid : midB sts.length tos.length body.length = true := midB_yes (by omega)
 have hE : E = true := by simp_all
 replace hmid := Lib.hid hmid
 replace hE := Lib.hid hE
 go_loopw [3] (fun i wr => ∃ k : Nat, k ≤ sts.length ∧ i = .int .i64 k ∧ Hid (R = (sts.drop k).all stateB) ∧ Ext (w.alloc (.cells #[.int .i64 id, .int .i64 arr, .string fL, .string fD, .slice p4 tos.length c4, .slice p5 sts.length c5, .slice p6 body.length c6] 31)) wr) (fun i _ => sts.length - (intOf i).toNat)
 case atStart => exact ⟨0, by omega, rfl, hR0, ext_of (by (repeat' (first | (with_reducible exact Below.refl _ _) | (with_reducible refine Below.app ?_ ?_ _ _) | (with_reducible refine Below.alloc ?_ ?_ _) | (with_reducible refine Below.drew ?_) | (with_reducible refine Below.setCell ?_ ?_ _) | (with_reducible assumption) | omega | (simp; omega) | (simp; done))))⟩
 case round =>
  obtain ⟨k, hk, rfl, hr, bs, d, rfl⟩ := hrel
  clear hR0
  by_cases hlt : k < sts.length
  · obtain ⟨b, off, cs, rfl, hb, hcl, hc, rfl, -⟩ := hs.out k hlt
    have e0 := hc 0 (by omega)
    have e1 := hc 1 (by omega)
    have e2 := hc 2 (by omega)
    have e3 := hc 3 (by omega)
    clear hc
    simp at e0 e1 e2 e3
    have hr1 := hr.out
    rw [all_at15 _ _ _ hlt] at hr1
    have kg := fun W => rgoodState_calls (sts[k]'hlt) W
    generalize (sts[k]'hlt) = s at *
    obtain ⟨x0, x1, x2, x3⟩ := s
    dsimp only at e0 e1 e2 e3 kg
    generalize stateB ⟨x0, x1, x2, x3⟩ = B at *
    replace hr1 := Lib.hid hr1
    replace kg := Lib.hid kg
    clear hr
    go_wp2_with (go_at_call 30; ((with_reducible refine (kg.out _).mono ?_); rintro r w1 ⟨rfl, hb1⟩; obtain ⟨b1, d1, rfl⟩ := of_below hb1; clear hb1))
    · go_returns
      refine ⟨rb ?_, by (repeat' (first | (with_reducible exact Below.refl _ _) | (with_reducible refine Below.app ?_ ?_ _ _) | (with_reducible refine Below.alloc ?_ ?_ _) | (with_reducible refine Below.drew ?_) | (with_reducible refine Below.setCell ?_ ?_ _) | (with_reducible assumption) | omega | (simp; omega) | (simp; done)))⟩
      have hr1 := hr1.out
      rw [hE.out, hmid.out, hr1]
      simp_all
    · go_roundw
      case rel => exact ⟨k + 1, by omega, by go_num, (by have hr1 := hr1.out; unfold Hid; simp_all), ext_of (by (repeat' (first | (with_reducible exact Below.refl _ _) | (with_reducible refine Below.app ?_ ?_ _ _) | (with_reducible refine Below.alloc ?_ ?_ _) | (with_reducible refine Below.drew ?_) | (with_reducible refine Below.setCell ?_ ?_ _) | (with_reducible assumption) | omega | (simp; omega) | (simp; done))))⟩
      case measure => simp [intOf]; omega
  · have hd : sts.drop k = [] := List.drop_of_length_le (by omega)
    have h1 := hr.out
    rw [hd] at h1
    replace h1 := Lib.hid h1
    go_wp2
    go_returns
    exact ⟨rb (by rw [hE.out, hmid.out, h1.out]; rfl), by (repeat' (first | (with_reducible exact Below.refl _ _) | (with_reducible refine Below.app ?_ ?_ _ _) | (with_reducible refine Below.alloc ?_ ?_ _) | (with_reducible refine Below.drew ?_) | (with_reducible refine Below.setCell ?_ ?_ _) | (with_reducible assumption) | omega | (simp; omega) | (simp; done)))⟩
end Go.Proofs.YteahkgbnfbjkhaaGreatDoor
