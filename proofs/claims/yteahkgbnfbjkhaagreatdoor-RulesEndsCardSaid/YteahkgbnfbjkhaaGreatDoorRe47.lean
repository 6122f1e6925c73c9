/-
  EnvG.
-/
import Derived.Test.YteahkgbnfbjkhaaGreatDoorRe41
import Derived.Test.YteahkgbnfbjkhaaGreatDoorRe46
import Derived.Maps.OwnOps
import Derived.Maps.Views
import Derived.OwnWalk
set_option maxRecDepth 20000
set_option linter.unusedVariables false
set_option linter.unusedSimpArgs false
set_option linter.unusedSectionVars false
namespace Go.Proofs.YteahkgbnfbjkhaaGreatDoor
open Go.ChangeShapes Go.WideShapes Go.ChangeAt Go.RowKit Go.Maps
theorem keyInt15 : Keyed Tryz.prog 3 := int_keyed Tryz.underlying3
theorem zeroInt15 (w : World) : (zeroValue 3).run Tryz.prog w = .ok (.int .i64 0) w := by kernel_rfl
theorem wf_of {u : Int} (h1 : -9223372036854775808 ≤ u) (h2 : u ≤ 9223372036854775807) : (Lit.int .i64 u).wf = true := WalkArith.wf_i64 (by omega)
theorem key_of {u : Int} (h1 : -9223372036854775808 ≤ u) (h2 : u ≤ 9223372036854775807) : keyOf Tryz.prog 3 (.int .i64 u) = some (.int .i64 u) := keyOf_int_mk Tryz.underlying3 (wf_of h1 h2)
abbrev Has15 (W : World) (B k : Nat) (D : DataW Unit) : Prop := W.ownsMap Tryz.prog 3 (plainElem Tryz.prog 3) B k D
theorem map_below {W w' : World} {B k : Nat} {D : DataW Unit} (h : Has15 W B k D) (hb : Below W.heap.size W w') : Has15 w' B k D :=
 h.kept (row := none) ⟨hb.os, hb.tape, hb.output, hb.size, fun k hk _ => hb.block k hk⟩ (by simp)
theorem map_new15 (W : World) (g : Nat) (hg : g = W.heap.size) : Has15 (W.alloc (.map #[] 0)) g 0 (.map []) := by
 subst hg; exact World.ownsMap_made W Tryz.prog 3 (plainElem (H := Unit) Tryz.prog 3)
theorem key_lit (u : Int) : WideAt.IsKeyLit (.int .i64 u) := trivial
def Met (D : DataW Unit) (l : List Int) : Prop := IsMap D ∧ ∀ u : Int, D.atKey (.int .i64 u) (.lit (.int .i64 0)) = .lit (.int .i64 (if l.contains u then 1 else 0))
theorem Met.start : Met (.map []) [] := ⟨isMap_empty, fun _ => rfl⟩
theorem Met.at {D : DataW Unit} {l : List Int} (h : Met D l) {u c : Int} (hc : D.atKey (.int .i64 u) (.lit (.int .i64 0)) = .lit (.int .i64 c)) : c = if l.contains u then 1 else 0 := by
 rw [h.2 u] at hc; cases hc; rfl
theorem Met.same {D : DataW Unit} {l : List Int} (h : Met D l) {u c n : Int} (hc : (D.put (.int .i64 u) (.lit (.int .i64 n))).atKey (.int .i64 u) (.lit (.int .i64 0)) = .lit (.int .i64 c)) : c = n := by
 rw [atKey_put_same h.1 (key_lit u)] at hc; cases hc; rfl
theorem Met.put {D : DataW Unit} {l : List Int} (h : Met D l) {u : Int} : Met (D.put (.int .i64 u) (.lit (.int .i64 1))) (l ++ [u]) := by
 refine ⟨h.1.put _ _, fun v => ?_⟩
 by_cases e : v = u
 · subst e
   rw [atKey_put_same h.1 (key_lit v)]
   simp
 · rw [atKey_put_other (fun hh => e (by cases hh; rfl)), h.2 v]
   simp [e]
def RelE (tos : List TV) (R : Bool) (w : World) (B : Nat) (i : Value) (wr : World) : Prop :=
 ∃ (k : Nat) (D : DataW Unit), k ≤ tos.length ∧ i = .int .i64 k ∧ Has15 wr B k D ∧ Met D ((tos.take k).map (·.user)) ∧ Hid (R = tosB ((tos.take k).map (·.user)) (tos.drop k)) ∧ w.heap.size ≤ B ∧ Below w.heap.size w wr
theorem take_map_succ {tos : List TV} {k : Nat} (h : k < tos.length) {u : Int} (hu : (tos[k]'h).user = u) : (tos.take (k + 1)).map (·.user) = (tos.take k).map (·.user) ++ [u] := by
 rw [List.take_succ_eq_append_getElem h, List.map_append, List.map_cons, List.map_nil, hu]
set_option maxHeartbeats 4000000 in
theorem goodEnv_calls {w : World} (j : JV) (q : JP) (h : JobAt w j q) (hl : lightB j = true) : Calls Tryz.prog 82 #[.agg (j.cells q)] w fun r w' => r = .returned (.bool (envB j)) ∧ Below w.heap.size w w' := by
  obtain ⟨hto, -, -, -, -, -, -, -⟩ := h
  obtain ⟨⟨nt, -, -, nL, nD⟩, hsz⟩ := light_parts hl
  clear hl
  obtain ⟨id, arr, fL, fD, tos, sts, body⟩ := j
  obtain ⟨p4, c4, p5, c5, p6, c6⟩ := q
  unfold JV.cells envB
  dsimp only at *
  have kf := fun W => good_calls fL fD (by omega) (by omega) W
  unfold fromB null27B
  generalize goodB fL fD = G at kf ⊢
  have hR0 : Hid (tosB [] tos = tosB ((tos.take 0).map (·.user)) (tos.drop 0)) := rfl
  generalize tosB [] tos = R at *
  replace hto := Lib.hid hto
  replace kf := Lib.hid kf
  have hmm := @run_makeMap Tryz.prog
  go_enter Tryz.func82, Tryz.ntmps82
  go_wp2_with first
    | (go_at_call 144; ((refine (ewithin_calls _ _ _ _).mono ?_); rintro r w1 ⟨rfl, rfl⟩))
    | (go_at_call 66; ((with_reducible refine (kf.out _).mono ?_); rintro r w1 ⟨rfl, hb1⟩; obtain ⟨b1, d1, rfl⟩ := of_below hb1; clear hb1))
  all_goals first
    | (go_returns; refine ⟨rb ?_, by (repeat' (first | (with_reducible exact Below.refl _ _) | (with_reducible refine Below.app ?_ ?_ _ _) | (with_reducible refine Below.alloc ?_ ?_ _) | (with_reducible refine Below.drew ?_) | (with_reducible refine Below.setCell ?_ ?_ _) | (with_reducible assumption) | omega | (simp; omega) | (simp; done)))⟩; simp_all; done)
    | skip
  all_goals
    (try simp only [Bool.not_eq_false'] at *)
    (try (rename G = true => hG; simp only [hG]))
    (try (rename inB (tos.length : Int) 1 20 = true => hI; simp only [hI]))
    (try simp only [Bool.not_true, Bool.not_false, Bool.and_false, Bool.and_true, Bool.false_and, Bool.true_and])
    have hpre : (inB id 1 1099511627776 && (inB arr 0 4503599627370496 && (inB tos.length 1 20 && ((fL.toList.isEmpty && fD.toList.isEmpty) || G)))) = true := by simp_all
    have hout : ∀ x : Bool, (inB id 1 1099511627776 && (inB arr 0 4503599627370496 && (inB tos.length 1 20 && (((fL.toList.isEmpty && fD.toList.isEmpty) || G) && x)))) = x := fun x => by
      simp only [Bool.and_eq_true] at hpre
      obtain ⟨h1, h2, h3, h4⟩ := hpre
      rw [h1, h2, h3, h4]; simp
    replace hout := Lib.hid hout
    clear hpre kf
    first
      | go_loopw [37] (fun i wr => RelE tos R w (w.heap.size + 1 + b1.size) i wr) (fun i _ => tos.length - (intOf i).toNat)
      | go_loopw [37] (fun i wr => RelE tos R w (w.heap.size + 1) i wr) (fun i _ => tos.length - (intOf i).toNat)
    case atStart => exact ⟨0, .map [], by omega, rfl, map_new15 _ _ (by simp), Met.start, hR0, by omega, by (repeat' (first | (with_reducible exact Below.refl _ _) | (with_reducible refine Below.app ?_ ?_ _ _) | (with_reducible refine Below.alloc ?_ ?_ _) | (with_reducible refine Below.drew ?_) | (with_reducible refine Below.setCell ?_ ?_ _) | (with_reducible assumption) | omega | (simp; omega) | (simp; done)))⟩
    case round =>
      obtain ⟨k, D, hk, rfl, hown, hmet, hr, hB, hX⟩ := hrel
      clear hR0
      by_cases hlt : k < tos.length
      · obtain ⟨b, off, cs, rfl, hb, hcl, hc, rfl, -, hu1, hu2⟩ := (Shows.below (R := IsTgt) stays_tgt hto.out hX) k hlt
        have e0 := hc 0 (by omega)
        have e1 := hc 1 (by omega)
        have e2 := hc 2 (by omega)
        clear hc
        simp at e0 e1 e2
        obtain ⟨s1, s2⟩ := hsz k hlt
        have kt := fun W => good_calls (tos[k]'hlt).L (tos[k]'hlt).D (by omega) (by omega) W
        have hs := hr.out
        rw [tosB_at tos k hlt] at hs
        have htk := take_map_succ hlt (u := (tos[k]'hlt).user) rfl
        unfold tgtB at hs
        generalize hT : tos[k] = t at *
        obtain ⟨u, tL, tD⟩ := t
        dsimp only at *
        have hkey := key_of hu1 hu2
        generalize goodB tL tD = G2 at *
        have hBlt := hown.lt
        have hmat : ∀ c : Int, D.atKey (.int .i64 u) (.lit (.int .i64 0)) = .lit (.int .i64 c) → c = bif (List.map (fun x => x.user) (List.take k tos)).contains u then 1 else 0 := fun c hc => (hmet.at hc).trans (by cases (List.map (fun x => x.user) (List.take k tos)).contains u <;> rfl)
        cases hM : (List.map (fun x => x.user) (List.take k tos)).contains u
        all_goals
          rw [hM] at hs hmat
          simp only [cond_true, cond_false] at hmat
          replace hmat := Lib.hid hmat
          replace hs := Lib.hid hs
          replace htk := Lib.hid htk
          replace hmet := Lib.hid hmet
          replace hM := Lib.hid hM
          replace kt := Lib.hid kt
          clear hr hsz hto hT
          go_wp2_with first
            | (go_at_call 144; ((refine (ewithin_calls _ _ _ _).mono ?_); rintro r w1 ⟨rfl, rfl⟩))
            | (go_at_call 66; ((with_reducible refine (kt.out _).mono ?_); rintro r w2 ⟨rfl, hb1⟩; have hown2 := map_below hown1 hb1; have hX2 := hX1.trans (hb1.mono hX1.size); clear hb1))
            | (at_lookup; refine wpList_lookup_own_int _ rfl _ _ 125 rfl 3 3 .i64 keyInt15 Tryz.underlying125 Tryz.underlying3 (zeroInt15 _) _ (k + 1) _ rfl hown1 _ _ rfl hkey ?_; intro c hat _; obtain rfl := hmet.out.same hat; clear hat)
            | (at_lookup; refine wpList_lookup_own_int _ rfl _ _ 125 rfl 3 3 .i64 keyInt15 Tryz.underlying125 Tryz.underlying3 (zeroInt15 _) _ k _ rfl (hown.alloc _) _ _ rfl hkey ?_; intro c hat _; obtain rfl := hmat.out c hat; clear hat)
            | (at_mapUpdate; refine wpList_mapUpdate_own _ rfl _ _ _ 125 rfl 3 3 keyInt15 Tryz.underlying125 _ _ k _ rfl (hown.alloc _) (by unfold maxLen; omega) _ _ _ rfl rfl hkey _ [] (plainElem_int Tryz.underlying3 (by decide)) ?_; intro w1 hown1 hg; have q0 : w1.cell? ⟨wr.heap.size, 0, none⟩ = some (.int .i64 u) := hg.cell (by rw [World.cell?_alloc_mark]; rfl) (fun e => by injection e with e; have e' : wr.heap.size = _ := e; omega); have q1 : w1.cell? ⟨wr.heap.size, 1, none⟩ = some (.string tL) := hg.cell (by rw [World.cell?_alloc_mark]; rfl) (fun e => by injection e with e; have e' : wr.heap.size = _ := e; omega); have q2 : w1.cell? ⟨wr.heap.size, 2, none⟩ = some (.string tD) := hg.cell (by rw [World.cell?_alloc_mark]; rfl) (fun e => by injection e with e; have e' : wr.heap.size = _ := e; omega); have hlt1 : wr.heap.size < w1.heap.size := by { have := hg.size; simp at this; omega }; have hX1 : Below w.heap.size w w1 := (hX.alloc hX.size _).grown hg (by have := hX.size; simp; omega) (fun j hj => by cases hj; exact hB); clear hg)
          all_goals first
            | (go_returns; refine ⟨rb ?_, by first | exact hX2 | exact hX1⟩; (try rw [hout.out]); rw [hs.out]; simp_all; done)
            | (go_roundw
               case rel => exact ⟨k + 1, _, by omega, by go_num, hown2, (by rw [htk.out]; exact hmet.out.put), (by have hs := hs.out; unfold Hid; simp_all), hB, hX2⟩
               case measure => simp [intOf]; omega)
            | skip
      · have hd : tos.drop k = [] := List.drop_of_length_le (by omega)
        have hR2 := hr.out
        rw [hd] at hR2
        replace hR2 : Hid (R = true) := hR2
        clear hr hsz hmet hown
        go_wp2
        go_returns
        refine ⟨rb ?_, by first | exact hX | (repeat' (first | (with_reducible exact Below.refl _ _) | (with_reducible refine Below.app ?_ ?_ _ _) | (with_reducible refine Below.alloc ?_ ?_ _) | (with_reducible refine Below.drew ?_) | (with_reducible refine Below.setCell ?_ ?_ _) | (with_reducible assumption) | omega | (simp; omega) | (simp; done)))⟩
        first | rw [hout.out, hR2.out] | rw [hR2.out]
end Go.Proofs.YteahkgbnfbjkhaaGreatDoor
