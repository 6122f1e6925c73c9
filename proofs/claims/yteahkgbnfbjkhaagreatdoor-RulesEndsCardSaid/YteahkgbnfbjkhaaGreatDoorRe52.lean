/-
  RulesEndsM.
-/
import Derived.Test.YteahkgbnfbjkhaaGreatDoorRe51
set_option maxRecDepth 20000
set_option linter.unusedVariables false
set_option linter.unusedSimpArgs false
set_option linter.unusedSectionVars false
namespace Go.Proofs.YteahkgbnfbjkhaaGreatDoor
open Go.ChangeShapes Go.WideShapes Go.ChangeAt Go.RowKit
theorem infoState27 : (Tryz.prog.info? 37).map (fun i => (i.zero, i.size, i.bytes)) = some (some (.agg #[.int .i64 0, .int .i64 0, .int .i64 0, .int .i64 0]), 4, 32) := by kernel_rfl
set_option maxRecDepth 20000 in
set_option maxHeartbeats 8000000 in
theorem ends_first {w : World} {host : ByteArray} {j : JV} {q : JP} {pz : Option Addr} {zs : List Int} {cz k : Nat} {ex e : Int} (hj : JobAt w j q) (hl : lightB j = true) (hz : IntsAt w pz zs) (hzl : zs.length ≤ 9223372036854775807) (hw : LibAt w) (ha : Asked27 host j zs ex k e) (t1 : zs.getD 0 0 < ex / 100) :
 Calls Tryz.prog 3 #[.string host, .agg #[.slice pz zs.length cz, .int .i64 ex], .agg (j.cells q), .int .i64 k, .int .i64 e] w fun r w' => r = .returned (.bool true) ∧ Below w.heap.size w w' := by
 have kl := fun W (hW : Below w.heap.size w W) => light_calls j q (hj.below hW)
 rw [hl] at kl
 have kg := fun W (hW : Below w.heap.size w W) => rgoodJob_calls j q (hj.below hW) hl
 have ks := fun W (hW : Below w.heap.size w W) => srgood_calls pz zs cz ex W (Lib.hid (hz.below hW (Nat.le_refl _))) hzl
 have ha0 := ha
 obtain ⟨a1, a2, a3, a4, a5, a6, a7⟩ := ha
 rw [a1] at kg
 rw [a2] at ks
 have hex := good_parts a2
 obtain ⟨-, z1, z2, z3, z4⟩ := hex
 have hc0 := hz 0 (by omega)
 have hc1 := hz (zs.length - 1) (by omega)
 obtain ⟨zb, zo, rfl, hzb, c0⟩ := hc0
 obtain ⟨zb', zo', e', hzb', c1⟩ := hc1
 cases e'
 rw [Nat.add_zero] at c0
 have e1 : ((zs.length : Int) - 1).toNat = zs.length - 1 := by omega
 have hkt : k < j.tos.length := by omega
 obtain ⟨⟨nt, nst, _⟩, _⟩ := light_parts hl
 have hks : k < j.sts.length := by have := (jobB_id a1).2.2.2; omega
 have h0 : (e == 0) = false := by simpa using a6
 generalize hz0 : zs.getD 0 0 = zf at *
 generalize hzl0 : zs.getD (zs.length - 1) 0 = zl at *
 clear hj hz hw
 obtain ⟨id, arr, fL, fD, tos, sts, body⟩ := j
 obtain ⟨p4, c4, p5, c5, p6, c6⟩ := q
 unfold JV.cells at *
 dsimp only at *
 replace kl := Lib.hid kl
 replace kg := Lib.hid kg
 replace ks := Lib.hid ks
 go_enter Tryz.func3, Tryz.ntmps3
 go_wp2_with first
  | (go_at_call 8; ((refine (awake27 _).mono ?_); rintro r w1 ⟨rfl, hb⟩; obtain ⟨b1, b1d, rfl⟩ := of_below hb; clear hb))
  | (go_at_call 9; ((with_reducible refine (kl.out _ (by (repeat' (first | (with_reducible exact Below.refl _ _) | (with_reducible refine Below.app ?_ ?_ _ _) | (with_reducible refine Below.alloc ?_ ?_ _) | (with_reducible refine Below.drew ?_) | (with_reducible refine Below.setCell ?_ ?_ _) | (with_reducible assumption) | omega | (simp; omega) | (simp; done))))).mono ?_); rintro r w1 ⟨rfl, hb1⟩; obtain ⟨b2, d2, rfl⟩ := of_below hb1; clear hb1))
  | (go_at_call 10; ((with_reducible refine (kg.out _ (by (repeat' (first | (with_reducible exact Below.refl _ _) | (with_reducible refine Below.app ?_ ?_ _ _) | (with_reducible refine Below.alloc ?_ ?_ _) | (with_reducible refine Below.drew ?_) | (with_reducible refine Below.setCell ?_ ?_ _) | (with_reducible assumption) | omega | (simp; omega) | (simp; done))))).mono ?_); rintro r w1 ⟨rfl, hb1⟩; obtain ⟨b3, d3, rfl⟩ := of_below hb1; clear hb1))
  | (go_at_call 11; ((with_reducible refine (ks.out _ (by (repeat' (first | (with_reducible exact Below.refl _ _) | (with_reducible refine Below.app ?_ ?_ _ _) | (with_reducible refine Below.alloc ?_ ?_ _) | (with_reducible refine Below.drew ?_) | (with_reducible refine Below.setCell ?_ ?_ _) | (with_reducible assumption) | omega | (simp; omega) | (simp; done))))).mono ?_); rintro r w1 ⟨rfl, hb1⟩; obtain ⟨b4, d4, rfl⟩ := of_below hb1; clear hb1))
 (apply wp_region_text 22; kernel_rfl; kernel_rfl; intro Fin hFin; (repeat (first | (apply text_run; exact rfl; (focus (intro bs d hF K hK; (repeat rw [app_app] at hK); (repeat rw [app_app]); (repeat rw [Array.append_assoc] at hK); (repeat rw [Array.append_assoc]); go_step; first   | (refine hK _ ?_; (repeat' (first | (with_reducible exact Below.refl _ _) | (with_reducible refine Below.app ?_ ?_ _ _) | (with_reducible refine Below.alloc ?_ ?_ _) | (with_reducible refine Below.drew ?_) | (with_reducible refine Below.setCell ?_ ?_ _) | (with_reducible assumption) | omega | (simp; omega) | (simp; done)))))); (try simp only [Act.put, List.setIfInBounds_toArray, List.set_cons_zero, List.set_cons_succ])) | (apply text_skip; exact rfl; (try simp only [Act.put, List.setIfInBounds_toArray, List.set_cons_zero, List.set_cons_succ])))); apply text_end; apply hFin; clear hFin Fin; intro bs d hfa)
 go_wp2
 go_returns
 exact ⟨rfl, by (repeat' (first | (with_reducible exact Below.refl _ _) | (with_reducible refine Below.app ?_ ?_ _ _) | (with_reducible refine Below.alloc ?_ ?_ _) | (with_reducible refine Below.drew ?_) | (with_reducible refine Below.setCell ?_ ?_ _) | (with_reducible assumption) | omega | (simp; omega) | (simp; done)))⟩
set_option maxRecDepth 20000 in
set_option maxHeartbeats 8000000 in
theorem ends_last {w : World} {host : ByteArray} {j : JV} {q : JP} {pz : Option Addr} {zs : List Int} {cz k : Nat} {ex e : Int} (hj : JobAt w j q) (hl : lightB j = true) (hz : IntsAt w pz zs) (hzl : zs.length ≤ 9223372036854775807) (hw : LibAt w) (ha : Asked27 host j zs ex k e) (t1 : ¬ zs.getD 0 0 < ex / 100) (t2 : zs.getD (zs.length - 1) 0 < ex / 100) :
 Calls Tryz.prog 3 #[.string host, .agg #[.slice pz zs.length cz, .int .i64 ex], .agg (j.cells q), .int .i64 k, .int .i64 e] w fun r w' => r = .returned (.bool true) ∧ Below w.heap.size w w' := by
 have kl := fun W (hW : Below w.heap.size w W) => light_calls j q (hj.below hW)
 rw [hl] at kl
 have kg := fun W (hW : Below w.heap.size w W) => rgoodJob_calls j q (hj.below hW) hl
 have ks := fun W (hW : Below w.heap.size w W) => srgood_calls pz zs cz ex W (Lib.hid (hz.below hW (Nat.le_refl _))) hzl
 have ha0 := ha
 obtain ⟨a1, a2, a3, a4, a5, a6, a7⟩ := ha
 rw [a1] at kg
 rw [a2] at ks
 have hex := good_parts a2
 obtain ⟨-, z1, z2, z3, z4⟩ := hex
 have hc0 := hz 0 (by omega)
 have hc1 := hz (zs.length - 1) (by omega)
 obtain ⟨zb, zo, rfl, hzb, c0⟩ := hc0
 obtain ⟨zb', zo', e', hzb', c1⟩ := hc1
 cases e'
 rw [Nat.add_zero] at c0
 have e1 : ((zs.length : Int) - 1).toNat = zs.length - 1 := by omega
 have hkt : k < j.tos.length := by omega
 obtain ⟨⟨nt, nst, _⟩, _⟩ := light_parts hl
 have hks : k < j.sts.length := by have := (jobB_id a1).2.2.2; omega
 have h0 : (e == 0) = false := by simpa using a6
 generalize hz0 : zs.getD 0 0 = zf at *
 generalize hzl0 : zs.getD (zs.length - 1) 0 = zl at *
 clear hj hz hw
 obtain ⟨id, arr, fL, fD, tos, sts, body⟩ := j
 obtain ⟨p4, c4, p5, c5, p6, c6⟩ := q
 unfold JV.cells at *
 dsimp only at *
 replace kl := Lib.hid kl
 replace kg := Lib.hid kg
 replace ks := Lib.hid ks
 go_enter Tryz.func3, Tryz.ntmps3
 go_wp2_with first
  | (go_at_call 8; ((refine (awake27 _).mono ?_); rintro r w1 ⟨rfl, hb⟩; obtain ⟨b1, b1d, rfl⟩ := of_below hb; clear hb))
  | (go_at_call 9; ((with_reducible refine (kl.out _ (by (repeat' (first | (with_reducible exact Below.refl _ _) | (with_reducible refine Below.app ?_ ?_ _ _) | (with_reducible refine Below.alloc ?_ ?_ _) | (with_reducible refine Below.drew ?_) | (with_reducible refine Below.setCell ?_ ?_ _) | (with_reducible assumption) | omega | (simp; omega) | (simp; done))))).mono ?_); rintro r w1 ⟨rfl, hb1⟩; obtain ⟨b2, d2, rfl⟩ := of_below hb1; clear hb1))
  | (go_at_call 10; ((with_reducible refine (kg.out _ (by (repeat' (first | (with_reducible exact Below.refl _ _) | (with_reducible refine Below.app ?_ ?_ _ _) | (with_reducible refine Below.alloc ?_ ?_ _) | (with_reducible refine Below.drew ?_) | (with_reducible refine Below.setCell ?_ ?_ _) | (with_reducible assumption) | omega | (simp; omega) | (simp; done))))).mono ?_); rintro r w1 ⟨rfl, hb1⟩; obtain ⟨b3, d3, rfl⟩ := of_below hb1; clear hb1))
  | (go_at_call 11; ((with_reducible refine (ks.out _ (by (repeat' (first | (with_reducible exact Below.refl _ _) | (with_reducible refine Below.app ?_ ?_ _ _) | (with_reducible refine Below.alloc ?_ ?_ _) | (with_reducible refine Below.drew ?_) | (with_reducible refine Below.setCell ?_ ?_ _) | (with_reducible assumption) | omega | (simp; omega) | (simp; done))))).mono ?_); rintro r w1 ⟨rfl, hb1⟩; obtain ⟨b4, d4, rfl⟩ := of_below hb1; clear hb1))
 have t1' : decide (zf < ex / 100) = false := decide_eq_false (by omega)
 (apply wp_region_text 22; kernel_rfl; kernel_rfl; intro Fin hFin; (repeat (first | (apply text_run; exact rfl; (focus (intro bs d hF K hK; (repeat rw [app_app] at hK); (repeat rw [app_app]); (repeat rw [Array.append_assoc] at hK); (repeat rw [Array.append_assoc]); go_step; first   | (refine hK _ ?_; (repeat' (first | (with_reducible exact Below.refl _ _) | (with_reducible refine Below.app ?_ ?_ _ _) | (with_reducible refine Below.alloc ?_ ?_ _) | (with_reducible refine Below.drew ?_) | (with_reducible refine Below.setCell ?_ ?_ _) | (with_reducible assumption) | omega | (simp; omega) | (simp; done)))))); (try simp only [Act.put, List.setIfInBounds_toArray, List.set_cons_zero, List.set_cons_succ])) | (apply text_skip; exact rfl; (try simp only [Act.put, List.setIfInBounds_toArray, List.set_cons_zero, List.set_cons_succ])))); apply text_end; apply hFin; clear hFin Fin; intro bs d hfa)
 go_wp2
 go_returns
 exact ⟨rfl, by (repeat' (first | (with_reducible exact Below.refl _ _) | (with_reducible refine Below.app ?_ ?_ _ _) | (with_reducible refine Below.alloc ?_ ?_ _) | (with_reducible refine Below.drew ?_) | (with_reducible refine Below.setCell ?_ ?_ _) | (with_reducible assumption) | omega | (simp; omega) | (simp; done)))⟩
theorem own_zero27 {w : World} {B g : Nat} (hg : g = w.heap.size) (hB : B ≤ w.heap.size) : (w.alloc (.cells #[] 37)).ownsRow B 37 4 (.slice (some ⟨g, 0, none⟩) 0 0) 0 [] := by
 subst hg
 exact World.ownsRow_made w #[] 0 hB (by unfold maxLen; omega) rfl
theorem ba_nil {x : ByteArray} (h : x.toList = []) : x = ⟨#[]⟩ := by
 have h1 : x.toList = x.data.toList := ByteArray.toList_mk x.data.toList
 rw [h1] at h
 cases x with
 | mk d => exact congrArg ByteArray.mk (Array.toList_eq_nil_iff.1 h)
theorem below_of_app {w W : World} (h : Below w.heap.size w W) : Below w.heap.size w W := h
set_option maxRecDepth 20000 in
set_option maxHeartbeats 8000000 in
theorem ends_main {w : World} {host : ByteArray} {j : JV} {q : JP} {pz : Option Addr} {zs : List Int} {cz k : Nat} {ex e : Int} (hj : JobAt w j q) (hl : lightB j = true) (hz : IntsAt w pz zs) (hzl : zs.length ≤ 9223372036854775807) (hw : LibAt w) (ha : Asked27 host j zs ex k e) (t1 : ¬ zs.getD 0 0 < ex / 100) (t2 : ¬ zs.getD (zs.length - 1) 0 < ex / 100) :
 Calls Tryz.prog 3 #[.string host, .agg #[.slice pz zs.length cz, .int .i64 ex], .agg (j.cells q), .int .i64 k, .int .i64 e] w fun r w' => r = .returned (.bool true) ∧ Below w.heap.size w w' := by
 have hfull : ∀ {X : World} {g : Nat}, Below w.heap.size w X → w.heap.size ≤ g → g < X.heap.size → Ringed w host j q k g pz zs ex X := fun hX hg hgX => ⟨hj, hl, ha.1, by have := ha.2.2.2.1; omega, ha.2.2.2.2.2.2, hw, hz, hzl, ha.2.1, by omega, ha.2.2.2.2.1, hX, hg, hgX⟩
 have kl := fun W (hW : Below w.heap.size w W) => light_calls j q (hj.below hW)
 rw [hl] at kl
 have kg := fun W (hW : Below w.heap.size w W) => rgoodJob_calls j q (hj.below hW) hl
 have ks := fun W (hW : Below w.heap.size w W) => srgood_calls pz zs cz ex W (Lib.hid (hz.below hW (Nat.le_refl _))) hzl
 have ha0 := ha
 obtain ⟨a1, a2, a3, a4, a5, a6, a7⟩ := ha
 rw [a1] at kg
 rw [a2] at ks
 have hex := good_parts a2
 obtain ⟨-, z1, z2, z3, z4⟩ := hex
 have hc0 := hz 0 (by omega)
 have hc1 := hz (zs.length - 1) (by omega)
 obtain ⟨zb, zo, rfl, hzb, c0⟩ := hc0
 obtain ⟨zb', zo', e', hzb', c1⟩ := hc1
 cases e'
 rw [Nat.add_zero] at c0
 have e1 : ((zs.length : Int) - 1).toNat = zs.length - 1 := by omega
 have hkt : k < j.tos.length := by omega
 obtain ⟨⟨nt, nst, _⟩, _⟩ := light_parts hl
 have hks : k < j.sts.length := by have := (jobB_id a1).2.2.2; omega
 have h0 : (e == 0) = false := by simpa using a6
 generalize hz0 : zs.getD 0 0 = zf at *
 generalize hzl0 : zs.getD (zs.length - 1) 0 = zl at *
 obtain ⟨sb, so, scs, hp5, hsb, -, -, -, -⟩ := hj.sts k hks
 have hsts := hj.sts
 rw [hp5] at hsts
 have hsc := Lib.hid (fun W (hW : Below w.heap.size w W) => shows_cells (Shows.below (R := IsState) stays_state hsts hW))
 obtain ⟨i0, hi, hy0, hy1, hy2⟩ := info_parts infoState27
 have harr := (jobB_id a1).2.2.1
 obtain ⟨id, arr, fL, fD, tos, sts, body⟩ := j
 obtain ⟨p4, c4, p5, c5, p6, c6⟩ := q
 unfold JV.cells at *
 dsimp only at *
 subst hp5
 replace kl := Lib.hid kl
 replace kg := Lib.hid kg
 replace ks := Lib.hid ks
 go_enter Tryz.func3, Tryz.ntmps3
 go_wp2_with first
  | (go_at_call 8; ((refine (awake27 _).mono ?_); rintro r w1 ⟨rfl, hb⟩; obtain ⟨b1, b1d, rfl⟩ := of_below hb; clear hb))
  | (go_at_call 9; ((with_reducible refine (kl.out _ (by (repeat' (first | (with_reducible exact Below.refl _ _) | (with_reducible refine Below.app ?_ ?_ _ _) | (with_reducible refine Below.alloc ?_ ?_ _) | (with_reducible refine Below.drew ?_) | (with_reducible refine Below.setCell ?_ ?_ _) | (with_reducible assumption) | omega | (simp; omega) | (simp; done))))).mono ?_); rintro r w1 ⟨rfl, hb1⟩; obtain ⟨b2, d2, rfl⟩ := of_below hb1; clear hb1))
  | (go_at_call 10; ((with_reducible refine (kg.out _ (by (repeat' (first | (with_reducible exact Below.refl _ _) | (with_reducible refine Below.app ?_ ?_ _ _) | (with_reducible refine Below.alloc ?_ ?_ _) | (with_reducible refine Below.drew ?_) | (with_reducible refine Below.setCell ?_ ?_ _) | (with_reducible assumption) | omega | (simp; omega) | (simp; done))))).mono ?_); rintro r w1 ⟨rfl, hb1⟩; obtain ⟨b3, d3, rfl⟩ := of_below hb1; clear hb1))
  | (go_at_call 11; ((with_reducible refine (ks.out _ (by (repeat' (first | (with_reducible exact Below.refl _ _) | (with_reducible refine Below.app ?_ ?_ _ _) | (with_reducible refine Below.alloc ?_ ?_ _) | (with_reducible refine Below.drew ?_) | (with_reducible refine Below.setCell ?_ ?_ _) | (with_reducible assumption) | omega | (simp; omega) | (simp; done))))).mono ?_); rintro r w1 ⟨rfl, hb1⟩; obtain ⟨b4, d4, rfl⟩ := of_below hb1; clear hb1))
 have t1' : decide (zf < ex / 100) = false := decide_eq_false (by omega)
 have t2' : decide (zl < ex / 100) = false := decide_eq_false (by omega)
 (apply wp_region_text 22; kernel_rfl; kernel_rfl; intro Fin hFin; (repeat (first | (apply text_run; exact rfl; (focus (intro bs d hF K hK; (repeat rw [app_app] at hK); (repeat rw [app_app]); (repeat rw [Array.append_assoc] at hK); (repeat rw [Array.append_assoc]); go_step; first   | (refine hK _ ?_; (repeat' (first | (with_reducible exact Below.refl _ _) | (with_reducible refine Below.app ?_ ?_ _ _) | (with_reducible refine Below.alloc ?_ ?_ _) | (with_reducible refine Below.drew ?_) | (with_reducible refine Below.setCell ?_ ?_ _) | (with_reducible assumption) | omega | (simp; omega) | (simp; done)))))); (try simp only [Act.put, List.setIfInBounds_toArray, List.set_cons_zero, List.set_cons_succ])) | (apply text_skip; exact rfl; (try simp only [Act.put, List.setIfInBounds_toArray, List.set_cons_zero, List.set_cons_succ])))); apply text_end; apply hFin; clear hFin Fin; intro bs d hfa)
 clear kl kg ks
 go_wp2_with first
  | (at_builtin; refine wpList_append_own _ rfl _ _ 28 rfl (w.heap.size + 2) 37 i0 _ 4 32 Tryz.underlying28 hi hy0 hy1 hy2 rfl (by decide) _ 0 [] rfl (own_zero27 (by simp) (by first | (simp; done) | (simp; omega))) ⟨sb, so, none⟩ sts.length c5 (stsCells sts) rfl (stsCells_len _) (hsc.out _ (by (repeat' (first | (with_reducible exact Below.refl _ _) | (with_reducible refine Below.app ?_ ?_ _ _) | (with_reducible refine Below.alloc ?_ ?_ _) | (with_reducible refine Below.drew ?_) | (with_reducible refine Below.setCell ?_ ?_ _) | (with_reducible assumption) | omega | (simp; omega) | (simp; done))))) (sts_one _) (by unfold maxLen; omega) (by omega) (by first | (simp; done) | (simp; omega)) ?_; intro v1 w2 hrow hgr0 _; obtain ⟨B0, hB0, hgr⟩ : ∃ B0, w.heap.size + 2 ≤ B0 ∧ World.grownBy _ w2 (some B0) := (by refine ⟨_, ?_, hgr0⟩; first | (simp; done) | (simp; omega)); clear hgr0; rw [Nat.zero_add, List.nil_append] at hrow; obtain ⟨g, cap, rfl, hBg, hgl, hst⟩ := own_sts hrow (by omega); clear hrow; have x0 : w2.cell? ⟨w.heap.size + 1, 0, none⟩ = some (.int .i64 id) := hgr.cell (by go_simp) (by intro hE; injection hE with hE; have hE2 : w.heap.size + 1 = _ := hE; omega); have x1 : w2.cell? ⟨w.heap.size + 1, 1, none⟩ = some (.int .i64 arr) := hgr.cell (by go_simp) (by intro hE; injection hE with hE; have hE2 : w.heap.size + 1 = _ := hE; omega); have x2 : w2.cell? ⟨w.heap.size + 1, 2, none⟩ = some (.string fL) := hgr.cell (by go_simp) (by intro hE; injection hE with hE; have hE2 : w.heap.size + 1 = _ := hE; omega); have x3 : w2.cell? ⟨w.heap.size + 1, 3, none⟩ = some (.string fD) := hgr.cell (by go_simp) (by intro hE; injection hE with hE; have hE2 : w.heap.size + 1 = _ := hE; omega); have x4 : w2.cell? ⟨w.heap.size + 1, 4, none⟩ = some (.slice p4 tos.length c4) := hgr.cell (by go_simp) (by intro hE; injection hE with hE; have hE2 : w.heap.size + 1 = _ := hE; omega); have x5 : w2.cell? ⟨w.heap.size + 1, 5, none⟩ = some (.slice (some ⟨sb, so, none⟩) sts.length c5) := hgr.cell (by go_simp) (by intro hE; injection hE with hE; have hE2 : w.heap.size + 1 = _ := hE; omega); have x6 : w2.cell? ⟨w.heap.size + 1, 6, none⟩ = some (.slice p6 body.length c6) := hgr.cell (by go_simp) (by intro hE; injection hE with hE; have hE2 : w.heap.size + 1 = _ := hE; omega); have y0 : w2.cell? ⟨w.heap.size, 0, none⟩ = some (.slice (some ⟨zb, zo, none⟩) zs.length cz) := hgr.cell (by go_simp) (by intro hE; injection hE with hE; have hE2 : w.heap.size = _ := hE; omega); have y1 : w2.cell? ⟨w.heap.size, 1, none⟩ = some (.int .i64 ex) := hgr.cell (by go_simp) (by intro hE; injection hE with hE; have hE2 : w.heap.size = _ := hE; omega); have fz5 : w2.frozen? ⟨w.heap.size + 1, 5, none⟩ = false := (World.frozen?_of_block (a := ⟨w.heap.size + 1, 5, none⟩) (hgr.block (w.heap.size + 1) (by first | (simp; done) | (simp; omega)) (by intro hE; injection hE with hE; omega))).trans (by go_simp); have hb2 : Below w.heap.size w w2 := (below_of_app (by (repeat' (first | (with_reducible exact Below.refl _ _) | (with_reducible refine Below.app ?_ ?_ _ _) | (with_reducible refine Below.alloc ?_ ?_ _) | (with_reducible refine Below.drew ?_) | (with_reducible refine Below.setCell ?_ ?_ _) | (with_reducible assumption) | omega | (simp; omega) | (simp; done))))).grown hgr (by first | (simp; done) | (simp; omega)) (fun j hj => by cases hj; omega); have hl2 : w.heap.size + 1 < w2.heap.size := World.block_lt_of_cell? w2 _ x0; have hks2 : (k : Int) < sts.length := (by omega); clear hgr)
  | (refine wpList_store_mid rfl 37 _ _ rfl g (k * 4) #[.int .i64 0, .int .i64 0, .int .i64 arr, .int .i64 0] rfl rfl ((hst.kept (Below.heap_setCell w2 ⟨w.heap.size + 1, 5, none⟩ (.slice (some ⟨g, 0, none⟩) sts.length cap) g (Nat.ne_of_gt hBg))).there hks) (by kernel_rfl) (by simp [Value.oneCell']) ?_)
 refine wp_gen27 fun X hX => ?_
 have u0 : X.cell? ⟨w.heap.size + 1, 0, none⟩ = some (.int .i64 id) := by rw [hX, World.cell?_setCells_out g _ _ _ _ (fun hE _ => absurd (show w.heap.size + 1 = g from hE) (by omega))]; go_simp
 have u1 : X.cell? ⟨w.heap.size + 1, 1, none⟩ = some (.int .i64 arr) := by rw [hX, World.cell?_setCells_out g _ _ _ _ (fun hE _ => absurd (show w.heap.size + 1 = g from hE) (by omega))]; go_simp
 have u2 : X.cell? ⟨w.heap.size + 1, 2, none⟩ = some (.string fL) := by rw [hX, World.cell?_setCells_out g _ _ _ _ (fun hE _ => absurd (show w.heap.size + 1 = g from hE) (by omega))]; go_simp
 have u3 : X.cell? ⟨w.heap.size + 1, 3, none⟩ = some (.string fD) := by rw [hX, World.cell?_setCells_out g _ _ _ _ (fun hE _ => absurd (show w.heap.size + 1 = g from hE) (by omega))]; go_simp
 have u4 : X.cell? ⟨w.heap.size + 1, 4, none⟩ = some (.slice p4 tos.length c4) := by rw [hX, World.cell?_setCells_out g _ _ _ _ (fun hE _ => absurd (show w.heap.size + 1 = g from hE) (by omega))]; go_simp
 have u5 : X.cell? ⟨w.heap.size + 1, 5, none⟩ = some (.slice (some ⟨g, 0, none⟩) sts.length cap) := by rw [hX, World.cell?_setCells_out g _ _ _ _ (fun hE _ => absurd (show w.heap.size + 1 = g from hE) (by omega))]; go_simp
 have u6 : X.cell? ⟨w.heap.size + 1, 6, none⟩ = some (.slice p6 body.length c6) := by rw [hX, World.cell?_setCells_out g _ _ _ _ (fun hE _ => absurd (show w.heap.size + 1 = g from hE) (by omega))]; go_simp
 have v0 : X.cell? ⟨w.heap.size, 0, none⟩ = some (.slice (some ⟨zb, zo, none⟩) zs.length cz) := by rw [hX, World.cell?_setCells_out g _ _ _ _ (fun hE _ => absurd (show w.heap.size = g from hE) (by omega))]; go_simp
 have v1 : X.cell? ⟨w.heap.size, 1, none⟩ = some (.int .i64 ex) := by rw [hX, World.cell?_setCells_out g _ _ _ _ (fun hE _ => absurd (show w.heap.size = g from hE) (by omega))]; go_simp
 obtain ⟨Y, hY⟩ : ∃ Y, Y = w2.setCell ⟨w.heap.size + 1, 5, none⟩ (.slice (some ⟨g, 0, none⟩) sts.length cap) := ⟨_, rfl⟩
 rw [← hY] at hX
 have hYs : Y.heap.size = w2.heap.size := by rw [hY]; simp [World.setCell]
 have hb3 : Below w.heap.size w Y := by rw [hY]; exact hb2.setCell (p := ⟨w.heap.size + 1, 5, none⟩) (Nat.le_succ _) _
 have hst2 : StsAt Y g sts := hst.kept (by rw [hY]; exact Below.heap_setCell w2 ⟨w.heap.size + 1, 5, none⟩ (.slice (some ⟨g, 0, none⟩) sts.length cap) g (Nat.ne_of_gt hBg))
 have hgrow : Y.grownBy X (some g) := by rw [hX]; exact setCells_grown g _ _ _
 have hbX : Below w.heap.size w X := below_grown hb3 hgrow (Nat.le_trans (Nat.le_add_right _ 2) hBg)
 have hgX : g < X.heap.size := Nat.lt_of_lt_of_le (Nat.lt_of_lt_of_eq hgl hYs.symm) hgrow.size
 have hrowX : StsAt X g (sts.set k ⟨0, ((0 : Nat) : Int), arr, 0⟩) := by rw [hX]; exact hst2.set hks ⟨0, 0, arr, 0⟩
 have hR := hfull hbX (Nat.le_trans (Nat.le_add_right _ 2) hBg) hgX
 have hring : Hid (Ring ⟨id, arr, fL, fD, tos, sts, body⟩ k g ex X 0 arr 0 X) := ⟨⟨rfl, rfl, rfl, Nat.le_refl _, fun _ _ _ => rfl⟩, hrowX, Track.start z3, by omega, .inl rfl⟩
 clear hX hY hYs hgrow hrowX hb3 hst hst2 x0 x1 x2 x3 x4 x5 x6 y0 y1 fz5 hb2 hl2 hgl hfull
 have hlX := World.block_lt_of_cell? X _ u0
 have hlX2 := World.block_lt_of_cell? X _ v0
 replace hR := Lib.hid hR
 go_loopw [11] (fun iv wr => ∃ (i : Nat) (du co : Int), iv = .int .i64 i ∧ Hid (Ring ⟨id, arr, fL, fD, tos, sts, body⟩ k g ex X i du co wr)) (fun iv _ => 300 - (intOf iv).toNat)
 case atStart => exact ⟨0, arr, 0, rfl, hring⟩
 case round =>
  obtain ⟨i, du, co, rfl, hr⟩ := hrel
  clear hring
  have hi215 := hr.out.few
  have hkept := hr.out.kept
  have hbW : Below w.heap.size w wr := below_grown hbX hkept (by omega)
  have hlq : w.heap.size + 1 < wr.heap.size := Nat.lt_of_lt_of_le hlX hkept.size
  have hls : w.heap.size < wr.heap.size := Nat.lt_of_lt_of_le hlX2 hkept.size
  have hlg : g < wr.heap.size := Nat.lt_of_lt_of_le hgX hkept.size
  have q0 : wr.cell? ⟨w.heap.size + 1, 0, none⟩ = some (.int .i64 id) := hkept.cell u0 (by intro hE; injection hE with hE; have hE2 : w.heap.size + 1 = _ := hE; omega)
  have q1 : wr.cell? ⟨w.heap.size + 1, 1, none⟩ = some (.int .i64 arr) := hkept.cell u1 (by intro hE; injection hE with hE; have hE2 : w.heap.size + 1 = _ := hE; omega)
  have q2 : wr.cell? ⟨w.heap.size + 1, 2, none⟩ = some (.string fL) := hkept.cell u2 (by intro hE; injection hE with hE; have hE2 : w.heap.size + 1 = _ := hE; omega)
  have q3 : wr.cell? ⟨w.heap.size + 1, 3, none⟩ = some (.string fD) := hkept.cell u3 (by intro hE; injection hE with hE; have hE2 : w.heap.size + 1 = _ := hE; omega)
  have q4 : wr.cell? ⟨w.heap.size + 1, 4, none⟩ = some (.slice p4 tos.length c4) := hkept.cell u4 (by intro hE; injection hE with hE; have hE2 : w.heap.size + 1 = _ := hE; omega)
  have q5 : wr.cell? ⟨w.heap.size + 1, 5, none⟩ = some (.slice (some ⟨g, 0, none⟩) sts.length cap) := hkept.cell u5 (by intro hE; injection hE with hE; have hE2 : w.heap.size + 1 = _ := hE; omega)
  have q6 : wr.cell? ⟨w.heap.size + 1, 6, none⟩ = some (.slice p6 body.length c6) := hkept.cell u6 (by intro hE; injection hE with hE; have hE2 : w.heap.size + 1 = _ := hE; omega)
  have s0 : wr.cell? ⟨w.heap.size, 0, none⟩ = some (.slice (some ⟨zb, zo, none⟩) zs.length cz) := hkept.cell v0 (by intro hE; injection hE with hE; have hE2 : w.heap.size = _ := hE; omega)
  have s1 : wr.cell? ⟨w.heap.size, 1, none⟩ = some (.int .i64 ex) := hkept.cell v1 (by intro hE; injection hE with hE; have hE2 : w.heap.size = _ := hE; omega)
  have hdu : wr.cell? ⟨g, k * 4 + 2, none⟩ = some (.int .i64 du) := by
   have := (hr.out.row k (by simpa using hks) 2 (by omega)).1
   rw [List.getElem_set_self] at this
   exact this
  have hi3 : (i : Int) < 300 := by omega
  clear u0 u1 u2 u3 u4 u5 u6 v0 v1 hkept
  by_cases hcase : e ≠ 7 ∧ expired zs ex arr du = false
  · have hT := Lib.hid (Ring.fail (cap := cap) (cz := cz) hR.out hr.out a6 hcase.1 hcase.2)
    dsimp only at hT
    obtain ⟨ht1, ht2, ht3⟩ := hr.out.track.step a2 (by rw [hzl0]; omega) harr a5 hcase.2
    have hi := hr.out.track.few a2 harr a5 hcase.2
    have hco := whyC_code a6
    have h7 : (e == 7) = false := by simpa using hcase.1
    generalize dueOf du (delay zs ex ((i : Int) + 1)) = du2 at *
    generalize whyC e = co2 at *
    have hnext := Lib.hid (fun W' (hb : Below wr.heap.size wr W') => hr.out.next hks hgX hb ht1 hi (co' := co2) (by omega))
    have hrw := Lib.hid hr.out.row
    clear hr hcase ht1 hR
    have ht4 : (du2 ≤ du) = False := by simp; omega
    rcases hco with rfl | rfl | rfl
    all_goals
     go_wp2_with first
      | (go_at_call 12; ((with_reducible refine hT.out.mono ?_); rintro r w3 ⟨p, n, c, rfl, hb3⟩; replace q0 := (hb3.cell (p := ⟨w.heap.size + 1, 0, none⟩) hlq).trans q0; replace q1 := (hb3.cell (p := ⟨w.heap.size + 1, 1, none⟩) hlq).trans q1; replace q2 := (hb3.cell (p := ⟨w.heap.size + 1, 2, none⟩) hlq).trans q2; replace q3 := (hb3.cell (p := ⟨w.heap.size + 1, 3, none⟩) hlq).trans q3; replace q4 := (hb3.cell (p := ⟨w.heap.size + 1, 4, none⟩) hlq).trans q4; replace q5 := (hb3.cell (p := ⟨w.heap.size + 1, 5, none⟩) hlq).trans q5; replace q6 := (hb3.cell (p := ⟨w.heap.size + 1, 6, none⟩) hlq).trans q6; replace s0 := (hb3.cell (p := ⟨w.heap.size, 0, none⟩) hls).trans s0; replace s1 := (hb3.cell (p := ⟨w.heap.size, 1, none⟩) hls).trans s1; have hbw3 := hbW.trans (hb3.mono hbW.size); have hz3 := hb3.size; replace hlq := Nat.lt_of_lt_of_le hlq hb3.size; replace hls := Nat.lt_of_lt_of_le hls hb3.size; have hne1 : ¬ w.heap.size + 1 = w3.heap.size := (by omega); have hne2 : ¬ w.heap.size + 1 = w3.heap.size + 1 := (by omega)))
      | (refine wpList_store_mid rfl 37 _ _ rfl g (k * 4) #[.int .i64 0, .int .i64 ((i : Int) + 1), .int .i64 du2, .int .i64 _] rfl rfl (StsAt.there (StsAt.kept hrw.out (Below.block (B := wr.heap.size) (by (repeat' (first | (with_reducible exact Below.refl _ _) | (with_reducible refine Below.app ?_ ?_ _ _) | (with_reducible refine Below.alloc ?_ ?_ _) | (with_reducible refine Below.drew ?_) | (with_reducible refine Below.setCell ?_ ?_ _) | (with_reducible assumption) | omega | (simp; omega) | (simp; done)))) g hlg)) (by simpa using hks)) (by kernel_rfl) (by simp [Value.oneCell']) ?_)
     go_roundw
     case rel => exact ⟨i + 1, du2, _, by go_num, Lib.hid (hnext.out _ (by (repeat' (first | (with_reducible exact Below.refl _ _) | (with_reducible refine Below.app ?_ ?_ _ _) | (with_reducible refine Below.alloc ?_ ?_ _) | (with_reducible refine Below.drew ?_) | (with_reducible refine Below.setCell ?_ ?_ _) | (with_reducible assumption) | omega | (simp; omega) | (simp; done)))))⟩
     case measure => simp [intOf]; omega
  · have hx : e = 7 ∨ expired zs ex arr du = true := by
     by_cases h : e = 7
     · exact .inl h
     · cases hq : expired zs ex arr du
       · exact absurd ⟨h, hq⟩ hcase
       · exact .inr rfl
    have hco := whyC_code a6
    by_cases hnull : fL.toList = [] ∧ fD.toList = []
    · have hT := Lib.hid (Ring.null (cap := cap) (cz := cz) hR.out hr.out a6 hx (ba_nil hnull.1) (ba_nil hnull.2))
      dsimp only at hT
      generalize whyC e = co2 at *
      clear hr hcase hx hR
      obtain ⟨hn1, hn2⟩ := hnull
      rcases hco with rfl | rfl | rfl
      all_goals
       go_wp2_with first
        | (go_at_call 12; ((with_reducible refine hT.out.mono ?_); rintro r w3 ⟨p, n, c, rfl, hb3⟩; replace q0 := (hb3.cell (p := ⟨w.heap.size + 1, 0, none⟩) hlq).trans q0; replace q1 := (hb3.cell (p := ⟨w.heap.size + 1, 1, none⟩) hlq).trans q1; replace q2 := (hb3.cell (p := ⟨w.heap.size + 1, 2, none⟩) hlq).trans q2; replace q3 := (hb3.cell (p := ⟨w.heap.size + 1, 3, none⟩) hlq).trans q3; replace q4 := (hb3.cell (p := ⟨w.heap.size + 1, 4, none⟩) hlq).trans q4; replace q5 := (hb3.cell (p := ⟨w.heap.size + 1, 5, none⟩) hlq).trans q5; replace q6 := (hb3.cell (p := ⟨w.heap.size + 1, 6, none⟩) hlq).trans q6; replace s0 := (hb3.cell (p := ⟨w.heap.size, 0, none⟩) hls).trans s0; replace s1 := (hb3.cell (p := ⟨w.heap.size, 1, none⟩) hls).trans s1; have hbw3 := hbW.trans (hb3.mono hbW.size); have hz3 := hb3.size; replace hlq := Nat.lt_of_lt_of_le hlq hb3.size; replace hls := Nat.lt_of_lt_of_le hls hb3.size; have hne1 : ¬ w.heap.size + 1 = w3.heap.size := (by omega); have hne2 : ¬ w.heap.size + 1 = w3.heap.size + 1 := (by omega)))
       go_returns
       exact ⟨rfl, by (repeat' (first | (with_reducible exact Below.refl _ _) | (with_reducible refine Below.app ?_ ?_ _ _) | (with_reducible refine Below.alloc ?_ ?_ _) | (with_reducible refine Below.drew ?_) | (with_reducible refine Below.setCell ?_ ?_ _) | (with_reducible assumption) | omega | (simp; omega) | (simp; done)))⟩
    · have hT := Lib.hid (Ring.bounce (cap := cap) (cz := cz) hR.out hr.out a6 hx hnull)
      dsimp only at hT
      generalize whyC e = co2 at *
      clear hr hcase hx hR
      have hn3 : (fL.toList.isEmpty && fD.toList.isEmpty) = false := by
       cases h1 : fL.toList.isEmpty
       · rfl
       · cases h2 : fD.toList.isEmpty
         · rfl
         · exact absurd ⟨List.isEmpty_iff.1 h1, List.isEmpty_iff.1 h2⟩ hnull
      rcases hco with rfl | rfl | rfl
      all_goals
       go_wp2_with first
        | (go_at_call 12; ((with_reducible refine hT.out.mono ?_); rintro r w3 ⟨p, n, c, rfl, hb3⟩; replace q0 := (hb3.cell (p := ⟨w.heap.size + 1, 0, none⟩) hlq).trans q0; replace q1 := (hb3.cell (p := ⟨w.heap.size + 1, 1, none⟩) hlq).trans q1; replace q2 := (hb3.cell (p := ⟨w.heap.size + 1, 2, none⟩) hlq).trans q2; replace q3 := (hb3.cell (p := ⟨w.heap.size + 1, 3, none⟩) hlq).trans q3; replace q4 := (hb3.cell (p := ⟨w.heap.size + 1, 4, none⟩) hlq).trans q4; replace q5 := (hb3.cell (p := ⟨w.heap.size + 1, 5, none⟩) hlq).trans q5; replace q6 := (hb3.cell (p := ⟨w.heap.size + 1, 6, none⟩) hlq).trans q6; replace s0 := (hb3.cell (p := ⟨w.heap.size, 0, none⟩) hls).trans s0; replace s1 := (hb3.cell (p := ⟨w.heap.size, 1, none⟩) hls).trans s1; have hbw3 := hbW.trans (hb3.mono hbW.size); have hz3 := hb3.size; replace hlq := Nat.lt_of_lt_of_le hlq hb3.size; replace hls := Nat.lt_of_lt_of_le hls hb3.size; have hne1 : ¬ w.heap.size + 1 = w3.heap.size := (by omega); have hne2 : ¬ w.heap.size + 1 = w3.heap.size + 1 := (by omega)))
       all_goals first
        | (go_returns; exact ⟨rfl, by (repeat' (first | (with_reducible exact Below.refl _ _) | (with_reducible refine Below.app ?_ ?_ _ _) | (with_reducible refine Below.alloc ?_ ?_ _) | (with_reducible refine Below.drew ?_) | (with_reducible refine Below.setCell ?_ ?_ _) | (with_reducible assumption) | omega | (simp; omega) | (simp; done)))⟩)
        | (go_returns; refine ⟨rb ?_, by (repeat' (first | (with_reducible exact Below.refl _ _) | (with_reducible refine Below.app ?_ ?_ _ _) | (with_reducible refine Below.alloc ?_ ?_ _) | (with_reducible refine Below.drew ?_) | (with_reducible refine Below.setCell ?_ ?_ _) | (with_reducible assumption) | omega | (simp; omega) | (simp; done)))⟩; simp_all; done)
        | (go_returns; refine ⟨rb ?_, by (repeat' (first | (with_reducible exact Below.refl _ _) | (with_reducible refine Below.app ?_ ?_ _ _) | (with_reducible refine Below.alloc ?_ ?_ _) | (with_reducible refine Below.drew ?_) | (with_reducible refine Below.setCell ?_ ?_ _) | (with_reducible assumption) | omega | (simp; omega) | (simp; done)))⟩; go_light; simp_all; done)
        | (exfalso; simp_all; done)
end Go.Proofs.YteahkgbnfbjkhaaGreatDoor
