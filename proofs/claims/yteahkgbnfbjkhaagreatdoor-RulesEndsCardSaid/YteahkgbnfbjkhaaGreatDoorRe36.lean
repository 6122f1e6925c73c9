/-
  DsnBuild2.
-/
import Derived.Test.YteahkgbnfbjkhaaGreatDoorRe35
set_option maxRecDepth 20000
set_option linter.unusedVariables false
set_option linter.unusedSimpArgs false
set_option linter.unusedSectionVars false
namespace Go.Proofs.YteahkgbnfbjkhaaGreatDoor
open Go.ChangeShapes Go.WideShapes Go.ChangeAt Go.RowKit
set_option maxHeartbeats 4000000 in
theorem dbuild_calls {w : World} {q : Option Addr} {cap : Nat} (r : Rep11) (hr : r.Small) (ht : r.Tiny) (hb : BytesAt w q cap r.head) (hw : LibAt w) (hg : dgoodB r = true) :
 Calls Tryz.prog 20 #[.agg (r.cells q cap)] w (BuildPost (repFields r.host (textS r.toL r.toD) (stampS r.now) (markS r.id (markN r.id r.head))) (repBody r.host (textS r.rcL r.rcD) ⟨r.status.toArray⟩ r.reason r.id (stampS r.came) (markS r.id (markN r.id r.head)) r.head) w) := by
 have hpost : ∀ r' w', BuildPost (repFields r.host (textS r.toL r.toD) (stampS r.now) (markS r.id (markN r.id r.head))) (repBody r.host (textS r.rcL r.rcD) ⟨r.status.toArray⟩ r.reason r.id (stampS r.came) (markS r.id (markN r.id r.head)) r.head) w r' w' → BuildPost (repFields r.host (textS r.toL r.toD) (stampS r.now) (markS r.id (markN r.id r.head))) (repBody r.host (textS r.rcL r.rcD) ⟨r.status.toArray⟩ r.reason r.id (stampS r.came) (markS r.id (markN r.id r.head)) r.head) w r' w' := fun _ _ h => h
 have hB0 : Below w.heap.size w (w.alloc (.cells (r.cells q cap) 51)) := (Below.refl _ _).alloc (Nat.le_refl _) _
 have kg := dgood_calls r hr (hb.below hB0) (hw.below hB0)
 rw [hg] at kg
 have km := fun (W : World) (hW : Below w.heap.size w W) => markOf_calls r.id (by have := ht.h8; omega) (hb.below hW) ht.h9 (hw.below hW)
 have kb := Lib.hid (fun (W : World) (hW : Below w.heap.size w W) => hb.below hW)
 have hfar : r.head ≠ [] → ∀ bb off, q = some ⟨bb, off, none⟩ → bb < w.heap.size := fun h0 bb off hq => by
  obtain ⟨bb', off', hq', hbb, _⟩ := hb.cell h0
  rw [hq] at hq'; cases hq'; exact hbb
 replace hfar := Lib.hid hfar
 have ks := Lib.hid (fun W => stampOf_calls r.came W)
 have ks2 := Lib.hid (fun W => stampOf_calls r.now W)
 have kx2 := Lib.hid (fun W => mailbox_calls r.toL r.toD (by have := ht.h2; omega) (by have := ht.h3; omega) W)
 have kx := Lib.hid (fun W => mailbox_calls r.rcL r.rcD (by have := ht.h4; omega) (by have := ht.h5; omega) W)
 have hheadl := ht.h9
 have hhost := ht.h1
 have hstat := ht.h6
 have hreas := ht.h7
 have hid := ht.h8
 have hmark : (markS r.id (markN r.id r.head)).size ≤ 2000 := by
  have h1 := frontS_size r.id (markN r.id r.head) (markN_spec r.id ht.h9).1
  have h2 : (frontS r.id (markN r.id r.head)).size = 2 + (markS r.id (markN r.id r.head)).size := by unfold frontS; rw [ByteArray.size_append]; rfl
  omega
 have hrc : (textS r.rcL r.rcD).size ≤ 4000 := by have := textS_size r.rcL r.rcD; have := ht.h4; have := ht.h5; omega
 have hcam : (stampS r.came).size ≤ 1000 := Nat.le_trans (stampS_size _) (by decide)
 have hnow : (stampS r.now).size ≤ 1000 := Nat.le_trans (stampS_size _) (by decide)
 have ht1 : (textS r.toL r.toD).size ≤ 4000 := by have := textS_size r.toL r.toD; have := ht.h2; have := ht.h3; omega
 clear hb hw hr ht hg
 obtain ⟨host, toL, toD, rcL, rcD, status, reason, id, came, now, head⟩ := r
 unfold Rep11.cells at *
 dsimp only at *
 have hstat : (⟨status.toArray⟩ : ByteArray).size ≤ 1000 := by show status.toArray.size ≤ 1000; simpa using hstat
 generalize (⟨status.toArray⟩ : ByteArray) = st at *
 generalize markS id (markN id head) = mk at *
 generalize textS rcL rcD = rc at *
 generalize textS toL toD = rt at *
 generalize stampS now = nw at *
 generalize stampS came = cm at *
 generalize hW0e : w.alloc (.cells #[.string host, .string toL, .string toD, .string rcL, .string rcD, .string st, .string reason, .string id, .int .i64 came, .int .i64 now, .slice q head.length cap] 51) = W0 at hB0 kg
 have hW0 : w.heap.size < W0.heap.size := by rw [← hW0e]; simp
 have k0 := fun (W : World) (hW : Below W0.heap.size W0 W) => (hW.cell (p := ⟨w.heap.size, 0, none⟩) hW0).trans (show W0.cell? ⟨w.heap.size, 0, none⟩ = some (.string host) by rw [← hW0e, World.cell?_alloc_mark]; rfl)
 have k1 := fun (W : World) (hW : Below W0.heap.size W0 W) => (hW.cell (p := ⟨w.heap.size, 1, none⟩) hW0).trans (show W0.cell? ⟨w.heap.size, 1, none⟩ = some (.string toL) by rw [← hW0e, World.cell?_alloc_mark]; rfl)
 have k2 := fun (W : World) (hW : Below W0.heap.size W0 W) => (hW.cell (p := ⟨w.heap.size, 2, none⟩) hW0).trans (show W0.cell? ⟨w.heap.size, 2, none⟩ = some (.string toD) by rw [← hW0e, World.cell?_alloc_mark]; rfl)
 have k3 := fun (W : World) (hW : Below W0.heap.size W0 W) => (hW.cell (p := ⟨w.heap.size, 3, none⟩) hW0).trans (show W0.cell? ⟨w.heap.size, 3, none⟩ = some (.string rcL) by rw [← hW0e, World.cell?_alloc_mark]; rfl)
 have k4 := fun (W : World) (hW : Below W0.heap.size W0 W) => (hW.cell (p := ⟨w.heap.size, 4, none⟩) hW0).trans (show W0.cell? ⟨w.heap.size, 4, none⟩ = some (.string rcD) by rw [← hW0e, World.cell?_alloc_mark]; rfl)
 have k5 := fun (W : World) (hW : Below W0.heap.size W0 W) => (hW.cell (p := ⟨w.heap.size, 5, none⟩) hW0).trans (show W0.cell? ⟨w.heap.size, 5, none⟩ = some (.string st) by rw [← hW0e, World.cell?_alloc_mark]; rfl)
 have k6 := fun (W : World) (hW : Below W0.heap.size W0 W) => (hW.cell (p := ⟨w.heap.size, 6, none⟩) hW0).trans (show W0.cell? ⟨w.heap.size, 6, none⟩ = some (.string reason) by rw [← hW0e, World.cell?_alloc_mark]; rfl)
 have k7 := fun (W : World) (hW : Below W0.heap.size W0 W) => (hW.cell (p := ⟨w.heap.size, 7, none⟩) hW0).trans (show W0.cell? ⟨w.heap.size, 7, none⟩ = some (.string id) by rw [← hW0e, World.cell?_alloc_mark]; rfl)
 have k8 := fun (W : World) (hW : Below W0.heap.size W0 W) => (hW.cell (p := ⟨w.heap.size, 8, none⟩) hW0).trans (show W0.cell? ⟨w.heap.size, 8, none⟩ = some (.int .i64 came) by rw [← hW0e, World.cell?_alloc_mark]; rfl)
 have k9 := fun (W : World) (hW : Below W0.heap.size W0 W) => (hW.cell (p := ⟨w.heap.size, 9, none⟩) hW0).trans (show W0.cell? ⟨w.heap.size, 9, none⟩ = some (.int .i64 now) by rw [← hW0e, World.cell?_alloc_mark]; rfl)
 have k10 := fun (W : World) (hW : Below W0.heap.size W0 W) => (hW.cell (p := ⟨w.heap.size, 10, none⟩) hW0).trans (show W0.cell? ⟨w.heap.size, 10, none⟩ = some (.slice q head.length cap) by rw [← hW0e, World.cell?_alloc_mark]; rfl)
 replace kg := Lib.hid kg
 replace km := Lib.hid km
 replace k0 := Lib.hid k0
 replace k1 := Lib.hid k1
 replace k2 := Lib.hid k2
 replace k3 := Lib.hid k3
 replace k4 := Lib.hid k4
 replace k5 := Lib.hid k5
 replace k6 := Lib.hid k6
 replace k7 := Lib.hid k7
 replace k8 := Lib.hid k8
 replace k9 := Lib.hid k9
 replace k10 := Lib.hid k10
 have hX0 := Below.refl W0.heap.size W0
 have c0 := k0.out _ hX0
 have c1 := k1.out _ hX0
 have c2 := k2.out _ hX0
 have c3 := k3.out _ hX0
 have c4 := k4.out _ hX0
 have c5 := k5.out _ hX0
 have c6 := k6.out _ hX0
 have c7 := k7.out _ hX0
 have c8 := k8.out _ hX0
 have c9 := k9.out _ hX0
 have c10 := k10.out _ hX0
 go_enter Tryz.func20, Tryz.ntmps20
 go_wp2_with first
  | (go_at_call 21; ((with_reducible refine kg.out.mono ?_); rintro r w1 ⟨rfl, hX⟩; have hlt := Nat.lt_of_lt_of_le hW0 hX.size; replace c0 := k0.out _ hX; replace c1 := k1.out _ hX; replace c2 := k2.out _ hX; replace c3 := k3.out _ hX; replace c4 := k4.out _ hX; replace c5 := k5.out _ hX; replace c6 := k6.out _ hX; replace c7 := k7.out _ hX; replace c8 := k8.out _ hX; replace c9 := k9.out _ hX; replace c10 := k10.out _ hX))
  | (go_at_call 38; ((with_reducible refine (km.out _ (hB0.trans (hX.mono hB0.size))).mono ?_); rintro r w2 ⟨rfl, h2⟩; replace hX := hX.trans (h2.mono hX.size); have hle := hX.size; have hB : Hid (BufAt w2.heap.size [] (w2.alloc (.cells #[.slice none 0 0, .int .i64 0, .int .i8 0] 107))) := Lib.hid (Lib.fresh_isBuffer 107 5 w2); clear h2; replace hX : Below W0.heap.size W0 (w2.alloc (.cells #[.slice none 0 0, .int .i64 0, .int .i8 0] 107)) := hX.alloc hX.size _; replace hlt := Nat.lt_of_lt_of_le hW0 hX.size; replace c0 := k0.out _ hX; replace c1 := k1.out _ hX; replace c2 := k2.out _ hX; replace c3 := k3.out _ hX; replace c4 := k4.out _ hX; replace c5 := k5.out _ hX; replace c6 := k6.out _ hX; replace c7 := k7.out _ hX; replace c8 := k8.out _ hX; replace c9 := k9.out _ hX; replace c10 := k10.out _ hX))
  | (go_at_call 55; ((with_reducible refine (line0_calls  hB.out  (by first | decide | (simp; omega))).mono ?_); rintro r w3 ⟨rfl, hB2, h3⟩; replace hB := Lib.hid hB2; clear hB2; replace hX := hX.trans (h3.mono hle); clear h3; replace hlt := Nat.lt_of_lt_of_le hW0 hX.size; replace c0 := k0.out _ hX; replace c1 := k1.out _ hX; replace c2 := k2.out _ hX; replace c3 := k3.out _ hX; replace c4 := k4.out _ hX; replace c5 := k5.out _ hX; replace c6 := k6.out _ hX; replace c7 := k7.out _ hX; replace c8 := k8.out _ hX; replace c9 := k9.out _ hX; replace c10 := k10.out _ hX))
  | (go_at_call 55; ((with_reducible refine (line1_calls (by first | rfl | (simp; done)) hB.out _ (by first | decide | omega | (simp; omega) | (show List.length _ ≤ _; omega) | (show Array.size _ ≤ _; simp; omega)) (by first | decide | (simp; omega))).mono ?_); rintro r w3 ⟨rfl, hB2, h3⟩; replace hB := Lib.hid hB2; clear hB2; replace hX := hX.trans (h3.mono hle); clear h3; replace hlt := Nat.lt_of_lt_of_le hW0 hX.size; replace c0 := k0.out _ hX; replace c1 := k1.out _ hX; replace c2 := k2.out _ hX; replace c3 := k3.out _ hX; replace c4 := k4.out _ hX; replace c5 := k5.out _ hX; replace c6 := k6.out _ hX; replace c7 := k7.out _ hX; replace c8 := k8.out _ hX; replace c9 := k9.out _ hX; replace c10 := k10.out _ hX))
  | (go_at_call 55; ((with_reducible refine (line2_calls (by first | rfl | (simp; done)) hB.out _ _ (by first | decide | omega | (simp; omega) | (show List.length _ ≤ _; omega) | (show Array.size _ ≤ _; simp; omega)) (by first | decide | omega | (simp; omega) | (show List.length _ ≤ _; omega) | (show Array.size _ ≤ _; simp; omega)) (by first | decide | (simp; omega))).mono ?_); rintro r w3 ⟨rfl, hB2, h3⟩; replace hB := Lib.hid hB2; clear hB2; replace hX := hX.trans (h3.mono hle); clear h3; replace hlt := Nat.lt_of_lt_of_le hW0 hX.size; replace c0 := k0.out _ hX; replace c1 := k1.out _ hX; replace c2 := k2.out _ hX; replace c3 := k3.out _ hX; replace c4 := k4.out _ hX; replace c5 := k5.out _ hX; replace c6 := k6.out _ hX; replace c7 := k7.out _ hX; replace c8 := k8.out _ hX; replace c9 := k9.out _ hX; replace c10 := k10.out _ hX))
  | (go_at_call 55; ((with_reducible refine (line3_calls (by first | rfl | (simp; done)) hB.out _ _ _ (by first | decide | omega | (simp; omega) | (show List.length _ ≤ _; omega) | (show Array.size _ ≤ _; simp; omega)) (by first | decide | omega | (simp; omega) | (show List.length _ ≤ _; omega) | (show Array.size _ ≤ _; simp; omega)) (by first | decide | omega | (simp; omega) | (show List.length _ ≤ _; omega) | (show Array.size _ ≤ _; simp; omega)) (by first | decide | (simp; omega))).mono ?_); rintro r w3 ⟨rfl, hB2, h3⟩; replace hB := Lib.hid hB2; clear hB2; replace hX := hX.trans (h3.mono hle); clear h3; replace hlt := Nat.lt_of_lt_of_le hW0 hX.size; replace c0 := k0.out _ hX; replace c1 := k1.out _ hX; replace c2 := k2.out _ hX; replace c3 := k3.out _ hX; replace c4 := k4.out _ hX; replace c5 := k5.out _ hX; replace c6 := k6.out _ hX; replace c7 := k7.out _ hX; replace c8 := k8.out _ hX; replace c9 := k9.out _ hX; replace c10 := k10.out _ hX))
  | (go_at_call 58; ((with_reducible refine (kx.out _).mono ?_); rintro r w4 ⟨rfl, h4⟩; replace hB := Lib.hid (buffer_below hB.out h4); replace hX := hX.trans (h4.mono hX.size); clear h4; replace hlt := Nat.lt_of_lt_of_le hW0 hX.size; replace c0 := k0.out _ hX; replace c1 := k1.out _ hX; replace c2 := k2.out _ hX; replace c3 := k3.out _ hX; replace c4 := k4.out _ hX; replace c5 := k5.out _ hX; replace c6 := k6.out _ hX; replace c7 := k7.out _ hX; replace c8 := k8.out _ hX; replace c9 := k9.out _ hX; replace c10 := k10.out _ hX))
  | (go_at_call 59; ((with_reducible refine (ks.out _).mono ?_); rintro r w4 ⟨rfl, h4⟩; replace hB := Lib.hid (buffer_below hB.out h4); replace hX := hX.trans (h4.mono hX.size); clear h4; replace hlt := Nat.lt_of_lt_of_le hW0 hX.size; replace c0 := k0.out _ hX; replace c1 := k1.out _ hX; replace c2 := k2.out _ hX; replace c3 := k3.out _ hX; replace c4 := k4.out _ hX; replace c5 := k5.out _ hX; replace c6 := k6.out _ hX; replace c7 := k7.out _ hX; replace c8 := k8.out _ hX; replace c9 := k9.out _ hX; replace c10 := k10.out _ hX))
  | (go_at_call 60; ((with_reducible refine (bufRow hB.out (kb.out _ (hB0.trans (hX.mono hB0.size))) (fun h0 bb off hq => Nat.lt_of_lt_of_le (hfar.out h0 bb off hq) (Nat.le_trans hB0.size hle)) (by simp only [List.length_append, List.length_cons, List.length_nil]; simp; omega) hheadl).mono ?_); rintro r w5 ⟨⟨n, rfl⟩, hB2, h3⟩; replace hB := Lib.hid hB2; clear hB2; replace hX := hX.trans (h3.mono hle); clear h3; replace hlt := Nat.lt_of_lt_of_le hW0 hX.size; replace c0 := k0.out _ hX; replace c1 := k1.out _ hX; replace c2 := k2.out _ hX; replace c3 := k3.out _ hX; replace c4 := k4.out _ hX; replace c5 := k5.out _ hX; replace c6 := k6.out _ hX; replace c7 := k7.out _ hX; replace c8 := k8.out _ hX; replace c9 := k9.out _ hX; replace c10 := k10.out _ hX))
 (apply wp_region_text 23; kernel_rfl; kernel_rfl; intro Fin hFin; (iterate 18 (first | (apply text_run; exact rfl; (focus (intro bs d hF K hK; (repeat rw [app_app] at hK); (repeat rw [app_app]); (repeat rw [Array.append_assoc] at hK); (repeat rw [Array.append_assoc]); go_step; first  | (go_at_call 58; ((refine (kx2.out _).mono ?_); rintro r w1 ⟨rfl, hb⟩; simp only []; exact hK _ hb)) | (go_at_call 59; ((refine (ks2.out _).mono ?_); rintro r w1 ⟨rfl, hb⟩; simp only []; exact hK _ hb))  | (refine hK _ ?_; (repeat' (first | (with_reducible exact Below.refl _ _) | (with_reducible refine Below.app ?_ ?_ _ _) | (with_reducible refine Below.alloc ?_ ?_ _) | (with_reducible refine Below.drew ?_) | (with_reducible refine Below.setCell ?_ ?_ _) | (with_reducible assumption) | omega | (simp; omega) | (simp; done)))))); (try simp only [Act.put, List.setIfInBounds_toArray, List.set_cons_zero, List.set_cons_succ])) | (apply text_skip; exact rfl; (try simp only [Act.put, List.setIfInBounds_toArray, List.set_cons_zero, List.set_cons_succ])))); (apply text_has (fun v w => ∃ g, v = .slice (some ⟨g, 0, none⟩) 6 6 ∧ FieldsAt w (some ⟨g, 0, none⟩) (repFields host rt nw mk)); exact rfl; exact fun _ _ _ hb ⟨g, h1, h2⟩ => ⟨g, h1, h2.below stays_field hb⟩; exact rfl; (focus (intro bs d hF K hK; (repeat rw [app_app] at hK); (repeat rw [app_app]); (repeat rw [Array.append_assoc] at hK); (repeat rw [Array.append_assoc]); go_step; exact hK _ _ (by (repeat' (first | (with_reducible exact Below.refl _ _) | (with_reducible refine Below.app ?_ ?_ _ _) | (with_reducible refine Below.alloc ?_ ?_ _) | (with_reducible refine Below.drew ?_) | (with_reducible refine Below.setCell ?_ ?_ _) | (with_reducible assumption) | omega | (simp; omega) | (simp; done)))) ⟨_, rfl, repFields_at _ _ (by first | rfl | (simp; done) | (simp [app]; done)) _ _ _ _ _ _ rfl⟩)); intro v; (try simp only [Act.put, factOf, List.setIfInBounds_toArray, List.set_cons_zero, List.set_cons_succ])); (apply text_has (fun v w => ∃ p c, v = .slice p (repBody host rc st reason id cm mk head).length c ∧ BytesAt w p c (repBody host rc st reason id cm mk head)); exact rfl; exact fun _ _ _ hb ⟨p, c, h1, h2⟩ => ⟨p, c, h1, h2.below hb⟩; exact rfl; (focus (intro bs d hF K hK; (repeat rw [app_app] at hK); (repeat rw [app_app]); (repeat rw [Array.append_assoc] at hK); (repeat rw [Array.append_assoc]); go_step; (go_at_call 62; ((refine (bufBytes (buffer_below hB.out (by (repeat' (first | (with_reducible exact Below.refl _ _) | (with_reducible refine Below.app ?_ ?_ _ _) | (with_reducible refine Below.alloc ?_ ?_ _) | (with_reducible refine Below.drew ?_) | (with_reducible refine Below.setCell ?_ ?_ _) | (with_reducible assumption) | omega | (simp; omega) | (simp; done)))))).mono ?_); rintro r w1 ⟨p, c, rfl, h1, h2⟩; exact hK _ _ h2 ⟨p, c, rfl, h1⟩)))); intro v; (try simp only [Act.put, factOf, List.setIfInBounds_toArray, List.set_cons_zero, List.set_cons_succ])); (apply text_has (fun v W => ∃ s n, v = .tuple #[s, .int .i64 n] ∧ BuildIs (repFields host rt nw mk) (repBody host rc st reason id cm mk head) w.heap.size s n W); exact rfl; exact fun _ _ _ hb ⟨s, n, h1, h2⟩ => ⟨s, n, h1, h2.below hb⟩; exact rfl; (focus (intro bs d hF K hK; (repeat rw [app_app] at hK); (repeat rw [app_app]); (repeat rw [Array.append_assoc] at hK); (repeat rw [Array.append_assoc]); obtain ⟨p, c, rfl, hBy⟩ := hF.1 (by kernel_rfl); obtain ⟨g, rfl, hFs⟩ := hF.2.1 (by kernel_rfl); go_step; (go_at_call 61; ((with_reducible refine (rep_build hhost ht1 hnow hmark hrc hstat hreas hid hcam hheadl hFs hBy).mono ?_); rintro r w6 hb6; obtain ⟨s, n, rfl, h1, h2⟩ := hb6.is (B := w.heap.size) (by have := hX.size; have := hB0.size; simp; omega); exact hK _ _ h2 ⟨s, n, rfl, h1⟩)))); intro v; (try simp only [Act.put, factOf, List.setIfInBounds_toArray, List.set_cons_zero, List.set_cons_succ])); (apply text_has (fun v W => ∃ n, BuildIs (repFields host rt nw mk) (repBody host rc st reason id cm mk head) w.heap.size v n W); exact rfl; exact fun _ _ _ hb ⟨n, h1⟩ => ⟨n, h1.below hb⟩; exact rfl; (focus (intro bs d hF K hK; (repeat rw [app_app] at hK); (repeat rw [app_app]); (repeat rw [Array.append_assoc] at hK); (repeat rw [Array.append_assoc]); obtain ⟨s, n, rfl, h1⟩ := hF.1 (by kernel_rfl); go_step; exact hK _ _ (Below.refl _ _) ⟨n, h1⟩)); intro v; (try simp only [Act.put, factOf, List.setIfInBounds_toArray, List.set_cons_zero, List.set_cons_succ])); (apply text_has (fun v W => ∃ n s, v = .int .i64 n ∧ BuildIs (repFields host rt nw mk) (repBody host rc st reason id cm mk head) w.heap.size s n W); exact rfl; exact fun _ _ _ hb ⟨n, s, h1, h2⟩ => ⟨n, s, h1, h2.below hb⟩; exact rfl; (focus (intro bs d hF K hK; (repeat rw [app_app] at hK); (repeat rw [app_app]); (repeat rw [Array.append_assoc] at hK); (repeat rw [Array.append_assoc]); obtain ⟨s, n, rfl, h1⟩ := hF.2.1 (by kernel_rfl); go_step; exact hK _ _ (Below.refl _ _) ⟨n, s, rfl, h1⟩)); intro v; (try simp only [Act.put, factOf, List.setIfInBounds_toArray, List.set_cons_zero, List.set_cons_succ])); apply text_end; apply hFin; clear hFin Fin; intro bs d hfa)
 obtain ⟨⟨n2, s2, rfl, g2⟩, ⟨n1, g1⟩, -⟩ := hfa
 have hz : Below w.heap.size w (app w3 bs d) := Below.app (hB0.trans (hX.mono hB0.size)) (by have := hX.size; have := hB0.size; omega) _ _
 go_wp2
 go_returns
 exact hpost _ _ (g1.post g2 rfl hz)
end Go.Proofs.YteahkgbnfbjkhaaGreatDoor
