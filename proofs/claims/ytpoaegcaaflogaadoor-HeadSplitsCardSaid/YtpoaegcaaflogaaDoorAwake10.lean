/-
  What the document's examples come to in the laws of layer 10.
-/
import Derived.Test.YtpoaegcaaflogaaDoorHeadSplit
import Derived.Test.YtpoaegcaaflogaaDoorRefHead3
namespace Go.Proofs.YtpoaegcaaflogaaDoor
open Go.ChangeShapes Go.WideShapes Go.ChangeAt Go.RowKit

theorem aw10_split : splitQ [84, 111, 58, 32, 97, 13, 10, 32, 98, 13, 10, 13, 10, 104, 105] = some ([([84, 111], [97, 32, 98])], [104, 105]) := by
  have e1 : nextQ [84, 111, 58, 32, 97, 13, 10, 32, 98, 13, 10, 13, 10, 104, 105] = some (([84, 111], [97, 32, 98]), [13, 10, 104, 105]) := by
    have h1 : endQ false [84, 111, 58, 32, 97, 13, 10, 32, 98, 13, 10, 13, 10, 104, 105] = some 7 := by decide +kernel
    have h2 : Lib.cut [84, 111, 58, 32, 97] [58] = ([84, 111], [32, 97], true) := by decide +kernel
    have h3 : contQ [32, 97] [32, 98, 13, 10, 13, 10, 104, 105] = some ([32, 97, 32, 98], [13, 10, 104, 105]) := by
      rw [contQ_go (n := 4) (by decide +kernel) (by decide +kernel)]
      exact contQ_stop (by decide +kernel)
    unfold nextQ
    rw [h1]
    show nextIn (Lib.cut [84, 111, 58, 32, 97] [58]) [32, 98, 13, 10, 13, 10, 104, 105] = _
    rw [h2, nextIn_some h3]
    decide +kernel
  unfold splitQ
  rw [if_neg (by simp), loopQ_go (by decide +kernel) e1, loopQ_done (by decide +kernel)]
  rfl
theorem aw10_no : splitQ [120, 13, 10, 13, 10] = none := by
  have e1 : nextQ [120, 13, 10, 13, 10] = none := by
    have h1 : endQ false [120, 13, 10, 13, 10] = some 3 := by decide +kernel
    have h2 : Lib.cut [120] [58] = ([120], [], false) := by decide +kernel
    have h3 : contQ [] [13, 10] = some ([], [13, 10]) := contQ_stop (by decide +kernel)
    unfold nextQ
    rw [h1]
    show nextIn (Lib.cut [120] [58]) [13, 10] = _
    rw [h2, nextIn_some h3]
    decide +kernel
  unfold splitQ
  rw [if_neg (by simp), loopQ_none (by decide +kernel) e1]
theorem aw10_build : buildQ [(⟨#[65]⟩, ⟨#[98]⟩)] [99] = some [65, 58, 32, 98, 13, 10, 13, 10, 99] := by
  have h1 : goodQ (⟨#[65]⟩, ⟨#[98]⟩) = true := by decide +kernel
  have h2 : fieldL (⟨#[65]⟩, ⟨#[98]⟩) = [65, 58, 32, 98, 13, 10] := by
    unfold fieldL
    rw [writtenL_no (by decide +kernel)]
    rfl
  unfold buildQ fieldsL
  rw [if_pos h1, h2]
  rfl
/-- the first field's cells, now and later -/
def FirstAt (w : World) (g : Nat) : Prop := ∀ W, Below w.heap.size w W → W.cell? ⟨g, 0, none⟩ = some (.string ⟨#[84, 111]⟩) ∧ W.cell? ⟨g, 1, none⟩ = some (.string ⟨#[97, 32, 98]⟩) ∧ g < W.heap.size
theorem aw10_k1 (w : World) (g : Nat) (hg : g = w.heap.size) (hm : MaxLenAt w) : Calls Tryd.prog 13 #[.slice (some ⟨g, 0, none⟩) 15 15] (w.alloc (.cells #[.int .u8 84, .int .u8 111, .int .u8 58, .int .u8 32, .int .u8 97, .int .u8 13, .int .u8 10, .int .u8 32, .int .u8 98, .int .u8 13, .int .u8 10, .int .u8 13, .int .u8 10, .int .u8 104, .int .u8 105] 5 (15, 16)))
    fun r w' => ∃ gb c q k, r = .returned (.tuple #[.slice (some ⟨gb, 0, none⟩) 1 c, .slice q 2 k, .bool true]) ∧ FirstAt w' gb ∧ TextOf w' (.slice q 2 k) [104, 105] ∧ Below w.heap.size w w' := by
  subst hg
  have := split_calls (bytes_new w [84, 111, 58, 32, 97, 13, 10, 32, 98, 13, 10, 13, 10, 104, 105] _ 5 (15, 16) rfl) (by decide) (hm.below (by (repeat' (first | (with_reducible exact Below.refl _ _) | (with_reducible refine Below.app ?_ ?_ _ _) | (with_reducible refine Below.alloc ?_ ?_ _) | (with_reducible refine Below.drew ?_) | (with_reducible refine Below.setCell ?_ ?_ _) | (with_reducible assumption) | omega | (simp; omega) | (simp; done)))))
  rw [aw10_split] at this
  refine this.mono fun r w' ⟨h1, h2⟩ => ?_
  have hbel : Below w.heap.size w w' := Below.trans (b := w.alloc _) (by (repeat' (first | (with_reducible exact Below.refl _ _) | (with_reducible refine Below.app ?_ ?_ _ _) | (with_reducible refine Below.alloc ?_ ?_ _) | (with_reducible refine Below.drew ?_) | (with_reducible refine Below.setCell ?_ ?_ _) | (with_reducible assumption) | omega | (simp; omega) | (simp; done)))) (h2.mono (by simp))
  rcases h1 with ⟨e, _⟩ | ⟨fs, body, p, c, q, k, e, e2, h3, h4⟩
  · cases e
  · cases e
    rcases h3.2 with ⟨_, h0⟩ | ⟨gb, cap, cur, hv, _, hh, _⟩
    · cases h0
    · simp at hv
      obtain ⟨rfl, rfl⟩ := hv
      refine ⟨gb, c, q, k, e2, fun W hW => ?_, h4.textOf, hbel⟩
      have hlt : gb < w'.heap.size := (Array.getElem?_eq_some_iff.1 hh).1
      have k0 := h3.cells (g := gb) rfl 0 (.string ⟨#[84, 111]⟩) rfl
      have k1 := h3.cells (g := gb) rfl 1 (.string ⟨#[97, 32, 98]⟩) rfl
      refine ⟨(hW.cell (p := ⟨gb, 0, none⟩) hlt).trans ?_, (hW.cell (p := ⟨gb, 1, none⟩) hlt).trans ?_, Nat.lt_of_lt_of_le hlt hW.size⟩
      · rw [← k0]; congr 1
      · rw [← k1]; congr 1
theorem aw10_k2 (w : World) (g : Nat) (hg : g = w.heap.size) (hm : MaxLenAt w) : Calls Tryd.prog 13 #[.slice (some ⟨g, 0, none⟩) 5 5] (w.alloc (.cells #[.int .u8 120, .int .u8 13, .int .u8 10, .int .u8 13, .int .u8 10] 5 (5, 6)))
    fun r w' => r = .returned (.tuple #[.slice none 0 0, .slice none 0 0, .bool false]) ∧ Below w.heap.size w w' := by
  subst hg
  have := split_calls (bytes_new w [120, 13, 10, 13, 10] _ 5 (5, 6) rfl) (by decide) (hm.below (by (repeat' (first | (with_reducible exact Below.refl _ _) | (with_reducible refine Below.app ?_ ?_ _ _) | (with_reducible refine Below.alloc ?_ ?_ _) | (with_reducible refine Below.drew ?_) | (with_reducible refine Below.setCell ?_ ?_ _) | (with_reducible assumption) | omega | (simp; omega) | (simp; done)))))
  rw [aw10_no] at this
  refine this.mono fun r w' ⟨h1, h2⟩ => ?_
  have hbel : Below w.heap.size w w' := Below.trans (b := w.alloc _) (by (repeat' (first | (with_reducible exact Below.refl _ _) | (with_reducible refine Below.app ?_ ?_ _ _) | (with_reducible refine Below.alloc ?_ ?_ _) | (with_reducible refine Below.drew ?_) | (with_reducible refine Below.setCell ?_ ?_ _) | (with_reducible assumption) | omega | (simp; omega) | (simp; done)))) (h2.mono (by simp))
  rcases h1 with ⟨_, e⟩ | ⟨fs, body, p, c, q, k, e, _⟩
  · exact ⟨e, hbel⟩
  · cases e
theorem aw10_k3 (w : World) (g g2 : Nat) (hg : g = w.heap.size) (hg2 : g2 = w.heap.size + 1) : Calls Tryd.prog 11 #[.slice (some ⟨g, 0, none⟩) 1 1, .slice (some ⟨g2, 0, none⟩) 1 1] ((w.alloc (.cells #[.string ⟨#[65]⟩, .string ⟨#[98]⟩] 28)).alloc (.cells #[.int .u8 99] 5 (1, 2)))
    fun r w' => ∃ p c, r = .returned (.tuple #[.slice p 9 c, .int .i64 0]) ∧ TextOf w' (.slice p 9 c) [65, 58, 32, 98, 13, 10, 13, 10, 99] ∧ Below w.heap.size w w' := by
  subst hg
  have hb := bytes_new (w.alloc (.cells #[.string ⟨#[65]⟩, .string ⟨#[98]⟩] 28)) [99] _ 5 (1, 2) rfl
  rw [show (w.alloc (.cells #[.string ⟨#[65]⟩, .string ⟨#[98]⟩] 28)).heap.size = g2 by rw [hg2]; simp] at hb
  have hf : FieldsAt ((w.alloc (.cells #[.string ⟨#[65]⟩, .string ⟨#[98]⟩] 28)).alloc (.cells #[.int .u8 99] 5 (1, 2))) (some ⟨w.heap.size, 0, none⟩) [(⟨#[65]⟩, ⟨#[98]⟩)] := fun i hi => by
    obtain rfl : i = 0 := by simp at hi; exact hi
    refine ⟨w.heap.size, 0, [.string ⟨#[65]⟩, .string ⟨#[98]⟩], rfl, by simp; omega, rfl, fun j hj => ?_, rfl⟩
    match j, hj with
    | 0, _ => simp [go_sem]
    | 1, _ => simp [go_sem]
  have := build_calls (cap := 1) hf hb (by decide) (by decide) (by decide)
  refine this.mono fun r w' h => ?_
  have h := h.text
  rcases h with ⟨e, _⟩ | ⟨O, p, c, e, h1, h2, h3⟩
  · have e2 := aw10_build.symm.trans e; cases e2
  · have e2 := aw10_build.symm.trans e
    cases e2
    exact ⟨p, c, h1, h2, Below.trans (b := (w.alloc _).alloc _) (by (repeat' (first | (with_reducible exact Below.refl _ _) | (with_reducible refine Below.app ?_ ?_ _ _) | (with_reducible refine Below.alloc ?_ ?_ _) | (with_reducible refine Below.drew ?_) | (with_reducible refine Below.setCell ?_ ?_ _) | (with_reducible assumption) | omega | (simp; omega) | (simp; done)))) (h3.mono (by simp; omega))⟩
theorem app_more (w : World) (b1 b2 : Array Obj) (d1 d2 : Nat) : Below (app w b1 d1).heap.size (app w b1 d1) (app w (b1 ++ b2) d2) := by
  rw [← app_app w b1 b2 d1 d2]
  exact (Below.refl _ _).app (Nat.le_refl _) _ _
set_option maxRecDepth 20000 in
set_option maxHeartbeats 4000000 in
theorem awake10 {w : World} (hmx : MaxLenAt w) : Calls Tryd.prog 7 #[] w fun r w' => r = .returned (.bool true) ∧ Below w.heap.size w w' := by
  have k1 := fun (W : World) (g : Nat) (hg : g = W.heap.size) (hb : Below w.heap.size w W) => aw10_k1 W g hg (hmx.below hb)
  have k2 := fun (W : World) (g : Nat) (hg : g = W.heap.size) (hb : Below w.heap.size w W) => aw10_k2 W g hg (hmx.below hb)
  have k3 := aw10_k3
  replace k1 := Lib.hid k1
  replace k2 := Lib.hid k2
  replace k3 := Lib.hid k3
  clear hmx
  have kc := fun (w : World) (C : Array Value) (n c g : Nat) (hg : g = w.heap.size) => Joins.run_convert_bytes_const_at (P := Tryd.prog) w 23 5 C n c g hg rfl rfl
  go_enter Tryd.func7, Tryd.ntmps7
  go_wp2_with first
    | (go_at_call 13; ((with_reducible refine (k1.out _ _ ?g1 ?g2).mono ?_); (case g1 => (first | rfl | omega | (simp; done) | (simp; omega))); (case g2 => (repeat' (first | (with_reducible exact Below.refl _ _) | (with_reducible refine Below.app ?_ ?_ _ _) | (with_reducible refine Below.alloc ?_ ?_ _) | (with_reducible refine Below.drew ?_) | (with_reducible refine Below.setCell ?_ ?_ _) | (with_reducible assumption) | omega | (simp; omega) | (simp; done)))); rintro r w1 ⟨gb, c1, q1, n1, rfl, hf1, ht1, hb1⟩; obtain ⟨b1, d1, rfl⟩ := of_below hb1; replace hf1 := Lib.hid hf1; replace ht1 := Lib.hid ht1; clear hb1))
    | (go_at_call 13; ((with_reducible refine (k2.out _ _ ?g1 ?g2).mono ?_); (case g1 => (first | rfl | omega | (simp; done) | (simp; omega))); (case g2 => (repeat' (first | (with_reducible exact Below.refl _ _) | (with_reducible refine Below.app ?_ ?_ _ _) | (with_reducible refine Below.alloc ?_ ?_ _) | (with_reducible refine Below.drew ?_) | (with_reducible refine Below.setCell ?_ ?_ _) | (with_reducible assumption) | omega | (simp; omega) | (simp; done)))); rintro r w2 ⟨rfl, hb2⟩; obtain ⟨b2, d2, rfl⟩ := of_below hb2; clear hb2))
    | (go_at_call 11; ((refine (k3.out _ _ _ ?g1 ?g2).mono ?_); (case g1 => (first | rfl | omega | (simp; done) | (simp; omega))); (case g2 => (first | rfl | omega | (simp; done) | (simp; omega))); rintro r w3 ⟨p3, c3, rfl, ht3, hb3⟩; have hbel := Lib.hid ((app_more w b1 b2 d1 d2).trans (hb3.mono (by (first | rfl | omega | (simp; done) | (simp; omega))))); have e1 := ht1.out w3 hbel.out; have e3 := ht3 w3 (Below.refl _ _); obtain ⟨m0, m1, hlt⟩ := hf1.out w3 hbel.out; have hfin := Lib.hid (Below.trans (by (repeat' (first | (with_reducible exact Below.refl _ _) | (with_reducible refine Below.app ?_ ?_ _ _) | (with_reducible refine Below.alloc ?_ ?_ _) | (with_reducible refine Below.drew ?_) | (with_reducible refine Below.setCell ?_ ?_ _) | (with_reducible assumption) | omega | (simp; omega) | (simp; done)))) (hb3.mono (by (first | rfl | omega | (simp; done) | (simp; omega)))) : Below w.heap.size w w3); clear hb3 ht1 hf1 ht3 hbel))
  go_returns; exact ⟨rfl, hfin.out⟩
end Go.Proofs.YtpoaegcaaflogaaDoor
