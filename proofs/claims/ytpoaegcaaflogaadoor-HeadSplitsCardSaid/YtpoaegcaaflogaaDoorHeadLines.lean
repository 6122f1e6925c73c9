/-
  head.Lines: the bytes of a message's head.
-/
import Derived.Test.YtpoaegcaaflogaaDoorHeadPlain
namespace Go.Proofs.YtpoaegcaaflogaaDoor
open Go.ChangeShapes Go.WideShapes Go.ChangeAt Go.RowKit

theorem clone_at {w : World} {q : Option Addr} {cap : Nat} {l : List UInt8} (hb : BytesAt w q cap l) (hl : l.length ≤ 100000000000) :
    Calls Tryd.prog 35 #[.slice q l.length cap] w fun e w' => ∃ p c, e = .returned (.slice p l.length c) ∧ BytesAt w' p c l ∧ Below w.heap.size w w' := by
  cases q with
  | none =>
    obtain ⟨rfl, rfl⟩ := hb.nil rfl
    exact (Tryd.bytes_Clone_nil 0 0 w).mono fun e w' ⟨h1, h2⟩ => ⟨none, 0, h1, by rw [h2]; exact hb, by rw [h2]; exact Below.refl _ _⟩
  | some a =>
    refine (Tryd.bytes_Clone_at a l.length cap (l.map fun c => (c.toNat : Int)) w (by simp) (by omega) (fun i hi => ?_)).mono fun e w' ⟨v', h1, h2, _, h4⟩ => ?_
    · have h0 : l ≠ [] := by intro e; subst e; simp at hi
      obtain ⟨bb, off, e1, e2, e3⟩ := hb.cell h0
      injection e1 with e1
      subst e1
      rw [show (⟨bb, off, none⟩ : Addr).add i = ⟨bb, off + i, none⟩ by unfold Addr.add; split <;> simp_all, e3 i hi]
      simp [List.getD, hi]
    · obtain ⟨p, c, rfl⟩ := own_lenN h2
      exact ⟨p, c, h1, own_bytesAt' h2 rfl (by simp [Lib.byteCells]), h4⟩
theorem loopQ_len : ∀ (m : Nat) (acc : List LFld) (l : List UInt8) (fs : List LFld) (b : List UInt8), l.length ≤ m → loopQ acc l = some (fs, b) → b.length + 2 ≤ l.length
  | 0, acc, l, fs, b, hm, h => by
    have : l = [] := List.eq_nil_of_length_eq_zero (by omega)
    subst this
    rw [loopQ_none (by decide) (by unfold nextQ; simp [endQ])] at h; cases h
  | m + 1, acc, l, fs, b, hm, h => by
    cases hp : Lib.hasPrefix l [13, 10]
    · cases hn : nextQ l with
      | none => rw [loopQ_none hp hn] at h; cases h
      | some y =>
        obtain ⟨f, r⟩ := y
        have hr := nextQ_len hn
        rw [loopQ_go hp hn] at h
        have := loopQ_len m _ _ _ _ (by omega) h
        omega
    · rw [loopQ_done hp] at h
      have hl : 2 ≤ l.length := by
        have := (List.isPrefixOf_iff_prefix.1 hp).length_le
        simpa using this
      cases h
      simp; omega
theorem splitQ_len {l : List UInt8} {fs : List LFld} {b : List UInt8} (h : splitQ l = some (fs, b)) (h0 : l ≠ []) : b.length + 2 ≤ l.length := by
  unfold splitQ at h
  rw [if_neg h0] at h
  exact loopQ_len _ _ _ _ _ (Nat.le_refl _) h
/-- The bytes of a message's head. -/
def linesQ (l : List UInt8) : List UInt8 := match splitQ l with | some (_, b) => l.take (l.length - b.length - 2) | none => []
def LinesPost (R : List UInt8) (w : World) (r : Ending) (w' : World) : Prop := ∃ p n c, r = .returned (.slice p n c) ∧ TextOf w' (.slice p n c) R ∧ Below w.heap.size w w'
theorem text_nil (w : World) : TextOf w (.slice none 0 0) [] := fun W _ => run_convert_bytes_nil (P := Tryd.prog) W 23 5 rfl rfl 0 0 9 rfl
set_option maxRecDepth 20000 in
set_option maxHeartbeats 8000000 in
theorem hlines_calls {w : World} {q : Option Addr} {cap : Nat} {l : List UInt8} (hb : BytesAt w q cap l) (hs : l.length ≤ 10000000) (hm : MaxLenAt w) : Calls Tryd.prog 20 #[.slice q l.length cap] w (LinesPost (linesQ l) w) := by
  have hsp := split_calls hb hs hm
  have hcap := hb.cap
  cases hQ : splitQ l with
  | none =>
    have hR : linesQ l = [] := by unfold linesQ; rw [hQ]
    rw [hQ] at hsp
    have hsp := hsp.mono (R' := fun r w' => r = .returned (.tuple #[.slice none 0 0, .slice none 0 0, .bool false]) ∧ Below w.heap.size w w') fun r w' h => by
      obtain ⟨⟨_, h1⟩ | ⟨_, _, _, _, _, _, h1, _⟩, h2⟩ := h
      · exact ⟨h1, h2⟩
      · cases h1
    have hpost : ∀ w', Below w.heap.size w w' → LinesPost (linesQ l) w (.returned (.slice none 0 0)) w' := fun w' hw => ⟨none, 0, 0, rfl, by rw [hR]; exact text_nil _, hw⟩
    replace hsp := Lib.hid hsp
    replace hpost := Lib.hid hpost
    clear hb hQ hm hR
    go_enter Tryd.func20, Tryd.ntmps20
    go_wp2_with (go_at_call 13; ((refine (hsp.out).mono ?_); rintro r w1 ⟨rfl, hb⟩; obtain ⟨b1, b1d, rfl⟩ := of_below hb; clear hb))
    go_returns
    exact hpost.out _ (by (repeat' (first | (with_reducible exact Below.refl _ _) | (with_reducible refine Below.app ?_ ?_ _ _) | (with_reducible refine Below.alloc ?_ ?_ _) | (with_reducible refine Below.drew ?_) | (with_reducible refine Below.setCell ?_ ?_ _) | (with_reducible assumption) | omega | (simp; omega) | (simp; done))))
  | some y =>
    obtain ⟨fs, body⟩ := y
    rw [hQ] at hsp
    have hsp := hsp.mono (R' := fun r w' => ∃ p c q k, r = .returned (.tuple #[.slice p fs.length c, .slice q body.length k, .bool true]) ∧ Below w.heap.size w w') fun r w' h => by
      obtain ⟨⟨h1, _⟩ | ⟨_, _, p, c, q, k, h1, h3, _⟩, h2⟩ := h
      · cases h1
      · cases h1; exact ⟨p, c, q, k, h3, h2⟩
    replace hsp := Lib.hid hsp
    by_cases h0 : l = []
    · have hR : linesQ l = [] := by unfold linesQ; rw [hQ, h0]; simp
      have hpost : ∀ w', Below w.heap.size w w' → LinesPost (linesQ l) w (.returned (.slice none 0 0)) w' := fun w' hw => ⟨none, 0, 0, rfl, by rw [hR]; exact text_nil _, hw⟩
      replace hpost := Lib.hid hpost
      have hl0 : ((l.length : Int) == 0) = true := by rw [h0]; rfl
      clear hb hQ hm hR h0
      go_enter Tryd.func20, Tryd.ntmps20
      go_wp2_with (go_at_call 13; ((refine hsp.out.mono ?_); rintro r w1 ⟨p, c, q, k, rfl, hb1⟩; obtain ⟨b1, d1, rfl⟩ := of_below hb1; clear hb1))
      go_returns
      exact hpost.out _ (by (repeat' (first | (with_reducible exact Below.refl _ _) | (with_reducible refine Below.app ?_ ?_ _ _) | (with_reducible refine Below.alloc ?_ ?_ _) | (with_reducible refine Below.drew ?_) | (with_reducible refine Below.setCell ?_ ?_ _) | (with_reducible assumption) | omega | (simp; omega) | (simp; done))))
    · have hlen := splitQ_len hQ h0
      obtain ⟨t, ht⟩ : ∃ t, l.length = t + body.length + 2 := ⟨l.length - body.length - 2, by omega⟩
      have hR : linesQ l = l.take t := by unfold linesQ; rw [hQ]; simp only; rw [show l.length - body.length - 2 = t by omega]
      have hti : (l.length : Int) - body.length - 2 = t := by omega
      have hl0 : ((l.length : Int) == 0) = false := by simp; omega
      have hcl := fun (W : World) (hW : Below w.heap.size w W) => clone_at ((hb.below hW).pre (t := t) (by omega)) (by rw [List.length_take]; omega)
      have hpost : ∀ W w' p c, Below w.heap.size w W → BytesAt w' p c (l.take t) → Below W.heap.size W w' → LinesPost (linesQ l) w (.returned (.slice p t c)) w' := fun W w' p c hW hB hw => ⟨p, t, c, rfl, by rw [hR]; have := hB.textOf; rwa [show (l.take t).length = t by rw [List.length_take]; omega] at this, hW.trans (hw.mono hW.size)⟩
      rw [show (l.take t).length = t by rw [List.length_take]; omega] at hcl
      replace hpost := Lib.hid hpost
      replace hcl := Lib.hid hcl
      clear hb hQ hm hR h0 ht
      go_enter Tryd.func20, Tryd.ntmps20
      go_wp2_with first
        | (go_at_call 13; ((refine hsp.out.mono ?_); rintro r w1 ⟨p, c, q, k, rfl, hb1⟩; obtain ⟨b1, d1, rfl⟩ := of_below hb1; clear hb1))
        | (go_at_call 35; ((refine (hcl.out _ (by (repeat' (first | (with_reducible exact Below.refl _ _) | (with_reducible refine Below.app ?_ ?_ _ _) | (with_reducible refine Below.alloc ?_ ?_ _) | (with_reducible refine Below.drew ?_) | (with_reducible refine Below.setCell ?_ ?_ _) | (with_reducible assumption) | omega | (simp; omega) | (simp; done))))).mono ?_); rintro r w2 ⟨p2, c2, rfl, hB2, hb2⟩; have hfin := Lib.hid (hpost.out _ _ _ _ (by (repeat' (first | (with_reducible exact Below.refl _ _) | (with_reducible refine Below.app ?_ ?_ _ _) | (with_reducible refine Below.alloc ?_ ?_ _) | (with_reducible refine Below.drew ?_) | (with_reducible refine Below.setCell ?_ ?_ _) | (with_reducible assumption) | omega | (simp; omega) | (simp; done)))) hB2 hb2); clear hB2 hb2))
      go_returns
      exact hfin.out
end Go.Proofs.YtpoaegcaaflogaaDoor
