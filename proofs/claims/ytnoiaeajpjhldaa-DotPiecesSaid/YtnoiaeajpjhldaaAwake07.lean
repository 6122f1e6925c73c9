/-
  What the document's examples come to in the laws of layer 7.
-/
import Derived.Test.YtnoiaeajpjhldaaDotSendW
import Derived.Test.YtnoiaeajpjhldaaRefSame07
import Derived.Lib.SlBytesConst
import Derived.Lib.SmallJoins
namespace Go.Proofs.Ytnoiaeajpjhldaa
open Go.ChangeShapes Go.WideShapes Go.ChangeAt Go.RowKit

theorem bytes_new (w : World) (l : List UInt8) (C : Array Value) (T : TypeId) (m : Nat × Nat) (hC : C = (Lib.byteCells l).toArray) : BytesAt (w.alloc (.cells C T m)) (some ⟨w.heap.size, 0, none⟩) l.length l :=
  ⟨(by intro h; cases h), Nat.le_refl _, fun _ => ⟨w.heap.size, 0, rfl, by simp, fun i hi => by
    rw [World.cell?_alloc_mark, hC, Nat.zero_add]
    simp [Lib.byteCells, hi]⟩⟩
theorem TextOf.below {w w' : World} {v : Value} {l : List UInt8} (h : TextOf w v l) (hb : Below w.heap.size w w') : TextOf w' v l := fun _ hb2 => h _ (hb.trans (hb2.mono hb.size))
theorem TextOf.mono {l : List UInt8} : ∀ v w w', Below w.heap.size w w' → TextOf w v l → TextOf w' v l := fun _ _ _ hb h => h.below hb
theorem send_text {w : World} {q : Option Addr} {cap : Nat} {l : List UInt8} (h : BytesAt w q cap l) (hlen : l.length ≤ 100000000) :
    Calls Try.prog 9 #[.slice q l.length cap] w fun r w' => ∃ p c, r = .returned (.slice p (sendP l).length c) ∧ TextOf w' (.slice p (sendP l).length c) (sendP l) ∧ Below w.heap.size w w' :=
  (send_calls h hlen).mono fun _ _ ⟨v, h1, h2, h3⟩ => by
    obtain ⟨p, c, rfl⟩ := own_len h2
    exact ⟨p, c, h1, own_textOf h2, h3⟩
def DecodeText (M : Nat) (l : List UInt8) (w : World) (r : Ending) (w' : World) : Prop := ∃ p cap, r = .returned (.tuple #[.agg #[.slice p ((Dec.zero.feed l).1.all.take M).length cap, .bool (Dec.zero.feed l).1.long, .bool (Dec.zero.feed l).1.bare, .bool (decide (M < (Dec.zero.feed l).1.all.length))], .int .i64 ((Dec.zero.feed l).2 : Int), .bool (decide ((Dec.zero.feed l).1.st = 5))]) ∧
  TextOf w' (.slice p ((Dec.zero.feed l).1.all.take M).length cap) ((Dec.zero.feed l).1.all.take M) ∧ Below w.heap.size w w'
theorem decode_text {w : World} {q : Option Addr} {cap : Nat} {l : List UInt8} {most : Int} {M : Nat} (hM : max most 0 = (M : Int)) (hm2 : most ≤ 9223372036854775807) (h : BytesAt w q cap l) (hlen : l.length ≤ 100000000) :
    Calls Try.prog 13 #[.slice q l.length cap, .int .i64 most] w (DecodeText M l w) :=
  (decode_calls l q cap most M hM hm2 hlen w h.cell).mono fun _ _ ⟨p, c, h1, h2, h3⟩ => ⟨p, c, h1, own_textOf h2, h3⟩

theorem aw7_dec : Dec.zero.feed [46, 46, 97, 13, 10, 46, 13, 10, 81, 85, 73, 84] = (⟨5, 0, [46, 97, 13, 10], false, false⟩, 8) := by rfl
theorem aw7_send : sendP [97, 13, 10, 46, 98] = [97, 13, 10, 46, 46, 98, 13, 10, 46, 13, 10] := by decide +kernel
theorem aw7_lines : linesN [97, 13, 10, 13, 10, 98] = 2 := by decide +kernel
set_option maxHeartbeats 4000000 in
theorem awake07 {w : World} (hmx : MaxLenAt w) : Calls Try.prog 8 #[] w fun r w' => r = .returned (.bool true) ∧ Below w.heap.size w w' := by
  have k1 : ∀ (w : World) (g : Nat), g = w.heap.size → Calls Try.prog 13 #[.slice (some ⟨g, 0, none⟩) 12 12, .int .i64 100] (w.alloc (.cells #[.int .u8 46, .int .u8 46, .int .u8 97, .int .u8 13, .int .u8 10, .int .u8 46, .int .u8 13, .int .u8 10, .int .u8 81, .int .u8 85, .int .u8 73, .int .u8 84] 5 (12, 13)))
      fun r w' => ∃ p cap, r = .returned (.tuple #[.agg #[.slice p 4 cap, .bool false, .bool false, .bool false], .int .i64 8, .bool true]) ∧ TextOf w' (.slice p 4 cap) [46, 97, 13, 10] ∧ Below w.heap.size w w' := fun w g hg => by
    subst hg
    have := decode_text (most := 100) (M := 100) rfl (by omega) (bytes_new w [46, 46, 97, 13, 10, 46, 13, 10, 81, 85, 73, 84] _ 5 (12, 13) rfl) (by decide)
    unfold DecodeText at this
    rw [aw7_dec] at this
    exact this.mono fun r w' ⟨p, c, h1, h2, h3⟩ => ⟨p, c, h1, h2, Below.trans (b := w.alloc _) (by (repeat' (first | (with_reducible exact Below.refl _ _) | (with_reducible refine Below.app ?_ ?_ _ _) | (with_reducible refine Below.alloc ?_ ?_ _) | (with_reducible refine Below.drew ?_) | (with_reducible refine Below.setCell ?_ ?_ _) | (with_reducible assumption) | omega | (simp; omega) | (simp; done)))) (h3.mono (by simp))⟩
  have k2 : ∀ (w : World) (g : Nat), g = w.heap.size → Calls Try.prog 9 #[.slice (some ⟨g, 0, none⟩) 5 5] (w.alloc (.cells #[.int .u8 97, .int .u8 13, .int .u8 10, .int .u8 46, .int .u8 98] 5 (5, 6)))
      fun r w' => ∃ p cap, r = .returned (.slice p 11 cap) ∧ TextOf w' (.slice p 11 cap) [97, 13, 10, 46, 46, 98, 13, 10, 46, 13, 10] ∧ Below w.heap.size w w' := fun w g hg => by
    subst hg
    have := send_text (bytes_new w [97, 13, 10, 46, 98] _ 5 (5, 6) rfl) (by decide)
    rw [aw7_send] at this
    exact this.mono fun r w' ⟨p, c, h1, h2, h3⟩ => ⟨p, c, h1, h2, Below.trans (b := w.alloc _) (by (repeat' (first | (with_reducible exact Below.refl _ _) | (with_reducible refine Below.app ?_ ?_ _ _) | (with_reducible refine Below.alloc ?_ ?_ _) | (with_reducible refine Below.drew ?_) | (with_reducible refine Below.setCell ?_ ?_ _) | (with_reducible assumption) | omega | (simp; omega) | (simp; done)))) (h3.mono (by simp))⟩
  have k3 : ∀ (w1 : World) (g : Nat), g = w1.heap.size → Below w.heap.size w w1 → Calls Try.prog 11 #[.slice (some ⟨g, 0, none⟩) 6 6] (w1.alloc (.cells #[.int .u8 97, .int .u8 13, .int .u8 10, .int .u8 13, .int .u8 10, .int .u8 98] 5 (6, 7)))
      fun r w' => r = .returned (.int .i64 2) ∧ Below w1.heap.size w1 w' := fun w1 g hg hb => by
    subst hg
    have := lines_calls (bytes_new w1 [97, 13, 10, 13, 10, 98] _ 5 (6, 7) rfl) (by decide) ((hmx.below hb).below (by (repeat' (first | (with_reducible exact Below.refl _ _) | (with_reducible refine Below.app ?_ ?_ _ _) | (with_reducible refine Below.alloc ?_ ?_ _) | (with_reducible refine Below.drew ?_) | (with_reducible refine Below.setCell ?_ ?_ _) | (with_reducible assumption) | omega | (simp; omega) | (simp; done)))))
    rw [aw7_lines] at this
    exact this.mono fun r w' ⟨h1, h3⟩ => ⟨h1, Below.trans (b := w1.alloc _) (by (repeat' (first | (with_reducible exact Below.refl _ _) | (with_reducible refine Below.app ?_ ?_ _ _) | (with_reducible refine Below.alloc ?_ ?_ _) | (with_reducible refine Below.drew ?_) | (with_reducible refine Below.setCell ?_ ?_ _) | (with_reducible assumption) | omega | (simp; omega) | (simp; done)))) (h3.mono (by simp))⟩
  replace k1 := Lib.hid k1
  replace k2 := Lib.hid k2
  replace k3 := Lib.hid k3
  clear hmx
  have kc := fun (w : World) (C : Array Value) (n c g : Nat) (hg : g = w.heap.size) => Joins.run_convert_bytes_const_at (P := Try.prog) w 22 5 C n c g hg rfl rfl
  go_enter Try.func8, Try.ntmps8
  go_wp2_with first
    | (go_at_call 13; ((refine (k1.out _ _ (by first | rfl | (simp; done) | (simp; omega))).mono ?_); rintro r w1 ⟨p1, c1, rfl, hv1, hb1⟩; replace hv1 := Lib.hid hv1; obtain ⟨b1, d1, rfl⟩ := of_below hb1; clear hb1))
    | (go_at_call 9; ((refine (k2.out _ _ (by first | rfl | (simp; done) | (simp; omega))).mono ?_); rintro r w2 ⟨p2, c2, rfl, hv2, hb2⟩; have e2 := hv2 _ (Below.refl _ _); have e1 := hv1.out w2 (Below.trans (by (repeat' (first | (with_reducible exact Below.refl _ _) | (with_reducible refine Below.app ?_ ?_ _ _) | (with_reducible refine Below.alloc ?_ ?_ _) | (with_reducible refine Below.drew ?_) | (with_reducible refine Below.setCell ?_ ?_ _) | (with_reducible assumption) | omega | (simp; omega) | (simp; done)))) (hb2.mono (by first | (simp; done) | (simp; omega)))); obtain ⟨b2, d2, rfl⟩ := of_below hb2; clear hb2 hv1 hv2))
    | (go_at_call 11; ((refine (k3.out _ _ (by first | rfl | (simp; done) | (simp; omega)) (by (repeat' (first | (with_reducible exact Below.refl _ _) | (with_reducible refine Below.app ?_ ?_ _ _) | (with_reducible refine Below.alloc ?_ ?_ _) | (with_reducible refine Below.drew ?_) | (with_reducible refine Below.setCell ?_ ?_ _) | (with_reducible assumption) | omega | (simp; omega) | (simp; done))))).mono ?_); rintro r w3 ⟨rfl, hb3⟩; obtain ⟨b3, d3, rfl⟩ := of_below hb3; clear hb3))
  go_returns; exact ⟨rfl, by (repeat' (first | (with_reducible exact Below.refl _ _) | (with_reducible refine Below.app ?_ ?_ _ _) | (with_reducible refine Below.alloc ?_ ?_ _) | (with_reducible refine Below.drew ?_) | (with_reducible refine Below.setCell ?_ ?_ _) | (with_reducible assumption) | omega | (simp; omega) | (simp; done)))⟩
end Go.Proofs.Ytnoiaeajpjhldaa
