/-
  dot.DotDecodes answers true at every input: any bytes are the message, with what is wrong, that the document says, up to the place that it says.
-/
import Derived.Test.YtnoiaeajpjhldaaBytesArg
import Derived.Test.YtnoiaeajpjhldaaRefDec07
namespace Go.Proofs.Ytnoiaeajpjhldaa
open Go.ChangeMaps Go.ChangeShapes Go.WideShapes Go.ChangeAt Go.RowKit

/-- The decoder gives what the document's reading gives. -/
theorem feed_ref (l : List UInt8) : (Dec.zero.feed l).1.all = (decR l Rdg.zero).all ∧ (Dec.zero.feed l).1.long = (decR l Rdg.zero).long ∧ (Dec.zero.feed l).1.bare = (decR l Rdg.zero).bare ∧ (Dec.zero.feed l).2 = (decR l Rdg.zero).used ∧ decide ((Dec.zero.feed l).1.st = 5) = (decR l Rdg.zero).done := by
  have h := dec_law l.length l Rdg.zero Dec.zero (Nat.le_refl _) rfl rfl rfl rfl rfl
  exact ⟨h.all, h.long, h.bare, by have := h.used; simpa [Rdg.zero] using this, h.done⟩
theorem sameTB_self (l : List UInt8) (a b c : Bool) : sameTB l l a a b b c c = true := by simp [sameTB]
set_option maxRecDepth 20000 in
set_option maxHeartbeats 8000000 in
theorem dotDecodes_walk (q : Option Addr) (l : List UInt8) (cap : Nat) (most : Int) (w : World) (h : BytesAt w q cap l) (hm : most ≤ 9223372036854775807) (hmx : MaxLenAt w) : Calls Try.prog 4 #[.slice q l.length cap, .int .i64 most] w fun r w' => r = .returned (.bool true) ∧ Below w.heap.size w w' := by
  have hcap := h.cap
  have haw := Lib.hid (awake07 hmx)
  by_cases hbig : l.length ≤ 3000
  · have hb2 : ¬ 3000 < (l.length : Int) := by omega
    obtain ⟨M, hM⟩ : ∃ M : Nat, max most 0 = (M : Int) := ⟨(max most 0).toNat, by omega⟩
    have c1 := fun (W : World) (hb : Below w.heap.size w W) => decode_text hM hm (h.below hb) (by omega)
    have c2 := fun (W : World) (hb : Below w.heap.size w W) => rdec_calls hM hm (h.below hb).textOf (by omega)
    obtain ⟨f1, f2, f3, f4, f5⟩ := feed_ref l
    unfold DecodeText at c1
    unfold RDecPost at c2
    rw [f1, f2, f3, f4, f5] at c1
    generalize decR l Rdg.zero = R at *
    obtain ⟨all, long, bare, used, done⟩ := R
    simp only at c1 c2
    generalize decide (M < all.length) = la at *
    generalize all.take M = T at *
    have c3 := fun (W : World) (p1 p2 : Option Addr) (k1 k2 : Nat) (h1 : TextOf W (.slice p1 T.length k1) T) (h2 : TextOf W (.slice p2 T.length k2) T) => same_calls long long bare bare la la h1 h2
    simp only [sameTB_self] at c3
    generalize T.length = tl at *
    replace c1 := Lib.hid c1
    replace c2 := Lib.hid c2
    replace c3 := Lib.hid c3
    clear h hmx hbig f1 f2 f3 f4 f5 hM
    go_enter Try.func4, Try.ntmps4
    go_wp2_with first
      | (go_at_call 8; ((refine (haw.out).mono ?_); rintro r w1 ⟨rfl, hb⟩; obtain ⟨b1, b1d, rfl⟩ := of_below hb; clear hb))
      | (go_at_call 13; ((refine (c1.out _ (by (repeat' (first | (with_reducible exact Below.refl _ _) | (with_reducible refine Below.app ?_ ?_ _ _) | (with_reducible refine Below.alloc ?_ ?_ _) | (with_reducible refine Below.drew ?_) | (with_reducible refine Below.setCell ?_ ?_ _) | (with_reducible assumption) | omega | (simp; omega) | (simp; done))))).mono ?_); rintro r w1 ⟨p1, k1, rfl, hv1, hb1⟩; obtain ⟨b2, d2, rfl⟩ := of_below hb1; (try simp only [app_app] at hv1); replace hv1 := Lib.hid hv1; clear hb1))
      | (go_at_call 14; ((refine (c2.out _ (by (repeat' (first | (with_reducible exact Below.refl _ _) | (with_reducible refine Below.app ?_ ?_ _ _) | (with_reducible refine Below.alloc ?_ ?_ _) | (with_reducible refine Below.drew ?_) | (with_reducible refine Below.setCell ?_ ?_ _) | (with_reducible assumption) | omega | (simp; omega) | (simp; done))))).mono ?_); rintro r w2 ⟨p2, k2, rfl, hv2, hb2⟩; obtain ⟨b3, d3, rfl⟩ := of_below hb2; (try simp only [app_app] at hv2); replace hv2 := Lib.hid hv2; clear hb2))
      | (go_at_call 15; ((refine (c3.out _ _ _ _ _ (hv1.out.below (by (repeat' (first | (with_reducible exact Below.refl _ _) | (with_reducible refine Below.app ?_ ?_ _ _) | (with_reducible refine Below.alloc ?_ ?_ _) | (with_reducible refine Below.drew ?_) | (with_reducible refine Below.setCell ?_ ?_ _) | (with_reducible assumption) | omega | (simp; omega) | (simp; done))))) (hv2.out.below (by (repeat' (first | (with_reducible exact Below.refl _ _) | (with_reducible refine Below.app ?_ ?_ _ _) | (with_reducible refine Below.alloc ?_ ?_ _) | (with_reducible refine Below.drew ?_) | (with_reducible refine Below.setCell ?_ ?_ _) | (with_reducible assumption) | omega | (simp; omega) | (simp; done)))))).mono ?_); rintro r w3 ⟨rfl, hb3⟩; obtain ⟨b4, d4, rfl⟩ := of_below hb3; clear hb3))
    all_goals (go_returns; exact ⟨rfl, by (repeat' (first | (with_reducible exact Below.refl _ _) | (with_reducible refine Below.app ?_ ?_ _ _) | (with_reducible refine Below.alloc ?_ ?_ _) | (with_reducible refine Below.drew ?_) | (with_reducible refine Below.setCell ?_ ?_ _) | (with_reducible assumption) | omega | (simp; omega) | (simp; done)))⟩)
  · have hb2 : 3000 < (l.length : Int) := by omega
    clear h hmx hbig
    go_enter Try.func4, Try.ntmps4
    go_wp2_with (go_at_call 8; ((refine (haw.out).mono ?_); rintro r w1 ⟨rfl, hb⟩; obtain ⟨b1, b1d, rfl⟩ := of_below hb; clear hb))
    all_goals (go_returns; exact ⟨rfl, by (repeat' (first | (with_reducible exact Below.refl _ _) | (with_reducible refine Below.app ?_ ?_ _ _) | (with_reducible refine Below.alloc ?_ ?_ _) | (with_reducible refine Below.drew ?_) | (with_reducible refine Below.setCell ?_ ?_ _) | (with_reducible assumption) | omega | (simp; omega) | (simp; done)))⟩)

theorem dotDecodes_law : LawWalk2 4 Try.f4 := by
  intro H enc W base args ds ps hA hval hsh
  rw [Try.params4] at hA hval
  obtain ⟨v0, vs0, d0, ds0, p0, q0, hargs, rfl, rfl, h0, r0⟩ := trodAll_cons hA
  obtain ⟨v1, vs1, d1, ds1, p1, q1, rfl, rfl, rfl, h1, r1⟩ := trodAll_cons r0
  obtain ⟨rfl, rfl, rfl⟩ := trodAll_nil r1
  obtain rfl : args = #[v0, v1] := by cases args; simp_all
  obtain ⟨q, l, cap, rfl, h, _⟩ := open_bytes (hval 0 _ _ rfl rfl) h0
  obtain ⟨n, rfl, -, -, w2⟩ := open_int Try.underlying3 (hval 1 _ _ rfl rfl) h1
  exact dotDecodes_walk q l cap n W h (bounds_of_wf w2).2 (MaxLenAt.of hsh)

set_option maxRecDepth 100000 in
theorem dotDecodes_holds : Rows.DotDecodesSaid :=
  OpenClaim.holds_of_wide 4 Try.f4 rfl rfl rfl rfl rfl rfl rfl ⟨rfl, rfl, rfl, rfl, rfl⟩ rfl rfl rfl rfl rfl (by kernel_rfl) Try.func4 (by kernel_rfl)
    (of_decide_eq_true (by kernel_rfl)) (by unfold Func.isWrapper; first | (rw [if_pos (by decide +kernel)]; kernel_rfl) | (rw [if_neg (by decide +kernel)]; exact ⟨rfl, rfl⟩))
    (fun os started H enc _ => law_lift2 (s := Rows.dotDecodesSpec) Try.func4 (by kernel_rfl) (by kernel_rfl) rfl (fun H ds hd => by match ds, hd with | [_, _], _ => rfl) (by kernel_rfl) os started H enc
      (ChangeSpec.witness6 (enc := enc) (C := Try.checked) false ⟨#[], #[.slice none 0 0, .int .i64 0], []⟩ 8 (by kernel_rfl) (by kernel_rfl) (by kernel_rfl) (by kernel_rfl)) dotDecodes_law)
#print axioms dotDecodes_holds
end Go.Proofs.Ytnoiaeajpjhldaa
