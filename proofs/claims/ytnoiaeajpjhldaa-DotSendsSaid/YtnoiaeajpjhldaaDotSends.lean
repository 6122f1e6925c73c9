/-
  dot.DotSends answers true at every input: any message as it is sent is the document's, and so is how many line ends it has.
-/
import Derived.Test.YtnoiaeajpjhldaaAwake07
import Derived.Test.YtnoiaeajpjhldaaBytesArg
import Derived.Test.YtnoiaeajpjhldaaRefSend07
import Derived.Test.YtnoiaeajpjhldaaLinesLaw
import Derived.Test.YtnoiaeajpjhldaaFresh
namespace Go.Proofs.Ytnoiaeajpjhldaa
open Go.ChangeMaps Go.ChangeShapes Go.WideShapes Go.ChangeAt Go.RowKit

theorem rsend_text {w : World} {q : Option Addr} {cap : Nat} {l : List UInt8} (h : BytesAt w q cap l) (hlen : l.length ≤ 100000000) :
    Calls Try.prog 10 #[.slice q l.length cap] w fun r w' => ∃ p c, r = .returned (.slice p (sendP l).length c) ∧ TextOf w' (.slice p (sendP l).length c) (sendP l) ∧ Below w.heap.size w w' :=
  (rsend_calls h.textOf hlen).mono fun _ _ ⟨_, c, h1, _, h2, h3⟩ => ⟨_, c, h1, h2.textOf, h3⟩
set_option maxRecDepth 20000 in
set_option maxHeartbeats 8000000 in
theorem dotSends_walk (q : Option Addr) (l : List UInt8) (cap : Nat) (w : World) (h : BytesAt w q cap l) (hmx : MaxLenAt w) : Calls Try.prog 3 #[.slice q l.length cap] w fun r w' => r = .returned (.bool true) ∧ Below w.heap.size w w' := by
  have hcap := h.cap
  have haw := Lib.hid (awake07 hmx)
  by_cases hbig : l.length ≤ 3000
  · have hb2 : ¬ 3000 < (l.length : Int) := by omega
    have c1 := fun (W : World) (hb : Below w.heap.size w W) => send_text (h.below hb) (by omega)
    have c2 := fun (W : World) (hb : Below w.heap.size w W) => rsend_text (h.below hb) (by omega)
    have c3 := fun (W : World) (hb : Below w.heap.size w W) => lines_calls (h.below hb) (by omega) (hmx.below hb)
    have c4 := fun (W : World) (hb : Below w.heap.size w W) => rlines_calls (h.below hb).textOf (by omega)
    rw [lines_law] at c3
    generalize sendP l = S at *
    generalize cntQ l = C at *
    replace c1 := Lib.hid c1
    replace c2 := Lib.hid c2
    replace c3 := Lib.hid c3
    replace c4 := Lib.hid c4
    clear h hmx hbig
    go_enter Try.func3, Try.ntmps3
    go_wp2_with (go_at_call 8; ((refine (haw.out).mono ?_); rintro r w1 ⟨rfl, hb⟩; obtain ⟨b1, b1d, rfl⟩ := of_below hb; clear hb))
    (apply wp_region_text 14; kernel_rfl; kernel_rfl; intro Fin hFin; (repeat (first | (apply text_run; exact rfl; (focus (intro bs d hF K hK; (repeat rw [app_app] at hK); (repeat rw [app_app]); (repeat rw [Array.append_assoc] at hK); (repeat rw [Array.append_assoc]); go_step; first  | (go_at_call 11; ((with_reducible refine (c3.out _ (by (repeat' (first | (with_reducible exact Below.refl _ _) | (with_reducible refine Below.app ?_ ?_ _ _) | (with_reducible refine Below.alloc ?_ ?_ _) | (with_reducible refine Below.drew ?_) | (with_reducible refine Below.setCell ?_ ?_ _) | (with_reducible assumption) | omega | (simp; omega) | (simp; done))))).mono ?_); rintro r w1 ⟨rfl, hb⟩; simp only []; exact hK _ hb)) | (go_at_call 12; ((with_reducible refine (c4.out _ (by (repeat' (first | (with_reducible exact Below.refl _ _) | (with_reducible refine Below.app ?_ ?_ _ _) | (with_reducible refine Below.alloc ?_ ?_ _) | (with_reducible refine Below.drew ?_) | (with_reducible refine Below.setCell ?_ ?_ _) | (with_reducible assumption) | omega | (simp; omega) | (simp; done))))).mono ?_); rintro r w1 ⟨rfl, rfl⟩; simp only []; exact hK _ (Below.refl _ _)))  | (refine hK _ ?_; (repeat' (first | (with_reducible exact Below.refl _ _) | (with_reducible refine Below.app ?_ ?_ _ _) | (with_reducible refine Below.alloc ?_ ?_ _) | (with_reducible refine Below.drew ?_) | (with_reducible refine Below.setCell ?_ ?_ _) | (with_reducible assumption) | omega | (simp; omega) | (simp; done)))))); (try simp only [Act.put, List.setIfInBounds_toArray, List.set_cons_zero, List.set_cons_succ]))  | (apply text_has (fun v w => TextOf w v S); exact rfl; exact TextOf.mono; exact rfl; (focus (intro bs d hF K hK; (repeat rw [app_app] at hK); (repeat rw [app_app]); (repeat rw [Array.append_assoc] at hK); (repeat rw [Array.append_assoc]); go_step; first | (go_at_call 9; ((with_reducible refine (c1.out _ (by (repeat' (first | (with_reducible exact Below.refl _ _) | (with_reducible refine Below.app ?_ ?_ _ _) | (with_reducible refine Below.alloc ?_ ?_ _) | (with_reducible refine Below.drew ?_) | (with_reducible refine Below.setCell ?_ ?_ _) | (with_reducible assumption) | omega | (simp; omega) | (simp; done))))).mono ?_); rintro r w1 ⟨p, c, rfl, ht, hb⟩; simp only []; exact hK _ _ hb ht)) | (go_at_call 10; ((with_reducible refine (c2.out _ (by (repeat' (first | (with_reducible exact Below.refl _ _) | (with_reducible refine Below.app ?_ ?_ _ _) | (with_reducible refine Below.alloc ?_ ?_ _) | (with_reducible refine Below.drew ?_) | (with_reducible refine Below.setCell ?_ ?_ _) | (with_reducible assumption) | omega | (simp; omega) | (simp; done))))).mono ?_); rintro r w1 ⟨p, c, rfl, ht, hb⟩; simp only []; exact hK _ _ hb ht)))); intro v; (try simp only [Act.put, factOf, List.setIfInBounds_toArray, List.set_cons_zero, List.set_cons_succ])) | (apply text_run; exact rfl; (focus (intro bs d hF K hK; (repeat rw [app_app] at hK); (repeat rw [app_app]); (repeat rw [Array.append_assoc] at hK); (repeat rw [Array.append_assoc]); have ht := hF.1 rfl _ (Below.refl _ _); (try simp only [app_app] at ht); go_step; refine hK _ ?_; (repeat' (first | (with_reducible exact Below.refl _ _) | (with_reducible refine Below.app ?_ ?_ _ _) | (with_reducible refine Below.alloc ?_ ?_ _) | (with_reducible refine Below.drew ?_) | (with_reducible refine Below.setCell ?_ ?_ _) | (with_reducible assumption) | omega | (simp; omega) | (simp; done))))); (try simp only [Act.put, List.setIfInBounds_toArray, List.set_cons_zero, List.set_cons_succ]))  | (apply text_skip; exact rfl; (try simp only [Act.put, List.setIfInBounds_toArray, List.set_cons_zero, List.set_cons_succ])))); apply text_end; apply hFin; clear hFin Fin; intro bs d hfa)
    go_wp2
    go_returns; exact ⟨rfl, by (repeat' (first | (with_reducible exact Below.refl _ _) | (with_reducible refine Below.app ?_ ?_ _ _) | (with_reducible refine Below.alloc ?_ ?_ _) | (with_reducible refine Below.drew ?_) | (with_reducible refine Below.setCell ?_ ?_ _) | (with_reducible assumption) | omega | (simp; omega) | (simp; done)))⟩
  · have hb2 : 3000 < (l.length : Int) := by omega
    clear h hmx hbig
    go_enter Try.func3, Try.ntmps3
    go_wp2_with (go_at_call 8; ((refine (haw.out).mono ?_); rintro r w1 ⟨rfl, hb⟩; obtain ⟨b1, b1d, rfl⟩ := of_below hb; clear hb))
    all_goals (go_returns; exact ⟨rfl, by (repeat' (first | (with_reducible exact Below.refl _ _) | (with_reducible refine Below.app ?_ ?_ _ _) | (with_reducible refine Below.alloc ?_ ?_ _) | (with_reducible refine Below.drew ?_) | (with_reducible refine Below.setCell ?_ ?_ _) | (with_reducible assumption) | omega | (simp; omega) | (simp; done)))⟩)

theorem dotSends_law : LawWalk2 3 Try.f3 := by
  intro H enc W base args ds ps hA hval hsh
  rw [Try.params3] at hA hval
  obtain ⟨v0, vs0, d0, ds0, p0, q0, hargs, rfl, rfl, h0, r0⟩ := trodAll_cons hA
  obtain ⟨rfl, rfl, rfl⟩ := trodAll_nil r0
  obtain rfl : args = #[v0] := by cases args; simp_all
  obtain ⟨q, l, cap, rfl, h, _⟩ := open_bytes (hval 0 _ _ rfl rfl) h0
  exact dotSends_walk q l cap W h (MaxLenAt.of hsh)

set_option maxRecDepth 100000 in
theorem dotSends_holds : Rows.DotSendsSaid :=
  OpenClaim.holds_of_wide 3 Try.f3 rfl rfl rfl rfl rfl rfl rfl ⟨rfl, rfl, rfl, rfl, rfl⟩ rfl rfl rfl rfl rfl (by kernel_rfl) Try.func3 (by kernel_rfl)
    (of_decide_eq_true (by kernel_rfl)) (by unfold Func.isWrapper; first | (rw [if_pos (by decide +kernel)]; kernel_rfl) | (rw [if_neg (by decide +kernel)]; exact ⟨rfl, rfl⟩))
    (fun os started H enc _ => law_lift2 (s := Rows.dotSendsSpec) Try.func3 (by kernel_rfl) (by kernel_rfl) rfl (fun H ds hd => by match ds, hd with | [_], _ => rfl) (by kernel_rfl) os started H enc
      (ChangeSpec.witness6 (enc := enc) (C := Try.checked) false ⟨#[], #[.slice none 0 0], []⟩ 8 (by kernel_rfl) (by kernel_rfl) (by kernel_rfl) (by kernel_rfl)) dotSends_law)
#print axioms dotSends_holds
end Go.Proofs.Ytnoiaeajpjhldaa
