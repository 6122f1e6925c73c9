/-
  ref27: Say, Rcpt, Queued, Given, SameReply: what they give.
-/
import Derived.Test.YtalkglheaadigaaDoorRules
import Derived.Test.YtalkglheaadigaaDoorStable
namespace Go.Proofs.YtalkglheaadigaaDoor
set_option maxRecDepth 20000
open Go.ChangeShapes Go.WideShapes Go.ChangeAt Go.RowKit

theorem rsay_calls (code : Int) (enh line : ByteArray) (w : World) : Calls Tryd.prog 38 #[.int .i64 code, .string enh, .string line] w (OneLine code enh line w) := by
  go_enter Tryd.func38, Tryd.ntmps38
  go_wp2
  go_returns
  exact ⟨_, rfl, by simp [go_sem], by omega, by simp, by (repeat' (first | (with_reducible exact Below.refl _ _) | (with_reducible refine Below.app ?_ ?_ _ _) | (with_reducible refine Below.alloc ?_ ?_ _) | (with_reducible refine Below.drew ?_) | (with_reducible refine Below.setCell ?_ ?_ _) | (with_reducible assumption) | omega | (simp; omega) | (simp; done)))⟩

set_option maxHeartbeats 400000 in
theorem rrcpt_calls (users e : Int) (room : Bool) (w : World) : Calls Tryd.prog 12 #[.int .i64 users, .int .i64 e, .bool room] w (OneLine (rcptCode users e room) (rcptEnh users e room) (rcptLine users e room) w) := by
  cases room
  all_goals
    go_enter Tryd.func12, Tryd.ntmps12
    go_wp2_with first
      | (go_at_call 38; ((refine (rsay_calls _ _ _ _).mono ?_); rintro r w1 ⟨p, rfl, hc, h1, h2, hb⟩; obtain ⟨bs, d, rfl⟩ := of_below hb; clear hb))
    all_goals
      go_returns
      refine say_out2 ?_ ?_ ?_ (by simp) (by (repeat' (first | (with_reducible exact Below.refl _ _) | (with_reducible refine Below.app ?_ ?_ _ _) | (with_reducible refine Below.alloc ?_ ?_ _) | (with_reducible refine Below.drew ?_) | (with_reducible refine Below.setCell ?_ ?_ _) | (with_reducible assumption) | omega | (simp; omega) | (simp; done)))) (by simp) hc h1 h2
      all_goals (go_light; simp_all [rcptCode, rcptEnh, rcptLine])

set_option maxHeartbeats 400000 in
theorem rqueued_calls (e : Int) (w : World) : Calls Tryd.prog 13 #[.int .i64 e] w (OneLine (queuedCode e) (queuedEnh e) (queuedLine e) w) := by
  go_enter Tryd.func13, Tryd.ntmps13
  go_wp2_with first
    | (go_at_call 38; ((refine (rsay_calls _ _ _ _).mono ?_); rintro r w1 ⟨p, rfl, hc, h1, h2, hb⟩; obtain ⟨bs, d, rfl⟩ := of_below hb; clear hb))
  all_goals
    go_returns
    refine say_out2 ?_ ?_ ?_ (by simp) (by (repeat' (first | (with_reducible exact Below.refl _ _) | (with_reducible refine Below.app ?_ ?_ _ _) | (with_reducible refine Below.alloc ?_ ?_ _) | (with_reducible refine Below.drew ?_) | (with_reducible refine Below.setCell ?_ ?_ _) | (with_reducible assumption) | omega | (simp; omega) | (simp; done)))) (by simp) hc h1 h2
    all_goals (go_light; simp_all [queuedCode, queuedEnh, queuedLine])

set_option maxHeartbeats 1000000 in
theorem rgiven_calls (p : Option Addr) (zs : List Int) (cap : Nat) (w : World) (hz : Hid (IntsAt w p zs)) (hl : zs.length ≤ 9223372036854775807) :
    Calls Tryd.prog 14 #[.slice p zs.length cap] w (OneLine (givenCode (firstBad zs)) (givenEnh (firstBad zs)) (givenLine (firstBad zs)) w) := by
  go_enter Tryd.func14, Tryd.ntmps14
  go_wp2
  go_loop [3] (fun i => ∃ k : Nat, k ≤ zs.length ∧ i = .int .i64 k ∧ Hid (firstBad zs = firstBad (zs.drop k))) (fun i => zs.length - (intOf i).toNat)
  case atStart => exact ⟨0, by omega, rfl, rfl⟩
  case round =>
    obtain ⟨k, hk, rfl, hr⟩ := hrel
    by_cases hlt : k < zs.length
    · obtain ⟨b, off, rfl, hb, hc⟩ := hz.out k hlt
      have hs := Lib.hid (drop_step 0 zs k hlt)
      generalize zs.getD k 0 = e at *
      by_cases h0 : e = 0
      · have h3 : Hid (firstBad zs = firstBad (zs.drop (k + 1))) := hr.out.trans (firstBad_skip hs.out h0)
        subst h0
        go_wp2
        go_round
        case rel => exact ⟨k + 1, by omega, by go_num, h3⟩
        case measure => simp [intOf]; omega
      · have h3 : Hid (firstBad zs = e) := hr.out.trans (firstBad_stop hs.out h0)
        go_wp2_with first
          | (go_at_call 38; ((refine (rsay_calls _ _ _ _).mono ?_); rintro r w1 ⟨p1, rfl, hc1, h1, h2, hb1⟩; obtain ⟨bs, d, rfl⟩ := of_below hb1; clear hb1))
          | (go_at_call 13; ((refine (rqueued_calls _ _).mono ?_); rintro r w1 ⟨p1, rfl, hc1, h1, h2, hb1⟩; obtain ⟨bs, d, rfl⟩ := of_below hb1; clear hb1))
        all_goals
          go_returns
          refine say_out2 ?_ ?_ ?_ (by simp) (by (repeat' (first | (with_reducible exact Below.refl _ _) | (with_reducible refine Below.app ?_ ?_ _ _) | (with_reducible refine Below.alloc ?_ ?_ _) | (with_reducible refine Below.drew ?_) | (with_reducible refine Below.setCell ?_ ?_ _) | (with_reducible assumption) | omega | (simp; omega) | (simp; done)))) (by simp) hc1 h1 h2
          all_goals (go_light; rw [h3.out]; simp_all [givenCode, givenEnh, givenLine, queuedCode, queuedEnh, queuedLine])
    · have h3 : Hid (firstBad zs = 0) := hr.out.trans (by rw [List.drop_of_length_le (by omega)]; rfl)
      go_wp2_with first
        | (go_at_call 38; ((refine (rsay_calls _ _ _ _).mono ?_); rintro r w1 ⟨p1, rfl, hc1, h1, h2, hb1⟩; obtain ⟨bs, d, rfl⟩ := of_below hb1; clear hb1))
      go_returns
      refine say_out2 ?_ ?_ ?_ (by simp) (by (repeat' (first | (with_reducible exact Below.refl _ _) | (with_reducible refine Below.app ?_ ?_ _ _) | (with_reducible refine Below.alloc ?_ ?_ _) | (with_reducible refine Below.drew ?_) | (with_reducible refine Below.setCell ?_ ?_ _) | (with_reducible assumption) | omega | (simp; omega) | (simp; done)))) (by simp) hc1 h1 h2
      all_goals (go_light; rw [h3.out]; rfl)

set_option maxHeartbeats 4000000 in
theorem sameReply_calls (code : Int) (e x : ByteArray) (p1 p2 : Nat) (w : World) (h1 : w.cell? ⟨p1, 0, none⟩ = some (.string x)) (h2 : w.cell? ⟨p2, 0, none⟩ = some (.string x)) :
    Calls Tryd.prog 11 #[.agg #[.int .i64 code, .string e, .slice (some ⟨p1, 0, none⟩) 1 1], .agg #[.int .i64 code, .string e, .slice (some ⟨p2, 0, none⟩) 1 1]] w fun r w' => r = .returned (.bool true) ∧ Below w.heap.size w w' := by
  have hb1 := World.block_lt_of_cell? w _ h1
  have hb2 := World.block_lt_of_cell? w _ h2
  go_enter Tryd.func11, Tryd.ntmps11
  go_wp2
  (apply wp_region_text 35; kernel_rfl; kernel_rfl; intro Fin hFin; (repeat (first | (apply text_run; exact rfl; (focus (intro bs d hF K hK; (repeat rw [app_app] at hK); (repeat rw [app_app]); (repeat rw [Array.append_assoc] at hK); (repeat rw [Array.append_assoc]); go_step; first  | (exfalso; assumption)  | (refine hK _ ?_; (repeat' (first | (with_reducible exact Below.refl _ _) | (with_reducible refine Below.app ?_ ?_ _ _) | (with_reducible refine Below.alloc ?_ ?_ _) | (with_reducible refine Below.drew ?_) | (with_reducible refine Below.setCell ?_ ?_ _) | (with_reducible assumption) | omega | (simp; omega) | (simp; done)))))); (try simp only [Act.put, List.setIfInBounds_toArray, List.set_cons_zero, List.set_cons_succ])) | (apply text_skip; exact rfl; (try simp only [Act.put, List.setIfInBounds_toArray, List.set_cons_zero, List.set_cons_succ])))); apply text_end; apply hFin; clear hFin Fin; intro bs d hfa)
  go_wp2
  go_returns
  exact ⟨rfl, by (repeat' (first | (with_reducible exact Below.refl _ _) | (with_reducible refine Below.app ?_ ?_ _ _) | (with_reducible refine Below.alloc ?_ ?_ _) | (with_reducible refine Below.drew ?_) | (with_reducible refine Below.setCell ?_ ?_ _) | (with_reducible assumption) | omega | (simp; omega) | (simp; done)))⟩
end Go.Proofs.YtalkglheaadigaaDoor
