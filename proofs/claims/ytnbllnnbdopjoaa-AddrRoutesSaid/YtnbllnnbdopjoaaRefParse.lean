/-
  ref05.Parse: what it gives.
-/
import Derived.Test.YtnbllnnbdopjoaaRefMailbox
namespace Go.Proofs.Ytnbllnnbdopjoaa
open Go.ChangeShapes Go.WideShapes Go.ChangeAt Go.RowKit

def ParseIs (v : ByteArray × ByteArray × Int) (w : World) (r : Ending) (w' : World) : Prop :=
  r = .returned (.tuple #[.agg #[.string v.1, .string v.2.1], .int .i64 v.2.2]) ∧ Below w.heap.size w w'
theorem ParseIs.of {v v' : ByteArray × ByteArray × Int} {w : World} {r : Ending} {w' : World} (h : v' = v) (h1 : r = .returned (.tuple #[.agg #[.string v.1, .string v.2.1], .int .i64 v.2.2])) (h2 : Below w.heap.size w w') : ParseIs v' w r w' := by subst h; exact ⟨h1, h2⟩
theorem mailboxP_ge {l t : List UInt8} {d k : Nat} (h : mailboxP l = some (t, d, k)) : k ≤ l.length ∧ d ≤ k ∧ t.length ≤ k := by
  have h0 := mailboxP_le h
  unfold mailboxP at h
  split at h
  · cases h
  · rename_i t' k' hl
    have h1 := localP_pos hl
    split at h
    · cases hd : domP (l.drop (k' + 1)) with
      | none => rw [hd] at h; cases h
      | some d' => rw [hd] at h; cases h; exact ⟨h0, by omega, by omega⟩
    · cases h

set_option maxHeartbeats 4000000 in
theorem rparse_calls (s : ByteArray) (hs : s.size ≤ 1000000000000) (w : World) : Calls Try.prog 10 #[.string s] w (ParseIs (parseP s) w) := by
  have hlen : s.data.toList.length = s.size := by simp
  have hmb := rmailbox_calls s hs
  generalize hG : parseP s = G
  unfold parseP at hG
  unfold gotP at hmb
  cases hm : mailboxP s.data.toList with
  | none =>
    rw [hm] at hmb hG
    simp only [] at hmb
    replace hmb := Lib.hid hmb
    replace hG := Lib.hid hG
    clear hm
    go_enter Try.func10, Try.ntmps10
    go_wp2_with (go_at_call 26; ((refine (hmb.out _).mono ?_); rintro _ w1 ⟨rfl, hbw⟩; obtain ⟨bs1, d1, rfl⟩ := of_below hbw; clear hbw))
    go_returns
    exact .of hG.out.symm rfl (by (repeat' (first | (with_reducible exact Below.refl _ _) | (with_reducible refine Below.app ?_ ?_ _ _) | (with_reducible refine Below.alloc ?_ ?_ _) | (with_reducible refine Below.drew ?_) | (with_reducible refine Below.setCell ?_ ?_ _) | (with_reducible assumption) | omega | (simp; omega) | (simp; done))))
  | some x =>
    obtain ⟨t, d, k⟩ := x
    have hk := mailboxP_ge hm
    rw [hm] at hmb hG
    simp only [] at hmb
    simp only [] at hG
    rw [hlen] at hk
    clear hm
    by_cases hks : k = s.size
    · have hks2 : ((k : Int) == (s.size : Int)) = true := by simp; omega
      have hks3 : ((k : Int) != (s.size : Int)) = false := by simp; omega
      rw [if_pos hks] at hG
      by_cases h1 : 64 < t.length ∨ 64 < d
      · rw [if_pos h1] at hG hmb
        replace hmb := Lib.hid hmb
        replace hG := Lib.hid hG
        clear h1 hks
        go_enter Try.func10, Try.ntmps10
        go_wp2_with (go_at_call 26; ((refine (hmb.out _).mono ?_); rintro _ w1 ⟨rfl, hbw⟩; obtain ⟨bs1, d1, rfl⟩ := of_below hbw; clear hbw))
        refine wp_apped ?_
        (apply wp_region_ph0 5; kernel_rfl; (intro Fin hFin; (repeat (first | (apply ph_here_none; exact rfl; exact rfl; exact rfl; (focus (intro bs d hF K hK; go_step; first  | (refine hK _ ?_; (repeat' (first | (with_reducible exact Below.refl _ _) | (with_reducible refine Below.app ?_ ?_ _ _) | (with_reducible refine Below.alloc ?_ ?_ _) | (with_reducible refine Below.drew ?_) | (with_reducible refine Below.setCell ?_ ?_ _) | (with_reducible assumption) | omega | (simp; omega) | (simp; done))); done)))) | (apply ph_any; exact rfl; (focus (intro wq hF K hK; go_step; first  | (refine hK _ ?_; exact Below.refl _ _))); (try simp only [Act.put, List.setIfInBounds_toArray, List.set_cons_zero, List.set_cons_succ])) | (apply ph_here; exact rfl; exact rfl; (focus (intro bs d hF K hK; go_step; first  | (refine hK _ ?_; (repeat' (first | (with_reducible exact Below.refl _ _) | (with_reducible refine Below.app ?_ ?_ _ _) | (with_reducible refine Below.alloc ?_ ?_ _) | (with_reducible refine Below.drew ?_) | (with_reducible refine Below.setCell ?_ ?_ _) | (with_reducible assumption) | omega | (simp; omega) | (simp; done))); done))); (try simp only [Act.put, List.setIfInBounds_toArray, List.set_cons_zero, List.set_cons_succ])) | (apply ph_skip_none; exact rfl; exact rfl) | (apply ph_skip; exact rfl; (try simp only [Act.put, List.setIfInBounds_toArray, List.set_cons_zero, List.set_cons_succ])))); apply ph_end; refine hFin _ _ _ _ _ rfl ?_; clear hFin Fin; intro hpsz bs d hfa; clear hpsz); rotate_left; kernel_rfl)
        go_wp2
        go_returns
        exact .of hG.out.symm rfl (by (repeat' (first | (with_reducible exact Below.refl _ _) | (with_reducible refine Below.app ?_ ?_ _ _) | (with_reducible refine Below.alloc ?_ ?_ _) | (with_reducible refine Below.drew ?_) | (with_reducible refine Below.setCell ?_ ?_ _) | (with_reducible assumption) | omega | (simp; omega) | (simp; done))))
      · rw [if_neg h1] at hG hmb
        replace hmb := Lib.hid hmb
        replace hG := Lib.hid hG
        clear h1 hks
        go_enter Try.func10, Try.ntmps10
        go_wp2_with (go_at_call 26; ((refine (hmb.out _).mono ?_); rintro _ w1 ⟨rfl, hbw⟩; obtain ⟨bs1, d1, rfl⟩ := of_below hbw; clear hbw))
        go_returns
        exact .of hG.out.symm rfl (by (repeat' (first | (with_reducible exact Below.refl _ _) | (with_reducible refine Below.app ?_ ?_ _ _) | (with_reducible refine Below.alloc ?_ ?_ _) | (with_reducible refine Below.drew ?_) | (with_reducible refine Below.setCell ?_ ?_ _) | (with_reducible assumption) | omega | (simp; omega) | (simp; done))))
    · have hks2 : ((k : Int) == (s.size : Int)) = false := by simp; omega
      have hks3 : ((k : Int) != (s.size : Int)) = true := by simp; omega
      rw [if_neg hks] at hG
      generalize (if 64 < t.length ∨ 64 < d then (4 : Int) else 0) = e at hmb
      replace hmb := Lib.hid hmb
      replace hG := Lib.hid hG
      clear hks
      go_enter Try.func10, Try.ntmps10
      go_wp2_with (go_at_call 26; ((refine (hmb.out _).mono ?_); rintro _ w1 ⟨rfl, hbw⟩; obtain ⟨bs1, d1, rfl⟩ := of_below hbw; clear hbw))
      all_goals
        go_returns
        exact .of hG.out.symm rfl (by (repeat' (first | (with_reducible exact Below.refl _ _) | (with_reducible refine Below.app ?_ ?_ _ _) | (with_reducible refine Below.alloc ?_ ?_ _) | (with_reducible refine Below.drew ?_) | (with_reducible refine Below.setCell ?_ ?_ _) | (with_reducible assumption) | omega | (simp; omega) | (simp; done))))
end Go.Proofs.Ytnbllnnbdopjoaa
