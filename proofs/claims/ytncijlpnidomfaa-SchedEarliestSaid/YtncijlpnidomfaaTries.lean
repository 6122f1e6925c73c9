/-
  sched.Tries: what it gives, and that this is the least number of failures behind which a message is expired.
-/
import Derived.Test.YtncijlpnidomfaaProg
import Derived.Test.YtncijlpnidomfaaBase
import Derived.Test.YtncijlpnidomfaaSched
namespace Go.Proofs.Ytncijlpnidomfaa
open Go.ChangeShapes Go.WideShapes Go.ChangeAt Go.RowKit

def triesGo (last : Int) : List Int → Int → Int → Int
  | [], left, n => if left ≤ 0 then n else n + (left + last - 1) / last
  | d :: r, left, n => if left ≤ 0 then n else triesGo last r (left - d) (n + 1)
def lastOf (zs : List Int) : Int := zs.getD (zs.length - 1) 0
def tries (zs : List Int) (e : Int) : Int := if good zs e = true then triesGo (lastOf zs) zs e 0 else 0
theorem tries_good {zs : List Int} {e : Int} (h : good zs e = true) : triesGo (lastOf zs) zs e 0 = tries zs e := by simp [tries, h]
theorem tries_bad {zs : List Int} {e : Int} (h : ¬ good zs e = true) : tries zs e = 0 := by simp [tries, h]
theorem good_parts {zs : List Int} {e : Int} (h : good zs e = true) : zs.all okd = true ∧ 1 ≤ zs.length ∧ zs.length ≤ 16 ∧ 1 ≤ e ∧ e ≤ 1099511627776 := by
  unfold good at h; grind
theorem triesGo_stop (last : Int) (l : List Int) {left : Int} (n : Int) (h : left ≤ 0) : triesGo last l left n = n := by
  cases l <;> simp [triesGo, h]
theorem triesGo_step {last d : Int} {l r : List Int} {left : Int} (n : Int) (hl : l = d :: r) (h : 0 < left) : triesGo last l left n = triesGo last r (left - d) (n + 1) := by
  subst hl; simp only [triesGo]; rw [if_neg (by omega)]
theorem triesGo_end {last : Int} {l : List Int} {left : Int} (n : Int) (hl : l = []) (h : 0 < left) : triesGo last l left n = n + (left + last - 1) / last := by
  subst hl; simp only [triesGo]; rw [if_neg (by omega)]

set_option maxHeartbeats 1000000 in
theorem tries_calls (p : Option Addr) (zs : List Int) (cap : Nat) (e : Int) (w : World) (hz : Hid (IntsAt w p zs)) (hl : zs.length ≤ 9223372036854775807) :
    Calls Try.prog 7 #[.agg #[.slice p zs.length cap, .int .i64 e]] w fun r w' => r = .returned (.int .i64 (tries zs e)) ∧ Below w.heap.size w w' := by
  by_cases hg : good zs e = true
  · obtain ⟨g1, g2, g3, g4, g5⟩ := good_parts hg
    have H := Lib.hid (tries_good hg)
    have G1 := Lib.hid g1
    clear g1
    go_enter Try.func7, Try.ntmps7
    go_wp2_with (go_at_call 11; ((refine (good_calls _ _ _ _ _ (Lib.hid (hz.out.below (by (repeat' (first | (with_reducible exact Below.refl _ _) | (with_reducible refine Below.app ?_ ?_ _ _) | (with_reducible refine Below.alloc ?_ ?_ _) | (with_reducible refine Below.drew ?_) | (with_reducible refine Below.setCell ?_ ?_ _) | (with_reducible assumption) | omega | (simp; omega) | (simp; done)))) (Nat.le_refl _))) hl).mono ?_); rintro r w1 ⟨rfl, hb⟩; obtain ⟨bs, bsd, rfl⟩ := of_below hb; clear hb))
    clear hg
    go_loop [3, 4, 16] (fun l n i => ∃ (k : Nat) (left : Int), k ≤ zs.length ∧ i = .int .i64 k ∧ n = .int .i64 k ∧ l = .int .i64 left ∧ -2147483648 ≤ left ∧ left ≤ 1099511627776 ∧ Hid (triesGo (lastOf zs) (zs.drop k) left k = tries zs e)) (fun _ _ i => zs.length - (intOf i).toNat)
    case atStart => exact ⟨0, e, by omega, rfl, rfl, rfl, by omega, by omega, H⟩
    case round =>
      obtain ⟨k, left, hk, rfl, rfl, rfl, b1, b2, hr⟩ := hrel
      by_cases hlt : k < zs.length
      · obtain ⟨b, off, rfl, hb, hc⟩ := hz.out k hlt
        have hs := Lib.hid (drop_step 0 zs k hlt)
        obtain ⟨d1, d2⟩ := getD_all G1.out k hlt
        generalize zs.getD k 0 = d at *
        go_wp2
        all_goals first
          | (go_returns; refine ⟨ri ?_, by (repeat' (first | (with_reducible exact Below.refl _ _) | (with_reducible refine Below.app ?_ ?_ _ _) | (with_reducible refine Below.alloc ?_ ?_ _) | (with_reducible refine Below.drew ?_) | (with_reducible refine Below.setCell ?_ ?_ _) | (with_reducible assumption) | omega | (simp; omega) | (simp; done)))⟩; go_light; rw [← hr.out, triesGo_stop _ _ _ (by omega)])
          | (go_round
             case rel => exact ⟨k+1, left - d, by omega, by go_num, by go_num, rfl, by omega, by omega, by go_light; unfold Hid; rw [← hr.out, triesGo_step _ hs.out (by omega)]; rfl⟩
             case measure => simp [intOf]; omega)
      · have hd : Hid (zs.drop k = []) := List.drop_of_length_le (by omega)
        obtain ⟨b, off, rfl, hb, hc⟩ := hz.out (zs.length - 1) (by omega)
        have e1 : ((zs.length : Int) - 1).toNat = zs.length - 1 := by omega
        obtain ⟨l1, l2⟩ := getD_all G1.out (zs.length - 1) (by omega)
        have hlast : Hid (lastOf zs = zs.getD (zs.length - 1) 0) := rfl
        generalize zs.getD (zs.length - 1) 0 = la at *
        rcases Int.lt_or_le 0 left with hpos | hneg
        · have q1 : 0 ≤ (left + la - 1) / la := Int.ediv_nonneg (by omega) (by omega)
          have q2 : (left + la - 1) / la ≤ left + la - 1 := Int.ediv_le_self _ (by omega)
          go_wp2
          go_returns; refine ⟨ri ?_, by (repeat' (first | (with_reducible exact Below.refl _ _) | (with_reducible refine Below.app ?_ ?_ _ _) | (with_reducible refine Below.alloc ?_ ?_ _) | (with_reducible refine Below.drew ?_) | (with_reducible refine Below.setCell ?_ ?_ _) | (with_reducible assumption) | omega | (simp; omega) | (simp; done)))⟩; go_light
          rw [← hr.out, triesGo_end _ hd.out hpos, hlast.out]
        · go_wp2
          go_returns; refine ⟨ri ?_, by (repeat' (first | (with_reducible exact Below.refl _ _) | (with_reducible refine Below.app ?_ ?_ _ _) | (with_reducible refine Below.alloc ?_ ?_ _) | (with_reducible refine Below.drew ?_) | (with_reducible refine Below.setCell ?_ ?_ _) | (with_reducible assumption) | omega | (simp; omega) | (simp; done)))⟩; go_light
          rw [← hr.out, triesGo_stop _ _ _ hneg]
  · have H := Lib.hid (tries_bad hg)
    go_enter Try.func7, Try.ntmps7
    go_wp2_with (go_at_call 11; ((refine (good_calls _ _ _ _ _ (Lib.hid (hz.out.below (by (repeat' (first | (with_reducible exact Below.refl _ _) | (with_reducible refine Below.app ?_ ?_ _ _) | (with_reducible refine Below.alloc ?_ ?_ _) | (with_reducible refine Below.drew ?_) | (with_reducible refine Below.setCell ?_ ?_ _) | (with_reducible assumption) | omega | (simp; omega) | (simp; done)))) (Nat.le_refl _))) hl).mono ?_); rintro r w1 ⟨rfl, hb⟩; obtain ⟨bs, bsd, rfl⟩ := of_below hb; clear hb))
    go_returns; refine ⟨ri ?_, by (repeat' (first | (with_reducible exact Below.refl _ _) | (with_reducible refine Below.app ?_ ?_ _ _) | (with_reducible refine Below.alloc ?_ ?_ _) | (with_reducible refine Below.drew ?_) | (with_reducible refine Below.setCell ?_ ?_ _) | (with_reducible assumption) | omega | (simp; omega) | (simp; done)))⟩; exact H.out.symm
end Go.Proofs.Ytncijlpnidomfaa
