/-
  ref07.Plain: what it gives.
-/
import Derived.Test.YtnoiaeajpjhldaaDotBackLaw
namespace Go.Proofs.Ytnoiaeajpjhldaa
open Go.ChangeShapes Go.WideShapes Go.ChangeAt Go.RowKit

theorem plain_at {l : List UInt8} {k : Nat} (h : k < l.length) : ∃ n L, (endN l k = -1 ∧ k + n = l.length ∧ plainQ (l.drop k) = (!decide (1000 < n + 2) && !bareL false L false && plainQ (l.drop (k + n))) ∨
      endN l k = ((k + n : Nat) : Int) ∧ plainQ (l.drop k) = (!decide (1000 < n) && !bareL false L false && plainQ (l.drop (k + n)))) ∧ (⟨l.toArray⟩ : ByteArray).extract k (k + n) = ⟨L.toArray⟩ ∧ L.length = n ∧ 0 < n ∧ k + n ≤ l.length := by
  have hne : l.drop k ≠ [] := by intro e; have := congrArg List.length e; simp at this; omega
  rcases endN_line l k with ⟨e1, e2, _⟩ | ⟨n, e1, e2, _⟩
  · have ht : (l.drop k).take (l.length - k) = l.drop k := List.take_of_length_le (by simp)
    have hk : k + (l.length - k) = l.length := by omega
    have hd : l.drop (k + (l.length - k)) = [] := List.drop_of_length_le (by omega)
    refine ⟨l.length - k, l.drop k, .inl ⟨e2, hk, ?_⟩, by rw [ext_take, ht], by simp, by omega, by omega⟩
    rw [plainQ_none hne e1, hd, List.length_drop]
    have : plainQ [] = true := by rw [plainQ]; rfl
    rw [this, Bool.and_true]
  · obtain ⟨p1, p2⟩ := endQ_le _ _ _ e1
    rw [List.length_drop] at p2
    refine ⟨n, (l.drop k).take n, .inr ⟨e2, ?_⟩, ext_take l k n, by simp; omega, p1, by omega⟩
    rw [plainQ_some e1, List.drop_drop]
set_option maxHeartbeats 4000000 in
theorem rplain_calls {q : Option Addr} {cap : Nat} {l : List UInt8} {w : World} (h : TextOf w (.slice q l.length cap) l) (hlen : l.length ≤ 100000000) :
    Calls Try.prog 20 #[.slice q l.length cap] w fun r w' => r = .returned (.bool (plainQ l)) ∧ w = w' := by
  have ht := h w (Below.refl _ _)
  have hsz : ∀ l : List UInt8, (⟨l.toArray⟩ : ByteArray).size = l.length := fun l => by show l.toArray.size = _; simp
  clear h
  generalize hP : plainQ l = R
  replace hP := Lib.hid hP
  go_enter Try.func20, Try.ntmps20
  go_wp2
  go_loop [4] (fun a => ∃ k : Nat, k ≤ l.length ∧ a = .int .i64 k ∧ Hid (plainQ (l.drop k) = R)) (fun a => l.length - (intOf a).toNat)
  case atStart => exact ⟨0, by omega, rfl, by unfold Hid; rw [← hP.out]; rfl⟩
  case round =>
    obtain ⟨k, hk, rfl, hr⟩ := hrel
    clear hP
    by_cases hlt : k < l.length
    · obtain ⟨n, L, hcase, hext, rfl, hpos, hle⟩ := plain_at hlt
      have he := end_calls ⟨l.toArray⟩ k (by rw [hsz]; omega) (by rw [hsz]; omega)
      rw [show (⟨l.toArray⟩ : ByteArray).data.toList = l from rfl] at he
      have hbr := fun w => bare_calls ⟨L.toArray⟩ false (by rw [hsz]; omega) w
      rw [show (⟨L.toArray⟩ : ByteArray).data.toList = L from rfl] at hbr
      generalize bareL false L false = B at *
      replace hbr := Lib.hid hbr
      rcases hcase with ⟨h1, h2, h3⟩ | ⟨h1, h3⟩
      · rw [h1] at he
        rw [hr.out] at h3
        rw [h2] at hext h3
        have hd : l.drop l.length = [] := List.drop_of_length_le (Nat.le_refl _)
        have hn : plainQ [] = true := by rw [plainQ]; rfl
        rw [hd, hn, Bool.and_true] at h3
        replace he := Lib.hid he
        by_cases hbig : 1000 < (l.length : Int) - k + 2
        · have hR : Hid (R = false) := by unfold Hid; rw [h3, decide_eq_true (by omega)]; rfl
          clear hr h3 h1 h2 hd hn
          go_wp2_with (go_at_call 22; ((refine (he.out _).mono ?_); rintro _ _ ⟨rfl, rfl⟩))
          go_returns
          exact ⟨rb hR.out.symm, rfl⟩
        · rw [decide_eq_false (by omega)] at h3
          replace h3 := Lib.hid h3
          have hz := Lib.hid (hd ▸ hn)
          clear hr h1 h2 hd hn
          cases B
          · have hR : Hid (plainQ (l.drop l.length) = R) := by unfold Hid; rw [h3.out, List.drop_of_length_le (Nat.le_refl _), plainQ]; rfl
            clear h3 hz
            go_wp2_with first
              | (go_at_call 22; ((refine (he.out _).mono ?_); rintro _ _ ⟨rfl, rfl⟩))
              | (go_at_call 24; ((refine (hbr.out _).mono ?_); rintro _ _ ⟨rfl, rfl⟩))
            go_round
            case rel => exact ⟨l.length, by omega, by go_num, hR⟩
            case measure => first | (simp [intOf]; done) | (simp [intOf]; omega)
          · have hR : Hid (R = false) := by unfold Hid; rw [h3.out]; rfl
            clear h3 hz
            go_wp2_with first
              | (go_at_call 22; ((refine (he.out _).mono ?_); rintro _ _ ⟨rfl, rfl⟩))
              | (go_at_call 24; ((refine (hbr.out _).mono ?_); rintro _ _ ⟨rfl, rfl⟩))
            go_returns
            exact ⟨rb hR.out.symm, rfl⟩
      · rw [h1] at he
        rw [hr.out] at h3
        replace he := Lib.hid he
        by_cases hbig : 1000 < (L.length : Int)
        · have hR : Hid (R = false) := by unfold Hid; rw [h3, decide_eq_true (by omega)]; rfl
          have hbig2 : 1000 < (k : Int) + L.length - k := by omega
          clear hr h3 h1
          go_wp2_with (go_at_call 22; ((refine (he.out _).mono ?_); rintro _ _ ⟨rfl, rfl⟩))
          go_returns
          exact ⟨rb hR.out.symm, rfl⟩
        · rw [decide_eq_false (by omega)] at h3
          replace h3 := Lib.hid h3
          have hbig2 : ¬ 1000 < (k : Int) + L.length - k := by omega
          clear hr h1
          cases B
          · have hR : Hid (plainQ (l.drop (k + L.length)) = R) := by unfold Hid; rw [h3.out]; simp
            clear h3
            go_wp2_with first
              | (go_at_call 22; ((refine (he.out _).mono ?_); rintro _ _ ⟨rfl, rfl⟩))
              | (go_at_call 24; ((refine (hbr.out _).mono ?_); rintro _ _ ⟨rfl, rfl⟩))
            go_round
            case rel => exact ⟨k + L.length, by omega, by go_num, hR⟩
            case measure => first | (simp [intOf]; done) | (simp [intOf]; omega)
          · have hR : Hid (R = false) := by unfold Hid; rw [h3.out]; rfl
            clear h3
            go_wp2_with first
              | (go_at_call 22; ((refine (he.out _).mono ?_); rintro _ _ ⟨rfl, rfl⟩))
              | (go_at_call 24; ((refine (hbr.out _).mono ?_); rintro _ _ ⟨rfl, rfl⟩))
            go_returns
            exact ⟨rb hR.out.symm, rfl⟩
    · have hke : k = l.length := by omega
      subst hke
      have hR : Hid (R = true) := by unfold Hid; rw [← hr.out, List.drop_of_length_le (Nat.le_refl _), plainQ]; rfl
      clear hr
      go_wp2
      go_returns
      exact ⟨rb hR.out.symm, rfl⟩
end Go.Proofs.Ytnoiaeajpjhldaa
