/-
  ref10.end: the place of the first CR LF from a place on.
-/
import Derived.Test.YtpoaegcaaflogaaDoorHeadNext
import Derived.Test.YtpoaegcaaflogaaDoorHeadGood
namespace Go.Proofs.YtpoaegcaaflogaaDoor
open Go.ChangeShapes Go.WideShapes Go.ChangeAt Go.RowKit

/-- ref10.end's answer, from a place on. -/
def endP (l : List UInt8) (k : Nat) : Int := match endQ false (l.drop k) with | some n => ((k + n : Nat) : Int) - 2 | none => -1
theorem endP_hit {l : List UInt8} {k : Nat} (h : k + 1 < l.length) (h1 : l[k] = 13) (h2 : l[k + 1] = 10) : endP l k = (k : Int) := by
  unfold endP
  rw [List.drop_eq_getElem_cons (by omega), List.drop_eq_getElem_cons h, crlf_two, if_pos ⟨h1, h2⟩]
  simp
theorem endP_go {l : List UInt8} {k : Nat} (h : k + 1 < l.length) (h1 : ¬ (l[k] = 13 ∧ l[k + 1] = 10)) : endP l k = endP l (k + 1) := by
  unfold endP
  rw [List.drop_eq_getElem_cons (i := k) (by omega), List.drop_eq_getElem_cons h, crlf_two, if_neg h1]
  cases endQ false (l[k + 1] :: l.drop (k + 1 + 1)) with
  | none => rfl
  | some n => simp; omega
theorem endP_end {l : List UInt8} {k : Nat} (h : l.length ≤ k + 1) : endP l k = -1 := by
  unfold endP
  rcases Nat.lt_or_ge k l.length with h1 | h1
  · rw [List.drop_eq_getElem_cons h1, List.drop_of_length_le h, endQ, if_neg (by simp), endQ]; rfl
  · rw [List.drop_of_length_le h1, endQ]
set_option maxHeartbeats 4000000 in
theorem end10_calls (l : List UInt8) (from0 : Nat) (hs : l.length ≤ 100000000) (hf : from0 ≤ l.length) (w : World) : Calls Tryd.prog 32 #[.string ⟨l.toArray⟩, .int .i64 (from0 : Int)] w fun r w' => r = .returned (.int .i64 (endP l from0)) ∧ w = w' := by
  generalize hR : endP l from0 = R
  replace hR := Lib.hid hR
  have hsz : (⟨l.toArray⟩ : ByteArray).size = l.length := by show l.toArray.size = _; simp
  go_enter Tryd.func32, Tryd.ntmps32
  go_wp2
  go_loop [5] (fun i => ∃ k : Nat, k ≤ l.length ∧ i = .int .i64 k ∧ Hid (endP l k = R)) (fun i => l.length - (intOf i).toNat)
  case atStart => exact ⟨from0, hf, rfl, hR⟩
  case round =>
    obtain ⟨k, hk, rfl, hr⟩ := hrel
    clear hR
    by_cases hlt : k + 1 < l.length
    · have hlt2 : (k : Int) + 1 < l.length := by omega
      have g1 : (⟨l.toArray⟩ : ByteArray)[k]'(by omega) = l[k] := rfl
      have g2 : (⟨l.toArray⟩ : ByteArray)[k + 1]'(by omega) = l[k + 1] := rfl
      have hgo := fun h => (endP_go hlt h).symm.trans hr.out
      have hhit := fun a b => (endP_hit hlt a b).symm.trans hr.out
      clear hr
      generalize l[k] = c1 at *
      generalize l[k + 1] = c2 at *
      cases h13 : ((c1.toNat : Int) == 13)
      · have hn : ¬ c1 = 13 := by intro e; rw [e] at h13; simp at h13
        have hR : Hid (endP l (k + 1) = R) := hgo (fun h => hn h.1)
        clear hgo hhit hn
        go_wp2
        go_round
        case rel => exact ⟨k + 1, by omega, by go_num, hR⟩
        case measure => first | (simp [intOf]; done) | (simp [intOf]; omega)
      · have he : c1 = 13 := by rw [← UInt8.toNat_inj]; simp at h13 ⊢; omega
        cases h10 : ((c2.toNat : Int) == 10)
        · have hn : ¬ c2 = 10 := by intro e; rw [e] at h10; simp at h10
          have hR : Hid (endP l (k + 1) = R) := hgo (fun h => hn h.2)
          clear hgo hhit hn he
          go_wp2
          go_round
          case rel => exact ⟨k + 1, by omega, by go_num, hR⟩
          case measure => first | (simp [intOf]; done) | (simp [intOf]; omega)
        · have he2 : c2 = 10 := by rw [← UInt8.toNat_inj]; simp at h10 ⊢; omega
          have hR : Hid ((k : Int) = R) := hhit he he2
          clear hgo hhit he he2
          go_wp2
          go_returns
          exact ⟨ri hR.out, rfl⟩
    · have hlt2 : ¬ (k : Int) + 1 < l.length := by omega
      have hR : Hid (R = -1) := by unfold Hid; rw [← hr.out, endP_end (by omega)]
      clear hr
      go_wp2
      go_returns
      exact ⟨ri hR.out.symm, rfl⟩
end Go.Proofs.YtpoaegcaaflogaaDoor
