/-
  ref07.end: where the first CR LF ends.
-/
import Derived.Test.YtnoiaeajpjhldaaDotPlain
import Derived.Test.YtnoiaeajpjhldaaShelf
import Derived.Test.YtnoiaeajpjhldaaStable
namespace Go.Proofs.Ytnoiaeajpjhldaa
open Go.ChangeShapes Go.WideShapes Go.ChangeAt Go.RowKit

/-- ref07.end's answer, from a place on. -/
def endN (l : List UInt8) (k : Nat) : Int := match endQ false (l.drop k) with | some n => ((k + n : Nat) : Int) | none => -1
theorem endQ_two (c d : UInt8) (r : List UInt8) : endQ false (c :: d :: r) = if c = 13 ∧ d = 10 then some 2 else (endQ false (d :: r)).map (1 + ·) := by
  rw [endQ, if_neg (by simp)]
  by_cases hc : c = 13
  · subst hc
    by_cases hd : d = 10
    · subst hd; simp [endQ]
    · rw [if_neg (by simp [hd]), endQ, endQ, if_neg (by simp [hd]), if_neg (by simp)]
  · rw [if_neg (by simp [hc]), decide_eq_false hc]
theorem endN_hit {l : List UInt8} {k : Nat} (h : k + 1 < l.length) (h1 : l[k] = 13) (h2 : l[k + 1] = 10) : endN l k = (k : Int) + 2 := by
  unfold endN
  rw [List.drop_eq_getElem_cons (by omega), List.drop_eq_getElem_cons h, endQ_two, if_pos ⟨h1, h2⟩]
  simp
theorem endN_go {l : List UInt8} {k : Nat} (h : k + 1 < l.length) (h1 : ¬ (l[k] = 13 ∧ l[k + 1] = 10)) : endN l k = endN l (k + 1) := by
  unfold endN
  rw [List.drop_eq_getElem_cons (i := k) (by omega), List.drop_eq_getElem_cons h, endQ_two, if_neg h1]
  cases endQ false (l[k + 1] :: l.drop (k + 1 + 1)) with
  | none => rfl
  | some n => simp; omega
theorem endN_end {l : List UInt8} {k : Nat} (h : l.length ≤ k + 1) : endN l k = -1 := by
  unfold endN
  rcases Nat.lt_or_ge k l.length with h1 | h1
  · rw [List.drop_eq_getElem_cons h1, List.drop_of_length_le h, endQ, if_neg (by simp), endQ]; rfl
  · rw [List.drop_of_length_le h1, endQ]
set_option maxHeartbeats 4000000 in
theorem end_calls (s : ByteArray) (from0 : Nat) (hs : s.size ≤ 100000000) (hf : from0 ≤ s.size) (w : World) : Calls Try.prog 22 #[.string s, .int .i64 (from0 : Int)] w fun r w' => r = .returned (.int .i64 (endN s.data.toList from0)) ∧ w = w' := by
  have hlen : s.data.toList.length = s.size := by simp
  generalize hR : endN s.data.toList from0 = R
  replace hR := Lib.hid hR
  go_enter Try.func22, Try.ntmps22
  go_wp2
  go_loop [5] (fun i => ∃ k : Nat, k ≤ s.size ∧ i = .int .i64 k ∧ Hid (endN s.data.toList k = R)) (fun i => s.size - (intOf i).toNat)
  case atStart => exact ⟨from0, hf, rfl, hR⟩
  case round =>
    obtain ⟨k, hk, rfl, hr⟩ := hrel
    clear hR
    by_cases hlt : k + 1 < s.size
    · have hlt2 : (k : Int) + 1 < s.size := by omega
      have g1 : s.data.toList[k]'(by omega) = s[k] := rfl
      have g2 : s.data.toList[k + 1]'(by omega) = s[k + 1] := rfl
      cases h13 : ((s[k].toNat : Int) == 13)
      · have hn : ¬ s[k] = 13 := by intro e; rw [e] at h13; simp at h13
        have hR : Hid (endN s.data.toList (k + 1) = R) := (endN_go (l := s.data.toList) (k := k) (by omega) (by rw [g1]; exact fun h => hn h.1)).symm.trans hr.out
        clear hr hn g1 g2
        go_wp2
        go_round
        case rel => exact ⟨k + 1, by omega, by go_num, hR⟩
        case measure => first | (simp [intOf]; done) | (simp [intOf]; omega)
      · have he : s[k] = 13 := by rw [← UInt8.toNat_inj]; simp at h13 ⊢; omega
        cases h10 : ((s[k + 1].toNat : Int) == 10)
        · have hn : ¬ s[k + 1] = 10 := by intro e; rw [e] at h10; simp at h10
          have hR : Hid (endN s.data.toList (k + 1) = R) := (endN_go (l := s.data.toList) (k := k) (by omega) (by rw [g2]; exact fun h => hn h.2)).symm.trans hr.out
          clear hr hn he g1 g2
          go_wp2
          go_round
          case rel => exact ⟨k + 1, by omega, by go_num, hR⟩
          case measure => first | (simp [intOf]; done) | (simp [intOf]; omega)
        · have he2 : s[k + 1] = 10 := by rw [← UInt8.toNat_inj]; simp at h10 ⊢; omega
          have hR : Hid (R = (k : Int) + 2) := by unfold Hid; rw [← hr.out, endN_hit (by omega) (g1.trans he) (g2.trans he2)]
          clear hr he he2 g1 g2
          go_wp2
          go_returns
          exact ⟨ri hR.out.symm, rfl⟩
    · have hlt2 : ¬ (k : Int) + 1 < s.size := by omega
      have hR : Hid (R = -1) := by unfold Hid; rw [← hr.out, endN_end (by omega)]
      clear hr
      go_wp2
      go_returns
      exact ⟨ri hR.out.symm, rfl⟩
end Go.Proofs.Ytnoiaeajpjhldaa
