/-
  ref05.atoms: what it answers.
-/
import Derived.Test.YtnbllnnbdopjoaaRefLabels
namespace Go.Proofs.Ytnbllnnbdopjoaa
open Go.ChangeShapes Go.WideShapes Go.ChangeAt Go.RowKit

def partB (p : List UInt8) : Bool := p.all atomB && !p.isEmpty
def ratomsB (l : List UInt8) : Bool := (splitP 46 l).all partB

set_option maxHeartbeats 4000000 in
theorem ratoms_calls (s : ByteArray) (hs : s.size ≤ 1000000000000) (w : World) : Calls Try.prog 37 #[.string s] w fun r w' => r = .returned (.bool (ratomsB s.data.toList)) ∧ Below w.heap.size w w' := by
  have hlen : s.data.toList.length = s.size := by simp
  generalize hR : ratomsB s.data.toList = R
  unfold ratomsB at hR
  have hle := splitP_len 46 s.data.toList
  have hco := splitP_count 46 s.data.toList
  have hne := splitP_ne 46 s.data.toList
  have hsp := split_calls s 46 hs w
  rw [hlen] at hco hle
  rw [show (((46 : UInt8).toNat : Nat) : Int) = 46 from rfl] at hsp
  generalize splitP 46 s.data.toList = L at hR hle hco hne hsp
  replace hR := Lib.hid hR
  replace hle := Lib.hid hle
  replace hne := Lib.hid hne
  go_enter Try.func37, Try.ntmps37
  go_wp2_with (go_at_call 45; (with_reducible refine hsp.mono ?_); rintro _ w1 ⟨⟨v, rfl, hown⟩, hbw⟩; obtain ⟨g, cap, rfl, hg1, hg2, hrow⟩ := own_strs hown hne.out; clear hown)
  clear hsp
  go_loop [4, 5] (fun i _ => ∃ k : Nat, k ≤ L.length ∧ i = .int .i64 k ∧ Hid (R = (L.drop k).all partB)) (fun i _ => L.length - (intOf i).toNat)
  case atStart => exact ⟨0, by omega, rfl, by unfold Hid; rw [← hR.out]; rfl⟩
  case round =>
    obtain ⟨k, hk, rfl, hr⟩ := hrel
    clear hR
    by_cases hlt : k < L.length
    · have had := all_at (p := partB) L k hlt
      have hcell := hrow k hlt
      have hsz := hle.out L[k] (List.getElem_mem hlt)
      obtain ⟨t, ht⟩ : ∃ t : ByteArray, t = ⟨(L[k]).toArray⟩ := ⟨_, rfl⟩
      have htl : L[k] = t.data.toList := by rw [ht]
      rw [← ht] at hcell
      rw [htl] at had hsz
      clear ht htl
      have htn : t.data.toList.length = t.size := by simp
      rw [htn] at hsz
      have hr2 : Hid (R = ((t.data.toList.drop 0).all atomB && (!t.data.toList.isEmpty && (L.drop (k + 1)).all partB))) := by
        unfold Hid; rw [hr.out, had]; unfold partB; rw [List.drop_zero, Bool.and_assoc]
      clear had hr
      go_wp2
      go_loop [5] (fun i => ∃ q : Nat, q ≤ t.size ∧ i = .int .i64 q ∧ Hid (R = ((t.data.toList.drop q).all atomB && (!t.data.toList.isEmpty && (L.drop (k + 1)).all partB)))) (fun i => t.size - (intOf i).toNat)
      case atStart => exact ⟨0, by omega, rfl, hr2⟩
      case round =>
        obtain ⟨q, hq, rfl, hr⟩ := hrel
        clear hr2
        by_cases hqt : q < t.size
        · have had := @all_drop atomB t.data.toList q (by omega)
          have hgk : t.data.toList[q]'(by omega) = t[q] := rfl
          rw [hgk] at had
          have hac := ratom_calls t[q]
          cases hal : atomB t[q]
          · rw [hal] at hac had
            replace hac := Lib.hid hac
            have hR : Hid (R = false) := by unfold Hid; rw [hr.out, had]; rfl
            clear had hgk hal hr
            go_wp2_with (go_at_call 48; ((with_reducible refine (hac.out _).mono ?_); rintro _ _ ⟨rfl, rfl⟩))
            go_returns
            exact ⟨rb hR.out.symm, hbw⟩
          · rw [hal] at hac had
            replace hac := Lib.hid hac
            have hR : Hid (R = ((t.data.toList.drop (q + 1)).all atomB && (!t.data.toList.isEmpty && (L.drop (k + 1)).all partB))) := by unfold Hid; rw [hr.out, had]; rfl
            clear had hgk hal hr
            go_wp2_with (go_at_call 48; ((with_reducible refine (hac.out _).mono ?_); rintro _ _ ⟨rfl, rfl⟩))
            go_round
            case rel => exact ⟨q + 1, by omega, by go_num, hR⟩
            case measure => first | (simp [intOf]; done) | (simp [intOf]; omega)
        · have hqe : q = t.size := by omega
          subst hqe
          rw [List.drop_of_length_le (by omega)] at hr
          by_cases h0 : t.size = 0
          · have he : t.data.toList = [] := List.eq_nil_of_length_eq_zero (by omega)
            have hR : Hid (R = false) := by unfold Hid; rw [hr.out, he]; rfl
            clear hr
            have ht0 : t = ⟨#[]⟩ := by
              have h1 : t.data = #[] := by rw [← Array.toList_inj, he]
              rw [← h1]
            subst ht0
            go_wp2
            go_returns
            exact ⟨rb hR.out.symm, hbw⟩
          · have he : t.data.toList.isEmpty = false := by
              cases h : t.data.toList with
              | nil => rw [h] at htn; exact absurd htn.symm h0
              | cons a b => rfl
            have hR : Hid (R = (L.drop (k + 1)).all partB) := by unfold Hid; rw [hr.out, he]; rfl
            have hxl : t.toList = t.data.toList := ByteArray.toList_mk t.data.toList
            have he2 : t.toList.isEmpty = false := by rw [hxl]; exact he
            clear hr hxl he
            go_wp2
            go_round
            case rel => exact ⟨k + 1, by omega, by go_num, hR⟩
            case measure => first | (simp [intOf]; done) | (simp [intOf]; omega)
    · have hke : k = L.length := by omega
      subst hke
      have hR : Hid (R = true) := by unfold Hid; rw [hr.out, List.drop_of_length_le (by omega)]; rfl
      clear hr
      go_wp2
      go_returns
      exact ⟨rb hR.out.symm, hbw⟩
end Go.Proofs.Ytnbllnnbdopjoaa
