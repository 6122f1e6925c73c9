/-
  ref05.labels and ref05.Domain: what they answer.
-/
import Derived.Test.YtnbllnnbdopjoaaRefSplit
namespace Go.Proofs.Ytnbllnnbdopjoaa
open Go.ChangeShapes Go.WideShapes Go.ChangeAt Go.RowKit

theorem splitP_len (c : UInt8) : ∀ l, ∀ p ∈ splitP c l, p.length ≤ l.length
  | [] => by simp [splitP]
  | x :: r => by
    intro p hp
    have ih := splitP_len c r
    simp only [splitP] at hp
    split at hp
    · rcases List.mem_cons.1 hp with rfl | h
      · simp
      · have := ih p h; simp; omega
    · cases hL : splitP c r with
      | nil => exact absurd hL (splitP_ne _ _)
      | cons a t =>
        rw [hL] at hp ih
        rcases List.mem_cons.1 hp with rfl | h
        · have := ih a (by simp); simp; omega
        · have := ih p (by simp [h]); simp; omega
theorem splitP_count (c : UInt8) : ∀ l, (splitP c l).length ≤ l.length + 1
  | [] => by simp [splitP]
  | x :: r => by
    have ih := splitP_count c r
    simp only [splitP]
    split
    · simp; omega
    · cases hL : splitP c r with
      | nil => exact absurd hL (splitP_ne _ _)
      | cons a t => rw [hL] at ih; simp [prep] at ih ⊢; omega
/-- A block that holds texts. -/
def StrRow (w : World) (b : Nat) (L : List (List UInt8)) : Prop := ∀ j (h : j < L.length), w.cell? ⟨b, j, none⟩ = some (.string ⟨(L[j]).toArray⟩)
theorem own_strs {w : World} {B : Nat} {v : Value} {L : List (List UInt8)} (h : w.ownsRow B 9 1 v L.length (strCells L)) (h0 : L ≠ []) : ∃ g cap, v = .slice (some ⟨g, 0, none⟩) L.length cap ∧ B ≤ g ∧ g < w.heap.size ∧ StrRow w g L := by
  have hp : 0 < L.length := List.length_pos_iff.2 h0
  obtain ⟨_, ⟨_, hn⟩ | ⟨g, cap, cur, rfl, hb, hg, _, _, _, ht⟩⟩ := h
  · exact absurd hn (by omega)
  · refine ⟨g, cap, rfl, hb, ?_, fun j hj => ?_⟩
    · rcases Nat.lt_or_ge g w.heap.size with hlt | hge
      · exact hlt
      · rw [Array.getElem?_eq_none hge] at hg; cases hg
    · have h1 : w.cell? ⟨g, j, none⟩ = cur[j]? := by simp [World.cell?, hg]
      have h2 : (cur.toList.take (L.length * 1))[j]? = cur[j]? := by rw [List.getElem?_take, if_pos (by omega)]; simp
      rw [h1, ← h2, ht]
      simp [strCells, hj]
theorem all_at {p : List UInt8 → Bool} (L : List (List UInt8)) (k : Nat) (h : k < L.length) : (L.drop k).all p = (p L[k] && (L.drop (k + 1)).all p) := by
  rw [List.drop_eq_getElem_cons h, List.all_cons]

def labelsB (l : List UInt8) : Bool := (splitP 46 l).all rlabelB
theorem rlabels_calls (s : ByteArray) (hs : s.size ≤ 1000000000000) (w : World) : Calls Try.prog 32 #[.string s] w fun r w' => r = .returned (.bool (labelsB s.data.toList)) ∧ Below w.heap.size w w' := by
  have hlen : s.data.toList.length = s.size := by simp
  generalize hR : labelsB s.data.toList = R
  unfold labelsB at hR
  have hle := splitP_len 46 s.data.toList
  have hco := splitP_count 46 s.data.toList
  have hne := splitP_ne 46 s.data.toList
  have hsp := split_calls s 46 hs w
  rw [hlen] at hco hle
  rw [show (((46 : UInt8).toNat : Nat) : Int) = 46 from rfl] at hsp
  generalize splitP 46 s.data.toList = L at hR hle hco hne hsp
  replace hR := Lib.hid hR
  replace hle := Lib.hid hle
  replace hne := Lib.hid hne
  go_enter Try.func32, Try.ntmps32
  go_wp2_with (go_at_call 45; (with_reducible refine hsp.mono ?_); rintro _ w1 ⟨⟨v, rfl, hown⟩, hbw⟩; obtain ⟨g, cap, rfl, hg1, hg2, hrow⟩ := own_strs hown hne.out; clear hown)
  go_loop [4] (fun i => ∃ k : Nat, k ≤ L.length ∧ i = .int .i64 k ∧ Hid (R = (L.drop k).all rlabelB)) (fun i => L.length - (intOf i).toNat)
  case atStart => exact ⟨0, by omega, rfl, by unfold Hid; rw [← hR.out]; rfl⟩
  case round =>
    obtain ⟨k, hk, rfl, hr⟩ := hrel
    clear hR
    by_cases hlt : k < L.length
    · have had := all_at (p := rlabelB) L k hlt
      have hcell := hrow k hlt
      have hsz : (⟨(L[k]).toArray⟩ : ByteArray).size ≤ 140000000000000 := by
        have := hle.out L[k] (List.getElem_mem hlt)
        show (L[k]).toArray.size ≤ _
        simp; omega
      have hlc := rlabel_calls ⟨(L[k]).toArray⟩ hsz
      have htl : (⟨(L[k]).toArray⟩ : ByteArray).data.toList = L[k] := rfl
      rw [htl] at hlc
      cases hal : rlabelB L[k]
      · have hR : Hid (R = false) := by unfold Hid; rw [hr.out, had, hal]; rfl
        rw [hal] at hlc
        replace hlc := Lib.hid hlc
        clear had hal hr htl
        go_wp2_with (go_at_call 46; ((with_reducible refine (hlc.out _).mono ?_); rintro _ _ ⟨rfl, rfl⟩))
        go_returns
        exact ⟨rb hR.out.symm, hbw⟩
      · have hR : Hid (R = (L.drop (k + 1)).all rlabelB) := by unfold Hid; rw [hr.out, had, hal]; rfl
        rw [hal] at hlc
        replace hlc := Lib.hid hlc
        clear had hal hr htl
        go_wp2_with (go_at_call 46; ((with_reducible refine (hlc.out _).mono ?_); rintro _ _ ⟨rfl, rfl⟩))
        go_round
        case rel => exact ⟨k + 1, by omega, by go_num, hR⟩
        case measure => first | (simp [intOf]; done) | (simp [intOf]; omega)
    · have hke : k = L.length := by omega
      subst hke
      have hR : Hid (R = true) := by unfold Hid; rw [hr.out, List.drop_of_length_le (by omega)]; rfl
      clear hr
      go_wp2
      go_returns
      exact ⟨rb hR.out.symm, hbw⟩

def rdomB (l : List UInt8) : Bool := labelsB l && decide (l.length ≤ 64)
theorem rdomain_calls (s : ByteArray) (hs : s.size ≤ 1000000000000) (w : World) : Calls Try.prog 14 #[.string s] w fun r w' => r = .returned (.bool (rdomB s.data.toList)) ∧ Below w.heap.size w w' := by
  have hlen : s.data.toList.length = s.size := by simp
  have hlc := rlabels_calls s hs
  generalize hR : rdomB s.data.toList = R
  unfold rdomB at hR
  rw [hlen] at hR
  cases hal : labelsB s.data.toList
  · rw [hal] at hlc hR
    replace hlc := Lib.hid hlc
    replace hR := Lib.hid hR
    go_enter Try.func14, Try.ntmps14
    go_wp2_with (go_at_call 32; ((with_reducible refine (hlc.out _).mono ?_); rintro _ w1 ⟨rfl, hbw⟩))
    go_returns
    exact ⟨rb hR.out, hbw⟩
  · rw [hal] at hlc hR
    replace hlc := Lib.hid hlc
    replace hR := Lib.hid hR
    go_enter Try.func14, Try.ntmps14
    go_wp2_with (go_at_call 32; ((with_reducible refine (hlc.out _).mono ?_); rintro _ w1 ⟨rfl, hbw⟩))
    go_returns
    refine ⟨rb ?_, hbw⟩
    rw [← hR.out]
    simp
    omega
end Go.Proofs.Ytnbllnnbdopjoaa
