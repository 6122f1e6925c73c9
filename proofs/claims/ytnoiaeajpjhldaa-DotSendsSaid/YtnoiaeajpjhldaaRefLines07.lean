/-
  ref07.Lines: how many line ends a message has.
-/
import Derived.Test.YtnoiaeajpjhldaaRefSame07
import Derived.Test.YtnoiaeajpjhldaaRefEnd07
namespace Go.Proofs.Ytnoiaeajpjhldaa
open Go.ChangeShapes Go.WideShapes Go.ChangeAt Go.RowKit

def cntQ (l : List UInt8) : Nat :=
  match _h : endQ false l with
  | none => 0
  | some n => 1 + cntQ (l.drop n)
termination_by l.length
decreasing_by
  have := endQ_le _ _ _ ‹_›
  simp; omega
theorem cntQ_none {l : List UInt8} (h : endQ false l = none) : cntQ l = 0 := by rw [cntQ]; split <;> simp_all
theorem cntQ_some {l : List UInt8} {n : Nat} (h : endQ false l = some n) : cntQ l = 1 + cntQ (l.drop n) := by rw [cntQ]; split <;> simp_all
set_option maxHeartbeats 4000000 in
theorem rlines_calls {q : Option Addr} {cap : Nat} {l : List UInt8} {w : World} (h : TextOf w (.slice q l.length cap) l) (hlen : l.length ≤ 100000000) :
    Calls Try.prog 12 #[.slice q l.length cap] w fun r w' => r = .returned (.int .i64 (cntQ l : Int)) ∧ w = w' := by
  have ht := h w (Below.refl _ _)
  have hsz : (⟨l.toArray⟩ : ByteArray).size = l.length := by show l.toArray.size = _; simp
  clear h
  generalize hR : cntQ l = R
  have hst : Hid (cntQ l = 0 + cntQ (l.drop 0)) := by unfold Hid; simp
  replace hR := Lib.hid hR
  go_enter Try.func12, Try.ntmps12
  go_wp2
  go_loop [3, 4] (fun n a => ∃ k m : Nat, k ≤ l.length ∧ m ≤ k ∧ a = .int .i64 k ∧ n = .int .i64 m ∧ Hid (cntQ l = m + cntQ (l.drop k))) (fun _ a => l.length + 1 - (intOf a).toNat)
  case atStart => exact ⟨0, 0, by omega, by omega, rfl, rfl, hst⟩
  case round =>
    obtain ⟨k, m, hk, hm, rfl, rfl, hr⟩ := hrel
    clear hst
    have he := end_calls ⟨l.toArray⟩ k (by rw [hsz]; omega) (by rw [hsz]; omega)
    have hE : endN l k = match endQ false (l.drop k) with | some n => ((k + n : Nat) : Int) | none => -1 := rfl
    rw [show (⟨l.toArray⟩ : ByteArray).data.toList = l from rfl] at he
    cases hx : endQ false (l.drop k) with
    | none =>
      rw [hx] at hE
      rw [hE] at he
      have hv : Hid (R = m) := by unfold Hid; rw [← hR.out, hr.out, cntQ_none hx]; rfl
      replace he := Lib.hid he
      clear hr hx hE
      go_wp2_with (go_at_call 22; ((refine (he.out _).mono ?_); rintro _ _ ⟨rfl, rfl⟩))
      go_returns
      exact ⟨by rw [hv.out]; rfl, rfl⟩
    | some n =>
      have hn := endQ_le _ _ _ hx
      rw [List.length_drop] at hn
      rw [hx] at hE
      rw [hE] at he
      have hR2 : Hid (cntQ l = (m + 1) + cntQ (l.drop (k + n))) := by unfold Hid; rw [hr.out, cntQ_some hx, List.drop_drop]; omega
      have hnn : ¬ ((k + n : Nat) : Int) < 0 := by omega
      replace he := Lib.hid he
      clear hr hx hE
      go_wp2_with (go_at_call 22; ((refine (he.out _).mono ?_); rintro _ _ ⟨rfl, rfl⟩))
      go_round
      case rel => exact ⟨k + n, m + 1, by omega, by omega, by go_num, by go_num, hR2⟩
      case measure => first | (simp [intOf]; done) | (simp [intOf]; omega)
end Go.Proofs.Ytnoiaeajpjhldaa
