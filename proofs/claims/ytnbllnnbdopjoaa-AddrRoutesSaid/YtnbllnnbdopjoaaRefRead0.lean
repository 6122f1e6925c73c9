/-
  ref05.Read: words.
-/
import Derived.Test.YtnbllnnbdopjoaaRefParse
import Derived.Deep.DeepCutAuto
import Derived.Deep.CutBlock
namespace Go.Proofs.Ytnbllnnbdopjoaa
open Go.ChangeShapes Go.WideShapes Go.ChangeAt Go.RowKit

theorem ext_tail (s : ByteArray) (k : Nat) (h : k ≤ s.size) : (s.extract k s.size).data.toList = s.data.toList.drop k := by
  have := extract_list s k (s.size - k)
  rw [show k + (s.size - k) = s.size by omega] at this
  rw [this]
  show (s.data.toList.drop k).take _ = _
  rw [List.take_of_length_le (by simp)]
theorem ext_ext (s : ByteArray) (K a b : Nat) (h : K + b ≤ s.size) : (s.extract K s.size).extract a b = s.extract (K + a) (K + b) := by
  apply ByteArray.ext
  simp only [ByteArray.data_extract, Array.extract_extract]
  congr 1
  have : s.data.size = s.size := rfl
  omega
theorem prefix_two (s : ByteArray) : ((s.extract 0 2).toList == [60, 62]) = Lib.hasPrefix s.data.toList [60, 62] := by
  have e : (s.extract 0 2).toList = s.data.toList.take 2 := by
    have := extract_list s 0 2
    rw [Nat.zero_add, List.drop_zero] at this
    rw [this]
    exact ByteArray.toList_mk _
  rw [e]
  unfold Lib.hasPrefix
  match s.data.toList with
  | [] => rfl
  | [a] => simp [List.isPrefixOf]
  | a :: b :: r => simp [List.isPrefixOf]; rw [Bool.eq_iff_iff]; simp; exact ⟨fun h => ⟨h.1.symm, h.2.symm⟩, fun h => ⟨h.1.symm, h.2.symm⟩⟩
/-- What stands behind a route, from K on. -/
def tailP (s : ByteArray) (K : Nat) (lg : Bool) : ByteArray × ByteArray × Int × Int :=
  match (((mailboxP (s.data.toList.drop K)).map (fun x => (x.1, x.2.1, K + x.2.2)) : Option (List UInt8 × Nat × Nat))) with
  | none => (⟨#[]⟩, ⟨#[]⟩, 0, 3)
  | some (t, d, M) => if s.data.toList.getD M 0 = 62 then (if ((lg || decide (64 < (t.length : Int))) || decide (64 < (d : Int))) = true then (⟨#[]⟩, ⟨#[]⟩, 0, 4) else (⟨t.toArray⟩, s.extract (M - d) M, (M : Int) + 1, 0)) else (⟨#[]⟩, ⟨#[]⟩, 0, 3)
def routedP (s : ByteArray) : Option (Nat × Bool) → ByteArray × ByteArray × Int × Int
  | none => (⟨#[]⟩, ⟨#[]⟩, 0, 3)
  | some x => tailP s x.1 x.2
theorem readP_tail {s : ByteArray} {null : Bool} (hn : nullB s null = false) (h60 : s.data.toList.getD 0 0 = 60) (R : Option (Nat × Bool)) (hR : (if s.data.toList.getD 1 0 = 64 then (routeT (s.data.toList.drop 1)).map (fun x => (1 + x.1, false || x.2)) else some (1, false)) = R) :
    readP s null = routedP s R := by
  unfold readP pathP routedP
  rw [if_neg (by rw [hn]; simp), if_pos h60, hR]
  cases R with
  | none => rfl
  | some x =>
    obtain ⟨K, lg⟩ := x
    unfold tailP
    simp only []
    cases (mailboxP (s.data.toList.drop K)).map (fun x => (x.1, x.2.1, K + x.2.2)) with
    | none => rfl
    | some y =>
      obtain ⟨t, d, M⟩ := y
      simp only []
      by_cases hM : s.data.toList.getD M 0 = 62
      · rw [if_pos hM, if_pos hM]
      · rw [if_neg hM, if_neg hM]
theorem readP_no {s : ByteArray} {null : Bool} (hn : nullB s null = false) (h60 : ¬ s.data.toList.getD 0 0 = 60) : readP s null = (⟨#[]⟩, ⟨#[]⟩, 0, 3) := by
  unfold readP pathP
  rw [if_neg (by rw [hn]; simp), if_neg h60]
end Go.Proofs.Ytnbllnnbdopjoaa
