/-
  head.lower, ref10.Lower: a text with small letters.
-/
import Derived.Test.YtpoaegcaaflogaaDoorLowerG
import Derived.Test.YtpoaegcaaflogaaDoorStable
namespace Go.Proofs.YtpoaegcaaflogaaDoor
open Go.ChangeShapes Go.WideShapes Go.ChangeAt Go.RowKit

set_option maxHeartbeats 4000000 in
theorem hlower_calls (s : ByteArray) (hs : s.size ≤ 140000000000000) (w : World) : Calls Tryd.prog 34 #[.string s] w fun r w' => r = .returned (.string (lowerS s)) ∧ Below w.heap.size w w' := by
  obtain ⟨W, cap, hconv, hrow, hbel⟩ := bytes_rowL w s
  have hlen : s.data.toList.length = s.size := by simp
  go_enter Tryd.func34, Tryd.ntmps34
  go_wp2
  go_loopw [10] (fun i wr => ∃ k : Nat, k ≤ s.size ∧ i = .int .i64 k ∧ RelLow s.data.toList w.heap.size w k wr) (fun i _ => s.size - (intOf i).toNat)
  case atStart => exact ⟨0, by omega, rfl, by simpa using hrow, hbel⟩
  case round =>
    obtain ⟨k, hk, rfl, hrw, hbw⟩ := hrel
    clear hconv hrow hbel
    by_cases hlt : k < s.size
    · have hl2 : ((s.data.toList.take k).map lowerB ++ s.data.toList.drop k).length = s.size := by simp; omega
      have hat : ((s.data.toList.take k).map lowerB ++ s.data.toList.drop k)[k]'(by omega) = s[k] := by
        exact low_drop s.data.toList lowerB k (by omega) _
      obtain ⟨hc, hf⟩ := hrw.2 k (by omega)
      rw [hat] at hc
      have hb := hrw.1
      have hst : (s.data.toList.take (k + 1)).map lowerB ++ s.data.toList.drop (k + 1) = ((s.data.toList.take k).map lowerB ++ s.data.toList.drop k).set k (lowerB s[k]) := by
        exact low_step s.data.toList k (by omega)
      by_cases hu : 65 ≤ s[k].toNat ∧ s[k].toNat ≤ 90
      · have hset := hrw.set k (lowerB s[k]) (by omega)
        rw [lowerB_nat _ hu, ← hst] at hset
        obtain ⟨hu1, hu2⟩ := hu
        have hu3 : 65 ≤ (s[k].toNat : Int) := by omega
        have hu4 : (s[k].toNat : Int) ≤ 90 := by omega
        have hbs := Lib.hid (hbw.setCell (p := ⟨w.heap.size, k, none⟩) (Nat.le_refl _) (.int .u8 ((s[k].toNat : Int) + 32)))
        replace hset := Lib.hid hset
        replace hst := Lib.hid hst
        replace hl2 := Lib.hid hl2
        replace hat := Lib.hid hat
        replace hrw := Lib.hid hrw
        go_wp2
        go_roundw
        case rel => exact ⟨k + 1, by omega, by go_num, hset.out, hbs.out⟩
        case measure => simp [intOf]; omega
      · have hset : RowBytes w.heap.size ((s.data.toList.take (k + 1)).map lowerB ++ s.data.toList.drop (k + 1)) wr := by
          have hl : lowerB s[k] = s[k] := by unfold lowerB; rw [if_neg hu]
          rw [hst, hl, ← hat, List.set_getElem_self]
          exact hrw
        replace hset := Lib.hid hset
        replace hst := Lib.hid hst
        replace hl2 := Lib.hid hl2
        replace hat := Lib.hid hat
        replace hrw := Lib.hid hrw
        go_wp2
        all_goals first
          | (go_roundw
             case rel => exact ⟨k + 1, by omega, by go_num, hset.out, hbw⟩
             case measure => simp [intOf]; omega)
          | (exfalso; go_light; omega)
    · have hke : k = s.size := by omega
      subst hke
      rw [List.take_of_length_le (by omega), List.drop_of_length_le (by omega), List.append_nil] at hrw
      have hbk := row_back wr w.heap.size cap (s.data.toList.map lowerB) hrw
      rw [List.length_map, hlen] at hbk
      clear hrw
      go_wp2
      go_returns
      exact ⟨rfl, hbw⟩
def RelRL (s : ByteArray) (w : World) (k : Nat) (v : Value) (wr : World) : Prop :=
  wr.ownsRow w.heap.size 5 1 v ((s.data.toList.take k).map lowerB).length (Lib.byteCells ((s.data.toList.take k).map lowerB)) ∧ Below w.heap.size w wr
theorem low_take {s : ByteArray} {k : Nat} (h : k < s.size) : (s.data.toList.take (k + 1)).map lowerB = (s.data.toList.take k).map lowerB ++ [lowerB s[k]] := by
  have hl : k < s.data.toList.length := by simpa using h
  rw [List.take_succ_eq_append_getElem hl, List.map_append]
  rfl
set_option maxRecDepth 20000 in
set_option maxHeartbeats 4000000 in
theorem rlower10_calls (s : ByteArray) (hs : s.size ≤ 1000000000000) (w : World) : Calls Tryd.prog 17 #[.string s] w fun r w' => r = .returned (.string (lowerS s)) ∧ Below w.heap.size w w' := by
  have hlen : s.data.toList.length = s.size := by simp
  obtain ⟨i0, hi, hz0, hz1, hz2⟩ := info_parts infoByteG
  go_enter Tryd.func17, Tryd.ntmps17
  go_wp2
  go_loopw [3, 4] (fun v i wr => ∃ k : Nat, k ≤ s.size ∧ i = .int .i64 k ∧ RelRL s w k v wr) (fun _ i _ => s.size - (intOf i).toNat)
  case atStart => exact ⟨0, by omega, rfl, World.ownsRow_nil _ _ _ _, Below.refl _ _⟩
  case round =>
    obtain ⟨k, hk, rfl, hown, hbw⟩ := hrel
    by_cases hlt : k < s.size
    · have hle : ((s.data.toList.take k).map lowerB).length ≤ 1000000000000 := by simp; omega
      have hts := Lib.hid (low_take hlt)
      by_cases hu : 65 ≤ s[k].toNat ∧ s[k].toNat ≤ 90
      · have hlo := Lib.hid (lowerB_nat _ hu)
        obtain ⟨hu1, hu2⟩ := hu
        have hu3 : 65 ≤ (s[k].toNat : Int) := by omega
        have hu4 : (s[k].toNat : Int) ≤ 90 := by omega
        go_wp2_with (at_builtin; refine wpList_append_own _ rfl _ _ 23 rfl w.heap.size 5 i0 (.int .u8 0) 1 1 Tryd.underlying23 hi hz0 hz1 hz2 rfl (by decide) _ _ _ rfl (hown.alloc _) _ 1 1 [.int .u8 ((s[k].toNat : Int) + 32)] rfl rfl ?c1 ?c2 ?c3 ?c4 ?c5 ?_; (case c1 => exact one_new _ _ (by first | rfl | (simp; done)) _ _); (case c2 => (intro u hu; simp at hu; subst hu; rfl)); (case c3 => (unfold maxLen; omega)); (case c4 => omega); (case c5 => (have := hbw.size; simp; omega)); intro v1 w1 hown1 hg0 _; have hbw1 := (hbw.alloc hbw.size _).grown hg0 (by have := hbw.size; simp; omega) (fun k hk => (hown.lt k hk).1); clear hg0)
        go_roundw
        case rel => exact ⟨k + 1, by omega, by go_num, own_cast hown1 (by rw [hts.out]; simp) (by rw [hts.out]; simp [Lib.byteCells, hlo.out]), hbw1⟩
        case measure => first | (simp [intOf]; done) | (simp [intOf]; omega)
      · have hlo : Hid (lowerB s[k] = s[k]) := by unfold Hid lowerB; rw [if_neg hu]
        by_cases hu1 : 65 ≤ s[k].toNat
        · have hu3 : 65 ≤ (s[k].toNat : Int) := by omega
          have hu4 : ¬ (s[k].toNat : Int) ≤ 90 := by omega
          clear hu
          go_wp2_with (at_builtin; refine wpList_append_own _ rfl _ _ 23 rfl w.heap.size 5 i0 (.int .u8 0) 1 1 Tryd.underlying23 hi hz0 hz1 hz2 rfl (by decide) _ _ _ rfl (hown.alloc _) _ 1 1 [.int .u8 (s[k].toNat : Int)] rfl rfl ?c1 ?c2 ?c3 ?c4 ?c5 ?_; (case c1 => exact one_new _ _ (by first | rfl | (simp; done)) _ _); (case c2 => (intro u hu; simp at hu; subst hu; rfl)); (case c3 => (unfold maxLen; omega)); (case c4 => omega); (case c5 => (have := hbw.size; simp; omega)); intro v1 w1 hown1 hg0 _; have hbw1 := (hbw.alloc hbw.size _).grown hg0 (by have := hbw.size; simp; omega) (fun k hk => (hown.lt k hk).1); clear hg0)
          go_roundw
          case rel => exact ⟨k + 1, by omega, by go_num, own_cast hown1 (by rw [hts.out]; simp) (by rw [hts.out]; simp [Lib.byteCells, hlo.out]), hbw1⟩
          case measure => first | (simp [intOf]; done) | (simp [intOf]; omega)
        · have hu3 : ¬ 65 ≤ (s[k].toNat : Int) := by omega
          clear hu
          go_wp2_with (at_builtin; refine wpList_append_own _ rfl _ _ 23 rfl w.heap.size 5 i0 (.int .u8 0) 1 1 Tryd.underlying23 hi hz0 hz1 hz2 rfl (by decide) _ _ _ rfl (hown.alloc _) _ 1 1 [.int .u8 (s[k].toNat : Int)] rfl rfl ?c1 ?c2 ?c3 ?c4 ?c5 ?_; (case c1 => exact one_new _ _ (by first | rfl | (simp; done)) _ _); (case c2 => (intro u hu; simp at hu; subst hu; rfl)); (case c3 => (unfold maxLen; omega)); (case c4 => omega); (case c5 => (have := hbw.size; simp; omega)); intro v1 w1 hown1 hg0 _; have hbw1 := (hbw.alloc hbw.size _).grown hg0 (by have := hbw.size; simp; omega) (fun k hk => (hown.lt k hk).1); clear hg0)
          go_roundw
          case rel => exact ⟨k + 1, by omega, by go_num, own_cast hown1 (by rw [hts.out]; simp) (by rw [hts.out]; simp [Lib.byteCells, hlo.out]), hbw1⟩
          case measure => first | (simp [intOf]; done) | (simp [intOf]; omega)
    · have hke : k = s.size := by omega
      subst hke
      rw [List.take_of_length_le (by omega)] at hown
      have hbk := own_text hown
      clear hown
      go_wp2
      go_returns
      exact ⟨rfl, hbw⟩
end Go.Proofs.YtpoaegcaaflogaaDoor
