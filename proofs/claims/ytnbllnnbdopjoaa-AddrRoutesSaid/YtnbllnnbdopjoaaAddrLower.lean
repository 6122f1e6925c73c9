/-
  addr.lower: what it gives.
-/
import Derived.Test.YtnbllnnbdopjoaaAddrGood
namespace Go.Proofs.Ytnbllnnbdopjoaa
open Go.ChangeShapes Go.WideShapes Go.ChangeAt Go.RowKit

def lowerB (c : UInt8) : UInt8 := if 65 ≤ c.toNat ∧ c.toNat ≤ 90 then c + 32 else c
def lowerS (s : ByteArray) : ByteArray := ⟨(s.data.toList.map lowerB).toArray⟩
theorem lowerB_nat (c : UInt8) (h : 65 ≤ c.toNat ∧ c.toNat ≤ 90) : ((lowerB c).toNat : Int) = c.toNat + 32 := by
  unfold lowerB
  rw [if_pos h, UInt8.toNat_add]
  have : (32 : UInt8).toNat = 32 := rfl
  omega
/-- A row of bytes in a block, that may be written. -/
def RowBytes (b : Nat) (l : List UInt8) (w : World) : Prop := b < w.heap.size ∧ ∀ j (h : j < l.length), w.cell? ⟨b, j, none⟩ = some (.int .u8 (l[j].toNat : Int)) ∧ w.frozen? ⟨b, j, none⟩ = false
theorem RowBytes.set {b : Nat} {l : List UInt8} {w : World} (h : RowBytes b l w) (k : Nat) (c : UInt8) (_hk : k < l.length) : RowBytes b (l.set k c) (w.setCell ⟨b, k, none⟩ (.int .u8 (c.toNat : Int))) := by
  refine ⟨by simpa using h.1, fun j hj => ?_⟩
  have hj' : j < l.length := by simpa using hj
  obtain ⟨h1, h2⟩ := h.2 j hj'
  refine ⟨?_, by rw [World.frozen?_setCell]; exact h2⟩
  by_cases e : k = j
  · subst e
    rw [World.cell?_setCell_same' _ _ _ (by rw [h1]; rfl)]; simp
  · have hne : (⟨b, k, none⟩ : Addr) ≠ ⟨b, j, none⟩ := by intro h; injection h with _ h; exact e h
    have ho : (w.setCell ⟨b, k, none⟩ (.int .u8 (c.toNat : Int))).cell? ⟨b, j, none⟩ = w.cell? ⟨b, j, none⟩ := by apply World.cell?_setCell_other; exact hne
    rw [ho, h1]; simp [e]
theorem frozen_alloc_mark (w : World) (C : Array Value) (T : TypeId) (n j : Nat) (h : j < n) : (w.alloc (.cells C T (n, n + 1))).frozen? ⟨w.heap.size, j, none⟩ = false := by
  have this := heap_alloc_last w (.cells C T (n, n + 1))
  unfold World.frozen?
  simp only [this]
  have h1 : decide (n ≤ j) = false := by simp; omega
  rw [h1]; rfl
theorem bytes_row (w : World) (s : ByteArray) : ∃ W cap, (convert 9 56 (.string s)).run Try.prog w = .ok (.slice (some ⟨w.heap.size, 0, none⟩) s.size cap) W ∧ RowBytes w.heap.size s.data.toList W ∧ Below w.heap.size w W := by
  refine ⟨_, _, run_bytes_of_string (P := Try.prog) w 9 56 5 s rfl rfl rfl, ⟨by simp, fun j h => ⟨?_, ?_⟩⟩, by (repeat' (first | (with_reducible exact Below.refl _ _) | (with_reducible refine Below.app ?_ ?_ _ _) | (with_reducible refine Below.alloc ?_ ?_ _) | (with_reducible refine Below.drew ?_) | (with_reducible refine Below.setCell ?_ ?_ _) | (with_reducible assumption) | omega | (simp; omega) | (simp; done)))⟩
  · have hj : j < s.data.size := by simpa using h
    exact (World.cell?_alloc_mark w.drew _ _ _ j).trans (bytesRow_at s _ j hj)
  · refine frozen_alloc_mark w.drew _ _ _ j ?_
    have hj : j < s.data.size := by simpa using h
    have hz : (bytesRow s (grownCap w s.size 0 5)).size = s.data.size + (grownCap w s.size 0 5 - s.size) := by unfold bytesRow; simp
    rw [hz]; omega
theorem row_back (w : World) (b cap : Nat) (l : List UInt8) (h : RowBytes b l w) : (convert 56 9 (.slice (some ⟨b, 0, none⟩) l.length cap)).run Try.prog w = .ok (.string ⟨l.toArray⟩) w :=
  run_convert_bytes_back (P := Try.prog) w 56 9 5 ⟨b, 0, none⟩ cap l rfl rfl rfl (fun j hj => by
    rw [show (⟨b, 0, none⟩ : Addr).add j = ⟨b, j, none⟩ by simp [Addr.add]; exact fun h => h.symm]
    exact (h.2 j hj).1)
theorem drop_at (l : List UInt8) (f : UInt8 → UInt8) (k : Nat) (h : k < l.length) (h' : k < ((l.take k).map f ++ l.drop k).length) : ((l.take k).map f ++ l.drop k)[k] = l[k] := by
  have h1 : ((l.take k).map f).length = k := by simp; omega
  rw [List.getElem_append_right (by omega)]
  simp only [h1, Nat.sub_self, List.getElem_drop, Nat.add_zero]
theorem low_step (l : List UInt8) (k : Nat) (h : k < l.length) : (l.take (k + 1)).map lowerB ++ l.drop (k + 1) = ((l.take k).map lowerB ++ l.drop k).set k (lowerB l[k]) := by
  have h1 : ((l.take k).map lowerB).length = k := by simp; omega
  rw [List.set_append_right _ _ (by omega), h1, Nat.sub_self, List.drop_eq_getElem_cons h, List.set_cons_zero, List.take_succ_eq_append_getElem h, List.map_append, List.append_assoc]
  rfl
def RelLow (l : List UInt8) (B : Nat) (w : World) (k : Nat) (wr : World) : Prop := RowBytes B ((l.take k).map lowerB ++ l.drop k) wr ∧ Below B w wr

set_option maxHeartbeats 4000000 in
theorem lower_calls (s : ByteArray) (hs : s.size ≤ 140000000000000) (w : World) : Calls Try.prog 38 #[.string s] w fun r w' => r = .returned (.string (lowerS s)) ∧ Below w.heap.size w w' := by
  obtain ⟨W, cap, hconv, hrow, hbel⟩ := bytes_row w s
  have hlen : s.data.toList.length = s.size := by simp
  go_enter Try.func38, Try.ntmps38
  go_wp2
  go_loopw [10] (fun i wr => ∃ k : Nat, k ≤ s.size ∧ i = .int .i64 k ∧ RelLow s.data.toList w.heap.size w k wr) (fun i _ => s.size - (intOf i).toNat)
  case atStart => exact ⟨0, by omega, rfl, by simpa using hrow, hbel⟩
  case round =>
    obtain ⟨k, hk, rfl, hrw, hbw⟩ := hrel
    clear hconv hrow hbel
    by_cases hlt : k < s.size
    · have hl2 : ((s.data.toList.take k).map lowerB ++ s.data.toList.drop k).length = s.size := by simp; omega
      have hat : ((s.data.toList.take k).map lowerB ++ s.data.toList.drop k)[k]'(by omega) = s[k] := by
        exact drop_at s.data.toList lowerB k (by omega) _
      obtain ⟨hc, hf⟩ := hrw.2 k (by omega)
      rw [hat] at hc
      have hb := hrw.1
      have hst : (s.data.toList.take (k + 1)).map lowerB ++ s.data.toList.drop (k + 1) = ((s.data.toList.take k).map lowerB ++ s.data.toList.drop k).set k (lowerB s[k]) := by
        exact low_step s.data.toList k (by omega)
      by_cases hu : 65 ≤ s[k].toNat ∧ s[k].toNat ≤ 90
      · have hset := hrw.set k (lowerB s[k]) (by omega)
        rw [lowerB_nat _ hu, ← hst] at hset
        obtain ⟨hu1, hu2⟩ := hu
        have hu3 : 65 ≤ (s[k].toNat : Int) := by omega
        have hu4 : (s[k].toNat : Int) ≤ 90 := by omega
        have hbs := Lib.hid (hbw.setCell (p := ⟨w.heap.size, k, none⟩) (Nat.le_refl _) (.int .u8 ((s[k].toNat : Int) + 32)))
        replace hset := Lib.hid hset
        replace hst := Lib.hid hst
        replace hl2 := Lib.hid hl2
        replace hat := Lib.hid hat
        replace hrw := Lib.hid hrw
        go_wp2
        go_roundw
        case rel => exact ⟨k + 1, by omega, by go_num, hset.out, hbs.out⟩
        case measure => simp [intOf]; omega
      · have hset : RowBytes w.heap.size ((s.data.toList.take (k + 1)).map lowerB ++ s.data.toList.drop (k + 1)) wr := by
          have hl : lowerB s[k] = s[k] := by unfold lowerB; rw [if_neg hu]
          rw [hst, hl, ← hat, List.set_getElem_self]
          exact hrw
        replace hset := Lib.hid hset
        replace hst := Lib.hid hst
        replace hl2 := Lib.hid hl2
        replace hat := Lib.hid hat
        replace hrw := Lib.hid hrw
        go_wp2
        all_goals first
          | (go_roundw
             case rel => exact ⟨k + 1, by omega, by go_num, hset.out, hbw⟩
             case measure => simp [intOf]; omega)
          | (exfalso; go_light; omega)
    · have hke : k = s.size := by omega
      subst hke
      rw [List.take_of_length_le (by omega), List.drop_of_length_le (by omega), List.append_nil] at hrw
      have hbk := row_back wr w.heap.size cap (s.data.toList.map lowerB) hrw
      rw [List.length_map, hlen] at hbk
      clear hrw
      go_wp2
      go_returns
      exact ⟨rfl, hbw⟩
end Go.Proofs.Ytnbllnnbdopjoaa
