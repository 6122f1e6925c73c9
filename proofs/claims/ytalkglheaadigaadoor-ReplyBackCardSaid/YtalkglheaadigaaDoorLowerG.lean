/-
  A text with small letters: the row of bytes that is turned in place. (Gathered out of AddrLower; AddrLower and HeadLower take this one.)
-/
import Derived.Test.YtalkglheaadigaaDoorBytesG
set_option maxRecDepth 20000
set_option linter.unusedVariables false
set_option linter.unusedSimpArgs false
set_option linter.unusedSectionVars false
namespace Go.Proofs.YtalkglheaadigaaDoor
open Go.ChangeShapes Go.WideShapes Go.ChangeAt Go.RowKit

def lowerB (c : UInt8) : UInt8 := if 65 ≤ c.toNat ∧ c.toNat ≤ 90 then c + 32 else c
def lowerS (s : ByteArray) : ByteArray := ⟨(s.data.toList.map lowerB).toArray⟩
theorem lowerB_nat (c : UInt8) (h : 65 ≤ c.toNat ∧ c.toNat ≤ 90) : ((lowerB c).toNat : Int) = c.toNat + 32 := by
  unfold lowerB
  rw [if_pos h, UInt8.toNat_add]
  have : (32 : UInt8).toNat = 32 := rfl
  omega
/-- A row of bytes in a block, that may be written. -/
def RowBytes (b : Nat) (l : List UInt8) (w : World) : Prop := b < w.heap.size ∧ ∀ j (h : j < l.length), w.cell? ⟨b, j, none⟩ = some (.int .u8 (l[j].toNat : Int)) ∧ w.frozen? ⟨b, j, none⟩ = false
theorem RowBytes.set {b : Nat} {l : List UInt8} {w : World} (h : RowBytes b l w) (k : Nat) (c : UInt8) (_hk : k < l.length) : RowBytes b (l.set k c) (w.setCell ⟨b, k, none⟩ (.int .u8 (c.toNat : Int))) := by
  refine ⟨by simpa using h.1, fun j hj => ?_⟩
  have hj' : j < l.length := by simpa using hj
  obtain ⟨h1, h2⟩ := h.2 j hj'
  refine ⟨?_, by rw [World.frozen?_setCell]; exact h2⟩
  by_cases e : k = j
  · subst e
    rw [World.cell?_setCell_same' _ _ _ (by rw [h1]; rfl)]; simp
  · have hne : (⟨b, k, none⟩ : Addr) ≠ ⟨b, j, none⟩ := by intro h; injection h with _ h; exact e h
    have ho : (w.setCell ⟨b, k, none⟩ (.int .u8 (c.toNat : Int))).cell? ⟨b, j, none⟩ = w.cell? ⟨b, j, none⟩ := by apply World.cell?_setCell_other; exact hne
    rw [ho, h1]; simp [e]
theorem frozen_alloc_mark (w : World) (C : Array Value) (T : TypeId) (n j : Nat) (h : j < n) : (w.alloc (.cells C T (n, n + 1))).frozen? ⟨w.heap.size, j, none⟩ = false := by
  have this := heap_alloc_last w (.cells C T (n, n + 1))
  unfold World.frozen?
  simp only [this]
  have h1 : decide (n ≤ j) = false := by simp; omega
  rw [h1]; rfl
set_option maxRecDepth 8000 in
theorem bytes_rowL (w : World) (s : ByteArray) : ∃ W cap, (convert 9 34 (.string s)).run Tryd.prog w = .ok (.slice (some ⟨w.heap.size, 0, none⟩) s.size cap) W ∧ RowBytes w.heap.size s.data.toList W ∧ Below w.heap.size w W := by
  refine ⟨_, _, run_bytes_of_string (P := Tryd.prog) w 9 34 5 s rfl rfl rfl, ⟨by simp, fun j h => ⟨?_, ?_⟩⟩, by (repeat' (first | (with_reducible exact Below.refl _ _) | (with_reducible refine Below.app ?_ ?_ _ _) | (with_reducible refine Below.alloc ?_ ?_ _) | (with_reducible refine Below.drew ?_) | (with_reducible refine Below.setCell ?_ ?_ _) | (with_reducible assumption) | omega | (simp; omega) | (simp; done)))⟩
  · have hj : j < s.data.size := by simpa using h
    exact (World.cell?_alloc_mark w.drew _ _ _ j).trans (bytesRow_at s _ j hj)
  · refine frozen_alloc_mark w.drew _ _ _ j ?_
    have hj : j < s.data.size := by simpa using h
    have hz : (bytesRow s (grownCap w s.size 0 5)).size = s.data.size + (grownCap w s.size 0 5 - s.size) := by unfold bytesRow; simp
    rw [hz]; omega
theorem row_back (w : World) (b cap : Nat) (l : List UInt8) (h : RowBytes b l w) : (convert 34 9 (.slice (some ⟨b, 0, none⟩) l.length cap)).run Tryd.prog w = .ok (.string ⟨l.toArray⟩) w :=
  run_convert_bytes_back (P := Tryd.prog) w 34 9 5 ⟨b, 0, none⟩ cap l rfl rfl rfl (fun j hj => by
    rw [show (⟨b, 0, none⟩ : Addr).add j = ⟨b, j, none⟩ by simp [Addr.add]; exact fun h => h.symm]
    exact (h.2 j hj).1)
theorem low_drop (l : List UInt8) (f : UInt8 → UInt8) (k : Nat) (h : k < l.length) (h' : k < ((l.take k).map f ++ l.drop k).length) : ((l.take k).map f ++ l.drop k)[k] = l[k] := by
  have h1 : ((l.take k).map f).length = k := by simp; omega
  rw [List.getElem_append_right (by omega)]
  simp only [h1, Nat.sub_self, List.getElem_drop, Nat.add_zero]
theorem low_step (l : List UInt8) (k : Nat) (h : k < l.length) : (l.take (k + 1)).map lowerB ++ l.drop (k + 1) = ((l.take k).map lowerB ++ l.drop k).set k (lowerB l[k]) := by
  have h1 : ((l.take k).map lowerB).length = k := by simp; omega
  rw [List.set_append_right _ _ (by omega), h1, Nat.sub_self, List.drop_eq_getElem_cons h, List.set_cons_zero, List.take_succ_eq_append_getElem h, List.map_append, List.append_assoc]
  rfl
theorem one_new (W : World) (b : Nat) (hb : b = W.heap.size) (v : Value) (T : TypeId) : ∀ j u, [v][j]? = some u → (W.alloc (.cells #[v] T)).cell? ((⟨b, 0, none⟩ : Addr).add j) = some u := fun j u h => by
  subst hb
  rw [show (⟨W.heap.size, 0, none⟩ : Addr).add j = ⟨W.heap.size, j, none⟩ by simp [Addr.add]; exact fun h => h.symm, World.cell?_alloc_mark]
  simpa using h

def RelLow (l : List UInt8) (B : Nat) (w : World) (k : Nat) (wr : World) : Prop := RowBytes B ((l.take k).map lowerB ++ l.drop k) wr ∧ Below B w wr
end Go.Proofs.YtalkglheaadigaaDoor
