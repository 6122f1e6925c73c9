/-
  dot.crlf, Lines: what they do.
-/
import Derived.Test.YtnoiaeajpjhldaaDotText
import Derived.Test.YtnoiaeajpjhldaaRow2
namespace Go.Proofs.Ytnoiaeajpjhldaa
open Go.ChangeShapes Go.WideShapes Go.ChangeAt Go.RowKit

theorem crlf_calls (w : World) : Calls Try.prog 21 #[] w fun r w' => r = .returned (.slice (some ⟨w.heap.size, 0, none⟩) 2 2) ∧ w' = w.alloc (.cells #[.int .u8 13, .int .u8 10] 5) := by
  go_enter Try.func21, Try.ntmps21
  go_wp2
  go_returns
  exact ⟨rfl, rfl⟩
/-- How many line ends a message has. -/
def linesN (l : List UInt8) : Int := Lib.count l [13, 10]
/-- A slice's bytes in memory; nil has none. -/
structure BytesAt (w : World) (q : Option Addr) (cap : Nat) (l : List UInt8) : Prop where
  nil : q = none → l = [] ∧ cap = 0
  cap : l.length ≤ cap
  cell : l ≠ [] → ∃ bb off, q = some ⟨bb, off, none⟩ ∧ bb < w.heap.size ∧ ∀ i (h : i < l.length), w.cell? ⟨bb, off + i, none⟩ = some (.int .u8 (l[i].toNat : Int))
theorem BytesAt.below {w w' : World} {q : Option Addr} {cap : Nat} {l : List UInt8} (h : BytesAt w q cap l) (hb : Below w.heap.size w w') : BytesAt w' q cap l :=
  ⟨h.nil, h.cap, fun h0 => by
    obtain ⟨bb, off, h1, h2, h3⟩ := h.cell h0
    exact ⟨bb, off, h1, Nat.lt_of_lt_of_le h2 hb.size, fun i hi => (hb.cell (p := ⟨bb, off + i, none⟩) h2).trans (h3 i hi)⟩⟩
theorem bytesOf_nat (l : List UInt8) : Lib.bytesOf (l.map fun c => (c.toNat : Int)) = l := by
  unfold Lib.bytesOf
  rw [List.map_map]
  conv => rhs; rw [← List.map_id l]
  exact List.map_congr_left fun c _ => by simp
theorem count_crlf {w : World} {q : Option Addr} {cap : Nat} {l : List UInt8} (h : BytesAt w q cap l) (hlen : l.length ≤ 100000000) (hmx : MaxLenAt w) :
    Calls Try.prog 23 #[.slice q l.length cap, .slice (some ⟨w.heap.size, 0, none⟩) 2 2] (w.alloc (.cells #[.int .u8 13, .int .u8 10] 5)) fun r w' => r = .returned (.int .i64 (linesN l)) ∧ Below w.heap.size w w' := by
  have hb : Below w.heap.size w (w.alloc (.cells #[.int .u8 13, .int .u8 10] 5)) := by (repeat' (first | (with_reducible exact Below.refl _ _) | (with_reducible refine Below.app ?_ ?_ _ _) | (with_reducible refine Below.alloc ?_ ?_ _) | (with_reducible refine Below.drew ?_) | (with_reducible refine Below.setCell ?_ ?_ _) | (with_reducible assumption) | omega | (simp; omega) | (simp; done)))
  obtain ⟨m, hm⟩ := hmx.below hb
  cases q with
  | none =>
    obtain ⟨rfl, rfl⟩ := h.nil rfl
    refine (Try.bytes_Count_nil _ 2 2 _ (by omega) (by omega)).mono fun e w' ⟨h1, h2⟩ => ⟨?_, by rw [h2]; exact hb⟩
    rw [h1, show linesN [] = 0 by decide]
  | some a =>
    have h' := h.below hb
    refine (Try.bytes_Count_at a ⟨w.heap.size, 0, none⟩ l.length cap 2 2 (l.map fun c => (c.toNat : Int)) [13, 10] m _ (by simp) rfl (fun x hx => ?_) (fun y hy => ?_) (fun i hi => ?_) (fun i hi => ?_) h.cap (by omega) (by omega) (by omega) hm).mono fun e w' ⟨h1, k, h2⟩ => ⟨?_, ?_⟩
    · obtain ⟨c, _, rfl⟩ := List.mem_map.1 hx
      have := c.toNat_lt
      omega
    · simp at hy; rcases hy with rfl | rfl <;> omega
    · have h0 : l ≠ [] := by intro e; subst e; simp at hi
      obtain ⟨bb, off, e1, e2, e3⟩ := h'.cell h0
      injection e1 with e1
      subst e1
      rw [show (⟨bb, off, none⟩ : Addr).add i = ⟨bb, off + i, none⟩ by unfold Addr.add; split <;> simp_all, e3 i hi]
      simp [List.getD, hi]
    · rw [show (⟨w.heap.size, 0, none⟩ : Addr).add i = ⟨w.heap.size, i, none⟩ by unfold Addr.add; split <;> simp_all, World.cell?_alloc_mark]
      match i, hi with
      | 0, _ => rfl
      | 1, _ => rfl
    · rw [h1, bytesOf_nat]; rfl
    · rw [h2]
      exact ⟨hb.os, hb.tape, hb.output, hb.size, hb.block⟩
set_option maxHeartbeats 2000000 in
theorem lines_calls {w : World} {q : Option Addr} {cap : Nat} {l : List UInt8} (h : BytesAt w q cap l) (hlen : l.length ≤ 100000000) (hmx : MaxLenAt w) :
    Calls Try.prog 11 #[.slice q l.length cap] w fun r w' => r = .returned (.int .i64 (linesN l)) ∧ Below w.heap.size w w' := by
  have hc := Lib.hid (count_crlf h hlen hmx)
  clear h
  go_enter Try.func11, Try.ntmps11
  go_wp2_with first
    | (go_at_call 21; ((refine (crlf_calls _).mono ?_); rintro r w1 ⟨rfl, rfl⟩))
    | (go_at_call 23; ((refine hc.out.mono ?_); rintro r w1 ⟨rfl, hb⟩))
  go_returns
  exact ⟨rfl, hb⟩
end Go.Proofs.Ytnoiaeajpjhldaa
