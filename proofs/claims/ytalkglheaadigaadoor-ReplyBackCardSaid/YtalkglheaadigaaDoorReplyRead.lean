/-
  reply.Read: which reply bytes begin with. (Plain part, and bytes.Index.)
-/
import Derived.Test.YtalkglheaadigaaDoorReplyParse
set_option maxRecDepth 20000
set_option linter.unusedVariables false
set_option linter.unusedSimpArgs false
set_option linter.unusedSectionVars false
namespace Go.Proofs.YtalkglheaadigaaDoor
open Go.ChangeShapes Go.WideShapes Go.ChangeAt Go.RowKit

theorem bytesOf_nat8 (l : List UInt8) : Lib.bytesOf (l.map fun c => (c.toNat : Int)) = l := by
  unfold Lib.bytesOf
  rw [List.map_map]
  conv => rhs; rw [← List.map_id l]
  exact List.map_congr_left fun c _ => by simp
theorem index_crlf_le (l : List UInt8) (n : Nat) (h : Lib.index l [13, 10] = (n : Int)) : n + 2 ≤ l.length := by
  have := Lib.index_room l [13, 10] (by omega)
  rw [h] at this
  simp at this; omega
/-- bytes.Index of the line's end, the two bytes in a block of the call's own. -/
theorem index8_calls {w : World} {q : Option Addr} {cap : Nat} {l : List UInt8} (hb : BytesAt w q cap l) (hl : l.length ≤ 100000000) (g : Nat) (h0 : w.cell? ⟨g, 0, none⟩ = some (.int .u8 13)) (h1 : w.cell? ⟨g, 1, none⟩ = some (.int .u8 10)) (hw : LibAt w) :
    Calls Tryd.prog 42 #[.slice q l.length cap, .slice (some ⟨g, 0, none⟩) 2 2] w fun e w' => e = .returned (.int .i64 (Lib.index l [13, 10])) ∧ Below w.heap.size w w' := by
  obtain ⟨m, hm⟩ := hw.max
  cases q with
  | none =>
    obtain ⟨rfl, rfl⟩ := hb.nil rfl
    exact (Tryd.bytes_Index_nil (some ⟨g, 0, none⟩) 2 2 w (by decide) (fun h => by omega)).mono fun e w' ⟨h1, h2⟩ => ⟨h1, by rw [h2]; exact Below.refl _ _⟩
  | some a =>
    refine (Tryd.bytes_Index_at a ⟨g, 0, none⟩ l.length cap 2 2 (l.map fun c => (c.toNat : Int)) [13, 10] m w (by simp) rfl (fun x hx => ?_) (fun y hy => ?_) (fun i hi => ?_) (fun i hi => ?_) hb.cap (by omega) (by decide) hm).mono fun e w' ⟨h1, n, h2⟩ => ⟨?_, ?_⟩
    · obtain ⟨c, _, rfl⟩ := List.mem_map.1 hx
      have := c.toNat_lt
      omega
    · simp at hy; rcases hy with rfl | rfl <;> omega
    · have h0 : l ≠ [] := by intro e; subst e; simp at hi
      obtain ⟨bb, off, e1, e2, e3⟩ := hb.cell h0
      injection e1 with e1
      subst e1
      rw [show (⟨bb, off, none⟩ : Addr).add i = ⟨bb, off + i, none⟩ by unfold Addr.add; split <;> simp_all, e3 i hi]
      simp [List.getD, hi]
    · rw [show (⟨g, 0, none⟩ : Addr).add i = ⟨g, i, none⟩ by unfold Addr.add; split <;> simp_all]
      match i, hi with
      | 0, _ => exact h0
      | 1, _ => exact h1
    · rw [h1, bytesOf_nat8]; rfl
    · subst h2
      exact drewN_belP _ _
abbrev RGot := Nat × List UInt8 × List ByteArray × Nat
/-- The reply with which the bytes from a place on begin, some lines having been read; the error's number. -/
def readQ (enh : Bool) (b : List UInt8) (n c0 : Nat) (e0 : List UInt8) (ts : List ByteArray) : Except Int RGot :=
  if _h : 0 ≤ Lib.index (b.drop n) [13, 10] then
    match lineQ enh ((b.drop n).take (Lib.index (b.drop n) [13, 10]).toNat) with
    | none => .error 3
    | some (c, m, e, t) =>
      if ts ≠ [] ∧ (c ≠ c0 ∨ e ≠ e0) then .error 3
      else if m = true then readQ enh b (n + (Lib.index (b.drop n) [13, 10]).toNat + 2) c e (ts ++ [⟨t.toArray⟩])
      else .ok (c, e, ts ++ [⟨t.toArray⟩], n + (Lib.index (b.drop n) [13, 10]).toNat + 2)
  else .error 2
termination_by b.length - n
decreasing_by
  have h2 := index_crlf_le (b.drop n) (Lib.index (b.drop n) [13, 10]).toNat (by omega)
  rw [List.length_drop] at h2
  omega
theorem readQ_short {enh : Bool} {b : List UInt8} {n c0 : Nat} {e0 : List UInt8} {ts : List ByteArray} (h : Lib.index (b.drop n) [13, 10] = -1) : readQ enh b n c0 e0 ts = .error 2 := by
  rw [readQ, dif_neg (by omega)]
theorem readQ_none {enh : Bool} {b : List UInt8} {n c0 k : Nat} {e0 : List UInt8} {ts : List ByteArray} (h : Lib.index (b.drop n) [13, 10] = k) (h2 : lineQ enh ((b.drop n).take k) = none) : readQ enh b n c0 e0 ts = .error 3 := by
  rw [readQ, dif_pos (by omega)]
  simp only [h, Int.toNat_natCast, h2]
theorem readQ_some {enh : Bool} {b : List UInt8} {n c0 k : Nat} {e0 : List UInt8} {ts : List ByteArray} {c : Nat} {m : Bool} {e t : List UInt8} (h : Lib.index (b.drop n) [13, 10] = k) (h2 : lineQ enh ((b.drop n).take k) = some (c, m, e, t)) :
    readQ enh b n c0 e0 ts = if ts ≠ [] ∧ (c ≠ c0 ∨ e ≠ e0) then .error 3 else if m = true then readQ enh b (n + k + 2) c e (ts ++ [⟨t.toArray⟩]) else .ok (c, e, ts ++ [⟨t.toArray⟩], n + k + 2) := by
  conv => lhs; rw [readQ]
  rw [dif_pos (by omega)]
  simp only [h, Int.toNat_natCast, h2]
end Go.Proofs.YtalkglheaadigaaDoor
