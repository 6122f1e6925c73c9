/-
  A bytes.Buffer of the call's own: what is written to it. (Its first lemmas stand in HeadBuild too: strike them there where a seat holds both.)
-/
import Derived.Test.YtalkglheaadigaaDoorBytesG
import Derived.Test.YtalkglheaadigaaDoorShelf
import Derived.Lib.Buffer
set_option maxRecDepth 20000
set_option linter.unusedVariables false
set_option linter.unusedSimpArgs false
set_option linter.unusedSectionVars false
namespace Go.Proofs.YtalkglheaadigaaDoor
open Go.ChangeShapes Go.WideShapes Go.ChangeAt Go.RowKit

theorem buffer_below {T e : TypeId} {B b : Nat} {bs : List Value} {w w' : World} (h : Lib.IsBuffer T e B b bs w) (hb : Below w.heap.size w w') : Lib.IsBuffer T e B b bs w' := by
  obtain ⟨h1, v, lr, h2, h3, h4⟩ := h
  exact ⟨h1, v, lr, (hb.block b (Array.getElem?_eq_some_iff.1 h2).1).trans h2, own_below h3 hb, h4⟩
theorem one_bytes (l : List UInt8) : ∀ v ∈ Lib.byteCells l, v.oneCell' = true := fun v hv => by
  simp only [Lib.byteCells, List.mem_map] at hv
  obtain ⟨c, _, rfl⟩ := hv; rfl
theorem bytesCells_len (l : List UInt8) : (Lib.byteCells l).length = l.length := by simp [Lib.byteCells]
theorem bytesCells_app (a b : List UInt8) : Lib.byteCells a ++ Lib.byteCells b = Lib.byteCells (a ++ b) := by simp [Lib.byteCells]
theorem drewN_bel (n : Nat) (X : World) : Below X.heap.size X (X.drewN n) := by
  induction n with
  | zero => exact Below.refl _ _
  | succ n ih => exact ih.drew
/-- The buffer in block b holds these bytes; blocks from b on are the call's own. -/
abbrev BufAt (b : Nat) (out : List UInt8) (w : World) : Prop := Lib.IsBuffer 77 5 b b (Lib.byteCells out) w
theorem bufWrite {b : Nat} {out : List UInt8} {w : World} (h : BufAt b out w) (s : ByteArray) (hl : out.length + s.size ≤ 1000000000000) :
    Calls Tryd.prog 46 #[.pointer (some ⟨b, 0, none⟩), .string s] w fun e w' => (∃ n, e = .returned (.tuple #[.int .i64 n, .nilIface])) ∧ BufAt b (out ++ s.data.toList) w' ∧ Below b w w' := by
  have hbo := bytesCells_len out
  refine (Tryd.Buffer_WriteString b b (Lib.byteCells out) s w h (Nat.le_of_lt h.lt) (one_bytes out) (by rw [hbo]; omega)).mono fun e w' ⟨h1, h2, h3⟩ => ⟨⟨_, h1⟩, ?_, h3⟩
  rw [bytesCells_app] at h2
  exact h2
theorem bufByte {b : Nat} {out : List UInt8} {w : World} (h : BufAt b out w) (c : UInt8) {n : Int} (hn : n = c.toNat) (hl : out.length ≤ 1000000000000) :
    Calls Tryd.prog 48 #[.pointer (some ⟨b, 0, none⟩), .int .u8 n] w fun e w' => e = .returned .nilIface ∧ BufAt b (out ++ [c]) w' ∧ Below b w w' := by
  have hbo := bytesCells_len out
  refine (Tryd.Buffer_WriteByte b b (Lib.byteCells out) n w h (Nat.le_of_lt h.lt) (one_bytes out) (by rw [hbo]; omega)).mono fun e w' ⟨h1, h2, h3⟩ => ⟨h1, ?_, h3⟩
  rw [show Lib.byteCells out ++ [.int .u8 n] = Lib.byteCells (out ++ [c]) by subst hn; simp [Lib.byteCells]] at h2
  exact h2
theorem bufBytes {b : Nat} {out : List UInt8} {w : World} (h : BufAt b out w) : Calls Tryd.prog 49 #[.pointer (some ⟨b, 0, none⟩)] w fun e w' => ∃ p c, e = .returned (.slice p out.length c) ∧ BytesAt w' p c out ∧ Below w.heap.size w w' := by
  refine (Tryd.Buffer_Bytes b b _ w h).mono fun e w' ⟨v, h1, h2, n, h3⟩ => ?_
  rw [bytesCells_len] at h2
  obtain ⟨p, c, rfl⟩ := own_len h2
  refine ⟨p, c, h1, own_bytesAt' h2 rfl rfl, ?_⟩
  subst h3
  exact drewN_bel _ _
end Go.Proofs.YtalkglheaadigaaDoor
