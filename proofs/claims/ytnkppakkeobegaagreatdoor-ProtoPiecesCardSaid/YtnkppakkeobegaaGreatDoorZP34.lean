/-
  Append, BytesG, BufferG.
-/
import Derived.Test.YtnkppakkeobegaaGreatDoorZP02
import Derived.OwnWalk
import Derived.Test.YtnkppakkeobegaaGreatDoorProg
import Derived.Test.YtnkppakkeobegaaGreatDoorZP08
import Derived.Laws.BytesArg
import Derived.Laws.IdiomStrings
import Derived.Lib.SlBytesConst
import Derived.Lib.SmallJoins
import Derived.Test.YtnkppakkeobegaaGreatDoorZP29
import Derived.Lib.Buffer
set_option maxRecDepth 20000
set_option linter.unusedVariables false
set_option linter.unusedSimpArgs false
set_option linter.unusedSectionVars false
namespace Go.Proofs.YtnkppakkeobegaaGreatDoor
open Go.RowKit
section
variable {P : Program} (w : World)
end
end Go.Proofs.YtnkppakkeobegaaGreatDoor
set_option maxRecDepth 20000
set_option linter.unusedVariables false
set_option linter.unusedSimpArgs false
set_option linter.unusedSectionVars false
namespace Go.Proofs.YtnkppakkeobegaaGreatDoor
open Go.ChangeShapes Go.WideShapes Go.ChangeAt Go.RowKit
theorem own_len {w : World} {B : Nat} {e : TypeId} {v : Value} {n : Nat} {xs : List Value} (h : w.ownsRow B e 1 v n xs) : ∃ p cap, v = .slice p n cap := by
 rcases h.2 with ⟨h1, h2⟩ | ⟨g, cap, cur, h1, _⟩
 · exact ⟨none, 0, by rw [h1, h2]⟩
 · exact ⟨_, _, h1⟩
structure BytesAt (w : World) (q : Option Addr) (cap : Nat) (l : List UInt8) : Prop where
 nil : q = none → l = [] ∧ cap = 0
 cap : l.length ≤ cap
 cell : l ≠ [] → ∃ bb off, q = some ⟨bb, off, none⟩ ∧ bb < w.heap.size ∧ ∀ i (h : i < l.length), w.cell? ⟨bb, off + i, none⟩ = some (.int .u8 (l[i].toNat : Int))
theorem own_below {w w' : World} {B : Nat} {e : TypeId} {v : Value} {n : Nat} {xs : List Value} (h : w.ownsRow B e 1 v n xs) (hb : Below w.heap.size w w') : w'.ownsRow B e 1 v n xs :=
 h.kept (row := none) ⟨hb.os, hb.tape, hb.output, hb.size, fun k hk _ => hb.block k hk⟩ (by cases v.ownBlock <;> simp)
theorem cellsByte : Tryz.prog.cellsOf 5 = 1 := by kernel_rfl
section
variable {H : Type} {enc : TypeId × Value → H} {w : World} {spare : Nat → Bool} {base : Nat} {held : Bool}
end
section
variable {w : World}
end
end Go.Proofs.YtnkppakkeobegaaGreatDoor
set_option maxRecDepth 20000
set_option linter.unusedVariables false
set_option linter.unusedSimpArgs false
set_option linter.unusedSectionVars false
namespace Go.Proofs.YtnkppakkeobegaaGreatDoor
open Go.ChangeShapes Go.WideShapes Go.ChangeAt Go.RowKit
theorem buffer_below {T e : TypeId} {B b : Nat} {bs : List Value} {w w' : World} (h : Lib.IsBuffer T e B b bs w) (hb : Below w.heap.size w w') : Lib.IsBuffer T e B b bs w' := by
 obtain ⟨h1, v, lr, h2, h3, h4⟩ := h
 exact ⟨h1, v, lr, (hb.block b (Array.getElem?_eq_some_iff.1 h2).1).trans h2, own_below h3 hb, h4⟩
theorem one_bytes (l : List UInt8) : ∀ v ∈ Lib.byteCells l, v.oneCell' = true := fun v hv => by
 simp only [Lib.byteCells, List.mem_map] at hv
 obtain ⟨c, _, rfl⟩ := hv; rfl
theorem bytesCells_len (l : List UInt8) : (Lib.byteCells l).length = l.length := by simp [Lib.byteCells]
theorem bytesCells_app (a b : List UInt8) : Lib.byteCells a ++ Lib.byteCells b = Lib.byteCells (a ++ b) := by simp [Lib.byteCells]
theorem drewN_bel (n : Nat) (X : World) : Below X.heap.size X (X.drewN n) := by
 induction n with
 | zero => exact Below.refl _ _
 | succ n ih => exact ih.drew
abbrev BufAt (b : Nat) (out : List UInt8) (w : World) : Prop := Lib.IsBuffer 124 5 b b (Lib.byteCells out) w
theorem bufWrite {b : Nat} {out : List UInt8} {w : World} (h : BufAt b out w) (s : ByteArray) (hl : out.length + s.size ≤ 1000000000000) :
 Calls Tryz.prog 80 #[.pointer (some ⟨b, 0, none⟩), .string s] w fun e w' => (∃ n, e = .returned (.tuple #[.int .i64 n, .nilIface])) ∧ BufAt b (out ++ s.data.toList) w' ∧ Below b w w' := by
 have hbo := bytesCells_len out
 refine (Tryz.Buffer_WriteString b b (Lib.byteCells out) s w h (Nat.le_of_lt h.lt) (one_bytes out) (by rw [hbo]; omega)).mono fun e w' ⟨h1, h2, h3⟩ => ⟨⟨_, h1⟩, ?_, h3⟩
 rw [bytesCells_app] at h2
 exact h2
theorem bufByte {b : Nat} {out : List UInt8} {w : World} (h : BufAt b out w) (c : UInt8) {n : Int} (hn : n = c.toNat) (hl : out.length ≤ 1000000000000) :
 Calls Tryz.prog 82 #[.pointer (some ⟨b, 0, none⟩), .int .u8 n] w fun e w' => e = .returned .nilIface ∧ BufAt b (out ++ [c]) w' ∧ Below b w w' := by
 have hbo := bytesCells_len out
 refine (Tryz.Buffer_WriteByte b b (Lib.byteCells out) n w h (Nat.le_of_lt h.lt) (one_bytes out) (by rw [hbo]; omega)).mono fun e w' ⟨h1, h2, h3⟩ => ⟨h1, ?_, h3⟩
 rw [show Lib.byteCells out ++ [.int .u8 n] = Lib.byteCells (out ++ [c]) by subst hn; simp [Lib.byteCells]] at h2
 exact h2
end Go.Proofs.YtnkppakkeobegaaGreatDoor
