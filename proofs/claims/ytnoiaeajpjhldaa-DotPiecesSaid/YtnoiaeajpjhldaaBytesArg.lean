/-
  An argument []byte, opened: its bytes in memory; nil has none.
-/
import Derived.Test.YtnoiaeajpjhldaaOpen
import Derived.Test.YtnoiaeajpjhldaaDotLines
namespace Go.Proofs.Ytnoiaeajpjhldaa
open Go.ChangeShapes Go.WideShapes Go.ChangeAt Go.RowKit

def IsByte (_ : World) (cs : List Value) (c : UInt8) : Prop := cs = [.int .u8 (c.toNat : Int)]
theorem cellsByte : Try.prog.cellsOf 5 = 1 := by kernel_rfl
section
variable {H : Type} {enc : TypeId × Value → H} {w : World} {spare : Nat → Bool} {base : Nat} {held : Bool}
theorem isByte_of {t : TypeId} (ht : Try.prog.underlying t = some (.int .u8)) {n : Nat} {cs : List Value} {y : DataW H × List MemPlace} (h : DataW.trod enc Try.prog w base spare held n t cs = some y) : ∃ c, IsByte w cs c := by
  obtain ⟨z, h1, _, h3⟩ := DataW.trod_int ht h
  have hb : 0 ≤ z ∧ z ≤ 255 := by simpa [Lit.wf, IntKind.min, IntKind.max, IntKind.signed, IntKind.bits] using h3
  refine ⟨UInt8.ofNat z.toNat, ?_⟩
  unfold IsByte
  rw [h1]
  have : (UInt8.ofNat z.toNat).toNat = z.toNat := by
    rw [UInt8.toNat_ofNat']; omega
  rw [this, Int.toNat_of_nonneg hb.1]
theorem bytes_of_cells {fuel : Nat} {cs : List Value} {x : DataW H × List MemPlace} (h : DataW.trod enc Try.prog w base spare held fuel 22 cs = some x) :
    ∃ q l cap, cs = [.slice q l.length cap] ∧ BytesAt w q cap l ∧ cap ≤ maxLen := by
  have h2 := h
  rcases DataW.trod_slice Try.underlying22 h with ⟨rfl, _⟩ | ⟨a, len, cap, elems, rest, n, _, rfl, _, hb, hl, hm, hlen, hel, _, _⟩
  · exact ⟨none, [], 0, rfl, ⟨fun _ => ⟨rfl, rfl⟩, Nat.le_refl _, fun h => absurd rfl h⟩, by simp⟩
  · obtain ⟨p, l, cap2, e, hl2, hm2, hs⟩ := open_shows (R := IsByte) Try.underlying22 cellsByte (by omega) (isByte_of Try.underlying5) h2
    simp at e
    obtain ⟨rfl, rfl, rfl⟩ := e
    refine ⟨some a, l, cap, rfl, ⟨(by intro h; cases h), by omega, fun h0 => ?_⟩, by omega⟩
    have hpos : 0 < l.length := List.length_pos_iff.2 h0
    obtain ⟨b, off, cs0, e1, e2, _, _, _⟩ := hs 0 hpos
    refine ⟨b, off, e1, e2, fun i hi => ?_⟩
    obtain ⟨b', off', cs1, e1', _, _, e4, e5⟩ := hs i hi
    rw [e1] at e1'
    simp at e1'
    obtain ⟨rfl, rfl⟩ := e1'
    have := e4 0 (by omega)
    rw [Nat.mul_one, Nat.add_zero] at this
    rw [this, e5]; rfl
theorem open_bytes {r : Reach} {b0 : Nat} {v : Value} {d : DataW H} {ps : List MemPlace} (hv : Value.okWide Try.prog w r b0 22 v) (h : DataW.Trod enc Try.prog w base spare held 22 v d ps) :
    ∃ q l cap, v = .slice q l.length cap ∧ BytesAt w q cap l ∧ cap ≤ maxLen := by
  obtain ⟨fuel, hf⟩ := h
  obtain ⟨p', n', c', rfl⟩ := okWide_slice Try.underlying22 hv
  obtain ⟨q, l, cap, e, h1, h2⟩ := bytes_of_cells hf
  simp [Value.cells] at e
  obtain ⟨rfl, rfl, rfl⟩ := e
  exact ⟨p', l, c', rfl, h1, h2⟩
end
end Go.Proofs.Ytnoiaeajpjhldaa
