/-
  Open.
-/
import Derived.Test.YteahkgbnfbjkhaaGreatDoorRe00
import Derived.Lib.SmallJoins
set_option maxRecDepth 20000
set_option linter.unusedVariables false
set_option linter.unusedSimpArgs false
set_option linter.unusedSectionVars false
namespace Go.Proofs.YteahkgbnfbjkhaaGreatDoor
open Go.ChangeShapes Go.WideShapes Go.ChangeAt Go.RowKit
def Shows {α : Type} (w : World) (sz : Nat) (R : World → List Value → α → Prop) (p : Option Addr) (xs : List α) : Prop :=
 ∀ i (h : i < xs.length), ∃ b off cs, p = some ⟨b, off, none⟩ ∧ b < w.heap.size ∧ cs.length = sz ∧ (∀ j, j < sz → w.cell? ⟨b, off + i * sz + j, none⟩ = cs[j]?) ∧ R w cs xs[i]
def Stays {α : Type} (R : World → List Value → α → Prop) : Prop := ∀ {w w' : World} {cs : List Value} {a : α}, Below w.heap.size w w' → R w cs a → R w' cs a
theorem Shows.below {α : Type} {w w' : World} {sz : Nat} {R : World → List Value → α → Prop} {p : Option Addr} {xs : List α} (hR : Stays R) (h : Shows w sz R p xs) (hb : Below w.heap.size w w') : Shows w' sz R p xs := fun i hi => by
 obtain ⟨b, off, cs, h1, h2, h3, h4, h5⟩ := h i hi
 exact ⟨b, off, cs, h1, by have := hb.size; omega, h3, fun j hj => (hb.cell (p := ⟨b, _, none⟩) h2).trans (h4 j hj), hR hb h5⟩
section
variable {H : Type} {enc : TypeId × Value → H} {P : Program} {w : World} {base : Nat} {spare : Nat → Bool} {held : Bool} {α : Type}
theorem open_shows {t e : TypeId} {sz : Nat} {R : World → List Value → α → Prop} (ht : P.underlying t = some (.slice e)) (hsz : P.cellsOf e = sz) (h0 : 0 < sz)
 (hR : ∀ {n : Nat} {cs : List Value} {y : DataW H × List MemPlace}, DataW.trod enc P w base spare held n e cs = some y → ∃ a, R w cs a)
 {fuel : Nat} {cs : List Value} {x : DataW H × List MemPlace} (h : DataW.trod enc P w base spare held fuel t cs = some x) :
 ∃ (p : Option Addr) (xs : List α) (cap : Nat), cs = [.slice p xs.length cap] ∧ xs.length ≤ cap ∧ cap ≤ maxLen ∧ Shows w sz R p xs := by
 rcases DataW.trod_slice ht h with ⟨rfl, _⟩ | ⟨a, len, cap, elems, rest, n, _, rfl, _, hb, hl, hm, hlen, hel, _, _⟩
 · exact ⟨none, [], 0, rfl, Nat.le_refl _, by simp [maxLen], fun i hi => absurd hi (by simp)⟩
 · have key : ∀ i, i < len → ∃ (b off : Nat) (cs' : List Value) (y : α), a = ⟨b, off, none⟩ ∧ b < w.heap.size ∧ cs'.length = sz ∧ (∀ j, j < sz → w.cell? ⟨b, off + i * sz + j, none⟩ = cs'[j]?) ∧ R w cs' y := fun i hi => by
    have hi' : i < elems.length := by omega
    have h1 := hel i hi
    rw [List.getElem?_eq_getElem hi'] at h1
    obtain ⟨cs', hc, ht'⟩ := Option.bind_eq_some_iff.1 h1
    obtain ⟨y, hy⟩ := hR ht'
    rw [hsz] at hc
    obtain ⟨_, hcl, hat⟩ := World.cells?_some hc
    have c0 := hat 0 h0
    rw [List.getElem?_eq_getElem (by omega)] at c0
    have hblk := World.block_lt_of_cell? w _ c0
    have hbl : ∀ k l, ((a.add k).add l).block = a.block := fun k l => by unfold Addr.add; split <;> split <;> rfl
    rw [hbl] at hblk
    have hoff : ∀ k l, a.spot = none → (a.add k).add l = ⟨a.block, a.off + k + l, none⟩ := fun k l hs => by
     obtain ⟨ab, ao, sp0⟩ := a
     simp only at hs; subst hs
     unfold Addr.add
     by_cases hk : k = 0 <;> by_cases hl : l = 0 <;> simp [hk, hl]
    -- the address has no spot: its first cell can be read
    have hsp : a.spot = none := by
     rcases Nat.eq_zero_or_pos (i * sz) with hz | hz
     · have := World.cell?_spot c0
       simpa [Addr.add, hz] using this
     · -- element 0 tells it
       have hlen0 : 0 < len := by omega
       have g1 := hel 0 hlen0
       rw [List.getElem?_eq_getElem (by omega)] at g1
       obtain ⟨cs0, hc0, _⟩ := Option.bind_eq_some_iff.1 g1
       rw [hsz] at hc0
       obtain ⟨_, hcl0, hat0⟩ := World.cells?_some hc0
       have c00 := hat0 0 h0
       rw [List.getElem?_eq_getElem (by omega)] at c00
       have := World.cell?_spot c00
       simpa [Addr.add] using this
    refine ⟨a.block, a.off, cs', y, ?_, hblk, hcl, fun j hj => ?_, hy⟩
    · obtain ⟨ab, ao, sp0⟩ := a; simp only at hsp; subst hsp; rfl
    · have := hat j hj
      rw [hoff _ _ hsp] at this
      exact this
   refine ⟨some a, (List.ofFn fun i : Fin len => Classical.choose (Classical.choose_spec (Classical.choose_spec (Classical.choose_spec (key i.1 i.2))))), cap, by simp, by simpa using hl, hm, fun i hi => ?_⟩
   have hi' : i < len := by simpa using hi
   have spec := Classical.choose_spec (Classical.choose_spec (Classical.choose_spec (Classical.choose_spec (key i hi'))))
   refine ⟨_, _, _, congrArg some spec.1, spec.2.1, spec.2.2.1, spec.2.2.2.1, ?_⟩
   have := spec.2.2.2.2
   simpa using this
end
def IsInt (_ : World) (cs : List Value) (z : Int) : Prop := cs = [.int .i64 z] ∧ -9223372036854775808 ≤ z ∧ z ≤ 9223372036854775807
def IsStr (_ : World) (cs : List Value) (s : ByteArray) : Prop := cs = [.string s] ∧ s.size ≤ maxLen
theorem ints_of_shows {w : World} {p : Option Addr} {zs : List Int} (h : Shows w 1 IsInt p zs) : IntsAt w p zs := fun i hi => by
 obtain ⟨b, off, cs, h1, h2, _, h4, h5, _⟩ := h i hi
 refine ⟨b, off, h1, h2, ?_⟩
 have := h4 0 (by omega)
 rw [Nat.mul_one, Nat.add_zero] at this
 rw [this, h5]
 simp [List.getD, hi]
section
variable {H : Type} {enc : TypeId × Value → H} {P : Program} {w : World} {base : Nat} {spare : Nat → Bool} {held : Bool}
theorem bounds_of_wf {n : Int} (h : (Lit.int .i64 n).wf = true) : -9223372036854775808 ≤ n ∧ n ≤ 9223372036854775807 := by
 simpa [Lit.wf, IntKind.min, IntKind.max, IntKind.signed, IntKind.bits] using h
theorem isInt_of {t : TypeId} (ht : P.underlying t = some (.int .i64)) {n : Nat} {cs : List Value} {y : DataW H × List MemPlace} (h : DataW.trod enc P w base spare held n t cs = some y) : ∃ z, IsInt w cs z := by
 obtain ⟨z, h1, _, h3⟩ := DataW.trod_int ht h
 exact ⟨z, h1, bounds_of_wf h3⟩
theorem isStr_of {t : TypeId} (ht : P.underlying t = some .string) {n : Nat} {cs : List Value} {y : DataW H × List MemPlace} (h : DataW.trod enc P w base spare held n t cs = some y) : ∃ s, IsStr w cs s := by
 obtain ⟨s, h1, _, h3⟩ := DataW.trod_string ht h
 exact ⟨s, h1, h3⟩
theorem field_of {t : TypeId} {fs : Array Field} (ht : P.underlying t = some (.struct fs)) {n : Nat} {cs : List Value} {y : DataW H × List MemPlace} (h : DataW.trod enc P w base spare held n t cs = some y) :
 cs.length = P.cellsOf t ∧ ∀ (i : Nat) (f : Field), fs[i]? = some f → ∀ k, P.cellsOf f.type = k → ∃ m y', DataW.trod enc P w base spare held m f.type ((cs.drop f.offset).take k) = some y' := by
 obtain ⟨xs, m, _, _, hl, hxl, hf⟩ := DataW.trod_struct ht h
 refine ⟨hl, fun i f hi k hk => ⟨m, xs[i]'(by rw [hxl]; exact (Array.getElem?_eq_some_iff.1 hi).1), ?_⟩⟩
 rw [← hk, hf i f hi, List.getElem?_eq_getElem]
theorem open_agg {t : TypeId} {fs : Array Field} (ht : P.underlying t = some (.struct fs)) {r : Reach} {b0 : Nat} {v : Value} {d : DataW H} {p : List MemPlace} (hv : Value.okWide P w r b0 t v) (h : DataW.Trod enc P w base spare held t v d p) :
 ∃ cs : List Value, v = .agg cs.toArray ∧ cs.length = P.cellsOf t ∧ ∀ (i : Nat) (f : Field), fs[i]? = some f → ∀ k, P.cellsOf f.type = k → ∃ m y', DataW.trod enc P w base spare held m f.type ((cs.drop f.offset).take k) = some y' := by
 obtain ⟨cs, rfl, hsz⟩ := okWide_struct ht hv
 obtain ⟨fuel, hf⟩ := h
 have := field_of ht hf
 exact ⟨cs.toList, rfl, by simpa [Value.cells] using this.1, by simpa [Value.cells] using this.2⟩
end
end Go.Proofs.YteahkgbnfbjkhaaGreatDoor
