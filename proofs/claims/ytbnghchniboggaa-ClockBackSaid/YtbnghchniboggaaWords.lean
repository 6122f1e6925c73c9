/-
  Rows of words: weekdays and months; a stamp.
-/
import Derived.Test.YtbnghchniboggaaProg
import Derived.Test.YtbnghchniboggaaStable
import Derived.Test.YtbnghchniboggaaClockDig
namespace Go.Proofs.Ytbnghchniboggaa
open Go.ChangeShapes Go.WideShapes Go.ChangeAt Go.RowKit

def WordsAt (n : Nat) (f : Nat → ByteArray) (v : Value) (w : World) : Prop :=
  ∃ b, v = .slice (some ⟨b, 0, none⟩) n n ∧ b < w.heap.size ∧ ∀ i, i < n → w.cell? ⟨b, i, none⟩ = some (.string (f i))
def WordAt (s : ByteArray) (v : Value) (w : World) : Prop :=
  ∃ b i, v = .pointer (some ⟨b, i, none⟩) ∧ b < w.heap.size ∧ w.cell? ⟨b, i, none⟩ = some (.string s)
theorem WordsAt.mono {n f} : ∀ v w w', Below w.heap.size w w' → WordsAt n f v w → WordsAt n f v w' := fun v w w' hb ⟨b, h1, h2, h3⟩ =>
  ⟨b, h1, by have := hb.size; omega, fun i hi => (hb.cell (p := ⟨b, i, none⟩) h2).trans (h3 i hi)⟩
theorem WordAt.mono {s} : ∀ v w w', Below w.heap.size w w' → WordAt s v w → WordAt s v w' := fun v w w' hb ⟨b, i, h1, h2, h3⟩ =>
  ⟨b, i, h1, by have := hb.size; omega, (hb.cell (p := ⟨b, i, none⟩) h2).trans h3⟩

def wdOf : Nat → ByteArray
  | 0 => ⟨#[77, 111, 110]⟩ | 1 => ⟨#[84, 117, 101]⟩ | 2 => ⟨#[87, 101, 100]⟩ | 3 => ⟨#[84, 104, 117]⟩ | 4 => ⟨#[70, 114, 105]⟩ | 5 => ⟨#[83, 97, 116]⟩ | _ => ⟨#[83, 117, 110]⟩
def moOf : Nat → ByteArray
  | 0 => ⟨#[74, 97, 110]⟩ | 1 => ⟨#[70, 101, 98]⟩ | 2 => ⟨#[77, 97, 114]⟩ | 3 => ⟨#[65, 112, 114]⟩ | 4 => ⟨#[77, 97, 121]⟩ | 5 => ⟨#[74, 117, 110]⟩
  | 6 => ⟨#[74, 117, 108]⟩ | 7 => ⟨#[65, 117, 103]⟩ | 8 => ⟨#[83, 101, 112]⟩ | 9 => ⟨#[79, 99, 116]⟩ | 10 => ⟨#[78, 111, 118]⟩ | _ => ⟨#[68, 101, 99]⟩
@[go_sem] theorem wdOf_size (k : Nat) : (wdOf k).size = 3 := by unfold wdOf; split <;> rfl
@[go_sem] theorem moOf_size (k : Nat) : (moOf k).size = 3 := by unfold moOf; split <;> rfl
@[go_sem] theorem dig2_size (v : Int) : (dig2 v).size = 2 := rfl
@[go_sem] theorem dig4_size (v : Int) : (dig4 v).size = 4 := rfl

theorem weekdays_calls (w : World) : Calls Try.prog 31 #[] w fun r w' => (∃ v, r = .returned v ∧ WordsAt 7 wdOf v w') ∧ Below w.heap.size w w' := by
  go_enter Try.func31, Try.ntmps31
  go_wp2
  go_returns
  refine ⟨⟨_, rfl, _, rfl, by simp, fun i hi => ?_⟩, by (repeat' (first | (with_reducible exact Below.refl _ _) | (with_reducible refine Below.app ?_ ?_ _ _) | (with_reducible refine Below.alloc ?_ ?_ _) | (with_reducible refine Below.drew ?_) | (with_reducible refine Below.setCell ?_ ?_ _) | (with_reducible assumption) | omega | (simp; omega) | (simp; done)))⟩
  rw [World.cell?_alloc_mark]
  match i, hi with
  | 0, _ | 1, _ | 2, _ | 3, _ | 4, _ | 5, _ | 6, _ => rfl
theorem months_calls (w : World) : Calls Try.prog 33 #[] w fun r w' => (∃ v, r = .returned v ∧ WordsAt 12 moOf v w') ∧ Below w.heap.size w w' := by
  go_enter Try.func33, Try.ntmps33
  go_wp2
  go_returns
  refine ⟨⟨_, rfl, _, rfl, by simp, fun i hi => ?_⟩, by (repeat' (first | (with_reducible exact Below.refl _ _) | (with_reducible refine Below.app ?_ ?_ _ _) | (with_reducible refine Below.alloc ?_ ?_ _) | (with_reducible refine Below.drew ?_) | (with_reducible refine Below.setCell ?_ ?_ _) | (with_reducible assumption) | omega | (simp; omega) | (simp; done)))⟩
  rw [World.cell?_alloc_mark]
  match i, hi with
  | 0, _ | 1, _ | 2, _ | 3, _ | 4, _ | 5, _ | 6, _ | 7, _ | 8, _ | 9, _ | 10, _ | 11, _ => rfl
end Go.Proofs.Ytbnghchniboggaa
