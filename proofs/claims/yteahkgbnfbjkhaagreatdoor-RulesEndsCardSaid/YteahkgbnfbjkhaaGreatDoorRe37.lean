/-
  DotPlain, HeadNext.
-/
import Derived.Test.YteahkgbnfbjkhaaGreatDoorRe00
import Derived.Test.YteahkgbnfbjkhaaGreatDoorRe34
set_option maxRecDepth 20000
set_option linter.unusedVariables false
set_option linter.unusedSimpArgs false
set_option linter.unusedSectionVars false
namespace Go.Proofs.YteahkgbnfbjkhaaGreatDoor
structure Dec where
 st : Nat
 line : Nat
 all : List UInt8
 long : Bool
 bare : Bool
def endQ : Bool → List UInt8 → Option Nat
 | _, [] => none
 | p, c :: r => if p = true ∧ c = 10 then some 1 else (endQ (decide (c = 13)) r).map (1 + ·)
theorem endQ_le : ∀ (l : List UInt8) (p : Bool) (n : Nat), endQ p l = some n → 0 < n ∧ n ≤ l.length
 | [], _, _, h => by rw [endQ] at h; cases h
 | c :: l, p, n, h => by
  rw [endQ] at h
  split at h
  · cases h; simp
  · cases hx : endQ (decide (c = 13)) l with
    | none => rw [hx] at h; cases h
    | some k =>
     rw [hx] at h
     have := endQ_le l _ k hx
     cases h
     simp; omega
structure Rdg where
 all : List UInt8
 long : Bool
 bare : Bool
 used : Nat
 done : Bool
structure Agree (d : Dec) (k : Nat) (g g0 : Rdg) : Prop where
 all : d.all = g.all
 long : d.long = g.long
 bare : d.bare = g.bare
 used : k + g0.used = g.used
 done : decide (d.st = 5) = g.done
end Go.Proofs.YteahkgbnfbjkhaaGreatDoor
set_option maxRecDepth 20000
set_option linter.unusedVariables false
set_option linter.unusedSimpArgs false
set_option linter.unusedSectionVars false
namespace Go.Proofs.YteahkgbnfbjkhaaGreatDoor
open Go.ChangeShapes Go.WideShapes Go.ChangeAt Go.RowKit
theorem crlf_two (c d : UInt8) (r : List UInt8) : endQ false (c :: d :: r) = if c = 13 ∧ d = 10 then some 2 else (endQ false (d :: r)).map (1 + ·) := by
 rw [endQ, if_neg (by simp)]
 by_cases hc : c = 13
 · subst hc
   by_cases hd : d = 10
   · subst hd; simp [endQ]
   · rw [if_neg (by simp [hd]), endQ, endQ, if_neg (by simp [hd]), if_neg (by simp)]
 · rw [if_neg (by simp [hc]), decide_eq_false hc]
theorem endQ_two_le : ∀ (l : List UInt8) (n : Nat), endQ false l = some n → 2 ≤ n
 | [], _, h => by rw [endQ] at h; cases h
 | [c], n, h => by simp [endQ] at h
 | c :: d :: r, n, h => by
  rw [crlf_two] at h
  split at h
  · cases h; omega
  · cases hx : endQ false (d :: r) with
    | none => rw [hx] at h; cases h
    | some k => rw [hx] at h; have := endQ_two_le (d :: r) k hx; cases h; show 2 ≤ 1 + k; omega
theorem crlf_index : ∀ l : List UInt8, Lib.index l [13, 10] = match endQ false l with | some n => ((n : Nat) : Int) - 2 | none => -1
 | [] => by rfl
 | [c] => by
  have : endQ false [c] = none := by simp [endQ]
  rw [this, Lib.index]
  simp [List.isPrefixOf, Lib.index]
 | c :: d :: r => by
  have ih := crlf_index (d :: r)
  rw [crlf_two, Lib.index]
  by_cases h : c = 13 ∧ d = 10
  · obtain ⟨rfl, rfl⟩ := h
    simp [List.isPrefixOf]
  · have hp : ([13, 10] : List UInt8).isPrefixOf (c :: d :: r) = false := by
     simp only [List.isPrefixOf, Bool.and_true, Bool.and_eq_false_iff, beq_eq_false_iff_ne]
     by_cases hc : c = 13
     · right; intro e; exact h ⟨hc, e.symm⟩
     · left; intro e; exact hc e.symm
    rw [if_neg h, if_neg (by rw [hp]; simp), ih]
    cases hx : endQ false (d :: r) with
    | none => rfl
    | some n =>
     have hn := endQ_two_le _ _ hx
     show (if ((n : Int) - 2 == -1) = true then (-1 : Int) else (n : Int) - 2 + 1) = ((1 + n : Nat) : Int) - 2
     rw [if_neg (by simp; omega)]; omega
theorem crlf_cut (l : List UInt8) : Lib.cut l [13, 10] = match endQ false l with | some n => (l.take (n - 2), l.drop n, true) | none => (l, [], false) := by
 unfold Lib.cut
 rw [crlf_index]
 cases hx : endQ false l with
 | none => rfl
 | some n =>
  have hn := endQ_two_le _ _ hx
  rw [if_pos (show 0 ≤ (n : Int) - 2 by omega)]
  have e : ((n : Int) - 2).toNat = n - 2 := by omega
  show (l.take ((n : Int) - 2).toNat, l.drop (((n : Int) - 2).toNat + 2), true) = (l.take (n - 2), l.drop n, true)
  rw [e, show n - 2 + 2 = n by omega]
theorem drewN_below (n : Nat) (X : World) : Below X.heap.size X (X.drewN n) := by
 induction n with
 | zero => exact Below.refl _ _
 | succ n ih => exact ih.drew
theorem cut_calls (l : List UInt8) (sep : List UInt8) (w : World) (hs : l.length ≤ 100000000) (hm : MaxLenAt w) :
 Calls Tryz.prog 102 #[.string ⟨l.toArray⟩, .string ⟨sep.toArray⟩] w fun e w' => e = .returned (.tuple #[.string ⟨(Lib.cut l sep).1.toArray⟩, .string ⟨(Lib.cut l sep).2.1.toArray⟩, .bool (Lib.cut l sep).2.2]) ∧ Below w.heap.size w w' := by
 obtain ⟨m, hm⟩ := hm
 refine (Tryz.strings_Cut ⟨l.toArray⟩ ⟨sep.toArray⟩ m w (by show l.toArray.size < _; rw [List.size_toArray]; omega) hm).mono fun e w' ⟨h1, n, h2⟩ => ⟨h1, ?_⟩
 subst h2
 exact drewN_below _ _
theorem line_yes {l : List UInt8} {n : Nat} (h : endQ false l = some n) (w : World) (hs : l.length ≤ 100000000) (hm : MaxLenAt w) :
 Calls Tryz.prog 150 #[.string ⟨l.toArray⟩] w fun e w' => e = .returned (.tuple #[.string ⟨(l.take (n - 2)).toArray⟩, .string ⟨(l.drop n).toArray⟩, .bool true]) ∧ Below w.heap.size w w' := by
 have hc := cut_calls l [13, 10] w hs hm
 rw [crlf_cut, h] at hc
 simp only at hc
 generalize l.take (n - 2) = a at *
 generalize l.drop n = b at *
 replace hc := Lib.hid hc
 clear h
 go_enter Tryz.func150, Tryz.ntmps150
 go_wp2_with (go_at_call 102; ((refine (hc.out).mono ?_); rintro r w1 ⟨rfl, hb⟩; obtain ⟨b1, b1d, rfl⟩ := of_below hb; clear hb))
 go_returns
 exact ⟨rfl, by (repeat' (first | (with_reducible exact Below.refl _ _) | (with_reducible refine Below.app ?_ ?_ _ _) | (with_reducible refine Below.alloc ?_ ?_ _) | (with_reducible refine Below.drew ?_) | (with_reducible refine Below.setCell ?_ ?_ _) | (with_reducible assumption) | omega | (simp; omega) | (simp; done)))⟩
theorem line_no {l : List UInt8} (h : endQ false l = none) (w : World) (hs : l.length ≤ 100000000) (hm : MaxLenAt w) :
 Calls Tryz.prog 150 #[.string ⟨l.toArray⟩] w fun e w' => e = .returned (.tuple #[.string ⟨l.toArray⟩, .string ⟨#[]⟩, .bool false]) ∧ Below w.heap.size w w' := by
 have hc := cut_calls l [13, 10] w hs hm
 rw [crlf_cut, h] at hc
 simp only at hc
 replace hc := Lib.hid hc
 clear h
 go_enter Tryz.func150, Tryz.ntmps150
 go_wp2_with (go_at_call 102; ((refine (hc.out).mono ?_); rintro r w1 ⟨rfl, hb⟩; obtain ⟨b1, b1d, rfl⟩ := of_below hb; clear hb))
 go_returns
 exact ⟨rfl, by (repeat' (first | (with_reducible exact Below.refl _ _) | (with_reducible refine Below.app ?_ ?_ _ _) | (with_reducible refine Below.alloc ?_ ?_ _) | (with_reducible refine Below.drew ?_) | (with_reducible refine Below.setCell ?_ ?_ _) | (with_reducible assumption) | omega | (simp; omega) | (simp; done)))⟩
def headBlank (r : List UInt8) : Bool := !headB r
def contQ (v r : List UInt8) : Option (List UInt8 × List UInt8) :=
 if headBlank r = true then
  match _h : endQ false r with
  | none => none
  | some n => contQ (v ++ r.take (n - 2)) (r.drop n)
 else some (v, r)
termination_by r.length
decreasing_by
 have := endQ_le _ _ _ ‹_›
 simp; omega
theorem contQ_stop {v r : List UInt8} (h : headBlank r = false) : contQ v r = some (v, r) := by rw [contQ, if_neg (by rw [h]; simp)]
theorem contQ_none {v r : List UInt8} (h : headBlank r = true) (h2 : endQ false r = none) : contQ v r = none := by
 rw [contQ, if_pos h]; split
 · rfl
 · rename_i hm; rw [h2] at hm; cases hm
theorem contQ_go {v r : List UInt8} {n : Nat} (h : headBlank r = true) (h2 : endQ false r = some n) : contQ v r = contQ (v ++ r.take (n - 2)) (r.drop n) := by
 rw [contQ, if_pos h]; split
 · rename_i hm; rw [h2] at hm; cases hm
 · rename_i m hm; rw [h2] at hm; cases hm; rfl
def nextIn (C : List UInt8 × List UInt8 × Bool) (r0 : List UInt8) : Option ((List UInt8 × List UInt8) × List UInt8) :=
 (contQ C.2.1 r0).bind fun vr => if (C.2.2 && (nameB C.1 && valueB (Lib.trimLeftS vr.1 [32, 9]))) = true then some ((C.1, Lib.trimLeftS vr.1 [32, 9]), vr.2) else none
theorem nextIn_none {name V0 r0 : List UInt8} {fd : Bool} (h : contQ V0 r0 = none) : nextIn (name, V0, fd) r0 = none := by unfold nextIn; rw [h]; rfl
theorem nextIn_some {name V0 r0 v r : List UInt8} {fd : Bool} (h : contQ V0 r0 = some (v, r)) : nextIn (name, V0, fd) r0 = if (fd && (nameB name && valueB (Lib.trimLeftS v [32, 9]))) = true then some ((name, Lib.trimLeftS v [32, 9]), r) else none := by unfold nextIn; rw [h]; rfl
def nextQ (l : List UInt8) : Option ((List UInt8 × List UInt8) × List UInt8) :=
 match endQ false l with
 | none => none
 | some n => nextIn (Lib.cut (l.take (n - 2)) [58]) (l.drop n)
end Go.Proofs.YteahkgbnfbjkhaaGreatDoor
