/-
  ref07.Same: two messages as they came.
-/
import Derived.Test.YtnoiaeajpjhldaaDotConv
namespace Go.Proofs.Ytnoiaeajpjhldaa
open Go.ChangeShapes Go.WideShapes Go.ChangeAt Go.RowKit

/-- What 'string(v)' gives, now and later. -/
def TextOf (w : World) (v : Value) (l : List UInt8) : Prop := ∀ W', Below w.heap.size w W' → (convert 22 9 v).run Try.prog W' = .ok (.string ⟨l.toArray⟩) W'
theorem BytesAt.textOf {w : World} {q : Option Addr} {cap : Nat} {l : List UInt8} (h : BytesAt w q cap l) : TextOf w (.slice q l.length cap) l := fun _ hb => (h.below hb).text
theorem own_below {w w' : World} {B : Nat} {e : TypeId} {v : Value} {n : Nat} {xs : List Value} (h : w.ownsRow B e 1 v n xs) (hb : Below w.heap.size w w') : w'.ownsRow B e 1 v n xs :=
  h.kept (row := none) ⟨hb.os, hb.tape, hb.output, hb.size, fun k hk _ => hb.block k hk⟩ (by cases v.ownBlock <;> simp)
theorem own_textOf {w : World} {B : Nat} {v : Value} {l : List UInt8} (h : w.ownsRow B 5 1 v l.length (Lib.byteCells l)) : TextOf w v l := fun _ hb => own_text (own_below h hb)
def sameTB (l1 l2 : List UInt8) (a1 a2 b1 b2 c1 c2 : Bool) : Bool := (l1 == l2) && ((a1 == a2) && ((b1 == b2) && (c1 == c2)))
set_option maxHeartbeats 4000000 in
theorem same_calls {p1 p2 : Option Addr} {n1 k1 n2 k2 : Nat} {l1 l2 : List UInt8} (a1 a2 b1 b2 c1 c2 : Bool) {w : World} (h1 : TextOf w (.slice p1 n1 k1) l1) (h2 : TextOf w (.slice p2 n2 k2) l2) :
    Calls Try.prog 15 #[.agg #[.slice p1 n1 k1, .bool a1, .bool b1, .bool c1], .agg #[.slice p2 n2 k2, .bool a2, .bool b2, .bool c2]] w fun r w' => r = .returned (.bool (sameTB l1 l2 a1 a2 b1 b2 c1 c2)) ∧ Below w.heap.size w w' := by
  have t1 := fun (o1 o2 : Obj) => h1 ((w.alloc o1).alloc o2) (by (repeat' (first | (with_reducible exact Below.refl _ _) | (with_reducible refine Below.app ?_ ?_ _ _) | (with_reducible refine Below.alloc ?_ ?_ _) | (with_reducible refine Below.drew ?_) | (with_reducible refine Below.setCell ?_ ?_ _) | (with_reducible assumption) | omega | (simp; omega) | (simp; done))))
  have t2 := fun (o1 o2 : Obj) => h2 ((w.alloc o1).alloc o2) (by (repeat' (first | (with_reducible exact Below.refl _ _) | (with_reducible refine Below.app ?_ ?_ _ _) | (with_reducible refine Below.alloc ?_ ?_ _) | (with_reducible refine Below.drew ?_) | (with_reducible refine Below.setCell ?_ ?_ _) | (with_reducible assumption) | omega | (simp; omega) | (simp; done))))
  generalize hS : sameTB l1 l2 a1 a2 b1 b2 c1 c2 = S
  replace hS := Lib.hid hS
  clear h1 h2
  go_enter Try.func15, Try.ntmps15
  go_wp2
  all_goals
    go_returns
    refine ⟨rb ?_, by (repeat' (first | (with_reducible exact Below.refl _ _) | (with_reducible refine Below.app ?_ ?_ _ _) | (with_reducible refine Below.alloc ?_ ?_ _) | (with_reducible refine Below.drew ?_) | (with_reducible refine Below.setCell ?_ ?_ _) | (with_reducible assumption) | omega | (simp; omega) | (simp; done)))⟩
    rw [← hS.out]
    unfold sameTB
    go_light
    first | (simp_all; done) | (cases a1 <;> cases a2 <;> cases b1 <;> cases b2 <;> cases c1 <;> cases c2 <;> simp_all)
end Go.Proofs.Ytnoiaeajpjhldaa
