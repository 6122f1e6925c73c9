/-
  Fresh, RulesWhy.
-/
import Derived.Test.YteahkgbnfbjkhaaGreatDoorRe10
import Derived.Laws.Tables
import Derived.Test.YteahkgbnfbjkhaaGreatDoorProg
import Derived.Test.YteahkgbnfbjkhaaGreatDoorRe00
set_option maxRecDepth 20000
set_option linter.unusedVariables false
set_option linter.unusedSimpArgs false
set_option linter.unusedSectionVars false
namespace Go.Proofs.YteahkgbnfbjkhaaGreatDoor
open Go.RowKit
def NewAt (k : Nat) (o : Obj) (v : Value) (w : World) : Prop := ∃ b, v = .pointer (some ⟨b, 0, none⟩) ∧ k ≤ b ∧ w.heap[b]? = some o
theorem NewAt.mono {k : Nat} {o : Obj} : ∀ v w w', Below w.heap.size w w' → NewAt k o v w → NewAt k o v w' := fun _ _ _ hb ⟨b, h1, h2, h3⟩ =>
 ⟨b, h1, h2, (hb.block b (Array.getElem?_eq_some_iff.1 h3).1).trans h3⟩
theorem NewAt.made {k : Nat} {o : Obj} {w : World} (h : k ≤ w.heap.size) : NewAt k o (.pointer (some ⟨w.heap.size, 0, none⟩)) (w.alloc o) := ⟨_, rfl, h, by show (w.heap.push o)[w.heap.size]? = _; simp⟩
theorem NewAt.app {k b : Nat} {o : Obj} {w : World} {bs : Array Obj} {d : Nat} (hb : b = w.heap.size + bs.size) (h : k ≤ b) : NewAt k o (.pointer (some ⟨b, 0, none⟩)) ((app w bs d).alloc o) := by
 rw [← app_size w bs d] at hb
 subst hb
 exact NewAt.made h
theorem stored_new (W : World) (bs : Array Obj) (d b : Nat) (t : TypeId) (old new : Array Value) (hk : W.heap.size ≤ b) (hb : (app W bs d).heap[b]? = some (.cells old t (0, 0))) :
 ∃ cs, (app W bs d).setRow b new = app W cs d ∧ (app W cs d).heap[b]? = some (.cells new t (0, 0)) := by
 have hz : b < (app W bs d).heap.size := (Array.getElem?_eq_some_iff.1 hb).1
 have hB : Below W.heap.size W ((app W bs d).setRow b new) := by
  refine ⟨rfl, rfl, rfl, ?_, fun k hlt => ?_⟩
  · show _ ≤ ((app W bs d).heap.modify b _).size; simp [app_size]
  show ((app W bs d).heap.modify b _)[k]? = _
  rw [Array.getElem?_modify, if_neg (by omega)]
  exact app_heap _ _ _ _ hlt
 obtain ⟨cs, e, he⟩ := of_below hB
 have hd : e = d := (congrArg World.drawn he).symm
 subst hd
 refine ⟨cs, he, ?_⟩
 rw [← he]
 show ((app W bs e).heap.modify b _)[b]? = _
 rw [Array.getElem?_modify, if_pos rfl, hb]
 rfl
theorem cell_of_block {w : World} {b : Nat} {c : Array Value} {t : TypeId} {m : Nat × Nat} (h : w.heap[b]? = some (.cells c t m)) (i : Nat) : w.cell? ⟨b, i, none⟩ = c[i]? := by simp [World.cell?, h]
theorem free_of_block {w : World} {b : Nat} {c : Array Value} {t : TypeId} (h : w.heap[b]? = some (.cells c t (0, 0))) (i : Nat) : w.frozen? ⟨b, i, none⟩ = false := by simp [World.frozen?, h]
end Go.Proofs.YteahkgbnfbjkhaaGreatDoor
set_option maxRecDepth 20000
set_option linter.unusedVariables false
set_option linter.unusedSimpArgs false
set_option linter.unusedSectionVars false
namespace Go.Proofs.YteahkgbnfbjkhaaGreatDoor
open Go.ChangeShapes Go.WideShapes Go.ChangeAt Go.RowKit
def whyC (e : Int) : Int := if e = 0 then 250 else if e = 14 then 452 else if e = 7 then 550 else 451
def whyS (e : Int) : List UInt8 := if e = 0 then [] else if e = 14 then [52, 46, 50, 46, 50] else if e = 7 then [53, 46, 49, 46, 49] else [52, 46, 51, 46, 48]
def whyR (e : Int) : ByteArray := if e = 0 then ⟨#[]⟩ else if e = 14 then ⟨#[111, 118, 101, 114, 32, 113, 117, 111, 116, 97]⟩ else if e = 7 then ⟨#[110, 111, 32, 115, 117, 99, 104, 32, 117, 115, 101, 114]⟩ else ⟨#[110, 111, 116, 32, 110, 111, 119]⟩
theorem whyS_len (e : Int) : (whyS e).length ≤ 5 := by unfold whyS; split <;> (try split) <;> (try split) <;> decide
theorem whyR_size (e : Int) : (whyR e).size ≤ 12 := by unfold whyR; split <;> (try split) <;> (try split) <;> decide
set_option maxHeartbeats 400000 in
theorem why_calls (e : Int) (w : World) : Calls Tryz.prog 32 #[.int .i64 e] w fun r w' => r = .returned (.tuple #[.int .i64 (whyC e), .string ⟨(whyS e).toArray⟩, .string (whyR e)]) ∧ w = w' := by
 go_enter Tryz.func32, Tryz.ntmps32
 go_wp2
 all_goals
  go_returns
  refine ⟨?_, rfl⟩
  go_light
  simp_all [whyC, whyS, whyR]
end Go.Proofs.YteahkgbnfbjkhaaGreatDoor
