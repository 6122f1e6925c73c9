/-
  AW26.
-/
import Derived.Test.YtnkppakkeobegaaGreatDoorZM09
set_option maxRecDepth 20000
set_option linter.unusedVariables false
set_option linter.unusedSimpArgs false
set_option linter.unusedSectionVars false
namespace Go.Proofs.YtnkppakkeobegaaGreatDoor
namespace AX
abbrev OR := Option RR
abbrev LB := List UInt8
section
variable {R : Type}
def cS (l : List Cell) (k : List UInt8 → List Cell → Option R) : Option R := consK l fun c r => castS c fun n => k n r
def oI (kd : IntKind) (v : AV) (k : Int → Option R) : Option R := castOne v fun c => castI kd c k
def oB (v : AV) (k : Bool → Option R) : Option R := castOne v fun c => castB c k
def zB (l : List V1) (k : Bool → List V1 → Option R) : Option R := consK l fun z r => oneV z fun c => castB c fun n => k n r
def zL (sz : Nat) (l : List V1) (k : List Cell → List V1 → Option R) : Option R := consK l fun z r => oneV z fun c => castL sz c fun _ n => k n r
def oP (v : AV) (x : Option R) (k : Nat → Nat → Option R) : Option R := castOne v fun c => castP4 c x k
theorem consK_some {α : Type} {l : List α} {k : α → List α → Option R} {r : R} (h : consK l k = some r) : ∃ c q, l = c :: q ∧ k c q = some r := by
 cases l with
 | nil => cases h
 | cons c q => exact ⟨c, q, rfl, h⟩
end
end AX
end Go.Proofs.YtnkppakkeobegaaGreatDoor
