/-
  No cell of these rows narrows 'for every input' (looked for: loops, veiled, ifaces, maps, wideKeys, modest, calm, conditions, laid).
  DERIVED. THE GIVEN ROWS OF THIS SEAT. 5 by the template 'for every input the law returns true; each argument reads behind the call as it read before'; 0 by the template 'total and deterministic' (their statements: YtbnghchniboggaaTotals.lean).
  GIVEN WITH THE SEED: the statements are not yours to turn. If you find one false, say at which input.
  Laid BY PROGRAM, IN A SANDBOX (cutbox-rows.mjs): the forced cells as the released guide's own fill.sh prints them over the translation b78d77b35d207fba… (all of the seat's roots in one cut). By AI agents, Wed Nov 11 2026. No macro, syntax, notation, axiom, sorry.
-/
import Derived.Test.YtbnghchniboggaaChecked
import GoSem.Claim
import GoSem.ClaimJoined
import GoSem.ClaimMapViews
import Derived.JoinedTies
import Derived.KernelRfl
namespace Go.Proofs.Ytbnghchniboggaa
/- THE CELL 'sum', in the pinned program and in every row, IS THE sha256 OF THE DUMP (.gsa) THAT YtbnghchniboggaaProg.lean LOADS. Nothing in Lean hashes anything: it is a label: what it is worth is what the hold of that sum in a sandbox is worth. -/
noncomputable def Try.pinned : Pinned := { name := "ytbnghchniboggaa", sum := "b78d77b35d207fba764634e881e67a8ad29e8e8fe85c65d7aa2961fbe7dba74a", checked := Try.checked }
namespace Rows
def none {H : Type} : Left H := { results := [], args := [] }

/-- 'pigeonholelaw27.RulesOrigins': WHATEVER THE INPUT: true; the input reads as it did. -/
def rulesOriginsSpec : ChangeSpec := { name := "rulesOrigins", fn := fun _ => fun
  | [d1, d2, d3, d4, d5, d6] => { results := [.lit (.bool true)], args := [d1, d2, d3, d4, d5, d6] }
  | _ => none }
def rulesOriginsRow : OpenClaim := { program := "ytbnghchniboggaa", sum := "b78d77b35d207fba764634e881e67a8ad29e8e8fe85c65d7aa2961fbe7dba74a", func := "pigeonhole/pigeonholelaw27.RulesOrigins", spec := "rulesOrigins", apart := false }
def RulesOriginsSaid : Prop := rulesOriginsRow.holds Try.pinned (OpenSpec.ofChange rulesOriginsSpec)

/-- ITS FALSE NEIGHBOUR: 'it returns false'. Refute it at one input. -/
def rulesOriginsWrong : ChangeSpec := { name := "rulesOrigins", fn := fun _ => fun
  | [d1, d2, d3, d4, d5, d6] => { results := [.lit (.bool false)], args := [d1, d2, d3, d4, d5, d6] }
  | _ => none }
def RulesOriginsWrongFalsely : Prop := rulesOriginsRow.holds Try.pinned (OpenSpec.ofChange rulesOriginsWrong)

/-- 'pigeonholelaw09.ClockDates': WHATEVER THE INPUT: true; the input reads as it did. -/
def clockDatesSpec : ChangeSpec := { name := "clockDates", fn := fun _ => fun
  | [d1, d2, d3] => { results := [.lit (.bool true)], args := [d1, d2, d3] }
  | _ => none }
def clockDatesRow : OpenClaim := { program := "ytbnghchniboggaa", sum := "b78d77b35d207fba764634e881e67a8ad29e8e8fe85c65d7aa2961fbe7dba74a", func := "pigeonhole/pigeonholelaw09.ClockDates", spec := "clockDates", apart := false }
def ClockDatesSaid : Prop := clockDatesRow.holds Try.pinned (OpenSpec.ofChange clockDatesSpec)

/-- ITS FALSE NEIGHBOUR: 'it returns false'. Refute it at one input. -/
def clockDatesWrong : ChangeSpec := { name := "clockDates", fn := fun _ => fun
  | [d1, d2, d3] => { results := [.lit (.bool false)], args := [d1, d2, d3] }
  | _ => none }
def ClockDatesWrongFalsely : Prop := clockDatesRow.holds Try.pinned (OpenSpec.ofChange clockDatesWrong)

/-- 'pigeonholelaw09.ClockSeconds': WHATEVER THE INPUT: true; the input reads as it did. -/
def clockSecondsSpec : ChangeSpec := { name := "clockSeconds", fn := fun _ => fun
  | [d] => { results := [.lit (.bool true)], args := [d] }
  | _ => none }
def clockSecondsRow : OpenClaim := { program := "ytbnghchniboggaa", sum := "b78d77b35d207fba764634e881e67a8ad29e8e8fe85c65d7aa2961fbe7dba74a", func := "pigeonhole/pigeonholelaw09.ClockSeconds", spec := "clockSeconds", apart := false }
def ClockSecondsSaid : Prop := clockSecondsRow.holds Try.pinned (OpenSpec.ofChange clockSecondsSpec)

/-- ITS FALSE NEIGHBOUR: 'it returns false'. Refute it at one input. -/
def clockSecondsWrong : ChangeSpec := { name := "clockSeconds", fn := fun _ => fun
  | [d] => { results := [.lit (.bool false)], args := [d] }
  | _ => none }
def ClockSecondsWrongFalsely : Prop := clockSecondsRow.holds Try.pinned (OpenSpec.ofChange clockSecondsWrong)

/-- 'pigeonholelaw09.ClockParses': WHATEVER THE INPUT: true; the input reads as it did. -/
def clockParsesSpec : ChangeSpec := { name := "clockParses", fn := fun _ => fun
  | [d] => { results := [.lit (.bool true)], args := [d] }
  | _ => none }
def clockParsesRow : OpenClaim := { program := "ytbnghchniboggaa", sum := "b78d77b35d207fba764634e881e67a8ad29e8e8fe85c65d7aa2961fbe7dba74a", func := "pigeonhole/pigeonholelaw09.ClockParses", spec := "clockParses", apart := false }
def ClockParsesSaid : Prop := clockParsesRow.holds Try.pinned (OpenSpec.ofChange clockParsesSpec)

/-- ITS FALSE NEIGHBOUR: 'it returns false'. Refute it at one input. -/
def clockParsesWrong : ChangeSpec := { name := "clockParses", fn := fun _ => fun
  | [d] => { results := [.lit (.bool false)], args := [d] }
  | _ => none }
def ClockParsesWrongFalsely : Prop := clockParsesRow.holds Try.pinned (OpenSpec.ofChange clockParsesWrong)

/-- 'pigeonholelaw09.ClockBack': WHATEVER THE INPUT: true; the input reads as it did. -/
def clockBackSpec : ChangeSpec := { name := "clockBack", fn := fun _ => fun
  | [d] => { results := [.lit (.bool true)], args := [d] }
  | _ => none }
def clockBackRow : OpenClaim := { program := "ytbnghchniboggaa", sum := "b78d77b35d207fba764634e881e67a8ad29e8e8fe85c65d7aa2961fbe7dba74a", func := "pigeonhole/pigeonholelaw09.ClockBack", spec := "clockBack", apart := false }
def ClockBackSaid : Prop := clockBackRow.holds Try.pinned (OpenSpec.ofChange clockBackSpec)

/-- ITS FALSE NEIGHBOUR: 'it returns false'. Refute it at one input. -/
def clockBackWrong : ChangeSpec := { name := "clockBack", fn := fun _ => fun
  | [d] => { results := [.lit (.bool false)], args := [d] }
  | _ => none }
def ClockBackWrongFalsely : Prop := clockBackRow.holds Try.pinned (OpenSpec.ofChange clockBackWrong)

/- THE SECOND FORM. 'bulk': how many values and letters a reading holds, each counted each time it is reached (what is shared counts as often as it is met; a slice's spare places count too). A statement '..UptoSaid' is the law's where the arguments, and the package variables that the reading takes, are together of bulk at most 1048576: NARROWER than '..Said'. Prove '..Said' where nothing that the law and all that it calls make is longer than what came in: it says more and counts as full. Else prove '..UptoSaid'. A law counts once. -/
mutual
def uptoBulk {H : Type} : DataW H → Nat
  | .lit (.string bytes) => bytes.length + 1
  | .lit _ => 1
  | .nil => 1
  | .ptr d => uptoBulk d + 1
  | .slice elems spare => uptoBulkAll elems + uptoBulkAll spare + 1
  | .agg parts => uptoBulkAll parts + 1
  | .iface _ d => uptoBulk d + 1
  | .map entries => uptoBulkEntries entries + 1
  | .held _ => 1
def uptoBulkAll {H : Type} : List (DataW H) → Nat
  | [] => 0
  | d :: r => uptoBulk d + uptoBulkAll r
def uptoBulkEntries {H : Type} : List (Lit × DataW H) → Nat
  | [] => 0
  | x :: r => uptoBulkEntry x + uptoBulkEntries r
def uptoBulkEntry {H : Type} : Lit × DataW H → Nat
  | (.string bytes, d) => bytes.length + uptoBulk d + 1
  | (_, d) => uptoBulk d + 1
 end
def uptoSmall : (H : Type) → List (DataW H) → Bool := fun _ ds => decide (uptoBulkAll ds ≤ 1048576)
def OpenSpec.upto (s : _root_.Go.ChangeSpec) : _root_.Go.OpenSpec := { _root_.Go.OpenSpec.ofChange s with cond := some uptoSmall }

/-- 'pigeonholelaw27.RulesOrigins', WHERE WHAT IT READS IS OF BULK AT MOST 1048576: true; the input reads as it did. -/
def rulesOriginsUptoRow : OpenClaim := { program := "ytbnghchniboggaa", sum := "b78d77b35d207fba764634e881e67a8ad29e8e8fe85c65d7aa2961fbe7dba74a", func := "pigeonhole/pigeonholelaw27.RulesOrigins", spec := "rulesOrigins", apart := false, narrowed := true }
def RulesOriginsUptoSaid : Prop := rulesOriginsUptoRow.holds Try.pinned (OpenSpec.upto rulesOriginsSpec)

/-- 'pigeonholelaw09.ClockDates', WHERE WHAT IT READS IS OF BULK AT MOST 1048576: true; the input reads as it did. -/
def clockDatesUptoRow : OpenClaim := { program := "ytbnghchniboggaa", sum := "b78d77b35d207fba764634e881e67a8ad29e8e8fe85c65d7aa2961fbe7dba74a", func := "pigeonhole/pigeonholelaw09.ClockDates", spec := "clockDates", apart := false, narrowed := true }
def ClockDatesUptoSaid : Prop := clockDatesUptoRow.holds Try.pinned (OpenSpec.upto clockDatesSpec)

/-- 'pigeonholelaw09.ClockSeconds', WHERE WHAT IT READS IS OF BULK AT MOST 1048576: true; the input reads as it did. -/
def clockSecondsUptoRow : OpenClaim := { program := "ytbnghchniboggaa", sum := "b78d77b35d207fba764634e881e67a8ad29e8e8fe85c65d7aa2961fbe7dba74a", func := "pigeonhole/pigeonholelaw09.ClockSeconds", spec := "clockSeconds", apart := false, narrowed := true }
def ClockSecondsUptoSaid : Prop := clockSecondsUptoRow.holds Try.pinned (OpenSpec.upto clockSecondsSpec)

/-- 'pigeonholelaw09.ClockParses', WHERE WHAT IT READS IS OF BULK AT MOST 1048576: true; the input reads as it did. -/
def clockParsesUptoRow : OpenClaim := { program := "ytbnghchniboggaa", sum := "b78d77b35d207fba764634e881e67a8ad29e8e8fe85c65d7aa2961fbe7dba74a", func := "pigeonhole/pigeonholelaw09.ClockParses", spec := "clockParses", apart := false, narrowed := true }
def ClockParsesUptoSaid : Prop := clockParsesUptoRow.holds Try.pinned (OpenSpec.upto clockParsesSpec)

/-- 'pigeonholelaw09.ClockBack', WHERE WHAT IT READS IS OF BULK AT MOST 1048576: true; the input reads as it did. -/
def clockBackUptoRow : OpenClaim := { program := "ytbnghchniboggaa", sum := "b78d77b35d207fba764634e881e67a8ad29e8e8fe85c65d7aa2961fbe7dba74a", func := "pigeonhole/pigeonholelaw09.ClockBack", spec := "clockBack", apart := false, narrowed := true }
def ClockBackUptoSaid : Prop := clockBackUptoRow.holds Try.pinned (OpenSpec.upto clockBackSpec)

end Rows
end Go.Proofs.Ytbnghchniboggaa
