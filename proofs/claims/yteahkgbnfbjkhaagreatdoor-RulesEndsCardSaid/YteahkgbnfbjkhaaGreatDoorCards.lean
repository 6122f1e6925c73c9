/-
  DERIVED. GIVEN WITH THE SEED: THE CARDS: each row of YteahkgbnfbjkhaaGreatDoorRows.lean that lists a variable, with what it lists TIED to the program's text (the seventh form; the later family's looks); each row that meets fmt, with fmt's text TOLD by the authors' own Lean function (tested against real Go, not proved from fmt's source: count such statements apart). THE CARD IS WHAT COUNTS. Prove the row's statement (the work); the ties are given (YteahkgbnfbjkhaaGreatDoorTie.lean); close each card by the builder's one call (the guide's Derived/Test/ToyasCard.lean, 'card_holds'). Laid BY PROGRAM, IN A SANDBOX (cutbox-door.mjs). By AI agents, Wed Nov 11 2026. No macro, syntax, notation, axiom, sorry.
-/
import Derived.Test.YteahkgbnfbjkhaaGreatDoorRows
import GoSem.ClaimSeven
namespace Go.Proofs.YteahkgbnfbjkhaaGreatDoor
namespace Rows

/-- THE TIED CARD OF 'pigeonholelaw27.RulesEnds'. -/
def rulesEndsCard : Claim7 := { stood := { row := rulesEndsRow, standIns := [], harness := (true, "5ff94a98d1a929c79ba50acf78f755e9f43f7e335b1c975d8b71047daa105804"), looks := true }, kinds := [], alts := [], laidByText := true, laidKinds := [.data, .data, .data, .data, .sentinel, .sentinel, .sentinel, .pinned], laidTests := true, laidLooks := .later }
def RulesEndsCardSaid : Prop := Claim7.holds Tryz.pinned (.plain (OpenSpec.ofChange rulesEndsSpec)) rulesEndsCard

/-- THE TIED CARD OF 'pigeonholelaw11.DsnParts'. -/
def dsnPartsCard : Claim7 := { stood := { row := dsnPartsRow, standIns := [], harness := (true, "5ff94a98d1a929c79ba50acf78f755e9f43f7e335b1c975d8b71047daa105804"), looks := true }, kinds := [], alts := [], laidByText := true, laidKinds := [.data, .data, .data, .data, .sentinel, .sentinel, .sentinel, .pinned], laidTests := true, laidLooks := .later }
def DsnPartsCardSaid : Prop := Claim7.holds Tryz.pinned (.plain (OpenSpec.ofChange dsnPartsSpec)) dsnPartsCard

/-- THE TIED CARD OF 'pigeonholelaw11.DsnReads'. -/
def dsnReadsCard : Claim7 := { stood := { row := dsnReadsRow, standIns := [], harness := (true, "5ff94a98d1a929c79ba50acf78f755e9f43f7e335b1c975d8b71047daa105804"), looks := true }, kinds := [], alts := [], laidByText := true, laidKinds := [.data, .data, .data, .data, .sentinel, .sentinel, .sentinel, .pinned], laidTests := true, laidLooks := .later }
def DsnReadsCardSaid : Prop := Claim7.holds Tryz.pinned (.plain (OpenSpec.ofChange dsnReadsSpec)) dsnReadsCard

/-- THE TIED CARD OF 'pigeonholelaw11.DsnBack'. -/
def dsnBackCard : Claim7 := { stood := { row := dsnBackRow, standIns := [], harness := (true, "5ff94a98d1a929c79ba50acf78f755e9f43f7e335b1c975d8b71047daa105804"), looks := true }, kinds := [], alts := [], laidByText := true, laidKinds := [.data, .data, .data, .data, .sentinel, .sentinel, .sentinel, .pinned], laidTests := true, laidLooks := .later }
def DsnBackCardSaid : Prop := Claim7.holds Tryz.pinned (.plain (OpenSpec.ofChange dsnBackSpec)) dsnBackCard

/-- THE TIED CARD OF 'pigeonholelaw27.RulesTries'. -/
def rulesTriesCard : Claim7 := { stood := { row := rulesTriesRow, standIns := [], harness := (true, "5ff94a98d1a929c79ba50acf78f755e9f43f7e335b1c975d8b71047daa105804"), looks := true }, kinds := [], alts := [], laidByText := true, laidKinds := [.data, .data, .data, .data, .sentinel, .sentinel, .sentinel, .pinned], laidTests := true, laidLooks := .later }
def RulesTriesCardSaid : Prop := Claim7.holds Tryz.pinned (.plain (OpenSpec.ofChange rulesTriesSpec)) rulesTriesCard

/-- THE SECOND FORM's CARD OF 'pigeonholelaw27.RulesEnds'. -/
def rulesEndsUptoCard : Claim7 := { stood := { row := rulesEndsUptoRow, standIns := [], harness := (true, "5ff94a98d1a929c79ba50acf78f755e9f43f7e335b1c975d8b71047daa105804"), looks := true }, kinds := [], alts := [], laidByText := true, laidKinds := [.data, .data, .data, .data, .sentinel, .sentinel, .sentinel, .pinned], laidTests := true, laidLooks := .later }
def RulesEndsUptoCardSaid : Prop := Claim7.holds Tryz.pinned (.plain (OpenSpec.upto rulesEndsSpec)) rulesEndsUptoCard

/-- THE SECOND FORM's CARD OF 'pigeonholelaw11.DsnParts'. -/
def dsnPartsUptoCard : Claim7 := { stood := { row := dsnPartsUptoRow, standIns := [], harness := (true, "5ff94a98d1a929c79ba50acf78f755e9f43f7e335b1c975d8b71047daa105804"), looks := true }, kinds := [], alts := [], laidByText := true, laidKinds := [.data, .data, .data, .data, .sentinel, .sentinel, .sentinel, .pinned], laidTests := true, laidLooks := .later }
def DsnPartsUptoCardSaid : Prop := Claim7.holds Tryz.pinned (.plain (OpenSpec.upto dsnPartsSpec)) dsnPartsUptoCard

/-- THE SECOND FORM's CARD OF 'pigeonholelaw11.DsnReads'. -/
def dsnReadsUptoCard : Claim7 := { stood := { row := dsnReadsUptoRow, standIns := [], harness := (true, "5ff94a98d1a929c79ba50acf78f755e9f43f7e335b1c975d8b71047daa105804"), looks := true }, kinds := [], alts := [], laidByText := true, laidKinds := [.data, .data, .data, .data, .sentinel, .sentinel, .sentinel, .pinned], laidTests := true, laidLooks := .later }
def DsnReadsUptoCardSaid : Prop := Claim7.holds Tryz.pinned (.plain (OpenSpec.upto dsnReadsSpec)) dsnReadsUptoCard

/-- THE SECOND FORM's CARD OF 'pigeonholelaw11.DsnBack'. -/
def dsnBackUptoCard : Claim7 := { stood := { row := dsnBackUptoRow, standIns := [], harness := (true, "5ff94a98d1a929c79ba50acf78f755e9f43f7e335b1c975d8b71047daa105804"), looks := true }, kinds := [], alts := [], laidByText := true, laidKinds := [.data, .data, .data, .data, .sentinel, .sentinel, .sentinel, .pinned], laidTests := true, laidLooks := .later }
def DsnBackUptoCardSaid : Prop := Claim7.holds Tryz.pinned (.plain (OpenSpec.upto dsnBackSpec)) dsnBackUptoCard

/-- THE SECOND FORM's CARD OF 'pigeonholelaw27.RulesTries'. -/
def rulesTriesUptoCard : Claim7 := { stood := { row := rulesTriesUptoRow, standIns := [], harness := (true, "5ff94a98d1a929c79ba50acf78f755e9f43f7e335b1c975d8b71047daa105804"), looks := true }, kinds := [], alts := [], laidByText := true, laidKinds := [.data, .data, .data, .data, .sentinel, .sentinel, .sentinel, .pinned], laidTests := true, laidLooks := .later }
def RulesTriesUptoCardSaid : Prop := Claim7.holds Tryz.pinned (.plain (OpenSpec.upto rulesTriesSpec)) rulesTriesUptoCard
end Rows
end Go.Proofs.YteahkgbnfbjkhaaGreatDoor
