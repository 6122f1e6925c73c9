/-
  DERIVED. GIVEN WITH THE SEED: THE CARDS: each row of YtfbicbgdfcbhpaaDoorRows.lean that lists a variable, with what it lists TIED to the program's text (the seventh form; the later family's looks); each row that meets fmt, with fmt's text TOLD by the authors' own Lean function (tested against real Go, not proved from fmt's source: count such statements apart). THE CARD IS WHAT COUNTS. Prove the row's statement (the work); the ties are given (YtfbicbgdfcbhpaaDoorTie.lean); close each card by the builder's one call (the guide's Derived/Test/ToyasCard.lean, 'card_holds'). Laid BY PROGRAM, IN A SANDBOX (cutbox-door.mjs). By AI agents, Wed Nov 11 2026. No macro, syntax, notation, axiom, sorry.
-/
import Derived.Test.YtfbicbgdfcbhpaaDoorRows
import GoSem.ClaimSeven
namespace Go.Proofs.YtfbicbgdfcbhpaaDoor
namespace Rows

/-- THE TIED CARD OF 'pigeonholelaw31.ScriptReads'. -/
def scriptReadsCard : Claim7 := { stood := { row := scriptReadsRow, standIns := [], harness := (true, "26be4a89e273cfd0048183963a3103fb579f1cb268b2f44980b0d8acd37b2531"), looks := true }, kinds := [], alts := [], laidByText := true, laidKinds := [.data, .data, .data, .data, .sentinel, .sentinel, .pinned], laidTests := true, laidLooks := .later }
def ScriptReadsCardSaid : Prop := Claim7.holds Tryd.pinned (.plain (OpenSpec.ofChange scriptReadsSpec)) scriptReadsCard

/-- THE TIED CARD OF 'pigeonholelaw31.ScriptBack'. -/
def scriptBackCard : Claim7 := { stood := { row := scriptBackRow, standIns := [], harness := (true, "26be4a89e273cfd0048183963a3103fb579f1cb268b2f44980b0d8acd37b2531"), looks := true }, kinds := [], alts := [], laidByText := true, laidKinds := [.data, .data, .data, .data, .sentinel, .sentinel, .pinned], laidTests := true, laidLooks := .later }
def ScriptBackCardSaid : Prop := Claim7.holds Tryd.pinned (.plain (OpenSpec.ofChange scriptBackSpec)) scriptBackCard

/-- THE TIED CARD OF 'pigeonholelaw06.CmdLetters'. -/
def cmdLettersCard : Claim7 := { stood := { row := cmdLettersRow, standIns := [], harness := (true, "26be4a89e273cfd0048183963a3103fb579f1cb268b2f44980b0d8acd37b2531"), looks := true }, kinds := [], alts := [], laidByText := true, laidKinds := [.data, .data, .data, .data, .sentinel, .sentinel, .pinned], laidTests := true, laidLooks := .later }
def CmdLettersCardSaid : Prop := Claim7.holds Tryd.pinned (.plain (OpenSpec.ofChange cmdLettersSpec)) cmdLettersCard

/-- THE TIED CARD OF 'pigeonholelaw06.CmdMost'. -/
def cmdMostCard : Claim7 := { stood := { row := cmdMostRow, standIns := [], harness := (true, "26be4a89e273cfd0048183963a3103fb579f1cb268b2f44980b0d8acd37b2531"), looks := true }, kinds := [], alts := [], laidByText := true, laidKinds := [.data, .data, .data, .data, .sentinel, .sentinel, .pinned], laidTests := true, laidLooks := .later }
def CmdMostCardSaid : Prop := Claim7.holds Tryd.pinned (.plain (OpenSpec.ofChange cmdMostSpec)) cmdMostCard

/-- THE SECOND FORM's CARD OF 'pigeonholelaw31.ScriptReads'. -/
def scriptReadsUptoCard : Claim7 := { stood := { row := scriptReadsUptoRow, standIns := [], harness := (true, "26be4a89e273cfd0048183963a3103fb579f1cb268b2f44980b0d8acd37b2531"), looks := true }, kinds := [], alts := [], laidByText := true, laidKinds := [.data, .data, .data, .data, .sentinel, .sentinel, .pinned], laidTests := true, laidLooks := .later }
def ScriptReadsUptoCardSaid : Prop := Claim7.holds Tryd.pinned (.plain (OpenSpec.upto scriptReadsSpec)) scriptReadsUptoCard

/-- THE SECOND FORM's CARD OF 'pigeonholelaw31.ScriptBack'. -/
def scriptBackUptoCard : Claim7 := { stood := { row := scriptBackUptoRow, standIns := [], harness := (true, "26be4a89e273cfd0048183963a3103fb579f1cb268b2f44980b0d8acd37b2531"), looks := true }, kinds := [], alts := [], laidByText := true, laidKinds := [.data, .data, .data, .data, .sentinel, .sentinel, .pinned], laidTests := true, laidLooks := .later }
def ScriptBackUptoCardSaid : Prop := Claim7.holds Tryd.pinned (.plain (OpenSpec.upto scriptBackSpec)) scriptBackUptoCard

/-- THE SECOND FORM's CARD OF 'pigeonholelaw06.CmdLetters'. -/
def cmdLettersUptoCard : Claim7 := { stood := { row := cmdLettersUptoRow, standIns := [], harness := (true, "26be4a89e273cfd0048183963a3103fb579f1cb268b2f44980b0d8acd37b2531"), looks := true }, kinds := [], alts := [], laidByText := true, laidKinds := [.data, .data, .data, .data, .sentinel, .sentinel, .pinned], laidTests := true, laidLooks := .later }
def CmdLettersUptoCardSaid : Prop := Claim7.holds Tryd.pinned (.plain (OpenSpec.upto cmdLettersSpec)) cmdLettersUptoCard

/-- THE SECOND FORM's CARD OF 'pigeonholelaw06.CmdMost'. -/
def cmdMostUptoCard : Claim7 := { stood := { row := cmdMostUptoRow, standIns := [], harness := (true, "26be4a89e273cfd0048183963a3103fb579f1cb268b2f44980b0d8acd37b2531"), looks := true }, kinds := [], alts := [], laidByText := true, laidKinds := [.data, .data, .data, .data, .sentinel, .sentinel, .pinned], laidTests := true, laidLooks := .later }
def CmdMostUptoCardSaid : Prop := Claim7.holds Tryd.pinned (.plain (OpenSpec.upto cmdMostSpec)) cmdMostUptoCard
end Rows
end Go.Proofs.YtfbicbgdfcbhpaaDoor
