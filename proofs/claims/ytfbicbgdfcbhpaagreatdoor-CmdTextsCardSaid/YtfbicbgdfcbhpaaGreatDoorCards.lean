/-
  DERIVED. GIVEN WITH THE SEED: THE CARDS: each row of YtfbicbgdfcbhpaaGreatDoorRows.lean that lists a variable, with what it lists TIED to the program's text (the seventh form; the later family's looks); each row that meets fmt, with fmt's text TOLD by the authors' own Lean function (tested against real Go, not proved from fmt's source: count such statements apart). THE CARD IS WHAT COUNTS. Prove the row's statement (the work); the ties are given (YtfbicbgdfcbhpaaGreatDoorTie.lean); close each card by the builder's one call (the guide's Derived/Test/ToyasCard.lean, 'card_holds'). Laid BY PROGRAM, IN A SANDBOX (cutbox-door.mjs). By AI agents, Wed Nov 11 2026. No macro, syntax, notation, axiom, sorry.
-/
import Derived.Test.YtfbicbgdfcbhpaaGreatDoorRows
import GoSem.ClaimSeven
namespace Go.Proofs.YtfbicbgdfcbhpaaGreatDoor
namespace Rows

/-- THE TIED CARD OF 'pigeonholelaw31.ScriptLines'. -/
def scriptLinesCard : Claim7 := { stood := { row := scriptLinesRow, standIns := [], harness := (true, "5aa9ecde70947d10225ee74916cd3a69417deef51b04a94c0b312775cc69d915"), looks := true }, kinds := [], alts := [], laidByText := true, laidKinds := [.data, .data, .data, .data, .sentinel, .sentinel, .pinned], laidTests := true, laidLooks := .later }
def ScriptLinesCardSaid : Prop := Claim7.holds Tryz.pinned (.plain (OpenSpec.ofChange scriptLinesSpec)) scriptLinesCard

/-- THE TIED CARD OF 'pigeonholelaw06.CmdParses'. -/
def cmdParsesCard : Claim7 := { stood := { row := cmdParsesRow, standIns := [], harness := (true, "5aa9ecde70947d10225ee74916cd3a69417deef51b04a94c0b312775cc69d915"), looks := true }, kinds := [], alts := [], laidByText := true, laidKinds := [.data, .data, .data, .data, .sentinel, .sentinel, .pinned], laidTests := true, laidLooks := .later }
def CmdParsesCardSaid : Prop := Claim7.holds Tryz.pinned (.plain (OpenSpec.ofChange cmdParsesSpec)) cmdParsesCard

/-- THE TIED CARD OF 'pigeonholelaw06.CmdTexts'. -/
def cmdTextsCard : Claim7 := { stood := { row := cmdTextsRow, standIns := [], harness := (true, "5aa9ecde70947d10225ee74916cd3a69417deef51b04a94c0b312775cc69d915"), looks := true }, kinds := [], alts := [], laidByText := true, laidKinds := [.data, .data, .data, .data, .sentinel, .sentinel, .pinned], laidTests := true, laidLooks := .later }
def CmdTextsCardSaid : Prop := Claim7.holds Tryz.pinned (.plain (OpenSpec.ofChange cmdTextsSpec)) cmdTextsCard

/-- THE SECOND FORM's CARD OF 'pigeonholelaw31.ScriptLines'. -/
def scriptLinesUptoCard : Claim7 := { stood := { row := scriptLinesUptoRow, standIns := [], harness := (true, "5aa9ecde70947d10225ee74916cd3a69417deef51b04a94c0b312775cc69d915"), looks := true }, kinds := [], alts := [], laidByText := true, laidKinds := [.data, .data, .data, .data, .sentinel, .sentinel, .pinned], laidTests := true, laidLooks := .later }
def ScriptLinesUptoCardSaid : Prop := Claim7.holds Tryz.pinned (.plain (OpenSpec.upto scriptLinesSpec)) scriptLinesUptoCard

/-- THE SECOND FORM's CARD OF 'pigeonholelaw06.CmdParses'. -/
def cmdParsesUptoCard : Claim7 := { stood := { row := cmdParsesUptoRow, standIns := [], harness := (true, "5aa9ecde70947d10225ee74916cd3a69417deef51b04a94c0b312775cc69d915"), looks := true }, kinds := [], alts := [], laidByText := true, laidKinds := [.data, .data, .data, .data, .sentinel, .sentinel, .pinned], laidTests := true, laidLooks := .later }
def CmdParsesUptoCardSaid : Prop := Claim7.holds Tryz.pinned (.plain (OpenSpec.upto cmdParsesSpec)) cmdParsesUptoCard

/-- THE SECOND FORM's CARD OF 'pigeonholelaw06.CmdTexts'. -/
def cmdTextsUptoCard : Claim7 := { stood := { row := cmdTextsUptoRow, standIns := [], harness := (true, "5aa9ecde70947d10225ee74916cd3a69417deef51b04a94c0b312775cc69d915"), looks := true }, kinds := [], alts := [], laidByText := true, laidKinds := [.data, .data, .data, .data, .sentinel, .sentinel, .pinned], laidTests := true, laidLooks := .later }
def CmdTextsUptoCardSaid : Prop := Claim7.holds Tryz.pinned (.plain (OpenSpec.upto cmdTextsSpec)) cmdTextsUptoCard
end Rows
end Go.Proofs.YtfbicbgdfcbhpaaGreatDoor
