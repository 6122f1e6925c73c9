/-
  DERIVED. GIVEN WITH THE SEED: THE CARDS: each row of YtnkppakkeobegaaGreatDoorRows.lean that lists a variable, with what it lists TIED to the program's text (the seventh form; the later family's looks); each row that meets fmt, with fmt's text TOLD by the authors' own Lean function (tested against real Go, not proved from fmt's source: count such statements apart). THE CARD IS WHAT COUNTS. Prove the row's statement (the work); the ties are given (YtnkppakkeobegaaGreatDoorTie.lean); close each card by the builder's one call (the guide's Derived/Test/ToyasCard.lean, 'card_holds'). Laid BY PROGRAM, IN A SANDBOX (cutbox-door.mjs). By AI agents, Wed Nov 11 2026. No macro, syntax, notation, axiom, sorry.
-/
import Derived.Test.YtnkppakkeobegaaGreatDoorRows
import GoSem.ClaimSeven
namespace Go.Proofs.YtnkppakkeobegaaGreatDoor
namespace Rows

/-- THE TIED CARD OF 'pigeonholelaw24.ProtoMost'. -/
def protoMostCard : Claim7 := { stood := { row := protoMostRow, standIns := [], harness := (true, "6b886df5d9a4384a7e600a6042e6c426fd51ea69571e8880141fc30f6b6ef99b"), looks := true }, kinds := [], alts := [], laidByText := true, laidKinds := [.data, .data, .data, .data, .sentinel, .sentinel, .sentinel, .pinned], laidTests := true, laidLooks := .later }
def ProtoMostCardSaid : Prop := Claim7.holds Tryz.pinned (.plain (OpenSpec.ofChange protoMostSpec)) protoMostCard

/-- THE TIED CARD OF 'pigeonholelaw24.ProtoPieces'. -/
def protoPiecesCard : Claim7 := { stood := { row := protoPiecesRow, standIns := [], harness := (true, "6b886df5d9a4384a7e600a6042e6c426fd51ea69571e8880141fc30f6b6ef99b"), looks := true }, kinds := [], alts := [], laidByText := true, laidKinds := [.data, .data, .data, .data, .sentinel, .sentinel, .sentinel, .pinned], laidTests := true, laidLooks := .later }
def ProtoPiecesCardSaid : Prop := Claim7.holds Tryz.pinned (.plain (OpenSpec.ofChange protoPiecesSpec)) protoPiecesCard

/-- THE TIED CARD OF 'pigeonholelaw24.ProtoCounts'. -/
def protoCountsCard : Claim7 := { stood := { row := protoCountsRow, standIns := [], harness := (true, "6b886df5d9a4384a7e600a6042e6c426fd51ea69571e8880141fc30f6b6ef99b"), looks := true }, kinds := [], alts := [], laidByText := true, laidKinds := [.data, .data, .data, .data, .sentinel, .sentinel, .sentinel, .pinned], laidTests := true, laidLooks := .later }
def ProtoCountsCardSaid : Prop := Claim7.holds Tryz.pinned (.plain (OpenSpec.ofChange protoCountsSpec)) protoCountsCard

/-- THE TIED CARD OF 'pigeonholelaw24.ProtoPlays'. -/
def protoPlaysCard : Claim7 := { stood := { row := protoPlaysRow, standIns := [], harness := (true, "6b886df5d9a4384a7e600a6042e6c426fd51ea69571e8880141fc30f6b6ef99b"), looks := true }, kinds := [], alts := [], laidByText := true, laidKinds := [.data, .data, .data, .data, .sentinel, .sentinel, .sentinel, .pinned], laidTests := true, laidLooks := .later }
def ProtoPlaysCardSaid : Prop := Claim7.holds Tryz.pinned (.plain (OpenSpec.ofChange protoPlaysSpec)) protoPlaysCard

/-- THE SECOND FORM's CARD OF 'pigeonholelaw24.ProtoMost'. -/
def protoMostUptoCard : Claim7 := { stood := { row := protoMostUptoRow, standIns := [], harness := (true, "6b886df5d9a4384a7e600a6042e6c426fd51ea69571e8880141fc30f6b6ef99b"), looks := true }, kinds := [], alts := [], laidByText := true, laidKinds := [.data, .data, .data, .data, .sentinel, .sentinel, .sentinel, .pinned], laidTests := true, laidLooks := .later }
def ProtoMostUptoCardSaid : Prop := Claim7.holds Tryz.pinned (.plain (OpenSpec.upto protoMostSpec)) protoMostUptoCard

/-- THE SECOND FORM's CARD OF 'pigeonholelaw24.ProtoPieces'. -/
def protoPiecesUptoCard : Claim7 := { stood := { row := protoPiecesUptoRow, standIns := [], harness := (true, "6b886df5d9a4384a7e600a6042e6c426fd51ea69571e8880141fc30f6b6ef99b"), looks := true }, kinds := [], alts := [], laidByText := true, laidKinds := [.data, .data, .data, .data, .sentinel, .sentinel, .sentinel, .pinned], laidTests := true, laidLooks := .later }
def ProtoPiecesUptoCardSaid : Prop := Claim7.holds Tryz.pinned (.plain (OpenSpec.upto protoPiecesSpec)) protoPiecesUptoCard

/-- THE SECOND FORM's CARD OF 'pigeonholelaw24.ProtoCounts'. -/
def protoCountsUptoCard : Claim7 := { stood := { row := protoCountsUptoRow, standIns := [], harness := (true, "6b886df5d9a4384a7e600a6042e6c426fd51ea69571e8880141fc30f6b6ef99b"), looks := true }, kinds := [], alts := [], laidByText := true, laidKinds := [.data, .data, .data, .data, .sentinel, .sentinel, .sentinel, .pinned], laidTests := true, laidLooks := .later }
def ProtoCountsUptoCardSaid : Prop := Claim7.holds Tryz.pinned (.plain (OpenSpec.upto protoCountsSpec)) protoCountsUptoCard

/-- THE SECOND FORM's CARD OF 'pigeonholelaw24.ProtoPlays'. -/
def protoPlaysUptoCard : Claim7 := { stood := { row := protoPlaysUptoRow, standIns := [], harness := (true, "6b886df5d9a4384a7e600a6042e6c426fd51ea69571e8880141fc30f6b6ef99b"), looks := true }, kinds := [], alts := [], laidByText := true, laidKinds := [.data, .data, .data, .data, .sentinel, .sentinel, .sentinel, .pinned], laidTests := true, laidLooks := .later }
def ProtoPlaysUptoCardSaid : Prop := Claim7.holds Tryz.pinned (.plain (OpenSpec.upto protoPlaysSpec)) protoPlaysUptoCard
end Rows
end Go.Proofs.YtnkppakkeobegaaGreatDoor
