/-
  DERIVED. GIVEN WITH THE SEED: THE CARDS: each row of YtalkglheaadigaaDoorRows.lean that lists a variable, with what it lists TIED to the program's text (the seventh form; the later family's looks); each row that meets fmt, with fmt's text TOLD by the authors' own Lean function (tested against real Go, not proved from fmt's source: count such statements apart). THE CARD IS WHAT COUNTS. Prove the row's statement (the work); the ties are given (YtalkglheaadigaaDoorTie.lean); close each card by the builder's one call (the guide's Derived/Test/ToyasCard.lean, 'card_holds'). Laid BY PROGRAM, IN A SANDBOX (cutbox-door.mjs). By AI agents, Wed Nov 11 2026. No macro, syntax, notation, axiom, sorry.
-/
import Derived.Test.YtalkglheaadigaaDoorRows
import GoSem.ClaimSeven
namespace Go.Proofs.YtalkglheaadigaaDoor
namespace Rows

/-- THE TIED CARD OF 'pigeonholelaw27.RulesReplies'. -/
def rulesRepliesCard : Claim7 := { stood := { row := rulesRepliesRow, standIns := [], harness := (true, "1a6fcf7ebaec6ed68c3774d0a03accf69dc34f739438a2b03278b04b594ca63d"), looks := true }, kinds := [], alts := [], laidByText := true, laidKinds := [.data, .data, .data, .data, .sentinel, .sentinel, .pinned], laidTests := true, laidLooks := .later }
def RulesRepliesCardSaid : Prop := Claim7.holds Tryd.pinned (.plain (OpenSpec.ofChange rulesRepliesSpec)) rulesRepliesCard

/-- THE TIED CARD OF 'pigeonholelaw08.ReplyReads'. -/
def replyReadsCard : Claim7 := { stood := { row := replyReadsRow, standIns := [], harness := (true, "1a6fcf7ebaec6ed68c3774d0a03accf69dc34f739438a2b03278b04b594ca63d"), looks := true }, kinds := [], alts := [], laidByText := true, laidKinds := [.data, .data, .data, .data, .sentinel, .sentinel, .sentinel, .pinned], laidTests := true, laidLooks := .later }
def ReplyReadsCardSaid : Prop := Claim7.holds Tryd.pinned (.plain (OpenSpec.ofChange replyReadsSpec)) replyReadsCard

/-- THE TIED CARD OF 'pigeonholelaw08.ReplyBack'. -/
def replyBackCard : Claim7 := { stood := { row := replyBackRow, standIns := [], harness := (true, "1a6fcf7ebaec6ed68c3774d0a03accf69dc34f739438a2b03278b04b594ca63d"), looks := true }, kinds := [], alts := [], laidByText := true, laidKinds := [.data, .data, .data, .data, .sentinel, .sentinel, .sentinel, .pinned], laidTests := true, laidLooks := .later }
def ReplyBackCardSaid : Prop := Claim7.holds Tryd.pinned (.plain (OpenSpec.ofChange replyBackSpec)) replyBackCard

/-- THE TIED CARD OF 'pigeonholelaw08.ReplyBytes'. -/
def replyBytesCard : Claim7 := { stood := { row := replyBytesRow, standIns := [], harness := (true, "1a6fcf7ebaec6ed68c3774d0a03accf69dc34f739438a2b03278b04b594ca63d"), looks := true }, kinds := [], alts := [], laidByText := true, laidKinds := [.data, .data, .data, .data, .sentinel, .sentinel, .sentinel, .pinned], laidTests := true, laidLooks := .later }
def ReplyBytesCardSaid : Prop := Claim7.holds Tryd.pinned (.plain (OpenSpec.ofChange replyBytesSpec)) replyBytesCard

/-- THE SECOND FORM's CARD OF 'pigeonholelaw27.RulesReplies'. -/
def rulesRepliesUptoCard : Claim7 := { stood := { row := rulesRepliesUptoRow, standIns := [], harness := (true, "1a6fcf7ebaec6ed68c3774d0a03accf69dc34f739438a2b03278b04b594ca63d"), looks := true }, kinds := [], alts := [], laidByText := true, laidKinds := [.data, .data, .data, .data, .sentinel, .sentinel, .pinned], laidTests := true, laidLooks := .later }
def RulesRepliesUptoCardSaid : Prop := Claim7.holds Tryd.pinned (.plain (OpenSpec.upto rulesRepliesSpec)) rulesRepliesUptoCard

/-- THE SECOND FORM's CARD OF 'pigeonholelaw08.ReplyReads'. -/
def replyReadsUptoCard : Claim7 := { stood := { row := replyReadsUptoRow, standIns := [], harness := (true, "1a6fcf7ebaec6ed68c3774d0a03accf69dc34f739438a2b03278b04b594ca63d"), looks := true }, kinds := [], alts := [], laidByText := true, laidKinds := [.data, .data, .data, .data, .sentinel, .sentinel, .sentinel, .pinned], laidTests := true, laidLooks := .later }
def ReplyReadsUptoCardSaid : Prop := Claim7.holds Tryd.pinned (.plain (OpenSpec.upto replyReadsSpec)) replyReadsUptoCard

/-- THE SECOND FORM's CARD OF 'pigeonholelaw08.ReplyBack'. -/
def replyBackUptoCard : Claim7 := { stood := { row := replyBackUptoRow, standIns := [], harness := (true, "1a6fcf7ebaec6ed68c3774d0a03accf69dc34f739438a2b03278b04b594ca63d"), looks := true }, kinds := [], alts := [], laidByText := true, laidKinds := [.data, .data, .data, .data, .sentinel, .sentinel, .sentinel, .pinned], laidTests := true, laidLooks := .later }
def ReplyBackUptoCardSaid : Prop := Claim7.holds Tryd.pinned (.plain (OpenSpec.upto replyBackSpec)) replyBackUptoCard

/-- THE SECOND FORM's CARD OF 'pigeonholelaw08.ReplyBytes'. -/
def replyBytesUptoCard : Claim7 := { stood := { row := replyBytesUptoRow, standIns := [], harness := (true, "1a6fcf7ebaec6ed68c3774d0a03accf69dc34f739438a2b03278b04b594ca63d"), looks := true }, kinds := [], alts := [], laidByText := true, laidKinds := [.data, .data, .data, .data, .sentinel, .sentinel, .sentinel, .pinned], laidTests := true, laidLooks := .later }
def ReplyBytesUptoCardSaid : Prop := Claim7.holds Tryd.pinned (.plain (OpenSpec.upto replyBytesSpec)) replyBytesUptoCard
end Rows
end Go.Proofs.YtalkglheaadigaaDoor
