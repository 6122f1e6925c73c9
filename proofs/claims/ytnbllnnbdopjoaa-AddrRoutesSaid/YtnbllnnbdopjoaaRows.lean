/-
  No cell of these rows narrows 'for every input' (looked for: loops, veiled, ifaces, maps, wideKeys, modest, calm, conditions, laid).
  DERIVED. THE GIVEN ROWS OF THIS SEAT. 5 by the template 'for every input the law returns true; each argument reads behind the call as it read before'; 0 by the template 'total and deterministic' (their statements: YtnbllnnbdopjoaaTotals.lean).
  GIVEN WITH THE SEED: the statements are not yours to turn. If you find one false, say at which input.
  Laid BY PROGRAM, IN A SANDBOX (cutbox-rows.mjs): the forced cells as the released guide's own fill.sh prints them over the translation 9c5e496ac6e8bdc1… (all of the seat's roots in one cut). By AI agents, Wed Nov 11 2026. No macro, syntax, notation, axiom, sorry.
-/
import Derived.Test.YtnbllnnbdopjoaaChecked
import GoSem.Claim
import GoSem.ClaimJoined
import GoSem.ClaimMapViews
import Derived.JoinedTies
import Derived.KernelRfl
namespace Go.Proofs.Ytnbllnnbdopjoaa
/- THE CELL 'sum', in the pinned program and in every row, IS THE sha256 OF THE DUMP (.gsa) THAT YtnbllnnbdopjoaaProg.lean LOADS. Nothing in Lean hashes anything: it is a label: what it is worth is what the hold of that sum in a sandbox is worth. -/
noncomputable def Try.pinned : Pinned := { name := "ytnbllnnbdopjoaa", sum := "9c5e496ac6e8bdc14796992c0436d5056320e16c7dfb8a8fc5758040f992d2d9", checked := Try.checked }
namespace Rows
def none {H : Type} : Left H := { results := [], args := [] }

/-- 'pigeonholelaw05.AddrParses': WHATEVER THE INPUT: true; the input reads as it did. -/
def addrParsesSpec : ChangeSpec := { name := "addrParses", fn := fun _ => fun
  | [d1, d2] => { results := [.lit (.bool true)], args := [d1, d2] }
  | _ => none }
def addrParsesRow : OpenClaim := { program := "ytnbllnnbdopjoaa", sum := "9c5e496ac6e8bdc14796992c0436d5056320e16c7dfb8a8fc5758040f992d2d9", func := "pigeonhole/pigeonholelaw05.AddrParses", spec := "addrParses", inPlace := ["internal/abi.NoEscape", "internal/bytealg.IndexByteString"], unfollowed := true, recurses := true, apart := false }
def AddrParsesSaid : Prop := addrParsesRow.holds Try.pinned (OpenSpec.ofChange addrParsesSpec)

/-- ITS FALSE NEIGHBOUR: 'it returns false'. Refute it at one input. -/
def addrParsesWrong : ChangeSpec := { name := "addrParses", fn := fun _ => fun
  | [d1, d2] => { results := [.lit (.bool false)], args := [d1, d2] }
  | _ => none }
def AddrParsesWrongFalsely : Prop := addrParsesRow.holds Try.pinned (OpenSpec.ofChange addrParsesWrong)

/-- 'pigeonholelaw05.AddrRoutes': WHATEVER THE INPUT: true; the input reads as it did. -/
def addrRoutesSpec : ChangeSpec := { name := "addrRoutes", fn := fun _ => fun
  | [d1, d2] => { results := [.lit (.bool true)], args := [d1, d2] }
  | _ => none }
def addrRoutesRow : OpenClaim := { program := "ytnbllnnbdopjoaa", sum := "9c5e496ac6e8bdc14796992c0436d5056320e16c7dfb8a8fc5758040f992d2d9", func := "pigeonhole/pigeonholelaw05.AddrRoutes", spec := "addrRoutes", inPlace := ["internal/abi.NoEscape", "internal/bytealg.IndexByteString"], unfollowed := true, recurses := true, apart := false }
def AddrRoutesSaid : Prop := addrRoutesRow.holds Try.pinned (OpenSpec.ofChange addrRoutesSpec)

/-- ITS FALSE NEIGHBOUR: 'it returns false'. Refute it at one input. -/
def addrRoutesWrong : ChangeSpec := { name := "addrRoutes", fn := fun _ => fun
  | [d1, d2] => { results := [.lit (.bool false)], args := [d1, d2] }
  | _ => none }
def AddrRoutesWrongFalsely : Prop := addrRoutesRow.holds Try.pinned (OpenSpec.ofChange addrRoutesWrong)

/-- 'pigeonholelaw05.AddrBack': WHATEVER THE INPUT: true; the input reads as it did. -/
def addrBackSpec : ChangeSpec := { name := "addrBack", fn := fun _ => fun
  | [d1, d2] => { results := [.lit (.bool true)], args := [d1, d2] }
  | _ => none }
def addrBackRow : OpenClaim := { program := "ytnbllnnbdopjoaa", sum := "9c5e496ac6e8bdc14796992c0436d5056320e16c7dfb8a8fc5758040f992d2d9", func := "pigeonhole/pigeonholelaw05.AddrBack", spec := "addrBack", inPlace := ["internal/abi.NoEscape", "internal/bytealg.IndexByteString"], unfollowed := true, recurses := true, apart := false }
def AddrBackSaid : Prop := addrBackRow.holds Try.pinned (OpenSpec.ofChange addrBackSpec)

/-- ITS FALSE NEIGHBOUR: 'it returns false'. Refute it at one input. -/
def addrBackWrong : ChangeSpec := { name := "addrBack", fn := fun _ => fun
  | [d1, d2] => { results := [.lit (.bool false)], args := [d1, d2] }
  | _ => none }
def AddrBackWrongFalsely : Prop := addrBackRow.holds Try.pinned (OpenSpec.ofChange addrBackWrong)

/-- 'pigeonholelaw05.AddrSame': WHATEVER THE INPUT: true; the input reads as it did. -/
def addrSameSpec : ChangeSpec := { name := "addrSame", fn := fun _ => fun
  | [d1, d2] => { results := [.lit (.bool true)], args := [d1, d2] }
  | _ => none }
def addrSameRow : OpenClaim := { program := "ytnbllnnbdopjoaa", sum := "9c5e496ac6e8bdc14796992c0436d5056320e16c7dfb8a8fc5758040f992d2d9", func := "pigeonhole/pigeonholelaw05.AddrSame", spec := "addrSame", inPlace := ["internal/abi.NoEscape", "internal/bytealg.IndexByteString"], unfollowed := true, recurses := true, apart := false }
def AddrSameSaid : Prop := addrSameRow.holds Try.pinned (OpenSpec.ofChange addrSameSpec)

/-- ITS FALSE NEIGHBOUR: 'it returns false'. Refute it at one input. -/
def addrSameWrong : ChangeSpec := { name := "addrSame", fn := fun _ => fun
  | [d1, d2] => { results := [.lit (.bool false)], args := [d1, d2] }
  | _ => none }
def AddrSameWrongFalsely : Prop := addrSameRow.holds Try.pinned (OpenSpec.ofChange addrSameWrong)

/-- 'pigeonholelaw05.AddrTexts': WHATEVER THE INPUT: true; the input reads as it did. -/
def addrTextsSpec : ChangeSpec := { name := "addrTexts", fn := fun _ => fun
  | [d] => { results := [.lit (.bool true)], args := [d] }
  | _ => none }
def addrTextsRow : OpenClaim := { program := "ytnbllnnbdopjoaa", sum := "9c5e496ac6e8bdc14796992c0436d5056320e16c7dfb8a8fc5758040f992d2d9", func := "pigeonhole/pigeonholelaw05.AddrTexts", spec := "addrTexts", inPlace := ["internal/abi.NoEscape", "internal/bytealg.IndexByteString"], unfollowed := true, recurses := true, apart := false }
def AddrTextsSaid : Prop := addrTextsRow.holds Try.pinned (OpenSpec.ofChange addrTextsSpec)

/-- ITS FALSE NEIGHBOUR: 'it returns false'. Refute it at one input. -/
def addrTextsWrong : ChangeSpec := { name := "addrTexts", fn := fun _ => fun
  | [d] => { results := [.lit (.bool false)], args := [d] }
  | _ => none }
def AddrTextsWrongFalsely : Prop := addrTextsRow.holds Try.pinned (OpenSpec.ofChange addrTextsWrong)

/- THE SECOND FORM. 'bulk': how many values and letters a reading holds, each counted each time it is reached (what is shared counts as often as it is met; a slice's spare places count too). A statement '..UptoSaid' is the law's where the arguments, and the package variables that the reading takes, are together of bulk at most 1048576: NARROWER than '..Said'. Prove '..Said' where nothing that the law and all that it calls make is longer than what came in: it says more and counts as full. Else prove '..UptoSaid'. A law counts once. -/
mutual
def uptoBulk {H : Type} : DataW H → Nat
  | .lit (.string bytes) => bytes.length + 1
  | .lit _ => 1
  | .nil => 1
  | .ptr d => uptoBulk d + 1
  | .slice elems spare => uptoBulkAll elems + uptoBulkAll spare + 1
  | .agg parts => uptoBulkAll parts + 1
  | .iface _ d => uptoBulk d + 1
  | .map entries => uptoBulkEntries entries + 1
  | .held _ => 1
def uptoBulkAll {H : Type} : List (DataW H) → Nat
  | [] => 0
  | d :: r => uptoBulk d + uptoBulkAll r
def uptoBulkEntries {H : Type} : List (Lit × DataW H) → Nat
  | [] => 0
  | x :: r => uptoBulkEntry x + uptoBulkEntries r
def uptoBulkEntry {H : Type} : Lit × DataW H → Nat
  | (.string bytes, d) => bytes.length + uptoBulk d + 1
  | (_, d) => uptoBulk d + 1
 end
def uptoSmall : (H : Type) → List (DataW H) → Bool := fun _ ds => decide (uptoBulkAll ds ≤ 1048576)
def OpenSpec.upto (s : _root_.Go.ChangeSpec) : _root_.Go.OpenSpec := { _root_.Go.OpenSpec.ofChange s with cond := some uptoSmall }

/-- 'pigeonholelaw05.AddrParses', WHERE WHAT IT READS IS OF BULK AT MOST 1048576: true; the input reads as it did. -/
def addrParsesUptoRow : OpenClaim := { program := "ytnbllnnbdopjoaa", sum := "9c5e496ac6e8bdc14796992c0436d5056320e16c7dfb8a8fc5758040f992d2d9", func := "pigeonhole/pigeonholelaw05.AddrParses", spec := "addrParses", inPlace := ["internal/abi.NoEscape", "internal/bytealg.IndexByteString"], unfollowed := true, recurses := true, apart := false, narrowed := true }
def AddrParsesUptoSaid : Prop := addrParsesUptoRow.holds Try.pinned (OpenSpec.upto addrParsesSpec)

/-- 'pigeonholelaw05.AddrRoutes', WHERE WHAT IT READS IS OF BULK AT MOST 1048576: true; the input reads as it did. -/
def addrRoutesUptoRow : OpenClaim := { program := "ytnbllnnbdopjoaa", sum := "9c5e496ac6e8bdc14796992c0436d5056320e16c7dfb8a8fc5758040f992d2d9", func := "pigeonhole/pigeonholelaw05.AddrRoutes", spec := "addrRoutes", inPlace := ["internal/abi.NoEscape", "internal/bytealg.IndexByteString"], unfollowed := true, recurses := true, apart := false, narrowed := true }
def AddrRoutesUptoSaid : Prop := addrRoutesUptoRow.holds Try.pinned (OpenSpec.upto addrRoutesSpec)

/-- 'pigeonholelaw05.AddrBack', WHERE WHAT IT READS IS OF BULK AT MOST 1048576: true; the input reads as it did. -/
def addrBackUptoRow : OpenClaim := { program := "ytnbllnnbdopjoaa", sum := "9c5e496ac6e8bdc14796992c0436d5056320e16c7dfb8a8fc5758040f992d2d9", func := "pigeonhole/pigeonholelaw05.AddrBack", spec := "addrBack", inPlace := ["internal/abi.NoEscape", "internal/bytealg.IndexByteString"], unfollowed := true, recurses := true, apart := false, narrowed := true }
def AddrBackUptoSaid : Prop := addrBackUptoRow.holds Try.pinned (OpenSpec.upto addrBackSpec)

/-- 'pigeonholelaw05.AddrSame', WHERE WHAT IT READS IS OF BULK AT MOST 1048576: true; the input reads as it did. -/
def addrSameUptoRow : OpenClaim := { program := "ytnbllnnbdopjoaa", sum := "9c5e496ac6e8bdc14796992c0436d5056320e16c7dfb8a8fc5758040f992d2d9", func := "pigeonhole/pigeonholelaw05.AddrSame", spec := "addrSame", inPlace := ["internal/abi.NoEscape", "internal/bytealg.IndexByteString"], unfollowed := true, recurses := true, apart := false, narrowed := true }
def AddrSameUptoSaid : Prop := addrSameUptoRow.holds Try.pinned (OpenSpec.upto addrSameSpec)

/-- 'pigeonholelaw05.AddrTexts', WHERE WHAT IT READS IS OF BULK AT MOST 1048576: true; the input reads as it did. -/
def addrTextsUptoRow : OpenClaim := { program := "ytnbllnnbdopjoaa", sum := "9c5e496ac6e8bdc14796992c0436d5056320e16c7dfb8a8fc5758040f992d2d9", func := "pigeonhole/pigeonholelaw05.AddrTexts", spec := "addrTexts", inPlace := ["internal/abi.NoEscape", "internal/bytealg.IndexByteString"], unfollowed := true, recurses := true, apart := false, narrowed := true }
def AddrTextsUptoSaid : Prop := addrTextsUptoRow.holds Try.pinned (OpenSpec.upto addrTextsSpec)

end Rows
end Go.Proofs.Ytnbllnnbdopjoaa
