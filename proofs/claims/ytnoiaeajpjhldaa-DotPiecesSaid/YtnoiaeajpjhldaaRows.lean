/-
  No cell of these rows narrows 'for every input' (looked for: loops, veiled, ifaces, maps, wideKeys, modest, calm, conditions, laid).
  DERIVED. THE GIVEN ROWS OF THIS SEAT. 5 by the template 'for every input the law returns true; each argument reads behind the call as it read before'; 0 by the template 'total and deterministic' (their statements: YtnoiaeajpjhldaaTotals.lean).
  GIVEN WITH THE SEED: the statements are not yours to turn. If you find one false, say at which input.
  Laid BY PROGRAM, IN A SANDBOX (cutbox-rows.mjs): the forced cells as the released guide's own fill.sh prints them over the translation 2a672fbd04027b7d… (all of the seat's roots in one cut). By AI agents, Wed Nov 11 2026. No macro, syntax, notation, axiom, sorry.
-/
import Derived.Test.YtnoiaeajpjhldaaChecked
import GoSem.Claim
import GoSem.ClaimJoined
import GoSem.ClaimMapViews
import Derived.JoinedTies
import Derived.KernelRfl
namespace Go.Proofs.Ytnoiaeajpjhldaa
/- THE CELL 'sum', in the pinned program and in every row, IS THE sha256 OF THE DUMP (.gsa) THAT YtnoiaeajpjhldaaProg.lean LOADS. Nothing in Lean hashes anything: it is a label: what it is worth is what the hold of that sum in a sandbox is worth. -/
noncomputable def Try.pinned : Pinned := { name := "ytnoiaeajpjhldaa", sum := "2a672fbd04027b7dcf828a2964152a4c82d95800ba5ff01133e598ccf27e9722", checked := Try.checked }
namespace Rows
def none {H : Type} : Left H := { results := [], args := [] }

/-- 'pigeonholelaw07.DotSends': WHATEVER THE INPUT: true; the input reads as it did. -/
def dotSendsSpec : ChangeSpec := { name := "dotSends", fn := fun _ => fun
  | [d] => { results := [.lit (.bool true)], args := [d] }
  | _ => none }
def dotSendsRow : OpenClaim := { program := "ytnoiaeajpjhldaa", sum := "2a672fbd04027b7dcf828a2964152a4c82d95800ba5ff01133e598ccf27e9722", func := "pigeonhole/pigeonholelaw07.DotSends", spec := "dotSends", inPlace := ["internal/bytealg.Count", "internal/bytealg.IndexByte", "internal/bytealg.Index"], named := ["internal/bytealg.MaxLen"], apart := false }
def DotSendsSaid : Prop := dotSendsRow.holds Try.pinned (OpenSpec.ofChange dotSendsSpec)

/-- ITS FALSE NEIGHBOUR: 'it returns false'. Refute it at one input. -/
def dotSendsWrong : ChangeSpec := { name := "dotSends", fn := fun _ => fun
  | [d] => { results := [.lit (.bool false)], args := [d] }
  | _ => none }
def DotSendsWrongFalsely : Prop := dotSendsRow.holds Try.pinned (OpenSpec.ofChange dotSendsWrong)

/-- 'pigeonholelaw07.DotDecodes': WHATEVER THE INPUT: true; the input reads as it did. -/
def dotDecodesSpec : ChangeSpec := { name := "dotDecodes", fn := fun _ => fun
  | [d1, d2] => { results := [.lit (.bool true)], args := [d1, d2] }
  | _ => none }
def dotDecodesRow : OpenClaim := { program := "ytnoiaeajpjhldaa", sum := "2a672fbd04027b7dcf828a2964152a4c82d95800ba5ff01133e598ccf27e9722", func := "pigeonhole/pigeonholelaw07.DotDecodes", spec := "dotDecodes", inPlace := ["internal/bytealg.Count", "internal/bytealg.IndexByte", "internal/bytealg.Index"], named := ["internal/bytealg.MaxLen"], apart := false }
def DotDecodesSaid : Prop := dotDecodesRow.holds Try.pinned (OpenSpec.ofChange dotDecodesSpec)

/-- ITS FALSE NEIGHBOUR: 'it returns false'. Refute it at one input. -/
def dotDecodesWrong : ChangeSpec := { name := "dotDecodes", fn := fun _ => fun
  | [d1, d2] => { results := [.lit (.bool false)], args := [d1, d2] }
  | _ => none }
def DotDecodesWrongFalsely : Prop := dotDecodesRow.holds Try.pinned (OpenSpec.ofChange dotDecodesWrong)

/-- 'pigeonholelaw07.DotPieces': WHATEVER THE INPUT: true; the input reads as it did. -/
def dotPiecesSpec : ChangeSpec := { name := "dotPieces", fn := fun _ => fun
  | [d1, d2, d3] => { results := [.lit (.bool true)], args := [d1, d2, d3] }
  | _ => none }
def dotPiecesRow : OpenClaim := { program := "ytnoiaeajpjhldaa", sum := "2a672fbd04027b7dcf828a2964152a4c82d95800ba5ff01133e598ccf27e9722", func := "pigeonhole/pigeonholelaw07.DotPieces", spec := "dotPieces", inPlace := ["internal/bytealg.Count", "internal/bytealg.IndexByte", "internal/bytealg.Index"], named := ["internal/bytealg.MaxLen"], apart := false }
def DotPiecesSaid : Prop := dotPiecesRow.holds Try.pinned (OpenSpec.ofChange dotPiecesSpec)

/-- ITS FALSE NEIGHBOUR: 'it returns false'. Refute it at one input. -/
def dotPiecesWrong : ChangeSpec := { name := "dotPieces", fn := fun _ => fun
  | [d1, d2, d3] => { results := [.lit (.bool false)], args := [d1, d2, d3] }
  | _ => none }
def DotPiecesWrongFalsely : Prop := dotPiecesRow.holds Try.pinned (OpenSpec.ofChange dotPiecesWrong)

/-- 'pigeonholelaw07.DotBack': WHATEVER THE INPUT: true; the input reads as it did. -/
def dotBackSpec : ChangeSpec := { name := "dotBack", fn := fun _ => fun
  | [d1, d2] => { results := [.lit (.bool true)], args := [d1, d2] }
  | _ => none }
def dotBackRow : OpenClaim := { program := "ytnoiaeajpjhldaa", sum := "2a672fbd04027b7dcf828a2964152a4c82d95800ba5ff01133e598ccf27e9722", func := "pigeonhole/pigeonholelaw07.DotBack", spec := "dotBack", inPlace := ["internal/bytealg.Count", "internal/bytealg.IndexByte", "internal/bytealg.Index"], named := ["internal/bytealg.MaxLen"], apart := false }
def DotBackSaid : Prop := dotBackRow.holds Try.pinned (OpenSpec.ofChange dotBackSpec)

/-- ITS FALSE NEIGHBOUR: 'it returns false'. Refute it at one input. -/
def dotBackWrong : ChangeSpec := { name := "dotBack", fn := fun _ => fun
  | [d1, d2] => { results := [.lit (.bool false)], args := [d1, d2] }
  | _ => none }
def DotBackWrongFalsely : Prop := dotBackRow.holds Try.pinned (OpenSpec.ofChange dotBackWrong)

/-- 'pigeonholelaw07.DotEnds': WHATEVER THE INPUT: true; the input reads as it did. -/
def dotEndsSpec : ChangeSpec := { name := "dotEnds", fn := fun _ => fun
  | [d] => { results := [.lit (.bool true)], args := [d] }
  | _ => none }
def dotEndsRow : OpenClaim := { program := "ytnoiaeajpjhldaa", sum := "2a672fbd04027b7dcf828a2964152a4c82d95800ba5ff01133e598ccf27e9722", func := "pigeonhole/pigeonholelaw07.DotEnds", spec := "dotEnds", inPlace := ["internal/bytealg.Count", "internal/bytealg.IndexByte", "internal/bytealg.Index"], named := ["internal/bytealg.MaxLen"], apart := false }
def DotEndsSaid : Prop := dotEndsRow.holds Try.pinned (OpenSpec.ofChange dotEndsSpec)

/-- ITS FALSE NEIGHBOUR: 'it returns false'. Refute it at one input. -/
def dotEndsWrong : ChangeSpec := { name := "dotEnds", fn := fun _ => fun
  | [d] => { results := [.lit (.bool false)], args := [d] }
  | _ => none }
def DotEndsWrongFalsely : Prop := dotEndsRow.holds Try.pinned (OpenSpec.ofChange dotEndsWrong)

/- THE SECOND FORM. 'bulk': how many values and letters a reading holds, each counted each time it is reached (what is shared counts as often as it is met; a slice's spare places count too). A statement '..UptoSaid' is the law's where the arguments, and the package variables that the reading takes, are together of bulk at most 1048576: NARROWER than '..Said'. Prove '..Said' where nothing that the law and all that it calls make is longer than what came in: it says more and counts as full. Else prove '..UptoSaid'. A law counts once. -/
mutual
def uptoBulk {H : Type} : DataW H → Nat
  | .lit (.string bytes) => bytes.length + 1
  | .lit _ => 1
  | .nil => 1
  | .ptr d => uptoBulk d + 1
  | .slice elems spare => uptoBulkAll elems + uptoBulkAll spare + 1
  | .agg parts => uptoBulkAll parts + 1
  | .iface _ d => uptoBulk d + 1
  | .map entries => uptoBulkEntries entries + 1
  | .held _ => 1
def uptoBulkAll {H : Type} : List (DataW H) → Nat
  | [] => 0
  | d :: r => uptoBulk d + uptoBulkAll r
def uptoBulkEntries {H : Type} : List (Lit × DataW H) → Nat
  | [] => 0
  | x :: r => uptoBulkEntry x + uptoBulkEntries r
def uptoBulkEntry {H : Type} : Lit × DataW H → Nat
  | (.string bytes, d) => bytes.length + uptoBulk d + 1
  | (_, d) => uptoBulk d + 1
 end
def uptoSmall : (H : Type) → List (DataW H) → Bool := fun _ ds => decide (uptoBulkAll ds ≤ 1048576)
def OpenSpec.upto (s : _root_.Go.ChangeSpec) : _root_.Go.OpenSpec := { _root_.Go.OpenSpec.ofChange s with cond := some uptoSmall }

/-- 'pigeonholelaw07.DotSends', WHERE WHAT IT READS IS OF BULK AT MOST 1048576: true; the input reads as it did. -/
def dotSendsUptoRow : OpenClaim := { program := "ytnoiaeajpjhldaa", sum := "2a672fbd04027b7dcf828a2964152a4c82d95800ba5ff01133e598ccf27e9722", func := "pigeonhole/pigeonholelaw07.DotSends", spec := "dotSends", inPlace := ["internal/bytealg.Count", "internal/bytealg.IndexByte", "internal/bytealg.Index"], named := ["internal/bytealg.MaxLen"], apart := false, narrowed := true }
def DotSendsUptoSaid : Prop := dotSendsUptoRow.holds Try.pinned (OpenSpec.upto dotSendsSpec)

/-- 'pigeonholelaw07.DotDecodes', WHERE WHAT IT READS IS OF BULK AT MOST 1048576: true; the input reads as it did. -/
def dotDecodesUptoRow : OpenClaim := { program := "ytnoiaeajpjhldaa", sum := "2a672fbd04027b7dcf828a2964152a4c82d95800ba5ff01133e598ccf27e9722", func := "pigeonhole/pigeonholelaw07.DotDecodes", spec := "dotDecodes", inPlace := ["internal/bytealg.Count", "internal/bytealg.IndexByte", "internal/bytealg.Index"], named := ["internal/bytealg.MaxLen"], apart := false, narrowed := true }
def DotDecodesUptoSaid : Prop := dotDecodesUptoRow.holds Try.pinned (OpenSpec.upto dotDecodesSpec)

/-- 'pigeonholelaw07.DotPieces', WHERE WHAT IT READS IS OF BULK AT MOST 1048576: true; the input reads as it did. -/
def dotPiecesUptoRow : OpenClaim := { program := "ytnoiaeajpjhldaa", sum := "2a672fbd04027b7dcf828a2964152a4c82d95800ba5ff01133e598ccf27e9722", func := "pigeonhole/pigeonholelaw07.DotPieces", spec := "dotPieces", inPlace := ["internal/bytealg.Count", "internal/bytealg.IndexByte", "internal/bytealg.Index"], named := ["internal/bytealg.MaxLen"], apart := false, narrowed := true }
def DotPiecesUptoSaid : Prop := dotPiecesUptoRow.holds Try.pinned (OpenSpec.upto dotPiecesSpec)

/-- 'pigeonholelaw07.DotBack', WHERE WHAT IT READS IS OF BULK AT MOST 1048576: true; the input reads as it did. -/
def dotBackUptoRow : OpenClaim := { program := "ytnoiaeajpjhldaa", sum := "2a672fbd04027b7dcf828a2964152a4c82d95800ba5ff01133e598ccf27e9722", func := "pigeonhole/pigeonholelaw07.DotBack", spec := "dotBack", inPlace := ["internal/bytealg.Count", "internal/bytealg.IndexByte", "internal/bytealg.Index"], named := ["internal/bytealg.MaxLen"], apart := false, narrowed := true }
def DotBackUptoSaid : Prop := dotBackUptoRow.holds Try.pinned (OpenSpec.upto dotBackSpec)

/-- 'pigeonholelaw07.DotEnds', WHERE WHAT IT READS IS OF BULK AT MOST 1048576: true; the input reads as it did. -/
def dotEndsUptoRow : OpenClaim := { program := "ytnoiaeajpjhldaa", sum := "2a672fbd04027b7dcf828a2964152a4c82d95800ba5ff01133e598ccf27e9722", func := "pigeonhole/pigeonholelaw07.DotEnds", spec := "dotEnds", inPlace := ["internal/bytealg.Count", "internal/bytealg.IndexByte", "internal/bytealg.Index"], named := ["internal/bytealg.MaxLen"], apart := false, narrowed := true }
def DotEndsUptoSaid : Prop := dotEndsUptoRow.holds Try.pinned (OpenSpec.upto dotEndsSpec)

end Rows
end Go.Proofs.Ytnoiaeajpjhldaa
