/-
  PDefs.
-/
import Derived.Test.YtnkppakkeobegaaGreatDoorZC09
import Derived.Test.YtnkppakkeobegaaGreatDoorZC14
import Derived.Lib.AtoiAll
import Derived.Lib.AtoiTie
import Derived.Lib.ItoaMem
import Derived.Lib.Split
import Derived.Lib.IndexAny
import Derived.Lib.ParseIntB
import Derived.Lib.Bytealg
import Derived.Lib.Index
set_option maxRecDepth 20000
set_option linter.unusedVariables false
set_option linter.unusedSimpArgs false
set_option linter.unusedSectionVars false
namespace Go.Proofs.YtnkppakkeobegaaGreatDoor
open Go.ChangeShapes Go.WideShapes Go.ChangeAt Go.RowKit
namespace AX
def baOf (l : List UInt8) : ByteArray := ⟨l.toArray⟩
def atoiV (l : List UInt8) : Int × Bool :=
 match Lib.atoiAll l with
 | .ok v => (v, false)
 | .range => (Lib.atoiSat l, true)
 | _ => (0, true)
def pAtoi : List AV → Option AV
 | [.one (.str l)] => bif decide (l.length ≤ 100000000) then some (.tup [.one (.int .i64 (atoiV l).1), .one (.err (atoiV l).2)]) else none
 | _ => none
def pItoa : List AV → Option AV
 | [.one (.int .i64 n)] => bif decide (-9223372036854775808 ≤ n) && decide (n ≤ 9223372036854775807) then some (.one (.str (Lib.itoa n))) else none
 | _ => none
def pSplit : List AV → Option AV
 | [.one (.str l), .one (.str [c])] => bif decide (l.length ≤ 100000000) then some (.one (.sl none 1 ((Lib.split l [c]).map .str))) else none
 | _ => none
def pCut : List AV → Option AV
 | [.one (.str l), .one (.str sep)] => bif decide (l.length ≤ 100000000) then some (.tup [.one (.str (Lib.cut l sep).1), .one (.str (Lib.cut l sep).2.1), .one (.bool (Lib.cut l sep).2.2)]) else none
 | _ => none
def asciiB (l : List UInt8) : Bool := l.all fun c => decide (c.toNat < 128)
def pContains : List AV → Option AV
 | [.one (.str l), .one (.str c)] => bif decide (l.length ≤ 100000000) && (decide (c.length ≤ 1000) && (asciiB l && asciiB c)) then some (.one (.bool (Lib.containsAny l c))) else none
 | _ => none
def uintV (l : List UInt8) : Nat × Bool :=
 match Lib.parseUintB 64 l with
 | .ok v => (v, false)
 | .range => (18446744073709551615, true)
 | _ => (0, true)
def pParseU : List AV → Option AV
 | [.one (.str l), .one (.int .i64 10), .one (.int .i64 64)] => bif decide (l.length ≤ 100000000) then some (.tup [.one (.int .u64 ((uintV l).1 : Int)), .one (.err (uintV l).2)]) else none
 | _ => none
def pBytes : List AV → Option AV
  | [.agg [.int .i64 code, .str e, .sl none 1 cs]] =>
    (match strsOf cs with
     | some ls => bif decide (e.length ≤ 1000) && (decide (ls.length ≤ 1000) && ls.all fun s => decide (s.length ≤ 1000)) then
         (bif goodR code e (ls.map baOf) then some (.tup [.one (.sl none 1 (AX.byteCells (bytesL code e (ls.map baOf)))), .one (.int .i64 0)]) else some (.tup [.one (.sl none 0 []), .one (.int .i64 3)])) else none
     | none => none)
  | _ => none
def replyK {β : Type} (args : List AV) (k : Int → List UInt8 → List (List UInt8) → Option β) : Option β :=
 match args with
 | [.agg [.int .i64 code, .str e, .sl none 1 cs]] => (match strsOf cs with | some ls => k code e ls | none => none)
 | _ => none
def small (m : Nat) (e : List UInt8) (ls : List (List UInt8)) : Bool := decide (e.length ≤ m) && (decide (ls.length ≤ m) && ls.all fun s => decide (s.length ≤ m))
def pGood (args : List AV) : Option AV := replyK args fun code e ls => bif small 1000000 e ls then some (.one (.bool (goodR code e (ls.map baOf)))) else none
def bytesOf : List Cell → Option (List UInt8)
 | [] => some []
 | .int .u8 n :: r => bif decide (0 ≤ n) && decide (n < 256) then (match bytesOf r with | some l => some (UInt8.ofNat n.toNat :: l) | none => none) else none
 | _ => none
def pBIndex : List AV → Option AV
  | [.one (.sl none 1 cs), .one (.sl none 1 sep)] =>
    (match bytesOf cs, bytesOf sep with
     | some l, some s => bif decide (l.length ≤ 1000000) && Nat.beq s.length 2 then some (.one (.int .i64 (Lib.index l s))) else none
     | _, _ => none)
  | _ => none
def pBClone : List AV → Option AV
 | [.one (.sl none s cs)] => bif Nat.beq s 1 && decide (cs.length ≤ 1000000) then (match bytesOf cs with | some _ => some (.one (.sl none 1 cs)) | none => none) else (bif Nat.beq cs.length 0 then some (.one (.sl none 1 [])) else none)
 | _ => none
def pSClone : List AV → Option AV
 | [.one (.sl none s cs)] => bif Nat.beq s 2 && decide (cs.length ≤ 1000000) then some (.one (.sl none 2 cs)) else (bif Nat.beq cs.length 0 then some (.one (.sl none 2 [])) else none)
 | _ => none
def pHasPrefix : List AV → Option AV
 | [.one (.str l), .one (.str p)] => some (.one (.bool (p.isPrefixOf l)))
 | _ => none
def pIndexByte : List AV → Option AV
 | [.one (.str l), .one (.int .u8 c)] => bif decide (0 ≤ c) && decide (c < 256) then some (.one (.int .i64 (Lib.indexByte l (UInt8.ofNat c.toNat)))) else none
 | _ => none
def pQuoted : List AV → List Cell → Option (AV × List Cell)
  | [.one (.ptr _ _)], [.str s, .int .i64 at_, .bool lg] =>
    bif decide (0 ≤ at_) && (decide (at_.toNat ≤ s.length) && decide (s.length ≤ 1000000)) then
      (match quotedP (s.drop at_.toNat) with
       | some (t, k) => some (.tup [.one (.str t), .one (.bool true)], [.str s, .int .i64 ((at_.toNat + k : Nat) : Int), .bool lg])
       | none => some (.tup [.one (.str []), .one (.bool false)], [.str s, .int .i64 ((at_.toNat + quotedF (s.drop at_.toNat) : Nat) : Int), .bool lg]))
    else none
  | _, _ => none
end AX
end Go.Proofs.YtnkppakkeobegaaGreatDoor
