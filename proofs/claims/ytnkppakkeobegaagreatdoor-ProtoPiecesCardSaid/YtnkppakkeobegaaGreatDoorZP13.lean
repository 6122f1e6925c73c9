/-
  RpDefs, AddrPlain, QuotedF, PDefs.
-/
import Derived.Test.YtnkppakkeobegaaGreatDoorZP12
import Derived.Test.YtnkppakkeobegaaGreatDoorZP00
import Derived.Test.YtnkppakkeobegaaGreatDoorZP09
import Derived.Lib.AtoiAll
import Derived.Lib.AtoiTie
import Derived.Lib.ItoaMem
import Derived.Lib.Split
import Derived.Lib.IndexAny
import Derived.Lib.ParseIntB
import Derived.Lib.Bytealg
import Derived.Lib.Index
set_option maxRecDepth 20000
set_option linter.unusedVariables false
set_option linter.unusedSimpArgs false
set_option linter.unusedSectionVars false
namespace Go.Proofs.YtnkppakkeobegaaGreatDoor
def fitsB (l : List UInt8) (code : Int) : Bool := match enhQ l with
 | some (a, _, _) => decide ((a : Int) = code.tdiv 100)
 | none => false
def goodR (code : Int) (e : List UInt8) (ss : List ByteArray) : Bool := codeB code && ((e.isEmpty || fitsB e code) && (!ss.isEmpty && ss.all fun s => lineB s.data.toList))
def lineL (sign : UInt8) (code : Int) (e : List UInt8) (s : List UInt8) : List UInt8 := Lib.itoa code ++ ([sign] ++ ((if e = [] then [] else e ++ [32]) ++ (s ++ [13, 10])))
def bytesL (code : Int) (e : List UInt8) : List ByteArray → List UInt8
 | [] => []
 | [s] => lineL 32 code e s.data.toList
 | s :: t :: r => lineL 45 code e s.data.toList ++ bytesL code e (t :: r)
end Go.Proofs.YtnkppakkeobegaaGreatDoor
set_option maxRecDepth 20000
set_option linter.unusedVariables false
set_option linter.unusedSimpArgs false
set_option linter.unusedSectionVars false
namespace Go.Proofs.YtnkppakkeobegaaGreatDoor
def digitB (c : UInt8) : Bool := decide (48 ≤ c.toNat ∧ c.toNat ≤ 57)
def plainB (c : UInt8) : Bool := decide (32 ≤ c.toNat ∧ c.toNat ≤ 126)
def quotedP : List UInt8 → Option (List UInt8 × Nat)
 | [] => none
 | [c] => if c = 34 then some ([], 1) else none
 | c :: d :: r =>
  if c = 34 then some ([], 1)
  else if c = 92 then (if plainB d = true then (quotedP r).map fun x => (d :: x.1, x.2 + 2) else none)
  else if plainB c = true then (quotedP (d :: r)).map fun x => (c :: x.1, x.2 + 1) else none
theorem quotedP_drop (l : List UInt8) (j : Nat) (h : j < l.length) : quotedP (l.drop j) =
 if l.getD j 0 = 34 then some ([], 1)
 else if l.getD j 0 = 92 then (if plainB (l.getD (j + 1) 0) = true then (quotedP (l.drop (j + 2))).map fun x => (l.getD (j + 1) 0 :: x.1, x.2 + 2) else none)
 else if plainB (l.getD j 0) = true then (quotedP (l.drop (j + 1))).map fun x => (l.getD j 0 :: x.1, x.2 + 1) else none := by
 have e0 : l.getD j 0 = l[j] := by simp [List.getD, h]
 rw [e0]
 rcases Nat.lt_or_ge (j + 1) l.length with h1 | h1
 · have e1 : l.getD (j + 1) 0 = l[j + 1] := by simp [List.getD, h1]
   rw [e1, List.drop_eq_getElem_cons h, List.drop_eq_getElem_cons h1, quotedP]
 · have e1 : l.getD (j + 1) 0 = 0 := by simp [List.getD, List.getElem?_eq_none h1]
   rw [e1, List.drop_eq_getElem_cons h, List.drop_of_length_le h1, List.drop_of_length_le (show l.length ≤ j + 2 by omega), quotedP, quotedP]
   have h0 : plainB 0 = false := rfl
   simp [h0]
theorem quotedP_le : ∀ (m : Nat) (l : List UInt8), l.length ≤ m → ∀ t k, quotedP l = some (t, k) → k ≤ l.length ∧ t.length < k
 | 0, l, hl, t, k, h => by obtain rfl : l = [] := List.eq_nil_of_length_eq_zero (by omega); rw [quotedP] at h; cases h
 | m + 1, [], _, t, k, h => by rw [quotedP] at h; cases h
 | m + 1, [c], _, t, k, h => by
  rw [quotedP] at h
  split at h
  · cases h; simp
  · cases h
 | m + 1, c :: d :: r, hl, t, k, h => by
  rw [quotedP] at h
  split at h
  · cases h; simp
  · split at h
    · split at h
      · cases hx : quotedP r with
        | none => rw [hx] at h; cases h
        | some y =>
         have := quotedP_le m r (by simp at hl; omega) y.1 y.2 hx
         rw [hx] at h
         simp only [Option.map_some, Option.some.injEq, Prod.mk.injEq] at h
         obtain ⟨rfl, rfl⟩ := h
         simp; omega
      · cases h
    · split at h
      · cases hx : quotedP (d :: r) with
        | none => rw [hx] at h; cases h
        | some y =>
         have := quotedP_le m (d :: r) (by simp at hl ⊢; omega) y.1 y.2 hx
         rw [hx] at h
         simp only [Option.map_some, Option.some.injEq, Prod.mk.injEq] at h
         obtain ⟨rfl, rfl⟩ := h
         simp at this ⊢; omega
      · cases h
end Go.Proofs.YtnkppakkeobegaaGreatDoor
set_option maxRecDepth 20000
set_option linter.unusedVariables false
set_option linter.unusedSimpArgs false
set_option linter.unusedSectionVars false
namespace Go.Proofs.YtnkppakkeobegaaGreatDoor
def quotedF : List UInt8 → Nat
 | [] => 0
 | [_] => 1
 | c :: d :: r =>
  if c = 34 then 1
  else if c = 92 then (if plainB d = true then quotedF r + 2 else 1)
  else if plainB c = true then quotedF (d :: r) + 1 else 1
theorem quotedF_drop (l : List UInt8) (j : Nat) (h : j < l.length) : quotedF (l.drop j) =
 if l.getD j 0 = 34 then 1
 else if l.getD j 0 = 92 then (if plainB (l.getD (j + 1) 0) = true then quotedF (l.drop (j + 2)) + 2 else 1)
 else if plainB (l.getD j 0) = true then quotedF (l.drop (j + 1)) + 1 else 1 := by
 have e0 : l.getD j 0 = l[j] := by simp [List.getD, h]
 rw [e0]
 rcases Nat.lt_or_ge (j + 1) l.length with h1 | h1
 · have e1 : l.getD (j + 1) 0 = l[j + 1] := by simp [List.getD, h1]
   rw [e1, List.drop_eq_getElem_cons h, List.drop_eq_getElem_cons h1, quotedF]
 · have e1 : l.getD (j + 1) 0 = 0 := by simp [List.getD, List.getElem?_eq_none h1]
   rw [e1, List.drop_eq_getElem_cons h, List.drop_of_length_le h1, quotedF, quotedF]
   have h0 : plainB 0 = false := rfl
   simp [h0]
end Go.Proofs.YtnkppakkeobegaaGreatDoor
set_option maxRecDepth 20000
set_option linter.unusedVariables false
set_option linter.unusedSimpArgs false
set_option linter.unusedSectionVars false
namespace Go.Proofs.YtnkppakkeobegaaGreatDoor
open Go.ChangeShapes Go.WideShapes Go.ChangeAt Go.RowKit
namespace AX
def baOf (l : List UInt8) : ByteArray := ⟨l.toArray⟩
def atoiV (l : List UInt8) : Int × Bool :=
 match Lib.atoiAll l with
 | .ok v => (v, false)
 | .range => (Lib.atoiSat l, true)
 | _ => (0, true)
def pAtoi : List AV → Option AV
 | [.one (.str l)] => bif decide (l.length ≤ 100000000) then some (.tup [.one (.int .i64 (atoiV l).1), .one (.err (atoiV l).2)]) else none
 | _ => none
def pItoa : List AV → Option AV
 | [.one (.int .i64 n)] => bif decide (-9223372036854775808 ≤ n) && decide (n ≤ 9223372036854775807) then some (.one (.str (Lib.itoa n))) else none
 | _ => none
def pSplit : List AV → Option AV
 | [.one (.str l), .one (.str [c])] => bif decide (l.length ≤ 100000000) then some (.one (.sl none 1 ((Lib.split l [c]).map .str))) else none
 | _ => none
def pCut : List AV → Option AV
 | [.one (.str l), .one (.str sep)] => bif decide (l.length ≤ 100000000) then some (.tup [.one (.str (Lib.cut l sep).1), .one (.str (Lib.cut l sep).2.1), .one (.bool (Lib.cut l sep).2.2)]) else none
 | _ => none
def asciiB (l : List UInt8) : Bool := l.all fun c => decide (c.toNat < 128)
def pContains : List AV → Option AV
 | [.one (.str l), .one (.str c)] => bif decide (l.length ≤ 100000000) && (decide (c.length ≤ 1000) && (asciiB l && asciiB c)) then some (.one (.bool (Lib.containsAny l c))) else none
 | _ => none
def uintV (l : List UInt8) : Nat × Bool :=
 match Lib.parseUintB 64 l with
 | .ok v => (v, false)
 | .range => (18446744073709551615, true)
 | _ => (0, true)
def pParseU : List AV → Option AV
 | [.one (.str l), .one (.int .i64 10), .one (.int .i64 64)] => bif decide (l.length ≤ 100000000) then some (.tup [.one (.int .u64 ((uintV l).1 : Int)), .one (.err (uintV l).2)]) else none
 | _ => none
def pBytes : List AV → Option AV
  | [.agg [.int .i64 code, .str e, .sl none 1 cs]] =>
    (match strsOf cs with
     | some ls => bif decide (e.length ≤ 1000) && (decide (ls.length ≤ 1000) && ls.all fun s => decide (s.length ≤ 1000)) then
         (bif goodR code e (ls.map baOf) then some (.tup [.one (.sl none 1 (AX.byteCells (bytesL code e (ls.map baOf)))), .one (.int .i64 0)]) else some (.tup [.one (.sl none 0 []), .one (.int .i64 3)])) else none
     | none => none)
  | _ => none
def replyK {β : Type} (args : List AV) (k : Int → List UInt8 → List (List UInt8) → Option β) : Option β :=
 match args with
 | [.agg [.int .i64 code, .str e, .sl none 1 cs]] => (match strsOf cs with | some ls => k code e ls | none => none)
 | _ => none
def small (m : Nat) (e : List UInt8) (ls : List (List UInt8)) : Bool := decide (e.length ≤ m) && (decide (ls.length ≤ m) && ls.all fun s => decide (s.length ≤ m))
def pGood (args : List AV) : Option AV := replyK args fun code e ls => bif small 1000000 e ls then some (.one (.bool (goodR code e (ls.map baOf)))) else none
def bytesOf : List Cell → Option (List UInt8)
 | [] => some []
 | .int .u8 n :: r => bif decide (0 ≤ n) && decide (n < 256) then (match bytesOf r with | some l => some (UInt8.ofNat n.toNat :: l) | none => none) else none
 | _ => none
def pBIndex : List AV → Option AV
  | [.one (.sl none 1 cs), .one (.sl none 1 sep)] =>
    (match bytesOf cs, bytesOf sep with
     | some l, some s => bif decide (l.length ≤ 1000000) && Nat.beq s.length 2 then some (.one (.int .i64 (Lib.index l s))) else none
     | _, _ => none)
  | _ => none
def pBClone : List AV → Option AV
 | [.one (.sl none s cs)] => bif Nat.beq s 1 && decide (cs.length ≤ 1000000) then (match bytesOf cs with | some _ => some (.one (.sl none 1 cs)) | none => none) else (bif Nat.beq cs.length 0 then some (.one (.sl none 1 [])) else none)
 | _ => none
def pSClone : List AV → Option AV
 | [.one (.sl none s cs)] => bif Nat.beq s 2 && decide (cs.length ≤ 1000000) then some (.one (.sl none 2 cs)) else (bif Nat.beq cs.length 0 then some (.one (.sl none 2 [])) else none)
 | _ => none
def pHasPrefix : List AV → Option AV
 | [.one (.str l), .one (.str p)] => some (.one (.bool (p.isPrefixOf l)))
 | _ => none
def pIndexByte : List AV → Option AV
 | [.one (.str l), .one (.int .u8 c)] => bif decide (0 ≤ c) && decide (c < 256) then some (.one (.int .i64 (Lib.indexByte l (UInt8.ofNat c.toNat)))) else none
 | _ => none
def repeatC : Cell → Int → Option AV
 | .sl none s cs, n => bif Nat.beq s 3 && (Nat.beq cs.length 3 && (decide (0 ≤ n) && decide (n ≤ 1000))) then some (.one (.sl none 3 (List.replicate n.toNat cs).flatten)) else none
 | _, _ => none
def pRepeat : List AV → Option AV
 | [.one c, .one (.int .i64 n)] => repeatC c n
 | _ => none
def pMany : List AV → List (List Cell) → Option AV
  | [.one (.gptr b 0)], G =>
    (match G[b]? with
     | some (.bool lm :: _ :: _ :: _ :: _ :: .own 28 2 rc :: _) => some (.one (.int .i64 (bif lm then ((rc.length / 2 : Nat) : Int) else 1)))
     | _ => none)
  | _, _ => none
def pQuoted : List AV → List Cell → Option (AV × List Cell)
  | [.one (.ptr _ _)], [.str s, .int .i64 at_, .bool lg] =>
    bif decide (0 ≤ at_) && (decide (at_.toNat ≤ s.length) && decide (s.length ≤ 1000000)) then
      (match quotedP (s.drop at_.toNat) with
       | some (t, k) => some (.tup [.one (.str t), .one (.bool true)], [.str s, .int .i64 ((at_.toNat + k : Nat) : Int), .bool lg])
       | none => some (.tup [.one (.str []), .one (.bool false)], [.str s, .int .i64 ((at_.toNat + quotedF (s.drop at_.toNat) : Nat) : Int), .bool lg]))
    else none
  | _, _ => none
end AX
end Go.Proofs.YtnkppakkeobegaaGreatDoor
