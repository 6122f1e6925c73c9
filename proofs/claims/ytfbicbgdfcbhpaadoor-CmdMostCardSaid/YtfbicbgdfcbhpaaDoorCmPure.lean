/-
  Layer 06's plain functions: great letters, verbs, parameters, a command's line.
-/
import Derived.Test.YtfbicbgdfcbhpaaDoorCxTab
import Derived.Test.YtfbicbgdfcbhpaaDoorScPure
set_option maxRecDepth 20000
set_option linter.unusedVariables false
set_option linter.unusedSimpArgs false
set_option linter.unusedSectionVars false
namespace Go.Proofs.YtfbicbgdfcbhpaaDoor
open AX SC
namespace CM
def lowC (c : UInt8) : Bool := decide (97 ≤ c.toNat ∧ c.toNat ≤ 122)
def upC (c : UInt8) : UInt8 := bif lowC c then UInt8.ofNat (c.toNat - 32) else c
def upL (l : List UInt8) : List UInt8 := l.map upC
theorem up_and : ∀ c : UInt8, lowC c = true → IntKind.wrap .u8 ((BitVec.toNat ((BitVec.ofInt (IntKind.bits .u8) (c.toNat : Int)) &&& ~~~(BitVec.ofInt (IntKind.bits .u8) (32 : Int))) : Nat) : Int) = ((upC c).toNat : Int) := by
  have h : ∀ n : Fin 256, lowC (UInt8.ofNat n.val) = true → IntKind.wrap .u8 ((BitVec.toNat ((BitVec.ofInt (IntKind.bits .u8) (n.val : Int)) &&& ~~~(BitVec.ofInt (IntKind.bits .u8) (32 : Int))) : Nat) : Int) = ((upC (UInt8.ofNat n.val)).toNat : Int) := by decide +kernel
  intro c hc
  have := h ⟨c.toNat, c.toNat_lt⟩
  rw [UInt8.ofNat_toNat] at this
  exact this hc
theorem upC_idem : ∀ c : UInt8, upC (upC c) = upC c := by
  have h : ∀ n : Fin 256, upC (upC (UInt8.ofNat n.val)) = upC (UInt8.ofNat n.val) := by decide +kernel
  intro c
  have := h ⟨c.toNat, c.toNat_lt⟩
  rwa [UInt8.ofNat_toNat] at this
theorem upC_print : ∀ c : UInt8, (32 ≤ (upC c).toNat ∧ (upC c).toNat ≤ 126) ↔ (32 ≤ c.toNat ∧ c.toNat ≤ 126) := by
  have h : ∀ n : Fin 256, (32 ≤ (upC (UInt8.ofNat n.val)).toNat ∧ (upC (UInt8.ofNat n.val)).toNat ≤ 126) ↔ (32 ≤ (UInt8.ofNat n.val).toNat ∧ (UInt8.ofNat n.val).toNat ≤ 126) := by decide +kernel
  intro c
  have := h ⟨c.toNat, c.toNat_lt⟩
  rwa [UInt8.ofNat_toNat] at this
theorem upC_other : ∀ c d : UInt8, d = 32 ∨ d = 58 → (upC c = d ↔ c = d) := by
  have h : ∀ n : Fin 256, (upC (UInt8.ofNat n.val) = 32 ↔ UInt8.ofNat n.val = 32) ∧ (upC (UInt8.ofNat n.val) = 58 ↔ UInt8.ofNat n.val = 58) := by decide +kernel
  intro c d hd
  have := h ⟨c.toNat, c.toNat_lt⟩
  rw [UInt8.ofNat_toNat] at this
  rcases hd with rfl | rfl
  · exact this.1
  · exact this.2
def wordsL : List (List UInt8) := [[], [72, 69, 76, 79], [69, 72, 76, 79], [76, 72, 76, 79], [77, 65, 73, 76], [82, 67, 80, 84], [68, 65, 84, 65], [82, 83, 69, 84], [78, 79, 79, 80], [81, 85, 73, 84], [86, 82, 70, 89], [72, 69, 76, 80]]
def findW (w : List UInt8) : List (List UInt8) → Nat → Nat
  | [], _ => 0
  | x :: r, i => if 0 < i ∧ x = w then i else findW w r (i + 1)
def verbN (w : List UInt8) : Nat := findW w wordsL 0
def verbQ (l : List UInt8) : Nat := verbN (upL l)
def printC (c : UInt8) : Bool := decide (32 ≤ c.toNat ∧ c.toNat ≤ 126)
def printL (l : List UInt8) : Bool := l.all printC
def nameC (c : UInt8) : Bool := decide (65 ≤ c.toNat ∧ c.toNat ≤ 90) || decide (48 ≤ c.toNat ∧ c.toNat ≤ 57) || c == 45
theorem nameC_iff (c : UInt8) : nameC c = true ↔ (65 ≤ c.toNat ∧ c.toNat ≤ 90) ∨ (48 ≤ c.toNat ∧ c.toNat ≤ 57) ∨ c.toNat = 45 := by
  have e : ∀ k : UInt8, (c == k) = decide (c.toNat = k.toNat) := fun k => by
    rw [Bool.eq_iff_iff]; simp [UInt8.toNat_inj]
  unfold nameC
  rw [e]
  simp [or_assoc]
def nameB (l : List UInt8) : Bool := l.all nameC && decide (l ≠ [])
def valueB (l : List UInt8) : Bool := decide (l ≠ []) && !Lib.containsAny l [61, 32]
def literalB (l : List UInt8) : Bool := decide (3 ≤ l.length) && (l.head? == some 91) && (l.getLast? == some 93) && !Lib.containsAny ((l.take (l.length - 1)).drop 1) [91, 93, 92, 32]
def sizeQ (l : List UInt8) : Option Nat := if (uintV l).2 = true ∨ 20 < l.length ∨ 9007199254740992 < (uintV l).1 then none else some (uintV l).1
def bodyQ (l : List UInt8) : Int := if upL l = [55, 66, 73, 84] then 7 else if upL l = [56, 66, 73, 84, 77, 73, 77, 69] then 8 else 0
def parQ (c : S_api_Cmd) (nm v : List UInt8) : Int × S_api_Cmd :=
  if nm = [83, 73, 90, 69] then (match sizeQ v with | some n => (0, { c with fSize := n }) | none => (501, c))
  else if nm = [66, 79, 68, 89] then (if 0 < bodyQ v then 0 else 501, { c with fBody := bodyQ v })
  else (555, c)
def paramsQ : List (List UInt8) → List (List UInt8) → S_api_Cmd → Int × S_api_Cmd
  | [], _, c => (0, c)
  | p :: ps, seen, c =>
    if nameB (upL (Lib.cut p [61]).1) = false ∨ ((Lib.cut p [61]).2.2 = true ∧ valueB (Lib.cut p [61]).2.1 = false) ∨ upL (Lib.cut p [61]).1 ∈ seen then (501, c)
    else if c.fVerb = 4 then
      (if (parQ c (upL (Lib.cut p [61]).1) (Lib.cut p [61]).2.1).1 = 0 then paramsQ ps (seen ++ [upL (Lib.cut p [61]).1]) (parQ c (upL (Lib.cut p [61]).1) (Lib.cut p [61]).2.1).2 else parQ c (upL (Lib.cut p [61]).1) (Lib.cut p [61]).2.1)
    else (555, c)
def pathQ (c : S_api_Cmd) (r front : List UInt8) (null : Bool) : Int × S_api_Cmd :=
  if r.length < front.length ∨ upL (r.take front.length) ≠ front then (501, c)
  else if (areadV (r.drop front.length) null).2.2.2 ≠ 0 then (501, c)
  else
    match (r.drop front.length).drop (areadV (r.drop front.length) null).2.2.1.toNat with
    | [] => (0, { c with fPath_Local := (areadV (r.drop front.length) null).1, fPath_Domain := (areadV (r.drop front.length) null).2.1, fNull := (areadV (r.drop front.length) null).1 == [] && (areadV (r.drop front.length) null).2.1 == [] })
    | x :: t => if x = 32 then paramsQ (spl 32 t) [] { c with fPath_Local := (areadV (r.drop front.length) null).1, fPath_Domain := (areadV (r.drop front.length) null).2.1, fNull := (areadV (r.drop front.length) null).1 == [] && (areadV (r.drop front.length) null).2.1 == [] }
      else (501, { c with fPath_Local := (areadV (r.drop front.length) null).1, fPath_Domain := (areadV (r.drop front.length) null).2.1, fNull := (areadV (r.drop front.length) null).1 == [] && (areadV (r.drop front.length) null).2.1 == [] })
def zeroC : S_api_Cmd := ⟨0, [], [], [], false, 0, 0⟩
def need (b : Bool) : Int := if b then 0 else 501
/-- what a verb's rest makes of it -/
def restQ (v : Nat) (r : List UInt8) (b : Bool) : Int × S_api_Cmd :=
  if v = 0 then (500, ⟨0, [], [], [], false, -1, 0⟩)
  else if v = 1 ∨ v = 2 ∨ v = 3 then (need (domainB r || literalB r), ⟨v, r, [], [], false, -1, 0⟩)
  else if v = 4 then pathQ ⟨4, [], [], [], false, -1, 0⟩ r [70, 82, 79, 77, 58] true
  else if v = 5 then pathQ ⟨5, [], [], [], false, -1, 0⟩ r [84, 79, 58] false
  else if v = 6 ∨ v = 7 ∨ v = 9 then (need (!b), ⟨v, [], [], [], false, -1, 0⟩)
  else if v = 10 then (need (decide (r ≠ [])), ⟨v, r, [], [], false, -1, 0⟩)
  else (0, ⟨v, r, [], [], false, -1, 0⟩)
def endQ (x : Int × S_api_Cmd) : S_api_Cmd × Int := if x.1 = 0 then (x.2, 0) else (zeroC, x.1)
def parseQ (l : List UInt8) : S_api_Cmd × Int :=
  if 510 < l.length ∨ printL l = false then (zeroC, 500)
  else endQ (restQ (verbQ (Lib.cut l [32]).1) (Lib.cut l [32]).2.1 (Lib.cut l [32]).2.2)
end CM
end Go.Proofs.YtfbicbgdfcbhpaaDoor
