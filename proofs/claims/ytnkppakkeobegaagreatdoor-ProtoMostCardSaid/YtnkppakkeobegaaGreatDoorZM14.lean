/-
  RpDefs.
-/
import Derived.Test.YtnkppakkeobegaaGreatDoorZM12
import Derived.Test.YtnkppakkeobegaaGreatDoorZM13
set_option maxRecDepth 20000
set_option linter.unusedVariables false
set_option linter.unusedSimpArgs false
set_option linter.unusedSectionVars false
namespace Go.Proofs.YtnkppakkeobegaaGreatDoor
def fitsB (l : List UInt8) (code : Int) : Bool := match enhQ l with
 | some (a, _, _) => decide ((a : Int) = code.tdiv 100)
 | none => false
def goodR (code : Int) (e : List UInt8) (ss : List ByteArray) : Bool := codeB code && ((e.isEmpty || fitsB e code) && (!ss.isEmpty && ss.all fun s => lineB s.data.toList))
def lineL (sign : UInt8) (code : Int) (e : List UInt8) (s : List UInt8) : List UInt8 := Lib.itoa code ++ ([sign] ++ ((if e = [] then [] else e ++ [32]) ++ (s ++ [13, 10])))
def bytesL (code : Int) (e : List UInt8) : List ByteArray → List UInt8
 | [] => []
 | [s] => lineL 32 code e s.data.toList
 | s :: t :: r => lineL 45 code e s.data.toList ++ bytesL code e (t :: r)
end Go.Proofs.YtnkppakkeobegaaGreatDoor
