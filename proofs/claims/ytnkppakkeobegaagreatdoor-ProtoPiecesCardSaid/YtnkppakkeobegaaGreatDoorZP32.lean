/-
  RefReply1.
-/
import Derived.Test.YtnkppakkeobegaaGreatDoorZP12
import Derived.Test.YtnkppakkeobegaaGreatDoorZP01
set_option maxRecDepth 20000
set_option linter.unusedVariables false
set_option linter.unusedSimpArgs false
set_option linter.unusedSectionVars false
namespace Go.Proofs.YtnkppakkeobegaaGreatDoor
open Go.ChangeShapes Go.WideShapes Go.ChangeAt Go.RowKit
end Go.Proofs.YtnkppakkeobegaaGreatDoor
