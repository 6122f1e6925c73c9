/-
  PyFun2, PyFun.
-/
import Derived.Test.YtnkppakkeobegaaGreatDoorZM16
import Derived.Test.YtnkppakkeobegaaGreatDoorZM17
set_option maxRecDepth 20000
set_option linter.unusedVariables false
set_option linter.unusedSimpArgs false
set_option linter.unusedSectionVars false
namespace Go.Proofs.YtnkppakkeobegaaGreatDoor
namespace AX
set_option linter.unusedVariables false
noncomputable section
end
end AX
end Go.Proofs.YtnkppakkeobegaaGreatDoor

