/-
  The functions, printed.
-/
import Derived.Test.YtfbicbgdfcbhpaaGreatDoorSxFun1
import Derived.Test.YtfbicbgdfcbhpaaGreatDoorSxFun2
import Derived.Test.YtfbicbgdfcbhpaaGreatDoorSxFun3
