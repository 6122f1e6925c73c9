/-
  CxFun.
-/
import Derived.Test.YtfbicbgdfcbhpaaGreatDoorCt33
import Derived.Test.YtfbicbgdfcbhpaaGreatDoorCt34

