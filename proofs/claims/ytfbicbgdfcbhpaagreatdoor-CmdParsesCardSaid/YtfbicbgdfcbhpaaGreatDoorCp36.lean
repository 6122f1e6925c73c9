/-
  CxFun.
-/
import Derived.Test.YtfbicbgdfcbhpaaGreatDoorCp34
import Derived.Test.YtfbicbgdfcbhpaaGreatDoorCp35

