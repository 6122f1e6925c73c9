/-
  The functions, printed.
-/
import Derived.Test.YtfbicbgdfcbhpaaDoorSxFun1
import Derived.Test.YtfbicbgdfcbhpaaDoorSxFun2
