/-
  The functions, printed.
-/
import Derived.Test.YtfbicbgdfcbhpaaDoorSxFun1
import Derived.Test.YtfbicbgdfcbhpaaDoorSxFun2
import Derived.Test.YtfbicbgdfcbhpaaDoorSxFun3
