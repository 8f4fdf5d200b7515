/-
  The law CellPaths, and the table of what is known of all functions.
-/
import Derived.Test.YtnaojplgikaeoaaPaths
import Derived.Test.YtnaojplgikaeoaaAllOk
