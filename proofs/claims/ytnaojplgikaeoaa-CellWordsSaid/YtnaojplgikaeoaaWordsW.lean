/-
  The law CellWords, and the table of what is known of all functions.
-/
import Derived.Test.YtnaojplgikaeoaaWords
import Derived.Test.YtnaojplgikaeoaaAllOkI
