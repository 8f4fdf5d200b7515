/-
  The law RecordWords, and the table of what is known of all functions.
-/
import Derived.Test.YtkjcpgnmkjkbbaaWords
import Derived.Test.YtkjcpgnmkjkbbaaAllOkI
