/-
  The law RecordApart, and the table of what is known of all functions.
-/
import Derived.Test.YtkjcpgnmkjkbbaaRecD
import Derived.Test.YtkjcpgnmkjkbbaaAllOk
