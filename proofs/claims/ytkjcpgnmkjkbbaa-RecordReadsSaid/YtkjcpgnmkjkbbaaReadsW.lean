/-
  The law RecordReads, and the table of what is known of all functions.
-/
import Derived.Test.YtkjcpgnmkjkbbaaReads
import Derived.Test.YtkjcpgnmkjkbbaaAllOk
