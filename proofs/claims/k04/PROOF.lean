import PyProof.Rows.All
import Wide.All
import OpenK.AllK
import Wide.FinOn
import PySem.Challenge.RW_copykin_k04_refusals_made
open PySem PySem.W PySem.W.X PyProof.Rows
set_option Elab.async false
set_option maxRecDepth 100000 in
set_option maxHeartbeats 0 in
theorem PySem.Challenge.cw_copykin_k04_refusals_made_holds : PySem.Challenge.rw_copykin_k04_refusals_made.Holds := by
  open_z
