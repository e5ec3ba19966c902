/- HopsRight of the reference by states. No statement of the seat is proved here. -/
import Derived.Test.YthjnidcmhegoeaaDoorHopsI2
import Derived.Test.YthjnidcmhegoeaaDoorTy
import Derived.Lib.Hide
import Derived.Test.YthjnidcmhegoeaaDoorAGraph
set_option linter.unusedSimpArgs false
set_option linter.unusedVariables false
namespace Go.Proofs.YthjnidcmhegoeaaDoor.Abs
open Go.RowKit
open R (val row ref)

theorem gOk_m {m : Int} {es : List E3} (h : gOk m es = true) : 0 ≤ m ∧ m ≤ 16 ∧ es.length ≤ 40 := by
  unfold gOk at h; simp at h; omega
/-- What the reference asks of one vertex. -/
def cS (es : List E3) (s : Int) (vs : List Int) (v : Int) : Bool := c1 s vs v && es.all (fun e => decide (e.1 ≠ v) || kpS vs e) && fd es vs v
theorem hv_val (vs : List Int) (v : Nat) : Go.Proofs.YthjnidcmhegoeaaDoor.val vs (v : Int) = vs.getD v 0 := by unfold Go.Proofs.YthjnidcmhegoeaaDoor.val; simp
end Go.Proofs.YthjnidcmhegoeaaDoor.Abs
