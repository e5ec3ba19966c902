/- Adding an edge, as plain data. No statement of the seat is proved here. -/
import Derived.Test.YtmkecjamfippfaaRxGValid
set_option linter.unusedSimpArgs false
set_option linter.unusedVariables false
namespace Go.Proofs.Ytmkecjamfippfaa
theorem gOk_len {m : Int} {es : List E3} (h : gOk m es = true) : es.length ≤ 40 := by
  unfold gOk at h
  simp only [Bool.and_eq_true, decide_eq_true_eq] at h
  exact h.1.2
end Go.Proofs.Ytmkecjamfippfaa
