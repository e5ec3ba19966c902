/- Graphs by states: small tests, GraphValid of the reference. No statement of the seat is proved here. -/
import Derived.Lib.Hide
import Derived.Test.YtmkijbfiilpccaaXlTy
import Derived.Test.YtmkijbfiilpccaaXlALaw0
set_option linter.unusedSimpArgs false
set_option linter.unusedVariables false
namespace Go.Proofs.Ytmkijbfiilpccaa.Abs
open Go.RowKit
open R (val row ref)
theorem prevE_pos {es : List E3} {k : Nat} (h : 0 < k) (hk : k ≤ es.length) : prevE es k = some (es[k - 1]'oM):=by
 obtain ⟨j,rfl⟩ : ∃ j,k = j + 1:=⟨k - 1,by omega⟩
 simp [prevE,show j < es.length by omega]
end Go.Proofs.Ytmkijbfiilpccaa.Abs
