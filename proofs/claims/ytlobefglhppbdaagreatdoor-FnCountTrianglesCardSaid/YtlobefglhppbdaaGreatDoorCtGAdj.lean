/- Neighbours, as plain data. No statement of the seat is proved here. -/
import Derived.Lib.Hide
import Derived.Test.YtlobefglhppbdaaGreatDoorCtTy
import Derived.Test.YtlobefglhppbdaaGreatDoorCtALaw0
set_option linter.unusedSimpArgs false
set_option linter.unusedVariables false
namespace Go.Proofs.YtlobefglhppbdaaGreatDoor.Abs
open Go.RowKit
open R (val row ref)
def adjE (a b : Int) (e : E3) : Bool := (decide (e.1 = a) && decide (e.2.1 = b)) || (decide (e.1 = b) && decide (e.2.1 = a))
def adj (es : List E3) (a b : Int) : Bool := es.any (adjE a b)
end Go.Proofs.YtlobefglhppbdaaGreatDoor.Abs
