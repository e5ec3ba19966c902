/- Weights by states. No statement of the seat is proved here. -/
import Derived.Lib.Hide
import Derived.Test.YtlobefglhppbdaaGreatDoorCtTy
import Derived.Test.YtlobefglhppbdaaGreatDoorCtAGraph
set_option linter.unusedSimpArgs false
set_option linter.unusedVariables false
namespace Go.Proofs.YtlobefglhppbdaaGreatDoor.Abs
open Go.RowKit
open R (val row ref)
def isE (a b : Int) (e : E3) : Bool := decide (e.1 = a) && decide (e.2.1 = b)
def wE (es : List E3) (a b : Int) : Int := match es.find? (isE a b) with | some e => e.2.2 | none => -1
end Go.Proofs.YtlobefglhppbdaaGreatDoor.Abs
