/- Jobs and programs: what the validity tests return. No statement of the seat is proved here. -/
import Derived.Test.YtlobefglhppbdaaGreatDoorRows
import Derived.WalkKit
import Derived.WalkSpells
import Derived.WalkLawsBesides
import Derived.Lib.Hide
import Derived.Handy
import Derived.BigQuiet
import Derived.Deep.QuietTactic
import Derived.Test.YtlobefglhppbdaaGreatDoorCtLib
set_option linter.unusedSimpArgs false
set_option linter.unusedVariables false
namespace Go.Proofs.YtlobefglhppbdaaGreatDoor
open Go.RowKit
def progOk (k s r : Int) : Bool :=
  if k = 1 ∨ k = 2 then decide (0 ≤ s ∧ s < 16 ∧ r = 0) else if k = 3 ∨ k = 5 then decide (s = 0 ∧ r = 0) else if k = 4 ∨ k = 6 then decide (s = 0 ∧ 1 ≤ r ∧ r ≤ 20) else false
end Go.Proofs.YtlobefglhppbdaaGreatDoor
