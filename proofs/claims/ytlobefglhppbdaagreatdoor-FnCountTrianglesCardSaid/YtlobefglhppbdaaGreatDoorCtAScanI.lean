/- The iterator over frames, walked. No statement of the seat is proved here. -/
import Derived.RangeFuncNested
import Derived.RangeFuncBound
import Derived.RangeFuncCalls
import Derived.RangeFuncLeaves
import Derived.Shelf.Abstract
import Derived.Shelf.RegionOpen
import Derived.OwnWalkIn
import Derived.TacticsInMore
import Derived.LoopNIn
import Derived.LoopIn
import Derived.Test.YtlobefglhppbdaaGreatDoorRows
import Derived.WalkKit
import Derived.WalkSpells
import Derived.WalkLawsBesides
import Derived.Lib.Hide
import Derived.Handy
import Derived.BigQuiet
import Derived.Deep.QuietTactic
import Derived.Lib.AppendZerosOnto
import Derived.LoopN
import Derived.Lib.SliceRun
import Derived.Test.YtlobefglhppbdaaGreatDoorCtLib
import Derived.Test.YtlobefglhppbdaaGreatDoorCtOwn
import Derived.Test.YtlobefglhppbdaaGreatDoorCtJobs
import Derived.Test.YtlobefglhppbdaaGreatDoorCtGValid
import Derived.Test.YtlobefglhppbdaaGreatDoorCtGCod
set_option linter.unusedSimpArgs false
set_option linter.unusedVariables false
namespace Go.Proofs.YtlobefglhppbdaaGreatDoor
open Go.RowKit
open Go.Shelf
attribute [local go_sem] Oper.semAt_some
structure Frm (xs : List Int) where
  i : Nat
  bd : List Int
  le : i + 1 + bd.length ≤ xs.length
  eq : (xs.drop (i + 1)).take bd.length = bd
  pos : 1 ≤ bd.length
abbrev Frm.p {xs : List Int} (x : Frm xs) : Nat × List Int := (x.i, x.bd)
end Go.Proofs.YtlobefglhppbdaaGreatDoor
