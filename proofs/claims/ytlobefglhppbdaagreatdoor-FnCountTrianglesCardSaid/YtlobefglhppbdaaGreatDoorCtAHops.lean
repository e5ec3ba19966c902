/- HopsRight of the reference by states. No statement of the seat is proved here. -/
import Derived.Lib.Hide
import Derived.Deep.RegionHeld3
import Derived.Test.YtlobefglhppbdaaGreatDoorRows
import Derived.WalkKit
import Derived.WalkSpells
import Derived.WalkLawsBesides
import Derived.Handy
import Derived.BigQuiet
import Derived.Deep.QuietTactic
import Derived.Lib.AppendZerosOnto
import Derived.LoopN
import Derived.Lib.SliceRun
import Derived.Test.YtlobefglhppbdaaGreatDoorCtLib
import Derived.Test.YtlobefglhppbdaaGreatDoorCtOwn
import Derived.Test.YtlobefglhppbdaaGreatDoorCtTy
import Derived.Test.YtlobefglhppbdaaGreatDoorCtJobs
import Derived.Test.YtlobefglhppbdaaGreatDoorCtMasks
import Derived.Test.YtlobefglhppbdaaGreatDoorCtGValid
import Derived.Test.YtlobefglhppbdaaGreatDoorCtAGraph
import Derived.Test.YtlobefglhppbdaaGreatDoorCtHopsR
set_option linter.unusedSimpArgs false
set_option linter.unusedVariables false
namespace Go.Proofs.YtlobefglhppbdaaGreatDoor.Abs
open Go.RowKit
open R (val row ref)
theorem gOk_m {m : Int} {es : List E3} (h : gOk m es = true) : 0 ≤ m ∧ m ≤ 16 ∧ es.length ≤ 40 := by
  unfold gOk at h; simp at h; omega
end Go.Proofs.YtlobefglhppbdaaGreatDoor.Abs
