/- Numbers, edges and frames as bytes: plain lemmas. No statement of the seat is proved here. -/
import Derived.Lib.Hide
import Derived.Lib.AppendZerosOnto
import Derived.LoopN
import Derived.Lib.SliceRun
import Derived.Test.YtlobefglhppbdaaGreatDoorRows
import Derived.WalkKit
import Derived.WalkSpells
import Derived.WalkLawsBesides
import Derived.Handy
import Derived.BigQuiet
import Derived.Deep.QuietTactic
import Derived.Test.YtlobefglhppbdaaGreatDoorCtLib
import Derived.Test.YtlobefglhppbdaaGreatDoorCtOwn
import Derived.Test.YtlobefglhppbdaaGreatDoorCtTy
import Derived.Test.YtlobefglhppbdaaGreatDoorCtJobs
import Derived.Test.YtlobefglhppbdaaGreatDoorCtGValid
import Derived.Test.YtlobefglhppbdaaGreatDoorCtAGraph
import Derived.Test.YtlobefglhppbdaaGreatDoorCtHopsR
import Derived.Test.YtlobefglhppbdaaGreatDoorCtGAdd
set_option linter.unusedSimpArgs false
set_option linter.unusedVariables false
namespace Go.Proofs.YtlobefglhppbdaaGreatDoor.Abs
open Go.RowKit
open R (val row ref)
def fits (n : Int) : Bool := decide (0 ≤ n ∧ n ≤ 1000000)
def edgeB (a b c : Int) : List Int := if fits a && fits b && fits c then enc a ++ enc b ++ enc c else []
theorem gOk_mC {m : Int} {es : List E3} (h : gOk m es = true) : 0 ≤ m ∧ m ≤ 16 ∧ es.length ≤ 40 := by
  unfold gOk at h; simp at h; omega
end Go.Proofs.YtlobefglhppbdaaGreatDoor.Abs
