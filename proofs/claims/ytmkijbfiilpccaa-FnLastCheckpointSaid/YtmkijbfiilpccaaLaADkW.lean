/- Writing to disks by states, both texts, and the draw. No statement of the seat is proved here. -/
import Derived.Lib.Hide
import Derived.Deep.RegionHeld3
import Derived.Deep.RegionLaw
import Derived.Test.YtmkijbfiilpccaaRows
import Derived.WalkKit
import Derived.WalkSpells
import Derived.WalkLawsBesides
import Derived.Handy
import Derived.BigQuiet
import Derived.Deep.QuietTactic
import Derived.Test.YtmkijbfiilpccaaLaLib
import Derived.Test.YtmkijbfiilpccaaLaOwn
import Derived.Test.YtmkijbfiilpccaaLaTy
import Derived.Test.YtmkijbfiilpccaaLaARound
import Derived.Test.YtmkijbfiilpccaaLaJobs
import Derived.Test.YtmkijbfiilpccaaLaCodes3
import Derived.Test.YtmkijbfiilpccaaLaGValid
import Derived.Test.YtmkijbfiilpccaaLaAGraph
import Derived.Test.YtmkijbfiilpccaaLaASpCD
import Derived.Test.YtmkijbfiilpccaaLaAImC
import Derived.Test.YtmkijbfiilpccaaLaADrF
set_option linter.unusedSimpArgs false
set_option linter.unusedVariables false
namespace Go.Proofs.Ytmkijbfiilpccaa.Abs
open Go.RowKit
open R (val row ref)
theorem k_atD {P : Program} {H : Nat → Option Ob} {ev : Operand → D} {o : Oper} {d : D} (t : Nat) (hd : o.dst = some t) (h : Loc P H ev o d) : Loc P H ev o d:=h
end Go.Proofs.Ytmkijbfiilpccaa.Abs
