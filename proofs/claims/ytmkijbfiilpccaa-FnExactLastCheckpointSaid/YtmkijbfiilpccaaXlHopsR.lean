/- HopsRight as plain laws: what both texts compute is the same. No statement of the seat is proved here. -/
import Derived.Test.YtmkijbfiilpccaaRows
import Derived.WalkKit
import Derived.WalkSpells
import Derived.WalkLawsBesides
import Derived.Lib.Hide
import Derived.Handy
import Derived.BigQuiet
import Derived.Deep.QuietTactic
import Derived.Test.YtmkijbfiilpccaaXlLib
import Derived.Test.YtmkijbfiilpccaaXlOwn
import Derived.Test.YtmkijbfiilpccaaXlJobs
import Derived.Test.YtmkijbfiilpccaaXlCodes3
import Derived.Test.YtmkijbfiilpccaaXlFrames2
import Derived.Test.YtmkijbfiilpccaaXlGValid
set_option linter.unusedSimpArgs false
set_option linter.unusedVariables false
namespace Go.Proofs.Ytmkijbfiilpccaa
open Go.RowKit
def val (vs : List Int) (v : Int) : Int:=vs.getD v.toNat 0
def c1 (s : Int) (vs : List Int) (v : Int) : Bool:=decide (-1 ≤ val vs v) && (decide (val vs v = 0) == decide (v = s))
end Go.Proofs.Ytmkijbfiilpccaa
