/- Edges as records: writing and reading. No statement of the seat is proved here. -/
import Derived.Test.YtmkijbfiilpccaaRows
import Derived.WalkKit
import Derived.WalkSpells
import Derived.WalkLawsBesides
import Derived.Lib.Hide
import Derived.Handy
import Derived.BigQuiet
import Derived.Deep.QuietTactic
import Derived.Test.YtmkijbfiilpccaaSbLib
import Derived.Test.YtmkijbfiilpccaaSbOwn
import Derived.Test.YtmkijbfiilpccaaSbJobs
import Derived.Test.YtmkijbfiilpccaaSbCodes3
set_option linter.unusedSimpArgs false
set_option linter.unusedVariables false
namespace Go.Proofs.Ytmkijbfiilpccaa
open Go.RowKit
def readE (xs : List Int) : Option (Int × Int × Int) :=
 match decAt xs 0 with
 | some (a,i)=>match decAt xs i with
  | some (b,j)=>match decAt xs j with
   | some (c,e)=>if e = (xs.length : Int) then some (a,b,c) else none
   | none=>none
  | none=>none
 | none=>none
end Go.Proofs.Ytmkijbfiilpccaa
