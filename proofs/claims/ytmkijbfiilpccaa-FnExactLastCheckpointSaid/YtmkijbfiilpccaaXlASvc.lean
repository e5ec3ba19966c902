/- Disks and services by states. No statement of the seat is proved here. -/
import Derived.Lib.Hide
import Derived.Deep.RegionHeld3
import Derived.Deep.RegionLaw
import Derived.Test.YtmkijbfiilpccaaRows
import Derived.WalkKit
import Derived.WalkSpells
import Derived.WalkLawsBesides
import Derived.Handy
import Derived.BigQuiet
import Derived.Deep.QuietTactic
import Derived.Test.YtmkijbfiilpccaaXlLib
import Derived.Test.YtmkijbfiilpccaaXlOwn
import Derived.Test.YtmkijbfiilpccaaXlTy
import Derived.Test.YtmkijbfiilpccaaXlJobs
import Derived.Test.YtmkijbfiilpccaaXlCodes3
import Derived.Test.YtmkijbfiilpccaaXlFrames2
import Derived.Test.YtmkijbfiilpccaaXlAGraph
set_option linter.unusedSimpArgs false
set_option linter.unusedVariables false
set_option maxRecDepth 100000
set_option maxHeartbeats 2000000
namespace Go.Proofs.Ytmkijbfiilpccaa.Abs
open Go.RowKit
open R (val row ref)
def szL (left n : Int) : Int:=if left < n then -1 else left - n
theorem f_szIntS (nil : Bool) (xs : List Int) (left : Int) (hl : xs.length ≤ 9223372036854775807) (h1 : 0 ≤ left) (h2 : left ≤ 1048576) : Fn Try.prog 25 [.one (row nil 1 (ints xs)),iP left] (.v (iP (szL left xs.length))):=by
 have hlen:=Zp xs
 have hw : IntKind.i64.wrap (left - ((ints xs).length : Int)) = left - xs.length:=by rw [IntWalk.i64_in _ oM,hlen]
 unfold szL
 refine Zy (l:=[.tmp 4]) Try.func25 kRf rfl Try.ntmps25 rfl rfl ?_; simp only [argEnv,P0.d,Nat.reduceAdd,List.map_cons,List.map_nil]
 repeat' (first|refine wk ?_|(refine wkB ?_ ?_<;>intro hg_<;>try exact wkX)|fail)
 ·refine Zt rfl (Z4 ?_)
  rw [hw] at *
  rw [if_pos oM]
 ·refine Zt rfl (Z4 ?_)
  rw [hw] at *
  rw [if_neg oM]
end Go.Proofs.Ytmkijbfiilpccaa.Abs
