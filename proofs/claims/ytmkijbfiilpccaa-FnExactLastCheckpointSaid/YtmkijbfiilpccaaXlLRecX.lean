/- FnExactRecoverState by states: the law's walk. -/
import Derived.Lib.Hide
import Derived.Deep.RegionHeld3
import Derived.Deep.RegionLaw
import Derived.RangeFuncFrom
import Derived.RangeFuncCalls
import Derived.OrdersIn
import Derived.TacticsIn
import Derived.RangeFuncWrites
import Derived.Test.YtmkijbfiilpccaaXlTy
import Derived.Test.YtmkijbfiilpccaaXlAbsX
import Derived.Test.YtmkijbfiilpccaaXlADrwI
import Derived.Test.YtmkijbfiilpccaaXlASvc
import Derived.Test.YtmkijbfiilpccaaXlAExS
import Derived.Test.YtmkijbfiilpccaaXlALift
import Derived.Test.YtmkijbfiilpccaaXlAGrH
import Derived.Test.YtmkijbfiilpccaaXlASpCD
import Derived.Test.YtmkijbfiilpccaaXlAScanI
import Derived.Test.YtmkijbfiilpccaaXlAImE
import Derived.Test.YtmkijbfiilpccaaXlAImPL
set_option linter.unusedSimpArgs false
set_option linter.unusedVariables false
namespace Go.Proofs.Ytmkijbfiilpccaa.Abs
open Go.RowKit
open R (val row ref)
theorem f_heldStOZ (r : Int) (nv ng nm : Bool) (k : Int) (a b : Nat) (h0 : 0 ≤ k) (hk : k ≤ 10000000) (h1 : a ≤ 1048576) (h2 : b ≤ 1048576) :
  Fn Try.prog 14 [stateP r nv (upF k a) ng (upB (k + a) b) nm [],iP k] (.v (iP (k + a + b))):=by
 have K:=f_heldState r nv ng nm k a b 0 h0 hk h1 h2 oM
 rw [show k + (a : Int) + (b : Int) + 3 * ((0 : Nat) : Int) = k + a + b by omega] at K
 exact K
theorem f_heldStZZ (r : Int) (nv ng nm : Bool) (k : Int) (h0 : 0 ≤ k) (hk : k ≤ 10000000) :
  Fn Try.prog 14 [stateP r nv [] ng [] nm [],iP k] (.v (iP k)):=by
 have K:=f_heldStOZ r nv ng nm k 0 0 h0 hk oM oM
 rw [show k + ((0 : Nat) : Int) + ((0 : Nat) : Int) = k by omega] at K
 exact K
end Go.Proofs.Ytmkijbfiilpccaa.Abs
