/- Jobs and programs: what the validity tests return. No statement of the seat is proved here. -/
import Derived.Test.YtmkijbfiilpccaaRows
import Derived.WalkKit
import Derived.WalkSpells
import Derived.WalkLawsBesides
import Derived.Lib.Hide
import Derived.Handy
import Derived.BigQuiet
import Derived.Deep.QuietTactic
import Derived.Test.YtmkijbfiilpccaaXlLib
set_option linter.unusedSimpArgs false
set_option linter.unusedVariables false
set_option maxRecDepth 100000
set_option maxHeartbeats 1000000
namespace Go.Proofs.Ytmkijbfiilpccaa
open Go.RowKit
theorem specL1In (a b c : Int) (w : World) :
  Calls Try.prog 49 #[.int .i64 a,.int .i64 b,.int .i64 c] w fun e w'=>e = .returned (.bool (decide (b ≤ a ∧ a ≤ c))) ∧ w = w':=by
 go_enter Try.func49,Try.ntmps49
 go_wp2
 all_goals (go_ret; exact ⟨Zbb (bool_of_iff (by simp_all<;>omega)),rfl⟩)
end Go.Proofs.Ytmkijbfiilpccaa
