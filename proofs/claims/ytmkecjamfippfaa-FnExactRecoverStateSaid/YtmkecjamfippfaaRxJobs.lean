/- Jobs and programs: what the validity tests return. No statement of the seat is proved here. -/
import Derived.Test.YtmkecjamfippfaaRows
import Derived.WalkKit
import Derived.WalkSpells
import Derived.WalkLawsBesides
import Derived.Lib.Hide
import Derived.Handy
import Derived.BigQuiet
import Derived.Deep.QuietTactic
import Derived.Test.YtmkecjamfippfaaRxLib
set_option linter.unusedSimpArgs false
set_option linter.unusedVariables false
namespace Go.Proofs.Ytmkecjamfippfaa
open Go.RowKit
set_option maxRecDepth 100000 in
set_option maxHeartbeats 1000000 in
theorem specL1In (a b c : Int) (w : World) :
    Calls Try.prog 75 #[.int .i64 a, .int .i64 b, .int .i64 c] w fun e w' => e = .returned (.bool (decide (b ≤ a ∧ a ≤ c))) ∧ w = w' := by
  go_enter Try.func75, Try.ntmps75
  go_wp2
  all_goals (go_ret; exact ⟨ret_bool (bool_of_iff (by simp_all <;> omega)), rfl⟩)
end Go.Proofs.Ytmkecjamfippfaa
