/- Programs by states. No statement of the seat is proved here. -/
import Derived.Lib.Hide
import Derived.Test.YtlobefglhppbdaaGreatDoorCtTy
import Derived.Test.YtlobefglhppbdaaGreatDoorCtADrwI
import Derived.Test.YtlobefglhppbdaaGreatDoorCtJobs
set_option linter.unusedSimpArgs false
set_option linter.unusedVariables false
set_option maxRecDepth 100000
set_option maxHeartbeats 2000000
namespace Go.Proofs.YtlobefglhppbdaaGreatDoor.Abs
open Go.RowKit
open R (val row ref)
abbrev prgP (k s r : Int) : P0 := .agg [int k, int s, int r]
theorem f_progValid (k s r : Int) : Fn Tryz.prog 39 [prgP k s r] (.v (.one (bool (progOk k s r)))) := by
  refine fn_of (l := [.tmp 2]) Tryz.func39 kRf rfl Tryz.ntmps39 rfl rfl ?_; simp only [argEnv, P0.d, Nat.reduceAdd, prgP]
  repeat' (first|refine wk ?_|(refine wkB ?_ ?_<;>intro hg_<;>try exact wkX)|fail)
  all_goals first
    | exact ret_tmp rfl (dres_bool (by unfold progOk;(first|(simp_all;done)|(rw [Bool.eq_iff_iff];simp_all;done)|(rw [Bool.eq_iff_iff];simp_all;omega)|(rw [Bool.eq_iff_iff];simp;omega))))
    | (exfalso; omega)
    | fail
end Go.Proofs.YtlobefglhppbdaaGreatDoor.Abs
