/- What laws lean on, by states: sameInts, alive. No statement of the seat is proved here. -/
import Derived.Lib.Hide
import Derived.Test.YtlobefglhppbdaaGreatDoorCtTy
import Derived.Test.YtlobefglhppbdaaGreatDoorCtADrwI
set_option linter.unusedSimpArgs false
set_option linter.unusedVariables false
set_option maxRecDepth 100000
set_option maxHeartbeats 4000000
namespace Go.Proofs.YtlobefglhppbdaaGreatDoor.Abs
open Go.RowKit
open R (val row ref)
theorem f_sameInts2 (n1 n2 : Bool) (xs : List Int) (hl : xs.length ≤ 1048576) : Fn Tryz.prog 6 [.one (row n1 1 (ints xs)), .one (row n2 1 (ints xs))] (.v (.one (bool true))) := by
  have hlen := ints_len xs
  refine fn_of (l := [.tmp 4]) Tryz.func6 kRf rfl Tryz.ntmps6 rfl rfl ?_; simp only [argEnv, P0.d, Nat.reduceAdd]
  repeat' (first|refine wk ?_|(refine wkB ?_ ?_<;>intro hg_<;>try exact wkX)|fail)
  refine aw_loopI (fun k : Nat => k ≤ xs.length) (fun k => mkS 26 [(5, .one (.r true (int k))), (0, .one (.r false (row n1 1 (ints xs)))), (1, .one (.r false (row n2 1 (ints xs))))] []) (fun k => xs.length - k) 0 (Nat.zero_le _) (by (refine weak_ren [] rfl ?_ ?_ <;>exact wkW)) ?_
  rintro k hk
  by_cases hlt : k < xs.length
  · have hix := ints_at (xs := xs) hlt
    generalize xs[k] = v at *
    have hw : IntKind.i64.wrap ((k : Int) + 1) = ((k + 1 : Nat) : Int) := by rw [IntWalk.i64_in _ oM]; omega
    repeat' (first|refine wk ?_|((first|refine' w_q rfl rfl ?xa rfl ?_|refine' v_q rfl rfl ?xa rfl ?_|refine' w_yes rfl rfl (lookO_spec rfl) rfl ?xa rfl ?_|refine' v_yes rfl rfl (lookO_spec rfl) rfl ?xa rfl ?_);case xa => exact k_index tbOk rfl rfl rfl rfl oM (by exact hix))|(refine wkB ?_ ?_<;>intro hg_<;>try exact wkX)|fail)
    all_goals first
      | exact ⟨k + 1, by omega, by (refine weak_ren [] rfl ?_ ?_ <;> repeat' (first|refine wkS ?_ ?_|exact wkE|exact d_int hw)), by omega⟩
      | fail
  · repeat' (first|refine wk ?_|(refine wkB ?_ ?_<;>intro hg_<;>try exact wkX)|fail)
    all_goals first
      | exact ret_tmp rfl (dres_bool rfl)
      | fail
theorem f_bytesValid02 : Fn Tryz.prog 38 [.one (row false 1 [])] (.v (.one (bool true))) := by
  refine fn_of (l := [.tmp 2]) Tryz.func38 kRf rfl Tryz.ntmps38 rfl rfl ?_; simp only [argEnv, P0.d, Nat.reduceAdd]
  repeat' (first|refine wk ?_|(refine wkB ?_ ?_<;>intro hg_<;>try exact wkX)|fail)
  refine aw_loopI (fun _ : Nat => True) (fun _ => mkS 21 [(10, .one (.r true (int 0))), (9, .one (.r true (int 0)))] []) (fun _ => 0) 0 trivial (by (refine weak_ren [] rfl ?_ ?_ <;>exact wkW)) ?_
  rintro _ _
  repeat' (first|refine wk ?_|(refine wkB ?_ ?_<;>intro hg_<;>try exact wkX)|fail)
  all_goals first
    | exact ret_tmp rfl (dres_bool rfl)
    | (exfalso; simp at *; done)
    | fail
theorem f_checkSum02 : Fn Tryz.prog 25 [.one (row false 1 [])] (.v (iP 7)) := by
  refine fn_of (l := [.tmp 2]) Tryz.func25 kRf rfl Tryz.ntmps25 rfl rfl ?_; simp only [argEnv, P0.d, Nat.reduceAdd]
  repeat' (first|refine wk ?_|((first|refine' w_q rfl rfl ?xa rfl ?_|refine' v_q rfl rfl ?xa rfl ?_|refine' w_yes rfl rfl (lookO_spec rfl) rfl ?xa rfl ?_|refine' v_yes rfl rfl (lookO_spec rfl) rfl ?xa rfl ?_);case xa => exact k_call f_bytesValid02 rfl ⟨asA_r (evO_spec rfl), trivial⟩)|(refine wkB ?_ ?_<;>intro hg_<;>try exact wkX)|fail)
  refine aw_loopI (fun _ : Nat => True) (fun _ => mkS 23 [(11, .one (.r true (int 0))), (10, .one (.r true (int 0))), (3, .one (.r true (int 7)))] []) (fun _ => 0) 0 trivial (by (refine weak_ren [] rfl ?_ ?_ <;>exact wkW)) ?_
  rintro _ _
  repeat' (first|refine wk ?_|(refine wkB ?_ ?_<;>intro hg_<;>try exact wkX)|fail)
  all_goals first
    | exact ret_tmp rfl (dres_int rfl)
    | (exfalso; simp at *; done)
    | fail
theorem f_alive2 : Fn Tryz.prog 9 [] (.v (.one (bool true))) := by
  refine fn_of (l := [.tmp 0]) Tryz.func9 kRf rfl Tryz.ntmps9 rfl rfl ?_; simp only [argEnv, P0.d, Nat.reduceAdd]
  repeat' (first|refine wk ?_|((first|refine' w_q rfl rfl ?xa rfl ?_|refine' v_q rfl rfl ?xa rfl ?_|refine' w_yes rfl rfl (lookO_spec rfl) rfl ?xa rfl ?_|refine' v_yes rfl rfl (lookO_spec rfl) rfl ?xa rfl ?_);case xa => exact k_call f_checkSum02 rfl ⟨by rw [evO_spec rfl];exact cAr_own0 (lookHO_spec rfl) rfl, trivial⟩)|((first|refine' w_e rfl ?xa ?xb ?xc ?xe ?_|refine' v_e rfl ?xa ?xb ?xc ?xe ?_);(case xa => exact e_build [] tlOk rfl rfl rfl rfl rfl rfl (by simp [AllN]) (by simp));(case xb|xc|xe=>rfl);try refine wkD ?_)|(refine wkB ?_ ?_<;>intro hg_<;>try exact wkX)|fail)
  all_goals first
    | exact ret_tmp rfl (dres_bool rfl)
    | fail
end Go.Proofs.YtlobefglhppbdaaGreatDoor.Abs
