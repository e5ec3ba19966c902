/- Hops by states: HopsFrom of the reference. No statement of the seat is proved here. -/
import Derived.Lib.Hide
import Derived.Test.YtlobefglhppbdaaGreatDoorCtTy
import Derived.Test.YtlobefglhppbdaaGreatDoorCtABits
import Derived.Test.YtlobefglhppbdaaGreatDoorCtGBfs
import Derived.Test.YtlobefglhppbdaaGreatDoorCtAHops
set_option linter.unusedSimpArgs false
set_option linter.unusedVariables false
namespace Go.Proofs.YtlobefglhppbdaaGreatDoor.Abs
open Go.RowKit
open R (val row ref)
theorem ints_set (xs : List Int) (i : Nat) (x : Int) : (ints xs).set i (iP x) = ints (xs.set i x) := by unfold ints; rw [List.map_set]
end Go.Proofs.YtlobefglhppbdaaGreatDoor.Abs
set_option linter.unusedSimpArgs false
set_option linter.unusedVariables false
namespace Go.Proofs.YtlobefglhppbdaaGreatDoor.Abs
open Go.RowKit
open R (val row ref)
theorem f_implHasH (m : Int) (nil : Bool) (es : List E3) (v : Int) : Fn Tryz.prog 28 [graphP m nil es, iP v] (.v (.one (bool (hasV m v)))) := by
  refine fn_of (l := [.tmp 4]) Tryz.func28 kRf rfl Tryz.ntmps28 rfl rfl ?_; simp only [argEnv, P0.d, Nat.reduceAdd, graphP, List.map_cons, List.map_nil]
  repeat' (first|refine wk ?_|(refine wkB ?_ ?_<;>intro hg_<;>try exact wkX)|fail)
  all_goals exact ret_tmp rfl (dres_bool (by unfold hasV;(first|(simp_all;done)|(rw [Bool.eq_iff_iff];simp_all;done)|(rw [Bool.eq_iff_iff];simp_all;omega)|(rw [Bool.eq_iff_iff];simp;omega))))
theorem nextM_ok {m : Nat} {es : List E3} (hm : m ≤ 16) (hI : Inside m es) : (nextM m es).length = m ∧ Sm (nextM m es) := next_ok m hm es hI _ (by simp) (fun i => by rw [List.getD_eq_getElem?_getD, List.getElem?_replicate]; split <;> simp)
theorem asA_own0H {H : Nat → Option Ob} {k n sz : Nat} {E : TypeId} {els : List P0} {new : Bool} {ev : Operand → D} {x : Operand} (h : ev x = .one (.own k 0 n sz)) (hk : H k = some (.sl E sz new els)) (hn : n = els.length) : AsArg H (ev x) (.one (row false sz els)) := by
  have h2 := asA_own h hk oM
  rwa [List.drop_zero, List.take_of_length_le oM] at h2
end Go.Proofs.YtlobefglhppbdaaGreatDoor.Abs
