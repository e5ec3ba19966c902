/- Checkpoints by states: the program's readers of values and messages. No statement of the seat is proved here. -/
import Derived.Lib.Hide
import Derived.RangeFuncWrites
import Derived.RangeFuncFrom
import Derived.RangeFuncCalls
import Derived.OrdersIn
import Derived.TacticsIn
import Derived.Test.YtlobefglhppbdaaGreatDoorCtTy
import Derived.Test.YtlobefglhppbdaaGreatDoorCtAbsX
import Derived.Test.YtlobefglhppbdaaGreatDoorCtGStaCk
import Derived.Test.YtlobefglhppbdaaGreatDoorCtASta
import Derived.Test.YtlobefglhppbdaaGreatDoorCtALift
import Derived.Test.YtlobefglhppbdaaGreatDoorCtAGrH
import Derived.Test.YtlobefglhppbdaaGreatDoorCtAScanI
set_option linter.unusedSimpArgs false
set_option linter.unusedVariables false
set_option maxRecDepth 100000
set_option maxHeartbeats 4000000
namespace Go.Proofs.YtlobefglhppbdaaGreatDoor.Abs
open Go.RowKit
open R (val row ref)
abbrev Zc : Cell := .r true (row true 0 [])
end Go.Proofs.YtlobefglhppbdaaGreatDoor.Abs
set_option linter.unusedSimpArgs false
set_option linter.unusedVariables false
namespace Go.Proofs.YtlobefglhppbdaaGreatDoor.Abs
open Go.RowKit
open R (val row ref)
theorem f_ownValid (r : Int) (nv ng nm : Bool) (vs : List Int) (gs : List Bool) (ms : List E3) (hv : vs.length ≤ maxLen) (hg : gs.length ≤ maxLen) (hl : ms.length ≤ maxLen) : Fn Tryz.prog 49 [stateP r nv vs ng gs nm ms] (.v (.one (bool (stOk vs.length r vs gs.length ms)))) := by
  have hlenV := ints_len vs
  have K := f_implStateValid ((ints vs).length : Int) r nv ng nm vs gs ms hv hg hl
  have e : stOk ((ints vs).length : Int) r vs gs.length ms = stOk (vs.length : Int) r vs gs.length ms := by rw [hlenV]
  rw [e] at K
  clear e
  generalize stOk vs.length r vs gs.length ms = b at *
  refine fn_of (l := [.tmp 2]) Tryz.func49 kRf rfl Tryz.ntmps49 rfl rfl ?_; simp only [argEnv, P0.d, Nat.reduceAdd, stateP, List.map_cons, List.map_nil]
  repeat' (first|refine wk ?_|((first|refine' w_q rfl rfl ?xa rfl ?_|refine' v_q rfl rfl ?xa rfl ?_|refine' w_yes rfl rfl (lookO_spec rfl) rfl ?xa rfl ?_|refine' v_yes rfl rfl (lookO_spec rfl) rfl ?xa rfl ?_);case xa => exact k_call K rfl ⟨asA_agg (evO_spec rfl) ⟨cAr_r, cAr_r, cAr_r, cAr_r, trivial⟩, asA_r (evO_spec rfl), trivial⟩)|(refine wkB ?_ ?_<;>intro hg_<;>try exact wkX)|fail)
  all_goals exact ret_tmp rfl (dres_bool rfl)
end Go.Proofs.YtlobefglhppbdaaGreatDoor.Abs
set_option linter.unusedSimpArgs false
set_option linter.unusedVariables false
namespace Go.Proofs.YtlobefglhppbdaaGreatDoor.Abs
open Go.RowKit
open R (val row ref)
theorem zpB : zpOf Tryz.prog 4 = some (.one (R.val (.bool false))) := by kernel_rfl
theorem e_makeB {l : List (Nat × D)} {H : Nat → Option Ob} {o : Oper} {t c : Nat} {m1 m2 : Bool} {i j : Int} {T : TypeId} {x y : Operand} (ho : o.op = .makeSlice T x y) (hd : o.dst = some t) (he : elL tl.els T = some (4, 1, 1)) (hx : evO l x = some (.one (.r m1 (int i)))) (hy : evO l y = some (.one (.r m2 (int j)))) (hi : i = c) (hj : j = c) (hb : 1 * c ≤ 281474976710656) (h63 : c ≤ maxLen) :
    Eff Tryz.prog H (evD (look l)) o (.one (.own t 0 c 1)) [] [t] [(t, some (.sl 4 1 true (List.replicate c (.one (R.val (.bool false))))))] :=
  eff_make T x y ho (elL_ok tlOk.el he) zpB (evO_spec hx) (evO_spec hy) hi hj hb h63
theorem mark_next {k n : Nat} (h : k < n) : (bools (List.replicate k true ++ List.replicate (n - k) false)).set k (.one (bool true)) = bools (List.replicate (k + 1) true ++ List.replicate (n - (k + 1)) false) := by
  rw [show n - k = (n - (k + 1)) + 1 by omega, List.replicate_succ, List.replicate_succ' (n := k)]
  unfold bools
  simp [List.set_append]
theorem f_implStart (n : Nat) (hn : n ≤ 16) : Fn Tryz.prog 45 [iP (n : Int)] (.v (stateP 0 false (List.replicate n 0) false (List.replicate n true) true [])) := by
  refine fn_of (l := [.cell 2 76]) Tryz.func45 kRf rfl Tryz.ntmps45 rfl rfl ?_; simp only [argEnv, P0.d, Nat.reduceAdd]
  repeat' (first|refine wk ?_|((first|refine' w_e rfl ?xa ?xb ?xc ?xe ?_|refine' v_e rfl ?xa ?xb ?xc ?xe ?_);(case xa => first|exact at_dst 13 rfl (e_make tlOk rfl rfl rfl rfl rfl rfl (c := n) rfl rfl oM (by simp only [maxLen];omega))|exact at_dst 15 rfl (e_makeB (c := n) rfl rfl rfl rfl rfl rfl rfl oM (by simp only [maxLen];omega)));(case xb|xc|xe=>rfl);try refine wkD ?_)|(refine wkB ?_ ?_<;>intro hg_<;>try exact wkX)|fail)
  obtain ⟨F, hFs⟩ : ∃ F : Nat → St, ∀ k, F k = mkS 29 [(20, .one (.r true (int (k : Int)))), (19, .one (.r true (int (n : Int)))), (3, .one (.ptr 3 0 0 0)), (2, .one (.ptr 2 0 0 0))] [(3, .var 76 [.r true (int 0), .own 101 0 n 1, .own 102 0 n 1, Zc]), (101, .sl 3 1 true (ints (List.replicate n 0))), (102, .sl 4 1 true (bools (List.replicate k true ++ List.replicate (n - k) false))), (2, .var 76 [.r true (int 0), Zc, Zc, Zc])] := ⟨_, fun _ => rfl⟩
  refine aw_loopI (fun k : Nat => k ≤ n) F (fun k => n - k) 0 (Nat.zero_le _) (by
    rw [hFs]
    (refine weak_ren [(101, 13), (102, 15)] rfl ?_ ?_ <;> repeat' (first|refine wkS ?_ ?_|exact wkE|exact ob_sl rfl (by unfold ints;simp)|exact ob_sl rfl (by unfold bools;simp)))) ?_
  intro k hk
  have hli : n = (ints (List.replicate n 0)).length := by rw [ints_len]; simp
  have hw : IntKind.i64.wrap ((k : Int) + 1) = ((k + 1 : Nat) : Int) := by rw [IntWalk.i64_in _ oM]; omega
  by_cases hlt : k < n
  · have hfin : ∀ s' : St, Weak s' (F (k + 1)) → ∃ x' : Nat, x' ≤ n ∧ Weak s' (F x') ∧ n - x' < n - k := fun s' h => ⟨k + 1, by omega, h, by omega⟩
    have hel : (bools (List.replicate k true ++ List.replicate (n - k) false)).length = n := by rw [bools_len]; simp; omega
    rw [hFs, ← mark_next hlt] at hfin
    rw [hFs]
    clear hFs
    generalize bools (List.replicate k true ++ List.replicate (n - k) false) = els at *
    repeat' (first|refine wk ?_|((first|refine' w_q rfl rfl ?xa rfl ?_|refine' v_q rfl rfl ?xa rfl ?_|refine' w_yes rfl rfl (lookO_spec rfl) rfl ?xa rfl ?_|refine' v_yes rfl rfl (lookO_spec rfl) rfl ?xa rfl ?_);case xa => exact k_indexO tbOk rfl rfl rfl rfl oM oM)|((first|refine' w_e rfl ?xa ?xb ?xc ?xe ?_|refine' v_e rfl ?xa ?xb ?xc ?xe ?_);(case xa => exact e_storeS tbOk rfl rfl rfl rfl rfl rfl rfl rfl oM);(case xb|xc|xe=>rfl);try refine wkD ?_)|(refine wkB ?_ ?_<;>intro hg_<;>try exact wkX)|fail)
    all_goals first
      | (refine hfin _ ?_
         (refine weak_ren [] rfl ?_ ?_ <;> repeat' (first|refine wkS ?_ ?_|exact wkE|exact d_int hw|exact ob_sl rfl (by rw [Nat.zero_add, Int.toNat_natCast]))))
      | (exfalso; omega)
      | fail
  · obtain rfl : k = n := by omega
    rw [hFs, Nat.sub_self, List.replicate_zero, List.append_nil]
    have hgi : k = (bools (List.replicate k true)).length := by rw [bools_len]; simp
    clear hFs
    repeat' (first|refine wk ?_|(refine wkB ?_ ?_<;>intro hg_<;>try exact wkX)|fail)
    all_goals first
      | exact ret_v (rv_cell rfl rfl tyF0 rfl rfl rfl (dres_agg (by exact ⟨cres_val, cres_own0 (lookHO_spec rfl) hli, cres_own0 (lookHO_spec rfl) hgi, cres_nil, trivial⟩)))
      | (exfalso; omega)
      | fail
end Go.Proofs.YtlobefglhppbdaaGreatDoor.Abs
