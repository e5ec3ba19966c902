/- States at the beginning by states: both texts. No statement of the seat is proved here. -/
import Derived.Lib.Hide
import Derived.Test.YtmkijbfiilpccaaLaTy
import Derived.Test.YtmkijbfiilpccaaLaAImPL
set_option linter.unusedSimpArgs false
set_option linter.unusedVariables false
set_option maxRecDepth 100000
set_option maxHeartbeats 4000000
namespace Go.Proofs.Ytmkijbfiilpccaa.Abs
open Go.RowKit
open R (val row ref)
theorem zpB : zpOf Try.prog 4 = some (.one (R.val (.bool false))):=by kernel_rfl
theorem e_makeB {l : List (Nat × D)} {H : Nat → Option Ob} {o : Oper} {t c : Nat} {m1 m2 : Bool} {i j : Int} {T : TypeId} {x y : Operand} (ho : o.op = .makeSlice T x y) (hd : o.dst = some t) (he : elL tl.els T = some (4,1,1)) (hx : evO l x = some (.one (.r m1 (int i)))) (hy : evO l y = some (.one (.r m2 (int j)))) (hi : i = c) (hj : j = c) (hb : 1 * c ≤ 281474976710656) (h63 : c ≤ maxLen) :
  Eff Try.prog H (evD (look l)) o (.one (.own t 0 c 1)) [] [t] [(t,some (.sl 4 1 true (List.replicate c (.one (R.val (.bool false))))))] :=
 eff_make T x y ho (elL_ok tlOk.el he) zpB (Za hx) (Za hy) hi hj hb h63
theorem mark_next {k n : Nat} (h : k < n) : (bools (List.replicate k true ++ List.replicate (n - k) false)).set k (.one (bool true)) = bools (List.replicate (k + 1) true ++ List.replicate (n - (k + 1)) false):=by
 rw [show n - k = (n - (k + 1)) + 1 by omega,List.replicate_succ,List.replicate_succ' (n:=k)]
 unfold bools
 simp [List.set_append]
theorem f_implStart (n : Nat) (hn : n ≤ 16) : Fn Try.prog 23 [iP (n : Int)] (.v (stateP 0 false (List.replicate n 0) false (List.replicate n true) true [])) := by
  refine Z8 (l := [.cell 2 28]) Try.func23 kRf rfl Try.ntmps23 rfl rfl ?_; simp only [argEnv, P0.d, Nat.reduceAdd]
  repeat' (first|refine wk ?_|((first|refine' w_e rfl ?xa ?xb ?xc ?xe ?_|refine' v_e rfl ?xa ?xb ?xc ?xe ?_);(case xa => first|exact Ze 13 rfl (e_make tlOk rfl rfl rfl rfl rfl rfl (c := n) rfl rfl oM (by simp only [maxLen];omega))|exact Ze 15 rfl (e_makeB (c := n) rfl rfl rfl rfl rfl rfl rfl oM (by simp only [maxLen];omega)));(case xb|xc|xe=>rfl);try refine wkD ?_)|(refine wkB ?_ ?_<;>intro hg_<;>try exact wkX)|fail)
  obtain ⟨F, hFs⟩ : ∃ F : Nat → St, ∀ k, F k = mkS 29 [(20, .one (.r true (int (k : Int)))), (19, .one (.r true (int (n : Int)))), (3, .one (.ptr 3 0 0 0)), (2, .one (.ptr 2 0 0 0))] [(3, .var 28 [.r true (int 0), .own 101 0 n 1, .own 102 0 n 1, Zc]), (101, .sl 3 1 true (ints (List.replicate n 0))), (102, .sl 4 1 true (bools (List.replicate k true ++ List.replicate (n - k) false))), (2, .var 28 [.r true (int 0), Zc, Zc, Zc])] := ⟨_, fun _ => rfl⟩
  refine Zaa (fun k : Nat => k ≤ n) F (fun k => n - k) 0 (Nat.zero_le _) (by
    rw [hFs]
    (refine Zi [(101, 13), (102, 15)] rfl ?_ ?_ <;> repeat' (first|refine wkS ?_ ?_|exact wkE|exact Zz rfl (by unfold ints;simp)|exact Zz rfl (by unfold bools;simp)))) ?_
  intro k hk
  have hli : n = (ints (List.replicate n 0)).length := by rw [Zu]; simp
  have hw : IntKind.i64.wrap ((k : Int) + 1) = ((k + 1 : Nat) : Int) := by rw [IntWalk.i64_in _ oM]; omega
  by_cases hlt : k < n
  · have hfin : ∀ s' : St, Weak s' (F (k + 1)) → ∃ x' : Nat, x' ≤ n ∧ Weak s' (F x') ∧ n - x' < n - k := fun s' h => ⟨k + 1, by omega, h, by omega⟩
    have hel : (bools (List.replicate k true ++ List.replicate (n - k) false)).length = n := by rw [Zah]; simp; omega
    rw [hFs, ← mark_next hlt] at hfin
    rw [hFs]
    clear hFs
    generalize bools (List.replicate k true ++ List.replicate (n - k) false) = els at *
    repeat' (first|refine wk ?_|((first|refine' w_q rfl rfl ?xa rfl ?_|refine' v_q rfl rfl ?xa rfl ?_|refine' Zn rfl rfl (Zb rfl) rfl ?xa rfl ?_|refine' Zo rfl rfl (Zb rfl) rfl ?xa rfl ?_);case xa => exact Zap tbOk rfl rfl rfl rfl oM oM)|((first|refine' w_e rfl ?xa ?xb ?xc ?xe ?_|refine' v_e rfl ?xa ?xb ?xc ?xe ?_);(case xa => exact e_storeS tbOk rfl rfl rfl rfl rfl rfl rfl rfl oM);(case xb|xc|xe=>rfl);try refine wkD ?_)|(refine wkB ?_ ?_<;>intro hg_<;>try exact wkX)|fail)
    all_goals first
      | (refine hfin _ ?_
         (refine Zi [] rfl ?_ ?_ <;> repeat' (first|refine wkS ?_ ?_|exact wkE|exact Zt hw|exact Zz rfl (by rw [Nat.zero_add, Int.toNat_natCast]))))
      | (exfalso; omega)
  · obtain rfl : k = n := by omega
    rw [hFs, Nat.sub_self, List.replicate_zero, List.append_nil]
    have hgi : k = (bools (List.replicate k true)).length := by rw [Zah]; simp
    clear hFs
    repeat' (first|refine wk ?_|(refine wkB ?_ ?_<;>intro hg_<;>try exact wkX)|fail)
    all_goals first
      | exact ret_v (Za8 rfl rfl tyF0 rfl rfl rfl (Za7 (by exact ⟨Za5, Z5 (Zj rfl) hli, Z5 (Zj rfl) hgi, Zaw, trivial⟩)))
      | (exfalso; omega)
end Go.Proofs.Ytmkijbfiilpccaa.Abs
