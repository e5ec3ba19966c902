/- Valid states by states: both texts. No statement of the seat is proved here. -/
import Derived.Lib.Hide
import Derived.Test.YtmkecjamfippfaaRxTy
import Derived.Test.YtmkecjamfippfaaRxAGraph
import Derived.Test.YtmkecjamfippfaaRxAbsX
import Derived.Test.YtmkecjamfippfaaRxGStaCk
import Derived.Test.YtmkecjamfippfaaRxACallV
set_option linter.unusedSimpArgs false
set_option linter.unusedVariables false
namespace Go.Proofs.Ytmkecjamfippfaa.Abs
open Go.RowKit
open R (val row ref)
theorem allN_3 {sz : Nat} {a b c : P0} (h1 : a.n = sz) (h2 : b.n = sz) (h3 : c.n = sz) : AllN sz [a, b, c] := fun i x hx => by
  match i with
  | 0 => simp at hx; subst hx; exact h1
  | 1 => simp at hx; subst hx; exact h2
  | 2 => simp at hx; subst hx; exact h3
  | n + 3 => simp at hx
theorem asA_own0M {H : Nat → Option Ob} {k n sz : Nat} {E : TypeId} {els : List P0} {new : Bool} {ev : Operand → D} {x : Operand} (h : ev x = .one (.own k 0 n sz)) (hk : H k = some (.sl E sz new els)) (hn : n = els.length) : AsArg H (ev x) (.one (row false sz els)) := by
  have h2 := asA_own h hk (by omega)
  rwa [List.drop_zero, List.take_of_length_le (by omega)] at h2
set_option maxRecDepth 100000 in
set_option maxHeartbeats 4000000 in
theorem f_isNaN (a : Int) : Fn Try.prog 134 [iP a] (.v (.one (bool false))) := by
  refine fn_of (l := [.tmp 2]) Try.func134 (by kernel_rfl) rfl Try.ntmps134 rfl rfl ?_; simp only [argEnv, P0.d, Nat.reduceAdd]
  repeat' (first|(with_reducible first|refine aw_seq ?_|refine thn_normal ?_|refine thn_ret ?_|refine thn_exit ?_|refine blk_normal ?_|refine blk_ret ?_|refine blk_hit ?_|refine blk_miss rfl ?_|refine aw_block ?_|refine aw_ret ?_|refine aw_skip ?_|refine aw_exit ?_|refine w_nil ?_|refine x_nil (by kernel_rfl) ?_)|refine aw_region ?_|refine aw_region_draw (by kernel_rfl) ?_|refine aw_yes rfl ?_|refine aw_no rfl ?_|((with_reducible refine w_seq ?_);first|refine r_q tbOk rfl rfl rfl rfl ?_|refine r_e tbOk rfl rfl rfl rfl rfl ?_|refine r_yes tbOk rfl rfl rfl rfl rfl rfl ?_|refine w_no rfl rfl (lookO_spec rfl) rfl rfl rfl ?_|refine w_un rfl rfl (lookO_spec rfl) rfl rfl ?_)|((with_reducible refine w_drw ?_);first|refine rx_q tbOk rfl rfl rfl rfl ?_|refine rx_e tbOk rfl rfl rfl rfl rfl ?_|refine rx_yes tbOk rfl rfl rfl rfl rfl rfl ?_|refine x_no rfl rfl (lookO_spec rfl) rfl rfl rfl ?_|refine x_un rfl rfl (lookO_spec rfl) rfl rfl ?_)|((first|refine aw_ways rfl ?_ ?_|refine r_split rfl rfl rfl ?_ ?_) <;> intro hg_ <;> fail_if_success (exact Bool.noConfusion hg_)) <;> (try simp only [prn] at hg_) <;> (try first|contradiction|(exfalso;omega)))
  all_goals exact ret_tmp rfl (dres_bool (by simp))
set_option maxRecDepth 100000 in
set_option maxHeartbeats 4000000 in
theorem f_compareI (a b : Int) : Fn Try.prog 123 [iP a, iP b] (.v (iP (cmpI a b))) := by
  have K := fun a => f_isNaN a
  refine fn_of (l := [.tmp 4]) Try.func123 (by kernel_rfl) rfl Try.ntmps123 rfl rfl ?_; simp only [argEnv, P0.d, Nat.reduceAdd]
  repeat' (first|(with_reducible first|refine aw_seq ?_|refine thn_normal ?_|refine thn_ret ?_|refine thn_exit ?_|refine blk_normal ?_|refine blk_ret ?_|refine blk_hit ?_|refine blk_miss rfl ?_|refine aw_block ?_|refine aw_ret ?_|refine aw_skip ?_|refine aw_exit ?_|refine w_nil ?_|refine x_nil (by kernel_rfl) ?_)|refine aw_region ?_|refine aw_region_draw (by kernel_rfl) ?_|refine aw_yes rfl ?_|refine aw_no rfl ?_|((with_reducible refine w_seq ?_);first|refine r_q tbOk rfl rfl rfl rfl ?_|refine r_e tbOk rfl rfl rfl rfl rfl ?_|refine r_yes tbOk rfl rfl rfl rfl rfl rfl ?_|refine w_no rfl rfl (lookO_spec rfl) rfl rfl rfl ?_|refine w_un rfl rfl (lookO_spec rfl) rfl rfl ?_)|((with_reducible refine w_drw ?_);first|refine rx_q tbOk rfl rfl rfl rfl ?_|refine rx_e tbOk rfl rfl rfl rfl rfl ?_|refine rx_yes tbOk rfl rfl rfl rfl rfl rfl ?_|refine x_no rfl rfl (lookO_spec rfl) rfl rfl rfl ?_|refine x_un rfl rfl (lookO_spec rfl) rfl rfl ?_)|((first|refine' w_q rfl rfl ?xa rfl ?_|refine' v_q rfl rfl ?xa rfl ?_|refine' w_yes rfl rfl (lookO_spec rfl) rfl ?xa rfl ?_|refine' v_yes rfl rfl (lookO_spec rfl) rfl ?xa rfl ?_);case xa => exact k_call (K _) rfl ⟨asA_r (evO_spec rfl), trivial⟩)|((first|refine aw_ways rfl ?_ ?_|refine r_split rfl rfl rfl ?_ ?_) <;> intro hg_ <;> fail_if_success (exact Bool.noConfusion hg_)) <;> (try simp only [prn] at hg_) <;> (try first|contradiction|(exfalso;omega)))
  all_goals first
    | (exfalso; simp_all; done)
    | exact ret_tmp rfl (dres_int (by unfold cmpI; simp_all; done))
    | exact ret_tmp rfl (dres_int (by unfold cmpI; split <;> (try split) <;> simp_all <;> omega))
    | trace_state
set_option maxRecDepth 100000 in
set_option maxHeartbeats 4000000 in
theorem f_orI (nil : Bool) (xs : List Int) (hl : xs.length ≤ 1000) : Fn Try.prog 122 [.one (row nil 1 (ints xs))] (.v (iP (orI xs))) := by
  have hlen := ints_len xs
  refine fn_of (l := [.tmp 2]) Try.func122 (by kernel_rfl) rfl Try.ntmps122 rfl rfl ?_; simp only [argEnv, P0.d, Nat.reduceAdd]
  repeat' (first|(with_reducible first|refine aw_seq ?_|refine thn_normal ?_|refine thn_ret ?_|refine thn_exit ?_|refine blk_normal ?_|refine blk_ret ?_|refine blk_hit ?_|refine blk_miss rfl ?_|refine aw_block ?_|refine aw_ret ?_|refine aw_skip ?_|refine aw_exit ?_|refine w_nil ?_|refine x_nil (by kernel_rfl) ?_)|refine aw_region ?_|refine aw_region_draw (by kernel_rfl) ?_|refine aw_yes rfl ?_|refine aw_no rfl ?_|((with_reducible refine w_seq ?_);first|refine r_q tbOk rfl rfl rfl rfl ?_|refine r_e tbOk rfl rfl rfl rfl rfl ?_|refine r_yes tbOk rfl rfl rfl rfl rfl rfl ?_|refine w_no rfl rfl (lookO_spec rfl) rfl rfl rfl ?_|refine w_un rfl rfl (lookO_spec rfl) rfl rfl ?_)|((with_reducible refine w_drw ?_);first|refine rx_q tbOk rfl rfl rfl rfl ?_|refine rx_e tbOk rfl rfl rfl rfl rfl ?_|refine rx_yes tbOk rfl rfl rfl rfl rfl rfl ?_|refine x_no rfl rfl (lookO_spec rfl) rfl rfl rfl ?_|refine x_un rfl rfl (lookO_spec rfl) rfl rfl ?_)|((first|refine aw_ways rfl ?_ ?_|refine r_split rfl rfl rfl ?_ ?_) <;> intro hg_ <;> fail_if_success (exact Bool.noConfusion hg_)) <;> (try simp only [prn] at hg_) <;> (try first|contradiction|(exfalso;omega)))
  refine aw_loopI (fun k : Nat => k ≤ xs.length ∧ orI xs = orI (xs.drop k)) (fun k => mkS 18 [(8, .one (.r true (int (k : Int)))), (7, .one (.r true (int (xs.length : Int)))), (6, .one (.r false (row nil 1 (ints xs)))), (3, .one (.r true (int 0)))] []) (fun k => xs.length - k) 0 ⟨Nat.zero_le _, rfl⟩ (by (refine weak_ren [] rfl ?_ ?_ <;> repeat' (first|exact trivial|refine subR_cons rfl ?_ ?_|refine subHR_cons rfl ?_ ?_|rfl|(refine d_int ?_;(first|rfl|omega|(rw [IntWalk.i64_in _ (by omega)] <;> omega)|(simp;done)|(simp;omega)))|(refine d_bool ?_;(first|(simp_all;done)|(rw [Bool.eq_iff_iff];simp_all;done)|(rw [Bool.eq_iff_iff];simp_all;omega)|(rw [Bool.eq_iff_iff];simp;omega)))|exact d_int (by rw [hlen])))) ?_
  rintro k ⟨hk, HP⟩
  repeat' (first|(with_reducible first|refine aw_seq ?_|refine thn_normal ?_|refine thn_ret ?_|refine thn_exit ?_|refine blk_normal ?_|refine blk_ret ?_|refine blk_hit ?_|refine blk_miss rfl ?_|refine aw_block ?_|refine aw_ret ?_|refine aw_skip ?_|refine aw_exit ?_|refine w_nil ?_|refine x_nil (by kernel_rfl) ?_)|refine aw_region ?_|refine aw_region_draw (by kernel_rfl) ?_|refine aw_yes rfl ?_|refine aw_no rfl ?_|((with_reducible refine w_seq ?_);first|refine r_q tbOk rfl rfl rfl rfl ?_|refine r_e tbOk rfl rfl rfl rfl rfl ?_|refine r_yes tbOk rfl rfl rfl rfl rfl rfl ?_|refine w_no rfl rfl (lookO_spec rfl) rfl rfl rfl ?_|refine w_un rfl rfl (lookO_spec rfl) rfl rfl ?_)|((with_reducible refine w_drw ?_);first|refine rx_q tbOk rfl rfl rfl rfl ?_|refine rx_e tbOk rfl rfl rfl rfl rfl ?_|refine rx_yes tbOk rfl rfl rfl rfl rfl rfl ?_|refine x_no rfl rfl (lookO_spec rfl) rfl rfl rfl ?_|refine x_un rfl rfl (lookO_spec rfl) rfl rfl ?_)|((first|refine' w_q rfl rfl ?xa rfl ?_|refine' v_q rfl rfl ?xa rfl ?_|refine' w_yes rfl rfl (lookO_spec rfl) rfl ?xa rfl ?_|refine' v_yes rfl rfl (lookO_spec rfl) rfl ?xa rfl ?_);case xa => exact k_index tbOk rfl rfl rfl rfl (by omega) (ints_at (by omega)))|((first|refine aw_ways rfl ?_ ?_|refine r_split rfl rfl rfl ?_ ?_) <;> intro hg_ <;> fail_if_success (exact Bool.noConfusion hg_)) <;> (try simp only [prn] at hg_) <;> (try first|contradiction|(exfalso;omega)))
  · exact ret_tmp rfl (dres_int (by rw [HP, List.drop_eq_getElem_cons (by omega), orI]; simp_all))
  · exact ⟨k + 1, ⟨by omega, by rw [HP, List.drop_eq_getElem_cons (by omega), orI];simp_all⟩, by (refine weak_ren [] rfl ?_ ?_ <;> repeat' (first|exact trivial|refine subR_cons rfl ?_ ?_|refine subHR_cons rfl ?_ ?_|rfl|(refine d_int ?_;(first|rfl|omega|(rw [IntWalk.i64_in _ (by omega)] <;> omega)|(simp;done)|(simp;omega)))|(refine d_bool ?_;(first|(simp_all;done)|(rw [Bool.eq_iff_iff];simp_all;done)|(rw [Bool.eq_iff_iff];simp_all;omega)|(rw [Bool.eq_iff_iff];simp;omega))))), by omega⟩
  · exact ret_tmp rfl (dres_int (by rw [HP, List.drop_eq_nil_of_le (by omega), orI]))
set_option maxRecDepth 100000 in
set_option maxHeartbeats 4000000 in
theorem f_compareMessages (a b : E3) : Fn Try.prog 115 [edgeP a, edgeP b] (.v (iP (cmpM a b))) := by
  obtain ⟨a1, a2, a3⟩ := a
  obtain ⟨b1, b2, b3⟩ := b
  have K1 := f_compareI a1 b1
  have K2 := f_compareI a2 b2
  have K3 := f_compareI a3 b3
  have KO : Fn Try.prog 122 [P0.one (row false 1 [P0.one (int (cmpI a1 b1)), P0.one (int (cmpI a2 b2)), P0.one (int (cmpI a3 b3))])] (.v (iP (orI [cmpI a1 b1, cmpI a2 b2, cmpI a3 b3]))) := f_orI false [cmpI a1 b1, cmpI a2 b2, cmpI a3 b3] (by simp)
  have e : cmpM (a1, a2, a3) (b1, b2, b3) = orI [cmpI a1 b1, cmpI a2 b2, cmpI a3 b3] := rfl
  rw [e]
  clear e
  generalize orI [cmpI a1 b1, cmpI a2 b2, cmpI a3 b3] = q at *
  generalize cmpI a1 b1 = x1 at *
  generalize cmpI a2 b2 = x2 at *
  generalize cmpI a3 b3 = x3 at *
  refine fn_of (l := [.tmp 4]) Try.func115 (by kernel_rfl) rfl Try.ntmps115 rfl rfl ?_; simp only [argEnv, P0.d, Nat.reduceAdd, edgeP, List.map_cons, List.map_nil]
  repeat' (first|(with_reducible first|refine aw_seq ?_|refine thn_normal ?_|refine thn_ret ?_|refine thn_exit ?_|refine blk_normal ?_|refine blk_ret ?_|refine blk_hit ?_|refine blk_miss rfl ?_|refine aw_block ?_|refine aw_ret ?_|refine aw_skip ?_|refine aw_exit ?_|refine w_nil ?_|refine x_nil (by kernel_rfl) ?_)|refine aw_region ?_|refine aw_region_draw (by kernel_rfl) ?_|refine aw_yes rfl ?_|refine aw_no rfl ?_|((with_reducible refine w_seq ?_);first|refine r_q tbOk rfl rfl rfl rfl ?_|refine r_e tbOk rfl rfl rfl rfl rfl ?_|refine r_yes tbOk rfl rfl rfl rfl rfl rfl ?_|refine w_no rfl rfl (lookO_spec rfl) rfl rfl rfl ?_|refine w_un rfl rfl (lookO_spec rfl) rfl rfl ?_)|((with_reducible refine w_drw ?_);first|refine rx_q tbOk rfl rfl rfl rfl ?_|refine rx_e tbOk rfl rfl rfl rfl rfl ?_|refine rx_yes tbOk rfl rfl rfl rfl rfl rfl ?_|refine x_no rfl rfl (lookO_spec rfl) rfl rfl rfl ?_|refine x_un rfl rfl (lookO_spec rfl) rfl rfl ?_)|((first|refine' w_q rfl rfl ?xa rfl ?_|refine' v_q rfl rfl ?xa rfl ?_|refine' w_yes rfl rfl (lookO_spec rfl) rfl ?xa rfl ?_|refine' v_yes rfl rfl (lookO_spec rfl) rfl ?xa rfl ?_);case xa => first|exact k_call K1 rfl ⟨asA_r (evO_spec rfl), asA_r (evO_spec rfl), trivial⟩|exact k_call K2 rfl ⟨asA_r (evO_spec rfl), asA_r (evO_spec rfl), trivial⟩|exact k_call K3 rfl ⟨asA_r (evO_spec rfl), asA_r (evO_spec rfl), trivial⟩|exact k_call KO rfl ⟨asA_own0M (evO_spec rfl) (lookHO_spec rfl) rfl, trivial⟩)|((first|refine' w_e rfl ?xa ?xb ?xc ?xe ?_|refine' v_e rfl ?xa ?xb ?xc ?xe ?_);(case xa => exact e_build [.tmp 9, .tmp 14, .tmp 19] tlOk rfl rfl rfl rfl rfl rfl (allN_3 rfl rfl rfl) (by simp));(case xb => rfl);(case xc => rfl);(case xe => rfl);try dsimp only [P0.d, Res.d, List.map_cons, List.map_nil, List.set_cons_zero, List.set_cons_succ, Nat.reduceAdd])|((first|refine aw_ways rfl ?_ ?_|refine r_split rfl rfl rfl ?_ ?_) <;> intro hg_ <;> fail_if_success (exact Bool.noConfusion hg_)) <;> (try simp only [prn] at hg_) <;> (try first|contradiction|(exfalso;omega)))
  all_goals first
    | exact ret_tmp rfl (dres_int rfl)
    | trace_state
set_option maxRecDepth 100000 in
set_option maxHeartbeats 4000000 in
theorem f_l9Before (a b : E3) : Fn Try.prog 77 [edgeP a, edgeP b] (.v (.one (bool (bef a b)))) := by
  refine fn_of (l := [.tmp 4]) Try.func77 (by kernel_rfl) rfl Try.ntmps77 rfl rfl ?_; simp only [argEnv, P0.d, Nat.reduceAdd, edgeP, List.map_cons, List.map_nil]
  repeat' (first|(with_reducible first|refine aw_seq ?_|refine thn_normal ?_|refine thn_ret ?_|refine thn_exit ?_|refine blk_normal ?_|refine blk_ret ?_|refine blk_hit ?_|refine blk_miss rfl ?_|refine aw_block ?_|refine aw_ret ?_|refine aw_skip ?_|refine aw_exit ?_|refine w_nil ?_|refine x_nil (by kernel_rfl) ?_)|refine aw_region ?_|refine aw_region_draw (by kernel_rfl) ?_|refine aw_yes rfl ?_|refine aw_no rfl ?_|((with_reducible refine w_seq ?_);first|refine r_q tbOk rfl rfl rfl rfl ?_|refine r_e tbOk rfl rfl rfl rfl rfl ?_|refine r_yes tbOk rfl rfl rfl rfl rfl rfl ?_|refine w_no rfl rfl (lookO_spec rfl) rfl rfl rfl ?_|refine w_un rfl rfl (lookO_spec rfl) rfl rfl ?_)|((with_reducible refine w_drw ?_);first|refine rx_q tbOk rfl rfl rfl rfl ?_|refine rx_e tbOk rfl rfl rfl rfl rfl ?_|refine rx_yes tbOk rfl rfl rfl rfl rfl rfl ?_|refine x_no rfl rfl (lookO_spec rfl) rfl rfl rfl ?_|refine x_un rfl rfl (lookO_spec rfl) rfl rfl ?_)|((first|refine aw_ways rfl ?_ ?_|refine r_split rfl rfl rfl ?_ ?_) <;> intro hg_ <;> fail_if_success (exact Bool.noConfusion hg_)) <;> (try simp only [prn] at hg_) <;> (try first|contradiction|(exfalso;omega)))
  all_goals exact ret_tmp rfl (dres_bool (by unfold bef;(first|(simp_all;done)|(rw [Bool.eq_iff_iff];simp_all;done)|(rw [Bool.eq_iff_iff];simp_all;omega)|(rw [Bool.eq_iff_iff];simp;omega))))
set_option maxRecDepth 100000 in
set_option maxHeartbeats 4000000 in
theorem f_l11Message (m : E3) (many : Int) : Fn Try.prog 76 [edgeP m, iP many] (.v (.one (bool (msgIn (IntKind.i64.wrap (many - 1)) m)))) := by
  refine fn_of (l := [.tmp 4]) Try.func76 (by kernel_rfl) rfl Try.ntmps76 rfl rfl ?_; simp only [argEnv, P0.d, Nat.reduceAdd, edgeP, List.map_cons, List.map_nil]
  repeat' (first|(with_reducible first|refine aw_seq ?_|refine thn_normal ?_|refine thn_ret ?_|refine thn_exit ?_|refine blk_normal ?_|refine blk_ret ?_|refine blk_hit ?_|refine blk_miss rfl ?_|refine aw_block ?_|refine aw_ret ?_|refine aw_skip ?_|refine aw_exit ?_|refine w_nil ?_|refine x_nil (by kernel_rfl) ?_)|refine aw_region ?_|refine aw_region_draw (by kernel_rfl) ?_|refine aw_yes rfl ?_|refine aw_no rfl ?_|((with_reducible refine w_seq ?_);first|refine r_q tbOk rfl rfl rfl rfl ?_|refine r_e tbOk rfl rfl rfl rfl rfl ?_|refine r_yes tbOk rfl rfl rfl rfl rfl rfl ?_|refine w_no rfl rfl (lookO_spec rfl) rfl rfl rfl ?_|refine w_un rfl rfl (lookO_spec rfl) rfl rfl ?_)|((with_reducible refine w_drw ?_);first|refine rx_q tbOk rfl rfl rfl rfl ?_|refine rx_e tbOk rfl rfl rfl rfl rfl ?_|refine rx_yes tbOk rfl rfl rfl rfl rfl rfl ?_|refine x_no rfl rfl (lookO_spec rfl) rfl rfl rfl ?_|refine x_un rfl rfl (lookO_spec rfl) rfl rfl ?_)|((first|refine' w_q rfl rfl ?xa rfl ?_|refine' v_q rfl rfl ?xa rfl ?_|refine' w_yes rfl rfl (lookO_spec rfl) rfl ?xa rfl ?_|refine' v_yes rfl rfl (lookO_spec rfl) rfl ?xa rfl ?_);case xa => exact k_call (f_l1In _ _ _) rfl ⟨asA_r (evO_spec rfl), asA_r (evO_spec rfl), asA_r (evO_spec rfl), trivial⟩)|((first|refine aw_ways rfl ?_ ?_|refine r_split rfl rfl rfl ?_ ?_) <;> intro hg_ <;> fail_if_success (exact Bool.noConfusion hg_)) <;> (try simp only [prn] at hg_) <;> (try first|contradiction|(exfalso;omega)))
  all_goals exact ret_tmp rfl (dres_bool (by unfold msgIn; simp_all))
set_option maxRecDepth 100000 in
set_option maxHeartbeats 4000000 in
theorem f_valueFits (v : Int) : Fn Try.prog 113 [iP v] (.v (.one (bool (valIn v)))) := by
  refine fn_of (l := [.tmp 2]) Try.func113 (by kernel_rfl) rfl Try.ntmps113 rfl rfl ?_; simp only [argEnv, P0.d, Nat.reduceAdd]
  repeat' (first|(with_reducible first|refine aw_seq ?_|refine thn_normal ?_|refine thn_ret ?_|refine thn_exit ?_|refine blk_normal ?_|refine blk_ret ?_|refine blk_hit ?_|refine blk_miss rfl ?_|refine aw_block ?_|refine aw_ret ?_|refine aw_skip ?_|refine aw_exit ?_|refine w_nil ?_|refine x_nil (by kernel_rfl) ?_)|refine aw_region ?_|refine aw_region_draw (by kernel_rfl) ?_|refine aw_yes rfl ?_|refine aw_no rfl ?_|((with_reducible refine w_seq ?_);first|refine r_q tbOk rfl rfl rfl rfl ?_|refine r_e tbOk rfl rfl rfl rfl rfl ?_|refine r_yes tbOk rfl rfl rfl rfl rfl rfl ?_|refine w_no rfl rfl (lookO_spec rfl) rfl rfl rfl ?_|refine w_un rfl rfl (lookO_spec rfl) rfl rfl ?_)|((with_reducible refine w_drw ?_);first|refine rx_q tbOk rfl rfl rfl rfl ?_|refine rx_e tbOk rfl rfl rfl rfl rfl ?_|refine rx_yes tbOk rfl rfl rfl rfl rfl rfl ?_|refine x_no rfl rfl (lookO_spec rfl) rfl rfl rfl ?_|refine x_un rfl rfl (lookO_spec rfl) rfl rfl ?_)|((first|refine aw_ways rfl ?_ ?_|refine r_split rfl rfl rfl ?_ ?_) <;> intro hg_ <;> fail_if_success (exact Bool.noConfusion hg_)) <;> (try simp only [prn] at hg_) <;> (try first|contradiction|(exfalso;omega)))
  all_goals exact ret_tmp rfl (dres_bool (by unfold valIn inR; rw [Bool.eq_iff_iff]; simp_all; try omega))
set_option maxRecDepth 100000 in
set_option maxHeartbeats 4000000 in
theorem f_roundFits (v : Int) : Fn Try.prog 82 [iP v] (.v (.one (bool (inR 0 100 v)))) := by
  refine fn_of (l := [.tmp 2]) Try.func82 (by kernel_rfl) rfl Try.ntmps82 rfl rfl ?_; simp only [argEnv, P0.d, Nat.reduceAdd]
  repeat' (first|(with_reducible first|refine aw_seq ?_|refine thn_normal ?_|refine thn_ret ?_|refine thn_exit ?_|refine blk_normal ?_|refine blk_ret ?_|refine blk_hit ?_|refine blk_miss rfl ?_|refine aw_block ?_|refine aw_ret ?_|refine aw_skip ?_|refine aw_exit ?_|refine w_nil ?_|refine x_nil (by kernel_rfl) ?_)|refine aw_region ?_|refine aw_region_draw (by kernel_rfl) ?_|refine aw_yes rfl ?_|refine aw_no rfl ?_|((with_reducible refine w_seq ?_);first|refine r_q tbOk rfl rfl rfl rfl ?_|refine r_e tbOk rfl rfl rfl rfl rfl ?_|refine r_yes tbOk rfl rfl rfl rfl rfl rfl ?_|refine w_no rfl rfl (lookO_spec rfl) rfl rfl rfl ?_|refine w_un rfl rfl (lookO_spec rfl) rfl rfl ?_)|((with_reducible refine w_drw ?_);first|refine rx_q tbOk rfl rfl rfl rfl ?_|refine rx_e tbOk rfl rfl rfl rfl rfl ?_|refine rx_yes tbOk rfl rfl rfl rfl rfl rfl ?_|refine x_no rfl rfl (lookO_spec rfl) rfl rfl rfl ?_|refine x_un rfl rfl (lookO_spec rfl) rfl rfl ?_)|((first|refine aw_ways rfl ?_ ?_|refine r_split rfl rfl rfl ?_ ?_) <;> intro hg_ <;> fail_if_success (exact Bool.noConfusion hg_)) <;> (try simp only [prn] at hg_) <;> (try first|contradiction|(exfalso;omega)))
  all_goals exact ret_tmp rfl (dres_bool (by unfold inR; rw [Bool.eq_iff_iff]; simp_all; try omega))
def msgFit (many : Int) (m : E3) : Bool := decide (0 ≤ m.1 ∧ m.1 < many ∧ 0 ≤ m.2.2 ∧ m.2.2 < many ∧ 0 ≤ m.2.1 ∧ m.2.1 < 1000000)
theorem msgFit_in (many : Int) (m : E3) : msgFit many m = msgIn (many - 1) m := by
  unfold msgFit msgIn inR
  rw [Bool.eq_iff_iff]; simp only [Bool.and_eq_true, decide_eq_true_eq]; omega
set_option maxRecDepth 100000 in
set_option maxHeartbeats 4000000 in
theorem f_messageFits (m : E3) (many : Int) : Fn Try.prog 116 [edgeP m, iP many] (.v (.one (bool (msgFit many m)))) := by
  refine fn_of (l := [.tmp 4]) Try.func116 (by kernel_rfl) rfl Try.ntmps116 rfl rfl ?_; simp only [argEnv, P0.d, Nat.reduceAdd, edgeP, List.map_cons, List.map_nil]
  repeat' (first|(with_reducible first|refine aw_seq ?_|refine thn_normal ?_|refine thn_ret ?_|refine thn_exit ?_|refine blk_normal ?_|refine blk_ret ?_|refine blk_hit ?_|refine blk_miss rfl ?_|refine aw_block ?_|refine aw_ret ?_|refine aw_skip ?_|refine aw_exit ?_|refine w_nil ?_|refine x_nil (by kernel_rfl) ?_)|refine aw_region ?_|refine aw_region_draw (by kernel_rfl) ?_|refine aw_yes rfl ?_|refine aw_no rfl ?_|((with_reducible refine w_seq ?_);first|refine r_q tbOk rfl rfl rfl rfl ?_|refine r_e tbOk rfl rfl rfl rfl rfl ?_|refine r_yes tbOk rfl rfl rfl rfl rfl rfl ?_|refine w_no rfl rfl (lookO_spec rfl) rfl rfl rfl ?_|refine w_un rfl rfl (lookO_spec rfl) rfl rfl ?_)|((with_reducible refine w_drw ?_);first|refine rx_q tbOk rfl rfl rfl rfl ?_|refine rx_e tbOk rfl rfl rfl rfl rfl ?_|refine rx_yes tbOk rfl rfl rfl rfl rfl rfl ?_|refine x_no rfl rfl (lookO_spec rfl) rfl rfl rfl ?_|refine x_un rfl rfl (lookO_spec rfl) rfl rfl ?_)|((first|refine aw_ways rfl ?_ ?_|refine r_split rfl rfl rfl ?_ ?_) <;> intro hg_ <;> fail_if_success (exact Bool.noConfusion hg_)) <;> (try simp only [prn] at hg_) <;> (try first|contradiction|(exfalso;omega)))
  all_goals exact ret_tmp rfl (dres_bool (by unfold msgFit; rw [Bool.eq_iff_iff]; simp_all <;> omega))
set_option maxRecDepth 100000 in
set_option maxHeartbeats 4000000 in
theorem f_valuesFit (nil : Bool) (xs : List Int) (hl : xs.length ≤ maxLen) : Fn Try.prog 83 [.one (row nil 1 (ints xs))] (.v (.one (bool (xs.all valIn)))) := by
  have hlen := ints_len xs
  have hml : xs.length ≤ 9223372036854775807 := hl
  have K := fun v => f_valueFits v
  refine fn_of (l := [.tmp 2]) Try.func83 (by kernel_rfl) rfl Try.ntmps83 rfl rfl ?_; simp only [argEnv, P0.d, Nat.reduceAdd]
  repeat' (first|(with_reducible first|refine aw_seq ?_|refine thn_normal ?_|refine thn_ret ?_|refine thn_exit ?_|refine blk_normal ?_|refine blk_ret ?_|refine blk_hit ?_|refine blk_miss rfl ?_|refine aw_block ?_|refine aw_ret ?_|refine aw_skip ?_|refine aw_exit ?_|refine w_nil ?_|refine x_nil (by kernel_rfl) ?_)|refine aw_region ?_|refine aw_region_draw (by kernel_rfl) ?_|refine aw_yes rfl ?_|refine aw_no rfl ?_|((with_reducible refine w_seq ?_);first|refine r_q tbOk rfl rfl rfl rfl ?_|refine r_e tbOk rfl rfl rfl rfl rfl ?_|refine r_yes tbOk rfl rfl rfl rfl rfl rfl ?_|refine w_no rfl rfl (lookO_spec rfl) rfl rfl rfl ?_|refine w_un rfl rfl (lookO_spec rfl) rfl rfl ?_)|((with_reducible refine w_drw ?_);first|refine rx_q tbOk rfl rfl rfl rfl ?_|refine rx_e tbOk rfl rfl rfl rfl rfl ?_|refine rx_yes tbOk rfl rfl rfl rfl rfl rfl ?_|refine x_no rfl rfl (lookO_spec rfl) rfl rfl rfl ?_|refine x_un rfl rfl (lookO_spec rfl) rfl rfl ?_)|((first|refine aw_ways rfl ?_ ?_|refine r_split rfl rfl rfl ?_ ?_) <;> intro hg_ <;> fail_if_success (exact Bool.noConfusion hg_)) <;> (try simp only [prn] at hg_) <;> (try first|contradiction|(exfalso;omega)))
  refine aw_loopI (fun k : Nat => k ≤ xs.length ∧ xs.all valIn = (xs.drop k).all valIn) (fun k => mkS 15 [(7, .one (.r true (int (k : Int)))), (6, .one (.r true (int (xs.length : Int)))), (5, .one (.r false (row nil 1 (ints xs))))] []) (fun k => xs.length - k) 0 ⟨Nat.zero_le _, rfl⟩ (by (refine weak_ren [] rfl ?_ ?_ <;> repeat' (first|exact trivial|refine subR_cons rfl ?_ ?_|refine subHR_cons rfl ?_ ?_|rfl|(refine d_int ?_;(first|rfl|omega|(rw [IntWalk.i64_in _ (by omega)] <;> omega)|(simp;done)|(simp;omega)))|(refine d_bool ?_;(first|(simp_all;done)|(rw [Bool.eq_iff_iff];simp_all;done)|(rw [Bool.eq_iff_iff];simp_all;omega)|(rw [Bool.eq_iff_iff];simp;omega)))|exact d_int (by rw [hlen])))) ?_
  rintro k ⟨hk, HP⟩
  repeat' (first|(with_reducible first|refine aw_seq ?_|refine thn_normal ?_|refine thn_ret ?_|refine thn_exit ?_|refine blk_normal ?_|refine blk_ret ?_|refine blk_hit ?_|refine blk_miss rfl ?_|refine aw_block ?_|refine aw_ret ?_|refine aw_skip ?_|refine aw_exit ?_|refine w_nil ?_|refine x_nil (by kernel_rfl) ?_)|refine aw_region ?_|refine aw_region_draw (by kernel_rfl) ?_|refine aw_yes rfl ?_|refine aw_no rfl ?_|((with_reducible refine w_seq ?_);first|refine r_q tbOk rfl rfl rfl rfl ?_|refine r_e tbOk rfl rfl rfl rfl rfl ?_|refine r_yes tbOk rfl rfl rfl rfl rfl rfl ?_|refine w_no rfl rfl (lookO_spec rfl) rfl rfl rfl ?_|refine w_un rfl rfl (lookO_spec rfl) rfl rfl ?_)|((with_reducible refine w_drw ?_);first|refine rx_q tbOk rfl rfl rfl rfl ?_|refine rx_e tbOk rfl rfl rfl rfl rfl ?_|refine rx_yes tbOk rfl rfl rfl rfl rfl rfl ?_|refine x_no rfl rfl (lookO_spec rfl) rfl rfl rfl ?_|refine x_un rfl rfl (lookO_spec rfl) rfl rfl ?_)|((first|refine' w_q rfl rfl ?xa rfl ?_|refine' v_q rfl rfl ?xa rfl ?_|refine' w_yes rfl rfl (lookO_spec rfl) rfl ?xa rfl ?_|refine' v_yes rfl rfl (lookO_spec rfl) rfl ?xa rfl ?_);case xa => first|exact k_index tbOk rfl rfl rfl rfl (by omega) (ints_at (by omega))|exact k_call (K _) rfl ⟨asA_r (evO_spec rfl), trivial⟩)|((first|refine aw_ways rfl ?_ ?_|refine r_split rfl rfl rfl ?_ ?_) <;> intro hg_ <;> fail_if_success (exact Bool.noConfusion hg_)) <;> (try simp only [prn] at hg_) <;> (try first|contradiction|(exfalso;omega)))
  all_goals first
    | exact ret_tmp rfl (dres_bool (by rw [HP, all_step (by omega)]; simp_all; done))
    | exact ⟨k + 1, ⟨by omega, by rw [HP, all_step (by omega)];simp_all⟩, by (refine weak_ren [] rfl ?_ ?_ <;> repeat' (first|exact trivial|refine subR_cons rfl ?_ ?_|refine subHR_cons rfl ?_ ?_|rfl|(refine d_int ?_;(first|rfl|omega|(rw [IntWalk.i64_in _ (by omega)] <;> omega)|(simp;done)|(simp;omega)))|(refine d_bool ?_;(first|(simp_all;done)|(rw [Bool.eq_iff_iff];simp_all;done)|(rw [Bool.eq_iff_iff];simp_all;omega)|(rw [Bool.eq_iff_iff];simp;omega))))), by omega⟩
    | exact ret_tmp rfl (dres_bool (by rw [HP, List.drop_eq_nil_of_le (by omega)]; rfl))
    | trace_state
set_option maxRecDepth 100000 in
set_option maxHeartbeats 4000000 in
theorem f_isSorted (nil : Bool) (ms : List E3) (hl : ms.length ≤ maxLen) : Fn Try.prog 114 [.one (row nil 3 (edges ms)), .one (R.val (Value.func (.func 115) #[] #[]))] (.v (.one (bool (srt ms)))) := by
  have hlen := edges_len ms
  have hml : ms.length ≤ 9223372036854775807 := hl
  have KC := fun a b => f_compareMessages a b
  refine fn_of (l := [.tmp 4]) Try.func114 (by kernel_rfl) rfl Try.ntmps114 rfl rfl ?_; simp only [argEnv, P0.d, Nat.reduceAdd]
  repeat' (first|(with_reducible first|refine aw_seq ?_|refine thn_normal ?_|refine thn_ret ?_|refine thn_exit ?_|refine blk_normal ?_|refine blk_ret ?_|refine blk_hit ?_|refine blk_miss rfl ?_|refine aw_block ?_|refine aw_ret ?_|refine aw_skip ?_|refine aw_exit ?_|refine w_nil ?_|refine x_nil (by kernel_rfl) ?_)|refine aw_region ?_|refine aw_region_draw (by kernel_rfl) ?_|refine aw_yes rfl ?_|refine aw_no rfl ?_|((with_reducible refine w_seq ?_);first|refine r_q tbOk rfl rfl rfl rfl ?_|refine r_e tbOk rfl rfl rfl rfl rfl ?_|refine r_yes tbOk rfl rfl rfl rfl rfl rfl ?_|refine w_no rfl rfl (lookO_spec rfl) rfl rfl rfl ?_|refine w_un rfl rfl (lookO_spec rfl) rfl rfl ?_)|((with_reducible refine w_drw ?_);first|refine rx_q tbOk rfl rfl rfl rfl ?_|refine rx_e tbOk rfl rfl rfl rfl rfl ?_|refine rx_yes tbOk rfl rfl rfl rfl rfl rfl ?_|refine x_no rfl rfl (lookO_spec rfl) rfl rfl rfl ?_|refine x_un rfl rfl (lookO_spec rfl) rfl rfl ?_)|((first|refine aw_ways rfl ?_ ?_|refine r_split rfl rfl rfl ?_ ?_) <;> intro hg_ <;> fail_if_success (exact Bool.noConfusion hg_)) <;> (try simp only [prn] at hg_) <;> (try first|contradiction|(exfalso;omega)))
  obtain ⟨F, hF⟩ : ∃ F : Nat → St, ∀ k, F k = mkS 25 [(5, .one (.r true (int (((ms.length - k : Nat) : Int) - 1)))), (1, .one (.r false (R.val (Value.func (.func 115) #[] #[])))), (0, .one (.r false (row nil 3 (edges ms))))] [] := ⟨_, fun _ => rfl⟩
  refine aw_loopI (fun k : Nat => (k ≤ ms.length) ∧ ∀ j (h : j + 1 < ms.length), ms.length - k ≤ j + 1 → bef ms[j + 1] ms[j] = false) F (fun k => ms.length - k) 0 ⟨Nat.zero_le _, fun j h h2 => by omega⟩ (by rw [hF];(refine weak_ren [] rfl ?_ ?_ <;> repeat' (first|exact trivial|refine subR_cons rfl ?_ ?_|refine subHR_cons rfl ?_ ?_|rfl|(refine d_int ?_;(first|rfl|omega|(rw [IntWalk.i64_in _ (by omega)] <;> omega)|(simp;done)|(simp;omega)))|(refine d_bool ?_;(first|(simp_all;done)|(rw [Bool.eq_iff_iff];simp_all;done)|(rw [Bool.eq_iff_iff];simp_all;omega)|(rw [Bool.eq_iff_iff];simp;omega)))|exact d_int (by rw [hlen, IntWalk.i64_in _ (by omega)];omega)))) ?_
  rintro k ⟨hk, HP⟩
  rw [hF]
  by_cases hlt : k + 1 < ms.length
  · obtain ⟨i, hi⟩ : ∃ i : Nat, i + 1 + k + 1 = ms.length := ⟨ms.length - k - 2, by omega⟩
    have e1 : ((ms.length - k : Nat) : Int) - 1 = ((i + 1 : Nat) : Int) := by omega
    have e2 : IntKind.i64.wrap (((i + 1 : Nat) : Int) - 1) = (i : Int) := by rw [IntWalk.i64_in _ (by omega)]; omega
    rw [e1]
    have KCh := KC ms[i + 1] ms[i]
    have hneg := cmpM_neg ms[i + 1] ms[i]
    have hat1 := edges_at (es := ms) (k := i + 1) (by omega)
    have hat0 := edges_at (es := ms) (k := i) (by omega)
    have hfin : ∀ s' : St, Weak s' (F (k + 1)) → bef ms[i + 1] ms[i] = false → ∃ x' : Nat, (x' ≤ ms.length ∧ ∀ j (h : j + 1 < ms.length), ms.length - x' ≤ j + 1 → bef ms[j + 1] ms[j] = false) ∧ Weak s' (F x') ∧ ms.length - x' < ms.length - k := fun s' hs hb => ⟨k + 1, ⟨by omega, fun j h h2 => by
      by_cases hj : j = i
      · subst hj; exact hb
      · exact HP j h (by omega)⟩, hs, by omega⟩
    have hno : bef ms[i + 1] ms[i] = true → srt ms = false := fun hb => by
      rw [Bool.eq_false_iff]
      intro hs
      have := (srt_iff ms).1 hs i (by omega)
      rw [hb] at this; cases this
    rw [← e2] at hat0
    have h0 : (0 : Int) ≤ IntKind.i64.wrap (((i + 1 : Nat) : Int) - 1) := by rw [e2]; omega
    have e3 : IntKind.i64.wrap (((i + 1 : Nat) : Int) - 1) = ((ms.length - (k + 1) : Nat) : Int) - 1 := by rw [e2]; omega
    rw [hF] at hfin
    clear hF HP KC
    generalize bef ms[i + 1] ms[i] = bb at *
    generalize ms[i + 1] = p at *
    generalize ms[i] = q at *
    obtain ⟨p1, p2, p3⟩ := p
    obtain ⟨q1, q2, q3⟩ := q
    generalize cmpM (p1, p2, p3) (q1, q2, q3) = c at *
    repeat' (first|(with_reducible first|refine aw_seq ?_|refine thn_normal ?_|refine thn_ret ?_|refine thn_exit ?_|refine blk_normal ?_|refine blk_ret ?_|refine blk_hit ?_|refine blk_miss rfl ?_|refine aw_block ?_|refine aw_ret ?_|refine aw_skip ?_|refine aw_exit ?_|refine w_nil ?_|refine x_nil (by kernel_rfl) ?_)|refine aw_region ?_|refine aw_region_draw (by kernel_rfl) ?_|refine aw_yes rfl ?_|refine aw_no rfl ?_|((with_reducible refine w_seq ?_);first|refine r_q tbOk rfl rfl rfl rfl ?_|refine r_e tbOk rfl rfl rfl rfl rfl ?_|refine r_yes tbOk rfl rfl rfl rfl rfl rfl ?_|refine w_no rfl rfl (lookO_spec rfl) rfl rfl rfl ?_|refine w_un rfl rfl (lookO_spec rfl) rfl rfl ?_)|((with_reducible refine w_drw ?_);first|refine rx_q tbOk rfl rfl rfl rfl ?_|refine rx_e tbOk rfl rfl rfl rfl rfl ?_|refine rx_yes tbOk rfl rfl rfl rfl rfl rfl ?_|refine x_no rfl rfl (lookO_spec rfl) rfl rfl rfl ?_|refine x_un rfl rfl (lookO_spec rfl) rfl rfl ?_)|((first|refine' w_q rfl rfl ?xa rfl ?_|refine' v_q rfl rfl ?xa rfl ?_|refine' w_yes rfl rfl (lookO_spec rfl) rfl ?xa rfl ?_|refine' v_yes rfl rfl (lookO_spec rfl) rfl ?xa rfl ?_);case xa => first|exact k_index tbOk rfl rfl rfl rfl (by first|exact h0|omega) (by first|exact hat0|exact hat1)|exact k_callV KCh rfl rfl ⟨asA_agg (evO_spec rfl) ⟨cAr_r, cAr_r, cAr_r, trivial⟩, asA_agg (evO_spec rfl) ⟨cAr_r, cAr_r, cAr_r, trivial⟩, trivial⟩)|((first|refine aw_ways rfl ?_ ?_|refine r_split rfl rfl rfl ?_ ?_) <;> intro hg_ <;> fail_if_success (exact Bool.noConfusion hg_)) <;> (try simp only [prn] at hg_) <;> (try first|contradiction|(exfalso;omega)))
    all_goals first
      | exact ret_tmp rfl (dres_bool (hno (by rw [← hneg]; simp; omega)).symm)
      | (refine hfin _ ?_ (by rw [← hneg]; simp; omega)
         (refine weak_ren [] rfl ?_ ?_ <;> repeat' (first|exact trivial|refine subR_cons rfl ?_ ?_|refine subHR_cons rfl ?_ ?_|rfl|(refine d_int ?_;(first|rfl|omega|(rw [IntWalk.i64_in _ (by omega)] <;> omega)|(simp;done)|(simp;omega)))|(refine d_bool ?_;(first|(simp_all;done)|(rw [Bool.eq_iff_iff];simp_all;done)|(rw [Bool.eq_iff_iff];simp_all;omega)|(rw [Bool.eq_iff_iff];simp;omega)))|exact d_int e3)))
      | (exfalso; omega)
      | trace_state
  · have hs : srt ms = true := (srt_iff ms).2 fun j h => HP j h (by omega)
    have e1 : ¬ (((ms.length - k : Nat) : Int) - 1 > 0) := by omega
    rw [hs]
    clear hF HP
    generalize ((ms.length - k : Nat) : Int) - 1 = z at *
    repeat' (first|(with_reducible first|refine aw_seq ?_|refine thn_normal ?_|refine thn_ret ?_|refine thn_exit ?_|refine blk_normal ?_|refine blk_ret ?_|refine blk_hit ?_|refine blk_miss rfl ?_|refine aw_block ?_|refine aw_ret ?_|refine aw_skip ?_|refine aw_exit ?_|refine w_nil ?_|refine x_nil (by kernel_rfl) ?_)|refine aw_region ?_|refine aw_region_draw (by kernel_rfl) ?_|refine aw_yes rfl ?_|refine aw_no rfl ?_|((with_reducible refine w_seq ?_);first|refine r_q tbOk rfl rfl rfl rfl ?_|refine r_e tbOk rfl rfl rfl rfl rfl ?_|refine r_yes tbOk rfl rfl rfl rfl rfl rfl ?_|refine w_no rfl rfl (lookO_spec rfl) rfl rfl rfl ?_|refine w_un rfl rfl (lookO_spec rfl) rfl rfl ?_)|((with_reducible refine w_drw ?_);first|refine rx_q tbOk rfl rfl rfl rfl ?_|refine rx_e tbOk rfl rfl rfl rfl rfl ?_|refine rx_yes tbOk rfl rfl rfl rfl rfl rfl ?_|refine x_no rfl rfl (lookO_spec rfl) rfl rfl rfl ?_|refine x_un rfl rfl (lookO_spec rfl) rfl rfl ?_)|((first|refine aw_ways rfl ?_ ?_|refine r_split rfl rfl rfl ?_ ?_) <;> intro hg_ <;> fail_if_success (exact Bool.noConfusion hg_)) <;> (try simp only [prn] at hg_) <;> (try first|contradiction|(exfalso;omega)))
    all_goals first
      | (exfalso; omega)
      | exact ret_tmp rfl (dres_bool rfl)
      | trace_state
def fitsIn (many : Int) (ms : List E3) : Bool := decide (ms.length ≤ 2000) && srt ms && ms.all (msgFit many)
theorem fitsIn_eq (many : Int) (ms : List E3) : fitsIn many ms = (decide (ms.length ≤ 2000) && msOk (many - 1) none ms) := by
  unfold fitsIn
  rw [msOk_none, show msgFit many = msgIn (many - 1) from funext (msgFit_in many), Bool.and_assoc]
set_option maxRecDepth 100000 in
set_option maxHeartbeats 4000000 in
theorem f_inboxFits (nil : Bool) (ms : List E3) (many : Int) (hl : ms.length ≤ maxLen) : Fn Try.prog 84 [.one (row nil 3 (edges ms)), iP many] (.v (.one (bool (fitsIn many ms)))) := by
  have hlen := edges_len ms
  have hml : ms.length ≤ 9223372036854775807 := hl
  have KS := f_isSorted nil ms hl
  have K := fun m => f_messageFits m many
  refine fn_of (l := [.tmp 4]) Try.func84 (by kernel_rfl) rfl Try.ntmps84 rfl rfl ?_; simp only [argEnv, P0.d, Nat.reduceAdd]
  repeat' (first|(with_reducible first|refine aw_seq ?_|refine thn_normal ?_|refine thn_ret ?_|refine thn_exit ?_|refine blk_normal ?_|refine blk_ret ?_|refine blk_hit ?_|refine blk_miss rfl ?_|refine aw_block ?_|refine aw_ret ?_|refine aw_skip ?_|refine aw_exit ?_|refine w_nil ?_|refine x_nil (by kernel_rfl) ?_)|refine aw_region ?_|refine aw_region_draw (by kernel_rfl) ?_|refine aw_yes rfl ?_|refine aw_no rfl ?_|((with_reducible refine w_seq ?_);first|refine r_q tbOk rfl rfl rfl rfl ?_|refine r_e tbOk rfl rfl rfl rfl rfl ?_|refine r_yes tbOk rfl rfl rfl rfl rfl rfl ?_|refine w_no rfl rfl (lookO_spec rfl) rfl rfl rfl ?_|refine w_un rfl rfl (lookO_spec rfl) rfl rfl ?_)|((with_reducible refine w_drw ?_);first|refine rx_q tbOk rfl rfl rfl rfl ?_|refine rx_e tbOk rfl rfl rfl rfl rfl ?_|refine rx_yes tbOk rfl rfl rfl rfl rfl rfl ?_|refine x_no rfl rfl (lookO_spec rfl) rfl rfl rfl ?_|refine x_un rfl rfl (lookO_spec rfl) rfl rfl ?_)|((first|refine' w_q rfl rfl ?xa rfl ?_|refine' v_q rfl rfl ?xa rfl ?_|refine' w_yes rfl rfl (lookO_spec rfl) rfl ?xa rfl ?_|refine' v_yes rfl rfl (lookO_spec rfl) rfl ?xa rfl ?_);case xa => exact k_call KS rfl ⟨asA_r (evO_spec rfl), asA_r (evO_spec rfl), trivial⟩)|((first|refine aw_ways rfl ?_ ?_|refine r_split rfl rfl rfl ?_ ?_) <;> intro hg_ <;> fail_if_success (exact Bool.noConfusion hg_)) <;> (try simp only [prn] at hg_) <;> (try first|contradiction|(exfalso;omega)))
  · exact ret_tmp rfl (dres_bool (by unfold fitsIn; simp_all; try omega))
  · exact ret_tmp rfl (dres_bool (by unfold fitsIn; simp [*]))
  refine aw_loopI (fun k : Nat => k ≤ ms.length ∧ fitsIn many ms = (ms.drop k).all (msgFit many)) (fun k => mkS 26 [(17, .one (.r true (int (k : Int)))), (16, .one (.r true (int (ms.length : Int)))), (15, .one (.r false (row nil 3 (edges ms)))), (1, .one (.r false (int many)))] []) (fun k => ms.length - k) 0 ⟨Nat.zero_le _, by unfold fitsIn;simp_all;try omega⟩ (by (refine weak_ren [] rfl ?_ ?_ <;> repeat' (first|exact trivial|refine subR_cons rfl ?_ ?_|refine subHR_cons rfl ?_ ?_|rfl|(refine d_int ?_;(first|rfl|omega|(rw [IntWalk.i64_in _ (by omega)] <;> omega)|(simp;done)|(simp;omega)))|(refine d_bool ?_;(first|(simp_all;done)|(rw [Bool.eq_iff_iff];simp_all;done)|(rw [Bool.eq_iff_iff];simp_all;omega)|(rw [Bool.eq_iff_iff];simp;omega)))|exact d_int (by rw [hlen])))) ?_
  rintro k ⟨hk, HP⟩
  repeat' (first|(with_reducible first|refine aw_seq ?_|refine thn_normal ?_|refine thn_ret ?_|refine thn_exit ?_|refine blk_normal ?_|refine blk_ret ?_|refine blk_hit ?_|refine blk_miss rfl ?_|refine aw_block ?_|refine aw_ret ?_|refine aw_skip ?_|refine aw_exit ?_|refine w_nil ?_|refine x_nil (by kernel_rfl) ?_)|refine aw_region ?_|refine aw_region_draw (by kernel_rfl) ?_|refine aw_yes rfl ?_|refine aw_no rfl ?_|((with_reducible refine w_seq ?_);first|refine r_q tbOk rfl rfl rfl rfl ?_|refine r_e tbOk rfl rfl rfl rfl rfl ?_|refine r_yes tbOk rfl rfl rfl rfl rfl rfl ?_|refine w_no rfl rfl (lookO_spec rfl) rfl rfl rfl ?_|refine w_un rfl rfl (lookO_spec rfl) rfl rfl ?_)|((with_reducible refine w_drw ?_);first|refine rx_q tbOk rfl rfl rfl rfl ?_|refine rx_e tbOk rfl rfl rfl rfl rfl ?_|refine rx_yes tbOk rfl rfl rfl rfl rfl rfl ?_|refine x_no rfl rfl (lookO_spec rfl) rfl rfl rfl ?_|refine x_un rfl rfl (lookO_spec rfl) rfl rfl ?_)|((first|refine' w_q rfl rfl ?xa rfl ?_|refine' v_q rfl rfl ?xa rfl ?_|refine' w_yes rfl rfl (lookO_spec rfl) rfl ?xa rfl ?_|refine' v_yes rfl rfl (lookO_spec rfl) rfl ?xa rfl ?_);case xa => first|exact k_index tbOk rfl rfl rfl rfl (by omega) (edges_at (by omega))|exact k_call (K (_, _, _)) rfl ⟨asA_agg (evO_spec rfl) ⟨cAr_r, cAr_r, cAr_r, trivial⟩, asA_r (evO_spec rfl), trivial⟩)|((first|refine aw_ways rfl ?_ ?_|refine r_split rfl rfl rfl ?_ ?_) <;> intro hg_ <;> fail_if_success (exact Bool.noConfusion hg_)) <;> (try simp only [prn] at hg_) <;> (try first|contradiction|(exfalso;omega)))
  all_goals first
    | exact ret_tmp rfl (dres_bool (by rw [HP, all_step (by omega)]; simp_all; done))
    | exact ⟨k + 1, ⟨by omega, by rw [HP, all_step (by omega)];simp_all⟩, by (refine weak_ren [] rfl ?_ ?_ <;> repeat' (first|exact trivial|refine subR_cons rfl ?_ ?_|refine subHR_cons rfl ?_ ?_|rfl|(refine d_int ?_;(first|rfl|omega|(rw [IntWalk.i64_in _ (by omega)] <;> omega)|(simp;done)|(simp;omega)))|(refine d_bool ?_;(first|(simp_all;done)|(rw [Bool.eq_iff_iff];simp_all;done)|(rw [Bool.eq_iff_iff];simp_all;omega)|(rw [Bool.eq_iff_iff];simp;omega))))), by omega⟩
    | exact ret_tmp rfl (dres_bool (by rw [HP, List.drop_eq_nil_of_le (by omega)]; rfl))
    | trace_state
set_option maxRecDepth 100000 in
set_option maxHeartbeats 4000000 in
theorem f_implStateValid (many r : Int) (nv ng nm : Bool) (vs : List Int) (gs : List Bool) (ms : List E3) (hv : vs.length ≤ maxLen) (hg : gs.length ≤ maxLen) (hl : ms.length ≤ maxLen) : Fn Try.prog 35 [stateP r nv vs ng gs nm ms, iP many] (.v (.one (bool (stOk many r vs gs.length ms)))) := by
  have hlenV := ints_len vs
  have hlenG := bools_len gs
  have hlenM := edges_len ms
  have K1 := f_roundFits r
  have K2 := f_valuesFit nv vs hv
  have K3 := f_inboxFits nm ms many hl
  have E : stOk many r vs gs.length ms = (inR 0 16 many && inR 0 100 r && decide ((vs.length : Int) = many) && decide ((gs.length : Int) = many) && (vs.all valIn && fitsIn many ms)) := by
    unfold stOk; rw [fitsIn_eq]
    cases decide (ms.length ≤ 2000) <;> cases vs.all valIn <;> cases msOk (many - 1) none ms <;> simp
  have E2 : inR 0 16 many = decide (0 ≤ many ∧ many ≤ 16) := rfl
  rw [E, E2]
  clear E E2
  generalize fitsIn many ms = b3 at *
  generalize vs.all valIn = b2 at *
  generalize inR 0 100 r = b1 at *
  refine fn_of (l := [.tmp 4]) Try.func35 (by kernel_rfl) rfl Try.ntmps35 rfl rfl ?_; simp only [argEnv, P0.d, Nat.reduceAdd, stateP, List.map_cons, List.map_nil]
  repeat' (first|(with_reducible first|refine aw_seq ?_|refine thn_normal ?_|refine thn_ret ?_|refine thn_exit ?_|refine blk_normal ?_|refine blk_ret ?_|refine blk_hit ?_|refine blk_miss rfl ?_|refine aw_block ?_|refine aw_ret ?_|refine aw_skip ?_|refine aw_exit ?_|refine w_nil ?_|refine x_nil (by kernel_rfl) ?_)|refine aw_region ?_|refine aw_region_draw (by kernel_rfl) ?_|refine aw_yes rfl ?_|refine aw_no rfl ?_|((with_reducible refine w_seq ?_);first|refine r_q tbOk rfl rfl rfl rfl ?_|refine r_e tbOk rfl rfl rfl rfl rfl ?_|refine r_yes tbOk rfl rfl rfl rfl rfl rfl ?_|refine w_no rfl rfl (lookO_spec rfl) rfl rfl rfl ?_|refine w_un rfl rfl (lookO_spec rfl) rfl rfl ?_)|((with_reducible refine w_drw ?_);first|refine rx_q tbOk rfl rfl rfl rfl ?_|refine rx_e tbOk rfl rfl rfl rfl rfl ?_|refine rx_yes tbOk rfl rfl rfl rfl rfl rfl ?_|refine x_no rfl rfl (lookO_spec rfl) rfl rfl rfl ?_|refine x_un rfl rfl (lookO_spec rfl) rfl rfl ?_)|((first|refine' w_q rfl rfl ?xa rfl ?_|refine' v_q rfl rfl ?xa rfl ?_|refine' w_yes rfl rfl (lookO_spec rfl) rfl ?xa rfl ?_|refine' v_yes rfl rfl (lookO_spec rfl) rfl ?xa rfl ?_);case xa => first|exact k_call K1 rfl ⟨asA_r (evO_spec rfl), trivial⟩|exact k_call K2 rfl ⟨asA_r (evO_spec rfl), trivial⟩|exact k_call K3 rfl ⟨asA_r (evO_spec rfl), asA_r (evO_spec rfl), trivial⟩)|((first|refine aw_ways rfl ?_ ?_|refine r_split rfl rfl rfl ?_ ?_) <;> intro hg_ <;> fail_if_success (exact Bool.noConfusion hg_)) <;> (try simp only [prn] at hg_) <;> (try first|contradiction|(exfalso;omega)))
  all_goals first
    | exact ret_tmp rfl (dres_bool (by first|(simp_all;done)|(simp_all;intros;omega)|(simp_all;omega)))
    | trace_state
set_option maxRecDepth 100000 in
set_option maxHeartbeats 8000000 in
theorem f_specStateValid (many r : Int) (nv ng nm : Bool) (vs : List Int) (gs : List Bool) (ms : List E3) (hv : vs.length ≤ maxLen) (hg : gs.length ≤ maxLen) (hl : ms.length ≤ maxLen) : Fn Try.prog 30 [stateP r nv vs ng gs nm ms, iP many] (.v (.one (bool (stOk many r vs gs.length ms)))) := by
  have hlenV := ints_len vs
  have hlenG := bools_len gs
  have hlenM := edges_len ms
  have hmv : vs.length ≤ 9223372036854775807 := hv
  have hml : ms.length ≤ 9223372036854775807 := hl
  have KB := fun a b => f_l9Before a b
  have KM := fun m => f_l11Message m many
  have KI := fun a b c => f_l1In a b c
  rw [stOk_spec]
  obtain ⟨u, hu⟩ : ∃ u, u = IntKind.i64.wrap (many - 1) := ⟨_, rfl⟩
  rw [← hu] at KM ⊢
  clear hu
  obtain ⟨B1, hB1⟩ : ∃ b, b = vs.all valIn := ⟨_, rfl⟩
  obtain ⟨B2, hB2⟩ : ∃ b, b = msOk u none ms := ⟨_, rfl⟩
  rw [← hB1, ← hB2]
  refine fn_of (l := [.tmp 4]) Try.func30 (by kernel_rfl) rfl Try.ntmps30 rfl rfl ?_; simp only [argEnv, P0.d, Nat.reduceAdd, stateP, List.map_cons, List.map_nil]
  repeat' (first|(with_reducible first|refine aw_seq ?_|refine thn_normal ?_|refine thn_ret ?_|refine thn_exit ?_|refine blk_normal ?_|refine blk_ret ?_|refine blk_hit ?_|refine blk_miss rfl ?_|refine aw_block ?_|refine aw_ret ?_|refine aw_skip ?_|refine aw_exit ?_|refine w_nil ?_|refine x_nil (by kernel_rfl) ?_)|refine aw_region ?_|refine aw_region_draw (by kernel_rfl) ?_|refine aw_yes rfl ?_|refine aw_no rfl ?_|((with_reducible refine w_seq ?_);first|refine r_q tbOk rfl rfl rfl rfl ?_|refine r_e tbOk rfl rfl rfl rfl rfl ?_|refine r_yes tbOk rfl rfl rfl rfl rfl rfl ?_|refine w_no rfl rfl (lookO_spec rfl) rfl rfl rfl ?_|refine w_un rfl rfl (lookO_spec rfl) rfl rfl ?_)|((with_reducible refine w_drw ?_);first|refine rx_q tbOk rfl rfl rfl rfl ?_|refine rx_e tbOk rfl rfl rfl rfl rfl ?_|refine rx_yes tbOk rfl rfl rfl rfl rfl rfl ?_|refine x_no rfl rfl (lookO_spec rfl) rfl rfl rfl ?_|refine x_un rfl rfl (lookO_spec rfl) rfl rfl ?_)|((first|refine aw_ways rfl ?_ ?_|refine r_split rfl rfl rfl ?_ ?_) <;> intro hg_ <;> fail_if_success (exact Bool.noConfusion hg_)) <;> (try simp only [prn] at hg_) <;> (try first|contradiction|(exfalso;omega)))
  refine aw_loopI (fun k : Nat => k ≤ vs.length ∧ B1 = (vs.drop k).all valIn) (fun k => mkS 81 [(5, .one (.r true (int (k : Int)))), (2, .one (.ptr 2 0 0 0)), (1, .one (.r false (int many)))] [(2, .var 28 [.r false (int r), .r false (row nv 1 (ints vs)), .r false (row ng 1 (bools gs)), .r false (row nm 3 (edges ms))])]) (fun k => vs.length - k) 0 ⟨Nat.zero_le _, hB1⟩ (by (refine weak_ren [] rfl ?_ ?_ <;> repeat' (first|exact trivial|refine subR_cons rfl ?_ ?_|refine subHR_cons rfl ?_ ?_|rfl|(refine d_int ?_;(first|rfl|omega|(rw [IntWalk.i64_in _ (by omega)] <;> omega)|(simp;done)|(simp;omega)))|(refine d_bool ?_;(first|(simp_all;done)|(rw [Bool.eq_iff_iff];simp_all;done)|(rw [Bool.eq_iff_iff];simp_all;omega)|(rw [Bool.eq_iff_iff];simp;omega)))))) ?_
  rintro k ⟨hk, HP⟩
  repeat' (first|(with_reducible first|refine aw_seq ?_|refine thn_normal ?_|refine thn_ret ?_|refine thn_exit ?_|refine blk_normal ?_|refine blk_ret ?_|refine blk_hit ?_|refine blk_miss rfl ?_|refine aw_block ?_|refine aw_ret ?_|refine aw_skip ?_|refine aw_exit ?_|refine w_nil ?_|refine x_nil (by kernel_rfl) ?_)|refine aw_region ?_|refine aw_region_draw (by kernel_rfl) ?_|refine aw_yes rfl ?_|refine aw_no rfl ?_|((with_reducible refine w_seq ?_);first|refine r_q tbOk rfl rfl rfl rfl ?_|refine r_e tbOk rfl rfl rfl rfl rfl ?_|refine r_yes tbOk rfl rfl rfl rfl rfl rfl ?_|refine w_no rfl rfl (lookO_spec rfl) rfl rfl rfl ?_|refine w_un rfl rfl (lookO_spec rfl) rfl rfl ?_)|((with_reducible refine w_drw ?_);first|refine rx_q tbOk rfl rfl rfl rfl ?_|refine rx_e tbOk rfl rfl rfl rfl rfl ?_|refine rx_yes tbOk rfl rfl rfl rfl rfl rfl ?_|refine x_no rfl rfl (lookO_spec rfl) rfl rfl rfl ?_|refine x_un rfl rfl (lookO_spec rfl) rfl rfl ?_)|((first|refine' w_q rfl rfl ?xa rfl ?_|refine' v_q rfl rfl ?xa rfl ?_|refine' w_yes rfl rfl (lookO_spec rfl) rfl ?xa rfl ?_|refine' v_yes rfl rfl (lookO_spec rfl) rfl ?xa rfl ?_);case xa => first|exact k_index tbOk rfl rfl rfl rfl (by omega) (ints_at (by omega))|exact k_call (KI _ _ _) rfl ⟨asA_r (evO_spec rfl), asA_r (evO_spec rfl), asA_r (evO_spec rfl), trivial⟩)|((first|refine aw_ways rfl ?_ ?_|refine r_split rfl rfl rfl ?_ ?_) <;> intro hg_ <;> fail_if_success (exact Bool.noConfusion hg_)) <;> (try simp only [prn] at hg_) <;> (try first|contradiction|(exfalso;omega)))
  · exact ret_tmp rfl (dres_bool (by rw [HP, all_step (by omega)]; unfold valIn; simp_all))
  · exact ⟨k + 1, ⟨by omega, by rw [HP, all_step (by omega)];unfold valIn;simp_all⟩, by (refine weak_ren [] rfl ?_ ?_ <;> repeat' (first|exact trivial|refine subR_cons rfl ?_ ?_|refine subHR_cons rfl ?_ ?_|rfl|(refine d_int ?_;(first|rfl|omega|(rw [IntWalk.i64_in _ (by omega)] <;> omega)|(simp;done)|(simp;omega)))|(refine d_bool ?_;(first|(simp_all;done)|(rw [Bool.eq_iff_iff];simp_all;done)|(rw [Bool.eq_iff_iff];simp_all;omega)|(rw [Bool.eq_iff_iff];simp;omega))))), by omega⟩
  have hT : B1 = true := by rw [HP, List.drop_eq_nil_of_le (by omega)]; rfl
  rw [hT]
  clear HP hB1 hT
  refine aw_loopI (fun k : Nat => k ≤ ms.length ∧ B2 = msOk u (prevE ms k) (ms.drop k)) (fun k => mkS 81 [(6, .one (.r true (int (k : Int)))), (2, .one (.ptr 2 0 0 0)), (1, .one (.r false (int many)))] [(2, .var 28 [.r false (int r), .r false (row nv 1 (ints vs)), .r false (row ng 1 (bools gs)), .r false (row nm 3 (edges ms))])]) (fun k => ms.length - k) 0 ⟨Nat.zero_le _, hB2⟩ (by (refine weak_ren [] rfl ?_ ?_ <;> repeat' (first|exact trivial|refine subR_cons rfl ?_ ?_|refine subHR_cons rfl ?_ ?_|rfl|(refine d_int ?_;(first|rfl|omega|(rw [IntWalk.i64_in _ (by omega)] <;> omega)|(simp;done)|(simp;omega)))|(refine d_bool ?_;(first|(simp_all;done)|(rw [Bool.eq_iff_iff];simp_all;done)|(rw [Bool.eq_iff_iff];simp_all;omega)|(rw [Bool.eq_iff_iff];simp;omega)))))) ?_
  clear hB2
  rintro j ⟨hj, HP⟩
  have hixp : ∀ h : 0 < j, j ≤ ms.length → (edges ms)[(IntKind.i64.wrap ((j : Int) - 1)).toNat]? = some (edgeP (ms[j-1]'(by omega))) := fun h h' => by
    rw [IntWalk.i64_in _ (by omega), show ((j : Int) - 1).toNat = j - 1 by omega]; exact edges_get (by omega)
  have hw1 : 0 < j → 0 ≤ IntKind.i64.wrap ((j : Int) - 1) := fun h => by rw [IntWalk.i64_in _ (by omega)]; omega
  repeat' (first|(with_reducible first|refine aw_seq ?_|refine thn_normal ?_|refine thn_ret ?_|refine thn_exit ?_|refine blk_normal ?_|refine blk_ret ?_|refine blk_hit ?_|refine blk_miss rfl ?_|refine aw_block ?_|refine aw_ret ?_|refine aw_skip ?_|refine aw_exit ?_|refine w_nil ?_|refine x_nil (by kernel_rfl) ?_)|refine aw_region ?_|refine aw_region_draw (by kernel_rfl) ?_|refine aw_yes rfl ?_|refine aw_no rfl ?_|((with_reducible refine w_seq ?_);first|refine r_q tbOk rfl rfl rfl rfl ?_|refine r_e tbOk rfl rfl rfl rfl rfl ?_|refine r_yes tbOk rfl rfl rfl rfl rfl rfl ?_|refine w_no rfl rfl (lookO_spec rfl) rfl rfl rfl ?_|refine w_un rfl rfl (lookO_spec rfl) rfl rfl ?_)|((with_reducible refine w_drw ?_);first|refine rx_q tbOk rfl rfl rfl rfl ?_|refine rx_e tbOk rfl rfl rfl rfl rfl ?_|refine rx_yes tbOk rfl rfl rfl rfl rfl rfl ?_|refine x_no rfl rfl (lookO_spec rfl) rfl rfl rfl ?_|refine x_un rfl rfl (lookO_spec rfl) rfl rfl ?_)|((first|refine' w_q rfl rfl ?xa rfl ?_|refine' v_q rfl rfl ?xa rfl ?_|refine' w_yes rfl rfl (lookO_spec rfl) rfl ?xa rfl ?_|refine' v_yes rfl rfl (lookO_spec rfl) rfl ?xa rfl ?_);case xa => first|exact k_index tbOk rfl rfl rfl rfl (by first|omega|exact hw1 (by omega)) (by first|exact edges_at (by omega)|exact hixp (by omega) (by omega))|exact k_call (KI _ _ _) rfl ⟨asA_r (evO_spec rfl), asA_r (evO_spec rfl), asA_r (evO_spec rfl), trivial⟩|exact k_call (KM (_, _, _)) rfl ⟨asA_agg (evO_spec rfl) ⟨cAr_r, cAr_r, cAr_r, trivial⟩, asA_r (evO_spec rfl), trivial⟩|exact k_call (KB (_, _, _) (_, _, _)) rfl ⟨asA_agg (evO_spec rfl) ⟨cAr_r, cAr_r, cAr_r, trivial⟩, asA_agg (evO_spec rfl) ⟨cAr_r, cAr_r, cAr_r, trivial⟩, trivial⟩)|((first|refine aw_ways rfl ?_ ?_|refine r_split rfl rfl rfl ?_ ?_) <;> intro hg_ <;> fail_if_success (exact Bool.noConfusion hg_)) <;> (try simp only [prn] at hg_) <;> (try first|contradiction|(exfalso;omega)))
  · exact ret_tmp rfl (dres_bool (by rw [HP, msOk_step (by omega)]; simp_all))
  · exact ret_tmp rfl (dres_bool (by rw [HP, msOk_step (by omega), prevE_pos (by omega) hj]; simp_all [befP]))
  · exact ⟨j + 1, ⟨by omega, by rw [HP, msOk_step (by omega), prevE_pos (by omega) hj];simp_all [befP]⟩, by (refine weak_ren [] rfl ?_ ?_ <;> repeat' (first|exact trivial|refine subR_cons rfl ?_ ?_|refine subHR_cons rfl ?_ ?_|rfl|(refine d_int ?_;(first|rfl|omega|(rw [IntWalk.i64_in _ (by omega)] <;> omega)|(simp;done)|(simp;omega)))|(refine d_bool ?_;(first|(simp_all;done)|(rw [Bool.eq_iff_iff];simp_all;done)|(rw [Bool.eq_iff_iff];simp_all;omega)|(rw [Bool.eq_iff_iff];simp;omega))))), by omega⟩
  · obtain rfl : j = 0 := by omega
    exact ⟨1, ⟨by omega, by rw [HP, msOk_step (by omega)];simp_all [befP, prevE]⟩, by (refine weak_ren [] rfl ?_ ?_ <;> repeat' (first|exact trivial|refine subR_cons rfl ?_ ?_|refine subHR_cons rfl ?_ ?_|rfl|(refine d_int ?_;(first|rfl|omega|(rw [IntWalk.i64_in _ (by omega)] <;> omega)|(simp;done)|(simp;omega)))|(refine d_bool ?_;(first|(simp_all;done)|(rw [Bool.eq_iff_iff];simp_all;done)|(rw [Bool.eq_iff_iff];simp_all;omega)|(rw [Bool.eq_iff_iff];simp;omega))))), by omega⟩
  all_goals
    have hT : B2 = true := by rw [HP, List.drop_eq_nil_of_le (by omega)]; simp [msOk]
    rw [hT]
    clear HP hixp hw1
    first
      | exact ret_tmp rfl (dres_bool (by first|(simp_all;done)|(simp_all;omega)))
      | trace_state
end Go.Proofs.Ytmkecjamfippfaa.Abs
