/- Heaps by states: Push and Pop of container/heap. No statement of the seat is proved here. -/
import Derived.Test.YthjnidcmhegoeaaDoorTy
import Derived.Lib.Hide
import Derived.Test.YthjnidcmhegoeaaDoorAHeapC
set_option linter.unusedSimpArgs false
set_option linter.unusedVariables false
namespace Go.Proofs.YthjnidcmhegoeaaDoor.Abs
open Go.RowKit
open R (val row ref)

set_option maxRecDepth 100000 in
set_option maxHeartbeats 4000000 in
theorem f_heapPush (q : List (Int × Int)) (r : Int × Int) (hl : q.length ≤ 900) : FnS Tryd.prog 90 [.one (.clo (ifP 122) [(1000000000, 0)]), .one (.r false (R.val (rqI r)))] [(1000000000, .var 126 [.own 1000001 0 q.length 2]), (1000001, .sl 124 2 true (rQ q))] (.tup true []) [(1000000000, .var 126 [.own 2000001 0 (q.length + 1) 2]), (2000001, .sl 124 2 true (rQ (pushH q r)))] := by
  have hT := T_heap
  have KP := f_push q r (by omega)
  have hlA : (q ++ [r]).length = q.length + 1 := by rw [List.length_append]; rfl
  have hlR : (rQ (q ++ [r])).length = q.length + 1 := by rw [rQ_len, hlA]
  have KL := f_heapLen (rQ (q ++ [r])) (by omega)
  have KU := f_up (q ++ [r]) (q.length + 1) q.length hlA (by omega) (by omega)
  have hw : IntKind.i64.wrap (((rQ (q ++ [r])).length : Int) - 1) = (q.length : Int) := by rw [hlR, IntWalk.i64_in _ (by omega)]; omega
  rw [← hw] at KU
  unfold hpH at KU
  have hP : upH (q ++ [r]) q.length = pushH q r := rfl
  rw [hP] at KU
  generalize pushH q r = X at *
  refine fnS_of (l := []) Tryd.func90 (by kernel_rfl) rfl Tryd.ntmps90 rfl rfl ?_; simp only [dEnv, Nat.reduceAdd]
  repeat' (first | (with_reducible first | refine aw_seq ?_ | refine thn_normal ?_ | refine thn_ret ?_ | refine thn_exit ?_ | refine blk_normal ?_ | refine blk_ret ?_ | refine blk_hit ?_ | refine blk_miss rfl ?_ | refine aw_block ?_ | refine aw_ret ?_ | refine aw_skip ?_ | refine aw_exit ?_ | refine w_nil ?_ | refine x_nil (by kernel_rfl) ?_) | refine aw_region ?_ | refine aw_region_draw (by kernel_rfl) ?_ | refine aw_yes rfl ?_ | refine aw_no rfl ?_ | ((with_reducible refine w_seq ?_); first | refine r_q tbOk rfl rfl rfl rfl ?_ | refine r_e tbOk rfl rfl rfl rfl rfl ?_ | refine r_yes tbOk rfl rfl rfl rfl rfl rfl ?_ | refine w_no rfl rfl (lookO_spec rfl) rfl rfl rfl ?_ | refine w_un rfl rfl (lookO_spec rfl) rfl rfl ?_) | ((with_reducible refine w_drw ?_); first | refine rx_q tbOk rfl rfl rfl rfl ?_ | refine rx_e tbOk rfl rfl rfl rfl rfl ?_ | refine rx_yes tbOk rfl rfl rfl rfl rfl rfl ?_ | refine x_no rfl rfl (lookO_spec rfl) rfl rfl rfl ?_ | refine x_un rfl rfl (lookO_spec rfl) rfl rfl ?_) | ((first | refine' w_q rfl rfl ?xa rfl ?_ | refine' v_q rfl rfl ?xa rfl ?_ | refine' w_yes rfl rfl (lookO_spec rfl) rfl ?xa rfl ?_ | refine' v_yes rfl rfl (lookO_spec rfl) rfl ?xa rfl ?_); case xa => exact k_invV KL rfl rfl rfl (asA_cellH (lookHO_spec rfl) hlR.symm) hT m_len trivial) | ((first | refine' w_e rfl ?xa ?xb ?xc ?xe ?_ | refine' v_e rfl ?xa ?xb ?xc ?xe ?_); (case xa => first | exact e_invP [(2000001, 500)] KP rfl rfl (asD_ren rfl) m_push ⟨by rw [evO_spec rfl]; exact asD_r rfl, trivial⟩ (by (repeat' (first | exact trivial | refine subHR_cons rfl ?_ ?_ | rfl))) rfl | exact e_callS [(1000000001, 500)] KU rfl ⟨asD_ren (evO_spec rfl), by rw [evO_spec rfl]; exact asD_r rfl, trivial⟩ (by (repeat' (first | exact trivial | refine subHR_cons rfl ?_ ?_ | rfl))) rfl); (case xb => rfl); (case xc => rfl); (case xe => rfl); try dsimp only [P0.d, Res.d, List.map_cons, List.map_nil, List.set_cons_zero, List.set_cons_succ, Nat.reduceAdd]) | ((first | refine aw_ways rfl ?_ ?_ | refine r_split rfl rfl rfl ?_ ?_) <;> intro hg_ <;> fail_if_success (exact Bool.noConfusion hg_)) <;> (try simp only [prn] at hg_) <;> (try first | contradiction | (exfalso; omega)))
  all_goals first
    | exact end_D [(2000001, 500)] rfl (by (repeat' (first | exact trivial | refine subHR_cons rfl ?_ ?_ | rfl))) ⟨_, rfl, imp_refl rfl⟩
    | trace_state
set_option maxRecDepth 100000 in
set_option maxHeartbeats 4000000 in
theorem f_heapPop (q : List (Int × Int)) (k : Nat) (hq : q.length = k + 1) (hH : Hp q.length q) (hl : k ≤ 900) : FnS Tryd.prog 89 [.one (.clo (ifP 122) [(1000000000, 0)])] [(1000000000, .var 126 [.own 1000000001 0 (k + 1) 2]), (1000000001, .sl 124 2 true (rQ q))] (.one (.r true (R.val (rqI (popR q))))) [(1000000000, .var 126 [.own 1000000001 0 k 2]), (1000000001, .sl 124 2 true (rQ (popH q)))] := by
  have hT := T_heap
  obtain ⟨_, _, _, p4, p5, p6⟩ := popH_spec hH (fun c => by rw [c] at hq; cases hq)
  have hlR : (rQ q).length = k + 1 := by rw [rQ_len, hq]
  have KL := f_heapLen (rQ q) (by omega)
  have KS := f_swap q (k + 1) 0 k hq (by omega) (by omega)
  have KD := f_down (swp q 0 k) (k + 1) 0 k (by rw [swp_len, hq]) (by omega) (by omega) (by omega)
  have hQ : downH (swp q 0 k) 0 k = popH q ++ [popR q] := by
    rw [← p6]; unfold popQ; rw [hq]; rfl
  rw [hQ] at KD
  have KM := f_popM (popH q) (popR q) (by omega)
  have hpl : (popH q).length = k := by omega
  rw [hpl] at KM
  have hw : IntKind.i64.wrap (((rQ q).length : Int) - 1) = (k : Int) := by rw [hlR, IntWalk.i64_in _ (by omega)]; omega
  rw [← hw] at KS KD
  unfold hpH at KD
  generalize popH q ++ [popR q] = X at *
  generalize swp q 0 k = Y at *
  refine fnS_of (l := [.tmp 2]) Tryd.func89 (by kernel_rfl) rfl Tryd.ntmps89 rfl rfl ?_; simp only [dEnv, Nat.reduceAdd]
  repeat' (first | (with_reducible first | refine aw_seq ?_ | refine thn_normal ?_ | refine thn_ret ?_ | refine thn_exit ?_ | refine blk_normal ?_ | refine blk_ret ?_ | refine blk_hit ?_ | refine blk_miss rfl ?_ | refine aw_block ?_ | refine aw_ret ?_ | refine aw_skip ?_ | refine aw_exit ?_ | refine w_nil ?_ | refine x_nil (by kernel_rfl) ?_) | refine aw_region ?_ | refine aw_region_draw (by kernel_rfl) ?_ | refine aw_yes rfl ?_ | refine aw_no rfl ?_ | ((with_reducible refine w_seq ?_); first | refine r_q tbOk rfl rfl rfl rfl ?_ | refine r_e tbOk rfl rfl rfl rfl rfl ?_ | refine r_yes tbOk rfl rfl rfl rfl rfl rfl ?_ | refine w_no rfl rfl (lookO_spec rfl) rfl rfl rfl ?_ | refine w_un rfl rfl (lookO_spec rfl) rfl rfl ?_) | ((with_reducible refine w_drw ?_); first | refine rx_q tbOk rfl rfl rfl rfl ?_ | refine rx_e tbOk rfl rfl rfl rfl rfl ?_ | refine rx_yes tbOk rfl rfl rfl rfl rfl rfl ?_ | refine x_no rfl rfl (lookO_spec rfl) rfl rfl rfl ?_ | refine x_un rfl rfl (lookO_spec rfl) rfl rfl ?_) | ((first | refine' w_q rfl rfl ?xa rfl ?_ | refine' v_q rfl rfl ?xa rfl ?_ | refine' w_yes rfl rfl (lookO_spec rfl) rfl ?xa rfl ?_ | refine' v_yes rfl rfl (lookO_spec rfl) rfl ?xa rfl ?_); case xa => exact k_invV KL rfl rfl rfl (asA_cellH (lookHO_spec rfl) hlR.symm) hT m_len trivial) | ((first | refine' w_e rfl ?xa ?xb ?xc ?xe ?_ | refine' v_e rfl ?xa ?xb ?xc ?xe ?_); (case xa => first | exact e_invV [(1000000000, 1000000001)] KS rfl rfl rfl (asD_ren rfl) hT m_swap ⟨by rw [evO_spec rfl]; exact asD_r rfl, by rw [evO_spec rfl]; exact asD_r rfl, trivial⟩ (by (repeat' (first | exact trivial | refine subHR_cons rfl ?_ ?_ | rfl))) rfl | exact e_callS [] KD rfl ⟨asD_ren (evO_spec rfl), by rw [evO_spec rfl]; exact asD_r rfl, by rw [evO_spec rfl]; exact asD_r rfl, trivial⟩ (by (repeat' (first | exact trivial | refine subHR_cons rfl ?_ ?_ | rfl))) rfl | exact e_invP [] KM rfl rfl (asD_ren rfl) m_pop trivial (by (repeat' (first | exact trivial | refine subHR_cons rfl ?_ ?_ | rfl))) rfl); (case xb => rfl); (case xc => rfl); (case xe => rfl); try dsimp only [P0.d, Res.d, List.map_cons, List.map_nil, List.set_cons_zero, List.set_cons_succ, Nat.reduceAdd]) | ((first | refine aw_ways rfl ?_ ?_ | refine r_split rfl rfl rfl ?_ ?_) <;> intro hg_ <;> fail_if_success (exact Bool.noConfusion hg_)) <;> (try simp only [prn] at hg_) <;> (try first | contradiction | (exfalso; omega)))
  all_goals first
    | exact ret_D [] rfl (by (repeat' (first | exact trivial | refine subHR_cons rfl ?_ ?_ | rfl))) (retD_tmp rfl (imp_refl rfl))
    | trace_state
end Go.Proofs.YthjnidcmhegoeaaDoor.Abs
