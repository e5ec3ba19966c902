/- Exact laws over states by states: copies, comparisons, marks. No statement of the seat is proved here. -/
import Derived.Lib.Hide
import Derived.Test.YtmkecjamfippfaaRows
import Derived.WalkKit
import Derived.WalkSpells
import Derived.WalkLawsBesides
import Derived.Handy
import Derived.BigQuiet
import Derived.Deep.QuietTactic
import Derived.RangeFuncNested
import Derived.RangeFuncBound
import Derived.RangeFuncCalls
import Derived.RangeFuncLeaves
import Derived.Shelf.Abstract
import Derived.Shelf.RegionOpen
import Derived.OwnWalkIn
import Derived.TacticsInMore
import Derived.LoopNIn
import Derived.LoopIn
import Derived.RangeFuncFrom
import Derived.OrdersIn
import Derived.TacticsIn
import Derived.RangeFuncWrites
import Derived.Test.YtmkecjamfippfaaRxC
set_option linter.unusedSimpArgs false
set_option linter.unusedVariables false
namespace Go.Proofs.Ytmkecjamfippfaa.Abs
open Go.RowKit
open R (val row ref)

abbrev ZcX : Cell := .r true (row true 0 [])
set_option maxRecDepth 100000 in
set_option maxHeartbeats 4000000 in
theorem f_markMsgS (es : List E3) (k : Int) (h0 : 0 ≤ k) (hk : k ≤ 100000000) (hl : es.length ≤ 1048576) :
    FnS Try.prog 46 [.one (.own 1000000000 0 es.length 3), .one (.r false (int k))] [(1000000000, .sl 95 3 true (edges es))] (.one (.r true (int (k + 3 * es.length)))) [(1000000000, .sl 95 3 true (edges (mixE k es es.length)))] := by
  refine fnS_of (l := [.tmp 4]) Try.func46 (by kernel_rfl) rfl Try.ntmps46 rfl rfl ?_; simp only [dEnv, Nat.reduceAdd]
  repeat' (first|(with_reducible first|refine aw_seq ?_|refine thn_normal ?_|refine thn_ret ?_|refine thn_exit ?_|refine blk_normal ?_|refine blk_ret ?_|refine blk_hit ?_|refine blk_miss rfl ?_|refine aw_block ?_|refine aw_ret ?_|refine aw_skip ?_|refine aw_exit ?_|refine w_nil ?_|refine x_nil (by kernel_rfl) ?_)|refine aw_region ?_|refine aw_region_draw (by kernel_rfl) ?_|refine aw_yes rfl ?_|refine aw_no rfl ?_|((with_reducible refine w_seq ?_); first|refine r_q tbOk rfl rfl rfl rfl ?_|refine r_e tbOk rfl rfl rfl rfl rfl ?_|refine r_yes tbOk rfl rfl rfl rfl rfl rfl ?_|refine w_no rfl rfl (lookO_spec rfl) rfl rfl rfl ?_|refine w_un rfl rfl (lookO_spec rfl) rfl rfl ?_)|((with_reducible refine w_drw ?_); first|refine rx_q tbOk rfl rfl rfl rfl ?_|refine rx_e tbOk rfl rfl rfl rfl rfl ?_|refine rx_yes tbOk rfl rfl rfl rfl rfl rfl ?_|refine x_no rfl rfl (lookO_spec rfl) rfl rfl rfl ?_|refine x_un rfl rfl (lookO_spec rfl) rfl rfl ?_)|((first|refine aw_ways rfl ?_ ?_|refine r_split rfl rfl rfl ?_ ?_) <;> intro hg_ <;> fail_if_success (exact Bool.noConfusion hg_)) <;> (try simp only [prn] at hg_) <;> (try first|contradiction|(exfalso; omega)))
  refine aw_loopI (fun j : Nat => j ≤ es.length) (fun j => mkS 34 [(5, .one (.r true (int j))), (1, .one (.r (decide (0 < j)) (int (k + 3 * j)))), (0, .one (.own 1000000000 0 es.length 3))] [(1000000000, .sl 95 3 true (edges (mixE k es j)))]) (fun j => es.length - j) 0 (Nat.zero_le _) (by (refine weak_ren [] rfl ?_ ?_ <;> repeat' (first|exact trivial|refine subR_cons rfl ?_ ?_|refine subHR_cons rfl ?_ ?_|rfl|(refine d_int ?_; (first|rfl|omega|(rw [IntWalk.i64_in _ (by omega)] <;> omega)|(simp; done)|(simp; omega)))|(refine d_bool ?_; (first|(simp_all; done)|(rw [Bool.eq_iff_iff]; simp_all; done)|(rw [Bool.eq_iff_iff]; simp_all; omega)|(rw [Bool.eq_iff_iff]; simp; omega)))|exact d_int (by omega)))) ?_
  intro j hj
  have hlen : (edges (mixE k es j)).length = es.length := by rw [edges_len, mixE_len hj]
  by_cases hlt : j < es.length
  · have hw : IntKind.i64.wrap ((j : Int) + 1) = ((j + 1 : Nat) : Int) := by rw [IntWalk.i64_in _ (by omega)]; omega
    have hw1 : IntKind.i64.wrap (k + 3 * (j : Int) + 1) = k + 3 * (j : Int) + 1 := IntWalk.i64_in _ (by omega)
    have hw2 : IntKind.i64.wrap (IntKind.i64.wrap (k + 3 * (j : Int) + 1) + 1) = k + 3 * (j : Int) + 2 := by rw [hw1, IntWalk.i64_in _ (by omega)]; omega
    have hw3 : IntKind.i64.wrap (IntKind.i64.wrap (IntKind.i64.wrap (k + 3 * (j : Int) + 1) + 1) + 1) = k + 3 * ((j + 1 : Nat) : Int) := by rw [hw2, IntWalk.i64_in _ (by omega)]; omega
    have hj0 : 0 + ((j : Nat) : Int).toNat = j := by rw [Nat.zero_add, Int.toNat_natCast]
    have hg0 : (edges (mixE k es j))[0 + ((j : Nat) : Int).toNat]? = some (edgeP es[j]) := by
      rw [hj0]; unfold edges; rw [List.getElem?_map, mixE_get hlt]; rfl
    generalize es[j] = e at *
    have hg1 : ((edges (mixE k es j)).set (0 + ((j : Nat) : Int).toNat) (setF (edgeP e) 0 (int (k + 3 * j))))[0 + ((j : Nat) : Int).toNat]? = some (setF (edgeP e) 0 (int (k + 3 * j))) := by
      rw [List.getElem?_set_self (by omega)]
    have hg2 : (((edges (mixE k es j)).set (0 + ((j : Nat) : Int).toNat) (setF (edgeP e) 0 (int (k + 3 * j)))).set (0 + ((j : Nat) : Int).toNat) (setF (setF (edgeP e) 0 (int (k + 3 * j))) 1 (int (IntKind.i64.wrap (k + 3 * j + 1)))))[0 + ((j : Nat) : Int).toNat]? = some (setF (setF (edgeP e) 0 (int (k + 3 * j))) 1 (int (IntKind.i64.wrap (k + 3 * j + 1)))) := by
      rw [List.getElem?_set_self (by rw [List.length_set]; omega)]
    have hS : (((edges (mixE k es j)).set (0 + ((j : Nat) : Int).toNat) (setF (edgeP e) 0 (int (k + 3 * j)))).set (0 + ((j : Nat) : Int).toNat) (setF (setF (edgeP e) 0 (int (k + 3 * j))) 1 (int (IntKind.i64.wrap (k + 3 * j + 1))))).set (0 + ((j : Nat) : Int).toNat) (setF (setF (setF (edgeP e) 0 (int (k + 3 * j))) 1 (int (IntKind.i64.wrap (k + 3 * j + 1)))) 2 (int (IntKind.i64.wrap (IntKind.i64.wrap (k + 3 * j + 1) + 1)))) = edges (mixE k es (j + 1)) := by
      rw [List.set_set, List.set_set, hj0, hw2, hw1, ← mixE_set hlt, ← edges_setN]; rfl
    repeat' (first|(with_reducible first|refine aw_seq ?_|refine thn_normal ?_|refine thn_ret ?_|refine thn_exit ?_|refine blk_normal ?_|refine blk_ret ?_|refine blk_hit ?_|refine blk_miss rfl ?_|refine aw_block ?_|refine aw_ret ?_|refine aw_skip ?_|refine aw_exit ?_|refine w_nil ?_|refine x_nil (by kernel_rfl) ?_)|refine aw_region ?_|refine aw_region_draw (by kernel_rfl) ?_|refine aw_yes rfl ?_|refine aw_no rfl ?_|((with_reducible refine w_seq ?_); first|refine r_q tbOk rfl rfl rfl rfl ?_|refine r_e tbOk rfl rfl rfl rfl rfl ?_|refine r_yes tbOk rfl rfl rfl rfl rfl rfl ?_|refine w_no rfl rfl (lookO_spec rfl) rfl rfl rfl ?_|refine w_un rfl rfl (lookO_spec rfl) rfl rfl ?_)|((with_reducible refine w_drw ?_); first|refine rx_q tbOk rfl rfl rfl rfl ?_|refine rx_e tbOk rfl rfl rfl rfl rfl ?_|refine rx_yes tbOk rfl rfl rfl rfl rfl rfl ?_|refine x_no rfl rfl (lookO_spec rfl) rfl rfl rfl ?_|refine x_un rfl rfl (lookO_spec rfl) rfl rfl ?_)|((first|refine' w_q rfl rfl ?xa rfl ?_|refine' v_q rfl rfl ?xa rfl ?_|refine' w_yes rfl rfl (lookO_spec rfl) rfl ?xa rfl ?_|refine' v_yes rfl rfl (lookO_spec rfl) rfl ?xa rfl ?_); case xa => exact k_indexO tbOk rfl rfl rfl rfl (by omega) (by omega))|((first|refine' w_e rfl ?xa ?xb ?xc ?xe ?_|refine' v_e rfl ?xa ?xb ?xc ?xe ?_); (case xa => first|exact e_storeF tbOk rfl rfl rfl rfl rfl hg0 rfl rfl (by omega)|exact e_storeF tbOk rfl rfl rfl rfl rfl hg1 rfl rfl (by omega)|exact e_storeF tbOk rfl rfl rfl rfl rfl hg2 rfl rfl (by omega)); (case xb => rfl); (case xc => rfl); (case xe => rfl); try dsimp only [P0.d, Res.d, List.map_cons, List.map_nil, List.set_cons_zero, List.set_cons_succ, Nat.reduceAdd])|((first|refine aw_ways rfl ?_ ?_|refine r_split rfl rfl rfl ?_ ?_) <;> intro hg_ <;> fail_if_success (exact Bool.noConfusion hg_)) <;> (try simp only [prn] at hg_) <;> (try first|contradiction|(exfalso; omega)))
    all_goals first
     |exact ⟨j + 1, by omega, by (refine weak_ren [] rfl ?_ ?_ <;> repeat' (first|exact trivial|refine subR_cons rfl ?_ ?_|refine subHR_cons rfl ?_ ?_|rfl|(refine d_int ?_; (first|rfl|omega|(rw [IntWalk.i64_in _ (by omega)] <;> omega)|(simp; done)|(simp; omega)))|(refine d_bool ?_; (first|(simp_all; done)|(rw [Bool.eq_iff_iff]; simp_all; done)|(rw [Bool.eq_iff_iff]; simp_all; omega)|(rw [Bool.eq_iff_iff]; simp; omega)))|exact d_int hw|exact d_int hw3|exact ob_sl rfl hS)), by omega⟩
      | trace_state
  · obtain rfl : j = es.length := by omega
    repeat' (first|(with_reducible first|refine aw_seq ?_|refine thn_normal ?_|refine thn_ret ?_|refine thn_exit ?_|refine blk_normal ?_|refine blk_ret ?_|refine blk_hit ?_|refine blk_miss rfl ?_|refine aw_block ?_|refine aw_ret ?_|refine aw_skip ?_|refine aw_exit ?_|refine w_nil ?_|refine x_nil (by kernel_rfl) ?_)|refine aw_region ?_|refine aw_region_draw (by kernel_rfl) ?_|refine aw_yes rfl ?_|refine aw_no rfl ?_|((with_reducible refine w_seq ?_); first|refine r_q tbOk rfl rfl rfl rfl ?_|refine r_e tbOk rfl rfl rfl rfl rfl ?_|refine r_yes tbOk rfl rfl rfl rfl rfl rfl ?_|refine w_no rfl rfl (lookO_spec rfl) rfl rfl rfl ?_|refine w_un rfl rfl (lookO_spec rfl) rfl rfl ?_)|((with_reducible refine w_drw ?_); first|refine rx_q tbOk rfl rfl rfl rfl ?_|refine rx_e tbOk rfl rfl rfl rfl rfl ?_|refine rx_yes tbOk rfl rfl rfl rfl rfl rfl ?_|refine x_no rfl rfl (lookO_spec rfl) rfl rfl rfl ?_|refine x_un rfl rfl (lookO_spec rfl) rfl rfl ?_)|((first|refine aw_ways rfl ?_ ?_|refine r_split rfl rfl rfl ?_ ?_) <;> intro hg_ <;> fail_if_success (exact Bool.noConfusion hg_)) <;> (try simp only [prn] at hg_) <;> (try first|contradiction|(exfalso; omega)))
    all_goals first
     |exact ret_D [] rfl (by (repeat' (first|exact trivial|refine subHR_cons rfl ?_ ?_|rfl))) (retD_tmp rfl imp_plain)
      | trace_state
set_option maxRecDepth 100000 in
set_option maxHeartbeats 4000000 in
theorem f_heldMsgS (nil : Bool) (k : Int) (n : Nat) (h0 : 0 ≤ k) (hk : k ≤ 100000000) (hl : n ≤ 1048576) :
    Fn Try.prog 49 [.one (row nil 3 (edges (upE k n))), iP k] (.v (iP (k + 3 * n))) := by
  have hlen : (edges (upE k n)).length = n := by rw [edges_len, upE_len]
  refine fn_of (l := [.tmp 4]) Try.func49 (by kernel_rfl) rfl Try.ntmps49 rfl rfl ?_; simp only [argEnv, P0.d, Nat.reduceAdd]
  repeat' (first|(with_reducible first|refine aw_seq ?_|refine thn_normal ?_|refine thn_ret ?_|refine thn_exit ?_|refine blk_normal ?_|refine blk_ret ?_|refine blk_hit ?_|refine blk_miss rfl ?_|refine aw_block ?_|refine aw_ret ?_|refine aw_skip ?_|refine aw_exit ?_|refine w_nil ?_|refine x_nil (by kernel_rfl) ?_)|refine aw_region ?_|refine aw_region_draw (by kernel_rfl) ?_|refine aw_yes rfl ?_|refine aw_no rfl ?_|((with_reducible refine w_seq ?_); first|refine r_q tbOk rfl rfl rfl rfl ?_|refine r_e tbOk rfl rfl rfl rfl rfl ?_|refine r_yes tbOk rfl rfl rfl rfl rfl rfl ?_|refine w_no rfl rfl (lookO_spec rfl) rfl rfl rfl ?_|refine w_un rfl rfl (lookO_spec rfl) rfl rfl ?_)|((with_reducible refine w_drw ?_); first|refine rx_q tbOk rfl rfl rfl rfl ?_|refine rx_e tbOk rfl rfl rfl rfl rfl ?_|refine rx_yes tbOk rfl rfl rfl rfl rfl rfl ?_|refine x_no rfl rfl (lookO_spec rfl) rfl rfl rfl ?_|refine x_un rfl rfl (lookO_spec rfl) rfl rfl ?_)|((first|refine aw_ways rfl ?_ ?_|refine r_split rfl rfl rfl ?_ ?_) <;> intro hg_ <;> fail_if_success (exact Bool.noConfusion hg_)) <;> (try simp only [prn] at hg_) <;> (try first|contradiction|(exfalso; omega)))
  refine aw_loopI (fun j : Nat => j ≤ n) (fun j => mkS 40 [(5, .one (.r true (int j))), (1, .one (.r (decide (0 < j)) (int (k + 3 * j)))), (0, .one (.r false (row nil 3 (edges (upE k n)))))] []) (fun j => n - j) 0 (Nat.zero_le _) (by (refine weak_ren [] rfl ?_ ?_ <;> repeat' (first|exact trivial|refine subR_cons rfl ?_ ?_|refine subHR_cons rfl ?_ ?_|rfl|(refine d_int ?_; (first|rfl|omega|(rw [IntWalk.i64_in _ (by omega)] <;> omega)|(simp; done)|(simp; omega)))|(refine d_bool ?_; (first|(simp_all; done)|(rw [Bool.eq_iff_iff]; simp_all; done)|(rw [Bool.eq_iff_iff]; simp_all; omega)|(rw [Bool.eq_iff_iff]; simp; omega)))|exact d_int (by omega)))) ?_
  intro j hj
  by_cases hlt : j < n
  · have hix : (edges (upE k n))[((j : Nat) : Int).toNat]? = some (edgeP (mkE3 k j)) := by
      unfold edges
      rw [Int.toNat_natCast, List.getElem?_map, upE_get hlt]; rfl
    have hw : IntKind.i64.wrap ((j : Int) + 1) = ((j + 1 : Nat) : Int) := by rw [IntWalk.i64_in _ (by omega)]; omega
    have hw1 : IntKind.i64.wrap (k + 3 * (j : Int) + 1) = k + 3 * (j : Int) + 1 := IntWalk.i64_in _ (by omega)
    have hw2 : IntKind.i64.wrap (IntKind.i64.wrap (k + 3 * (j : Int) + 1) + 1) = k + 3 * (j : Int) + 2 := by rw [hw1, IntWalk.i64_in _ (by omega)]; omega
    have hw3 : IntKind.i64.wrap (IntKind.i64.wrap (IntKind.i64.wrap (k + 3 * (j : Int) + 1) + 1) + 1) = k + 3 * ((j + 1 : Nat) : Int) := by rw [hw2, IntWalk.i64_in _ (by omega)]; omega
    unfold mkE3 at hix
    repeat' (first|(with_reducible first|refine aw_seq ?_|refine thn_normal ?_|refine thn_ret ?_|refine thn_exit ?_|refine blk_normal ?_|refine blk_ret ?_|refine blk_hit ?_|refine blk_miss rfl ?_|refine aw_block ?_|refine aw_ret ?_|refine aw_skip ?_|refine aw_exit ?_|refine w_nil ?_|refine x_nil (by kernel_rfl) ?_)|refine aw_region ?_|refine aw_region_draw (by kernel_rfl) ?_|refine aw_yes rfl ?_|refine aw_no rfl ?_|((with_reducible refine w_seq ?_); first|refine r_q tbOk rfl rfl rfl rfl ?_|refine r_e tbOk rfl rfl rfl rfl rfl ?_|refine r_yes tbOk rfl rfl rfl rfl rfl rfl ?_|refine w_no rfl rfl (lookO_spec rfl) rfl rfl rfl ?_|refine w_un rfl rfl (lookO_spec rfl) rfl rfl ?_)|((with_reducible refine w_drw ?_); first|refine rx_q tbOk rfl rfl rfl rfl ?_|refine rx_e tbOk rfl rfl rfl rfl rfl ?_|refine rx_yes tbOk rfl rfl rfl rfl rfl rfl ?_|refine x_no rfl rfl (lookO_spec rfl) rfl rfl rfl ?_|refine x_un rfl rfl (lookO_spec rfl) rfl rfl ?_)|((first|refine' w_q rfl rfl ?xa rfl ?_|refine' v_q rfl rfl ?xa rfl ?_|refine' w_yes rfl rfl (lookO_spec rfl) rfl ?xa rfl ?_|refine' v_yes rfl rfl (lookO_spec rfl) rfl ?xa rfl ?_); case xa => exact k_index tbOk rfl rfl rfl rfl (by omega) (by exact hix))|((first|refine aw_ways rfl ?_ ?_|refine r_split rfl rfl rfl ?_ ?_) <;> intro hg_ <;> fail_if_success (exact Bool.noConfusion hg_)) <;> (try simp only [prn] at hg_) <;> (try first|contradiction|(exfalso; omega)))
    all_goals first
      | (exfalso; omega)
      | (exfalso; rw [hw2, hw1] at *; omega)
      | (exfalso; rw [hw2] at *; omega)
      | (exfalso; rw [hw1] at *; omega)
     |exact ⟨j + 1, by omega, by (refine weak_ren [] rfl ?_ ?_ <;> repeat' (first|exact trivial|refine subR_cons rfl ?_ ?_|refine subHR_cons rfl ?_ ?_|rfl|(refine d_int ?_; (first|rfl|omega|(rw [IntWalk.i64_in _ (by omega)] <;> omega)|(simp; done)|(simp; omega)))|(refine d_bool ?_; (first|(simp_all; done)|(rw [Bool.eq_iff_iff]; simp_all; done)|(rw [Bool.eq_iff_iff]; simp_all; omega)|(rw [Bool.eq_iff_iff]; simp; omega)))|exact d_int hw|exact d_int hw3)), by omega⟩
      | trace_state
  · obtain rfl : j = n := by omega
    repeat' (first|(with_reducible first|refine aw_seq ?_|refine thn_normal ?_|refine thn_ret ?_|refine thn_exit ?_|refine blk_normal ?_|refine blk_ret ?_|refine blk_hit ?_|refine blk_miss rfl ?_|refine aw_block ?_|refine aw_ret ?_|refine aw_skip ?_|refine aw_exit ?_|refine w_nil ?_|refine x_nil (by kernel_rfl) ?_)|refine aw_region ?_|refine aw_region_draw (by kernel_rfl) ?_|refine aw_yes rfl ?_|refine aw_no rfl ?_|((with_reducible refine w_seq ?_); first|refine r_q tbOk rfl rfl rfl rfl ?_|refine r_e tbOk rfl rfl rfl rfl rfl ?_|refine r_yes tbOk rfl rfl rfl rfl rfl rfl ?_|refine w_no rfl rfl (lookO_spec rfl) rfl rfl rfl ?_|refine w_un rfl rfl (lookO_spec rfl) rfl rfl ?_)|((with_reducible refine w_drw ?_); first|refine rx_q tbOk rfl rfl rfl rfl ?_|refine rx_e tbOk rfl rfl rfl rfl rfl ?_|refine rx_yes tbOk rfl rfl rfl rfl rfl rfl ?_|refine x_no rfl rfl (lookO_spec rfl) rfl rfl rfl ?_|refine x_un rfl rfl (lookO_spec rfl) rfl rfl ?_)|((first|refine aw_ways rfl ?_ ?_|refine r_split rfl rfl rfl ?_ ?_) <;> intro hg_ <;> fail_if_success (exact Bool.noConfusion hg_)) <;> (try simp only [prn] at hg_) <;> (try first|contradiction|(exfalso; omega)))
    all_goals first
      | exact ret_tmp rfl (dres_int rfl)
      | trace_state
set_option maxRecDepth 100000 in
set_option maxHeartbeats 2000000 in
theorem f_eqMsg (e : E3) : Fn Try.prog 91 [edgeP e, edgeP e] (.v (.one (bool true))) := by
  refine fn_of (l := [.tmp 4]) Try.func91 (by kernel_rfl) rfl Try.ntmps91 rfl rfl ?_; simp only [argEnv, P0.d, Nat.reduceAdd, edgeP, List.map_cons, List.map_nil]
  repeat' (first|(with_reducible first|refine aw_seq ?_|refine thn_normal ?_|refine thn_ret ?_|refine thn_exit ?_|refine blk_normal ?_|refine blk_ret ?_|refine blk_hit ?_|refine blk_miss rfl ?_|refine aw_block ?_|refine aw_ret ?_|refine aw_skip ?_|refine aw_exit ?_|refine w_nil ?_|refine x_nil (by kernel_rfl) ?_)|refine aw_region ?_|refine aw_region_draw (by kernel_rfl) ?_|refine aw_yes rfl ?_|refine aw_no rfl ?_|((with_reducible refine w_seq ?_); first|refine r_q tbOk rfl rfl rfl rfl ?_|refine r_e tbOk rfl rfl rfl rfl rfl ?_|refine r_yes tbOk rfl rfl rfl rfl rfl rfl ?_|refine w_no rfl rfl (lookO_spec rfl) rfl rfl rfl ?_|refine w_un rfl rfl (lookO_spec rfl) rfl rfl ?_)|((with_reducible refine w_drw ?_); first|refine rx_q tbOk rfl rfl rfl rfl ?_|refine rx_e tbOk rfl rfl rfl rfl rfl ?_|refine rx_yes tbOk rfl rfl rfl rfl rfl rfl ?_|refine x_no rfl rfl (lookO_spec rfl) rfl rfl rfl ?_|refine x_un rfl rfl (lookO_spec rfl) rfl rfl ?_)|((first|refine aw_ways rfl ?_ ?_|refine r_split rfl rfl rfl ?_ ?_) <;> intro hg_ <;> fail_if_success (exact Bool.noConfusion hg_)) <;> (try simp only [prn] at hg_) <;> (try first|contradiction|(exfalso; omega)))
  all_goals first
    | exact ret_tmp rfl (dres_bool rfl)
    | (exfalso; simp at *; done)

set_option maxRecDepth 100000 in
set_option maxHeartbeats 2000000 in
theorem f_eqMsgS (nil nil' : Bool) (es : List E3) (hl : es.length ≤ 1048576) : Fn Try.prog 43 [.one (row nil 3 (edges es)), .one (row nil' 3 (edges es))] (.v (.one (bool true))) := by
  have hlen := edges_len es
  refine fn_of (l := [.tmp 4]) Try.func43 (by kernel_rfl) rfl Try.ntmps43 rfl rfl ?_; simp only [argEnv, P0.d, Nat.reduceAdd, List.map_cons, List.map_nil]
  repeat' (first|(with_reducible first|refine aw_seq ?_|refine thn_normal ?_|refine thn_ret ?_|refine thn_exit ?_|refine blk_normal ?_|refine blk_ret ?_|refine blk_hit ?_|refine blk_miss rfl ?_|refine aw_block ?_|refine aw_ret ?_|refine aw_skip ?_|refine aw_exit ?_|refine w_nil ?_|refine x_nil (by kernel_rfl) ?_)|refine aw_region ?_|refine aw_region_draw (by kernel_rfl) ?_|refine aw_yes rfl ?_|refine aw_no rfl ?_|((with_reducible refine w_seq ?_); first|refine r_q tbOk rfl rfl rfl rfl ?_|refine r_e tbOk rfl rfl rfl rfl rfl ?_|refine r_yes tbOk rfl rfl rfl rfl rfl rfl ?_|refine w_no rfl rfl (lookO_spec rfl) rfl rfl rfl ?_|refine w_un rfl rfl (lookO_spec rfl) rfl rfl ?_)|((with_reducible refine w_drw ?_); first|refine rx_q tbOk rfl rfl rfl rfl ?_|refine rx_e tbOk rfl rfl rfl rfl rfl ?_|refine rx_yes tbOk rfl rfl rfl rfl rfl rfl ?_|refine x_no rfl rfl (lookO_spec rfl) rfl rfl rfl ?_|refine x_un rfl rfl (lookO_spec rfl) rfl rfl ?_)|((first|refine aw_ways rfl ?_ ?_|refine r_split rfl rfl rfl ?_ ?_) <;> intro hg_ <;> fail_if_success (exact Bool.noConfusion hg_)) <;> (try simp only [prn] at hg_) <;> (try first|contradiction|(exfalso; omega)))
  refine aw_loopI (fun k : Nat => k ≤ es.length) (fun k => mkS 27 [(5, .one (.r true (int k))), (0, .one (.r false (row nil 3 (edges es)))), (1, .one (.r false (row nil' 3 (edges es))))] []) (fun k => es.length - k) 0 (Nat.zero_le _) (by (refine weak_ren [] rfl ?_ ?_ <;> repeat' (first|exact trivial|refine subR_cons rfl ?_ ?_|refine subHR_cons rfl ?_ ?_|rfl|(refine d_int ?_; (first|rfl|omega|(rw [IntWalk.i64_in _ (by omega)] <;> omega)|(simp; done)|(simp; omega)))|(refine d_bool ?_; (first|(simp_all; done)|(rw [Bool.eq_iff_iff]; simp_all; done)|(rw [Bool.eq_iff_iff]; simp_all; omega)|(rw [Bool.eq_iff_iff]; simp; omega)))))) ?_
  intro k hk
  repeat' (first|(with_reducible first|refine aw_seq ?_|refine thn_normal ?_|refine thn_ret ?_|refine thn_exit ?_|refine blk_normal ?_|refine blk_ret ?_|refine blk_hit ?_|refine blk_miss rfl ?_|refine aw_block ?_|refine aw_ret ?_|refine aw_skip ?_|refine aw_exit ?_|refine w_nil ?_|refine x_nil (by kernel_rfl) ?_)|refine aw_region ?_|refine aw_region_draw (by kernel_rfl) ?_|refine aw_yes rfl ?_|refine aw_no rfl ?_|((with_reducible refine w_seq ?_); first|refine r_q tbOk rfl rfl rfl rfl ?_|refine r_e tbOk rfl rfl rfl rfl rfl ?_|refine r_yes tbOk rfl rfl rfl rfl rfl rfl ?_|refine w_no rfl rfl (lookO_spec rfl) rfl rfl rfl ?_|refine w_un rfl rfl (lookO_spec rfl) rfl rfl ?_)|((with_reducible refine w_drw ?_); first|refine rx_q tbOk rfl rfl rfl rfl ?_|refine rx_e tbOk rfl rfl rfl rfl rfl ?_|refine rx_yes tbOk rfl rfl rfl rfl rfl rfl ?_|refine x_no rfl rfl (lookO_spec rfl) rfl rfl rfl ?_|refine x_un rfl rfl (lookO_spec rfl) rfl rfl ?_)|((first|refine' w_q rfl rfl ?xa rfl ?_|refine' v_q rfl rfl ?xa rfl ?_|refine' w_yes rfl rfl (lookO_spec rfl) rfl ?xa rfl ?_|refine' v_yes rfl rfl (lookO_spec rfl) rfl ?xa rfl ?_); case xa => first|exact k_index tbOk rfl rfl rfl rfl (by omega) (edges_at (by omega))|exact k_call (f_eqMsg (_, _, _)) rfl ⟨asA_agg (evO_spec rfl) ⟨cAr_r, cAr_r, cAr_r, trivial⟩, asA_agg (evO_spec rfl) ⟨cAr_r, cAr_r, cAr_r, trivial⟩, trivial⟩)|((first|refine aw_ways rfl ?_ ?_|refine r_split rfl rfl rfl ?_ ?_) <;> intro hg_ <;> fail_if_success (exact Bool.noConfusion hg_)) <;> (try simp only [prn] at hg_) <;> (try first|contradiction|(exfalso; omega)))
  · exact ⟨k + 1, by omega, by (refine weak_ren [] rfl ?_ ?_ <;> repeat' (first|exact trivial|refine subR_cons rfl ?_ ?_|refine subHR_cons rfl ?_ ?_|rfl|(refine d_int ?_; (first|rfl|omega|(rw [IntWalk.i64_in _ (by omega)] <;> omega)|(simp; done)|(simp; omega)))|(refine d_bool ?_; (first|(simp_all; done)|(rw [Bool.eq_iff_iff]; simp_all; done)|(rw [Bool.eq_iff_iff]; simp_all; omega)|(rw [Bool.eq_iff_iff]; simp; omega))))), by omega⟩
  · exact ret_tmp rfl (dres_bool rfl)

set_option maxRecDepth 100000 in
set_option maxHeartbeats 2000000 in
theorem f_eqBoolS (nil nil' : Bool) (xs : List Bool) (hl : xs.length ≤ 1048576) : Fn Try.prog 42 [.one (row nil 1 (bools xs)), .one (row nil' 1 (bools xs))] (.v (.one (bool true))) := by
  have hlen := bools_len xs
  refine fn_of (l := [.tmp 4]) Try.func42 (by kernel_rfl) rfl Try.ntmps42 rfl rfl ?_; simp only [argEnv, P0.d, Nat.reduceAdd, List.map_cons, List.map_nil]
  repeat' (first|(with_reducible first|refine aw_seq ?_|refine thn_normal ?_|refine thn_ret ?_|refine thn_exit ?_|refine blk_normal ?_|refine blk_ret ?_|refine blk_hit ?_|refine blk_miss rfl ?_|refine aw_block ?_|refine aw_ret ?_|refine aw_skip ?_|refine aw_exit ?_|refine w_nil ?_|refine x_nil (by kernel_rfl) ?_)|refine aw_region ?_|refine aw_region_draw (by kernel_rfl) ?_|refine aw_yes rfl ?_|refine aw_no rfl ?_|((with_reducible refine w_seq ?_); first|refine r_q tbOk rfl rfl rfl rfl ?_|refine r_e tbOk rfl rfl rfl rfl rfl ?_|refine r_yes tbOk rfl rfl rfl rfl rfl rfl ?_|refine w_no rfl rfl (lookO_spec rfl) rfl rfl rfl ?_|refine w_un rfl rfl (lookO_spec rfl) rfl rfl ?_)|((with_reducible refine w_drw ?_); first|refine rx_q tbOk rfl rfl rfl rfl ?_|refine rx_e tbOk rfl rfl rfl rfl rfl ?_|refine rx_yes tbOk rfl rfl rfl rfl rfl rfl ?_|refine x_no rfl rfl (lookO_spec rfl) rfl rfl rfl ?_|refine x_un rfl rfl (lookO_spec rfl) rfl rfl ?_)|((first|refine aw_ways rfl ?_ ?_|refine r_split rfl rfl rfl ?_ ?_) <;> intro hg_ <;> fail_if_success (exact Bool.noConfusion hg_)) <;> (try simp only [prn] at hg_) <;> (try first|contradiction|(exfalso; omega)))
  refine aw_loopI (fun k : Nat => k ≤ xs.length) (fun k => mkS 26 [(5, .one (.r true (int k))), (0, .one (.r false (row nil 1 (bools xs)))), (1, .one (.r false (row nil' 1 (bools xs))))] []) (fun k => xs.length - k) 0 (Nat.zero_le _) (by (refine weak_ren [] rfl ?_ ?_ <;> repeat' (first|exact trivial|refine subR_cons rfl ?_ ?_|refine subHR_cons rfl ?_ ?_|rfl|(refine d_int ?_; (first|rfl|omega|(rw [IntWalk.i64_in _ (by omega)] <;> omega)|(simp; done)|(simp; omega)))|(refine d_bool ?_; (first|(simp_all; done)|(rw [Bool.eq_iff_iff]; simp_all; done)|(rw [Bool.eq_iff_iff]; simp_all; omega)|(rw [Bool.eq_iff_iff]; simp; omega)))))) ?_
  intro k hk
  by_cases hlt : k < xs.length
  · have hix := bools_at hlt
    generalize xs[k] = b at *
    cases b
    all_goals
      repeat' (first|(with_reducible first|refine aw_seq ?_|refine thn_normal ?_|refine thn_ret ?_|refine thn_exit ?_|refine blk_normal ?_|refine blk_ret ?_|refine blk_hit ?_|refine blk_miss rfl ?_|refine aw_block ?_|refine aw_ret ?_|refine aw_skip ?_|refine aw_exit ?_|refine w_nil ?_|refine x_nil (by kernel_rfl) ?_)|refine aw_region ?_|refine aw_region_draw (by kernel_rfl) ?_|refine aw_yes rfl ?_|refine aw_no rfl ?_|((with_reducible refine w_seq ?_); first|refine r_q tbOk rfl rfl rfl rfl ?_|refine r_e tbOk rfl rfl rfl rfl rfl ?_|refine r_yes tbOk rfl rfl rfl rfl rfl rfl ?_|refine w_no rfl rfl (lookO_spec rfl) rfl rfl rfl ?_|refine w_un rfl rfl (lookO_spec rfl) rfl rfl ?_)|((with_reducible refine w_drw ?_); first|refine rx_q tbOk rfl rfl rfl rfl ?_|refine rx_e tbOk rfl rfl rfl rfl rfl ?_|refine rx_yes tbOk rfl rfl rfl rfl rfl rfl ?_|refine x_no rfl rfl (lookO_spec rfl) rfl rfl rfl ?_|refine x_un rfl rfl (lookO_spec rfl) rfl rfl ?_)|((first|refine' w_q rfl rfl ?xa rfl ?_|refine' v_q rfl rfl ?xa rfl ?_|refine' w_yes rfl rfl (lookO_spec rfl) rfl ?xa rfl ?_|refine' v_yes rfl rfl (lookO_spec rfl) rfl ?xa rfl ?_); case xa => first|exact k_index tbOk rfl rfl rfl rfl (by omega) hix|exact k_neB bo4 rfl rfl rfl)|((first|refine aw_ways rfl ?_ ?_|refine r_split rfl rfl rfl ?_ ?_) <;> intro hg_ <;> fail_if_success (exact Bool.noConfusion hg_)) <;> (try simp only [prn] at hg_) <;> (try first|contradiction|(exfalso; omega)))
      all_goals first
       |exact ⟨k + 1, by omega, by (refine weak_ren [] rfl ?_ ?_ <;> repeat' (first|exact trivial|refine subR_cons rfl ?_ ?_|refine subHR_cons rfl ?_ ?_|rfl|(refine d_int ?_; (first|rfl|omega|(rw [IntWalk.i64_in _ (by omega)] <;> omega)|(simp; done)|(simp; omega)))|(refine d_bool ?_; (first|(simp_all; done)|(rw [Bool.eq_iff_iff]; simp_all; done)|(rw [Bool.eq_iff_iff]; simp_all; omega)|(rw [Bool.eq_iff_iff]; simp; omega))))), by omega⟩
        | (exfalso; simp at hg_; done)
        | trace_state
  · repeat' (first|(with_reducible first|refine aw_seq ?_|refine thn_normal ?_|refine thn_ret ?_|refine thn_exit ?_|refine blk_normal ?_|refine blk_ret ?_|refine blk_hit ?_|refine blk_miss rfl ?_|refine aw_block ?_|refine aw_ret ?_|refine aw_skip ?_|refine aw_exit ?_|refine w_nil ?_|refine x_nil (by kernel_rfl) ?_)|refine aw_region ?_|refine aw_region_draw (by kernel_rfl) ?_|refine aw_yes rfl ?_|refine aw_no rfl ?_|((with_reducible refine w_seq ?_); first|refine r_q tbOk rfl rfl rfl rfl ?_|refine r_e tbOk rfl rfl rfl rfl rfl ?_|refine r_yes tbOk rfl rfl rfl rfl rfl rfl ?_|refine w_no rfl rfl (lookO_spec rfl) rfl rfl rfl ?_|refine w_un rfl rfl (lookO_spec rfl) rfl rfl ?_)|((with_reducible refine w_drw ?_); first|refine rx_q tbOk rfl rfl rfl rfl ?_|refine rx_e tbOk rfl rfl rfl rfl rfl ?_|refine rx_yes tbOk rfl rfl rfl rfl rfl rfl ?_|refine x_no rfl rfl (lookO_spec rfl) rfl rfl rfl ?_|refine x_un rfl rfl (lookO_spec rfl) rfl rfl ?_)|((first|refine aw_ways rfl ?_ ?_|refine r_split rfl rfl rfl ?_ ?_) <;> intro hg_ <;> fail_if_success (exact Bool.noConfusion hg_)) <;> (try simp only [prn] at hg_) <;> (try first|contradiction|(exfalso; omega)))
    all_goals first
      | exact ret_tmp rfl (dres_bool rfl)
      | trace_state
def mB (k : Int) (i : Nat) : Bool := decide ((k + (i : Int)).tmod 3 = 0)
def upB (k : Int) (n : Nat) : List Bool := (List.range n).map (mB k)
theorem upB_len (k : Int) (n : Nat) : (upB k n).length = n := by unfold upB; simp
theorem upB_get {k : Int} {n i : Nat} (h : i < n) : (upB k n)[i]? = some (mB k i) := by unfold upB; simp [h]
def mixB (k : Int) (xs : List Bool) (j : Nat) : List Bool := upB k j ++ xs.drop j
theorem mixB_len {k : Int} {xs : List Bool} {j : Nat} (h : j ≤ xs.length) : (mixB k xs j).length = xs.length := by unfold mixB; rw [List.length_append, upB_len, List.length_drop]; omega
theorem mixB_set {k : Int} {xs : List Bool} {j : Nat} (h : j < xs.length) : (mixB k xs j).set j (mB k j) = mixB k xs (j + 1) := by
  unfold mixB
  rw [List.set_append_right _ _ (by rw [upB_len]; omega), upB_len, Nat.sub_self, List.drop_eq_getElem_cons h, List.set_cons_zero]
  unfold upB
  rw [List.range_succ, List.map_append, List.append_assoc]; rfl
theorem mixB_all {k : Int} {xs : List Bool} : mixB k xs xs.length = upB k xs.length := by unfold mixB; rw [List.drop_length, List.append_nil]
theorem bools_setN (xs : List Bool) (i : Nat) (x : Bool) : (bools xs).set i (.one (bool x)) = bools (xs.set i x) := by unfold bools; rw [List.map_set]
set_option maxRecDepth 100000 in
set_option maxHeartbeats 4000000 in
theorem f_markBoolS (xs : List Bool) (k : Int) (h0 : 0 ≤ k) (hk : k ≤ 100000000) (hl : xs.length ≤ 1048576) :
    FnS Try.prog 45 [.one (.own 1000000000 0 xs.length 1), .one (.r false (int k))] [(1000000000, .sl 4 1 true (bools xs))] (.one (.r true (int (k + xs.length)))) [(1000000000, .sl 4 1 true (bools (upB k xs.length)))] := by
  refine fnS_of (l := [.tmp 4]) Try.func45 (by kernel_rfl) rfl Try.ntmps45 rfl rfl ?_; simp only [dEnv, Nat.reduceAdd]
  repeat' (first|(with_reducible first|refine aw_seq ?_|refine thn_normal ?_|refine thn_ret ?_|refine thn_exit ?_|refine blk_normal ?_|refine blk_ret ?_|refine blk_hit ?_|refine blk_miss rfl ?_|refine aw_block ?_|refine aw_ret ?_|refine aw_skip ?_|refine aw_exit ?_|refine w_nil ?_|refine x_nil (by kernel_rfl) ?_)|refine aw_region ?_|refine aw_region_draw (by kernel_rfl) ?_|refine aw_yes rfl ?_|refine aw_no rfl ?_|((with_reducible refine w_seq ?_); first|refine r_q tbOk rfl rfl rfl rfl ?_|refine r_e tbOk rfl rfl rfl rfl rfl ?_|refine r_yes tbOk rfl rfl rfl rfl rfl rfl ?_|refine w_no rfl rfl (lookO_spec rfl) rfl rfl rfl ?_|refine w_un rfl rfl (lookO_spec rfl) rfl rfl ?_)|((with_reducible refine w_drw ?_); first|refine rx_q tbOk rfl rfl rfl rfl ?_|refine rx_e tbOk rfl rfl rfl rfl rfl ?_|refine rx_yes tbOk rfl rfl rfl rfl rfl rfl ?_|refine x_no rfl rfl (lookO_spec rfl) rfl rfl rfl ?_|refine x_un rfl rfl (lookO_spec rfl) rfl rfl ?_)|((first|refine aw_ways rfl ?_ ?_|refine r_split rfl rfl rfl ?_ ?_) <;> intro hg_ <;> fail_if_success (exact Bool.noConfusion hg_)) <;> (try simp only [prn] at hg_) <;> (try first|contradiction|(exfalso; omega)))
  refine aw_loopI (fun j : Nat => j ≤ xs.length) (fun j => mkS 21 [(5, .one (.r true (int j))), (1, .one (.r (decide (0 < j)) (int (k + j)))), (0, .one (.own 1000000000 0 xs.length 1))] [(1000000000, .sl 4 1 true (bools (mixB k xs j)))]) (fun j => xs.length - j) 0 (Nat.zero_le _) (by (refine weak_ren [] rfl ?_ ?_ <;> repeat' (first|exact trivial|refine subR_cons rfl ?_ ?_|refine subHR_cons rfl ?_ ?_|rfl|(refine d_int ?_; (first|rfl|omega|(rw [IntWalk.i64_in _ (by omega)] <;> omega)|(simp; done)|(simp; omega)))|(refine d_bool ?_; (first|(simp_all; done)|(rw [Bool.eq_iff_iff]; simp_all; done)|(rw [Bool.eq_iff_iff]; simp_all; omega)|(rw [Bool.eq_iff_iff]; simp; omega)))|exact d_int (by omega)))) ?_
  intro j hj
  have hlen : (bools (mixB k xs j)).length = xs.length := by rw [bools_len, mixB_len hj]
  by_cases hlt : j < xs.length
  · have hS : (bools (mixB k xs j)).set (0 + ((j : Nat) : Int).toNat) (.one (bool (decide ((k + (j : Int)).tmod 3 = 0)))) = bools (mixB k xs (j + 1)) := by rw [Nat.zero_add, Int.toNat_natCast, ← mixB_set hlt, ← bools_setN]; rfl
    have hw : IntKind.i64.wrap ((j : Int) + 1) = ((j + 1 : Nat) : Int) := by rw [IntWalk.i64_in _ (by omega)]; omega
    have hw2 : IntKind.i64.wrap (k + (j : Int) + 1) = k + ((j + 1 : Nat) : Int) := by rw [IntWalk.i64_in _ (by omega)]; omega
    repeat' (first|(with_reducible first|refine aw_seq ?_|refine thn_normal ?_|refine thn_ret ?_|refine thn_exit ?_|refine blk_normal ?_|refine blk_ret ?_|refine blk_hit ?_|refine blk_miss rfl ?_|refine aw_block ?_|refine aw_ret ?_|refine aw_skip ?_|refine aw_exit ?_|refine w_nil ?_|refine x_nil (by kernel_rfl) ?_)|refine aw_region ?_|refine aw_region_draw (by kernel_rfl) ?_|refine aw_yes rfl ?_|refine aw_no rfl ?_|((with_reducible refine w_seq ?_); first|refine r_q tbOk rfl rfl rfl rfl ?_|refine r_e tbOk rfl rfl rfl rfl rfl ?_|refine r_yes tbOk rfl rfl rfl rfl rfl rfl ?_|refine w_no rfl rfl (lookO_spec rfl) rfl rfl rfl ?_|refine w_un rfl rfl (lookO_spec rfl) rfl rfl ?_)|((with_reducible refine w_drw ?_); first|refine rx_q tbOk rfl rfl rfl rfl ?_|refine rx_e tbOk rfl rfl rfl rfl rfl ?_|refine rx_yes tbOk rfl rfl rfl rfl rfl rfl ?_|refine x_no rfl rfl (lookO_spec rfl) rfl rfl rfl ?_|refine x_un rfl rfl (lookO_spec rfl) rfl rfl ?_)|((first|refine' w_q rfl rfl ?xa rfl ?_|refine' v_q rfl rfl ?xa rfl ?_|refine' w_yes rfl rfl (lookO_spec rfl) rfl ?xa rfl ?_|refine' v_yes rfl rfl (lookO_spec rfl) rfl ?xa rfl ?_); case xa => first|exact k_rem rfl rfl rfl (by omega)|exact k_indexO tbOk rfl rfl rfl rfl (by omega) (by omega))|((first|refine' w_e rfl ?xa ?xb ?xc ?xe ?_|refine' v_e rfl ?xa ?xb ?xc ?xe ?_); (case xa => exact e_storeS tbOk rfl rfl rfl rfl rfl rfl rfl rfl (by omega)); (case xb => rfl); (case xc => rfl); (case xe => rfl); try dsimp only [P0.d, Res.d, List.map_cons, List.map_nil, List.set_cons_zero, List.set_cons_succ, Nat.reduceAdd])|((first|refine aw_ways rfl ?_ ?_|refine r_split rfl rfl rfl ?_ ?_) <;> intro hg_ <;> fail_if_success (exact Bool.noConfusion hg_)) <;> (try simp only [prn] at hg_) <;> (try first|contradiction|(exfalso; omega)))
    all_goals first
     |exact ⟨j + 1, by omega, by (refine weak_ren [] rfl ?_ ?_ <;> repeat' (first|exact trivial|refine subR_cons rfl ?_ ?_|refine subHR_cons rfl ?_ ?_|rfl|(refine d_int ?_; (first|rfl|omega|(rw [IntWalk.i64_in _ (by omega)] <;> omega)|(simp; done)|(simp; omega)))|(refine d_bool ?_; (first|(simp_all; done)|(rw [Bool.eq_iff_iff]; simp_all; done)|(rw [Bool.eq_iff_iff]; simp_all; omega)|(rw [Bool.eq_iff_iff]; simp; omega)))|exact d_int hw|exact d_int hw2|exact ob_sl rfl hS)), by omega⟩
      | trace_state
  · obtain rfl : j = xs.length := by omega
    rw [mixB_all]
    repeat' (first|(with_reducible first|refine aw_seq ?_|refine thn_normal ?_|refine thn_ret ?_|refine thn_exit ?_|refine blk_normal ?_|refine blk_ret ?_|refine blk_hit ?_|refine blk_miss rfl ?_|refine aw_block ?_|refine aw_ret ?_|refine aw_skip ?_|refine aw_exit ?_|refine w_nil ?_|refine x_nil (by kernel_rfl) ?_)|refine aw_region ?_|refine aw_region_draw (by kernel_rfl) ?_|refine aw_yes rfl ?_|refine aw_no rfl ?_|((with_reducible refine w_seq ?_); first|refine r_q tbOk rfl rfl rfl rfl ?_|refine r_e tbOk rfl rfl rfl rfl rfl ?_|refine r_yes tbOk rfl rfl rfl rfl rfl rfl ?_|refine w_no rfl rfl (lookO_spec rfl) rfl rfl rfl ?_|refine w_un rfl rfl (lookO_spec rfl) rfl rfl ?_)|((with_reducible refine w_drw ?_); first|refine rx_q tbOk rfl rfl rfl rfl ?_|refine rx_e tbOk rfl rfl rfl rfl rfl ?_|refine rx_yes tbOk rfl rfl rfl rfl rfl rfl ?_|refine x_no rfl rfl (lookO_spec rfl) rfl rfl rfl ?_|refine x_un rfl rfl (lookO_spec rfl) rfl rfl ?_)|((first|refine aw_ways rfl ?_ ?_|refine r_split rfl rfl rfl ?_ ?_) <;> intro hg_ <;> fail_if_success (exact Bool.noConfusion hg_)) <;> (try simp only [prn] at hg_) <;> (try first|contradiction|(exfalso; omega)))
    all_goals first
     |exact ret_D [] rfl (by (repeat' (first|exact trivial|refine subHR_cons rfl ?_ ?_|rfl))) (retD_tmp rfl imp_plain)
      | trace_state
set_option maxRecDepth 100000 in
set_option maxHeartbeats 4000000 in
theorem f_heldBoolS (nil : Bool) (k : Int) (n : Nat) (h0 : 0 ≤ k) (hk : k ≤ 100000000) (hl : n ≤ 1048576) :
    Fn Try.prog 48 [.one (row nil 1 (bools (upB k n))), iP k] (.v (iP (k + n))) := by
  have hlen : (bools (upB k n)).length = n := by rw [bools_len, upB_len]
  refine fn_of (l := [.tmp 4]) Try.func48 (by kernel_rfl) rfl Try.ntmps48 rfl rfl ?_; simp only [argEnv, P0.d, Nat.reduceAdd]
  repeat' (first|(with_reducible first|refine aw_seq ?_|refine thn_normal ?_|refine thn_ret ?_|refine thn_exit ?_|refine blk_normal ?_|refine blk_ret ?_|refine blk_hit ?_|refine blk_miss rfl ?_|refine aw_block ?_|refine aw_ret ?_|refine aw_skip ?_|refine aw_exit ?_|refine w_nil ?_|refine x_nil (by kernel_rfl) ?_)|refine aw_region ?_|refine aw_region_draw (by kernel_rfl) ?_|refine aw_yes rfl ?_|refine aw_no rfl ?_|((with_reducible refine w_seq ?_); first|refine r_q tbOk rfl rfl rfl rfl ?_|refine r_e tbOk rfl rfl rfl rfl rfl ?_|refine r_yes tbOk rfl rfl rfl rfl rfl rfl ?_|refine w_no rfl rfl (lookO_spec rfl) rfl rfl rfl ?_|refine w_un rfl rfl (lookO_spec rfl) rfl rfl ?_)|((with_reducible refine w_drw ?_); first|refine rx_q tbOk rfl rfl rfl rfl ?_|refine rx_e tbOk rfl rfl rfl rfl rfl ?_|refine rx_yes tbOk rfl rfl rfl rfl rfl rfl ?_|refine x_no rfl rfl (lookO_spec rfl) rfl rfl rfl ?_|refine x_un rfl rfl (lookO_spec rfl) rfl rfl ?_)|((first|refine aw_ways rfl ?_ ?_|refine r_split rfl rfl rfl ?_ ?_) <;> intro hg_ <;> fail_if_success (exact Bool.noConfusion hg_)) <;> (try simp only [prn] at hg_) <;> (try first|contradiction|(exfalso; omega)))
  refine aw_loopI (fun j : Nat => j ≤ n) (fun j => mkS 23 [(5, .one (.r true (int j))), (1, .one (.r (decide (0 < j)) (int (k + j)))), (0, .one (.r false (row nil 1 (bools (upB k n)))))] []) (fun j => n - j) 0 (Nat.zero_le _) (by (refine weak_ren [] rfl ?_ ?_ <;> repeat' (first|exact trivial|refine subR_cons rfl ?_ ?_|refine subHR_cons rfl ?_ ?_|rfl|(refine d_int ?_; (first|rfl|omega|(rw [IntWalk.i64_in _ (by omega)] <;> omega)|(simp; done)|(simp; omega)))|(refine d_bool ?_; (first|(simp_all; done)|(rw [Bool.eq_iff_iff]; simp_all; done)|(rw [Bool.eq_iff_iff]; simp_all; omega)|(rw [Bool.eq_iff_iff]; simp; omega)))|exact d_int (by omega)))) ?_
  intro j hj
  by_cases hlt : j < n
  · have hix : (bools (upB k n))[((j : Nat) : Int).toNat]? = some (.one (bool (decide ((k + (j : Int)).tmod 3 = 0)))) := by
      unfold bools
      rw [Int.toNat_natCast, List.getElem?_map, upB_get hlt]; rfl
    have hw : IntKind.i64.wrap ((j : Int) + 1) = ((j + 1 : Nat) : Int) := by rw [IntWalk.i64_in _ (by omega)]; omega
    have hw2 : IntKind.i64.wrap (k + (j : Int) + 1) = k + ((j + 1 : Nat) : Int) := by rw [IntWalk.i64_in _ (by omega)]; omega
    repeat' (first|(with_reducible first|refine aw_seq ?_|refine thn_normal ?_|refine thn_ret ?_|refine thn_exit ?_|refine blk_normal ?_|refine blk_ret ?_|refine blk_hit ?_|refine blk_miss rfl ?_|refine aw_block ?_|refine aw_ret ?_|refine aw_skip ?_|refine aw_exit ?_|refine w_nil ?_|refine x_nil (by kernel_rfl) ?_)|refine aw_region ?_|refine aw_region_draw (by kernel_rfl) ?_|refine aw_yes rfl ?_|refine aw_no rfl ?_|((with_reducible refine w_seq ?_); first|refine r_q tbOk rfl rfl rfl rfl ?_|refine r_e tbOk rfl rfl rfl rfl rfl ?_|refine r_yes tbOk rfl rfl rfl rfl rfl rfl ?_|refine w_no rfl rfl (lookO_spec rfl) rfl rfl rfl ?_|refine w_un rfl rfl (lookO_spec rfl) rfl rfl ?_)|((with_reducible refine w_drw ?_); first|refine rx_q tbOk rfl rfl rfl rfl ?_|refine rx_e tbOk rfl rfl rfl rfl rfl ?_|refine rx_yes tbOk rfl rfl rfl rfl rfl rfl ?_|refine x_no rfl rfl (lookO_spec rfl) rfl rfl rfl ?_|refine x_un rfl rfl (lookO_spec rfl) rfl rfl ?_)|((first|refine' w_q rfl rfl ?xa rfl ?_|refine' v_q rfl rfl ?xa rfl ?_|refine' w_yes rfl rfl (lookO_spec rfl) rfl ?xa rfl ?_|refine' v_yes rfl rfl (lookO_spec rfl) rfl ?xa rfl ?_); case xa => first|exact k_index tbOk rfl rfl rfl rfl (by omega) (by exact hix)|exact k_rem rfl rfl rfl (by omega)|exact k_neB bo4 rfl rfl rfl)|((first|refine aw_ways rfl ?_ ?_|refine r_split rfl rfl rfl ?_ ?_) <;> intro hg_ <;> fail_if_success (exact Bool.noConfusion hg_)) <;> (try simp only [prn] at hg_) <;> (try first|contradiction|(exfalso; omega)))
    all_goals first
     |exact ⟨j + 1, by omega, by (refine weak_ren [] rfl ?_ ?_ <;> repeat' (first|exact trivial|refine subR_cons rfl ?_ ?_|refine subHR_cons rfl ?_ ?_|rfl|(refine d_int ?_; (first|rfl|omega|(rw [IntWalk.i64_in _ (by omega)] <;> omega)|(simp; done)|(simp; omega)))|(refine d_bool ?_; (first|(simp_all; done)|(rw [Bool.eq_iff_iff]; simp_all; done)|(rw [Bool.eq_iff_iff]; simp_all; omega)|(rw [Bool.eq_iff_iff]; simp; omega)))|exact d_int hw|exact d_int hw2)), by omega⟩
      | (exfalso; revert hg_; by_cases hq : (k + (j : Int)).tmod 3 = 0 <;> simp [hq]; done)
      | trace_state
  · obtain rfl : j = n := by omega
    repeat' (first|(with_reducible first|refine aw_seq ?_|refine thn_normal ?_|refine thn_ret ?_|refine thn_exit ?_|refine blk_normal ?_|refine blk_ret ?_|refine blk_hit ?_|refine blk_miss rfl ?_|refine aw_block ?_|refine aw_ret ?_|refine aw_skip ?_|refine aw_exit ?_|refine w_nil ?_|refine x_nil (by kernel_rfl) ?_)|refine aw_region ?_|refine aw_region_draw (by kernel_rfl) ?_|refine aw_yes rfl ?_|refine aw_no rfl ?_|((with_reducible refine w_seq ?_); first|refine r_q tbOk rfl rfl rfl rfl ?_|refine r_e tbOk rfl rfl rfl rfl rfl ?_|refine r_yes tbOk rfl rfl rfl rfl rfl rfl ?_|refine w_no rfl rfl (lookO_spec rfl) rfl rfl rfl ?_|refine w_un rfl rfl (lookO_spec rfl) rfl rfl ?_)|((with_reducible refine w_drw ?_); first|refine rx_q tbOk rfl rfl rfl rfl ?_|refine rx_e tbOk rfl rfl rfl rfl rfl ?_|refine rx_yes tbOk rfl rfl rfl rfl rfl rfl ?_|refine x_no rfl rfl (lookO_spec rfl) rfl rfl rfl ?_|refine x_un rfl rfl (lookO_spec rfl) rfl rfl ?_)|((first|refine aw_ways rfl ?_ ?_|refine r_split rfl rfl rfl ?_ ?_) <;> intro hg_ <;> fail_if_success (exact Bool.noConfusion hg_)) <;> (try simp only [prn] at hg_) <;> (try first|contradiction|(exfalso; omega)))
    all_goals first
      | exact ret_tmp rfl (dres_int rfl)
      | trace_state

set_option maxRecDepth 100000 in
set_option maxHeartbeats 4000000 in
theorem f_markMsg0 (nil : Bool) (k : Int) : Fn Try.prog 46 [.one (row nil 3 []), iP k] (.v (iP k)) := by
  refine fn_of (l := [.tmp 4]) Try.func46 (by kernel_rfl) rfl Try.ntmps46 rfl rfl ?_; simp only [argEnv, P0.d, Nat.reduceAdd]
  repeat' (first|(with_reducible first|refine aw_seq ?_|refine thn_normal ?_|refine thn_ret ?_|refine thn_exit ?_|refine blk_normal ?_|refine blk_ret ?_|refine blk_hit ?_|refine blk_miss rfl ?_|refine aw_block ?_|refine aw_ret ?_|refine aw_skip ?_|refine aw_exit ?_|refine w_nil ?_|refine x_nil (by kernel_rfl) ?_)|refine aw_region ?_|refine aw_region_draw (by kernel_rfl) ?_|refine aw_yes rfl ?_|refine aw_no rfl ?_|((with_reducible refine w_seq ?_); first|refine r_q tbOk rfl rfl rfl rfl ?_|refine r_e tbOk rfl rfl rfl rfl rfl ?_|refine r_yes tbOk rfl rfl rfl rfl rfl rfl ?_|refine w_no rfl rfl (lookO_spec rfl) rfl rfl rfl ?_|refine w_un rfl rfl (lookO_spec rfl) rfl rfl ?_)|((with_reducible refine w_drw ?_); first|refine rx_q tbOk rfl rfl rfl rfl ?_|refine rx_e tbOk rfl rfl rfl rfl rfl ?_|refine rx_yes tbOk rfl rfl rfl rfl rfl rfl ?_|refine x_no rfl rfl (lookO_spec rfl) rfl rfl rfl ?_|refine x_un rfl rfl (lookO_spec rfl) rfl rfl ?_)|((first|refine aw_ways rfl ?_ ?_|refine r_split rfl rfl rfl ?_ ?_) <;> intro hg_ <;> fail_if_success (exact Bool.noConfusion hg_)) <;> (try simp only [prn] at hg_) <;> (try first|contradiction|(exfalso; omega)))
  refine aw_loopI (fun _ : Nat => True) (fun _ => mkS 34 [(5, .one (.r true (int 0))), (1, .one (.r false (int k))), (0, .one (.r false (row nil 3 [])))] []) (fun _ => 0) 0 trivial (by (refine weak_ren [] rfl ?_ ?_ <;> repeat' (first|exact trivial|refine subR_cons rfl ?_ ?_|refine subHR_cons rfl ?_ ?_|rfl|(refine d_int ?_; (first|rfl|omega|(rw [IntWalk.i64_in _ (by omega)] <;> omega)|(simp; done)|(simp; omega)))|(refine d_bool ?_; (first|(simp_all; done)|(rw [Bool.eq_iff_iff]; simp_all; done)|(rw [Bool.eq_iff_iff]; simp_all; omega)|(rw [Bool.eq_iff_iff]; simp; omega)))))) ?_
  rintro _ _
  repeat' (first|(with_reducible first|refine aw_seq ?_|refine thn_normal ?_|refine thn_ret ?_|refine thn_exit ?_|refine blk_normal ?_|refine blk_ret ?_|refine blk_hit ?_|refine blk_miss rfl ?_|refine aw_block ?_|refine aw_ret ?_|refine aw_skip ?_|refine aw_exit ?_|refine w_nil ?_|refine x_nil (by kernel_rfl) ?_)|refine aw_region ?_|refine aw_region_draw (by kernel_rfl) ?_|refine aw_yes rfl ?_|refine aw_no rfl ?_|((with_reducible refine w_seq ?_); first|refine r_q tbOk rfl rfl rfl rfl ?_|refine r_e tbOk rfl rfl rfl rfl rfl ?_|refine r_yes tbOk rfl rfl rfl rfl rfl rfl ?_|refine w_no rfl rfl (lookO_spec rfl) rfl rfl rfl ?_|refine w_un rfl rfl (lookO_spec rfl) rfl rfl ?_)|((with_reducible refine w_drw ?_); first|refine rx_q tbOk rfl rfl rfl rfl ?_|refine rx_e tbOk rfl rfl rfl rfl rfl ?_|refine rx_yes tbOk rfl rfl rfl rfl rfl rfl ?_|refine x_no rfl rfl (lookO_spec rfl) rfl rfl rfl ?_|refine x_un rfl rfl (lookO_spec rfl) rfl rfl ?_)|((first|refine aw_ways rfl ?_ ?_|refine r_split rfl rfl rfl ?_ ?_) <;> intro hg_ <;> fail_if_success (exact Bool.noConfusion hg_)) <;> (try simp only [prn] at hg_) <;> (try first|contradiction|(exfalso; omega)))
  all_goals first
    | exact ret_tmp rfl (dres_int rfl)
    | (exfalso; simp at *; done)
    | trace_state
set_option maxRecDepth 100000 in
set_option maxHeartbeats 4000000 in
theorem f_markBool0 (nil : Bool) (k : Int) : Fn Try.prog 45 [.one (row nil 1 []), iP k] (.v (iP k)) := by
  refine fn_of (l := [.tmp 4]) Try.func45 (by kernel_rfl) rfl Try.ntmps45 rfl rfl ?_; simp only [argEnv, P0.d, Nat.reduceAdd]
  repeat' (first|(with_reducible first|refine aw_seq ?_|refine thn_normal ?_|refine thn_ret ?_|refine thn_exit ?_|refine blk_normal ?_|refine blk_ret ?_|refine blk_hit ?_|refine blk_miss rfl ?_|refine aw_block ?_|refine aw_ret ?_|refine aw_skip ?_|refine aw_exit ?_|refine w_nil ?_|refine x_nil (by kernel_rfl) ?_)|refine aw_region ?_|refine aw_region_draw (by kernel_rfl) ?_|refine aw_yes rfl ?_|refine aw_no rfl ?_|((with_reducible refine w_seq ?_); first|refine r_q tbOk rfl rfl rfl rfl ?_|refine r_e tbOk rfl rfl rfl rfl rfl ?_|refine r_yes tbOk rfl rfl rfl rfl rfl rfl ?_|refine w_no rfl rfl (lookO_spec rfl) rfl rfl rfl ?_|refine w_un rfl rfl (lookO_spec rfl) rfl rfl ?_)|((with_reducible refine w_drw ?_); first|refine rx_q tbOk rfl rfl rfl rfl ?_|refine rx_e tbOk rfl rfl rfl rfl rfl ?_|refine rx_yes tbOk rfl rfl rfl rfl rfl rfl ?_|refine x_no rfl rfl (lookO_spec rfl) rfl rfl rfl ?_|refine x_un rfl rfl (lookO_spec rfl) rfl rfl ?_)|((first|refine aw_ways rfl ?_ ?_|refine r_split rfl rfl rfl ?_ ?_) <;> intro hg_ <;> fail_if_success (exact Bool.noConfusion hg_)) <;> (try simp only [prn] at hg_) <;> (try first|contradiction|(exfalso; omega)))
  refine aw_loopI (fun _ : Nat => True) (fun _ => mkS 21 [(5, .one (.r true (int 0))), (1, .one (.r false (int k))), (0, .one (.r false (row nil 1 [])))] []) (fun _ => 0) 0 trivial (by (refine weak_ren [] rfl ?_ ?_ <;> repeat' (first|exact trivial|refine subR_cons rfl ?_ ?_|refine subHR_cons rfl ?_ ?_|rfl|(refine d_int ?_; (first|rfl|omega|(rw [IntWalk.i64_in _ (by omega)] <;> omega)|(simp; done)|(simp; omega)))|(refine d_bool ?_; (first|(simp_all; done)|(rw [Bool.eq_iff_iff]; simp_all; done)|(rw [Bool.eq_iff_iff]; simp_all; omega)|(rw [Bool.eq_iff_iff]; simp; omega)))))) ?_
  rintro _ _
  repeat' (first|(with_reducible first|refine aw_seq ?_|refine thn_normal ?_|refine thn_ret ?_|refine thn_exit ?_|refine blk_normal ?_|refine blk_ret ?_|refine blk_hit ?_|refine blk_miss rfl ?_|refine aw_block ?_|refine aw_ret ?_|refine aw_skip ?_|refine aw_exit ?_|refine w_nil ?_|refine x_nil (by kernel_rfl) ?_)|refine aw_region ?_|refine aw_region_draw (by kernel_rfl) ?_|refine aw_yes rfl ?_|refine aw_no rfl ?_|((with_reducible refine w_seq ?_); first|refine r_q tbOk rfl rfl rfl rfl ?_|refine r_e tbOk rfl rfl rfl rfl rfl ?_|refine r_yes tbOk rfl rfl rfl rfl rfl rfl ?_|refine w_no rfl rfl (lookO_spec rfl) rfl rfl rfl ?_|refine w_un rfl rfl (lookO_spec rfl) rfl rfl ?_)|((with_reducible refine w_drw ?_); first|refine rx_q tbOk rfl rfl rfl rfl ?_|refine rx_e tbOk rfl rfl rfl rfl rfl ?_|refine rx_yes tbOk rfl rfl rfl rfl rfl rfl ?_|refine x_no rfl rfl (lookO_spec rfl) rfl rfl rfl ?_|refine x_un rfl rfl (lookO_spec rfl) rfl rfl ?_)|((first|refine aw_ways rfl ?_ ?_|refine r_split rfl rfl rfl ?_ ?_) <;> intro hg_ <;> fail_if_success (exact Bool.noConfusion hg_)) <;> (try simp only [prn] at hg_) <;> (try first|contradiction|(exfalso; omega)))
  all_goals first
    | exact ret_tmp rfl (dres_int rfl)
    | (exfalso; simp at *; done)
    | trace_state
set_option maxRecDepth 100000 in
set_option maxHeartbeats 4000000 in
theorem f_eqState (r : Int) (nv ng nm nv' ng' nm' : Bool) (vs : List Int) (gs : List Bool) (ms : List E3) (h1 : vs.length ≤ 1048576) (h2 : gs.length ≤ 1048576) (h3 : ms.length ≤ 1048576) :
    Fn Try.prog 11 [stateP r nv vs ng gs nm ms, stateP r nv' vs ng' gs nm' ms] (.v (.one (bool true))) := by
  have K1 := f_eqIntS nv nv' vs h1
  have K2 := f_eqBoolS ng ng' gs h2
  have K3 := f_eqMsgS nm nm' ms h3
  refine fn_of (l := [.tmp 4]) Try.func11 (by kernel_rfl) rfl Try.ntmps11 rfl rfl ?_; simp only [argEnv, P0.d, Nat.reduceAdd, stateP, List.map_cons, List.map_nil]
  repeat' (first|(with_reducible first|refine aw_seq ?_|refine thn_normal ?_|refine thn_ret ?_|refine thn_exit ?_|refine blk_normal ?_|refine blk_ret ?_|refine blk_hit ?_|refine blk_miss rfl ?_|refine aw_block ?_|refine aw_ret ?_|refine aw_skip ?_|refine aw_exit ?_|refine w_nil ?_|refine x_nil (by kernel_rfl) ?_)|refine aw_region ?_|refine aw_region_draw (by kernel_rfl) ?_|refine aw_yes rfl ?_|refine aw_no rfl ?_|((with_reducible refine w_seq ?_); first|refine r_q tbOk rfl rfl rfl rfl ?_|refine r_e tbOk rfl rfl rfl rfl rfl ?_|refine r_yes tbOk rfl rfl rfl rfl rfl rfl ?_|refine w_no rfl rfl (lookO_spec rfl) rfl rfl rfl ?_|refine w_un rfl rfl (lookO_spec rfl) rfl rfl ?_)|((with_reducible refine w_drw ?_); first|refine rx_q tbOk rfl rfl rfl rfl ?_|refine rx_e tbOk rfl rfl rfl rfl rfl ?_|refine rx_yes tbOk rfl rfl rfl rfl rfl rfl ?_|refine x_no rfl rfl (lookO_spec rfl) rfl rfl rfl ?_|refine x_un rfl rfl (lookO_spec rfl) rfl rfl ?_)|((first|refine' w_q rfl rfl ?xa rfl ?_|refine' v_q rfl rfl ?xa rfl ?_|refine' w_yes rfl rfl (lookO_spec rfl) rfl ?xa rfl ?_|refine' v_yes rfl rfl (lookO_spec rfl) rfl ?xa rfl ?_); case xa => first|exact k_call K1 rfl ⟨asA_r (evO_spec rfl), asA_r (evO_spec rfl), trivial⟩|exact k_call K2 rfl ⟨asA_r (evO_spec rfl), asA_r (evO_spec rfl), trivial⟩|exact k_call K3 rfl ⟨asA_r (evO_spec rfl), asA_r (evO_spec rfl), trivial⟩)|((first|refine aw_ways rfl ?_ ?_|refine r_split rfl rfl rfl ?_ ?_) <;> intro hg_ <;> fail_if_success (exact Bool.noConfusion hg_)) <;> (try simp only [prn] at hg_) <;> (try first|contradiction|(exfalso; omega)))
  all_goals first
    | exact ret_tmp rfl (dres_bool rfl)
    | (exfalso; simp at *; done)
    | trace_state
set_option maxRecDepth 100000 in
set_option maxHeartbeats 4000000 in
theorem f_heldState (r : Int) (nv ng nm : Bool) (k : Int) (a b c : Nat) (h0 : 0 ≤ k) (hk : k ≤ 10000000) (h1 : a ≤ 1048576) (h2 : b ≤ 1048576) (h3 : c ≤ 1048576) :
    Fn Try.prog 15 [stateP r nv (upF k a) ng (upB (k + a) b) nm (upE (k + a + b) c), iP k] (.v (iP (k + a + b + 3 * c))) := by
  have K1 := f_heldIntS nv k a h0 (by omega) h1
  have K2 := f_heldBoolS ng (k + a) b (by omega) (by omega) h2
  have K3 := f_heldMsgS nm (k + a + b) c (by omega) (by omega) h3
  refine fn_of (l := [.tmp 4]) Try.func15 (by kernel_rfl) rfl Try.ntmps15 rfl rfl ?_; simp only [argEnv, P0.d, Nat.reduceAdd, stateP, List.map_cons, List.map_nil]
  repeat' (first|(with_reducible first|refine aw_seq ?_|refine thn_normal ?_|refine thn_ret ?_|refine thn_exit ?_|refine blk_normal ?_|refine blk_ret ?_|refine blk_hit ?_|refine blk_miss rfl ?_|refine aw_block ?_|refine aw_ret ?_|refine aw_skip ?_|refine aw_exit ?_|refine w_nil ?_|refine x_nil (by kernel_rfl) ?_)|refine aw_region ?_|refine aw_region_draw (by kernel_rfl) ?_|refine aw_yes rfl ?_|refine aw_no rfl ?_|((with_reducible refine w_seq ?_); first|refine r_q tbOk rfl rfl rfl rfl ?_|refine r_e tbOk rfl rfl rfl rfl rfl ?_|refine r_yes tbOk rfl rfl rfl rfl rfl rfl ?_|refine w_no rfl rfl (lookO_spec rfl) rfl rfl rfl ?_|refine w_un rfl rfl (lookO_spec rfl) rfl rfl ?_)|((with_reducible refine w_drw ?_); first|refine rx_q tbOk rfl rfl rfl rfl ?_|refine rx_e tbOk rfl rfl rfl rfl rfl ?_|refine rx_yes tbOk rfl rfl rfl rfl rfl rfl ?_|refine x_no rfl rfl (lookO_spec rfl) rfl rfl rfl ?_|refine x_un rfl rfl (lookO_spec rfl) rfl rfl ?_)|((first|refine' w_q rfl rfl ?xa rfl ?_|refine' v_q rfl rfl ?xa rfl ?_|refine' w_yes rfl rfl (lookO_spec rfl) rfl ?xa rfl ?_|refine' v_yes rfl rfl (lookO_spec rfl) rfl ?xa rfl ?_); case xa => first|exact k_call K1 rfl ⟨asA_r (evO_spec rfl), asA_r (evO_spec rfl), trivial⟩|exact k_call K2 rfl ⟨asA_r (evO_spec rfl), asA_r (evO_spec rfl), trivial⟩|exact k_call K3 rfl ⟨asA_r (evO_spec rfl), asA_r (evO_spec rfl), trivial⟩)|((first|refine aw_ways rfl ?_ ?_|refine r_split rfl rfl rfl ?_ ?_) <;> intro hg_ <;> fail_if_success (exact Bool.noConfusion hg_)) <;> (try simp only [prn] at hg_) <;> (try first|contradiction|(exfalso; omega)))
  all_goals first
    | exact ret_tmp rfl (dres_int rfl)
    | (exfalso; omega)
    | trace_state
set_option maxRecDepth 100000 in
set_option maxHeartbeats 4000000 in
theorem f_markStZZ (r k : Int) (nv ng nm : Bool) : Fn Try.prog 14 [stateP r nv [] ng [] nm [], iP k] (.v (iP k)) := by
  have K1 := f_markInt0 nv k
  have K2 := f_markBool0 ng k
  have K3 := f_markMsg0 nm k
  refine fn_of (l := [.tmp 4]) Try.func14 (by kernel_rfl) rfl Try.ntmps14 rfl rfl ?_; simp only [argEnv, P0.d, Nat.reduceAdd, stateP, List.map_cons, List.map_nil]
  repeat' (first|(with_reducible first|refine aw_seq ?_|refine thn_normal ?_|refine thn_ret ?_|refine thn_exit ?_|refine blk_normal ?_|refine blk_ret ?_|refine blk_hit ?_|refine blk_miss rfl ?_|refine aw_block ?_|refine aw_ret ?_|refine aw_skip ?_|refine aw_exit ?_|refine w_nil ?_|refine x_nil (by kernel_rfl) ?_)|refine aw_region ?_|refine aw_region_draw (by kernel_rfl) ?_|refine aw_yes rfl ?_|refine aw_no rfl ?_|((with_reducible refine w_seq ?_); first|refine r_q tbOk rfl rfl rfl rfl ?_|refine r_e tbOk rfl rfl rfl rfl rfl ?_|refine r_yes tbOk rfl rfl rfl rfl rfl rfl ?_|refine w_no rfl rfl (lookO_spec rfl) rfl rfl rfl ?_|refine w_un rfl rfl (lookO_spec rfl) rfl rfl ?_)|((with_reducible refine w_drw ?_); first|refine rx_q tbOk rfl rfl rfl rfl ?_|refine rx_e tbOk rfl rfl rfl rfl rfl ?_|refine rx_yes tbOk rfl rfl rfl rfl rfl rfl ?_|refine x_no rfl rfl (lookO_spec rfl) rfl rfl rfl ?_|refine x_un rfl rfl (lookO_spec rfl) rfl rfl ?_)|((first|refine' w_q rfl rfl ?xa rfl ?_|refine' v_q rfl rfl ?xa rfl ?_|refine' w_yes rfl rfl (lookO_spec rfl) rfl ?xa rfl ?_|refine' v_yes rfl rfl (lookO_spec rfl) rfl ?xa rfl ?_); case xa => first|exact k_call K1 rfl ⟨asA_r (evO_spec rfl), asA_r (evO_spec rfl), trivial⟩|exact k_call K2 rfl ⟨asA_r (evO_spec rfl), asA_r (evO_spec rfl), trivial⟩|exact k_call K3 rfl ⟨asA_r (evO_spec rfl), asA_r (evO_spec rfl), trivial⟩)|((first|refine aw_ways rfl ?_ ?_|refine r_split rfl rfl rfl ?_ ?_) <;> intro hg_ <;> fail_if_success (exact Bool.noConfusion hg_)) <;> (try simp only [prn] at hg_) <;> (try first|contradiction|(exfalso; omega)))
  all_goals first
    | exact ret_tmp rfl (dres_int rfl)
    | (exfalso; omega)
    | trace_state
set_option maxRecDepth 100000 in
set_option maxHeartbeats 4000000 in
theorem f_markStOZ (mk : Bool) (r : Int) (vs : List Int) (gs : List Bool) (k : Int) (h0 : 0 ≤ k) (hk : k ≤ 10000000) (h1 : vs.length ≤ 1048576) (h2 : gs.length ≤ 1048576) :
    FnS Try.prog 14 [.agg [.r mk (int r), .own 1000000000 0 vs.length 1, .own 1000000001 0 gs.length 1, ZcX], .one (.r false (int k))] [(1000000000, .sl 3 1 true (ints vs)), (1000000001, .sl 4 1 true (bools gs))] (.one (.r true (int (k + vs.length + gs.length)))) [(1000000000, .sl 3 1 true (ints (upF k vs.length))), (1000000001, .sl 4 1 true (bools (upB (k + vs.length) gs.length)))] := by
  have K1 := f_markIntS vs k h0 (by omega) h1
  have K2 := f_markBoolS gs (k + vs.length) (by omega) (by omega) h2
  have K3 := f_markMsg0 true (k + vs.length + gs.length)
  refine fnS_of (l := [.tmp 4]) Try.func14 (by kernel_rfl) rfl Try.ntmps14 rfl rfl ?_; simp only [dEnv, Nat.reduceAdd]
  repeat' (first|(with_reducible first|refine aw_seq ?_|refine thn_normal ?_|refine thn_ret ?_|refine thn_exit ?_|refine blk_normal ?_|refine blk_ret ?_|refine blk_hit ?_|refine blk_miss rfl ?_|refine aw_block ?_|refine aw_ret ?_|refine aw_skip ?_|refine aw_exit ?_|refine w_nil ?_|refine x_nil (by kernel_rfl) ?_)|refine aw_region ?_|refine aw_region_draw (by kernel_rfl) ?_|refine aw_yes rfl ?_|refine aw_no rfl ?_|((with_reducible refine w_seq ?_); first|refine r_q tbOk rfl rfl rfl rfl ?_|refine r_e tbOk rfl rfl rfl rfl rfl ?_|refine r_yes tbOk rfl rfl rfl rfl rfl rfl ?_|refine w_no rfl rfl (lookO_spec rfl) rfl rfl rfl ?_|refine w_un rfl rfl (lookO_spec rfl) rfl rfl ?_)|((with_reducible refine w_drw ?_); first|refine rx_q tbOk rfl rfl rfl rfl ?_|refine rx_e tbOk rfl rfl rfl rfl rfl ?_|refine rx_yes tbOk rfl rfl rfl rfl rfl rfl ?_|refine x_no rfl rfl (lookO_spec rfl) rfl rfl rfl ?_|refine x_un rfl rfl (lookO_spec rfl) rfl rfl ?_)|((first|refine' w_q rfl rfl ?xa rfl ?_|refine' v_q rfl rfl ?xa rfl ?_|refine' w_yes rfl rfl (lookO_spec rfl) rfl ?xa rfl ?_|refine' v_yes rfl rfl (lookO_spec rfl) rfl ?xa rfl ?_); case xa => exact k_call K3 rfl ⟨asA_nil (evO_spec rfl), asA_r (evO_spec rfl), trivial⟩)|((first|refine' w_e rfl ?xa ?xb ?xc ?xe ?_|refine' v_e rfl ?xa ?xb ?xc ?xe ?_); (case xa => first|exact at_dst 8 rfl (e_callS [] K1 rfl ⟨asD_ren (evO_spec rfl), by rw [evO_spec rfl]; exact asD_r rfl, trivial⟩ (by (repeat' (first|exact trivial|refine subHR_cons rfl ?_ ?_|rfl))) rfl)|exact at_dst 12 rfl (e_callS [(1000000000, 1000000001)] K2 rfl ⟨asD_ren (evO_spec rfl), by rw [evO_spec rfl]; exact asD_r rfl, trivial⟩ (by (repeat' (first|exact trivial|refine subHR_cons rfl ?_ ?_|rfl))) rfl)); (case xb => rfl); (case xc => rfl); (case xe => rfl); try dsimp only [P0.d, Res.d, List.map_cons, List.map_nil, List.set_cons_zero, List.set_cons_succ, Nat.reduceAdd])|((first|refine aw_ways rfl ?_ ?_|refine r_split rfl rfl rfl ?_ ?_) <;> intro hg_ <;> fail_if_success (exact Bool.noConfusion hg_)) <;> (try simp only [prn] at hg_) <;> (try first|contradiction|(exfalso; omega)))
  all_goals first
   |exact ret_D [] rfl (by (repeat' (first|exact trivial|refine subHR_cons rfl ?_ ?_|rfl))) (retD_tmp rfl imp_plain)
    | trace_state
set_option maxRecDepth 100000 in
set_option maxHeartbeats 4000000 in
theorem f_markStOO (mk : Bool) (r : Int) (vs : List Int) (gs : List Bool) (ms : List E3) (k : Int) (h0 : 0 ≤ k) (hk : k ≤ 10000000) (h1 : vs.length ≤ 1048576) (h2 : gs.length ≤ 1048576) (h3 : ms.length ≤ 1048576) :
    FnS Try.prog 14 [.agg [.r mk (int r), .own 1000000000 0 vs.length 1, .own 1000000001 0 gs.length 1, .own 1000000002 0 ms.length 3], .one (.r false (int k))] [(1000000000, .sl 3 1 true (ints vs)), (1000000001, .sl 4 1 true (bools gs)), (1000000002, .sl 95 3 true (edges ms))] (.one (.r true (int (k + vs.length + gs.length + 3 * ms.length)))) [(1000000000, .sl 3 1 true (ints (upF k vs.length))), (1000000001, .sl 4 1 true (bools (upB (k + vs.length) gs.length))), (1000000002, .sl 95 3 true (edges (upE (k + vs.length + gs.length) ms.length)))] := by
  have K1 := f_markIntS vs k h0 (by omega) h1
  have K2 := f_markBoolS gs (k + vs.length) (by omega) (by omega) h2
  have K3 := f_markMsgS ms (k + vs.length + gs.length) (by omega) (by omega) h3
  rw [mixE_all] at K3
  refine fnS_of (l := [.tmp 4]) Try.func14 (by kernel_rfl) rfl Try.ntmps14 rfl rfl ?_; simp only [dEnv, Nat.reduceAdd]
  repeat' (first|(with_reducible first|refine aw_seq ?_|refine thn_normal ?_|refine thn_ret ?_|refine thn_exit ?_|refine blk_normal ?_|refine blk_ret ?_|refine blk_hit ?_|refine blk_miss rfl ?_|refine aw_block ?_|refine aw_ret ?_|refine aw_skip ?_|refine aw_exit ?_|refine w_nil ?_|refine x_nil (by kernel_rfl) ?_)|refine aw_region ?_|refine aw_region_draw (by kernel_rfl) ?_|refine aw_yes rfl ?_|refine aw_no rfl ?_|((with_reducible refine w_seq ?_); first|refine r_q tbOk rfl rfl rfl rfl ?_|refine r_e tbOk rfl rfl rfl rfl rfl ?_|refine r_yes tbOk rfl rfl rfl rfl rfl rfl ?_|refine w_no rfl rfl (lookO_spec rfl) rfl rfl rfl ?_|refine w_un rfl rfl (lookO_spec rfl) rfl rfl ?_)|((with_reducible refine w_drw ?_); first|refine rx_q tbOk rfl rfl rfl rfl ?_|refine rx_e tbOk rfl rfl rfl rfl rfl ?_|refine rx_yes tbOk rfl rfl rfl rfl rfl rfl ?_|refine x_no rfl rfl (lookO_spec rfl) rfl rfl rfl ?_|refine x_un rfl rfl (lookO_spec rfl) rfl rfl ?_)|((first|refine' w_e rfl ?xa ?xb ?xc ?xe ?_|refine' v_e rfl ?xa ?xb ?xc ?xe ?_); (case xa => first|exact at_dst 8 rfl (e_callS [] K1 rfl ⟨asD_ren (evO_spec rfl), by rw [evO_spec rfl]; exact asD_r rfl, trivial⟩ (by (repeat' (first|exact trivial|refine subHR_cons rfl ?_ ?_|rfl))) rfl)|exact at_dst 12 rfl (e_callS [(1000000000, 1000000001)] K2 rfl ⟨asD_ren (evO_spec rfl), by rw [evO_spec rfl]; exact asD_r rfl, trivial⟩ (by (repeat' (first|exact trivial|refine subHR_cons rfl ?_ ?_|rfl))) rfl)|exact at_dst 16 rfl (e_callS [(1000000000, 1000000002)] K3 rfl ⟨asD_ren (evO_spec rfl), by rw [evO_spec rfl]; exact asD_r rfl, trivial⟩ (by (repeat' (first|exact trivial|refine subHR_cons rfl ?_ ?_|rfl))) rfl)); (case xb => rfl); (case xc => rfl); (case xe => rfl); try dsimp only [P0.d, Res.d, List.map_cons, List.map_nil, List.set_cons_zero, List.set_cons_succ, Nat.reduceAdd])|((first|refine aw_ways rfl ?_ ?_|refine r_split rfl rfl rfl ?_ ?_) <;> intro hg_ <;> fail_if_success (exact Bool.noConfusion hg_)) <;> (try simp only [prn] at hg_) <;> (try first|contradiction|(exfalso; omega)))
  all_goals first
   |exact ret_D [] rfl (by (repeat' (first|exact trivial|refine subHR_cons rfl ?_ ?_|rfl))) (retD_tmp rfl imp_plain)
    | trace_state
set_option maxRecDepth 100000 in
set_option maxHeartbeats 4000000 in
theorem f_markDisk (xs ys : List Int) (k : Int) (h0 : 0 ≤ k) (hk : k ≤ 10000000) (h1 : xs.length ≤ 1048576) (h2 : ys.length ≤ 1048576) :
    FnS Try.prog 25 [.agg [.own 1000000000 0 xs.length 1, .own 1000000001 0 ys.length 1], .one (.r false (int k))] [(1000000000, .sl 3 1 true (ints xs)), (1000000001, .sl 3 1 true (ints ys))] (.one (.r true (int (k + xs.length + ys.length)))) [(1000000000, .sl 3 1 true (ints (upF k xs.length))), (1000000001, .sl 3 1 true (ints (upF (k + xs.length) ys.length)))] := by
  have K1 := f_markIntS xs k h0 (by omega) h1
  have K2 := f_markIntS ys (k + xs.length) (by omega) (by omega) h2
  refine fnS_of (l := [.tmp 4]) Try.func25 (by kernel_rfl) rfl Try.ntmps25 rfl rfl ?_; simp only [dEnv, Nat.reduceAdd]
  repeat' (first|(with_reducible first|refine aw_seq ?_|refine thn_normal ?_|refine thn_ret ?_|refine thn_exit ?_|refine blk_normal ?_|refine blk_ret ?_|refine blk_hit ?_|refine blk_miss rfl ?_|refine aw_block ?_|refine aw_ret ?_|refine aw_skip ?_|refine aw_exit ?_|refine w_nil ?_|refine x_nil (by kernel_rfl) ?_)|refine aw_region ?_|refine aw_region_draw (by kernel_rfl) ?_|refine aw_yes rfl ?_|refine aw_no rfl ?_|((with_reducible refine w_seq ?_); first|refine r_q tbOk rfl rfl rfl rfl ?_|refine r_e tbOk rfl rfl rfl rfl rfl ?_|refine r_yes tbOk rfl rfl rfl rfl rfl rfl ?_|refine w_no rfl rfl (lookO_spec rfl) rfl rfl rfl ?_|refine w_un rfl rfl (lookO_spec rfl) rfl rfl ?_)|((with_reducible refine w_drw ?_); first|refine rx_q tbOk rfl rfl rfl rfl ?_|refine rx_e tbOk rfl rfl rfl rfl rfl ?_|refine rx_yes tbOk rfl rfl rfl rfl rfl rfl ?_|refine x_no rfl rfl (lookO_spec rfl) rfl rfl rfl ?_|refine x_un rfl rfl (lookO_spec rfl) rfl rfl ?_)|((first|refine' w_e rfl ?xa ?xb ?xc ?xe ?_|refine' v_e rfl ?xa ?xb ?xc ?xe ?_); (case xa => first|exact at_dst 8 rfl (e_callS [] K1 rfl ⟨asD_ren (evO_spec rfl), by rw [evO_spec rfl]; exact asD_r rfl, trivial⟩ (by (repeat' (first|exact trivial|refine subHR_cons rfl ?_ ?_|rfl))) rfl)|exact at_dst 12 rfl (e_callS [(1000000000, 1000000001)] K2 rfl ⟨asD_ren (evO_spec rfl), by rw [evO_spec rfl]; exact asD_r rfl, trivial⟩ (by (repeat' (first|exact trivial|refine subHR_cons rfl ?_ ?_|rfl))) rfl)); (case xb => rfl); (case xc => rfl); (case xe => rfl); try dsimp only [P0.d, Res.d, List.map_cons, List.map_nil, List.set_cons_zero, List.set_cons_succ, Nat.reduceAdd])|((first|refine aw_ways rfl ?_ ?_|refine r_split rfl rfl rfl ?_ ?_) <;> intro hg_ <;> fail_if_success (exact Bool.noConfusion hg_)) <;> (try simp only [prn] at hg_) <;> (try first|contradiction|(exfalso; omega)))
  all_goals first
   |exact ret_D [] rfl (by (repeat' (first|exact trivial|refine subHR_cons rfl ?_ ?_|rfl))) (retD_tmp rfl imp_plain)
    | trace_state
theorem imp_2own {y1 y2 y1' y2' : Cell} (h1 : y1 = y1') (h2 : y2 = y2') : DImp (.agg [y1, y2]) (.agg [y1', y2']) := by subst h1; subst h2; exact imp_refl rfl
set_option maxRecDepth 100000 in
set_option maxHeartbeats 4000000 in
theorem f_toDiskO (n1 n2 : Bool) (xs ys : List Int) (h1 : xs.length ≤ 1048576) (h2 : ys.length ≤ 1048576) :
    FnS Try.prog 20 [.agg [.r false (row n1 1 (ints xs)), .r false (row n2 1 (ints ys))]] [] (.agg [.own 2000001 0 xs.length 1, .own 2000002 0 ys.length 1]) [(2000001, .sl 3 1 true (ints xs)), (2000002, .sl 3 1 true (ints ys))] := by
  have K1 := f_toIntSO n1 xs h1
  have K2 := f_toIntSO n2 ys h2
  have hx := ints_len xs
  have hy := ints_len ys
  refine fnS_of (l := [.cell 2 48]) Try.func20 (by kernel_rfl) rfl Try.ntmps20 rfl rfl ?_; simp only [dEnv, Nat.reduceAdd]
  repeat' (first|(with_reducible first|refine aw_seq ?_|refine thn_normal ?_|refine thn_ret ?_|refine thn_exit ?_|refine blk_normal ?_|refine blk_ret ?_|refine blk_hit ?_|refine blk_miss rfl ?_|refine aw_block ?_|refine aw_ret ?_|refine aw_skip ?_|refine aw_exit ?_|refine w_nil ?_|refine x_nil (by kernel_rfl) ?_)|refine aw_region ?_|refine aw_region_draw (by kernel_rfl) ?_|refine aw_yes rfl ?_|refine aw_no rfl ?_|((with_reducible refine w_seq ?_); first|refine r_q tbOk rfl rfl rfl rfl ?_|refine r_e tbOk rfl rfl rfl rfl rfl ?_|refine r_yes tbOk rfl rfl rfl rfl rfl rfl ?_|refine w_no rfl rfl (lookO_spec rfl) rfl rfl rfl ?_|refine w_un rfl rfl (lookO_spec rfl) rfl rfl ?_)|((with_reducible refine w_drw ?_); first|refine rx_q tbOk rfl rfl rfl rfl ?_|refine rx_e tbOk rfl rfl rfl rfl rfl ?_|refine rx_yes tbOk rfl rfl rfl rfl rfl rfl ?_|refine x_no rfl rfl (lookO_spec rfl) rfl rfl rfl ?_|refine x_un rfl rfl (lookO_spec rfl) rfl rfl ?_)|((first|refine' w_e rfl ?xa ?xb ?xc ?xe ?_|refine' v_e rfl ?xa ?xb ?xc ?xe ?_); (case xa => first|exact at_dst 6 rfl (e_callO K1 rfl rfl ⟨asA_r (evO_spec rfl), trivial⟩)|exact at_dst 10 rfl (e_callO K2 rfl rfl ⟨asA_r (evO_spec rfl), trivial⟩)); (case xb => rfl); (case xc => rfl); (case xe => rfl); try dsimp only [P0.d, Res.d, List.map_cons, List.map_nil, List.set_cons_zero, List.set_cons_succ, Nat.reduceAdd])|((first|refine aw_ways rfl ?_ ?_|refine r_split rfl rfl rfl ?_ ?_) <;> intro hg_ <;> fail_if_success (exact Bool.noConfusion hg_)) <;> (try simp only [prn] at hg_) <;> (try first|contradiction|(exfalso; omega)))
  all_goals first
   |exact ret_D [(2000001, 6), (2000002, 10)] rfl (by (repeat' (first|exact trivial|refine subHR_cons rfl ?_ ?_|rfl))) (retD_cell rfl rfl (by (with_reducible first|exact ty3|exact ty4|exact ty5|exact ty9|exact ty17|exact ty19|exact ty22|exact ty24|exact ty25|exact ty26|exact ty28|exact ty36|exact ty38|exact ty40|exact ty44|exact ty46|exact ty48|exact ty55|exact ty81|exact ty84|exact ty89|exact ty95|exact ty98|exact ty105|exact ty118|exact ty122|exact ty132|exact ty134|exact ty137|exact ty143|exact ty153|exact ty155|exact ty156|exact ty161)) rfl rfl rfl (imp_2own (by rw [hx]; rfl) (by rw [hy]; rfl)))
    | trace_state
end Go.Proofs.Ytmkecjamfippfaa.Abs
set_option linter.unusedSimpArgs false
set_option linter.unusedVariables false
namespace Go.Proofs.Ytmkecjamfippfaa.Abs
open Go.RowKit
open R (val row ref)

theorem asA_own0H {H : Nat → Option Ob} {k n sz : Nat} {E : TypeId} {els : List P0} {new : Bool} {ev : Operand → D} {x : Operand} (h : ev x = .one (.own k 0 n sz)) (hk : H k = some (.sl E sz new els)) (hn : n = els.length) : AsArg H (ev x) (.one (row false sz els)) := by
  have h2 := asA_own h hk (by omega)
  rwa [List.drop_zero, List.take_of_length_le (by omega)] at h2
theorem ints_appB (xs ys : List Int) : ints (xs ++ ys) = ints xs ++ ints ys := by unfold ints; rw [List.map_append]
theorem ints_argV {w : World} {v : Value} {nil : Bool} {xs : List Int} (h : (P0.one (row nil 1 (ints xs))).p ⟨w, fun _ => False⟩ v) : ∃ (ao : Option Addr) (b o c : Nat), v = .slice ao xs.length c ∧ At ao b o xs.length ∧ Ints w b o xs ∧ xs.length ≤ c ∧ c ≤ maxLen := by
  obtain ⟨ao, cap, rfl, hc, _, _, h5⟩ := row_p.1 h
  rw [ints_len] at h5 hc ⊢
  rcases Nat.eq_zero_or_pos xs.length with h0 | h0
  · exact ⟨ao, 0, 0, cap, rfl, .inl h0, fun i hi => by omega, hc⟩
  · obtain ⟨b, o, rfl, _, _, hr⟩ := h5 h0
    refine ⟨_, b, o, cap, rfl, .inr rfl, fun i hi => ?_, hc⟩
    obtain ⟨_, g⟩ := hr i _ (ints_get hi)
    obtain ⟨u, hu, hp⟩ := g 0 _ rfl
    have := (val_p.1 hp).1
    subst this
    have hu' : w.cell? ⟨b, o + i * 1 + 0, none⟩ = _ := hu
    rw [Nat.mul_one, Nat.add_zero] at hu'
    rw [hu', List.getD_eq_getElem?_getD, List.getElem?_eq_getElem hi]
    rfl
theorem fn_lift {f : FuncId} {fn : Func} {c : Code} {nil : Bool} {xs : List Int} {res : Res} (hf : Try.prog.funcs[f]? = some fn) (hname : (fn.name == "runtime.NumGoroutine") = false) (hb : fn.body = some c)
    (h : ∀ (ao : Option Addr) (b o c : Nat) (w : World), xs.length ≤ maxLen → At ao b o xs.length → Ints w b o xs → Calls Try.prog f #[.slice ao xs.length c] w (fun e w' => ∃ v, e = .returned v ∧ res.p ⟨w', fun b => b < w.heap.size⟩ v ∧ Below w.heap.size w w')) :
    Fn Try.prog f [.one (row nil 1 (ints xs))] res := by
  refine ⟨ent_of hf hname hb, fun w vs _ hA => ?_⟩
  match vs, hA with
  | [v], ⟨h1, _⟩ =>
    obtain ⟨ao, b, o, c, rfl, ha, hi, hc1, hc2⟩ := ints_argV h1
    exact h ao b o c w (by omega) ha hi
theorem fn_lift2 {f : FuncId} {fn : Func} {c : Code} {nil : Bool} {xs : List Int} {i : Int} {res : Res} (hf : Try.prog.funcs[f]? = some fn) (hname : (fn.name == "runtime.NumGoroutine") = false) (hb : fn.body = some c)
    (h : ∀ (ao : Option Addr) (b o c : Nat) (w : World), xs.length ≤ maxLen → At ao b o xs.length → Ints w b o xs → Calls Try.prog f #[.slice ao xs.length c, .int .i64 i] w (fun e w' => ∃ v, e = .returned v ∧ res.p ⟨w', fun b => b < w.heap.size⟩ v ∧ Below w.heap.size w w')) :
    Fn Try.prog f [.one (row nil 1 (ints xs)), iP i] res := by
  refine ⟨ent_of hf hname hb, fun w vs _ hA => ?_⟩
  match vs, hA with
  | [v, u], ⟨h1, h2, _⟩ =>
    obtain ⟨ao, b, o, c, rfl, ha, hi, hc1, hc2⟩ := ints_argV h1
    have hu : u = .int .i64 i := (val_p.1 h2).1
    subst hu
    exact h ao b o c w (by omega) ha hi
theorem res_bool (w : World) (own : Nat → Prop) (b : Bool) : (Res.v (.one (bool b))).p ⟨w, own⟩ (.bool b) := (val_p (c := ⟨w, own⟩)).2 ⟨rfl, rfl⟩
theorem res_int (w : World) (own : Nat → Prop) (n : Int) : (Res.v (iP n)).p ⟨w, own⟩ (.int .i64 n) := (val_p (c := ⟨w, own⟩)).2 ⟨rfl, rfl⟩
def edgeRes : Option (Int × Int × Int) → Res
  | some e => .tup [edgeP e, .one (bool true)]
  | none => .tup [edgeP (0, 0, 0), .one (bool false)]
theorem res_edge (w : World) (own : Nat → Prop) : ∀ r : Option (Int × Int × Int), (edgeRes r).p ⟨w, own⟩ (edgeVal r) := by
  have key : ∀ (a b c : Int) (t : Bool), (Res.tup [edgeP (a, b, c), .one (bool t)]).p ⟨w, own⟩ (.tuple #[.agg #[.int .i64 a, .int .i64 b, .int .i64 c], .bool t]) := fun a b c t => by
    refine ⟨[.agg #[.int .i64 a, .int .i64 b, .int .i64 c], .bool t], rfl, rfl, fun j x hj => ?_⟩
    match j, hj with
    | 0, hj =>
      obtain rfl : edgeP (a, b, c) = x := by simpa using hj
      refine ⟨_, rfl, [.int .i64 a, .int .i64 b, .int .i64 c], rfl, rfl, fun j r hj => ?_⟩
      match j, hj with
      | 0, hj => obtain rfl : int a = r := by simpa using hj
                 exact ⟨_, rfl, (val_p (c := ⟨w, own⟩)).2 ⟨rfl, rfl⟩⟩
      | 1, hj => obtain rfl : int b = r := by simpa using hj
                 exact ⟨_, rfl, (val_p (c := ⟨w, own⟩)).2 ⟨rfl, rfl⟩⟩
      | 2, hj => obtain rfl : int c = r := by simpa using hj
                 exact ⟨_, rfl, (val_p (c := ⟨w, own⟩)).2 ⟨rfl, rfl⟩⟩
      | j + 3, hj => simp at hj
    | 1, hj =>
      obtain rfl : P0.one (bool t) = x := by simpa using hj
      exact ⟨_, rfl, (val_p (c := ⟨w, own⟩)).2 ⟨rfl, rfl⟩⟩
    | j + 2, hj => simp at hj
  intro r
  cases r with
  | none => exact key 0 0 0 false
  | some e => obtain ⟨a, b, c⟩ := e; exact key a b c true
def decRes : Option (Int × Int) → Res
  | some (n, j) => .tup [iP n, iP j, .one (bool true)]
  | none => .tup [iP 0, iP 0, .one (bool false)]
theorem res_dec (w : World) (own : Nat → Prop) : ∀ r : Option (Int × Int), (decRes r).p ⟨w, own⟩ (decVal r) := by
  have key : ∀ (a b : Int) (t : Bool), (Res.tup [iP a, iP b, .one (bool t)]).p ⟨w, own⟩ (.tuple #[.int .i64 a, .int .i64 b, .bool t]) := fun a b t => by
    refine ⟨[.int .i64 a, .int .i64 b, .bool t], rfl, rfl, fun j x hj => ?_⟩
    match j, hj with
    | 0, hj => obtain rfl : iP a = x := by simpa using hj
               exact ⟨_, rfl, (val_p (c := ⟨w, own⟩)).2 ⟨rfl, rfl⟩⟩
    | 1, hj => obtain rfl : iP b = x := by simpa using hj
               exact ⟨_, rfl, (val_p (c := ⟨w, own⟩)).2 ⟨rfl, rfl⟩⟩
    | 2, hj => obtain rfl : P0.one (bool t) = x := by simpa using hj
               exact ⟨_, rfl, (val_p (c := ⟨w, own⟩)).2 ⟨rfl, rfl⟩⟩
    | j + 3, hj => simp at hj
  intro r
  cases r with
  | none => exact key 0 0 false
  | some e => obtain ⟨a, b⟩ := e; exact key a b true
theorem f_specBytesOk (nil : Bool) (xs : List Int) : Fn Try.prog 93 [.one (row nil 1 (ints xs))] (.v (.one (bool (bytesOk xs)))) :=
  fn_lift Try.func93 (by kernel_rfl) rfl fun ao b o c w hl ha hi => (specBytesValid ao b o c xs w hl ha hi).mono (by rintro e w' ⟨rfl, rfl⟩; exact ⟨_, rfl, res_bool _ _ _, Below.refl _ _⟩)
theorem f_specSum (nil : Bool) (xs : List Int) : Fn Try.prog 133 [.one (row nil 1 (ints xs))] (.v (iP (sumOf xs))) :=
  fn_lift Try.func133 (by kernel_rfl) rfl fun ao b o c w hl ha hi => (specCheckSum ao b o c xs w hl ha hi).mono (by rintro e w' ⟨rfl, rfl⟩; exact ⟨_, rfl, res_int _ _ _, Below.refl _ _⟩)
theorem f_implBodyOk (nil : Bool) (xs : List Int) : Fn Try.prog 118 [.one (row nil 1 (ints xs))] (.v (.one (bool (bodyOk xs)))) :=
  fn_lift Try.func118 (by kernel_rfl) rfl fun ao b o c w hl ha hi => (implBodyValid ao b o c xs w hl ha hi).mono (by rintro e w' ⟨rfl, rfl⟩; exact ⟨_, rfl, res_bool _ _ _, Below.refl _ _⟩)
theorem f_specReadEdge (nil : Bool) (xs : List Int) : Fn Try.prog 86 [.one (row nil 1 (ints xs))] (edgeRes (readE xs)) :=
  fn_lift Try.func86 (by kernel_rfl) rfl fun ao b o c w hl ha hi => (specReadEdge ao c b o xs w hl ha hi).mono (by rintro e w' ⟨rfl, hb⟩; exact ⟨_, rfl, res_edge _ _ _, hb⟩)
theorem f_specDecode (nil : Bool) (xs : List Int) (i : Int) : Fn Try.prog 85 [.one (row nil 1 (ints xs)), iP i] (decRes (decAt xs i)) :=
  fn_lift2 Try.func85 (by kernel_rfl) rfl fun ao b o c w hl ha hi => (specDecodeNumber ao c b o xs i w hl ha hi).mono (by rintro e w' ⟨rfl, rfl⟩; exact ⟨_, rfl, res_dec _ _ _, Below.refl _ _⟩)
end Go.Proofs.Ytmkecjamfippfaa.Abs
set_option linter.unusedSimpArgs false
set_option linter.unusedVariables false
namespace Go.Proofs.Ytmkecjamfippfaa.Abs
open Go.RowKit
open R (val row ref)

theorem edges_plain (es : List E3) : ∀ e ∈ edges es, plain1 e = true := fun e he => by
  obtain ⟨x, _, rfl⟩ := List.mem_map.1 he
  rfl
theorem edge1_plain (a b c : Int) : ∀ x ∈ [P0.agg [int a, int b, int c]], plain1 x = true := fun x hx => by
  obtain rfl : x = P0.agg [int a, int b, int c] := by simpa using hx
  rfl
set_option maxRecDepth 100000 in
set_option maxHeartbeats 4000000 in
theorem f_ownGraph (m : Int) (nil : Bool) (es : List E3) (hl : es.length ≤ 1048576) : Fn Try.prog 51 [graphP m nil es] (.v (graphP m false es)) := by
  have hlen := edges_len es
  refine fn_of (l := [.cell 2 46]) Try.func51 (by kernel_rfl) rfl Try.ntmps51 rfl rfl ?_; simp only [argEnv, P0.d, Nat.reduceAdd, graphP, List.map_cons, List.map_nil]
  repeat' (first|(with_reducible first|refine aw_seq ?_|refine thn_normal ?_|refine thn_ret ?_|refine thn_exit ?_|refine blk_normal ?_|refine blk_ret ?_|refine blk_hit ?_|refine blk_miss rfl ?_|refine aw_block ?_|refine aw_ret ?_|refine aw_skip ?_|refine aw_exit ?_|refine w_nil ?_|refine x_nil (by kernel_rfl) ?_)|refine aw_region ?_|refine aw_region_draw (by kernel_rfl) ?_|refine aw_yes rfl ?_|refine aw_no rfl ?_|((with_reducible refine w_seq ?_); first|refine r_q tbOk rfl rfl rfl rfl ?_|refine r_e tbOk rfl rfl rfl rfl rfl ?_|refine r_yes tbOk rfl rfl rfl rfl rfl rfl ?_|refine w_no rfl rfl (lookO_spec rfl) rfl rfl rfl ?_|refine w_un rfl rfl (lookO_spec rfl) rfl rfl ?_)|((with_reducible refine w_drw ?_); first|refine rx_q tbOk rfl rfl rfl rfl ?_|refine rx_e tbOk rfl rfl rfl rfl rfl ?_|refine rx_yes tbOk rfl rfl rfl rfl rfl rfl ?_|refine x_no rfl rfl (lookO_spec rfl) rfl rfl rfl ?_|refine x_un rfl rfl (lookO_spec rfl) rfl rfl ?_)|((first|refine' w_e rfl ?xa ?xb ?xc ?xe ?_|refine' v_e rfl ?xa ?xb ?xc ?xe ?_); (case xa => first|exact e_build [] tlOk rfl rfl rfl rfl rfl rfl (by simp [AllN]) (by simp)|exact e_append tlOk rfl rfl rfl rfl rfl rfl (slD_plain slD_row (edges_plain _)) rfl (by simp only [maxLen, List.length_nil]; omega) (by simp only [List.length_nil]; omega)); (case xb => rfl); (case xc => rfl); (case xe => rfl); try dsimp only [P0.d, Res.d, List.map_cons, List.map_nil, List.set_cons_zero, List.set_cons_succ, Nat.reduceAdd])|((first|refine aw_ways rfl ?_ ?_|refine r_split rfl rfl rfl ?_ ?_) <;> intro hg_ <;> fail_if_success (exact Bool.noConfusion hg_)) <;> (try simp only [prn] at hg_) <;> (try first|contradiction|(exfalso; omega)))
  all_goals first
    | exact ret_v (rv_cell rfl rfl (by (with_reducible first | exact ty3 | exact ty4 | exact ty5 | exact ty9 | exact ty17 | exact ty19 | exact ty22 | exact ty24 | exact ty25 | exact ty26 | exact ty28 | exact ty36 | exact ty38 | exact ty40 | exact ty44 | exact ty46 | exact ty48 | exact ty55 | exact ty81 | exact ty84 | exact ty89 | exact ty95 | exact ty98 | exact ty105 | exact ty118 | exact ty122 | exact ty132 | exact ty134 | exact ty137 | exact ty143 | exact ty153 | exact ty155 | exact ty156 | exact ty161)) rfl rfl rfl (dres_agg (by refine ⟨cres_val, ?_, trivial⟩ <;> exact cres_own0 (lookHO_spec rfl) (by simp only [List.length_nil, Nat.zero_add, List.nil_append]))))
    | trace_state
end Go.Proofs.Ytmkecjamfippfaa.Abs
set_option linter.unusedSimpArgs false
set_option linter.unusedVariables false
namespace Go.Proofs.Ytmkecjamfippfaa.Abs
open Go.RowKit
open R (val row ref)

theorem allN_ints (xs : List Int) : AllN 1 (ints xs) := fun i e he => by
  obtain ⟨x, _, rfl⟩ := List.mem_map.1 (List.mem_of_getElem? he)
  rfl
end Go.Proofs.Ytmkecjamfippfaa.Abs
set_option linter.unusedSimpArgs false
set_option linter.unusedVariables false
namespace Go.Proofs.Ytmkecjamfippfaa.Abs
open Go.RowKit
open R (val row ref)

abbrev rowP (b : List Int) : P0 := .one (row false 1 (ints b))
def rowsI (bs : List (List Int)) : List P0 := bs.map rowP
theorem rowsI_len (bs : List (List Int)) : (rowsI bs).length = bs.length := List.length_map ..
theorem rowsI_get {bs : List (List Int)} {k : Nat} (h : k < bs.length) : (rowsI bs)[k]? = some (rowP bs[k]) := by unfold rowsI; simp [h]
theorem rowsI_at {bs : List (List Int)} {k : Nat} (h : k < bs.length) : (rowsI bs)[(k : Int).toNat]? = some (rowP bs[k]) := rowsI_get h
theorem rowsI_app (bs : List (List Int)) (b : List Int) : rowsI (bs ++ [b]) = rowsI bs ++ [rowP b] := by unfold rowsI; rw [List.map_append]; rfl
theorem e_buildF {P : Program} {tl : TL} {l : List (Nat × D)} {h : List (Nat × Ob)} {o : Oper} {t k n sz c by_ : Nat} {E E2 T : TypeId} {ps : Array (Nat × Operand)} {m : Bool} {els : List P0} (u : Nat) (hT : TLOk P tl) (ho : o.op = .buildSlice T c ps) (hps : ps = (enumO 0 [.tmp u]).toArray) (hc : c = 1) (hd : o.dst = some t) (he : elL tl.els T = some (E, 1, by_))
    (hx : evO l (.tmp u) = some (.one (.own k 0 n sz))) (hk : lookHO h k = some (.sl E2 sz m els)) (hn : n = els.length) :
    Eff P (lookH h) (evD (look l)) o (.one (.own t 0 1 1)) [k] [t] [(k, none), (t, some (.sl E 1 m [.one (row false sz els)]))] := by
  have hp : partsO [(u, .one (.r m (row false sz els)))] [.tmp u] = some (m, [.one (row false sz els)]) := by
    simp [partsO, evO, lookO, dP, nb]
  have hE : Eff P (fun _ => none) (evD (look [(u, .one (.r m (row false sz els)))])) o (.one (.own t 0 1 1)) [] [t] [(t, some (.sl E 1 m [.one (row false sz els)]))] :=
    e_build [.tmp u] hT ho hps hc hd he hp (allN_one rfl) (by simp)
  have hops : ∀ x ∈ o.op.operands, x = .tmp u := by
    intro x hx'
    rw [ho, hps] at hx'
    simpa [Op.operands, enumO] using hx'
  intro base a w ι own hown hbase hev hH hHi K Q hK
  have hKk := hH k _ (lookHO_spec hk)
  have hsub : ∀ b, (own b ∧ b ≠ (ι k).1) → own b := fun b h => h.1
  have hno : ¬ (own (ι k).1 ∧ (ι k).1 ≠ (ι k).1) := fun h => h.2 rfl
  have hb : own (ι k).1 → base ≤ (ι k).1 := fun h => (hown _ h).1
  refine hE base a w ι (fun b => own b ∧ b ≠ (ι k).1) (fun b h => hown b h.1) hbase (fun x hx' => ?_) (fun x ob hx' => by cases hx') (fun x x' ob ob' hx' => by cases hx') K Q (fun v w' ι' own' hc => ?_)
  · have hxu := hops x hx'
    have h1 := hev x hx'
    subst hxu
    rw [evO_spec hx] at h1
    have h2 := frC_p hb hKk hsub hno (x := .own k 0 n sz) h1
    have e1 : frC k sz m els (.own k 0 n sz) = .r m (row false sz els) := by
      have : Nat.ble els.length els.length = true := by rw [Nat.ble_eq]; exact Nat.le_refl _
      simp [frC, hn, this]
    rw [e1] at h2
    have e2 : evD (look [(u, D.one (.r m (row false sz els)))]) (.tmp u) = .one (.r m (row false sz els)) := by simp [evD, look, upd]
    rw [e2]
    exact h2
  · refine hK v w' ι' own' ⟨hc.os, hc.tape, hc.output, hc.size, fun b hb hn => hc.block b hb (fun k0 h0 => by cases h0), hc.sized, fun b hb hn => hc.own1 b ⟨hb, hn k (List.mem_cons_self ..)⟩ (fun k0 h0 => by cases h0), fun b hb => ?_, hc.own3, hc.same, hc.val, fun x ob hx => ?_, fun x ob x' ob' hx hx' e => ?_⟩
    · rcases hc.own2 b hb with h1 | h1
      · exact .inl h1.1
      · exact .inr h1
    · rcases List.mem_cons.1 hx with h1 | h1
      · cases h1
      · obtain ⟨a1, a2, a3⟩ := hc.named x ob h1
        refine ⟨a1, a2, a3.imp id fun ⟨k0, h0, e⟩ => by cases h0⟩
    · rcases List.mem_cons.1 hx with h1 | h1
      · cases h1
      · rcases List.mem_cons.1 hx' with h2 | h2
        · cases h2
        · exact hc.inj x ob x' ob' h1 h2 e
set_option maxRecDepth 100000 in
set_option maxHeartbeats 4000000 in
theorem f_specEncodeNumber (n : Int) : FnO Try.prog 73 [iP n] 3 1 (ints (enc n)) := by
  have KR := f_l1In n 0 1000000
  cases hR : inR 0 1000000 n
  · rw [hR] at KR
    rw [enc_no (by unfold inR at hR; simp at hR; omega)]
    refine fn_ofO Try.func73 (by kernel_rfl) rfl Try.ntmps73 rfl rfl ?_; simp only [argEnv, P0.d, Nat.reduceAdd, List.map_cons, List.map_nil]
    repeat' (first|(with_reducible first|refine aw_seq ?_|refine thn_normal ?_|refine thn_ret ?_|refine thn_exit ?_|refine blk_normal ?_|refine blk_ret ?_|refine blk_hit ?_|refine blk_miss rfl ?_|refine aw_block ?_|refine aw_ret ?_|refine aw_skip ?_|refine aw_exit ?_|refine w_nil ?_|refine x_nil (by kernel_rfl) ?_)|refine aw_region ?_|refine aw_region_draw (by kernel_rfl) ?_|refine aw_yes rfl ?_|refine aw_no rfl ?_|((with_reducible refine w_seq ?_); first|refine r_q tbOk rfl rfl rfl rfl ?_|refine r_e tbOk rfl rfl rfl rfl rfl ?_|refine r_yes tbOk rfl rfl rfl rfl rfl rfl ?_|refine w_no rfl rfl (lookO_spec rfl) rfl rfl rfl ?_|refine w_un rfl rfl (lookO_spec rfl) rfl rfl ?_)|((with_reducible refine w_drw ?_); first|refine rx_q tbOk rfl rfl rfl rfl ?_|refine rx_e tbOk rfl rfl rfl rfl rfl ?_|refine rx_yes tbOk rfl rfl rfl rfl rfl rfl ?_|refine x_no rfl rfl (lookO_spec rfl) rfl rfl rfl ?_|refine x_un rfl rfl (lookO_spec rfl) rfl rfl ?_)|((first|refine' w_q rfl rfl ?xa rfl ?_|refine' v_q rfl rfl ?xa rfl ?_|refine' w_yes rfl rfl (lookO_spec rfl) rfl ?xa rfl ?_|refine' v_yes rfl rfl (lookO_spec rfl) rfl ?xa rfl ?_); case xa => exact k_call KR rfl ⟨asA_r (evO_spec rfl), asA_r (evO_spec rfl), asA_r (evO_spec rfl), trivial⟩)|((first|refine' w_e rfl ?xa ?xb ?xc ?xe ?_|refine' v_e rfl ?xa ?xb ?xc ?xe ?_); (case xa => exact e_build [] tlOk rfl rfl rfl rfl rfl rfl (by simp [AllN]) (by simp)); (case xb => rfl); (case xc => rfl); (case xe => rfl); try dsimp only [P0.d, Res.d, List.map_cons, List.map_nil, List.set_cons_zero, List.set_cons_succ, Nat.reduceAdd])|((first|refine aw_ways rfl ?_ ?_|refine r_split rfl rfl rfl ?_ ?_) <;> intro hg_ <;> fail_if_success (exact Bool.noConfusion hg_)) <;> (try simp only [prn] at hg_) <;> (try first|contradiction|(exfalso; omega)))
    all_goals first
      | exact ret_own rfl rfl rfl
      | trace_state
  · rw [hR] at KR
    have hn : 0 ≤ n ∧ n ≤ 1000000 := by unfold inR at hR; simp at hR; omega
    refine fn_ofO Try.func73 (by kernel_rfl) rfl Try.ntmps73 rfl rfl ?_; simp only [argEnv, P0.d, Nat.reduceAdd, List.map_cons, List.map_nil]
    repeat' (first|(with_reducible first|refine aw_seq ?_|refine thn_normal ?_|refine thn_ret ?_|refine thn_exit ?_|refine blk_normal ?_|refine blk_ret ?_|refine blk_hit ?_|refine blk_miss rfl ?_|refine aw_block ?_|refine aw_ret ?_|refine aw_skip ?_|refine aw_exit ?_|refine w_nil ?_|refine x_nil (by kernel_rfl) ?_)|refine aw_region ?_|refine aw_region_draw (by kernel_rfl) ?_|refine aw_yes rfl ?_|refine aw_no rfl ?_|((with_reducible refine w_seq ?_); first|refine r_q tbOk rfl rfl rfl rfl ?_|refine r_e tbOk rfl rfl rfl rfl rfl ?_|refine r_yes tbOk rfl rfl rfl rfl rfl rfl ?_|refine w_no rfl rfl (lookO_spec rfl) rfl rfl rfl ?_|refine w_un rfl rfl (lookO_spec rfl) rfl rfl ?_)|((with_reducible refine w_drw ?_); first|refine rx_q tbOk rfl rfl rfl rfl ?_|refine rx_e tbOk rfl rfl rfl rfl rfl ?_|refine rx_yes tbOk rfl rfl rfl rfl rfl rfl ?_|refine x_no rfl rfl (lookO_spec rfl) rfl rfl rfl ?_|refine x_un rfl rfl (lookO_spec rfl) rfl rfl ?_)|((first|refine' w_q rfl rfl ?xa rfl ?_|refine' v_q rfl rfl ?xa rfl ?_|refine' w_yes rfl rfl (lookO_spec rfl) rfl ?xa rfl ?_|refine' v_yes rfl rfl (lookO_spec rfl) rfl ?xa rfl ?_); case xa => exact k_call KR rfl ⟨asA_r (evO_spec rfl), asA_r (evO_spec rfl), asA_r (evO_spec rfl), trivial⟩)|((first|refine' w_e rfl ?xa ?xb ?xc ?xe ?_|refine' v_e rfl ?xa ?xb ?xc ?xe ?_); (case xa => exact e_build [] tlOk rfl rfl rfl rfl rfl rfl (by simp [AllN]) (by simp)); (case xb => rfl); (case xc => rfl); (case xe => rfl); try dsimp only [P0.d, Res.d, List.map_cons, List.map_nil, List.set_cons_zero, List.set_cons_succ, Nat.reduceAdd])|((first|refine aw_ways rfl ?_ ?_|refine r_split rfl rfl rfl ?_ ?_) <;> intro hg_ <;> fail_if_success (exact Bool.noConfusion hg_)) <;> (try simp only [prn] at hg_) <;> (try first|contradiction|(exfalso; omega)))
    refine aw_loopI (fun x : Bool × List Int × Int => enc n = x.2.1 ++ enc x.2.2 ∧ 0 ≤ x.2.2 ∧ x.2.2 ≤ 1000000 ∧ x.2.1.length + (enc x.2.2).length ≤ 3) (fun x => mkS 23 [(3, .one (.own 100 0 x.2.1.length 1)), (0, .one (.r x.1 (int x.2.2)))] [(100, .sl 3 1 true (ints x.2.1))]) (fun x => x.2.2.toNat) (false, [], n) ⟨rfl, hn.1, hn.2, by simpa using enc_len n⟩ (by (refine weak_ren [(100, 4)] rfl ?_ ?_ <;> repeat' (first|exact trivial|refine subR_cons rfl ?_ ?_|refine subHR_cons rfl ?_ ?_|rfl|(refine d_int ?_; (first|rfl|omega|(rw [IntWalk.i64_in _ (by omega)] <;> omega)|(simp; done)|(simp; omega)))|(refine d_bool ?_; (first|(simp_all; done)|(rw [Bool.eq_iff_iff]; simp_all; done)|(rw [Bool.eq_iff_iff]; simp_all; omega)|(rw [Bool.eq_iff_iff]; simp; omega)))))) ?_
    rintro ⟨bb, pre, m⟩ ⟨hE, h0, h1, hl⟩
    dsimp only at hE h0 h1 hl ⊢
    have hlen : pre.length = (ints pre).length := (ints_len pre).symm
    have hp3 : pre.length ≤ 3 := by omega
    by_cases hlt : 128 ≤ m
    · rw [enc_step hlt h1] at hE hl
      have hw1 : IntKind.i64.wrap (m.tmod 128 + 128) = m % 128 + 128 := by rw [Int.tmod_eq_emod_of_nonneg h0, IntWalk.i64_in _ (by omega)]
      have hw2 : IntKind.i64.wrap (m.tdiv 128) = m / 128 := by rw [Int.tdiv_eq_ediv_of_nonneg h0, IntWalk.i64_in _ (by omega)]
      have hfin : ∀ s' : St, Weak s' (mkS 23 [(3, .one (.own 100 0 (pre ++ [m % 128 + 128]).length 1)), (0, .one (.r true (int (m / 128))))] [(100, .sl 3 1 true (ints (pre ++ [m % 128 + 128])))]) → ∃ x' : Bool × List Int × Int, (enc n = x'.2.1 ++ enc x'.2.2 ∧ 0 ≤ x'.2.2 ∧ x'.2.2 ≤ 1000000 ∧ x'.2.1.length + (enc x'.2.2).length ≤ 3) ∧ Weak s' (mkS 23 [(3, .one (.own 100 0 x'.2.1.length 1)), (0, .one (.r x'.1 (int x'.2.2)))] [(100, .sl 3 1 true (ints x'.2.1))]) ∧ x'.2.2.toNat < m.toNat := fun s' h => ⟨(true, pre ++ [m % 128 + 128], m / 128), ⟨by rw [hE, List.append_assoc]; rfl, by dsimp only; omega, by dsimp only; omega, by simp only [List.length_append, List.length_cons, List.length_nil] at hl ⊢; omega⟩, h, by dsimp only; omega⟩
      clear hE hl
      repeat' (first|(with_reducible first|refine aw_seq ?_|refine thn_normal ?_|refine thn_ret ?_|refine thn_exit ?_|refine blk_normal ?_|refine blk_ret ?_|refine blk_hit ?_|refine blk_miss rfl ?_|refine aw_block ?_|refine aw_ret ?_|refine aw_skip ?_|refine aw_exit ?_|refine w_nil ?_|refine x_nil (by kernel_rfl) ?_)|refine aw_region ?_|refine aw_region_draw (by kernel_rfl) ?_|refine aw_yes rfl ?_|refine aw_no rfl ?_|((with_reducible refine w_seq ?_); first|refine r_q tbOk rfl rfl rfl rfl ?_|refine r_e tbOk rfl rfl rfl rfl rfl ?_|refine r_yes tbOk rfl rfl rfl rfl rfl rfl ?_|refine w_no rfl rfl (lookO_spec rfl) rfl rfl rfl ?_|refine w_un rfl rfl (lookO_spec rfl) rfl rfl ?_)|((with_reducible refine w_drw ?_); first|refine rx_q tbOk rfl rfl rfl rfl ?_|refine rx_e tbOk rfl rfl rfl rfl rfl ?_|refine rx_yes tbOk rfl rfl rfl rfl rfl rfl ?_|refine x_no rfl rfl (lookO_spec rfl) rfl rfl rfl ?_|refine x_un rfl rfl (lookO_spec rfl) rfl rfl ?_)|((first|refine' w_q rfl rfl ?xa rfl ?_|refine' v_q rfl rfl ?xa rfl ?_|refine' w_yes rfl rfl (lookO_spec rfl) rfl ?xa rfl ?_|refine' v_yes rfl rfl (lookO_spec rfl) rfl ?xa rfl ?_); case xa => first|exact k_rem rfl rfl rfl (by decide)|exact k_div rfl rfl rfl (by decide))|((first|refine' w_e rfl ?xa ?xb ?xc ?xe ?_|refine' v_e rfl ?xa ?xb ?xc ?xe ?_); (case xa => first|exact e_build [.tmp 14] tlOk rfl rfl rfl rfl rfl rfl (allN_one rfl) (by simp)|exact e_append tlOk rfl rfl rfl rfl rfl rfl (slD_plain (slD_own (lookHO_spec rfl) rfl) (by simp [plain1, iP])) hlen (by simp only [maxLen, List.length_append, List.length_cons, List.length_nil]; omega) (by (try simp only [List.length_append, List.length_cons, List.length_nil]); omega)); (case xb => rfl); (case xc => rfl); (case xe => rfl); try dsimp only [P0.d, Res.d, List.map_cons, List.map_nil, List.set_cons_zero, List.set_cons_succ, Nat.reduceAdd])|((first|refine aw_ways rfl ?_ ?_|refine r_split rfl rfl rfl ?_ ?_) <;> intro hg_ <;> fail_if_success (exact Bool.noConfusion hg_)) <;> (try simp only [prn] at hg_) <;> (try first|contradiction|(exfalso; omega)))
      all_goals first
        | (refine hfin _ ?_
           (refine weak_ren [(100, 16)] rfl ?_ ?_ <;> repeat' (first|exact trivial|refine subR_cons rfl ?_ ?_|refine subHR_cons rfl ?_ ?_|rfl|(refine d_int ?_; (first|rfl|omega|(rw [IntWalk.i64_in _ (by omega)] <;> omega)|(simp; done)|(simp; omega)))|(refine d_bool ?_; (first|(simp_all; done)|(rw [Bool.eq_iff_iff]; simp_all; done)|(rw [Bool.eq_iff_iff]; simp_all; omega)|(rw [Bool.eq_iff_iff]; simp; omega)))|exact d_int hw2|exact d_own (by simp only [List.length_append, ints_len, List.length_cons, List.length_nil])|exact ob_sl rfl (by rw [ints_app, hw1]))))
        | trace_state
    · rw [enc_last h0 (by omega)] at hE
      rw [hE]
      clear hE hl
      repeat' (first|(with_reducible first|refine aw_seq ?_|refine thn_normal ?_|refine thn_ret ?_|refine thn_exit ?_|refine blk_normal ?_|refine blk_ret ?_|refine blk_hit ?_|refine blk_miss rfl ?_|refine aw_block ?_|refine aw_ret ?_|refine aw_skip ?_|refine aw_exit ?_|refine w_nil ?_|refine x_nil (by kernel_rfl) ?_)|refine aw_region ?_|refine aw_region_draw (by kernel_rfl) ?_|refine aw_yes rfl ?_|refine aw_no rfl ?_|((with_reducible refine w_seq ?_); first|refine r_q tbOk rfl rfl rfl rfl ?_|refine r_e tbOk rfl rfl rfl rfl rfl ?_|refine r_yes tbOk rfl rfl rfl rfl rfl rfl ?_|refine w_no rfl rfl (lookO_spec rfl) rfl rfl rfl ?_|refine w_un rfl rfl (lookO_spec rfl) rfl rfl ?_)|((with_reducible refine w_drw ?_); first|refine rx_q tbOk rfl rfl rfl rfl ?_|refine rx_e tbOk rfl rfl rfl rfl rfl ?_|refine rx_yes tbOk rfl rfl rfl rfl rfl rfl ?_|refine x_no rfl rfl (lookO_spec rfl) rfl rfl rfl ?_|refine x_un rfl rfl (lookO_spec rfl) rfl rfl ?_)|((first|refine' w_e rfl ?xa ?xb ?xc ?xe ?_|refine' v_e rfl ?xa ?xb ?xc ?xe ?_); (case xa => first|exact e_build [.tmp 20] tlOk rfl rfl rfl rfl rfl rfl (allN_one rfl) (by simp)|exact e_append tlOk rfl rfl rfl rfl rfl rfl (slD_plain (slD_own (lookHO_spec rfl) rfl) (by simp [plain1, iP])) hlen (by simp only [maxLen, List.length_append, List.length_cons, List.length_nil]; omega) (by (try simp only [List.length_append, List.length_cons, List.length_nil]); omega)); (case xb => rfl); (case xc => rfl); (case xe => rfl); try dsimp only [P0.d, Res.d, List.map_cons, List.map_nil, List.set_cons_zero, List.set_cons_succ, Nat.reduceAdd])|((first|refine aw_ways rfl ?_ ?_|refine r_split rfl rfl rfl ?_ ?_) <;> intro hg_ <;> fail_if_success (exact Bool.noConfusion hg_)) <;> (try simp only [prn] at hg_) <;> (try first|contradiction|(exfalso; omega)))
      all_goals first
        | (rw [ints_app]; exact ret_own rfl rfl (by simp only [List.length_append]))
        | trace_state
set_option maxRecDepth 100000 in
set_option maxHeartbeats 4000000 in
theorem f_specEdgeBody (e : E3) : FnO Try.prog 74 [edgeP e] 3 1 (ints (edgeB e.1 e.2.1 e.2.2)) := by
  obtain ⟨a, b, c⟩ := e
  dsimp only
  have KA := f_specEncodeNumber a
  have KB := f_specEncodeNumber b
  have KC := f_specEncodeNumber c
  have ha := enc_len a
  have hb := enc_len b
  have hc := enc_len c
  have hfa : fits a = true ↔ 0 < (enc a).length := by
    unfold fits; rw [decide_eq_true_eq]
    exact ⟨fun h => enc_pos h.1 h.2, fun h => by
      by_cases h' : 0 ≤ a ∧ a ≤ 1000000
      · exact h'
      · rw [enc_no (by omega)] at h; simp at h⟩
  have hfb : fits b = true ↔ 0 < (enc b).length := by
    unfold fits; rw [decide_eq_true_eq]
    exact ⟨fun h => enc_pos h.1 h.2, fun h => by
      by_cases h' : 0 ≤ b ∧ b ≤ 1000000
      · exact h'
      · rw [enc_no (by omega)] at h; simp at h⟩
  have hfc : fits c = true ↔ 0 < (enc c).length := by
    unfold fits; rw [decide_eq_true_eq]
    exact ⟨fun h => enc_pos h.1 h.2, fun h => by
      by_cases h' : 0 ≤ c ∧ c ≤ 1000000
      · exact h'
      · rw [enc_no (by omega)] at h; simp at h⟩
  unfold edgeB
  generalize fits a = fa at *
  generalize fits b = fb at *
  generalize fits c = fc at *
  generalize enc a = ea at *
  generalize enc b = eb at *
  generalize enc c = ec at *
  have la := ints_len ea
  have lb := ints_len eb
  have lc := ints_len ec
  refine fn_ofO Try.func74 (by kernel_rfl) rfl Try.ntmps74 rfl rfl ?_; simp only [argEnv, P0.d, Nat.reduceAdd, List.map_cons, List.map_nil, edgeP]
  repeat' (first|(with_reducible first|refine aw_seq ?_|refine thn_normal ?_|refine thn_ret ?_|refine thn_exit ?_|refine blk_normal ?_|refine blk_ret ?_|refine blk_hit ?_|refine blk_miss rfl ?_|refine aw_block ?_|refine aw_ret ?_|refine aw_skip ?_|refine aw_exit ?_|refine w_nil ?_|refine x_nil (by kernel_rfl) ?_)|refine aw_region ?_|refine aw_region_draw (by kernel_rfl) ?_|refine aw_yes rfl ?_|refine aw_no rfl ?_|((with_reducible refine w_seq ?_); first|refine r_q tbOk rfl rfl rfl rfl ?_|refine r_e tbOk rfl rfl rfl rfl rfl ?_|refine r_yes tbOk rfl rfl rfl rfl rfl rfl ?_|refine w_no rfl rfl (lookO_spec rfl) rfl rfl rfl ?_|refine w_un rfl rfl (lookO_spec rfl) rfl rfl ?_)|((with_reducible refine w_drw ?_); first|refine rx_q tbOk rfl rfl rfl rfl ?_|refine rx_e tbOk rfl rfl rfl rfl rfl ?_|refine rx_yes tbOk rfl rfl rfl rfl rfl rfl ?_|refine x_no rfl rfl (lookO_spec rfl) rfl rfl rfl ?_|refine x_un rfl rfl (lookO_spec rfl) rfl rfl ?_)|((first|refine' w_e rfl ?xa ?xb ?xc ?xe ?_|refine' v_e rfl ?xa ?xb ?xc ?xe ?_); (case xa => first|exact e_callO KA rfl rfl ⟨asA_r (evO_spec rfl), trivial⟩|exact e_callO KB rfl rfl ⟨asA_r (evO_spec rfl), trivial⟩|exact e_callO KC rfl rfl ⟨asA_r (evO_spec rfl), trivial⟩|exact e_build [] tlOk rfl rfl rfl rfl rfl rfl (by simp [AllN]) (by simp)|exact e_append tlOk rfl rfl rfl rfl rfl rfl (slD_plain (slD_own (lookHO_spec rfl) rfl) (ints_plain _)) (by first|rfl|(simp only [List.length_append]; done)) (by simp only [maxLen, List.length_append, List.length_cons, List.length_nil]; omega) (by (try simp only [List.length_append, List.length_cons, List.length_nil]); omega)); (case xb => rfl); (case xc => rfl); (case xe => rfl); try dsimp only [P0.d, Res.d, List.map_cons, List.map_nil, List.set_cons_zero, List.set_cons_succ, Nat.reduceAdd])|((first|refine aw_ways rfl ?_ ?_|refine r_split rfl rfl rfl ?_ ?_) <;> intro hg_ <;> fail_if_success (exact Bool.noConfusion hg_)) <;> (try simp only [prn] at hg_) <;> (try first|contradiction|(exfalso; omega)))
  all_goals first
    | (have : (fa && fb && fc) = false := by
         rw [Bool.and_eq_false_iff, Bool.and_eq_false_iff]
         cases fa <;> cases fb <;> cases fc <;> simp_all
       rw [this]
       exact ret_own rfl rfl rfl)
    | (have : (fa && fb && fc) = true := by
         rw [Bool.and_eq_true, Bool.and_eq_true]
         refine ⟨⟨hfa.2 ?_, hfb.2 ?_⟩, hfc.2 ?_⟩ <;> omega
       rw [this, if_pos rfl, ints_appB, ints_appB]
       exact ret_own rfl rfl (by simp only [List.length_append]))
    | trace_state
theorem cell_ownN {k n n' sz : Nat} (h : n = n') : Cell.own k 0 n sz = .own k 0 n' sz := by rw [h]
end Go.Proofs.Ytmkecjamfippfaa.Abs
set_option linter.unusedSimpArgs false
set_option linter.unusedVariables false
namespace Go.Proofs.Ytmkecjamfippfaa.Abs
open Go.RowKit
open R (val row ref)

end Go.Proofs.Ytmkecjamfippfaa.Abs
set_option linter.unusedSimpArgs false
set_option linter.unusedVariables false
namespace Go.Proofs.Ytmkecjamfippfaa.Abs
open Go.RowKit
open R (val row ref)

end Go.Proofs.Ytmkecjamfippfaa.Abs
set_option linter.unusedSimpArgs false
set_option linter.unusedVariables false
namespace Go.Proofs.Ytmkecjamfippfaa
open Go.RowKit

open Abs (frHd)
def frV (b o c : Nat) (xs : List Int) (i : Nat) : Value := match frHd (xs.drop i) with
  | some bd => .tuple #[.slice (some ⟨b, o + (i + 1), none⟩) bd.length (c - (i + 1)), .int .i64 ((i + bd.length + 2 : Nat) : Int), .bool true]
  | none => .tuple #[.slice none 0 0, .int .i64 0, .bool false]
theorem quietL {P : Program} {f : FuncId} {args : Array Value} {w : World} {n : Nat} {v : Value}
    (h : Calls P f args (w.drewN n) fun e w' => e = .returned v ∧ w.drewN n = w') : Calls P f args (w.drewN n) fun e w'' => e = .returned v ∧ ∃ m, w'' = w.drewN m :=
  h.mono fun _ _ ⟨he, hm⟩ => ⟨he, n, hm.symm⟩
theorem Ints.drewN {w : World} {b o : Nat} {xs : List Int} (h : Ints w b o xs) (n : Nat) : Ints (w.drewN n) b o xs := h
theorem Ints.subC {w : World} {b o : Nat} {xs : List Int} (h : Ints w b o xs) (I m : Nat) (hm : I + m ≤ xs.length) : Ints w b (o + I) ((xs.drop I).take m) := fun i hi => by
  have hl : i < m := by rw [List.length_take, List.length_drop] at hi; omega
  have := h (I + i) (by omega)
  rw [← Nat.add_assoc] at this
  rw [this]
  congr 2
  rw [List.getD_eq_getElem?_getD, List.getD_eq_getElem?_getD, List.getElem?_take, if_pos hl, List.getElem?_drop]
set_option maxRecDepth 100000 in
set_option maxHeartbeats 2000000 in
theorem implFrameAt (b o c : Nat) (ao : Option Addr) (xs : List Int) (i : Nat) (w : World) (hx : bytesOk xs = true) (hc : xs.length ≤ c) (hcm : c ≤ maxLen) (ha : At ao b o xs.length) (hin : Ints w b o xs) (hi : i ≤ xs.length) :
    Calls Try.prog 136 #[.slice ao xs.length c, .int .i64 i] w fun e w' => e = .returned (frV b o c xs i) ∧ ∃ m, w' = w.drewN m := by
  have hl := bytesOk_len hx
  have hcm' := hcm
  unfold maxLen at hcm'
  by_cases h0 : i < xs.length
  · have hz := hin i h0
    have ha1 : ao = some ⟨b, o, none⟩ := ha.resolve_left (by omega)
    have hdr := List.drop_eq_getElem_cons h0
    have hzz : xs.getD i 0 = xs[i] := by rw [List.getD_eq_getElem?_getD, List.getElem?_eq_getElem h0]; rfl
    have hb := bytesOk_get hx i h0
    rw [hzz] at hz
    have hFV : frV b o c xs i = match frHd (xs[i] :: xs.drop (i + 1)) with
      | some bd => .tuple #[.slice (some ⟨b, o + (i + 1), none⟩) bd.length (c - (i + 1)), .int .i64 ((i + bd.length + 2 : Nat) : Int), .bool true]
      | none => .tuple #[.slice none 0 0, .int .i64 0, .bool false] := by unfold frV; rw [hdr]
    have hix := ha.ix (c := c) Try.underlying24 sz_int
    generalize xs[i] = z at *
    obtain ⟨N, rfl⟩ := Int.eq_ofNat_of_zero_le hb.1
    have hrl : (xs.drop (i + 1)).length = xs.length - (i + 1) := List.length_drop ..
    by_cases h1 : 1 ≤ N ∧ N ≤ 100 ∧ N < xs.length - (i + 1)
    · obtain ⟨h1, h2, h3⟩ := h1
      have hin2 := hin.subC (i + 1) N (by omega)
      have hz2 := hin (i + 1 + N) (by omega)
      have hlen : ((xs.drop (i + 1)).take N).length = N := by rw [List.length_take, hrl]; omega
      have hS := fun n => implCheckSum (some ⟨b, o + (i + 1), none⟩) b (o + (i + 1)) (c - (i + 1)) ((xs.drop (i + 1)).take N) (w.drewN n) (by rw [hlen]; omega) (.inr rfl) (hin2.drewN n)
      rw [hlen] at hS
      have hg : (xs.drop (i + 1)).getD N 0 = xs.getD (i + 1 + N) 0 := by rw [List.getD_eq_getElem?_getD, List.getD_eq_getElem?_getD, List.getElem?_drop]
      have hF2 : frHd ((N : Int) :: xs.drop (i + 1)) = if xs.getD (i + 1 + N) 0 = sumOf ((xs.drop (i + 1)).take N) then some ((xs.drop (i + 1)).take N) else none := by
        simp only [frHd, Int.toNat_natCast, hg, hrl]
        by_cases hq : xs.getD (i + 1 + N) 0 = sumOf ((xs.drop (i + 1)).take N)
        · rw [if_pos hq, if_pos ⟨by omega, by omega, by omega, hq⟩]
        · rw [if_neg hq, if_neg (fun h => hq h.2.2.2)]
      rw [hF2] at hFV
      clear hF2 hg hin2 hrl hdr hzz hin
      have HS := Lib.hid hS
      clear hS
      generalize xs.getD (i + 1 + N) 0 = y at *
      have hw1 : IntKind.i64.wrap ((i : Int) + 1) = ((i + 1 : Nat) : Int) := by rw [IntWalk.i64_in _ (by omega)]; omega
      have hw2 : IntKind.i64.wrap (((i + 1 : Nat) : Int) + (N : Int)) = ((i + 1 + N : Nat) : Int) := by rw [IntWalk.i64_in _ (by omega)]; omega
      have hw3 : IntKind.i64.wrap ((i : Int) + (N : Int)) = ((i + N : Nat) : Int) := by rw [IntWalk.i64_in _ (by omega)]; omega
      have hw4 : IntKind.i64.wrap (((i + N : Nat) : Int) + 2) = ((i + N + 2 : Nat) : Int) := by rw [IntWalk.i64_in _ (by omega)]; omega
      have hw5 : IntKind.i64.wrap ((N : Int) + 2) = (N : Int) + 2 := IntWalk.i64_in _ (by omega)
      have hw6 : IntKind.i64.wrap ((xs.length : Int) - (i : Int)) = (xs.length : Int) - (i : Int) := IntWalk.i64_in _ (by omega)
      have d1 : ¬ (i : Int) < 0 := by omega
      have d2 : ¬ (xs.length : Int) ≤ (i : Int) := by omega
      have d3 : (i : Int) < (xs.length : Int) := by omega
      have d4 : ¬ (N : Int) < 1 := by omega
      have d5 : ¬ (100 : Int) < (N : Int) := by omega
      have d6 : ¬ (xs.length : Int) - (i : Int) < (N : Int) + 2 := by omega
      have hixI := fun w' => hix (i : Int) w' (by omega) (by omega)
      have hixJ := fun w' => hix ((i + 1 + N : Nat) : Int) w' (by omega) (by omega)
      simp only [Int.toNat_natCast] at hixI hixJ
      have hz2' : w.cell? ⟨b, o + (i + 1 + N), none⟩ = some (.int .i64 y) := hz2
      subst ha1
      have hsl : ∀ w' : World, (Instr.sliceAt 24 (.slice (some ⟨b, o, none⟩) xs.length c) (some (.int .i64 ((i + 1 : Nat) : Int))) (some (.int .i64 ((i + 1 + N : Nat) : Int))) none).run Try.prog w' = .ok (.slice (some ⟨b, o + (i + 1), none⟩) N (c - (i + 1))) w' := fun w' => by
        rw [Abs.run_sliceAt (a := i + 1) (b := i + 1 + N) Abs.sl24 (.inl rfl) (.inl rfl) (by omega) (by omega), if_neg (by omega)]
        simp [Addr.add]
      clear hix hz2 hx
      by_cases hq : y = sumOf ((xs.drop (i + 1)).take N)
      · rw [if_pos hq] at hFV
        subst hq
        rw [hFV]
        dsimp only
        rw [hlen]
        clear hFV
        generalize sumOf ((xs.drop (i + 1)).take N) = s at *
        go_enter Try.func136, Try.ntmps136
        go_wp2_with (fail)
        go_quiet ((first | (go_at_call 78; first | (with_reducible exact quietL (HS.out _)))))
        go_wp2
        go_ret3
        exact ⟨by rw [show ((i + N + 2 : Nat) : Int) = (i : Int) + (N : Int) + 2 by omega] <;> rfl, _, rfl⟩
      · rw [if_neg hq] at hFV
        rw [hFV]
        dsimp only
        clear hFV
        generalize sumOf ((xs.drop (i + 1)).take N) = s at *
        go_enter Try.func136, Try.ntmps136
        go_wp2_with (fail)
        go_quiet ((first | (go_at_call 78; first | (with_reducible exact quietL (HS.out _)))))
        go_wp2
        go_ret3
        exact ⟨rfl, _, rfl⟩
    · have hF2 : frHd ((N : Int) :: xs.drop (i + 1)) = none := by
        simp only [frHd, Int.toNat_natCast, hrl]
        rw [if_neg (fun h => h1 ⟨by omega, by omega, by omega⟩)]
      rw [hF2] at hFV
      rw [hFV]
      dsimp only
      clear hFV hF2
      have hixI := fun w' => hix (i : Int) w' (by omega) (by omega)
      simp only [Int.toNat_natCast] at hixI
      have hw5 : IntKind.i64.wrap ((N : Int) + 2) = (N : Int) + 2 := IntWalk.i64_in _ (by omega)
      have hw6 : IntKind.i64.wrap ((xs.length : Int) - (i : Int)) = (xs.length : Int) - (i : Int) := IntWalk.i64_in _ (by omega)
      have d1 : ¬ (i : Int) < 0 := by omega
      have d2 : ¬ (xs.length : Int) ≤ (i : Int) := by omega
      subst ha1
      clear hix
      by_cases d4 : (N : Int) < 1
      · go_enter Try.func136, Try.ntmps136
        go_wp2
        go_ret3
        exact ⟨rfl, 0, rfl⟩
      · by_cases d5 : (100 : Int) < (N : Int)
        · go_enter Try.func136, Try.ntmps136
          go_wp2
          go_ret3
          exact ⟨rfl, 0, rfl⟩
        · have d6 : (xs.length : Int) - (i : Int) < (N : Int) + 2 := by omega
          go_enter Try.func136, Try.ntmps136
          go_wp2
          go_ret3
          exact ⟨rfl, 0, rfl⟩
  · obtain rfl : i = xs.length := by omega
    have hFV : frV b o c xs xs.length = .tuple #[.slice none 0 0, .int .i64 0, .bool false] := by unfold frV; rw [List.drop_length]; rfl
    rw [hFV]
    have d1 : ¬ (xs.length : Int) < 0 := by omega
    go_enter Try.func136, Try.ntmps136
    go_wp2
    go_ret3
    exact ⟨rfl, 0, rfl⟩
end Go.Proofs.Ytmkecjamfippfaa
set_option linter.unusedSimpArgs false
set_option linter.unusedVariables false
namespace Go.Proofs.Ytmkecjamfippfaa
open Go.RowKit

open Go.Shelf
open Abs (frHd)
attribute [local go_sem] Oper.semAt_some
def itsF (xs : List Int) : Nat → Nat → List (Nat × List Int)
  | 0, _ => []
  | f + 1, i => match frHd (xs.drop i) with
    | some bd => (i, bd) :: itsF xs f (i + bd.length + 2)
    | none => []
def itsA (xs : List Int) (i : Nat) : List (Nat × List Int) := itsF xs (xs.length + 1 - i) i
theorem frHd_len {xs bd : List Int} (h : frHd xs = some bd) : bd.length + 2 ≤ xs.length := by
  cases xs with
  | nil => cases h
  | cons n r =>
    simp only [frHd] at h
    split at h
    · rename_i hc
      injection h with h
      subst h
      simp only [List.length_take, List.length_cons]
      omega
    · cases h
theorem itsF_fuel (xs : List Int) : ∀ (f g i : Nat), xs.length + 1 - i ≤ f → xs.length + 1 - i ≤ g → i ≤ xs.length → itsF xs f i = itsF xs g i
  | 0, g, i, h1, h2, h3 => by omega
  | f + 1, 0, i, h1, h2, h3 => by omega
  | f + 1, g + 1, i, h1, h2, h3 => by
    simp only [itsF]
    cases hh : frHd (xs.drop i) with
    | none => rfl
    | some bd =>
      have := frHd_len hh
      rw [List.length_drop] at this
      simp only
      rw [itsF_fuel xs f g _ (by omega) (by omega) (by omega)]
theorem itsA_none {xs : List Int} {i : Nat} (hi : i ≤ xs.length) (h : frHd (xs.drop i) = none) : itsA xs i = [] := by
  unfold itsA
  obtain ⟨k, hk⟩ : ∃ k, xs.length + 1 - i = k + 1 := ⟨xs.length - i, by omega⟩
  rw [hk]; simp only [itsF, h]
theorem itsA_some {xs bd : List Int} {i : Nat} (hi : i ≤ xs.length) (h : frHd (xs.drop i) = some bd) : itsA xs i = (i, bd) :: itsA xs (i + bd.length + 2) := by
  have hl := frHd_len h
  rw [List.length_drop] at hl
  unfold itsA
  obtain ⟨k, hk⟩ : ∃ k, xs.length + 1 - i = k + 1 := ⟨xs.length - i, by omega⟩
  rw [hk]; simp only [itsF, h]
  rw [itsF_fuel xs k (xs.length + 1 - (i + bd.length + 2)) _ (by omega) (by omega) (by omega)]
structure Frm (xs : List Int) where
  i : Nat
  bd : List Int
  le : i + 1 + bd.length ≤ xs.length
  eq : (xs.drop (i + 1)).take bd.length = bd
  pos : 1 ≤ bd.length
theorem frHd_fr {xs bd : List Int} {i : Nat} (h : frHd (xs.drop i) = some bd) : i + 1 + bd.length ≤ xs.length ∧ (xs.drop (i + 1)).take bd.length = bd ∧ 1 ≤ bd.length := by
  have hl := frHd_len h
  rw [List.length_drop] at hl
  cases hd : xs.drop i with
  | nil => rw [hd] at h; cases h
  | cons n r =>
    have hr : xs.drop (i + 1) = r := by rw [← List.drop_drop, hd]; rfl
    rw [hd] at h
    simp only [frHd] at h
    split at h
    · rename_i hc
      injection h with h
      subst h
      rw [hr]
      refine ⟨by omega, ?_, ?_⟩
      · rw [List.length_take, Nat.min_eq_left (by omega)]
      · rw [List.length_take]; omega
    · cases h
abbrev Frm.p {xs : List Int} (x : Frm xs) : Nat × List Int := (x.i, x.bd)
def encsF (b o c : Nat) {xs : List Int} (x : Frm xs) : Array Value := #[.slice (some ⟨b, o + (x.i + 1), none⟩) x.bd.length (c - (x.i + 1)), .int .i64 ((x.i : Int) + (x.bd.length : Int) + 2)]
def GF (Bb b o c : Nat) (ao : Option Addr) (xs : List Int) (W : World) : Prop := W.cell? ⟨Bb, 0, none⟩ = some (.slice ao xs.length c) ∧ Ints W b o xs
set_option maxRecDepth 100000 in
set_option maxHeartbeats 2000000 in
theorem frames_stops (n : Nat) (hn : 1 ≤ n) (Bb b o c : Nat) (ao : Option Addr) (xs : List Int) (w0 : World) (hx : bytesOk xs = true) (hc : xs.length ≤ c) (hcm : c ≤ maxLen) (ha : At ao b o xs.length) (hG : ∀ W, Below w0.heap.size w0 W → GF Bb b o c ao xs W) :
    SeqStopsK Fence.wide n Try.prog 135 #[.pointer (some ⟨Bb, 0, none⟩)] (fun x : Frm xs => encsF b o c x) (fun A B => GF Bb b o c ao xs A → GF Bb b o c ao xs B) (fun ys => ys.map Frm.p = itsA xs 0) (fun _ => True) (itsA xs 0).length w0 := by
  intro l J Jx W hW hJ hJx hY h0
  have hro : Fence.wide.round = none := rfl
  have hGW := hG W hW
  refine callsIn_of_wp Try.func135 rfl trivial ?_ hro
  simp only [Try.ntmps135, List.size_toArray, List.length_cons, List.length_nil, Nat.reduceAdd, Nat.reduceSub, Array.replicate_succ, Array.replicate_zero, List.push_toArray, List.append_toArray, List.nil_append, List.cons_append]
  gi_wp2
  gi_loopw [3] (fun p wr => ∃ (pre : List (Frm xs)) (i : Nat), p = .int .i64 (i : Int) ∧ i ≤ xs.length ∧ itsA xs 0 = pre.map Frm.p ++ itsA xs i ∧ J pre wr ∧ GF Bb b o c ao xs wr)
    (fun p _ => xs.length - (intOf p).toNat)
  case atStart => exact ⟨[], 0, rfl, Nat.zero_le _, rfl, h0, hGW⟩
  case round =>
    obtain ⟨pre, i, rfl, hi, hE, hJs, hGs⟩ := hrel
    obtain ⟨hg1, hg2⟩ := hGs
    have hF := implFrameAt b o c ao xs i wr hx hc hcm ha hg2 hi
    have hJd : ∀ m, J pre (wr.drewN m) := fun m => hJ pre wr (wr.drewN m) none hJs (gb_drewN (World.grownBy.refl wr none) m) (fun r e => by cases e)
    cases hh : frHd (xs.drop i) with
    | none =>
      have hV : frV b o c xs i = .tuple #[.slice none 0 0, .int .i64 0, .bool false] := by unfold frV; rw [hh]
      rw [hV] at hF
      rw [itsA_none hi hh, List.append_nil] at hE
      clear hV hh hY
      gi_wp2_with (refine ⟨trivial, ?_⟩; gi_at_call 136; refine (callsIn_wide.2 hF).mono ?_; rintro e w1 ⟨rfl, m, rfl⟩)
      refine ⟨fun _ h => (by cases h), ?_⟩
      gi_wp2
      refine bodyPost_ret (results_none rfl _ _ _) rfl ?_
      exact ⟨⟨_, rfl⟩, .inl ⟨pre, hE.symm, hJd m⟩⟩
    | some bd =>
      have hl := frHd_len hh
      rw [List.length_drop] at hl
      have hV : frV b o c xs i = .tuple #[.slice (some ⟨b, o + (i + 1), none⟩) bd.length (c - (i + 1)), .int .i64 ((i + bd.length + 2 : Nat) : Int), .bool true] := by unfold frV; rw [hh]
      rw [hV] at hF
      rw [itsA_some hi hh] at hE
      have hlen : pre.length < (itsA xs 0).length := by rw [hE]; simp
      obtain ⟨q1, q2, q3⟩ := frHd_fr hh
      have hYm := fun m => hY pre ⟨i, bd, q1, q2, q3⟩ (wr.drewN m) (hJd m) hlen
      unfold encsF at hYm
      dsimp only at hYm
      clear hV hh hY
      gi_wp2_with (refine ⟨trivial, ?_⟩; gi_at_call 136; refine (callsIn_wide.2 hF).mono ?_; rintro e w1 ⟨rfl, m, rfl⟩; obtain ⟨fn, tmps, assign, body, hy, hR⟩ := hYm m)
      refine hR.mono ?_
      rintro e W3 (⟨rfl, hJ3, hk3⟩ | ⟨rfl, hJx3⟩)
      · gi_wp2
        go_roundw
        case rel => exact ⟨pre ++ [⟨i, bd, q1, q2, q3⟩], i + bd.length + 2, by first | rfl | (congr 1), by omega, by rw [hE, List.map_append, List.append_assoc]; rfl, hJ3, hk3 ⟨hg1, hg2⟩⟩
        case measure => simp only [intOf]; omega
      · gi_wp2
        refine bodyPost_ret (results_none rfl _ _ _) rfl ?_
        exact ⟨⟨_, rfl⟩, .inr ⟨_, trivial, hJx3⟩⟩
end Go.Proofs.Ytmkecjamfippfaa
set_option linter.unusedSimpArgs false
set_option linter.unusedVariables false
namespace Go.Proofs.Ytmkecjamfippfaa.Abs
open Go.RowKit
open R (val row ref)

theorem rowsIn_of {l n : Nat} {P : Program} {row : String} {args : Array Value} {w : World} {R : Value → World → Prop} (h : Go.Rows P row args w R) : RowsIn (Fence.wide.inRound l) n P row args w R := fun c cs _ =>
  let ⟨v, w', r, s⟩ := h c cs
  ⟨v, w', r, by rw [fenced_inRound]; exact stepsIn_wide.2 s⟩
theorem op_in {l n : Nat} {P : Program} {o : Oper} {a : Act} {w : World} {K : Act → World → Prop} {Q : Exit → Act → World → Prop} (hd : ∀ c, o.op ≠ .defer c) (h : o.wp P a w K Q) : o.wpIn (Fence.wide.inRound l) n P a w K Q := by
  refine ⟨fun _ _ => trivial, ?_⟩
  rw [show (Fence.wide.inRound l).round = some l from rfl, Oper.semAt_some l _ o hd]
  unfold Oper.wp at h
  revert h
  generalize (execOp a.eval o).run P w = r
  intro h
  cases r with
  | ok x w' =>
    cases x with
    | value v => exact h
    | skip => exact h
    | defer d => exact h
    | enter f args =>
      refine ⟨fun hd => (by cases hd), ?_⟩
      have h' : Calls P f args w' _ := h
      refine (CallsIn.inRound l (callsIn_wide.2 h')).mono ?_
      intro e w'' he
      cases e <;> exact he
    | row row args => exact ⟨fun hd => (by cases hd), rowsIn_of h⟩
    | _ => exact h.elim
  | halt e w' =>
    cases e <;> first | exact h | exact h.elim
theorem nd_of {P : Program} {H : Nat → Option Ob} {ev : Operand → D} {o : Oper} {d : D} {τ new : List Nat} {U : List (Nat × Option Ob)} (he : Eff P H ev o d τ new U) {base : Nat} {a : Act} {w : World} {ι : Nat → Nat × Nat} {own : Nat → Prop}
    (h1 : ∀ b, own b → base ≤ b ∧ b < w.heap.size) (h2 : base ≤ w.heap.size ∧ Glob base w) (h3 : ∀ x ∈ o.op.operands, (ev x).p ι base ⟨w, own⟩ (a.eval x)) (h4 : ∀ k ob, H k = some ob → own (ι k).1 ∧ ob.p ι base ⟨w, own⟩ (ι k)) (h5 : ∀ k k' ob ob', H k = some ob → H k' = some ob' → (ι k).1 = (ι k').1 → k = k') :
    ∀ c, o.op ≠ .defer c := by
  intro c hc
  have h := he base a w ι own h1 h2 h3 h4 h5 (fun a' _ => a'.defers = a.defers) (fun _ _ _ => False) (fun v w' ι' own' _ => put_defers a o.dst v)
  unfold Oper.wp execOp at h
  rw [hc] at h
  simp only [Sem.run_bind] at h
  revert h
  generalize (resolve a.eval c o.type).run P w = r
  intro h
  cases r with
  | ok x w' =>
    simp only [Result.andThen_ok, Sem.run_pure, Oper.upon_defer] at h
    have h' : ({ a with defers := x :: a.defers } : Act).defers = a.defers := by rw [← put_defers _ o.dst undef]; exact h
    simp at h'
  | halt e w' => cases e <;> exact h.elim
def AWi (l : Nat) (P : Program) (c : Code) (s : St) (Q : Exit → St → Prop) : Prop := ∀ (n : Nat) w0 a w, Sim w0 s a w → c.wpIn (Fence.wide.inRound l) n P (Post w0 Q) a w
theorem Sim.stepI {l n : Nat} {P : Program} {w0 : Bs} {s : St} {a : Act} {w : World} {o : Oper} {σ : Sg} (hs : Sim w0 s a w) (he : Eff P (resH σ.fp s.heap) (evD s.env) o σ.d σ.τ σ.new σ.U) (hf : σ.fine s.heap) (hm : σ.fresh o.dst s) (ht : ∀ t, o.dst = some t → t < s.n) {K : Act → World → Prop} {Q : Exit → Act → World → Prop} (hK : ∀ a' w', Sim w0 (s.app o.dst σ) a' w' → K a' w') : o.wpIn (Fence.wide.inRound l) n P a w K Q := by
  have hw := hs.step he hf hm ht (Q := Q) hK
  obtain ⟨ι, own, hs⟩ := hs
  exact op_in (nd_of he hs.own_ ⟨Nat.le_trans hs.base_.1 hs.below.size, hs.base_.2⟩ (fun x _ => hs.ev x) (fun k ob hk => hs.heap k ob (resH_some hk)) (fun k k' ob ob' hk hk' => hs.inj k k' ob ob' (resH_some hk) (resH_some hk'))) hw
theorem wpListIn_of_W {r m : Nat} {P : Program} {ops : Array Oper} {Z : List Sg → Bool} {w0 : Bs} {Q : Exit → St → Prop} : ∀ (l : List Oper) (s : St), W P ops Z l s none (fun s' => Q .normal s') → ∀ a w, Sim w0 s a w → wpListIn (Fence.wide.inRound r) m P ops (Post w0 Q) l a w
  | [], s, h, a, w, hs => wpListIn_nil ⟨s, h.2, hs⟩
  | o :: rest, s, h, a, w, hs => by
    obtain ⟨g, σ, hg, hd, h1, h2, hW⟩ := h
    refine wpListIn_step fun K hK => ?_
    rw [hg.wanted hs]
    cases g with
    | true =>
      obtain ⟨he, hf, hm⟩ := h1 rfl
      simp only [if_true]
      exact hs.stepI he hf hm (dstOk_spec hd) (fun a' w' hs' => hK _ _ (wpListIn_of_W rest _ hW a' w' hs'))
    | false =>
      simp only [Bool.false_eq_true, if_false]
      have := h2 rfl
      subst this
      exact ⟨fun _ _ => trivial, hK _ _ (wpListIn_of_W rest _ hW _ _ (hs.skip o.dst (dstOk_spec hd)))⟩
section
variable {P : Program} {ops : Array Oper} {Sf : Nat → Sg} {tab : Nat → Nat}
theorem AnyQ.wpIn {r m : Nat} (ht : TabOk' ops tab) (hp : ∀ i j, i < j → j < ops.size → Pair ops Sf tab i j) {w0 : Bs} {Q : Exit → St → Prop} : ∀ (fuel : Nat) (listed : Array Bool) (s : St) (a : Act) (w : World), DC ops listed → Fr ops Sf listed s → Sim w0 s a w → AnyQ P ops Sf (fun s => Q .normal s) fuel listed s → wpAnyIn (Fence.wide.inRound r) m P .any ops (Post w0 Q) fuel listed a w
  | 0, listed, s, a, w, hd, hfr, hs, h => ⟨h.1, _, h.2, hs⟩
  | fuel + 1, listed, s, a, w, hd, hfr, hs, h => by
    refine ⟨fun h0 => ⟨_, h.1 h0, hs⟩, fun i hi => ?_⟩
    obtain ⟨o, s', ho, ⟨g, hg, hdk, l1, l2, rfl⟩, hnext⟩ := h.2 i hi
    have hfr' := Fr.step (dst := o.dst) ht hp hd hi hfr
    unfold wpOpIn
    simp only [ho]
    rw [hg.wanted hs]
    cases g with
    | true =>
      simp only [if_true]
      obtain ⟨he, hf⟩ := l1 rfl
      refine hs.stepI he hf (fun t htn => ?_) (dstOk_spec hdk) (fun a' w' hs' => AnyQ.wpIn ht hp fuel _ _ _ _ (hd.set hi) hfr' hs' hnext)
      have h1 := hfr i (ready_lt hi) (mem_ready.1 hi).1 t htn
      exact ⟨fun u _ => h1.1 u, fun k ob _ => h1.2 k ob⟩
    | false =>
      simp only [Bool.false_eq_true, if_false]
      rw [l2 rfl] at hnext hfr'
      exact ⟨fun _ _ => trivial, AnyQ.wpIn ht hp fuel _ _ _ _ (hd.set hi) hfr' (hs.skip o.dst (dstOk_spec hdk)) hnext⟩
end
section
variable {l : Nat} {P : Program} {s : St} {Q : Exit → St → Prop}
theorem awi_seq {x y : Code} (h : AWi l P x s (Thn (fun s' => AWi l P y s' Q) Q)) : AWi l P (.seq x y) s Q := fun n w0 a w hs =>
  wpIn_seq (wpIn_mono (h n w0 a w hs) fun e a w ⟨s', hq, hs'⟩ => by
    cases e <;> first | exact hq n w0 a w hs' | exact ⟨s', hq, hs'⟩)
theorem awi_block {id : Nat} {c : Code} (h : AWi l P c s (Blk id Q)) : AWi l P (.block id c) s Q := fun n w0 a w hs =>
  wpIn_block (wpIn_mono (h n w0 a w hs) fun e a w ⟨s', hq, hs'⟩ => by
    cases e <;> first
      | exact ⟨s', hq, hs'⟩
      | (rename_i i
         simp only [Blk] at hq
         simp only [Exit.inBlock]
         split at hq <;> rename_i he
         · rw [if_pos he]; exact ⟨s', hq, hs'⟩
         · rw [if_neg he]; exact ⟨s', hq, hs'⟩))
theorem awi_region {id : Nat} {ops : List Oper} (h : W P ops.toArray (fun _ => true) ops s none (fun s' => Q .normal s')) : AWi l P (.region id ops.toArray false) s Q := fun n w0 a w hs =>
  wpIn_region_lit (wpListIn_of_W ops s h a w hs)
theorem awi_region_draw {id : Nat} {ops : List Oper} {n : Nat} {el : List (Nat × D)} {h : List (Nat × Ob)} (hm : P.follows .mixedOrders = true) (hW : W P ops.toArray (regB ops el h) ops (mkS n el h) (some []) (fun s' => Q .normal s')) : AWi l P (.region id ops.toArray true) (mkS n el h) Q := fun n w0 a w hs => by
  refine wpIn_region_any hm ?_
  obtain ⟨Sf, tab, ht', hp, hd0, hfr, hq⟩ := draw_any hW
  have := AnyQ.wpIn (r := l) (m := n) ht' hp _ _ _ _ _ hd0 hfr hs.drew hq
  simpa using this
end
theorem Sim.turn {w0 : Bs} {s : St} {a : Act} {w w' : World} {row : Option Nat} (hs : Sim w0 s a w) (hg : w.grownBy w' row) (hr : ∀ r, row = some r → w0.heap.size ≤ r ∧ ∃ o : Obj, w.heap[r]? = some o ∧ o.isCells = false) : Sim w0 s a w' := by
  obtain ⟨ι, own, hs⟩ := hs
  have nc : ∀ (b : Nat) (arr : Array Value) (E : TypeId) (F : Nat × Nat), w.heap[b]? = some (.cells arr E F) → w'.heap[b]? = w.heap[b]? := fun b arr E F hb => by
    refine hg.block b (lt_of_heap hb) (fun e => ?_)
    obtain ⟨_, o, h1, h2⟩ := hr b (by first | exact e | exact e.symm)
    rw [hb] at h1
    injection h1 with h1
    subst h1
    simp [Obj.isCells] at h2
  have hlow : ∀ b, b < w0.heap.size → w'.heap[b]? = w.heap[b]? := fun b hb => hg.block b (Nat.lt_of_lt_of_le hb hs.below.size) (fun e => by
    have := (hr b (by first | exact e | exact e.symm)).1
    omega)
  have hx : Cx.Ext ⟨w, own⟩ ⟨w', own⟩ := ⟨hg.size, fun _ _ h => h, fun b hb _ => by
    by_cases e : row = some b
    · obtain ⟨_, o, h1, h2⟩ := hr b e
      exact .inr ⟨o, h1, fun arr E F e => by subst e; simp [Obj.isCells] at h2⟩
    · exact .inl (hg.block b hb (fun h => e (by first | exact h | exact h.symm)))⟩
  have hz : Sized w w' := fun b arr E hb => ⟨arr, by rw [nc b arr E _ hb]; exact hb, rfl⟩
  refine ⟨ι, own, ⟨hg.os.trans hs.below.os, hg.tape.trans hs.below.tape, hg.output.trans hs.below.output, Nat.le_trans hs.below.size hg.size, fun b hb hM => (hlow b hb).trans (hs.below.block b hb hM), fun b arr E hb => ?_⟩, ⟨hs.base_.1, hs.base_.2.keep (fun k hk => hlow k (Nat.lt_of_lt_of_le hk hs.base_.1))⟩, fun b hb => ⟨(hs.own_ b hb).1, Nat.lt_of_lt_of_le (hs.own_ b hb).2 hg.size⟩, hs.keep, hs.frm, hs.size, fun t => D.mono hx hz (hs.env t), fun k ob hk => ?_, hs.place, hs.inj, hs.defers, hs.pin⟩
  · obtain ⟨arr', h1, h2⟩ := hs.below.sized b arr E hb
    exact ⟨arr', by rw [nc b arr' E _ h1]; exact h1, h2⟩
  · obtain ⟨q1, q2⟩ := hs.heap k ob hk
    refine ⟨q1, Ob.mono hx hz ?_ q2⟩
    cases ob with
    | var E cs => obtain ⟨arr, h1, _⟩ := q2; exact nc _ _ _ _ h1
    | sl E sz nw els => obtain ⟨arr, h1, _⟩ := q2; exact nc _ _ _ _ h1
def ownC (w : World) (own : Nat → Prop) : Nat → Prop := fun b => own b ∧ ∃ o : Obj, w.heap[b]? = some o ∧ o.isCells = true
def reBs (w0 : Bs) (w : World) (own : Nat → Prop) (pn : Nat → Option (Nat × Nat)) (dfs : List Deferred) : Bs := { toWorld := w, base := w0.base, M := ownC w own, own0 := ownC w own, pin := pn, dfs := dfs }
theorem ob_cells {ι : Nat → Nat × Nat} {base : Nat} {c : Cx} {b : Nat × Nat} : ∀ {ob : Ob}, ob.p ι base c b → ∃ o : Obj, c.w.heap[b.1]? = some o ∧ o.isCells = true
  | .var .., ⟨arr, h1, _⟩ => ⟨_, h1, rfl⟩
  | .sl .., ⟨arr, h1, _⟩ => ⟨_, h1, rfl⟩
theorem Sim'.rebase {w0 : Bs} {s : St} {a : Act} {w : World} {ι : Nat → Nat × Nat} {own : Nat → Prop} (hs : Sim' w0 s a w ι own) (pn : Nat → Option (Nat × Nat)) (hp : ∀ k p, pn k = some p → ι k = p ∧ pinned ≤ k) : Sim' (reBs w0 w own pn a.defers) s a w ι (ownC w own) := by
  have hx : Cx.Ext ⟨w, own⟩ ⟨w, ownC w own⟩ := Cx.Ext.sub (c := ⟨w, own⟩) (c' := ⟨w, ownC w own⟩) rfl (fun b h => h.1)
  have hz : Sized w w := fun b arr E hb => ⟨arr, hb, rfl⟩
  exact ⟨⟨rfl, rfl, rfl, Nat.le_refl _, fun _ _ _ => rfl, hz⟩, ⟨Nat.le_trans hs.base_.1 hs.below.size, hs.base_.2⟩, fun b hb => hs.own_ b hb.1, fun b _ h0 hM => absurd h0 hM, fun b h => .inl h, hs.size, fun t => D.mono hx hz (hs.env t),
    fun k ob hk => ⟨⟨(hs.heap k ob hk).1, ob_cells (hs.heap k ob hk).2⟩, Ob.mono hx hz rfl (hs.heap k ob hk).2⟩, fun k ob hk => .inr ⟨(hs.heap k ob hk).1, ob_cells (hs.heap k ob hk).2⟩, hs.inj, rfl, hp⟩
theorem Sim'.back {w0 : Bs} {s s' : St} {a a' : Act} {w w' : World} {ι ι' : Nat → Nat × Nat} {own own' : Nat → Prop} {dfs : List Deferred} (h1 : Sim' w0 s a w ι own) (hM : ∀ b, w0.own0 b → w0.M b) (h2 : Sim' (reBs w0 w own w0.pin dfs) s' a' w' ι' own') (hd : a'.defers = w0.dfs) : Sim' w0 s' a' w' ι' own' := by
  refine ⟨⟨h2.below.os.trans h1.below.os, h2.below.tape.trans h1.below.tape, h2.below.output.trans h1.below.output, Nat.le_trans h1.below.size h2.below.size, fun b hb hn => ?_, fun b arr E hb => ?_⟩, ⟨h1.base_.1, h2.base_.2⟩, h2.own_, fun b _ h0 hn => absurd (hM b h0) hn, fun b hb => ?_, h2.size, h2.env, h2.heap, fun k ob hk => ?_, h2.inj, hd, h2.pin⟩
  · refine (h2.below.block b (Nat.lt_of_lt_of_le hb h1.below.size) (fun h => ?_)).trans (h1.below.block b hb hn)
    have h' : own b := h.1
    rcases h1.frm b h' with h | h
    · exact hn (hM b h)
    · omega
  · obtain ⟨arr', g1, g2⟩ := h1.below.sized b arr E hb
    obtain ⟨arr'', g3, g4⟩ := h2.below.sized b arr' E g1
    exact ⟨arr'', g3, g4.trans g2⟩
  · rcases h2.frm b hb with h | h
    · exact h1.frm b h.1
    · exact .inr (Nat.le_trans h1.below.size h)
  · rcases h2.place k ob hk with h | h
    · exact .inl (Nat.le_trans h1.below.size h)
    · rcases h1.frm _ h.1 with h | h
      · exact .inr (hM _ h)
      · exact .inl h
theorem Sim'.keeps {w0 : Bs} {s' : St} {a' : Act} {w w' : World} {ι' : Nat → Nat × Nat} {own own' : Nat → Prop} {pn : Nat → Option (Nat × Nat)} {dfs : List Deferred} (h2 : Sim' (reBs w0 w own pn dfs) s' a' w' ι' own') : KeepsOthers w w' :=
  ⟨h2.below.size, fun k o hk ho => (h2.below.block k (lt_of_heap hk) (fun h => by
    obtain ⟨o', h1, h3⟩ := h.2
    have h1' : w.heap[k]? = some o' := h1
    rw [hk] at h1'
    injection h1' with h1'
    subst h1'
    rw [ho] at h3; cases h3)).trans hk⟩
end Go.Proofs.Ytmkecjamfippfaa.Abs
set_option linter.unusedSimpArgs false
set_option linter.unusedVariables false
namespace Go.Proofs.Ytmkecjamfippfaa.Abs
open Go.RowKit
open R (val row ref)

open Go.Shelf
attribute [local go_sem] Oper.semAt_some
theorem scan_its {xs : List Int} : ∀ (k i : Nat), xs.length - i ≤ k → i ≤ xs.length → (scanF (xs.drop i)).1 = (itsA xs i).map (·.2) ∧ (scanF (xs.drop i)).2 = ((itsA xs i).map fun x => x.2.length + 2).sum
  | k, i, hk, hi => by
    cases hh : frHd (xs.drop i) with
    | none => rw [scanF_none hh, itsA_none hi hh]; exact ⟨rfl, rfl⟩
    | some bd =>
      have hl := frHd_len hh
      rw [List.length_drop] at hl
      have hl2 : i + bd.length + 2 ≤ xs.length := by omega
      clear hl
      cases k with
      | zero => omega
      | succ k =>
        obtain ⟨h1, h2⟩ := scan_its (xs := xs) k (i + bd.length + 2) (by omega) (by omega)
        rw [scanF_some hh, itsA_some hi hh, List.drop_drop, show i + (bd.length + 2) = i + bd.length + 2 by omega]
        simp only [List.map_cons, List.sum_cons]
        rw [h1, h2]
        exact ⟨rfl, rfl⟩
theorem last_its {xs : List Int} : ∀ (k i : Nat), xs.length - i ≤ k → i ≤ xs.length → ∀ y, (itsA xs i).getLast? = some y → y.1 + y.2.length + 2 = i + ((itsA xs i).map fun x => x.2.length + 2).sum
  | k, i, hk, hi, y, hy => by
    cases hh : frHd (xs.drop i) with
    | none => rw [itsA_none hi hh] at hy; cases hy
    | some bd =>
      have hl := frHd_len hh
      rw [List.length_drop] at hl
      have hl2 : i + bd.length + 2 ≤ xs.length := by omega
      clear hl
      cases k with
      | zero => omega
      | succ k =>
        have ih := last_its (xs := xs) k (i + bd.length + 2) (by omega) (by omega)
        rw [itsA_some hi hh] at hy ⊢
        rw [List.map_cons, List.sum_cons]
        dsimp only
        cases hr : itsA xs (i + bd.length + 2) with
        | nil =>
          rw [hr] at hy
          simp at hy
          subst hy
          simp; omega
        | cons z zs =>
          rw [hr] at hy ih
          rw [List.getLast?_cons_cons] at hy
          have := ih y hy
          omega
set_option maxRecDepth 100000 in
set_option maxHeartbeats 400000 in
theorem implFramesOf (ao : Option Addr) (n c : Nat) (w : World) : Calls Try.prog 124 #[.slice ao n c] w fun e w' => e = .returned (.func (.func 135) #[] #[.pointer (some ⟨w.heap.size, 0, none⟩)]) ∧ w' = w.alloc (.cells #[.slice ao n c] 24) := by
  go_enter Try.func124, Try.ntmps124
  go_wp2
  go_ret
  exact ⟨rfl, rfl⟩
theorem ovar1s {E : TypeId} {a b : Cell} (h : a = b) : Ob.var E [a] = .var E [b] := by rw [h]
set_option maxRecDepth 100000 in
set_option maxHeartbeats 2000000 in
theorem f_cloneO_S (xs : List Int) (hl : xs.length ≤ 1048576) : FnS Try.prog 101 [.one (.r false (row false 1 (ints xs)))] [] (.one (.own 2000001 0 xs.length 1)) [(2000001, .sl 3 1 true (ints xs))] := by
  have hlen := ints_len xs
  refine fnS_of (l := [.tmp 2]) Try.func101 (by kernel_rfl) rfl Try.ntmps101 rfl rfl ?_; simp only [dEnv, Nat.reduceAdd]
  repeat' (first|(with_reducible first|refine aw_seq ?_|refine thn_normal ?_|refine thn_ret ?_|refine thn_exit ?_|refine blk_normal ?_|refine blk_ret ?_|refine blk_hit ?_|refine blk_miss rfl ?_|refine aw_block ?_|refine aw_ret ?_|refine aw_skip ?_|refine aw_exit ?_|refine w_nil ?_|refine x_nil (by kernel_rfl) ?_)|refine aw_region ?_|refine aw_region_draw (by kernel_rfl) ?_|refine aw_yes rfl ?_|refine aw_no rfl ?_|((with_reducible refine w_seq ?_); first|refine r_q tbOk rfl rfl rfl rfl ?_|refine r_e tbOk rfl rfl rfl rfl rfl ?_|refine r_yes tbOk rfl rfl rfl rfl rfl rfl ?_|refine w_no rfl rfl (lookO_spec rfl) rfl rfl rfl ?_|refine w_un rfl rfl (lookO_spec rfl) rfl rfl ?_)|((with_reducible refine w_drw ?_); first|refine rx_q tbOk rfl rfl rfl rfl ?_|refine rx_e tbOk rfl rfl rfl rfl rfl ?_|refine rx_yes tbOk rfl rfl rfl rfl rfl rfl ?_|refine x_no rfl rfl (lookO_spec rfl) rfl rfl rfl ?_|refine x_un rfl rfl (lookO_spec rfl) rfl rfl ?_)|((first|refine' w_q rfl rfl ?xa rfl ?_|refine' v_q rfl rfl ?xa rfl ?_|refine' w_yes rfl rfl (lookO_spec rfl) rfl ?xa rfl ?_|refine' v_yes rfl rfl (lookO_spec rfl) rfl ?xa rfl ?_); case xa => exact k_nil_eq tbOk rfl rfl rfl rfl)|((first|refine' w_e rfl ?xa ?xb ?xc ?xe ?_|refine' v_e rfl ?xa ?xb ?xc ?xe ?_); (case xa => first|exact e_build [] tlOk rfl rfl rfl rfl rfl rfl (by simp [AllN]) (by simp)|exact e_append tlOk rfl rfl rfl rfl rfl rfl (slD_plain slD_row (ints_plain _)) (by first|rfl|(simp only [List.length_append]; done)) (by simp only [maxLen, List.length_append, List.length_cons, List.length_nil]; omega) (by (try simp only [List.length_append, List.length_cons, List.length_nil]); omega)); (case xb => rfl); (case xc => rfl); (case xe => rfl); try dsimp only [P0.d, Res.d, List.map_cons, List.map_nil, List.set_cons_zero, List.set_cons_succ, Nat.reduceAdd])|((first|refine aw_ways rfl ?_ ?_|refine r_split rfl rfl rfl ?_ ?_) <;> intro hg_ <;> fail_if_success (exact Bool.noConfusion hg_)) <;> (try simp only [prn] at hg_) <;> (try first|contradiction|(exfalso; omega)))
  all_goals first
   |exact ret_D [(2000001, 7)] rfl (by (repeat' (first|exact trivial|refine subHR_cons rfl ?_ ?_|rfl))) (retD_tmp rfl (imp_refl (d_own (by simp only [List.length_nil, Nat.zero_add, hlen]))))
    | trace_state
def EnvL (ι : Nat → Nat × Nat) (base : Nat) (c : Cx) (tm : Array Value) : List (Nat × D) → Prop
  | [] => True
  | (t, d) :: l => d.p ι base c (tm.getD t undef) ∧ EnvL ι base c tm l
theorem look_env {ι : Nat → Nat × Nat} {base : Nat} {c : Cx} {tm : Array Value} : ∀ {l : List (Nat × D)}, EnvL ι base c tm l → ∀ t, (look l t).p ι base c (tm.getD t undef)
  | [], _, t => trivial
  | (u, d) :: l, ⟨h1, h2⟩, t => by
    by_cases e : t = u
    · subst e
      show (upd (look l) t d t).p _ _ _ _
      rw [upd_same]; exact h1
    · show (upd (look l) u d t).p _ _ _ _
      rw [upd_ne _ _ e]; exact look_env h2 t
def hpS (bs : List (List Int)) (t : Int) : List (Nat × Ob) := if bs = [] then [(1000000000, .var 22 [.r true (row true 1 [])]), (1000000001, .var 3 [.r true (int t)])] else [(1000000000, .var 22 [.own 100 0 bs.length 1]), (100, .sl 24 1 true (rowsI bs)), (1000000001, .var 3 [.r true (int t)])]
def tkS {xs : List Int} (pre : List (Frm xs)) : Int := match pre.getLast? with | none => 0 | some x => (x.i : Int) + (x.bd.length : Int) + 2
def stS {xs : List Int} (pre : List (Frm xs)) : St := mkS 23 [(4, .one (.ptr 1000000000 0 0 0)), (5, .one (.ptr 1000000001 0 0 0))] (hpS (pre.map Frm.bd) (tkS pre))
def bsL (w WL : World) (dfs : List Deferred) : Bs := { toWorld := WL, base := w.heap.size, M := fun b => b = w.heap.size ∨ b = w.heap.size + 1, own0 := fun b => b = w.heap.size ∨ b = w.heap.size + 1, pin := fun k => if k = 1000000000 then some (w.heap.size, 0) else if k = 1000000001 then some (w.heap.size + 1, 0) else none, dfs := dfs }
set_option maxRecDepth 100000 in
set_option maxHeartbeats 4000000 in
theorem body_scan (l : Nat) {xs : List Int} (hx : bytesOk xs = true) (pre : List (Frm xs)) (x : Frm xs) (hp : pre.length ≤ 2000) :
    AWi l Try.prog (match (Try.f99).body with | some (.seq _ (.seq _ (.seq _ (.seq _ (.seq (.seq _ (.block _ (.rangeFunc _ _ _ c))) _))))) => c | _ => .skip) (mkS 23 [(6, .one (.r false (row false 1 (ints x.bd)))), (7, .one (.r true (int ((x.i : Int) + (x.bd.length : Int) + 2)))), (4, .one (.ptr 1000000000 0 0 0)), (5, .one (.ptr 1000000001 0 0 0))] (hpS (pre.map Frm.bd) (tkS pre)))
      (fun e s' => e = .normal ∧ Weak s' (mkS 23 [] (hpS ((pre ++ [x]).map Frm.bd) (tkS (pre ++ [x]))))) := by
  have hl := bytesOk_len hx
  delta Try.f99
  dsimp only
  obtain ⟨i, bd, h1, h2, h3⟩ := x
  have KC := f_cloneO_S bd (by omega)
  have hbd := ints_len bd
  have ht : tkS (pre ++ [⟨i, bd, h1, h2, h3⟩]) = (i : Int) + (bd.length : Int) + 2 := by unfold tkS; simp
  rw [ht, show (pre ++ [(⟨i, bd, h1, h2, h3⟩ : Frm xs)]).map Frm.bd = pre.map Frm.bd ++ [bd] by rw [List.map_append]; rfl]
  generalize hq : pre.map Frm.bd = bs at *
  have hbl : bs.length ≤ 2000 := by rw [← hq, List.length_map]; exact hp
  clear hq ht
  generalize tkS pre = t0 at *
  dsimp only [List.map_cons, List.map_nil]
  have hne : hpS (bs ++ [bd]) ((i : Int) + (bd.length : Int) + 2) = [(1000000000, .var 22 [.own 100 0 (bs ++ [bd]).length 1]), (100, .sl 24 1 true (rowsI (bs ++ [bd]))), (1000000001, .var 3 [.r true (int ((i : Int) + (bd.length : Int) + 2))])] := by unfold hpS; rw [if_neg (by simp)]
  rw [hne]
  by_cases hb : bs = []
  · subst hb
    rw [show hpS [] t0 = [(1000000000, .var 22 [.r true (row true 1 [])]), (1000000001, .var 3 [.r true (int t0)])] from rfl]
    repeat' (first|(with_reducible first|refine awi_seq ?_|refine thn_normal ?_|refine thn_ret ?_|refine thn_exit ?_|refine blk_normal ?_|refine blk_ret ?_|refine blk_hit ?_|refine blk_miss rfl ?_|refine awi_block ?_|refine aw_ret ?_|refine aw_skip ?_|refine aw_exit ?_|refine w_nil ?_|refine x_nil (by kernel_rfl) ?_)|refine awi_region ?_|refine awi_region_draw (by kernel_rfl) ?_|refine aw_yes rfl ?_|refine aw_no rfl ?_|((with_reducible refine w_seq ?_); first|refine r_q tbOk rfl rfl rfl rfl ?_|refine r_e tbOk rfl rfl rfl rfl rfl ?_|refine r_yes tbOk rfl rfl rfl rfl rfl rfl ?_|refine w_no rfl rfl (lookO_spec rfl) rfl rfl rfl ?_|refine w_un rfl rfl (lookO_spec rfl) rfl rfl ?_)|((with_reducible refine w_drw ?_); first|refine rx_q tbOk rfl rfl rfl rfl ?_|refine rx_e tbOk rfl rfl rfl rfl rfl ?_|refine rx_yes tbOk rfl rfl rfl rfl rfl rfl ?_|refine x_no rfl rfl (lookO_spec rfl) rfl rfl rfl ?_|refine x_un rfl rfl (lookO_spec rfl) rfl rfl ?_)|((first|refine' w_e rfl ?xa ?xb ?xc ?xe ?_|refine' v_e rfl ?xa ?xb ?xc ?xe ?_); (case xa => first|exact at_dst 17 rfl (e_callS0 (ys := [.one (row false 1 (ints bd))]) [(2000001, 17)] KC rfl rfl ⟨by rw [evO_spec rfl]; exact cAr_r, trivial⟩ rfl rfl)|exact e_buildF 17 tlOk rfl rfl rfl rfl rfl rfl rfl hbd.symm|exact e_append_nil tlOk rfl rfl rfl rfl rfl (slD_own (lookHO_spec rfl) rfl) (by simp) (by simp [maxLen]) (by simp)); (case xb => rfl); (case xc => rfl); (case xe => rfl); try dsimp only [P0.d, Res.d, List.map_cons, List.map_nil, List.set_cons_zero, List.set_cons_succ, Nat.reduceAdd])|((first|refine aw_ways rfl ?_ ?_|refine r_split rfl rfl rfl ?_ ?_) <;> intro hg_ <;> fail_if_success (exact Bool.noConfusion hg_)) <;> (try simp only [prn] at hg_) <;> (try first|contradiction|(exfalso; omega)))
    all_goals first
     |exact ⟨rfl, by (refine weak_ren [(100, 19)] rfl ?_ ?_ <;> repeat' (first|exact trivial|refine subR_cons rfl ?_ ?_|refine subHR_cons rfl ?_ ?_|rfl|(refine d_int ?_; (first|rfl|omega|(rw [IntWalk.i64_in _ (by omega)] <;> omega)|(simp; done)|(simp; omega)))|(refine d_bool ?_; (first|(simp_all; done)|(rw [Bool.eq_iff_iff]; simp_all; done)|(rw [Bool.eq_iff_iff]; simp_all; omega)|(rw [Bool.eq_iff_iff]; simp; omega)))))⟩
      | trace_state
  · rw [show hpS bs t0 = [(1000000000, .var 22 [.own 100 0 bs.length 1]), (100, .sl 24 1 true (rowsI bs)), (1000000001, .var 3 [.r true (int t0)])] by unfold hpS; rw [if_neg hb]]
    have hrl := (rowsI_len bs).symm
    repeat' (first|(with_reducible first|refine awi_seq ?_|refine thn_normal ?_|refine thn_ret ?_|refine thn_exit ?_|refine blk_normal ?_|refine blk_ret ?_|refine blk_hit ?_|refine blk_miss rfl ?_|refine awi_block ?_|refine aw_ret ?_|refine aw_skip ?_|refine aw_exit ?_|refine w_nil ?_|refine x_nil (by kernel_rfl) ?_)|refine awi_region ?_|refine awi_region_draw (by kernel_rfl) ?_|refine aw_yes rfl ?_|refine aw_no rfl ?_|((with_reducible refine w_seq ?_); first|refine r_q tbOk rfl rfl rfl rfl ?_|refine r_e tbOk rfl rfl rfl rfl rfl ?_|refine r_yes tbOk rfl rfl rfl rfl rfl rfl ?_|refine w_no rfl rfl (lookO_spec rfl) rfl rfl rfl ?_|refine w_un rfl rfl (lookO_spec rfl) rfl rfl ?_)|((with_reducible refine w_drw ?_); first|refine rx_q tbOk rfl rfl rfl rfl ?_|refine rx_e tbOk rfl rfl rfl rfl rfl ?_|refine rx_yes tbOk rfl rfl rfl rfl rfl rfl ?_|refine x_no rfl rfl (lookO_spec rfl) rfl rfl rfl ?_|refine x_un rfl rfl (lookO_spec rfl) rfl rfl ?_)|((first|refine' w_e rfl ?xa ?xb ?xc ?xe ?_|refine' v_e rfl ?xa ?xb ?xc ?xe ?_); (case xa => first|exact at_dst 17 rfl (e_callS0 (ys := [.one (row false 1 (ints bd))]) [(2000001, 17)] KC rfl rfl ⟨by rw [evO_spec rfl]; exact cAr_r, trivial⟩ rfl rfl)|exact e_buildF 17 tlOk rfl rfl rfl rfl rfl rfl rfl hbd.symm|exact e_append tlOk rfl rfl rfl rfl rfl rfl (slD_own (lookHO_spec rfl) rfl) hrl (by simp only [maxLen, List.length_append, List.length_cons, List.length_nil]; omega) (by simp only [List.length_append, List.length_cons, List.length_nil]; omega)); (case xb => rfl); (case xc => rfl); (case xe => rfl); try dsimp only [P0.d, Res.d, List.map_cons, List.map_nil, List.set_cons_zero, List.set_cons_succ, Nat.reduceAdd])|((first|refine aw_ways rfl ?_ ?_|refine r_split rfl rfl rfl ?_ ?_) <;> intro hg_ <;> fail_if_success (exact Bool.noConfusion hg_)) <;> (try simp only [prn] at hg_) <;> (try first|contradiction|(exfalso; omega)))
    all_goals first
     |exact ⟨rfl, by (refine weak_ren [(100, 19)] rfl ?_ ?_ <;> repeat' (first|exact trivial|refine subR_cons rfl ?_ ?_|refine subHR_cons rfl ?_ ?_|rfl|(refine d_int ?_; (first|rfl|omega|(rw [IntWalk.i64_in _ (by omega)] <;> omega)|(simp; done)|(simp; omega)))|(refine d_bool ?_; (first|(simp_all; done)|(rw [Bool.eq_iff_iff]; simp_all; done)|(rw [Bool.eq_iff_iff]; simp_all; omega)|(rw [Bool.eq_iff_iff]; simp; omega)))|exact ovar1s (cell_ownN (by simp only [List.length_append, List.length_cons, List.length_nil, rowsI_len]))|exact ob_sl rfl (rowsI_app _ _).symm))⟩
      | trace_state
def HeapL (ι : Nat → Nat × Nat) (base : Nat) (c : Cx) : List (Nat × Ob) → Prop
  | [] => True
  | (k, ob) :: h => (c.own (ι k).1 ∧ ob.p ι base c (ι k)) ∧ HeapL ι base c h
theorem heapL_get {ι : Nat → Nat × Nat} {base : Nat} {c : Cx} : ∀ {h : List (Nat × Ob)}, HeapL ι base c h → ∀ k ob, lookH h k = some ob → c.own (ι k).1 ∧ ob.p ι base c (ι k)
  | (u, o) :: h, ⟨h1, h2⟩, k, ob, hk => by
    by_cases e : k = u
    · subst e
      have hk' : upd (lookH h) k (some o) k = some ob := hk
      rw [upd_same] at hk'
      injection hk' with hk'
      subst hk'
      exact h1
    · have hk' : upd (lookH h) u (some o) k = some ob := hk
      rw [upd_ne _ _ e] at hk'
      exact heapL_get h2 k ob hk'
theorem lookH_key : ∀ {h : List (Nat × Ob)} {k : Nat} {ob : Ob}, lookH h k = some ob → k ∈ h.map (·.1)
  | (u, o) :: h, k, ob, hk => by
    by_cases e : k = u
    · simp [e]
    · have hk' : upd (lookH h) u (some o) k = some ob := hk
      rw [upd_ne _ _ e] at hk'
      have := lookH_key hk'
      simp only [List.map_cons, List.mem_cons]
      exact .inr this
theorem itsF_len (xs : List Int) : ∀ f i : Nat, (itsF xs f i).length ≤ f
  | 0, i => Nat.le_refl _
  | f + 1, i => by
    simp only [itsF]
    split
    · simp only [List.length_cons]; have := itsF_len xs f; exact Nat.succ_le_succ (this _)
    · exact Nat.zero_le _
def lsA (w : World) (ao : Option Addr) (n c : Nat) (x6 x7 : Value) : Array Value := #[.slice ao n c, undef, .slice none 0 0, .int .i64 0, .pointer (some ⟨w.heap.size, 0, none⟩), .pointer (some ⟨w.heap.size + 1, 0, none⟩), x6, x7, .slice ao n c, .bool true, .bool false, .slice ao n c, .func (.func 135) #[] #[.pointer (some ⟨w.heap.size + 1 + 1, 0, none⟩)], x6, x7, undef, undef, undef, undef, undef, undef, undef, undef]
theorem scan_start (w WL : World) (ao : Option Addr) (n c : Nat) {xs : List Int} (hG : Glob w.heap.size w) (hWL : WL = ((w.alloc (.cells #[.slice none 0 0] 22)).alloc (.cells #[.int .i64 0] 3)).alloc (.cells #[.slice ao n c] 24)) :
    WL.heap.size = w.heap.size + 3 ∧ Below w.heap.size w WL ∧ WL.heap[w.heap.size + 1 + 1]? = some (.cells #[.slice ao n c] 24 (0, 0)) ∧ Sim (bsL w WL []) (stS ([] : List (Frm xs))) { tmps := lsA w ao n c undef undef, defers := [] } WL := by
  obtain ⟨W1, hW1⟩ : ∃ W1 : World, W1 = w.alloc (.cells #[.slice none 0 0] 22) := ⟨_, rfl⟩
  obtain ⟨W2, hW2⟩ : ∃ W2 : World, W2 = W1.alloc (.cells #[.int .i64 0] 3) := ⟨_, rfl⟩
  rw [← hW1, ← hW2] at hWL
  have z1 : W1.heap.size = w.heap.size + 1 := by rw [hW1]; exact size_new _ _
  have z2 : W2.heap.size = w.heap.size + 2 := by rw [hW2, size_new, z1]
  have z3 : WL.heap.size = w.heap.size + 3 := by rw [hWL, size_new, z2]
  have b1 : Below w.heap.size w W1 := by rw [hW1]; exact below_alloc _ _
  have b2 : Below W1.heap.size W1 W2 := by rw [hW2]; exact below_alloc _ _
  have b3 : Below W2.heap.size W2 WL := by rw [hWL]; exact below_alloc _ _
  have hB : Below w.heap.size w WL := (b1.trans (b2.mono (by omega))).trans (b3.mono (by omega))
  have c0 : WL.heap[w.heap.size]? = some (.cells #[.slice none 0 0] 22 (0, 0)) := by
    rw [b3.block _ (by omega), b2.block _ (by omega), hW1]; exact heap_new _ _
  have c1 : WL.heap[w.heap.size + 1]? = some (.cells #[.int .i64 0] 3 (0, 0)) := by
    rw [b3.block _ (by omega), hW2, ← z1]; exact heap_new _ _
  have c2 : WL.heap[w.heap.size + 1 + 1]? = some (.cells #[.slice ao n c] 24 (0, 0)) := by
    have := heap_new W2 (.cells #[.slice ao n c] 24)
    rw [← hWL, z2] at this; exact this
  refine ⟨z3, hB, c2, ?_⟩
  have hh : stS ([] : List (Frm xs)) = mkS 23 [(4, .one (.ptr 1000000000 0 0 0)), (5, .one (.ptr 1000000001 0 0 0))] [(1000000000, .var 22 [.r true (row true 1 [])]), (1000000001, .var 3 [.r true (int 0)])] := rfl
  rw [hh]
  obtain ⟨ι0, i1, i2⟩ : ∃ ι0 : Nat → Nat × Nat, ι0 1000000000 = (w.heap.size, 0) ∧ ι0 1000000001 = (w.heap.size + 1, 0) := ⟨fun k => if k = 1000000000 then (w.heap.size, 0) else (w.heap.size + 1, 0), by simp, by simp⟩
  have hE : EnvL ι0 w.heap.size ⟨WL, fun b => b = w.heap.size ∨ b = w.heap.size + 1⟩ (lsA w ao n c undef undef) [(4, .one (.ptr 1000000000 0 0 0)), (5, .one (.ptr 1000000001 0 0 0))] := by
    refine ⟨?_, ?_, trivial⟩
    · show (lsA w ao n c undef undef).getD 4 undef = Value.pointer (some ⟨(ι0 1000000000).1, (ι0 1000000000).2 + (0 * 0 + 0), none⟩)
      rw [i1]; rfl
    · show (lsA w ao n c undef undef).getD 5 undef = Value.pointer (some ⟨(ι0 1000000001).1, (ι0 1000000001).2 + (0 * 0 + 0), none⟩)
      rw [i2]; rfl
  have hH : HeapL ι0 w.heap.size ⟨WL, fun b => b = w.heap.size ∨ b = w.heap.size + 1⟩ [(1000000000, .var 22 [.r true (row true 1 [])]), (1000000001, .var 3 [.r true (int 0)])] := by
    refine ⟨⟨?_, ?_⟩, ⟨?_, ?_⟩, trivial⟩
    · rw [i1]; exact .inl rfl
    · rw [i1]
      refine ⟨_, c0, Nat.le_refl _, fun j x hj => ?_⟩
      match j, hj with
      | 0, hj =>
        obtain rfl : Cell.r true (row true 1 []) = x := by simpa using hj
        exact ⟨_, rfl, row_p.2 ⟨none, 0, rfl, ⟨Nat.le_refl _, Nat.zero_le _⟩, ⟨fun _ => rfl, fun _ => rfl⟩, fun _ => rfl, fun h => by simp at h⟩⟩
      | j + 1, hj => simp at hj
    · rw [i2]; exact .inr rfl
    · rw [i2]
      refine ⟨_, c1, Nat.le_refl _, fun j x hj => ?_⟩
      match j, hj with
      | 0, hj =>
        obtain rfl : Cell.r true (int 0) = x := by simpa using hj
        exact ⟨_, rfl, (val_p (c := Cx.young ⟨WL, fun b => b = w.heap.size ∨ b = w.heap.size + 1⟩ w.heap.size true)).2 ⟨rfl, rfl⟩⟩
      | j + 1, hj => simp at hj
  refine ⟨ι0, fun b => b = w.heap.size ∨ b = w.heap.size + 1, ⟨rfl, rfl, rfl, Nat.le_refl _, fun _ _ _ => rfl, fun b arr E h => ⟨arr, h, rfl⟩⟩, ⟨hB.size, hG.keep (fun k hk => hB.block k hk)⟩, fun b hb => ?_, fun b _ h hn => absurd h hn, fun b h => .inl h, rfl, fun t => look_env hE t, fun k ob hk => heapL_get hH k ob hk, fun k ob hk => ?_, fun k k' ob ob' hk hk' e => ?_, rfl, fun k p hp => ?_⟩
  · show w.heap.size ≤ b ∧ b < WL.heap.size
    have hb' : b = w.heap.size ∨ b = w.heap.size + 1 := hb
    omega
  · exact .inr (heapL_get hH k ob hk).1
  · have h1 := lookH_key hk
    have h2 := lookH_key hk'
    simp only [List.map_cons, List.map_nil, List.mem_cons, List.not_mem_nil, or_false] at h1 h2
    rcases h1 with rfl | rfl <;> rcases h2 with rfl | rfl
    · rfl
    · rw [i1, i2] at e; exfalso; simp at e
    · rw [i1, i2] at e; exfalso; simp at e
    · rfl
  · have hp' : (if k = 1000000000 then some (w.heap.size, 0) else if k = 1000000001 then some (w.heap.size + 1, 0) else none) = some p := hp
    split at hp'
    · rename_i hk
      subst hk
      injection hp' with hp'
      exact ⟨i1.trans hp', by decide⟩
    · split at hp'
      · rename_i hk1 hk
        subst hk
        injection hp' with hp'
        exact ⟨i2.trans hp', by decide⟩
      · cases hp'
theorem scan_G {w WL W : World} {dfs : List Deferred} {b o c : Nat} {ao : Option Addr} {xs : List Int} (hin : Ints w b o xs) (hB : Below w.heap.size w WL) (hz : WL.heap.size = w.heap.size + 3) (c2 : WL.heap[w.heap.size + 1 + 1]? = some (.cells #[.slice ao xs.length c] 24 (0, 0))) (hL : Low (bsL w WL dfs) W) : GF (w.heap.size + 1 + 1) b o c ao xs W := by
  have hblk : ∀ k, k < WL.heap.size → ¬ (k = w.heap.size ∨ k = w.heap.size + 1) → W.heap[k]? = WL.heap[k]? := fun k hk hn => hL.block k hk hn
  refine ⟨?_, fun i hi => ?_⟩
  · rw [cell_of_arr ((hblk _ (by omega) (by omega)).trans c2)]; rfl
  · have h1 := hin i hi
    have hlt := World.block_lt_of_cell? w _ h1
    have hlt' : b < w.heap.size := hlt
    rw [World.cell?_of_block (a := ⟨b, o + i, none⟩) ((hblk b (by omega) (by omega)).trans (hB.block b hlt'))]
    exact h1
noncomputable abbrev scanBody : Code := match (Try.f99).body with | some (.seq _ (.seq _ (.seq _ (.seq _ (.seq (.seq _ (.block _ (.rangeFunc _ _ _ c))) _))))) => c | _ => .skip
theorem scan_round (l n : Nat) {w WL W : World} {b o c : Nat} {ao : Option Addr} {xs : List Int} (hx : bytesOk xs = true) (hlc : xs.length ≤ c) (hcm : c ≤ maxLen) (hin : Ints w b o xs) (hB : Below w.heap.size w WL) (hz : WL.heap.size = w.heap.size + 3) (c2 : WL.heap[w.heap.size + 1 + 1]? = some (.cells #[.slice ao xs.length c] 24 (0, 0)))
    (pre : List (Frm xs)) (x : Frm xs) (hp : pre.length ≤ 2000) (hS : Sim (bsL w WL []) (stS pre) { tmps := lsA w ao xs.length c undef undef, defers := [] } W) :
    scanBody.wpIn (Fence.wide.inRound l) n Try.prog (ownPostK (fun A B => GF (w.heap.size + 1 + 1) b o c ao xs A → GF (w.heap.size + 1 + 1) b o c ao xs B) (fun (pre : List (Frm xs)) W => Sim (bsL w WL []) (stS pre) { tmps := lsA w ao xs.length c undef undef, defers := [] } W) (fun _ _ _ => False) (pre ++ [x]) W)
      { tmps := lsA w ao xs.length c (.slice (some ⟨b, o + (x.i + 1), none⟩) x.bd.length (c - (x.i + 1))) (.int .i64 ((x.i : Int) + (x.bd.length : Int) + 2)), defers := [] } W := by
  obtain ⟨ι, own, hs⟩ := hS
  have hpin : ∀ k p, (bsL w WL []).pin k = some p → ι k = p ∧ pinned ≤ k := hs.pin
  have hr := hs.rebase (bsL w WL []).pin hpin
  have p1 : ι 1000000000 = (w.heap.size, 0) := (hpin 1000000000 (w.heap.size, 0) (by simp [bsL])).1
  have p2 : ι 1000000001 = (w.heap.size + 1, 0) := (hpin 1000000001 (w.heap.size + 1, 0) (by simp [bsL])).1
  obtain ⟨hg1, hg2⟩ := scan_G hin hB hz c2 hs.below
  have hsub := hg2.subC (x.i + 1) x.bd.length x.le
  rw [x.eq] at hsub
  have hb0 := hsub 0 x.pos
  have hbW : b < W.heap.size := World.block_lt_of_cell? W _ hb0
  have hbw : b < w.heap.size := by
    have := hin x.i (by have := x.le; omega)
    exact World.block_lt_of_cell? w _ this
  have hno : ¬ ownC W own b := fun h => by
    rcases hs.frm b h.1 with h' | h'
    · have : b = w.heap.size ∨ b = w.heap.size + 1 := h'
      omega
    · have : WL.heap.size ≤ b := h'
      omega
  have hle := x.le
  have hE : EnvL ι w.heap.size ⟨W, ownC W own⟩ (lsA w ao xs.length c (.slice (some ⟨b, o + (x.i + 1), none⟩) x.bd.length (c - (x.i + 1))) (.int .i64 ((x.i : Int) + (x.bd.length : Int) + 2))) [(6, .one (.r false (row false 1 (ints x.bd)))), (7, .one (.r true (int ((x.i : Int) + (x.bd.length : Int) + 2)))), (4, .one (.ptr 1000000000 0 0 0)), (5, .one (.ptr 1000000001 0 0 0))] := by
    refine ⟨?_, ?_, ?_, ?_, trivial⟩
    · refine (row_p (c := ⟨W, ownC W own⟩)).2 ⟨some ⟨b, o + (x.i + 1), none⟩, c - (x.i + 1), ?_, ?_, ⟨fun h => by (cases h), fun h => by (cases h)⟩, fun h => by (cases h), fun _ => ⟨b, o + (x.i + 1), rfl, hbW, hno, fun i e he => ?_⟩⟩
      · rw [ints_len]; rfl
      · rw [ints_len]; omega
      · unfold ints at he
        rw [List.getElem?_map, Option.map_eq_some_iff] at he
        obtain ⟨z, hz1, rfl⟩ := he
        refine ⟨rfl, fun j r hj => ?_⟩
        match j, hj with
        | 0, hj =>
          obtain rfl : int z = r := by simpa [P0.rs] using hj
          obtain ⟨hi, hzz⟩ := List.getElem?_eq_some_iff.1 hz1
          refine ⟨.int .i64 z, ?_, (val_p (c := ⟨W, ownC W own⟩)).2 ⟨rfl, rfl⟩⟩
          have := hsub i hi
          rw [List.getD_eq_getElem?_getD, hz1] at this
          show W.cell? ⟨b, o + (x.i + 1) + i * 1 + 0, none⟩ = _
          rw [Nat.mul_one, Nat.add_zero]
          exact this
        | j + 1, hj => simp [P0.rs] at hj
    · exact (val_p (c := Cx.young ⟨W, ownC W own⟩ w.heap.size true)).2 ⟨rfl, rfl⟩
    · show Array.getD _ 4 undef = Value.pointer (some ⟨(ι 1000000000).1, (ι 1000000000).2 + (0 * 0 + 0), none⟩)
      rw [p1]; rfl
    · show Array.getD _ 5 undef = Value.pointer (some ⟨(ι 1000000001).1, (ι 1000000001).2 + (0 * 0 + 0), none⟩)
      rw [p2]; rfl
  have hbody := body_scan l hx pre x hp n (reBs (bsL w WL []) W own (bsL w WL []).pin []) { tmps := lsA w ao xs.length c (.slice (some ⟨b, o + (x.i + 1), none⟩) x.bd.length (c - (x.i + 1))) (.int .i64 ((x.i : Int) + (x.bd.length : Int) + 2)), defers := [] } W
    ⟨ι, ownC W own, hr.below, hr.base_, hr.own_, hr.keep, hr.frm, rfl, fun t => look_env hE t, hr.heap, hr.place, hr.inj, rfl, hr.pin⟩
  refine wpIn_mono hbody ?_
  rintro e a' W' ⟨s', ⟨rfl, hw⟩, hsim⟩
  obtain ⟨ι', own', h2⟩ := hw _ _ _ hsim
  have h3 := Sim'.back hs (fun b h => h) h2 h2.defers
  refine ⟨h2.keeps, fun _ => scan_G hin hB hz c2 h3.below, ι', own', h3.below, h3.base_, h3.own_, h3.keep, h3.frm, rfl, fun t => look_env (l := [(4, .one (.ptr 1000000000 0 0 0)), (5, .one (.ptr 1000000001 0 0 0))]) ⟨?_, ?_, trivial⟩ t, h3.heap, h3.place, h3.inj, rfl, h3.pin⟩
  · have p1' : ι' 1000000000 = (w.heap.size, 0) := (h3.pin 1000000000 (w.heap.size, 0) (by simp [bsL])).1
    show Array.getD _ 4 undef = Value.pointer (some ⟨(ι' 1000000000).1, (ι' 1000000000).2 + (0 * 0 + 0), none⟩)
    rw [p1']; rfl
  · have p2' : ι' 1000000001 = (w.heap.size + 1, 0) := (h3.pin 1000000001 (w.heap.size + 1, 0) (by simp [bsL])).1
    show Array.getD _ 5 undef = Value.pointer (some ⟨(ι' 1000000001).1, (ι' 1000000001).2 + (0 * 0 + 0), none⟩)
    rw [p2']; rfl
noncomputable abbrev scanEnd : Code := match (Try.f99).body with | some (.seq _ (.seq _ (.seq _ (.seq _ (.seq _ c))))) => c | _ => .skip
set_option maxRecDepth 100000 in
set_option maxHeartbeats 4000000 in
theorem scan_tail {xs : List Int} (pre : List (Frm xs)) (hp : pre.length ≤ 2001) :
    AW Try.prog scanEnd (stS pre) (fun e s => e = .ret ∧ RetOk Try.prog s [.tmp 2, .tmp 3] (.tup [.one (row (decide (pre.map Frm.bd = [])) 1 (rowsI (pre.map Frm.bd))), iP (tkS pre)])) := by
  unfold scanEnd
  delta Try.f99
  dsimp only
  unfold stS
  generalize pre.map Frm.bd = bs at *
  generalize tkS pre = t0 at *
  by_cases hb : bs = []
  · subst hb
    rw [show hpS [] t0 = [(1000000000, .var 22 [.r true (row true 1 [])]), (1000000001, .var 3 [.r true (int t0)])] from rfl]
    repeat' (first|(with_reducible first|refine aw_seq ?_|refine thn_normal ?_|refine thn_ret ?_|refine thn_exit ?_|refine blk_normal ?_|refine blk_ret ?_|refine blk_hit ?_|refine blk_miss rfl ?_|refine aw_block ?_|refine aw_ret ?_|refine aw_skip ?_|refine aw_exit ?_|refine w_nil ?_|refine x_nil (by kernel_rfl) ?_)|refine aw_region ?_|refine aw_region_draw (by kernel_rfl) ?_|refine aw_yes rfl ?_|refine aw_no rfl ?_|((with_reducible refine w_seq ?_); first|refine r_q tbOk rfl rfl rfl rfl ?_|refine r_e tbOk rfl rfl rfl rfl rfl ?_|refine r_yes tbOk rfl rfl rfl rfl rfl rfl ?_|refine w_no rfl rfl (lookO_spec rfl) rfl rfl rfl ?_|refine w_un rfl rfl (lookO_spec rfl) rfl rfl ?_)|((with_reducible refine w_drw ?_); first|refine rx_q tbOk rfl rfl rfl rfl ?_|refine rx_e tbOk rfl rfl rfl rfl rfl ?_|refine rx_yes tbOk rfl rfl rfl rfl rfl rfl ?_|refine x_no rfl rfl (lookO_spec rfl) rfl rfl rfl ?_|refine x_un rfl rfl (lookO_spec rfl) rfl rfl ?_)|((first|refine aw_ways rfl ?_ ?_|refine r_split rfl rfl rfl ?_ ?_) <;> intro hg_ <;> fail_if_success (exact Bool.noConfusion hg_)) <;> (try simp only [prn] at hg_) <;> (try first|contradiction|(exfalso; omega)))
    all_goals first
      | exact ⟨rfl, (ret_2 (rv_tmp rfl (dres_one cres_nil)) (rv_tmp rfl (dres_int rfl))).2⟩
      | trace_state
  · rw [show hpS bs t0 = [(1000000000, .var 22 [.own 100 0 bs.length 1]), (100, .sl 24 1 true (rowsI bs)), (1000000001, .var 3 [.r true (int t0)])] by unfold hpS; rw [if_neg hb]]
    have hrl := (rowsI_len bs).symm
    have hd : decide (bs = []) = false := by simp [hb]
    rw [hd]
    repeat' (first|(with_reducible first|refine aw_seq ?_|refine thn_normal ?_|refine thn_ret ?_|refine thn_exit ?_|refine blk_normal ?_|refine blk_ret ?_|refine blk_hit ?_|refine blk_miss rfl ?_|refine aw_block ?_|refine aw_ret ?_|refine aw_skip ?_|refine aw_exit ?_|refine w_nil ?_|refine x_nil (by kernel_rfl) ?_)|refine aw_region ?_|refine aw_region_draw (by kernel_rfl) ?_|refine aw_yes rfl ?_|refine aw_no rfl ?_|((with_reducible refine w_seq ?_); first|refine r_q tbOk rfl rfl rfl rfl ?_|refine r_e tbOk rfl rfl rfl rfl rfl ?_|refine r_yes tbOk rfl rfl rfl rfl rfl rfl ?_|refine w_no rfl rfl (lookO_spec rfl) rfl rfl rfl ?_|refine w_un rfl rfl (lookO_spec rfl) rfl rfl ?_)|((with_reducible refine w_drw ?_); first|refine rx_q tbOk rfl rfl rfl rfl ?_|refine rx_e tbOk rfl rfl rfl rfl rfl ?_|refine rx_yes tbOk rfl rfl rfl rfl rfl rfl ?_|refine x_no rfl rfl (lookO_spec rfl) rfl rfl rfl ?_|refine x_un rfl rfl (lookO_spec rfl) rfl rfl ?_)|((first|refine aw_ways rfl ?_ ?_|refine r_split rfl rfl rfl ?_ ?_) <;> intro hg_ <;> fail_if_success (exact Bool.noConfusion hg_)) <;> (try simp only [prn] at hg_) <;> (try first|contradiction|(exfalso; omega)))
    all_goals first
      | exact ⟨rfl, (ret_2 (rv_tmp rfl (dres_one (cres_own0 (lookHO_spec rfl) hrl))) (rv_tmp rfl (dres_int rfl))).2⟩
      | trace_state
theorem tk_sum {xs : List Int} (hx : bytesOk xs = true) (ys : List (Frm xs)) (h : ys.map Frm.p = itsA xs 0) : ys.map Frm.bd = (scanF xs).1 ∧ tkS ys = ((scanF xs).2 : Nat) := by
  have hs := scan_its (xs := xs) xs.length 0 (by omega) (Nat.zero_le _)
  rw [List.drop_zero] at hs
  have e1 : ys.map Frm.bd = (scanF xs).1 := by rw [hs.1, ← h, List.map_map]; rfl
  refine ⟨e1, ?_⟩
  rw [hs.2, ← h]
  unfold tkS
  cases hl : ys.getLast? with
  | none =>
    have : ys = [] := by simpa using hl
    subst this; rfl
  | some x =>
    have h2 : (itsA xs 0).getLast? = some x.p := by rw [← h, List.getLast?_map, hl]; rfl
    have := last_its (xs := xs) xs.length 0 (by omega) (Nat.zero_le _) x.p h2
    rw [h]
    have h3 : (x.i : Int) + (x.bd.length : Int) + 2 = ((x.p.1 + x.p.2.length + 2 : Nat) : Int) := by simp
    dsimp only
    rw [h3, this, Nat.zero_add]
set_option maxRecDepth 100000 in
set_option maxHeartbeats 4000000 in
theorem f_implScanFrames (nil : Bool) (xs : List Int) (hx : bytesOk xs = true) : Fn Try.prog 99 [.one (row nil 1 (ints xs))] (.tup [.one (row (decide ((scanF xs).1 = [])) 1 (rowsI (scanF xs).1)), iP ((scanF xs).2 : Nat)]) := by
  have hl := bytesOk_len hx
  refine ⟨ent_of Try.func99 (by kernel_rfl) rfl, fun w vs hG0 hA => ?_⟩
  match vs, hA with
  | [v], ⟨h1, _⟩ =>
    obtain ⟨ao, b, o, c, rfl, ha, hin, hlc, hcm⟩ := ints_argV h1
    refine (callsIn_wide (n := 9)).1 ?_
    refine callsIn_of_wp_marks Try.func99 rfl trivial ?_ rfl
    simp only [Try.ntmps99, List.size_toArray, List.length_cons, List.length_nil, Nat.reduceAdd, Nat.reduceSub, Array.replicate_succ, Array.replicate_zero, List.push_toArray, List.append_toArray, List.nil_append, List.cons_append]
    have hBV := implBytesValid ao b o c xs w (by simp only [maxLen]; omega) ha hin
    rw [hx] at hBV
    gi_wp2_with (first | (refine ⟨trivial, ?_⟩; gi_at_call 98; refine (callsIn_wide.2 hBV).mono ?_; rintro e w1 ⟨rfl, rfl⟩) | (refine ⟨trivial, ?_⟩; gi_at_call 124; refine (callsIn_wide.2 (implFramesOf _ _ _ _)).mono ?_; rintro e w1 ⟨rfl, rfl⟩))
    -- the loop
    obtain ⟨WL, hWL⟩ : ∃ WL : World, WL = ((w.alloc (.cells #[.slice none 0 0] 22)).alloc (.cells #[.int .i64 0] 3)).alloc (.cells #[.slice ao xs.length c] 24) := ⟨_, rfl⟩
    rw [← hWL]
    obtain ⟨hz, hB, c2, hS0⟩ := scan_start w WL ao xs.length c (xs := xs) hG0 hWL
    rename_i K hKK
    have hN : (itsA xs 0).length ≤ 2001 := by have := itsF_len xs (xs.length + 1 - 0) 0; unfold itsA; omega
    have hGs : ∀ W, Below WL.heap.size WL W → GF (w.heap.size + 1 + 1) b o c ao xs W := fun W hW => scan_G (dfs := []) hin hB hz c2 ⟨hW.os, hW.tape, hW.output, hW.size, fun k hk _ => hW.block k hk, .of_below hW⟩
    refine wpIn_rangeFunc_ownF (F := Fence.wide) (n := 9) rfl (by omega) (gf := 135) (lb := #[.pointer (some ⟨w.heap.size + 1 + 1, 0, none⟩)]) rfl trivial (enters_of Try.func135 (by kernel_rfl) rfl)
      (frames_stops 8 (by omega) (w.heap.size + 1 + 1) b o c ao xs WL hx hlc hcm ha hGs) (fun h1 h2 hA => h2 (h1 hA)) ?hKb (Below.refl _ _) (fun _ => rfl)
      (fun (pre : List (Frm xs)) W => Sim (bsL w WL []) (stS pre) { tmps := lsA w ao xs.length c undef undef, defers := [] } W) (fun _ _ _ => False) ?hI (fun _ _ _ _ _ hs _ _ => hs) hS0
      (fun x => { tmps := lsA w ao xs.length c (.slice (some ⟨b, o + (x.i + 1), none⟩) x.bd.length (c - (x.i + 1))) (.int .i64 ((x.i : Int) + (x.bd.length : Int) + 2)), defers := [] }) ?assign ?body ?done ?stop
    case hKb =>
      intro W l ob ob' hl hob hc1 _ hG
      refine ⟨?_, fun i hi => ?_⟩
      · rw [← hG.1]
        refine World.cell?_of_block (World.putObj_heap_other ?_)
        show w.heap.size + 1 + 1 ≠ l
        omega
      · rw [← hG.2 i hi]
        refine World.cell?_of_block (World.putObj_heap_other ?_)
        have := hin i hi
        have : b < w.heap.size := World.block_lt_of_cell? w _ this
        show b ≠ l
        omega
    case hI =>
      intro s W W' row hs hg hr
      exact hs.turn hg hr
    case assign =>
      intro l x W K hK
      simp only [encsF]
      gi_wp2
      exact hK
    case body =>
      intro l pre x W hS hlt
      exact scan_round l _ hx hlc hcm hin hB hz c2 pre x (by omega) hS
    case done =>
      intro D ys W hD hS hI hK
      obtain ⟨e1, e2⟩ := tk_sum hx ys hS
      have hyl : ys.length ≤ 2001 := by have := congrArg List.length hS; rw [List.length_map] at this; omega
      have hAW := scan_tail ys hyl
      rw [e1, e2] at hAW
      refine hKK _ _ ?_
      obtain ⟨ι, own, hs⟩ := hI
      have hsD : Sim' (bsL w WL [{ target := .collected D, args := #[] }]) (stS ys) { tmps := lsA w ao xs.length c undef undef, defers := [{ target := .collected D, args := #[] }] } W ι own := ⟨⟨hs.below.os, hs.below.tape, hs.below.output, hs.below.size, hs.below.block, hs.below.sized⟩, hs.base_, hs.own_, hs.keep, hs.frm, hs.size, hs.env, hs.heap, hs.place, hs.inj, rfl, hs.pin⟩
      have hrD := hsD.rebase (bsL w WL [{ target := .collected D, args := #[] }]).pin hsD.pin
      have hw := hAW _ _ _ ⟨ι, _, hrD⟩
      refine wpIn_mono (wpIn_wide.2 hw) ?_
      rintro e a' W' ⟨s', ⟨rfl, hret⟩, ι', own', h2⟩
      have h3 := Sim'.back hsD (fun b h => h) h2 h2.defers
      have hK' : W'.heap[D]? = some (.deferred (some [])) := h2.keeps.same D _ hK rfl
      have h4 : Sim (bsL w WL [{ target := .collected D, args := #[] }]) s' a' (W'.putObj D (.deferred none)) := Sim.turn ⟨ι', own', h3⟩ (grownBy_putObj' W' D _) (fun r e => by cases e; exact ⟨hD, _, hK', rfl⟩)
      obtain ⟨v, g1, g2⟩ := ret_run h4 (fn := Try.f99) rfl hret
      have hd : a'.defers = [{ target := .collected D, args := #[] }] := h3.defers
      show LeavesInM _ _ _ _ _ _ a'.defers _ _
      rw [hd]
      refine ⟨by simp, .inl ⟨_, _, rfl, run_takeDeferred hK', ?_⟩⟩
      refine ⟨v, g1, v, rfl, g2, ?_⟩
      obtain ⟨_, _, h5⟩ := h4
      have hlow := h5.below
      exact hB.trans ⟨hlow.os, hlow.tape, hlow.output, Nat.le_trans (Nat.le_trans (by omega) (Nat.le_refl WL.heap.size)) hlow.size, fun k hk => hlow.block k (by show k < WL.heap.size; omega) (fun h => by have h' : k = w.heap.size ∨ k = w.heap.size + 1 := h; omega)⟩
    case stop =>
      intro D c' pre W _ _ h _
      exact h.elim
end Go.Proofs.Ytmkecjamfippfaa.Abs
set_option linter.unusedSimpArgs false
set_option linter.unusedVariables false
namespace Go.Proofs.Ytmkecjamfippfaa.Abs
open Go.RowKit
open R (val row ref)

def brH (k : Nat) (m1 m2 nil : Bool) (xs : List Int) (i : Nat) : List (Nat × Ob) := [(k, .var 134 [.r m1 (row nil 1 (ints xs)), .r m2 (int (i : Int))])]
def numF : Nat → Nat → Int → Int → List Int → Nat → Int × Bool × Nat
  | 0, _, _, _, _, i => (0, false, i)
  | f + 1, d, n, s, xs, i => match xs[i]? with
    | none => (0, false, i)
    | some b => if 128 ≤ b then numF f (d + 1) (n + (b - 128) * s) (s * 128) xs (i + 1) else if b = 0 ∧ 0 < d then (0, false, i + 1) else (n + b * s, decide (n + b * s ≤ 1000000), i + 1)
theorem numF_dec : ∀ (f d : Nat) (n s : Int) (xs : List Int) (i : Nat), decF f d n s (xs.drop i) = if (numF f d n s xs i).2.1 = true then some ((numF f d n s xs i).1, d + ((numF f d n s xs i).2.2 - i)) else none
  | 0, d, n, s, xs, i => by simp [decF, numF]
  | f + 1, d, n, s, xs, i => by
    cases hx : xs[i]? with
    | none =>
      have : xs.length ≤ i := by simpa using hx
      rw [List.drop_of_length_le this]
      simp [decF, numF, hx]
    | some b =>
      obtain ⟨hi, hb⟩ := List.getElem?_eq_some_iff.1 hx
      rw [List.drop_eq_getElem_cons hi, hb]
      simp only [decF, numF, hx]
      by_cases h1 : 128 ≤ b
      · rw [if_pos h1, if_pos h1, numF_dec f (d + 1)]
        have hle : ∀ (f d : Nat) (n s : Int) (i : Nat), i ≤ (numF f d n s xs i).2.2 := by
          intro f
          induction f with
          | zero => intro d n s i; exact Nat.le_refl _
          | succ f ih =>
            intro d n s i
            simp only [numF]
            split
            · exact Nat.le_refl _
            · split
              · exact Nat.le_trans (Nat.le_succ i) (ih _ _ _ _)
              · split <;> exact Nat.le_succ i
        have := hle f (d + 1) (n + (b - 128) * s) (s * 128) (i + 1)
        by_cases h2 : (numF f (d + 1) (n + (b - 128) * s) (s * 128) xs (i + 1)).2.1 = true
        · rw [if_pos h2, if_pos h2]
          congr 2
          omega
        · rw [if_neg h2, if_neg h2]
      · rw [if_neg h1, if_neg h1]
        by_cases h2 : b = 0 ∧ 0 < d
        · rw [if_pos h2, if_pos h2]; simp
        · rw [if_neg h2, if_neg h2]
          by_cases h3 : n + b * s ≤ 1000000
          · rw [if_pos h3]; simp [h3]
          · rw [if_neg h3]; simp [h3]
theorem numF_bd {xs : List Int} : ∀ (f d : Nat) (n s : Int) (i : Nat), i ≤ xs.length → (numF f d n s xs i).2.2 ≤ xs.length
  | 0, _, _, _, i, h => h
  | f + 1, d, n, s, i, h => by
    simp only [numF]
    split
    · exact h
    · rename_i b hx
      have hi : i < xs.length := (List.getElem?_eq_some_iff.1 hx).1
      split
      · exact numF_bd f _ _ _ _ (by omega)
      · split <;> exact hi
theorem retD_tup2 {P : Program} {s : St} {a b : ResultVar} {x y : P0} {ρ : List (Nat × Nat)} (h1 : RvOk P s a x) (h2 : RvOk P s b y) (hv : ([x, y].all fun x => match x with | .one (.val _) => true | _ => false) = true) : ∃ d0, RetD P s [a, b] d0 ∧ DImp d0 (D.ren ρ (.tup true [x, y])) :=
  ⟨.tup true [x, y], by cases a <;> exact .inl ⟨_, rfl, rfl, ⟨h1, h2, trivial⟩, hv⟩, imp_refl rfl⟩
set_option maxRecDepth 100000 in
set_option maxHeartbeats 2000000 in
theorem f_next (m1 m2 nil : Bool) (xs : List Int) (i : Nat) (hx : xs.length ≤ 2000) (hi : i ≤ 2000) :
    FnS Try.prog 132 [.one (.ptr 1000000000 0 0 0)] (brH 1000000000 m1 m2 nil xs i) (.tup true [iP (match xs[i]? with | some b => b | none => 0), .one (bool (decide (i < xs.length)))]) (if i < xs.length then brH 1000000000 m1 true nil xs (i + 1) else brH 1000000000 m1 m2 nil xs i) := by
  have hl := ints_len xs
  unfold brH
  by_cases h : i < xs.length
  · rw [if_pos h, List.getElem?_eq_getElem h]
    dsimp only
    rw [show decide (i < xs.length) = true by simp [h]]
    have hix := ints_at h
    have hw : IntKind.i64.wrap ((i : Int) + 1) = ((i + 1 : Nat) : Int) := by rw [IntWalk.i64_in _ (by omega)]; omega
    generalize xs[i] = z at *
    refine fnS_of (l := [.tmp 2, .tmp 3]) Try.func132 (by kernel_rfl) rfl Try.ntmps132 rfl rfl ?_; simp only [dEnv, Nat.reduceAdd]
    repeat' (first|(with_reducible first|refine aw_seq ?_|refine thn_normal ?_|refine thn_ret ?_|refine thn_exit ?_|refine blk_normal ?_|refine blk_ret ?_|refine blk_hit ?_|refine blk_miss rfl ?_|refine aw_block ?_|refine aw_ret ?_|refine aw_skip ?_|refine aw_exit ?_|refine w_nil ?_|refine x_nil (by kernel_rfl) ?_)|refine aw_region ?_|refine aw_region_draw (by kernel_rfl) ?_|refine aw_yes rfl ?_|refine aw_no rfl ?_|((with_reducible refine w_seq ?_); first|refine r_q tbOk rfl rfl rfl rfl ?_|refine r_e tbOk rfl rfl rfl rfl rfl ?_|refine r_yes tbOk rfl rfl rfl rfl rfl rfl ?_|refine w_no rfl rfl (lookO_spec rfl) rfl rfl rfl ?_|refine w_un rfl rfl (lookO_spec rfl) rfl rfl ?_)|((with_reducible refine w_drw ?_); first|refine rx_q tbOk rfl rfl rfl rfl ?_|refine rx_e tbOk rfl rfl rfl rfl rfl ?_|refine rx_yes tbOk rfl rfl rfl rfl rfl rfl ?_|refine x_no rfl rfl (lookO_spec rfl) rfl rfl rfl ?_|refine x_un rfl rfl (lookO_spec rfl) rfl rfl ?_)|((first|refine' w_q rfl rfl ?xa rfl ?_|refine' v_q rfl rfl ?xa rfl ?_|refine' w_yes rfl rfl (lookO_spec rfl) rfl ?xa rfl ?_|refine' v_yes rfl rfl (lookO_spec rfl) rfl ?xa rfl ?_); case xa => exact k_index tbOk rfl rfl rfl rfl (by omega) (by exact hix))|((first|refine aw_ways rfl ?_ ?_|refine r_split rfl rfl rfl ?_ ?_) <;> intro hg_ <;> fail_if_success (exact Bool.noConfusion hg_)) <;> (try simp only [prn] at hg_) <;> (try first|contradiction|(exfalso; omega)))
    all_goals first
     |exact ret_D [] rfl (by (repeat' (first|exact trivial|refine subHR_cons rfl ?_ ?_|rfl|exact var2 rfl (cell_int hw)))) (retD_tup2 (rv_tmp rfl (dres_int rfl)) (rv_tmp rfl (dres_bool rfl)) rfl)
      | trace_state
  · rw [if_neg h, List.getElem?_eq_none (by omega)]
    dsimp only
    rw [show decide (i < xs.length) = false by simp [h]]
    refine fnS_of (l := [.tmp 2, .tmp 3]) Try.func132 (by kernel_rfl) rfl Try.ntmps132 rfl rfl ?_; simp only [dEnv, Nat.reduceAdd]
    repeat' (first|(with_reducible first|refine aw_seq ?_|refine thn_normal ?_|refine thn_ret ?_|refine thn_exit ?_|refine blk_normal ?_|refine blk_ret ?_|refine blk_hit ?_|refine blk_miss rfl ?_|refine aw_block ?_|refine aw_ret ?_|refine aw_skip ?_|refine aw_exit ?_|refine w_nil ?_|refine x_nil (by kernel_rfl) ?_)|refine aw_region ?_|refine aw_region_draw (by kernel_rfl) ?_|refine aw_yes rfl ?_|refine aw_no rfl ?_|((with_reducible refine w_seq ?_); first|refine r_q tbOk rfl rfl rfl rfl ?_|refine r_e tbOk rfl rfl rfl rfl rfl ?_|refine r_yes tbOk rfl rfl rfl rfl rfl rfl ?_|refine w_no rfl rfl (lookO_spec rfl) rfl rfl rfl ?_|refine w_un rfl rfl (lookO_spec rfl) rfl rfl ?_)|((with_reducible refine w_drw ?_); first|refine rx_q tbOk rfl rfl rfl rfl ?_|refine rx_e tbOk rfl rfl rfl rfl rfl ?_|refine rx_yes tbOk rfl rfl rfl rfl rfl rfl ?_|refine x_no rfl rfl (lookO_spec rfl) rfl rfl rfl ?_|refine x_un rfl rfl (lookO_spec rfl) rfl rfl ?_)|((first|refine aw_ways rfl ?_ ?_|refine r_split rfl rfl rfl ?_ ?_) <;> intro hg_ <;> fail_if_success (exact Bool.noConfusion hg_)) <;> (try simp only [prn] at hg_) <;> (try first|contradiction|(exfalso; omega)))
    all_goals first
     |exact ret_D [] rfl (by (repeat' (first|exact trivial|refine subHR_cons rfl ?_ ?_|rfl))) (retD_tup2 (rv_tmp rfl (dres_int rfl)) (rv_tmp rfl (dres_bool rfl)) rfl)
      | trace_state
set_option maxRecDepth 100000 in
set_option maxHeartbeats 4000000 in
theorem f_number (m1 m2 nil : Bool) (xs : List Int) (i : Nat) (hx : bytesOk xs = true) (hi : i < xs.length) :
    FnS Try.prog 119 [.one (.ptr 1000000000 0 0 0)] (brH 1000000000 m1 m2 nil xs i) (.tup true [iP (numF 3 0 0 1 xs i).1, .one (bool (numF 3 0 0 1 xs i).2.1)]) (brH 1000000000 m1 true nil xs (numF 3 0 0 1 xs i).2.2) := by
  have hl := bytesOk_len hx
  have hli := ints_len xs
  have KN := fun (m2 : Bool) (i : Nat) (h : i ≤ 2000) => f_next m1 m2 nil xs i hl h
  obtain ⟨J, hJ⟩ : ∃ J, J = numF 3 0 0 1 xs i := ⟨_, rfl⟩
  rw [← hJ]
  unfold brH at *
  refine fnS_of (l := [.tmp 2, .tmp 3]) Try.func119 (by kernel_rfl) rfl Try.ntmps119 rfl rfl ?_; simp only [dEnv, Nat.reduceAdd]
  repeat' (first|(with_reducible first|refine aw_seq ?_|refine thn_normal ?_|refine thn_ret ?_|refine thn_exit ?_|refine blk_normal ?_|refine blk_ret ?_|refine blk_hit ?_|refine blk_miss rfl ?_|refine aw_block ?_|refine aw_ret ?_|refine aw_skip ?_|refine aw_exit ?_|refine w_nil ?_|refine x_nil (by kernel_rfl) ?_)|refine aw_region ?_|refine aw_region_draw (by kernel_rfl) ?_|refine aw_yes rfl ?_|refine aw_no rfl ?_|((with_reducible refine w_seq ?_); first|refine r_q tbOk rfl rfl rfl rfl ?_|refine r_e tbOk rfl rfl rfl rfl rfl ?_|refine r_yes tbOk rfl rfl rfl rfl rfl rfl ?_|refine w_no rfl rfl (lookO_spec rfl) rfl rfl rfl ?_|refine w_un rfl rfl (lookO_spec rfl) rfl rfl ?_)|((with_reducible refine w_drw ?_); first|refine rx_q tbOk rfl rfl rfl rfl ?_|refine rx_e tbOk rfl rfl rfl rfl rfl ?_|refine rx_yes tbOk rfl rfl rfl rfl rfl rfl ?_|refine x_no rfl rfl (lookO_spec rfl) rfl rfl rfl ?_|refine x_un rfl rfl (lookO_spec rfl) rfl rfl ?_)|((first|refine aw_ways rfl ?_ ?_|refine r_split rfl rfl rfl ?_ ?_) <;> intro hg_ <;> fail_if_success (exact Bool.noConfusion hg_)) <;> (try simp only [prn] at hg_) <;> (try first|contradiction|(exfalso; omega)))
  refine aw_loopI (fun x : Nat × Int × Int × Nat × Bool => (x.1 = 0 ∧ x.2.1 = 0 ∧ x.2.2.1 = 1 ∧ x.2.2.2.1 = i ∧ J = numF 3 0 0 1 xs i) ∨ (x.1 = 1 ∧ 0 ≤ x.2.1 ∧ x.2.1 ≤ 127 ∧ x.2.2.1 = 128 ∧ x.2.2.2.1 ≤ xs.length ∧ x.2.2.2.2 = true ∧ J = numF 2 1 x.2.1 128 xs x.2.2.2.1) ∨ (x.1 = 2 ∧ 0 ≤ x.2.1 ∧ x.2.1 ≤ 16383 ∧ x.2.2.1 = 16384 ∧ x.2.2.2.1 ≤ xs.length ∧ x.2.2.2.2 = true ∧ J = numF 1 2 x.2.1 16384 xs x.2.2.2.1) ∨ (x.1 = 3 ∧ x.2.2.2.2 = true ∧ J = (0, false, x.2.2.2.1)))
    (fun x => mkS 44 [(6, .one (.r true (int x.1))), (5, .one (.r true (int x.2.2.1))), (4, .one (.r true (int x.2.1))), (0, .one (.ptr 1000000000 0 0 0))] [(1000000000, .var 134 [.r m1 (row nil 1 (ints xs)), .r x.2.2.2.2 (int (x.2.2.2.1 : Int))])]) (fun x => 4 - x.1) (0, 0, 1, i, m2) (.inl ⟨rfl, rfl, rfl, rfl, hJ⟩) (by (refine weak_ren [] rfl ?_ ?_ <;> repeat' (first|exact trivial|refine subR_cons rfl ?_ ?_|refine subHR_cons rfl ?_ ?_|rfl|(refine d_int ?_; (first|rfl|omega|(rw [IntWalk.i64_in _ (by omega)] <;> omega)|(simp; done)|(simp; omega)))|(refine d_bool ?_; (first|(simp_all; done)|(rw [Bool.eq_iff_iff]; simp_all; done)|(rw [Bool.eq_iff_iff]; simp_all; omega)|(rw [Bool.eq_iff_iff]; simp; omega)))))) ?_
  rintro ⟨d, n, s, p, mm⟩ hI
  dsimp only at hI ⊢
  rcases hI with ⟨rfl, rfl, rfl, rfl, hE⟩ | ⟨rfl, hn0, hn1, rfl, hp, rfl, hE⟩ | ⟨rfl, hn0, hn1, rfl, hp, rfl, hE⟩ | ⟨rfl, rfl, hE⟩
  · have K := KN mm p (by omega)
    simp only [numF] at hE
    by_cases hlt : p < xs.length
    · obtain ⟨z0, z1⟩ := bytesOk_get hx p hlt
      rw [List.getElem?_eq_getElem hlt] at hE K
      rw [if_pos hlt, show decide (p < xs.length) = true by simp [hlt]] at K
      dsimp only at hE K
      generalize xs[p] = z at *
      have hw0 : IntKind.i64.wrap (z - 128) = z - 128 := IntWalk.i64_in _ (by omega)
      have hw1 : IntKind.i64.wrap ((z - 128) * 1) = (z - 128) * 1 := IntWalk.i64_in _ (by omega)
      have hw2 : IntKind.i64.wrap (0 + (z - 128) * 1) = 0 + (z - 128) * 1 := IntWalk.i64_in _ (by omega)
      have hw3 : IntKind.i64.wrap ((1 : Int) * 128) = 1 * 128 := by decide
      have hw4 : IntKind.i64.wrap (((0 : Nat) : Int) + 1) = ((0 + 1 : Nat) : Int) := by decide
      have hw5 : IntKind.i64.wrap (z * 1) = z * 1 := IntWalk.i64_in _ (by omega)
      have hw6 : IntKind.i64.wrap (0 + z * 1) = 0 + z * 1 := IntWalk.i64_in _ (by omega)
      by_cases hb : 128 ≤ z
      · rw [if_pos hb] at hE
        clear KN
        repeat' (first|(with_reducible first|refine aw_seq ?_|refine thn_normal ?_|refine thn_ret ?_|refine thn_exit ?_|refine blk_normal ?_|refine blk_ret ?_|refine blk_hit ?_|refine blk_miss rfl ?_|refine aw_block ?_|refine aw_ret ?_|refine aw_skip ?_|refine aw_exit ?_|refine w_nil ?_|refine x_nil (by kernel_rfl) ?_)|refine aw_region ?_|refine aw_region_draw (by kernel_rfl) ?_|refine aw_yes rfl ?_|refine aw_no rfl ?_|((with_reducible refine w_seq ?_); first|refine r_q tbOk rfl rfl rfl rfl ?_|refine r_e tbOk rfl rfl rfl rfl rfl ?_|refine r_yes tbOk rfl rfl rfl rfl rfl rfl ?_|refine w_no rfl rfl (lookO_spec rfl) rfl rfl rfl ?_|refine w_un rfl rfl (lookO_spec rfl) rfl rfl ?_)|((with_reducible refine w_drw ?_); first|refine rx_q tbOk rfl rfl rfl rfl ?_|refine rx_e tbOk rfl rfl rfl rfl rfl ?_|refine rx_yes tbOk rfl rfl rfl rfl rfl rfl ?_|refine x_no rfl rfl (lookO_spec rfl) rfl rfl rfl ?_|refine x_un rfl rfl (lookO_spec rfl) rfl rfl ?_)|((first|refine' w_e rfl ?xa ?xb ?xc ?xe ?_|refine' v_e rfl ?xa ?xb ?xc ?xe ?_); (case xa => exact at_dst 15 rfl (e_callS [] K rfl ⟨asD_ren (evO_spec rfl), trivial⟩ (by (repeat' (first|exact trivial|refine subHR_cons rfl ?_ ?_|rfl))) rfl)); (case xb => rfl); (case xc => rfl); (case xe => rfl); try dsimp only [P0.d, Res.d, List.map_cons, List.map_nil, List.set_cons_zero, List.set_cons_succ, Nat.reduceAdd])|((first|refine aw_ways rfl ?_ ?_|refine r_split rfl rfl rfl ?_ ?_) <;> intro hg_ <;> fail_if_success (exact Bool.noConfusion hg_)) <;> (try simp only [prn] at hg_) <;> (try first|contradiction|(exfalso; omega)))
        all_goals first
          | (exfalso; omega)
          | (refine ⟨(0 + 1, 0 + (z - 128) * 1, 1 * 128, p + 1, true), .inr (.inl ⟨rfl, by dsimp only; omega, by dsimp only; omega, rfl, by dsimp only; omega, rfl, hE⟩), ?_, by dsimp only; omega⟩
             (refine weak_ren [] rfl ?_ ?_ <;> repeat' (first|exact trivial|refine subR_cons rfl ?_ ?_|refine subHR_cons rfl ?_ ?_|rfl|(refine d_int ?_; (first|rfl|omega|(rw [IntWalk.i64_in _ (by omega)] <;> omega)|(simp; done)|(simp; omega)))|(refine d_bool ?_; (first|(simp_all; done)|(rw [Bool.eq_iff_iff]; simp_all; done)|(rw [Bool.eq_iff_iff]; simp_all; omega)|(rw [Bool.eq_iff_iff]; simp; omega)))|exact d_int (by rw [hw0, hw1, hw2])|exact d_int hw3|exact d_int hw4)))
          | trace_state
      · rw [if_neg hb] at hE
        by_cases hz : z = 0 ∧ 0 < 0
        · rw [if_pos hz] at hE
          obtain ⟨hz1, hz2⟩ := hz
          subst hz1 hE
          clear KN
          repeat' (first|(with_reducible first|refine aw_seq ?_|refine thn_normal ?_|refine thn_ret ?_|refine thn_exit ?_|refine blk_normal ?_|refine blk_ret ?_|refine blk_hit ?_|refine blk_miss rfl ?_|refine aw_block ?_|refine aw_ret ?_|refine aw_skip ?_|refine aw_exit ?_|refine w_nil ?_|refine x_nil (by kernel_rfl) ?_)|refine aw_region ?_|refine aw_region_draw (by kernel_rfl) ?_|refine aw_yes rfl ?_|refine aw_no rfl ?_|((with_reducible refine w_seq ?_); first|refine r_q tbOk rfl rfl rfl rfl ?_|refine r_e tbOk rfl rfl rfl rfl rfl ?_|refine r_yes tbOk rfl rfl rfl rfl rfl rfl ?_|refine w_no rfl rfl (lookO_spec rfl) rfl rfl rfl ?_|refine w_un rfl rfl (lookO_spec rfl) rfl rfl ?_)|((with_reducible refine w_drw ?_); first|refine rx_q tbOk rfl rfl rfl rfl ?_|refine rx_e tbOk rfl rfl rfl rfl rfl ?_|refine rx_yes tbOk rfl rfl rfl rfl rfl rfl ?_|refine x_no rfl rfl (lookO_spec rfl) rfl rfl rfl ?_|refine x_un rfl rfl (lookO_spec rfl) rfl rfl ?_)|((first|refine' w_e rfl ?xa ?xb ?xc ?xe ?_|refine' v_e rfl ?xa ?xb ?xc ?xe ?_); (case xa => exact at_dst 15 rfl (e_callS [] K rfl ⟨asD_ren (evO_spec rfl), trivial⟩ (by (repeat' (first|exact trivial|refine subHR_cons rfl ?_ ?_|rfl))) rfl)); (case xb => rfl); (case xc => rfl); (case xe => rfl); try dsimp only [P0.d, Res.d, List.map_cons, List.map_nil, List.set_cons_zero, List.set_cons_succ, Nat.reduceAdd])|((first|refine aw_ways rfl ?_ ?_|refine r_split rfl rfl rfl ?_ ?_) <;> intro hg_ <;> fail_if_success (exact Bool.noConfusion hg_)) <;> (try simp only [prn] at hg_) <;> (try first|contradiction|(exfalso; omega)))
          all_goals first
            | (exfalso; omega)
           |exact ret_D [] rfl (by (repeat' (first|exact trivial|refine subHR_cons rfl ?_ ?_|rfl))) (retD_tup2 (rv_tmp rfl (dres_int rfl)) (rv_tmp rfl (dres_bool rfl)) rfl)
            | trace_state
        · rw [if_neg hz] at hE
          subst hE
          clear KN
          repeat' (first|(with_reducible first|refine aw_seq ?_|refine thn_normal ?_|refine thn_ret ?_|refine thn_exit ?_|refine blk_normal ?_|refine blk_ret ?_|refine blk_hit ?_|refine blk_miss rfl ?_|refine aw_block ?_|refine aw_ret ?_|refine aw_skip ?_|refine aw_exit ?_|refine w_nil ?_|refine x_nil (by kernel_rfl) ?_)|refine aw_region ?_|refine aw_region_draw (by kernel_rfl) ?_|refine aw_yes rfl ?_|refine aw_no rfl ?_|((with_reducible refine w_seq ?_); first|refine r_q tbOk rfl rfl rfl rfl ?_|refine r_e tbOk rfl rfl rfl rfl rfl ?_|refine r_yes tbOk rfl rfl rfl rfl rfl rfl ?_|refine w_no rfl rfl (lookO_spec rfl) rfl rfl rfl ?_|refine w_un rfl rfl (lookO_spec rfl) rfl rfl ?_)|((with_reducible refine w_drw ?_); first|refine rx_q tbOk rfl rfl rfl rfl ?_|refine rx_e tbOk rfl rfl rfl rfl rfl ?_|refine rx_yes tbOk rfl rfl rfl rfl rfl rfl ?_|refine x_no rfl rfl (lookO_spec rfl) rfl rfl rfl ?_|refine x_un rfl rfl (lookO_spec rfl) rfl rfl ?_)|((first|refine' w_e rfl ?xa ?xb ?xc ?xe ?_|refine' v_e rfl ?xa ?xb ?xc ?xe ?_); (case xa => exact at_dst 15 rfl (e_callS [] K rfl ⟨asD_ren (evO_spec rfl), trivial⟩ (by (repeat' (first|exact trivial|refine subHR_cons rfl ?_ ?_|rfl))) rfl)); (case xb => rfl); (case xc => rfl); (case xe => rfl); try dsimp only [P0.d, Res.d, List.map_cons, List.map_nil, List.set_cons_zero, List.set_cons_succ, Nat.reduceAdd])|((first|refine aw_ways rfl ?_ ?_|refine r_split rfl rfl rfl ?_ ?_) <;> intro hg_ <;> fail_if_success (exact Bool.noConfusion hg_)) <;> (try simp only [prn] at hg_) <;> (try first|contradiction|(exfalso; omega)))
          all_goals first
            | (exfalso; omega)
           |exact ret_D [] rfl (by (repeat' (first|exact trivial|refine subHR_cons rfl ?_ ?_|rfl))) (retD_tup2 (rv_tmp rfl (dres_int (by rw [hw5, hw6]))) (rv_tmp rfl (dres_bool (by rw [hw5, hw6]))) rfl)
            | trace_state
    · exfalso; omega
  · have K := KN true p (by omega)
    simp only [numF] at hE
    by_cases hlt : p < xs.length
    · obtain ⟨z0, z1⟩ := bytesOk_get hx p hlt
      rw [List.getElem?_eq_getElem hlt] at hE K
      rw [if_pos hlt, show decide (p < xs.length) = true by simp [hlt]] at K
      dsimp only at hE K
      generalize xs[p] = z at *
      have hw0 : IntKind.i64.wrap (z - 128) = z - 128 := IntWalk.i64_in _ (by omega)
      have hw1 : IntKind.i64.wrap ((z - 128) * 128) = (z - 128) * 128 := IntWalk.i64_in _ (by omega)
      have hw2 : IntKind.i64.wrap (n + (z - 128) * 128) = n + (z - 128) * 128 := IntWalk.i64_in _ (by omega)
      have hw3 : IntKind.i64.wrap ((128 : Int) * 128) = 128 * 128 := by decide
      have hw4 : IntKind.i64.wrap (((1 : Nat) : Int) + 1) = ((1 + 1 : Nat) : Int) := by decide
      have hw5 : IntKind.i64.wrap (z * 128) = z * 128 := IntWalk.i64_in _ (by omega)
      have hw6 : IntKind.i64.wrap (n + z * 128) = n + z * 128 := IntWalk.i64_in _ (by omega)
      by_cases hb : 128 ≤ z
      · rw [if_pos hb] at hE
        clear KN
        repeat' (first|(with_reducible first|refine aw_seq ?_|refine thn_normal ?_|refine thn_ret ?_|refine thn_exit ?_|refine blk_normal ?_|refine blk_ret ?_|refine blk_hit ?_|refine blk_miss rfl ?_|refine aw_block ?_|refine aw_ret ?_|refine aw_skip ?_|refine aw_exit ?_|refine w_nil ?_|refine x_nil (by kernel_rfl) ?_)|refine aw_region ?_|refine aw_region_draw (by kernel_rfl) ?_|refine aw_yes rfl ?_|refine aw_no rfl ?_|((with_reducible refine w_seq ?_); first|refine r_q tbOk rfl rfl rfl rfl ?_|refine r_e tbOk rfl rfl rfl rfl rfl ?_|refine r_yes tbOk rfl rfl rfl rfl rfl rfl ?_|refine w_no rfl rfl (lookO_spec rfl) rfl rfl rfl ?_|refine w_un rfl rfl (lookO_spec rfl) rfl rfl ?_)|((with_reducible refine w_drw ?_); first|refine rx_q tbOk rfl rfl rfl rfl ?_|refine rx_e tbOk rfl rfl rfl rfl rfl ?_|refine rx_yes tbOk rfl rfl rfl rfl rfl rfl ?_|refine x_no rfl rfl (lookO_spec rfl) rfl rfl rfl ?_|refine x_un rfl rfl (lookO_spec rfl) rfl rfl ?_)|((first|refine' w_e rfl ?xa ?xb ?xc ?xe ?_|refine' v_e rfl ?xa ?xb ?xc ?xe ?_); (case xa => exact at_dst 15 rfl (e_callS [] K rfl ⟨asD_ren (evO_spec rfl), trivial⟩ (by (repeat' (first|exact trivial|refine subHR_cons rfl ?_ ?_|rfl))) rfl)); (case xb => rfl); (case xc => rfl); (case xe => rfl); try dsimp only [P0.d, Res.d, List.map_cons, List.map_nil, List.set_cons_zero, List.set_cons_succ, Nat.reduceAdd])|((first|refine aw_ways rfl ?_ ?_|refine r_split rfl rfl rfl ?_ ?_) <;> intro hg_ <;> fail_if_success (exact Bool.noConfusion hg_)) <;> (try simp only [prn] at hg_) <;> (try first|contradiction|(exfalso; omega)))
        all_goals first
          | (exfalso; omega)
          | (refine ⟨(1 + 1, n + (z - 128) * 128, 128 * 128, p + 1, true), .inr (.inr (.inl ⟨rfl, by dsimp only; omega, by dsimp only; omega, rfl, by dsimp only; omega, rfl, hE⟩)), ?_, by dsimp only; omega⟩
             (refine weak_ren [] rfl ?_ ?_ <;> repeat' (first|exact trivial|refine subR_cons rfl ?_ ?_|refine subHR_cons rfl ?_ ?_|rfl|(refine d_int ?_; (first|rfl|omega|(rw [IntWalk.i64_in _ (by omega)] <;> omega)|(simp; done)|(simp; omega)))|(refine d_bool ?_; (first|(simp_all; done)|(rw [Bool.eq_iff_iff]; simp_all; done)|(rw [Bool.eq_iff_iff]; simp_all; omega)|(rw [Bool.eq_iff_iff]; simp; omega)))|exact d_int (by rw [hw0, hw1, hw2])|exact d_int hw3|exact d_int hw4)))
          | trace_state
      · rw [if_neg hb] at hE
        by_cases hz : z = 0 ∧ 0 < 1
        · rw [if_pos hz] at hE
          obtain ⟨hz1, hz2⟩ := hz
          subst hz1 hE
          clear KN
          repeat' (first|(with_reducible first|refine aw_seq ?_|refine thn_normal ?_|refine thn_ret ?_|refine thn_exit ?_|refine blk_normal ?_|refine blk_ret ?_|refine blk_hit ?_|refine blk_miss rfl ?_|refine aw_block ?_|refine aw_ret ?_|refine aw_skip ?_|refine aw_exit ?_|refine w_nil ?_|refine x_nil (by kernel_rfl) ?_)|refine aw_region ?_|refine aw_region_draw (by kernel_rfl) ?_|refine aw_yes rfl ?_|refine aw_no rfl ?_|((with_reducible refine w_seq ?_); first|refine r_q tbOk rfl rfl rfl rfl ?_|refine r_e tbOk rfl rfl rfl rfl rfl ?_|refine r_yes tbOk rfl rfl rfl rfl rfl rfl ?_|refine w_no rfl rfl (lookO_spec rfl) rfl rfl rfl ?_|refine w_un rfl rfl (lookO_spec rfl) rfl rfl ?_)|((with_reducible refine w_drw ?_); first|refine rx_q tbOk rfl rfl rfl rfl ?_|refine rx_e tbOk rfl rfl rfl rfl rfl ?_|refine rx_yes tbOk rfl rfl rfl rfl rfl rfl ?_|refine x_no rfl rfl (lookO_spec rfl) rfl rfl rfl ?_|refine x_un rfl rfl (lookO_spec rfl) rfl rfl ?_)|((first|refine' w_e rfl ?xa ?xb ?xc ?xe ?_|refine' v_e rfl ?xa ?xb ?xc ?xe ?_); (case xa => exact at_dst 15 rfl (e_callS [] K rfl ⟨asD_ren (evO_spec rfl), trivial⟩ (by (repeat' (first|exact trivial|refine subHR_cons rfl ?_ ?_|rfl))) rfl)); (case xb => rfl); (case xc => rfl); (case xe => rfl); try dsimp only [P0.d, Res.d, List.map_cons, List.map_nil, List.set_cons_zero, List.set_cons_succ, Nat.reduceAdd])|((first|refine aw_ways rfl ?_ ?_|refine r_split rfl rfl rfl ?_ ?_) <;> intro hg_ <;> fail_if_success (exact Bool.noConfusion hg_)) <;> (try simp only [prn] at hg_) <;> (try first|contradiction|(exfalso; omega)))
          all_goals first
            | (exfalso; omega)
           |exact ret_D [] rfl (by (repeat' (first|exact trivial|refine subHR_cons rfl ?_ ?_|rfl))) (retD_tup2 (rv_tmp rfl (dres_int rfl)) (rv_tmp rfl (dres_bool rfl)) rfl)
            | trace_state
        · rw [if_neg hz] at hE
          subst hE
          clear KN
          repeat' (first|(with_reducible first|refine aw_seq ?_|refine thn_normal ?_|refine thn_ret ?_|refine thn_exit ?_|refine blk_normal ?_|refine blk_ret ?_|refine blk_hit ?_|refine blk_miss rfl ?_|refine aw_block ?_|refine aw_ret ?_|refine aw_skip ?_|refine aw_exit ?_|refine w_nil ?_|refine x_nil (by kernel_rfl) ?_)|refine aw_region ?_|refine aw_region_draw (by kernel_rfl) ?_|refine aw_yes rfl ?_|refine aw_no rfl ?_|((with_reducible refine w_seq ?_); first|refine r_q tbOk rfl rfl rfl rfl ?_|refine r_e tbOk rfl rfl rfl rfl rfl ?_|refine r_yes tbOk rfl rfl rfl rfl rfl rfl ?_|refine w_no rfl rfl (lookO_spec rfl) rfl rfl rfl ?_|refine w_un rfl rfl (lookO_spec rfl) rfl rfl ?_)|((with_reducible refine w_drw ?_); first|refine rx_q tbOk rfl rfl rfl rfl ?_|refine rx_e tbOk rfl rfl rfl rfl rfl ?_|refine rx_yes tbOk rfl rfl rfl rfl rfl rfl ?_|refine x_no rfl rfl (lookO_spec rfl) rfl rfl rfl ?_|refine x_un rfl rfl (lookO_spec rfl) rfl rfl ?_)|((first|refine' w_e rfl ?xa ?xb ?xc ?xe ?_|refine' v_e rfl ?xa ?xb ?xc ?xe ?_); (case xa => exact at_dst 15 rfl (e_callS [] K rfl ⟨asD_ren (evO_spec rfl), trivial⟩ (by (repeat' (first|exact trivial|refine subHR_cons rfl ?_ ?_|rfl))) rfl)); (case xb => rfl); (case xc => rfl); (case xe => rfl); try dsimp only [P0.d, Res.d, List.map_cons, List.map_nil, List.set_cons_zero, List.set_cons_succ, Nat.reduceAdd])|((first|refine aw_ways rfl ?_ ?_|refine r_split rfl rfl rfl ?_ ?_) <;> intro hg_ <;> fail_if_success (exact Bool.noConfusion hg_)) <;> (try simp only [prn] at hg_) <;> (try first|contradiction|(exfalso; omega)))
          all_goals first
            | (exfalso; omega)
           |exact ret_D [] rfl (by (repeat' (first|exact trivial|refine subHR_cons rfl ?_ ?_|rfl))) (retD_tup2 (rv_tmp rfl (dres_int (by rw [hw5, hw6]))) (rv_tmp rfl (dres_bool (by rw [hw5, hw6]))) rfl)
            | trace_state
    · rw [List.getElem?_eq_none (by omega)] at hE K
      rw [if_neg hlt, show decide (p < xs.length) = false by simp [hlt]] at K
      dsimp only at hE K
      subst hE
      clear KN
      repeat' (first|(with_reducible first|refine aw_seq ?_|refine thn_normal ?_|refine thn_ret ?_|refine thn_exit ?_|refine blk_normal ?_|refine blk_ret ?_|refine blk_hit ?_|refine blk_miss rfl ?_|refine aw_block ?_|refine aw_ret ?_|refine aw_skip ?_|refine aw_exit ?_|refine w_nil ?_|refine x_nil (by kernel_rfl) ?_)|refine aw_region ?_|refine aw_region_draw (by kernel_rfl) ?_|refine aw_yes rfl ?_|refine aw_no rfl ?_|((with_reducible refine w_seq ?_); first|refine r_q tbOk rfl rfl rfl rfl ?_|refine r_e tbOk rfl rfl rfl rfl rfl ?_|refine r_yes tbOk rfl rfl rfl rfl rfl rfl ?_|refine w_no rfl rfl (lookO_spec rfl) rfl rfl rfl ?_|refine w_un rfl rfl (lookO_spec rfl) rfl rfl ?_)|((with_reducible refine w_drw ?_); first|refine rx_q tbOk rfl rfl rfl rfl ?_|refine rx_e tbOk rfl rfl rfl rfl rfl ?_|refine rx_yes tbOk rfl rfl rfl rfl rfl rfl ?_|refine x_no rfl rfl (lookO_spec rfl) rfl rfl rfl ?_|refine x_un rfl rfl (lookO_spec rfl) rfl rfl ?_)|((first|refine' w_e rfl ?xa ?xb ?xc ?xe ?_|refine' v_e rfl ?xa ?xb ?xc ?xe ?_); (case xa => exact at_dst 15 rfl (e_callS [] K rfl ⟨asD_ren (evO_spec rfl), trivial⟩ (by (repeat' (first|exact trivial|refine subHR_cons rfl ?_ ?_|rfl))) rfl)); (case xb => rfl); (case xc => rfl); (case xe => rfl); try dsimp only [P0.d, Res.d, List.map_cons, List.map_nil, List.set_cons_zero, List.set_cons_succ, Nat.reduceAdd])|((first|refine aw_ways rfl ?_ ?_|refine r_split rfl rfl rfl ?_ ?_) <;> intro hg_ <;> fail_if_success (exact Bool.noConfusion hg_)) <;> (try simp only [prn] at hg_) <;> (try first|contradiction|(exfalso; omega)))
      all_goals first
        | (exfalso; omega)
       |exact ret_D [] rfl (by (repeat' (first|exact trivial|refine subHR_cons rfl ?_ ?_|rfl))) (retD_tup2 (rv_tmp rfl (dres_int rfl)) (rv_tmp rfl (dres_bool rfl)) rfl)
        | trace_state
  · have K := KN true p (by omega)
    simp only [numF] at hE
    by_cases hlt : p < xs.length
    · obtain ⟨z0, z1⟩ := bytesOk_get hx p hlt
      rw [List.getElem?_eq_getElem hlt] at hE K
      rw [if_pos hlt, show decide (p < xs.length) = true by simp [hlt]] at K
      dsimp only at hE K
      generalize xs[p] = z at *
      have hw0 : IntKind.i64.wrap (z - 128) = z - 128 := IntWalk.i64_in _ (by omega)
      have hw1 : IntKind.i64.wrap ((z - 128) * 16384) = (z - 128) * 16384 := IntWalk.i64_in _ (by omega)
      have hw2 : IntKind.i64.wrap (n + (z - 128) * 16384) = n + (z - 128) * 16384 := IntWalk.i64_in _ (by omega)
      have hw3 : IntKind.i64.wrap ((16384 : Int) * 128) = 16384 * 128 := by decide
      have hw4 : IntKind.i64.wrap (((2 : Nat) : Int) + 1) = ((2 + 1 : Nat) : Int) := by decide
      have hw5 : IntKind.i64.wrap (z * 16384) = z * 16384 := IntWalk.i64_in _ (by omega)
      have hw6 : IntKind.i64.wrap (n + z * 16384) = n + z * 16384 := IntWalk.i64_in _ (by omega)
      by_cases hb : 128 ≤ z
      · rw [if_pos hb] at hE
        clear KN
        repeat' (first|(with_reducible first|refine aw_seq ?_|refine thn_normal ?_|refine thn_ret ?_|refine thn_exit ?_|refine blk_normal ?_|refine blk_ret ?_|refine blk_hit ?_|refine blk_miss rfl ?_|refine aw_block ?_|refine aw_ret ?_|refine aw_skip ?_|refine aw_exit ?_|refine w_nil ?_|refine x_nil (by kernel_rfl) ?_)|refine aw_region ?_|refine aw_region_draw (by kernel_rfl) ?_|refine aw_yes rfl ?_|refine aw_no rfl ?_|((with_reducible refine w_seq ?_); first|refine r_q tbOk rfl rfl rfl rfl ?_|refine r_e tbOk rfl rfl rfl rfl rfl ?_|refine r_yes tbOk rfl rfl rfl rfl rfl rfl ?_|refine w_no rfl rfl (lookO_spec rfl) rfl rfl rfl ?_|refine w_un rfl rfl (lookO_spec rfl) rfl rfl ?_)|((with_reducible refine w_drw ?_); first|refine rx_q tbOk rfl rfl rfl rfl ?_|refine rx_e tbOk rfl rfl rfl rfl rfl ?_|refine rx_yes tbOk rfl rfl rfl rfl rfl rfl ?_|refine x_no rfl rfl (lookO_spec rfl) rfl rfl rfl ?_|refine x_un rfl rfl (lookO_spec rfl) rfl rfl ?_)|((first|refine' w_e rfl ?xa ?xb ?xc ?xe ?_|refine' v_e rfl ?xa ?xb ?xc ?xe ?_); (case xa => exact at_dst 15 rfl (e_callS [] K rfl ⟨asD_ren (evO_spec rfl), trivial⟩ (by (repeat' (first|exact trivial|refine subHR_cons rfl ?_ ?_|rfl))) rfl)); (case xb => rfl); (case xc => rfl); (case xe => rfl); try dsimp only [P0.d, Res.d, List.map_cons, List.map_nil, List.set_cons_zero, List.set_cons_succ, Nat.reduceAdd])|((first|refine aw_ways rfl ?_ ?_|refine r_split rfl rfl rfl ?_ ?_) <;> intro hg_ <;> fail_if_success (exact Bool.noConfusion hg_)) <;> (try simp only [prn] at hg_) <;> (try first|contradiction|(exfalso; omega)))
        all_goals first
          | (exfalso; omega)
          | (refine ⟨(2 + 1, n + (z - 128) * 16384, 16384 * 128, p + 1, true), .inr (.inr (.inr ⟨rfl, rfl, hE⟩)), ?_, by dsimp only; omega⟩
             (refine weak_ren [] rfl ?_ ?_ <;> repeat' (first|exact trivial|refine subR_cons rfl ?_ ?_|refine subHR_cons rfl ?_ ?_|rfl|(refine d_int ?_; (first|rfl|omega|(rw [IntWalk.i64_in _ (by omega)] <;> omega)|(simp; done)|(simp; omega)))|(refine d_bool ?_; (first|(simp_all; done)|(rw [Bool.eq_iff_iff]; simp_all; done)|(rw [Bool.eq_iff_iff]; simp_all; omega)|(rw [Bool.eq_iff_iff]; simp; omega)))|exact d_int (by rw [hw0, hw1, hw2])|exact d_int hw3|exact d_int hw4)))
          | trace_state
      · rw [if_neg hb] at hE
        by_cases hz : z = 0 ∧ 0 < 2
        · rw [if_pos hz] at hE
          obtain ⟨hz1, hz2⟩ := hz
          subst hz1 hE
          clear KN
          repeat' (first|(with_reducible first|refine aw_seq ?_|refine thn_normal ?_|refine thn_ret ?_|refine thn_exit ?_|refine blk_normal ?_|refine blk_ret ?_|refine blk_hit ?_|refine blk_miss rfl ?_|refine aw_block ?_|refine aw_ret ?_|refine aw_skip ?_|refine aw_exit ?_|refine w_nil ?_|refine x_nil (by kernel_rfl) ?_)|refine aw_region ?_|refine aw_region_draw (by kernel_rfl) ?_|refine aw_yes rfl ?_|refine aw_no rfl ?_|((with_reducible refine w_seq ?_); first|refine r_q tbOk rfl rfl rfl rfl ?_|refine r_e tbOk rfl rfl rfl rfl rfl ?_|refine r_yes tbOk rfl rfl rfl rfl rfl rfl ?_|refine w_no rfl rfl (lookO_spec rfl) rfl rfl rfl ?_|refine w_un rfl rfl (lookO_spec rfl) rfl rfl ?_)|((with_reducible refine w_drw ?_); first|refine rx_q tbOk rfl rfl rfl rfl ?_|refine rx_e tbOk rfl rfl rfl rfl rfl ?_|refine rx_yes tbOk rfl rfl rfl rfl rfl rfl ?_|refine x_no rfl rfl (lookO_spec rfl) rfl rfl rfl ?_|refine x_un rfl rfl (lookO_spec rfl) rfl rfl ?_)|((first|refine' w_e rfl ?xa ?xb ?xc ?xe ?_|refine' v_e rfl ?xa ?xb ?xc ?xe ?_); (case xa => exact at_dst 15 rfl (e_callS [] K rfl ⟨asD_ren (evO_spec rfl), trivial⟩ (by (repeat' (first|exact trivial|refine subHR_cons rfl ?_ ?_|rfl))) rfl)); (case xb => rfl); (case xc => rfl); (case xe => rfl); try dsimp only [P0.d, Res.d, List.map_cons, List.map_nil, List.set_cons_zero, List.set_cons_succ, Nat.reduceAdd])|((first|refine aw_ways rfl ?_ ?_|refine r_split rfl rfl rfl ?_ ?_) <;> intro hg_ <;> fail_if_success (exact Bool.noConfusion hg_)) <;> (try simp only [prn] at hg_) <;> (try first|contradiction|(exfalso; omega)))
          all_goals first
            | (exfalso; omega)
           |exact ret_D [] rfl (by (repeat' (first|exact trivial|refine subHR_cons rfl ?_ ?_|rfl))) (retD_tup2 (rv_tmp rfl (dres_int rfl)) (rv_tmp rfl (dres_bool rfl)) rfl)
            | trace_state
        · rw [if_neg hz] at hE
          subst hE
          clear KN
          repeat' (first|(with_reducible first|refine aw_seq ?_|refine thn_normal ?_|refine thn_ret ?_|refine thn_exit ?_|refine blk_normal ?_|refine blk_ret ?_|refine blk_hit ?_|refine blk_miss rfl ?_|refine aw_block ?_|refine aw_ret ?_|refine aw_skip ?_|refine aw_exit ?_|refine w_nil ?_|refine x_nil (by kernel_rfl) ?_)|refine aw_region ?_|refine aw_region_draw (by kernel_rfl) ?_|refine aw_yes rfl ?_|refine aw_no rfl ?_|((with_reducible refine w_seq ?_); first|refine r_q tbOk rfl rfl rfl rfl ?_|refine r_e tbOk rfl rfl rfl rfl rfl ?_|refine r_yes tbOk rfl rfl rfl rfl rfl rfl ?_|refine w_no rfl rfl (lookO_spec rfl) rfl rfl rfl ?_|refine w_un rfl rfl (lookO_spec rfl) rfl rfl ?_)|((with_reducible refine w_drw ?_); first|refine rx_q tbOk rfl rfl rfl rfl ?_|refine rx_e tbOk rfl rfl rfl rfl rfl ?_|refine rx_yes tbOk rfl rfl rfl rfl rfl rfl ?_|refine x_no rfl rfl (lookO_spec rfl) rfl rfl rfl ?_|refine x_un rfl rfl (lookO_spec rfl) rfl rfl ?_)|((first|refine' w_e rfl ?xa ?xb ?xc ?xe ?_|refine' v_e rfl ?xa ?xb ?xc ?xe ?_); (case xa => exact at_dst 15 rfl (e_callS [] K rfl ⟨asD_ren (evO_spec rfl), trivial⟩ (by (repeat' (first|exact trivial|refine subHR_cons rfl ?_ ?_|rfl))) rfl)); (case xb => rfl); (case xc => rfl); (case xe => rfl); try dsimp only [P0.d, Res.d, List.map_cons, List.map_nil, List.set_cons_zero, List.set_cons_succ, Nat.reduceAdd])|((first|refine aw_ways rfl ?_ ?_|refine r_split rfl rfl rfl ?_ ?_) <;> intro hg_ <;> fail_if_success (exact Bool.noConfusion hg_)) <;> (try simp only [prn] at hg_) <;> (try first|contradiction|(exfalso; omega)))
          all_goals first
            | (exfalso; omega)
           |exact ret_D [] rfl (by (repeat' (first|exact trivial|refine subHR_cons rfl ?_ ?_|rfl))) (retD_tup2 (rv_tmp rfl (dres_int (by rw [hw5, hw6]))) (rv_tmp rfl (dres_bool (by rw [hw5, hw6]))) rfl)
            | trace_state
    · rw [List.getElem?_eq_none (by omega)] at hE K
      rw [if_neg hlt, show decide (p < xs.length) = false by simp [hlt]] at K
      dsimp only at hE K
      subst hE
      clear KN
      repeat' (first|(with_reducible first|refine aw_seq ?_|refine thn_normal ?_|refine thn_ret ?_|refine thn_exit ?_|refine blk_normal ?_|refine blk_ret ?_|refine blk_hit ?_|refine blk_miss rfl ?_|refine aw_block ?_|refine aw_ret ?_|refine aw_skip ?_|refine aw_exit ?_|refine w_nil ?_|refine x_nil (by kernel_rfl) ?_)|refine aw_region ?_|refine aw_region_draw (by kernel_rfl) ?_|refine aw_yes rfl ?_|refine aw_no rfl ?_|((with_reducible refine w_seq ?_); first|refine r_q tbOk rfl rfl rfl rfl ?_|refine r_e tbOk rfl rfl rfl rfl rfl ?_|refine r_yes tbOk rfl rfl rfl rfl rfl rfl ?_|refine w_no rfl rfl (lookO_spec rfl) rfl rfl rfl ?_|refine w_un rfl rfl (lookO_spec rfl) rfl rfl ?_)|((with_reducible refine w_drw ?_); first|refine rx_q tbOk rfl rfl rfl rfl ?_|refine rx_e tbOk rfl rfl rfl rfl rfl ?_|refine rx_yes tbOk rfl rfl rfl rfl rfl rfl ?_|refine x_no rfl rfl (lookO_spec rfl) rfl rfl rfl ?_|refine x_un rfl rfl (lookO_spec rfl) rfl rfl ?_)|((first|refine' w_e rfl ?xa ?xb ?xc ?xe ?_|refine' v_e rfl ?xa ?xb ?xc ?xe ?_); (case xa => exact at_dst 15 rfl (e_callS [] K rfl ⟨asD_ren (evO_spec rfl), trivial⟩ (by (repeat' (first|exact trivial|refine subHR_cons rfl ?_ ?_|rfl))) rfl)); (case xb => rfl); (case xc => rfl); (case xe => rfl); try dsimp only [P0.d, Res.d, List.map_cons, List.map_nil, List.set_cons_zero, List.set_cons_succ, Nat.reduceAdd])|((first|refine aw_ways rfl ?_ ?_|refine r_split rfl rfl rfl ?_ ?_) <;> intro hg_ <;> fail_if_success (exact Bool.noConfusion hg_)) <;> (try simp only [prn] at hg_) <;> (try first|contradiction|(exfalso; omega)))
      all_goals first
        | (exfalso; omega)
       |exact ret_D [] rfl (by (repeat' (first|exact trivial|refine subHR_cons rfl ?_ ?_|rfl))) (retD_tup2 (rv_tmp rfl (dres_int rfl)) (rv_tmp rfl (dres_bool rfl)) rfl)
        | trace_state
  · subst hE
    clear KN
    repeat' (first|(with_reducible first|refine aw_seq ?_|refine thn_normal ?_|refine thn_ret ?_|refine thn_exit ?_|refine blk_normal ?_|refine blk_ret ?_|refine blk_hit ?_|refine blk_miss rfl ?_|refine aw_block ?_|refine aw_ret ?_|refine aw_skip ?_|refine aw_exit ?_|refine w_nil ?_|refine x_nil (by kernel_rfl) ?_)|refine aw_region ?_|refine aw_region_draw (by kernel_rfl) ?_|refine aw_yes rfl ?_|refine aw_no rfl ?_|((with_reducible refine w_seq ?_); first|refine r_q tbOk rfl rfl rfl rfl ?_|refine r_e tbOk rfl rfl rfl rfl rfl ?_|refine r_yes tbOk rfl rfl rfl rfl rfl rfl ?_|refine w_no rfl rfl (lookO_spec rfl) rfl rfl rfl ?_|refine w_un rfl rfl (lookO_spec rfl) rfl rfl ?_)|((with_reducible refine w_drw ?_); first|refine rx_q tbOk rfl rfl rfl rfl ?_|refine rx_e tbOk rfl rfl rfl rfl rfl ?_|refine rx_yes tbOk rfl rfl rfl rfl rfl rfl ?_|refine x_no rfl rfl (lookO_spec rfl) rfl rfl rfl ?_|refine x_un rfl rfl (lookO_spec rfl) rfl rfl ?_)|((first|refine aw_ways rfl ?_ ?_|refine r_split rfl rfl rfl ?_ ?_) <;> intro hg_ <;> fail_if_success (exact Bool.noConfusion hg_)) <;> (try simp only [prn] at hg_) <;> (try first|contradiction|(exfalso; omega)))
    all_goals first
      | (exfalso; omega)
     |exact ret_D [] rfl (by (repeat' (first|exact trivial|refine subHR_cons rfl ?_ ?_|rfl))) (retD_tup2 (rv_tmp rfl (dres_int rfl)) (rv_tmp rfl (dres_bool rfl)) rfl)
      | trace_state
set_option maxRecDepth 100000 in
set_option maxHeartbeats 2000000 in
theorem f_brDone (m1 m2 nil : Bool) (xs : List Int) (i : Nat) : FnS Try.prog 120 [.one (.ptr 1000000000 0 0 0)] (brH 1000000000 m1 m2 nil xs i) (.one (.r true (bool (decide (i = xs.length))))) (brH 1000000000 m1 m2 nil xs i) := by
  have hl := ints_len xs
  unfold brH
  refine fnS_of (l := [.tmp 2]) Try.func120 (by kernel_rfl) rfl Try.ntmps120 rfl rfl ?_; simp only [dEnv, Nat.reduceAdd]
  repeat' (first|(with_reducible first|refine aw_seq ?_|refine thn_normal ?_|refine thn_ret ?_|refine thn_exit ?_|refine blk_normal ?_|refine blk_ret ?_|refine blk_hit ?_|refine blk_miss rfl ?_|refine aw_block ?_|refine aw_ret ?_|refine aw_skip ?_|refine aw_exit ?_|refine w_nil ?_|refine x_nil (by kernel_rfl) ?_)|refine aw_region ?_|refine aw_region_draw (by kernel_rfl) ?_|refine aw_yes rfl ?_|refine aw_no rfl ?_|((with_reducible refine w_seq ?_); first|refine r_q tbOk rfl rfl rfl rfl ?_|refine r_e tbOk rfl rfl rfl rfl rfl ?_|refine r_yes tbOk rfl rfl rfl rfl rfl rfl ?_|refine w_no rfl rfl (lookO_spec rfl) rfl rfl rfl ?_|refine w_un rfl rfl (lookO_spec rfl) rfl rfl ?_)|((with_reducible refine w_drw ?_); first|refine rx_q tbOk rfl rfl rfl rfl ?_|refine rx_e tbOk rfl rfl rfl rfl rfl ?_|refine rx_yes tbOk rfl rfl rfl rfl rfl rfl ?_|refine x_no rfl rfl (lookO_spec rfl) rfl rfl rfl ?_|refine x_un rfl rfl (lookO_spec rfl) rfl rfl ?_)|((first|refine aw_ways rfl ?_ ?_|refine r_split rfl rfl rfl ?_ ?_) <;> intro hg_ <;> fail_if_success (exact Bool.noConfusion hg_)) <;> (try simp only [prn] at hg_) <;> (try first|contradiction|(exfalso; omega)))
  all_goals first
   |exact ret_D [] rfl (by (repeat' (first|exact trivial|refine subHR_cons rfl ?_ ?_|rfl))) (retD_bool rfl rfl (by rw [hl, Bool.eq_iff_iff]; simp; omega))
    | trace_state
end Go.Proofs.Ytmkecjamfippfaa.Abs
set_option linter.unusedSimpArgs false
set_option linter.unusedVariables false
namespace Go.Proofs.Ytmkecjamfippfaa.Abs
open Go.RowKit
open R (val row ref)

theorem optI_w {l : List (Nat × D)} {x : Operand} {m : Bool} {z : Int} {a d : Nat} (h : evO l x = some (.one (.r m (int z)))) (hz : z = (a : Int)) : optI (evD (look l)) (some x) a d := ⟨m, by rw [evO_spec h, hz]⟩
theorem cres_own0F {H : Nat → Option Ob} {k n sz : Nat} {E : TypeId} {els els' : List P0} (hk : H k = some (.sl E sz true els)) (hn : n = els.length) (he : els = els') : CRes H (.own k 0 n sz) (row false sz els') := he ▸ cres_own0 hk hn
theorem ints_sub (xs : List Int) (a m : Nat) : ((ints xs).drop a).take m = ints ((xs.drop a).take m) := by unfold ints; rw [List.map_take, List.map_drop]
def frRes (xs : List Int) (i : Nat) : Res := match frHd (xs.drop i) with
  | some bd => .tup [.one (row false 1 (ints bd)), iP ((i + bd.length + 2 : Nat) : Int), .one (bool true)]
  | none => .tup [.one (row false 1 []), iP 0, .one (bool false)]
set_option maxRecDepth 100000 in
set_option maxHeartbeats 4000000 in
theorem f_specReadFrame (nil : Bool) (xs : List Int) (i : Nat) (hx : bytesOk xs = true) (hi : i ≤ xs.length) : Fn Try.prog 121 [.one (row nil 1 (ints xs)), iP i] (frRes xs i) := by
  have hl := bytesOk_len hx
  have hlen := ints_len xs
  have K1 := f_specBytesOk nil xs
  rw [hx] at K1
  have K2 := f_l1In (i : Int) 0 (IntKind.i64.wrap (((ints xs).length : Int) - 1))
  by_cases h0 : i < xs.length
  · have hin2 : inR 0 (IntKind.i64.wrap (((ints xs).length : Int) - 1)) (i : Int) = true := by
      rw [hlen, IntWalk.i64_in _ (by omega)]; unfold inR; simp; omega
    rw [hin2] at K2
    have hdr := List.drop_eq_getElem_cons h0
    have hb := bytesOk_get hx i h0
    have hix := ints_at h0
    have hFV : frRes xs i = match frHd (xs[i] :: xs.drop (i + 1)) with
      | some bd => .tup [.one (row false 1 (ints bd)), iP ((i + bd.length + 2 : Nat) : Int), .one (bool true)]
      | none => .tup [.one (row false 1 []), iP 0, .one (bool false)] := by unfold frRes; rw [hdr]
    rw [hFV]
    clear hFV hdr
    generalize xs[i] = z at *
    obtain ⟨N, rfl⟩ := Int.eq_ofNat_of_zero_le hb.1
    have hrl : (xs.drop (i + 1)).length = xs.length - (i + 1) := List.length_drop ..
    have K3 := f_l1In (N : Int) 1 100
    have hw1 : IntKind.i64.wrap ((i : Int) + 1) = ((i + 1 : Nat) : Int) := by rw [IntWalk.i64_in _ (by omega)]; omega
    have hw2 : IntKind.i64.wrap (((i + 1 : Nat) : Int) + (N : Int)) = ((i + 1 + N : Nat) : Int) := by rw [IntWalk.i64_in _ (by omega)]; omega
    have hw3 : IntKind.i64.wrap (((i + 1 + N : Nat) : Int) + 1) = ((i + N + 2 : Nat) : Int) := by rw [IntWalk.i64_in _ (by omega)]; omega
    by_cases h1 : 1 ≤ N ∧ N ≤ 100
    · have hin3 : inR 1 100 (N : Int) = true := by unfold inR; simp; omega
      rw [hin3] at K3
      by_cases h2 : N < xs.length - (i + 1)
      · have hlenS : ((xs.drop (i + 1)).take N).length = N := by rw [List.length_take, hrl]; omega
        have K4 := f_specSum nil ((xs.drop (i + 1)).take N)
        have hg : (xs.drop (i + 1)).getD N 0 = xs.getD (i + 1 + N) 0 := by rw [List.getD_eq_getElem?_getD, List.getD_eq_getElem?_getD, List.getElem?_drop]
        have hix2 : (ints xs)[(((i + 1 + N : Nat) : Int)).toNat]? = some (iP (xs.getD (i + 1 + N) 0)) := ints_atI (by omega) (by omega)
        have hF2 : frHd ((N : Int) :: xs.drop (i + 1)) = if xs.getD (i + 1 + N) 0 = sumOf ((xs.drop (i + 1)).take N) then some ((xs.drop (i + 1)).take N) else none := by
          simp only [frHd, Int.toNat_natCast, hg, hrl]
          by_cases hq : xs.getD (i + 1 + N) 0 = sumOf ((xs.drop (i + 1)).take N)
          · rw [if_pos hq, if_pos ⟨by omega, by omega, by omega, hq⟩]
          · rw [if_neg hq, if_neg (fun h => hq h.2.2.2)]
        rw [hF2]
        have hsub : ((ints xs).drop (i + 1)).take (i + 1 + N - (i + 1)) = ints ((xs.drop (i + 1)).take N) := by rw [ints_sub, Nat.add_sub_cancel_left]
        have hSl : (ints ((xs.drop (i + 1)).take N)).length = N := by rw [ints_len, hlenS]
        clear hF2 hg hrl hin2 hin3
        generalize (xs.drop (i + 1)).take N = bd at *
        generalize xs.getD (i + 1 + N) 0 = y at *
        generalize sumOf bd = s at *
        rw [← hsub] at K4
        by_cases hq : y = s
        · rw [if_pos hq]
          subst hq
          dsimp only
          refine fn_of (l := [.tmp 4, .tmp 5, .tmp 6]) Try.func121 (by kernel_rfl) rfl Try.ntmps121 rfl rfl ?_; simp only [argEnv, P0.d, Nat.reduceAdd]
          repeat' (first|(with_reducible first|refine aw_seq ?_|refine thn_normal ?_|refine thn_ret ?_|refine thn_exit ?_|refine blk_normal ?_|refine blk_ret ?_|refine blk_hit ?_|refine blk_miss rfl ?_|refine aw_block ?_|refine aw_ret ?_|refine aw_skip ?_|refine aw_exit ?_|refine w_nil ?_|refine x_nil (by kernel_rfl) ?_)|refine aw_region ?_|refine aw_region_draw (by kernel_rfl) ?_|refine aw_yes rfl ?_|refine aw_no rfl ?_|((with_reducible refine w_seq ?_); first|refine r_q tbOk rfl rfl rfl rfl ?_|refine r_e tbOk rfl rfl rfl rfl rfl ?_|refine r_yes tbOk rfl rfl rfl rfl rfl rfl ?_|refine w_no rfl rfl (lookO_spec rfl) rfl rfl rfl ?_|refine w_un rfl rfl (lookO_spec rfl) rfl rfl ?_)|((with_reducible refine w_drw ?_); first|refine rx_q tbOk rfl rfl rfl rfl ?_|refine rx_e tbOk rfl rfl rfl rfl rfl ?_|refine rx_yes tbOk rfl rfl rfl rfl rfl rfl ?_|refine x_no rfl rfl (lookO_spec rfl) rfl rfl rfl ?_|refine x_un rfl rfl (lookO_spec rfl) rfl rfl ?_)|((first|refine' w_q rfl rfl ?xa rfl ?_|refine' v_q rfl rfl ?xa rfl ?_|refine' w_yes rfl rfl (lookO_spec rfl) rfl ?xa rfl ?_|refine' v_yes rfl rfl (lookO_spec rfl) rfl ?xa rfl ?_); case xa => first|exact k_call K1 rfl ⟨asA_r (evO_spec rfl), trivial⟩|exact k_call K2 rfl ⟨asA_r (evO_spec rfl), asA_r (evO_spec rfl), asA_r (evO_spec rfl), trivial⟩|exact k_call K3 rfl ⟨asA_r (evO_spec rfl), asA_r (evO_spec rfl), asA_r (evO_spec rfl), trivial⟩|exact k_index tbOk rfl rfl rfl rfl (by omega) (by exact hix)|exact k_index tbOk rfl rfl rfl rfl (by rw [hw1, hw2]; omega) (by rw [hw1, hw2]; exact hix2)|exact k_slice (a := i + 1) (b := i + 1 + N) tbOk rfl rfl rfl (optI_w rfl hw1) (optI_w rfl (by rw [hw1, hw2])) (by omega) (by omega)|exact k_call K4 rfl ⟨asA_r (evO_spec rfl), trivial⟩)|((first|refine' w_e rfl ?xa ?xb ?xc ?xe ?_|refine' v_e rfl ?xa ?xb ?xc ?xe ?_); (case xa => first|exact e_build [] tlOk rfl rfl rfl rfl rfl rfl (by simp [AllN]) (by simp)|exact e_append tlOk rfl rfl rfl rfl rfl rfl (slD_plain slD_row (by rw [hsub]; exact ints_plain _)) rfl (by rw [hsub, List.length_nil, hSl]; simp only [maxLen]; omega) (by rw [hsub, List.length_nil, hSl]; omega)); (case xb => rfl); (case xc => rfl); (case xe => rfl); try dsimp only [P0.d, Res.d, List.map_cons, List.map_nil, List.set_cons_zero, List.set_cons_succ, Nat.reduceAdd])|((first|refine aw_ways rfl ?_ ?_|refine r_split rfl rfl rfl ?_ ?_) <;> intro hg_ <;> fail_if_success (exact Bool.noConfusion hg_)) <;> (try simp only [prn] at hg_) <;> (try first|contradiction|(exfalso; omega)))
          all_goals first
            | (exfalso; rw [hw1, hw2] at *; omega)
            | (exfalso; omega)
            | exact ret_3 (rv_tmp rfl (dres_one (cres_own0F (lookHO_spec rfl) (by simp only [List.length_append]) (by rw [List.nil_append, hsub])))) (rv_tmp rfl (dres_int (by rw [hw1, hw2, hw3, hlenS]))) (rv_tmp rfl (dres_bool rfl))
            | trace_state
        · rw [if_neg hq]
          dsimp only
          refine fn_of (l := [.tmp 4, .tmp 5, .tmp 6]) Try.func121 (by kernel_rfl) rfl Try.ntmps121 rfl rfl ?_; simp only [argEnv, P0.d, Nat.reduceAdd]
          repeat' (first|(with_reducible first|refine aw_seq ?_|refine thn_normal ?_|refine thn_ret ?_|refine thn_exit ?_|refine blk_normal ?_|refine blk_ret ?_|refine blk_hit ?_|refine blk_miss rfl ?_|refine aw_block ?_|refine aw_ret ?_|refine aw_skip ?_|refine aw_exit ?_|refine w_nil ?_|refine x_nil (by kernel_rfl) ?_)|refine aw_region ?_|refine aw_region_draw (by kernel_rfl) ?_|refine aw_yes rfl ?_|refine aw_no rfl ?_|((with_reducible refine w_seq ?_); first|refine r_q tbOk rfl rfl rfl rfl ?_|refine r_e tbOk rfl rfl rfl rfl rfl ?_|refine r_yes tbOk rfl rfl rfl rfl rfl rfl ?_|refine w_no rfl rfl (lookO_spec rfl) rfl rfl rfl ?_|refine w_un rfl rfl (lookO_spec rfl) rfl rfl ?_)|((with_reducible refine w_drw ?_); first|refine rx_q tbOk rfl rfl rfl rfl ?_|refine rx_e tbOk rfl rfl rfl rfl rfl ?_|refine rx_yes tbOk rfl rfl rfl rfl rfl rfl ?_|refine x_no rfl rfl (lookO_spec rfl) rfl rfl rfl ?_|refine x_un rfl rfl (lookO_spec rfl) rfl rfl ?_)|((first|refine' w_q rfl rfl ?xa rfl ?_|refine' v_q rfl rfl ?xa rfl ?_|refine' w_yes rfl rfl (lookO_spec rfl) rfl ?xa rfl ?_|refine' v_yes rfl rfl (lookO_spec rfl) rfl ?xa rfl ?_); case xa => first|exact k_call K1 rfl ⟨asA_r (evO_spec rfl), trivial⟩|exact k_call K2 rfl ⟨asA_r (evO_spec rfl), asA_r (evO_spec rfl), asA_r (evO_spec rfl), trivial⟩|exact k_call K3 rfl ⟨asA_r (evO_spec rfl), asA_r (evO_spec rfl), asA_r (evO_spec rfl), trivial⟩|exact k_index tbOk rfl rfl rfl rfl (by omega) (by exact hix)|exact k_index tbOk rfl rfl rfl rfl (by rw [hw1, hw2]; omega) (by rw [hw1, hw2]; exact hix2)|exact k_slice (a := i + 1) (b := i + 1 + N) tbOk rfl rfl rfl (optI_w rfl hw1) (optI_w rfl (by rw [hw1, hw2])) (by omega) (by omega)|exact k_call K4 rfl ⟨asA_r (evO_spec rfl), trivial⟩)|((first|refine' w_e rfl ?xa ?xb ?xc ?xe ?_|refine' v_e rfl ?xa ?xb ?xc ?xe ?_); (case xa => exact e_build [] tlOk rfl rfl rfl rfl rfl rfl (by simp [AllN]) (by simp)); (case xb => rfl); (case xc => rfl); (case xe => rfl); try dsimp only [P0.d, Res.d, List.map_cons, List.map_nil, List.set_cons_zero, List.set_cons_succ, Nat.reduceAdd])|((first|refine aw_ways rfl ?_ ?_|refine r_split rfl rfl rfl ?_ ?_) <;> intro hg_ <;> fail_if_success (exact Bool.noConfusion hg_)) <;> (try simp only [prn] at hg_) <;> (try first|contradiction|(exfalso; omega)))
          all_goals first
            | (exfalso; rw [hw1, hw2] at *; omega)
            | (exfalso; omega)
            | exact ret_3 (rv_tmp rfl (dres_one (cres_own0 (lookHO_spec rfl) rfl))) (rv_tmp rfl (dres_int rfl)) (rv_tmp rfl (dres_bool rfl))
            | trace_state
      · have hF2 : frHd ((N : Int) :: xs.drop (i + 1)) = none := by
          simp only [frHd]; rw [if_neg (fun h => by have := h.2.2.1; rw [hrl] at this; omega)]
        rw [hF2]
        dsimp only
        refine fn_of (l := [.tmp 4, .tmp 5, .tmp 6]) Try.func121 (by kernel_rfl) rfl Try.ntmps121 rfl rfl ?_; simp only [argEnv, P0.d, Nat.reduceAdd]
        repeat' (first|(with_reducible first|refine aw_seq ?_|refine thn_normal ?_|refine thn_ret ?_|refine thn_exit ?_|refine blk_normal ?_|refine blk_ret ?_|refine blk_hit ?_|refine blk_miss rfl ?_|refine aw_block ?_|refine aw_ret ?_|refine aw_skip ?_|refine aw_exit ?_|refine w_nil ?_|refine x_nil (by kernel_rfl) ?_)|refine aw_region ?_|refine aw_region_draw (by kernel_rfl) ?_|refine aw_yes rfl ?_|refine aw_no rfl ?_|((with_reducible refine w_seq ?_); first|refine r_q tbOk rfl rfl rfl rfl ?_|refine r_e tbOk rfl rfl rfl rfl rfl ?_|refine r_yes tbOk rfl rfl rfl rfl rfl rfl ?_|refine w_no rfl rfl (lookO_spec rfl) rfl rfl rfl ?_|refine w_un rfl rfl (lookO_spec rfl) rfl rfl ?_)|((with_reducible refine w_drw ?_); first|refine rx_q tbOk rfl rfl rfl rfl ?_|refine rx_e tbOk rfl rfl rfl rfl rfl ?_|refine rx_yes tbOk rfl rfl rfl rfl rfl rfl ?_|refine x_no rfl rfl (lookO_spec rfl) rfl rfl rfl ?_|refine x_un rfl rfl (lookO_spec rfl) rfl rfl ?_)|((first|refine' w_q rfl rfl ?xa rfl ?_|refine' v_q rfl rfl ?xa rfl ?_|refine' w_yes rfl rfl (lookO_spec rfl) rfl ?xa rfl ?_|refine' v_yes rfl rfl (lookO_spec rfl) rfl ?xa rfl ?_); case xa => first|exact k_call K1 rfl ⟨asA_r (evO_spec rfl), trivial⟩|exact k_call K2 rfl ⟨asA_r (evO_spec rfl), asA_r (evO_spec rfl), asA_r (evO_spec rfl), trivial⟩|exact k_call K3 rfl ⟨asA_r (evO_spec rfl), asA_r (evO_spec rfl), asA_r (evO_spec rfl), trivial⟩|exact k_index tbOk rfl rfl rfl rfl (by omega) (by exact hix))|((first|refine' w_e rfl ?xa ?xb ?xc ?xe ?_|refine' v_e rfl ?xa ?xb ?xc ?xe ?_); (case xa => exact e_build [] tlOk rfl rfl rfl rfl rfl rfl (by simp [AllN]) (by simp)); (case xb => rfl); (case xc => rfl); (case xe => rfl); try dsimp only [P0.d, Res.d, List.map_cons, List.map_nil, List.set_cons_zero, List.set_cons_succ, Nat.reduceAdd])|((first|refine aw_ways rfl ?_ ?_|refine r_split rfl rfl rfl ?_ ?_) <;> intro hg_ <;> fail_if_success (exact Bool.noConfusion hg_)) <;> (try simp only [prn] at hg_) <;> (try first|contradiction|(exfalso; omega)))
        all_goals first
          | (exfalso; rw [hw1, hw2] at *; omega)
          | (exfalso; omega)
          | exact ret_3 (rv_tmp rfl (dres_one (cres_own0 (lookHO_spec rfl) rfl))) (rv_tmp rfl (dres_int rfl)) (rv_tmp rfl (dres_bool rfl))
          | trace_state
    · have hF2 : frHd ((N : Int) :: xs.drop (i + 1)) = none := by
        simp only [frHd]; rw [if_neg (fun h => h1 ⟨by omega, by omega⟩)]
      have hin3 : inR 1 100 (N : Int) = false := by unfold inR; simp; omega
      rw [hF2]
      rw [hin3] at K3
      dsimp only
      refine fn_of (l := [.tmp 4, .tmp 5, .tmp 6]) Try.func121 (by kernel_rfl) rfl Try.ntmps121 rfl rfl ?_; simp only [argEnv, P0.d, Nat.reduceAdd]
      repeat' (first|(with_reducible first|refine aw_seq ?_|refine thn_normal ?_|refine thn_ret ?_|refine thn_exit ?_|refine blk_normal ?_|refine blk_ret ?_|refine blk_hit ?_|refine blk_miss rfl ?_|refine aw_block ?_|refine aw_ret ?_|refine aw_skip ?_|refine aw_exit ?_|refine w_nil ?_|refine x_nil (by kernel_rfl) ?_)|refine aw_region ?_|refine aw_region_draw (by kernel_rfl) ?_|refine aw_yes rfl ?_|refine aw_no rfl ?_|((with_reducible refine w_seq ?_); first|refine r_q tbOk rfl rfl rfl rfl ?_|refine r_e tbOk rfl rfl rfl rfl rfl ?_|refine r_yes tbOk rfl rfl rfl rfl rfl rfl ?_|refine w_no rfl rfl (lookO_spec rfl) rfl rfl rfl ?_|refine w_un rfl rfl (lookO_spec rfl) rfl rfl ?_)|((with_reducible refine w_drw ?_); first|refine rx_q tbOk rfl rfl rfl rfl ?_|refine rx_e tbOk rfl rfl rfl rfl rfl ?_|refine rx_yes tbOk rfl rfl rfl rfl rfl rfl ?_|refine x_no rfl rfl (lookO_spec rfl) rfl rfl rfl ?_|refine x_un rfl rfl (lookO_spec rfl) rfl rfl ?_)|((first|refine' w_q rfl rfl ?xa rfl ?_|refine' v_q rfl rfl ?xa rfl ?_|refine' w_yes rfl rfl (lookO_spec rfl) rfl ?xa rfl ?_|refine' v_yes rfl rfl (lookO_spec rfl) rfl ?xa rfl ?_); case xa => first|exact k_call K1 rfl ⟨asA_r (evO_spec rfl), trivial⟩|exact k_call K2 rfl ⟨asA_r (evO_spec rfl), asA_r (evO_spec rfl), asA_r (evO_spec rfl), trivial⟩|exact k_call K3 rfl ⟨asA_r (evO_spec rfl), asA_r (evO_spec rfl), asA_r (evO_spec rfl), trivial⟩|exact k_index tbOk rfl rfl rfl rfl (by omega) (by exact hix))|((first|refine' w_e rfl ?xa ?xb ?xc ?xe ?_|refine' v_e rfl ?xa ?xb ?xc ?xe ?_); (case xa => exact e_build [] tlOk rfl rfl rfl rfl rfl rfl (by simp [AllN]) (by simp)); (case xb => rfl); (case xc => rfl); (case xe => rfl); try dsimp only [P0.d, Res.d, List.map_cons, List.map_nil, List.set_cons_zero, List.set_cons_succ, Nat.reduceAdd])|((first|refine aw_ways rfl ?_ ?_|refine r_split rfl rfl rfl ?_ ?_) <;> intro hg_ <;> fail_if_success (exact Bool.noConfusion hg_)) <;> (try simp only [prn] at hg_) <;> (try first|contradiction|(exfalso; omega)))
      all_goals first
        | exact ret_3 (rv_tmp rfl (dres_one (cres_own0 (lookHO_spec rfl) rfl))) (rv_tmp rfl (dres_int rfl)) (rv_tmp rfl (dres_bool rfl))
        | trace_state
  · have hin2 : inR 0 (IntKind.i64.wrap (((ints xs).length : Int) - 1)) (i : Int) = false := by
      rw [hlen, IntWalk.i64_in _ (by omega)]; unfold inR; simp; omega
    rw [hin2] at K2
    have hF : frRes xs i = .tup [.one (row false 1 []), iP 0, .one (bool false)] := by unfold frRes; rw [List.drop_of_length_le (by omega)]; rfl
    rw [hF]
    refine fn_of (l := [.tmp 4, .tmp 5, .tmp 6]) Try.func121 (by kernel_rfl) rfl Try.ntmps121 rfl rfl ?_; simp only [argEnv, P0.d, Nat.reduceAdd]
    repeat' (first|(with_reducible first|refine aw_seq ?_|refine thn_normal ?_|refine thn_ret ?_|refine thn_exit ?_|refine blk_normal ?_|refine blk_ret ?_|refine blk_hit ?_|refine blk_miss rfl ?_|refine aw_block ?_|refine aw_ret ?_|refine aw_skip ?_|refine aw_exit ?_|refine w_nil ?_|refine x_nil (by kernel_rfl) ?_)|refine aw_region ?_|refine aw_region_draw (by kernel_rfl) ?_|refine aw_yes rfl ?_|refine aw_no rfl ?_|((with_reducible refine w_seq ?_); first|refine r_q tbOk rfl rfl rfl rfl ?_|refine r_e tbOk rfl rfl rfl rfl rfl ?_|refine r_yes tbOk rfl rfl rfl rfl rfl rfl ?_|refine w_no rfl rfl (lookO_spec rfl) rfl rfl rfl ?_|refine w_un rfl rfl (lookO_spec rfl) rfl rfl ?_)|((with_reducible refine w_drw ?_); first|refine rx_q tbOk rfl rfl rfl rfl ?_|refine rx_e tbOk rfl rfl rfl rfl rfl ?_|refine rx_yes tbOk rfl rfl rfl rfl rfl rfl ?_|refine x_no rfl rfl (lookO_spec rfl) rfl rfl rfl ?_|refine x_un rfl rfl (lookO_spec rfl) rfl rfl ?_)|((first|refine' w_q rfl rfl ?xa rfl ?_|refine' v_q rfl rfl ?xa rfl ?_|refine' w_yes rfl rfl (lookO_spec rfl) rfl ?xa rfl ?_|refine' v_yes rfl rfl (lookO_spec rfl) rfl ?xa rfl ?_); case xa => first|exact k_call K1 rfl ⟨asA_r (evO_spec rfl), trivial⟩|exact k_call K2 rfl ⟨asA_r (evO_spec rfl), asA_r (evO_spec rfl), asA_r (evO_spec rfl), trivial⟩)|((first|refine' w_e rfl ?xa ?xb ?xc ?xe ?_|refine' v_e rfl ?xa ?xb ?xc ?xe ?_); (case xa => exact e_build [] tlOk rfl rfl rfl rfl rfl rfl (by simp [AllN]) (by simp)); (case xb => rfl); (case xc => rfl); (case xe => rfl); try dsimp only [P0.d, Res.d, List.map_cons, List.map_nil, List.set_cons_zero, List.set_cons_succ, Nat.reduceAdd])|((first|refine aw_ways rfl ?_ ?_|refine r_split rfl rfl rfl ?_ ?_) <;> intro hg_ <;> fail_if_success (exact Bool.noConfusion hg_)) <;> (try simp only [prn] at hg_) <;> (try first|contradiction|(exfalso; omega)))
    all_goals first
      | exact ret_3 (rv_tmp rfl (dres_one (cres_own0 (lookHO_spec rfl) rfl))) (rv_tmp rfl (dres_int rfl)) (rv_tmp rfl (dres_bool rfl))
      | trace_state
theorem frHd_len2 {xs bd : List Int} {i : Nat} (hi : i ≤ xs.length) (h : frHd (xs.drop i) = some bd) : i + bd.length + 2 ≤ xs.length := by
  have hl := frHd_len h
  rw [List.length_drop] at hl
  omega
set_option maxRecDepth 100000 in
set_option maxHeartbeats 4000000 in
theorem f_specScanFrames (nil : Bool) (xs : List Int) (hx : bytesOk xs = true) : Fn Try.prog 94 [.one (row nil 1 (ints xs))] (.tup [.one (row false 1 (rowsI (scanF xs).1)), iP ((scanF xs).2 : Nat)]) := by
  have hl := bytesOk_len hx
  have hlen := ints_len xs
  have K := f_specBytesOk nil xs
  rw [hx] at K
  have KR := fun i hi => f_specReadFrame nil xs i hx hi
  refine fn_of (l := [.tmp 2, .tmp 3]) Try.func94 (by kernel_rfl) rfl Try.ntmps94 rfl rfl ?_; simp only [argEnv, P0.d, Nat.reduceAdd]
  repeat' (first|(with_reducible first|refine aw_seq ?_|refine thn_normal ?_|refine thn_ret ?_|refine thn_exit ?_|refine blk_normal ?_|refine blk_ret ?_|refine blk_hit ?_|refine blk_miss rfl ?_|refine aw_block ?_|refine aw_ret ?_|refine aw_skip ?_|refine aw_exit ?_|refine w_nil ?_|refine x_nil (by kernel_rfl) ?_)|refine aw_region ?_|refine aw_region_draw (by kernel_rfl) ?_|refine aw_yes rfl ?_|refine aw_no rfl ?_|((with_reducible refine w_seq ?_); first|refine r_q tbOk rfl rfl rfl rfl ?_|refine r_e tbOk rfl rfl rfl rfl rfl ?_|refine r_yes tbOk rfl rfl rfl rfl rfl rfl ?_|refine w_no rfl rfl (lookO_spec rfl) rfl rfl rfl ?_|refine w_un rfl rfl (lookO_spec rfl) rfl rfl ?_)|((with_reducible refine w_drw ?_); first|refine rx_q tbOk rfl rfl rfl rfl ?_|refine rx_e tbOk rfl rfl rfl rfl rfl ?_|refine rx_yes tbOk rfl rfl rfl rfl rfl rfl ?_|refine x_no rfl rfl (lookO_spec rfl) rfl rfl rfl ?_|refine x_un rfl rfl (lookO_spec rfl) rfl rfl ?_)|((first|refine' w_q rfl rfl ?xa rfl ?_|refine' v_q rfl rfl ?xa rfl ?_|refine' w_yes rfl rfl (lookO_spec rfl) rfl ?xa rfl ?_|refine' v_yes rfl rfl (lookO_spec rfl) rfl ?xa rfl ?_); case xa => exact k_call K rfl ⟨asA_r (evO_spec rfl), trivial⟩)|((first|refine' w_e rfl ?xa ?xb ?xc ?xe ?_|refine' v_e rfl ?xa ?xb ?xc ?xe ?_); (case xa => exact e_build [] tlOk rfl rfl rfl rfl rfl rfl (by simp [AllN]) (by simp)); (case xb => rfl); (case xc => rfl); (case xe => rfl); try dsimp only [P0.d, Res.d, List.map_cons, List.map_nil, List.set_cons_zero, List.set_cons_succ, Nat.reduceAdd])|((first|refine aw_ways rfl ?_ ?_|refine r_split rfl rfl rfl ?_ ?_) <;> intro hg_ <;> fail_if_success (exact Bool.noConfusion hg_)) <;> (try simp only [prn] at hg_) <;> (try first|contradiction|(exfalso; omega)))
  refine aw_loopI (fun x : Nat × List (List Int) => x.1 ≤ xs.length ∧ scanF xs = (x.2 ++ (scanF (xs.drop x.1)).1, x.1 + (scanF (xs.drop x.1)).2) ∧ x.2.length ≤ x.1) (fun x => mkS 30 [(5, .one (.r true (int x.1))), (4, .one (.own 100 0 x.2.length 1)), (0, .one (.r false (row nil 1 (ints xs))))] [(100, .sl 24 1 true (rowsI x.2))]) (fun x => xs.length - x.1) (0, []) ⟨Nat.zero_le _, by simp, Nat.le_refl _⟩ (by (refine weak_ren [(100, 9)] rfl ?_ ?_ <;> repeat' (first|exact trivial|refine subR_cons rfl ?_ ?_|refine subHR_cons rfl ?_ ?_|rfl|(refine d_int ?_; (first|rfl|omega|(rw [IntWalk.i64_in _ (by omega)] <;> omega)|(simp; done)|(simp; omega)))|(refine d_bool ?_; (first|(simp_all; done)|(rw [Bool.eq_iff_iff]; simp_all; done)|(rw [Bool.eq_iff_iff]; simp_all; omega)|(rw [Bool.eq_iff_iff]; simp; omega)))))) ?_
  rintro ⟨i, acc⟩ ⟨hi, hE, ha⟩
  dsimp only at hi hE ha ⊢
  have hac := (rowsI_len acc).symm
  have KF := KR i hi
  clear KR K
  unfold frRes at KF
  cases hh : frHd (xs.drop i) with
  | none =>
    rw [hh] at KF
    rw [scanF_none hh, List.append_nil, Nat.add_zero] at hE
    rw [hE]
    dsimp only at KF ⊢
    clear hE hh
    repeat' (first|(with_reducible first|refine aw_seq ?_|refine thn_normal ?_|refine thn_ret ?_|refine thn_exit ?_|refine blk_normal ?_|refine blk_ret ?_|refine blk_hit ?_|refine blk_miss rfl ?_|refine aw_block ?_|refine aw_ret ?_|refine aw_skip ?_|refine aw_exit ?_|refine w_nil ?_|refine x_nil (by kernel_rfl) ?_)|refine aw_region ?_|refine aw_region_draw (by kernel_rfl) ?_|refine aw_yes rfl ?_|refine aw_no rfl ?_|((with_reducible refine w_seq ?_); first|refine r_q tbOk rfl rfl rfl rfl ?_|refine r_e tbOk rfl rfl rfl rfl rfl ?_|refine r_yes tbOk rfl rfl rfl rfl rfl rfl ?_|refine w_no rfl rfl (lookO_spec rfl) rfl rfl rfl ?_|refine w_un rfl rfl (lookO_spec rfl) rfl rfl ?_)|((with_reducible refine w_drw ?_); first|refine rx_q tbOk rfl rfl rfl rfl ?_|refine rx_e tbOk rfl rfl rfl rfl rfl ?_|refine rx_yes tbOk rfl rfl rfl rfl rfl rfl ?_|refine x_no rfl rfl (lookO_spec rfl) rfl rfl rfl ?_|refine x_un rfl rfl (lookO_spec rfl) rfl rfl ?_)|((first|refine' w_q rfl rfl ?xa rfl ?_|refine' v_q rfl rfl ?xa rfl ?_|refine' w_yes rfl rfl (lookO_spec rfl) rfl ?xa rfl ?_|refine' v_yes rfl rfl (lookO_spec rfl) rfl ?xa rfl ?_); case xa => exact k_call KF rfl ⟨asA_r (evO_spec rfl), asA_r (evO_spec rfl), trivial⟩)|((first|refine aw_ways rfl ?_ ?_|refine r_split rfl rfl rfl ?_ ?_) <;> intro hg_ <;> fail_if_success (exact Bool.noConfusion hg_)) <;> (try simp only [prn] at hg_) <;> (try first|contradiction|(exfalso; omega)))
    all_goals first
      | exact ret_2 (rv_tmp rfl (dres_one (cres_own0 (lookHO_spec rfl) hac))) (rv_tmp rfl (dres_int rfl))
      | trace_state
  | some bd =>
    rw [hh] at KF
    have h2 := frHd_len2 hi hh
    rw [scanF_some hh, List.drop_drop, show i + (bd.length + 2) = i + bd.length + 2 by omega] at hE
    dsimp only at KF hE
    have hfin : ∀ s' : St, Weak s' (mkS 30 [(5, .one (.r true (int ((i + bd.length + 2 : Nat) : Int)))), (4, .one (.own 100 0 (acc ++ [bd]).length 1)), (0, .one (.r false (row nil 1 (ints xs))))] [(100, .sl 24 1 true (rowsI (acc ++ [bd])))]) → ∃ x' : Nat × List (List Int), (x'.1 ≤ xs.length ∧ scanF xs = (x'.2 ++ (scanF (xs.drop x'.1)).1, x'.1 + (scanF (xs.drop x'.1)).2) ∧ x'.2.length ≤ x'.1) ∧ Weak s' (mkS 30 [(5, .one (.r true (int x'.1))), (4, .one (.own 100 0 x'.2.length 1)), (0, .one (.r false (row nil 1 (ints xs))))] [(100, .sl 24 1 true (rowsI x'.2))]) ∧ xs.length - x'.1 < xs.length - i := fun s' h => ⟨(i + bd.length + 2, acc ++ [bd]), ⟨h2, by rw [hE]; simp; omega, by simp; omega⟩, h, by dsimp only; omega⟩
    clear hE hh
    repeat' (first|(with_reducible first|refine aw_seq ?_|refine thn_normal ?_|refine thn_ret ?_|refine thn_exit ?_|refine blk_normal ?_|refine blk_ret ?_|refine blk_hit ?_|refine blk_miss rfl ?_|refine aw_block ?_|refine aw_ret ?_|refine aw_skip ?_|refine aw_exit ?_|refine w_nil ?_|refine x_nil (by kernel_rfl) ?_)|refine aw_region ?_|refine aw_region_draw (by kernel_rfl) ?_|refine aw_yes rfl ?_|refine aw_no rfl ?_|((with_reducible refine w_seq ?_); first|refine r_q tbOk rfl rfl rfl rfl ?_|refine r_e tbOk rfl rfl rfl rfl rfl ?_|refine r_yes tbOk rfl rfl rfl rfl rfl rfl ?_|refine w_no rfl rfl (lookO_spec rfl) rfl rfl rfl ?_|refine w_un rfl rfl (lookO_spec rfl) rfl rfl ?_)|((with_reducible refine w_drw ?_); first|refine rx_q tbOk rfl rfl rfl rfl ?_|refine rx_e tbOk rfl rfl rfl rfl rfl ?_|refine rx_yes tbOk rfl rfl rfl rfl rfl rfl ?_|refine x_no rfl rfl (lookO_spec rfl) rfl rfl rfl ?_|refine x_un rfl rfl (lookO_spec rfl) rfl rfl ?_)|((first|refine' w_q rfl rfl ?xa rfl ?_|refine' v_q rfl rfl ?xa rfl ?_|refine' w_yes rfl rfl (lookO_spec rfl) rfl ?xa rfl ?_|refine' v_yes rfl rfl (lookO_spec rfl) rfl ?xa rfl ?_); case xa => exact k_call KF rfl ⟨asA_r (evO_spec rfl), asA_r (evO_spec rfl), trivial⟩)|((first|refine' w_e rfl ?xa ?xb ?xc ?xe ?_|refine' v_e rfl ?xa ?xb ?xc ?xe ?_); (case xa => first|exact e_build [.tmp 26] tlOk rfl rfl rfl rfl rfl rfl (allN_one rfl) (by simp)|exact e_append tlOk rfl rfl rfl rfl rfl rfl (slD_own (lookHO_spec rfl) rfl) hac (by simp only [maxLen, List.length_append, List.length_cons, List.length_nil, rowsI_len]; omega) (by simp only [List.length_append, List.length_cons, List.length_nil, rowsI_len]; omega)); (case xb => rfl); (case xc => rfl); (case xe => rfl); try dsimp only [P0.d, Res.d, List.map_cons, List.map_nil, List.set_cons_zero, List.set_cons_succ, Nat.reduceAdd])|((first|refine aw_ways rfl ?_ ?_|refine r_split rfl rfl rfl ?_ ?_) <;> intro hg_ <;> fail_if_success (exact Bool.noConfusion hg_)) <;> (try simp only [prn] at hg_) <;> (try first|contradiction|(exfalso; omega)))
    all_goals first
      | (refine hfin _ ?_
         (refine weak_ren [(100, 28)] rfl ?_ ?_ <;> repeat' (first|exact trivial|refine subR_cons rfl ?_ ?_|refine subHR_cons rfl ?_ ?_|rfl|(refine d_int ?_; (first|rfl|omega|(rw [IntWalk.i64_in _ (by omega)] <;> omega)|(simp; done)|(simp; omega)))|(refine d_bool ?_; (first|(simp_all; done)|(rw [Bool.eq_iff_iff]; simp_all; done)|(rw [Bool.eq_iff_iff]; simp_all; omega)|(rw [Bool.eq_iff_iff]; simp; omega)))|exact d_own (by simp only [List.length_append, List.length_cons, List.length_nil, rowsI_len])|exact ob_sl rfl (rowsI_app _ _).symm)))
      | trace_state
end Go.Proofs.Ytmkecjamfippfaa.Abs
