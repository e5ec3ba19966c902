/- Channels by states: ChannelQuiet and ChannelDone of the program. No statement of the seat is proved here. -/
import Derived.Test.YtjjeihcmiofkmaaTy
import Derived.Lib.Hide
import Derived.Test.YtjjeihcmiofkmaaAChE
set_option linter.unusedSimpArgs false
set_option linter.unusedVariables false
namespace Go.Proofs.Ytjjeihcmiofkmaa.Abs
open Go.RowKit
open R (val row ref)

def zeroV (k : Nat) : Nat × Ob := (k, .var 40 [.r true (row true 0 []), .r true (int 0), .r true (row true 0 []), .r true (row true 0 []), .r true (row true 0 [])])
theorem beq_dec (a b : Int) : (a == b) = decide (a = b) := by rw [Bool.eq_iff_iff]; simp
set_option maxRecDepth 100000 in
set_option maxHeartbeats 4000000 in
theorem f_doneH (nV nG nP nR mV mk : Bool) (c : Ch) (h1 : c.vs.length ≤ 1048576) :
    FnS Try.prog 58 [.one (.ptr 1000000000 0 0 0)] (chH 1000000000 1000001 1000002 1000003 nV nG nP nR mV mk c) (.one (.r true (bool (decide (c.kn = c.vs.length))))) (chH 1000000000 2000001 2000002 2000003 nV nG nP nR mV mk c) := by
  have l1 := ints_len c.vs
  cases nG <;> cases nP <;> cases nR
  all_goals
    dsimp only [chH, rowC, rowO]; simp only [Bool.false_eq_true, if_false, if_true, List.nil_append, List.append_nil, List.cons_append, Bool.and_true, Bool.and_false, Bool.true_and, Bool.false_and, Bool.not_false, Bool.not_true]
    refine fnS_of (l := [.tmp 2]) Try.func58 (by kernel_rfl) rfl Try.ntmps58 rfl rfl ?_; simp only [dEnv, Nat.reduceAdd]
    repeat' (first | (with_reducible first | refine aw_seq ?_ | refine thn_normal ?_ | refine thn_ret ?_ | refine thn_exit ?_ | refine blk_normal ?_ | refine blk_ret ?_ | refine blk_hit ?_ | refine blk_miss rfl ?_ | refine aw_block ?_ | refine aw_ret ?_ | refine aw_skip ?_ | refine aw_exit ?_ | refine w_nil ?_ | refine x_nil (by kernel_rfl) ?_) | refine aw_region ?_ | refine aw_region_draw (by kernel_rfl) ?_ | refine aw_yes rfl ?_ | refine aw_no rfl ?_ | ((with_reducible refine w_seq ?_); first | refine r_q tbOk rfl rfl rfl rfl ?_ | refine r_e tbOk rfl rfl rfl rfl rfl ?_ | refine r_yes tbOk rfl rfl rfl rfl rfl rfl ?_ | refine w_no rfl rfl (lookO_spec rfl) rfl rfl rfl ?_ | refine w_un rfl rfl (lookO_spec rfl) rfl rfl ?_) | ((with_reducible refine w_drw ?_); first | refine rx_q tbOk rfl rfl rfl rfl ?_ | refine rx_e tbOk rfl rfl rfl rfl rfl ?_ | refine rx_yes tbOk rfl rfl rfl rfl rfl rfl ?_ | refine x_no rfl rfl (lookO_spec rfl) rfl rfl rfl ?_ | refine x_un rfl rfl (lookO_spec rfl) rfl rfl ?_) | ((first | refine aw_ways rfl ?_ ?_ | refine r_split rfl rfl rfl ?_ ?_) <;> intro hg_ <;> fail_if_success (exact Bool.noConfusion hg_)) <;> (try simp only [prn] at hg_) <;> (try first | contradiction | (exfalso; omega)))
    all_goals first
      | exact ret_D [(2000001, 1000001), (2000002, 1000002), (2000003, 1000003)] rfl (by (repeat' (first | exact trivial | refine subHR_cons rfl ?_ ?_ | rfl))) (retD_bool rfl rfl (by rw [l1]; exact beq_dec _ _))
      | trace_state
set_option maxRecDepth 100000 in
set_option maxHeartbeats 4000000 in
theorem f_doneA (nV nG nP nR : Bool) (c : Ch) (h1 : c.vs.length ≤ 1048576) :
    FnS Try.prog 58 [.one (.ptr 1000000000 0 0 0)] [(1000000000, .var 40 [.r false (row nV 1 (ints c.vs)), .r false (int c.kn), .r false (row nG 1 (ints c.got)), .r false (row nP 2 (pks c.ps)), .r false (row nR 1 (ints c.rs))])] (.one (.r true (bool (decide (c.kn = c.vs.length))))) [(1000000000, .var 40 [.r false (row nV 1 (ints c.vs)), .r false (int c.kn), .r false (row nG 1 (ints c.got)), .r false (row nP 2 (pks c.ps)), .r false (row nR 1 (ints c.rs))])] := by
  have l1 := ints_len c.vs
  refine fnS_of (l := [.tmp 2]) Try.func58 (by kernel_rfl) rfl Try.ntmps58 rfl rfl ?_; simp only [dEnv, Nat.reduceAdd]
  repeat' (first | (with_reducible first | refine aw_seq ?_ | refine thn_normal ?_ | refine thn_ret ?_ | refine thn_exit ?_ | refine blk_normal ?_ | refine blk_ret ?_ | refine blk_hit ?_ | refine blk_miss rfl ?_ | refine aw_block ?_ | refine aw_ret ?_ | refine aw_skip ?_ | refine aw_exit ?_ | refine w_nil ?_ | refine x_nil (by kernel_rfl) ?_) | refine aw_region ?_ | refine aw_region_draw (by kernel_rfl) ?_ | refine aw_yes rfl ?_ | refine aw_no rfl ?_ | ((with_reducible refine w_seq ?_); first | refine r_q tbOk rfl rfl rfl rfl ?_ | refine r_e tbOk rfl rfl rfl rfl rfl ?_ | refine r_yes tbOk rfl rfl rfl rfl rfl rfl ?_ | refine w_no rfl rfl (lookO_spec rfl) rfl rfl rfl ?_ | refine w_un rfl rfl (lookO_spec rfl) rfl rfl ?_) | ((with_reducible refine w_drw ?_); first | refine rx_q tbOk rfl rfl rfl rfl ?_ | refine rx_e tbOk rfl rfl rfl rfl rfl ?_ | refine rx_yes tbOk rfl rfl rfl rfl rfl rfl ?_ | refine x_no rfl rfl (lookO_spec rfl) rfl rfl rfl ?_ | refine x_un rfl rfl (lookO_spec rfl) rfl rfl ?_) | ((first | refine aw_ways rfl ?_ ?_ | refine r_split rfl rfl rfl ?_ ?_) <;> intro hg_ <;> fail_if_success (exact Bool.noConfusion hg_)) <;> (try simp only [prn] at hg_) <;> (try first | contradiction | (exfalso; omega)))
  all_goals first
    | exact ret_D [] rfl (by (repeat' (first | exact trivial | refine subHR_cons rfl ?_ ?_ | rfl))) (retD_bool rfl rfl (by rw [l1]; exact beq_dec _ _))
    | trace_state
theorem f_implChOk' (n1 n2 n3 n4 : Bool) (c : Ch) (h1 : c.vs.length ≤ 1048576) (h2 : c.got.length ≤ 1048576) (h3 : c.ps.length ≤ 1048576) (h4 : c.rs.length ≤ 1048576) : Fn Try.prog 23 [chP n1 n2 n3 n4 c] (.v (.one (bool (Ch.ok c)))) := by
  obtain ⟨vs, kn, got, ps, rs⟩ := c
  exact f_implChOk n1 n2 n3 n4 vs kn got ps rs h1 h2 h3 h4
set_option maxRecDepth 100000 in
set_option maxHeartbeats 4000000 in
theorem f_implDone (nV nG nP nR : Bool) (c : Ch) (h1 : c.vs.length ≤ 1048576) (h2 : c.got.length ≤ 1048576) (h3 : c.ps.length ≤ 1048576) (h4 : c.rs.length ≤ 1048576) :
    Fn Try.prog 32 [chP nV nG nP nR c] (.v (.one (bool (Ch.ok c && decide (c.kn = c.vs.length))))) := by
  have hok := f_implChOk' nV nG nP nR c h1 h2 h3 h4
  have KD := f_doneA nV nG nP nR c h1
  cases ho : Ch.ok c <;> rw [ho] at hok
  all_goals
    refine fn_of (l := [.tmp 2]) Try.func32 (by kernel_rfl) rfl Try.ntmps32 rfl rfl ?_; simp only [argEnv, P0.d, Nat.reduceAdd, chP, List.map_cons, List.map_nil]
    repeat' (first | (with_reducible first | refine aw_seq ?_ | refine thn_normal ?_ | refine thn_ret ?_ | refine thn_exit ?_ | refine blk_normal ?_ | refine blk_ret ?_ | refine blk_hit ?_ | refine blk_miss rfl ?_ | refine aw_block ?_ | refine aw_ret ?_ | refine aw_skip ?_ | refine aw_exit ?_ | refine w_nil ?_ | refine x_nil (by kernel_rfl) ?_) | refine aw_region ?_ | refine aw_region_draw (by kernel_rfl) ?_ | refine aw_yes rfl ?_ | refine aw_no rfl ?_ | ((with_reducible refine w_seq ?_); first | refine r_q tbOk rfl rfl rfl rfl ?_ | refine r_e tbOk rfl rfl rfl rfl rfl ?_ | refine r_yes tbOk rfl rfl rfl rfl rfl rfl ?_ | refine w_no rfl rfl (lookO_spec rfl) rfl rfl rfl ?_ | refine w_un rfl rfl (lookO_spec rfl) rfl rfl ?_) | ((with_reducible refine w_drw ?_); first | refine rx_q tbOk rfl rfl rfl rfl ?_ | refine rx_e tbOk rfl rfl rfl rfl rfl ?_ | refine rx_yes tbOk rfl rfl rfl rfl rfl rfl ?_ | refine x_no rfl rfl (lookO_spec rfl) rfl rfl rfl ?_ | refine x_un rfl rfl (lookO_spec rfl) rfl rfl ?_) | ((first | refine' w_q rfl rfl ?xa rfl ?_ | refine' v_q rfl rfl ?xa rfl ?_ | refine' w_yes rfl rfl (lookO_spec rfl) rfl ?xa rfl ?_ | refine' v_yes rfl rfl (lookO_spec rfl) rfl ?xa rfl ?_); case xa => exact k_call hok rfl ⟨asA_agg (evO_spec rfl) ⟨cAr_r, cAr_r, cAr_r, cAr_r, cAr_r, trivial⟩, trivial⟩) | ((first | refine' w_ey rfl rfl (lookO_spec rfl) ?xa ?xb ?xc ?xe ?_ | refine' v_ey rfl rfl (lookO_spec rfl) ?xa ?xb ?xc ?xe ?_); (case xa => exact e_callS [(1000000000, 1)] KD rfl ⟨asD_ren (evO_spec rfl), trivial⟩ (by (repeat' (first | exact trivial | refine subHR_cons rfl ?_ ?_ | rfl))) rfl); (case xb => rfl); (case xc => rfl); (case xe => rfl); try dsimp only [P0.d, Res.d, List.map_cons, List.map_nil, List.set_cons_zero, List.set_cons_succ, Nat.reduceAdd]) | ((first | refine aw_ways rfl ?_ ?_ | refine r_split rfl rfl rfl ?_ ?_) <;> intro hg_ <;> fail_if_success (exact Bool.noConfusion hg_)) <;> (try simp only [prn] at hg_) <;> (try first | contradiction | (exfalso; omega)))
    all_goals first
      | exact ret_tmp rfl (dres_bool rfl)
      | (exfalso; simp at *; done)
      | trace_state
theorem f_copied' (nV nG nP nR : Bool) (c : Ch) (hn : Nils nV nG nP nR c) (h1 : c.vs.length ≤ 1048576) (h2 : c.got.length ≤ 1048576) (h3 : c.ps.length ≤ 1048576) (h4 : c.rs.length ≤ 1048576) :
    FnS Try.prog 49 [.agg [.r false (row nV 1 (ints c.vs)), .r false (int c.kn), .r false (row nG 1 (ints c.got)), .r false (row nP 2 (pks c.ps)), .r false (row nR 1 (ints c.rs))]] [] (chD 2000001 2000002 2000003 nV nG nP nR true false c) (chR 2000001 2000002 2000003 nG nP nR c) := by
  obtain ⟨vs, kn, got, ps, rs⟩ := c
  exact f_copied nV nG nP nR vs kn got ps rs hn.v hn.g hn.p hn.r h1 h2 h3 h4
set_option maxRecDepth 100000 in
set_option maxHeartbeats 8000000 in
theorem f_implQuiet (nV nG nP nR : Bool) (c : Ch) (hG : Ch.Good c) (hn : Nils nV nG nP nR c) :
    Fn Try.prog 25 [chP nV nG nP nR c] (.v (chP nV (quG nG c) nP nR (Ch.quiet c))) := by
  obtain ⟨h1, h2, h3, h4⟩ := hG.lens
  have hok := f_implChOk' nV nG nP nR c h1 h2 h3 h4
  rw [Ch.ok_iff.2 hG] at hok
  have K1 := f_copied' nV nG nP nR c hn h1 h2 h3 h4
  have K2 := f_quiet nV nG nP nR true false c hG hn
  have hq := qu_nils hn
  generalize Ch.quiet c = d at *
  generalize quG nG c = g at *
  generalize quK false c = k at *
  obtain ⟨vs', kn', got', ps', rs'⟩ := d
  have q4 := hq.g
  have q5 := hq.p
  have q6 := hq.r
  clear hn hG hq
  dsimp only at q4 q5 q6 K2 ⊢
  have l1 := ints_len got'
  have l2 := pks_len ps'
  have l3 := ints_len rs'
  cases nG <;> cases nP <;> cases nR <;> cases g
  all_goals
    (try (have h := q4 rfl; subst h)); (try (have h := q5 rfl; subst h)); (try (have h := q6 rfl; subst h))
    dsimp only [chH, chD, chR, rowC, rowO] at K1 K2
    simp only [Bool.false_eq_true, if_false, if_true, List.nil_append, List.append_nil, List.cons_append] at K1 K2
    refine fn_of (l := [.cell 2 40]) Try.func25 (by kernel_rfl) rfl Try.ntmps25 rfl rfl ?_; simp only [argEnv, P0.d, Nat.reduceAdd, chP, List.map_cons, List.map_nil]
    repeat' (first | (with_reducible first | refine aw_seq ?_ | refine thn_normal ?_ | refine thn_ret ?_ | refine thn_exit ?_ | refine blk_normal ?_ | refine blk_ret ?_ | refine blk_hit ?_ | refine blk_miss rfl ?_ | refine aw_block ?_ | refine aw_ret ?_ | refine aw_skip ?_ | refine aw_exit ?_ | refine w_nil ?_ | refine x_nil (by kernel_rfl) ?_) | refine aw_region ?_ | refine aw_region_draw (by kernel_rfl) ?_ | refine aw_yes rfl ?_ | refine aw_no rfl ?_ | ((with_reducible refine w_seq ?_); first | refine r_q tbOk rfl rfl rfl rfl ?_ | refine r_e tbOk rfl rfl rfl rfl rfl ?_ | refine r_yes tbOk rfl rfl rfl rfl rfl rfl ?_ | refine w_no rfl rfl (lookO_spec rfl) rfl rfl rfl ?_ | refine w_un rfl rfl (lookO_spec rfl) rfl rfl ?_) | ((with_reducible refine w_drw ?_); first | refine rx_q tbOk rfl rfl rfl rfl ?_ | refine rx_e tbOk rfl rfl rfl rfl rfl ?_ | refine rx_yes tbOk rfl rfl rfl rfl rfl rfl ?_ | refine x_no rfl rfl (lookO_spec rfl) rfl rfl rfl ?_ | refine x_un rfl rfl (lookO_spec rfl) rfl rfl ?_) | ((first | refine' w_q rfl rfl ?xa rfl ?_ | refine' v_q rfl rfl ?xa rfl ?_ | refine' w_yes rfl rfl (lookO_spec rfl) rfl ?xa rfl ?_ | refine' v_yes rfl rfl (lookO_spec rfl) rfl ?xa rfl ?_); case xa => exact k_call hok rfl ⟨asA_agg (evO_spec rfl) ⟨cAr_r, cAr_r, cAr_r, cAr_r, cAr_r, trivial⟩, trivial⟩) | ((first | refine' w_e rfl ?xa ?xb ?xc ?xe ?_ | refine' v_e rfl ?xa ?xb ?xc ?xe ?_); (case xa => first | exact e_callS [(2000001, 101), (2000002, 102), (2000003, 103)] K1 rfl ⟨asD_ren (evO_spec rfl), trivial⟩ trivial rfl | exact e_callS [(1000000000, 3), (1000001, 101), (1000002, 102), (1000003, 103), (2000001, 201), (2000002, 202), (2000003, 203)] K2 rfl ⟨asD_ren (evO_spec rfl), trivial⟩ (by (repeat' (first | exact trivial | refine subHR_cons rfl ?_ ?_ | rfl))) rfl); (case xb => rfl); (case xc => rfl); (case xe => rfl); try dsimp only [P0.d, Res.d, List.map_cons, List.map_nil, List.set_cons_zero, List.set_cons_succ, Nat.reduceAdd]) | ((first | refine aw_ways rfl ?_ ?_ | refine r_split rfl rfl rfl ?_ ?_) <;> intro hg_ <;> fail_if_success (exact Bool.noConfusion hg_)) <;> (try simp only [prn] at hg_) <;> (try first | contradiction | (exfalso; omega)))
    all_goals first
      | exact ret_v (rv_cell rfl rfl (by (with_reducible first | exact ty3 | exact ty4 | exact ty5 | exact ty9 | exact ty17 | exact ty19 | exact ty22 | exact ty23 | exact ty25 | exact ty31 | exact ty38 | exact ty40 | exact ty54 | exact ty71 | exact ty75 | exact ty78 | exact ty82 | exact ty83)) rfl rfl rfl (dres_agg (by refine ⟨?_, cres_val, ?_, ?_, ?_, trivial⟩ <;> first | exact cres_new | exact cres_nil | exact cres_own0 (lookHO_spec rfl) l1.symm | exact cres_own0 (lookHO_spec rfl) l2.symm | exact cres_own0 (lookHO_spec rfl) l3.symm)))
      | trace_state
set_option maxRecDepth 100000 in
set_option maxHeartbeats 4000000 in
theorem f_implQuietNo (nV nG nP nR : Bool) (c : Ch) (ho : Ch.ok c = false) (h1 : c.vs.length ≤ 1048576) (h2 : c.got.length ≤ 1048576) (h3 : c.ps.length ≤ 1048576) (h4 : c.rs.length ≤ 1048576) :
    Fn Try.prog 25 [chP nV nG nP nR c] (.v (chP true true true true zeroCh)) := by
  have hok := f_implChOk' nV nG nP nR c h1 h2 h3 h4
  rw [ho] at hok
  refine fn_of (l := [.cell 2 40]) Try.func25 (by kernel_rfl) rfl Try.ntmps25 rfl rfl ?_; simp only [argEnv, P0.d, Nat.reduceAdd, chP, List.map_cons, List.map_nil]
  repeat' (first | (with_reducible first | refine aw_seq ?_ | refine thn_normal ?_ | refine thn_ret ?_ | refine thn_exit ?_ | refine blk_normal ?_ | refine blk_ret ?_ | refine blk_hit ?_ | refine blk_miss rfl ?_ | refine aw_block ?_ | refine aw_ret ?_ | refine aw_skip ?_ | refine aw_exit ?_ | refine w_nil ?_ | refine x_nil (by kernel_rfl) ?_) | refine aw_region ?_ | refine aw_region_draw (by kernel_rfl) ?_ | refine aw_yes rfl ?_ | refine aw_no rfl ?_ | ((with_reducible refine w_seq ?_); first | refine r_q tbOk rfl rfl rfl rfl ?_ | refine r_e tbOk rfl rfl rfl rfl rfl ?_ | refine r_yes tbOk rfl rfl rfl rfl rfl rfl ?_ | refine w_no rfl rfl (lookO_spec rfl) rfl rfl rfl ?_ | refine w_un rfl rfl (lookO_spec rfl) rfl rfl ?_) | ((with_reducible refine w_drw ?_); first | refine rx_q tbOk rfl rfl rfl rfl ?_ | refine rx_e tbOk rfl rfl rfl rfl rfl ?_ | refine rx_yes tbOk rfl rfl rfl rfl rfl rfl ?_ | refine x_no rfl rfl (lookO_spec rfl) rfl rfl rfl ?_ | refine x_un rfl rfl (lookO_spec rfl) rfl rfl ?_) | ((first | refine' w_q rfl rfl ?xa rfl ?_ | refine' v_q rfl rfl ?xa rfl ?_ | refine' w_yes rfl rfl (lookO_spec rfl) rfl ?xa rfl ?_ | refine' v_yes rfl rfl (lookO_spec rfl) rfl ?xa rfl ?_); case xa => exact k_call hok rfl ⟨asA_agg (evO_spec rfl) ⟨cAr_r, cAr_r, cAr_r, cAr_r, cAr_r, trivial⟩, trivial⟩) | ((first | refine aw_ways rfl ?_ ?_ | refine r_split rfl rfl rfl ?_ ?_) <;> intro hg_ <;> fail_if_success (exact Bool.noConfusion hg_)) <;> (try simp only [prn] at hg_) <;> (try first | contradiction | (exfalso; omega)))
  all_goals first
    | exact ret_v (rv_cell rfl rfl (by (with_reducible first | exact ty3 | exact ty4 | exact ty5 | exact ty9 | exact ty17 | exact ty19 | exact ty22 | exact ty23 | exact ty25 | exact ty31 | exact ty38 | exact ty40 | exact ty54 | exact ty71 | exact ty75 | exact ty78 | exact ty82 | exact ty83)) rfl rfl rfl (dres_agg (by exact ⟨cres_nil, cres_val, cres_nil, cres_nil, cres_nil, trivial⟩)))
    | trace_state
end Go.Proofs.Ytjjeihcmiofkmaa.Abs
