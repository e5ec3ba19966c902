/- Channels by states: ChannelQuiet, ChannelDone, ChannelRun, ChannelFinish of the reference. No statement of the seat is proved here. -/
import Derived.Test.YtjjeihcmiofkmaaTy
import Derived.Lib.Hide
import Derived.Test.YtjjeihcmiofkmaaAChZ
import Derived.Test.YtjjeihcmiofkmaaAChB
import Derived.Test.YtjjeihcmiofkmaaAChI
import Derived.Test.YtjjeihcmiofkmaaAChK
set_option linter.unusedSimpArgs false
set_option linter.unusedVariables false
namespace Go.Proofs.Ytjjeihcmiofkmaa.Abs
open Go.RowKit
open R (val row ref)

def chV (m nV nG nP nR : Bool) (c : Ch) : List Cell := [.r m (row nV 1 (ints c.vs)), .r m (int c.kn), .r m (row nG 1 (ints c.got)), .r m (row nP 2 (pks c.ps)), .r m (row nR 1 (ints c.rs))]
theorem f_specChOk' (n1 n2 n3 n4 : Bool) (c : Ch) (h1 : c.vs.length ≤ 1048576) (h2 : c.got.length ≤ 1048576) (h3 : c.ps.length ≤ 1048576) (h4 : c.rs.length ≤ 1048576) : Fn Try.prog 27 [chP n1 n2 n3 n4 c] (.v (.one (bool (Ch.ok c)))) := by
  obtain ⟨vs, kn, got, ps, rs⟩ := c
  exact f_specChOk n1 n2 n3 n4 vs kn got ps rs h1 h2 h3 h4
theorem f_specStepV (n1 n2 n3 n4 : Bool) (c : Ch) (s : Int) (hG : Ch.Good c) : Fn Try.prog 21 [chP n1 n2 n3 n4 c, iP s] (.tup [chP false false false false (Ch.step c s).1, .one (bool (Ch.step c s).2)]) := by
  obtain ⟨h1, h2, h3, h4⟩ := hG.lens
  obtain ⟨vs, kn, got, ps, rs⟩ := c
  have := f_specChStep n1 n2 n3 n4 vs kn got ps rs s h1 h2 h3 h4
  unfold stepR at this
  rw [Ch.ok_iff.2 hG, if_pos rfl] at this
  exact this
theorem f_l16' (nV nG nP nR : Bool) (c : Ch) (hG : Ch.Good c) : FnS Try.prog 51 [.agg [.r false (row nV 1 (ints c.vs)), .r false (int c.kn), .r false (row nG 1 (ints c.got)), .r false (row nP 2 (pks c.ps)), .r false (row nR 1 (ints c.rs))]] [] (chO 2000001 2000002 2000003 2000004 c) (chQ 2000001 2000002 2000003 2000004 c) := by
  obtain ⟨h1, h2, h3, h4⟩ := hG.lens
  obtain ⟨vs, kn, got, ps, rs⟩ := c
  exact f_l16 nV nG nP nR vs kn got ps rs h1 h2 h3 h4
set_option maxRecDepth 100000 in
set_option maxHeartbeats 4000000 in
theorem f_l16V (nV nG nP nR : Bool) (c : Ch) (hG : Ch.Good c) : Fn Try.prog 51 [chP nV nG nP nR c] (.v (chP false false false false c)) := by
  obtain ⟨h1, h2, h3, h4⟩ := hG.lens
  have l1 := ints_len c.vs
  have l2 := ints_len c.got
  have l3 := pks_len c.ps
  have l4 := ints_len c.rs
  refine fn_of (l := [.cell 2 40]) Try.func51 (by kernel_rfl) rfl Try.ntmps51 rfl rfl ?_; simp only [argEnv, P0.d, Nat.reduceAdd, chP, List.map_cons, List.map_nil]
  repeat' (first | (with_reducible first | refine aw_seq ?_ | refine thn_normal ?_ | refine thn_ret ?_ | refine thn_exit ?_ | refine blk_normal ?_ | refine blk_ret ?_ | refine blk_hit ?_ | refine blk_miss rfl ?_ | refine aw_block ?_ | refine aw_ret ?_ | refine aw_skip ?_ | refine aw_exit ?_ | refine w_nil ?_ | refine x_nil (by kernel_rfl) ?_) | refine aw_region ?_ | refine aw_region_draw (by kernel_rfl) ?_ | refine aw_yes rfl ?_ | refine aw_no rfl ?_ | ((with_reducible refine w_seq ?_); first | refine r_q tbOk rfl rfl rfl rfl ?_ | refine r_e tbOk rfl rfl rfl rfl rfl ?_ | refine r_yes tbOk rfl rfl rfl rfl rfl rfl ?_ | refine w_no rfl rfl (lookO_spec rfl) rfl rfl rfl ?_ | refine w_un rfl rfl (lookO_spec rfl) rfl rfl ?_) | ((with_reducible refine w_drw ?_); first | refine rx_q tbOk rfl rfl rfl rfl ?_ | refine rx_e tbOk rfl rfl rfl rfl rfl ?_ | refine rx_yes tbOk rfl rfl rfl rfl rfl rfl ?_ | refine x_no rfl rfl (lookO_spec rfl) rfl rfl rfl ?_ | refine x_un rfl rfl (lookO_spec rfl) rfl rfl ?_) | ((first | refine' w_e rfl ?xa ?xb ?xc ?xe ?_ | refine' v_e rfl ?xa ?xb ?xc ?xe ?_); (case xa => first | exact e_build [] tlOk rfl rfl rfl rfl rfl rfl (by simp [AllN]) (by simp) | exact e_append tlOk rfl rfl rfl rfl rfl rfl (slD_plain slD_row (by first | exact ints_plain _ | exact pks_plain _)) rfl (by simp only [maxLen, List.length_nil]; omega) (by simp only [List.length_nil]; omega)); (case xb => rfl); (case xc => rfl); (case xe => rfl); try dsimp only [P0.d, Res.d, List.map_cons, List.map_nil, List.set_cons_zero, List.set_cons_succ, Nat.reduceAdd]) | ((first | refine aw_ways rfl ?_ ?_ | refine r_split rfl rfl rfl ?_ ?_) <;> intro hg_ <;> fail_if_success (exact Bool.noConfusion hg_)) <;> (try simp only [prn] at hg_) <;> (try first | contradiction | (exfalso; omega)))
  all_goals first
    | exact ret_v (rv_cell rfl rfl (by (with_reducible first | exact ty3 | exact ty4 | exact ty5 | exact ty9 | exact ty17 | exact ty19 | exact ty22 | exact ty23 | exact ty25 | exact ty31 | exact ty38 | exact ty40 | exact ty54 | exact ty71 | exact ty75 | exact ty78 | exact ty82 | exact ty83)) rfl rfl rfl (dres_agg (by refine ⟨?_, cres_val, ?_, ?_, ?_, trivial⟩ <;> exact cres_own0 (lookHO_spec rfl) (by simp only [List.length_nil, Nat.zero_add, List.nil_append]))))
    | trace_state
set_option maxRecDepth 100000 in
set_option maxHeartbeats 4000000 in
theorem f_ownCh (nV nG nP nR : Bool) (c : Ch) (h1 : c.vs.length ≤ 1048576) (h2 : c.got.length ≤ 1048576) (h3 : c.ps.length ≤ 1048576) (h4 : c.rs.length ≤ 1048576) : Fn Try.prog 74 [chP nV nG nP nR c] (.v (chP false false false false c)) := by
  have l1 := ints_len c.vs
  have l2 := ints_len c.got
  have l3 := pks_len c.ps
  have l4 := ints_len c.rs
  refine fn_of (l := [.cell 2 40]) Try.func74 (by kernel_rfl) rfl Try.ntmps74 rfl rfl ?_; simp only [argEnv, P0.d, Nat.reduceAdd, chP, List.map_cons, List.map_nil]
  repeat' (first | (with_reducible first | refine aw_seq ?_ | refine thn_normal ?_ | refine thn_ret ?_ | refine thn_exit ?_ | refine blk_normal ?_ | refine blk_ret ?_ | refine blk_hit ?_ | refine blk_miss rfl ?_ | refine aw_block ?_ | refine aw_ret ?_ | refine aw_skip ?_ | refine aw_exit ?_ | refine w_nil ?_ | refine x_nil (by kernel_rfl) ?_) | refine aw_region ?_ | refine aw_region_draw (by kernel_rfl) ?_ | refine aw_yes rfl ?_ | refine aw_no rfl ?_ | ((with_reducible refine w_seq ?_); first | refine r_q tbOk rfl rfl rfl rfl ?_ | refine r_e tbOk rfl rfl rfl rfl rfl ?_ | refine r_yes tbOk rfl rfl rfl rfl rfl rfl ?_ | refine w_no rfl rfl (lookO_spec rfl) rfl rfl rfl ?_ | refine w_un rfl rfl (lookO_spec rfl) rfl rfl ?_) | ((with_reducible refine w_drw ?_); first | refine rx_q tbOk rfl rfl rfl rfl ?_ | refine rx_e tbOk rfl rfl rfl rfl rfl ?_ | refine rx_yes tbOk rfl rfl rfl rfl rfl rfl ?_ | refine x_no rfl rfl (lookO_spec rfl) rfl rfl rfl ?_ | refine x_un rfl rfl (lookO_spec rfl) rfl rfl ?_) | ((first | refine' w_e rfl ?xa ?xb ?xc ?xe ?_ | refine' v_e rfl ?xa ?xb ?xc ?xe ?_); (case xa => first | exact e_build [] tlOk rfl rfl rfl rfl rfl rfl (by simp [AllN]) (by simp) | exact e_append tlOk rfl rfl rfl rfl rfl rfl (slD_plain slD_row (by first | exact ints_plain _ | exact pks_plain _)) rfl (by simp only [maxLen, List.length_nil]; omega) (by simp only [List.length_nil]; omega)); (case xb => rfl); (case xc => rfl); (case xe => rfl); try dsimp only [P0.d, Res.d, List.map_cons, List.map_nil, List.set_cons_zero, List.set_cons_succ, Nat.reduceAdd]) | ((first | refine aw_ways rfl ?_ ?_ | refine r_split rfl rfl rfl ?_ ?_) <;> intro hg_ <;> fail_if_success (exact Bool.noConfusion hg_)) <;> (try simp only [prn] at hg_) <;> (try first | contradiction | (exfalso; omega)))
  all_goals first
    | exact ret_v (rv_cell rfl rfl (by (with_reducible first | exact ty3 | exact ty4 | exact ty5 | exact ty9 | exact ty17 | exact ty19 | exact ty22 | exact ty23 | exact ty25 | exact ty31 | exact ty38 | exact ty40 | exact ty54 | exact ty71 | exact ty75 | exact ty78 | exact ty82 | exact ty83)) rfl rfl rfl (dres_agg (by refine ⟨?_, cres_val, ?_, ?_, ?_, trivial⟩ <;> exact cres_own0 (lookHO_spec rfl) (by simp only [List.length_nil, Nat.zero_add, List.nil_append]))))
    | trace_state
set_option maxRecDepth 100000 in
set_option maxHeartbeats 4000000 in
theorem f_specDone (nV nG nP nR : Bool) (c : Ch) (h1 : c.vs.length ≤ 1048576) (h2 : c.got.length ≤ 1048576) (h3 : c.ps.length ≤ 1048576) (h4 : c.rs.length ≤ 1048576) :
    Fn Try.prog 33 [chP nV nG nP nR c] (.v (.one (bool (Ch.ok c && decide (c.kn = c.vs.length))))) := by
  have hok := f_specChOk' nV nG nP nR c h1 h2 h3 h4
  have l1 := ints_len c.vs
  cases ho : Ch.ok c <;> rw [ho] at hok
  all_goals
    refine fn_of (l := [.tmp 2]) Try.func33 (by kernel_rfl) rfl Try.ntmps33 rfl rfl ?_; simp only [argEnv, P0.d, Nat.reduceAdd, chP, List.map_cons, List.map_nil]
    repeat' (first | (with_reducible first | refine aw_seq ?_ | refine thn_normal ?_ | refine thn_ret ?_ | refine thn_exit ?_ | refine blk_normal ?_ | refine blk_ret ?_ | refine blk_hit ?_ | refine blk_miss rfl ?_ | refine aw_block ?_ | refine aw_ret ?_ | refine aw_skip ?_ | refine aw_exit ?_ | refine w_nil ?_ | refine x_nil (by kernel_rfl) ?_) | refine aw_region ?_ | refine aw_region_draw (by kernel_rfl) ?_ | refine aw_yes rfl ?_ | refine aw_no rfl ?_ | ((with_reducible refine w_seq ?_); first | refine r_q tbOk rfl rfl rfl rfl ?_ | refine r_e tbOk rfl rfl rfl rfl rfl ?_ | refine r_yes tbOk rfl rfl rfl rfl rfl rfl ?_ | refine w_no rfl rfl (lookO_spec rfl) rfl rfl rfl ?_ | refine w_un rfl rfl (lookO_spec rfl) rfl rfl ?_) | ((with_reducible refine w_drw ?_); first | refine rx_q tbOk rfl rfl rfl rfl ?_ | refine rx_e tbOk rfl rfl rfl rfl rfl ?_ | refine rx_yes tbOk rfl rfl rfl rfl rfl rfl ?_ | refine x_no rfl rfl (lookO_spec rfl) rfl rfl rfl ?_ | refine x_un rfl rfl (lookO_spec rfl) rfl rfl ?_) | ((first | refine' w_q rfl rfl ?xa rfl ?_ | refine' v_q rfl rfl ?xa rfl ?_ | refine' w_yes rfl rfl (lookO_spec rfl) rfl ?xa rfl ?_ | refine' v_yes rfl rfl (lookO_spec rfl) rfl ?xa rfl ?_); case xa => exact k_call hok rfl ⟨asA_agg (evO_spec rfl) ⟨cAr_r, cAr_r, cAr_r, cAr_r, cAr_r, trivial⟩, trivial⟩) | ((first | refine aw_ways rfl ?_ ?_ | refine r_split rfl rfl rfl ?_ ?_) <;> intro hg_ <;> fail_if_success (exact Bool.noConfusion hg_)) <;> (try simp only [prn] at hg_) <;> (try first | contradiction | (exfalso; omega)))
    all_goals first
      | exact ret_tmp rfl (dres_bool rfl)
      | exact ret_tmp rfl (dres_bool (by rw [l1]; exact beq_dec _ _))
      | (exfalso; simp at *; done)
      | trace_state
set_option maxRecDepth 100000 in
set_option maxHeartbeats 4000000 in
theorem f_specQuiet (nV nG nP nR : Bool) (c : Ch) (hG : Ch.Good c) :
    Fn Try.prog 26 [chP nV nG nP nR c] (.v (chP false false false false (Ch.quiet c))) := by
  obtain ⟨h1, h2, h3, h4⟩ := hG.lens
  have hok := f_specChOk' nV nG nP nR c h1 h2 h3 h4
  rw [Ch.ok_iff.2 hG] at hok
  have hG2 : Ch.Good (Ch.packetsIn c) := (Ch.it_grow hG 1 _).good
  have hG3 : Ch.Good (Ch.quiet c) := (Ch.quiet_facts hG).1.good
  refine fn_of (l := [.cell 2 40]) Try.func26 (by kernel_rfl) rfl Try.ntmps26 rfl rfl ?_; simp only [argEnv, P0.d, Nat.reduceAdd, chP, List.map_cons, List.map_nil]
  refine aw_seq ?_
  repeat' (first | (with_reducible first | refine thn_normal ?_ | refine thn_ret ?_ | refine thn_exit ?_ | refine blk_normal ?_ | refine blk_ret ?_ | refine blk_hit ?_ | refine blk_miss rfl ?_ | refine aw_block ?_ | refine aw_ret ?_ | refine aw_skip ?_ | refine aw_exit ?_ | refine w_nil ?_ | refine x_nil (by kernel_rfl) ?_) | refine aw_region ?_ | refine aw_region_draw (by kernel_rfl) ?_ | refine aw_yes rfl ?_ | refine aw_no rfl ?_ | ((with_reducible refine w_seq ?_); first | refine r_q tbOk rfl rfl rfl rfl ?_ | refine r_e tbOk rfl rfl rfl rfl rfl ?_ | refine r_yes tbOk rfl rfl rfl rfl rfl rfl ?_ | refine w_no rfl rfl (lookO_spec rfl) rfl rfl rfl ?_ | refine w_un rfl rfl (lookO_spec rfl) rfl rfl ?_) | ((with_reducible refine w_drw ?_); first | refine rx_q tbOk rfl rfl rfl rfl ?_ | refine rx_e tbOk rfl rfl rfl rfl rfl ?_ | refine rx_yes tbOk rfl rfl rfl rfl rfl rfl ?_ | refine x_no rfl rfl (lookO_spec rfl) rfl rfl rfl ?_ | refine x_un rfl rfl (lookO_spec rfl) rfl rfl ?_) | ((first | refine aw_ways rfl ?_ ?_ | refine r_split rfl rfl rfl ?_ ?_) <;> intro hg_ <;> fail_if_success (exact Bool.noConfusion hg_)) <;> (try simp only [prn] at hg_) <;> (try first | contradiction | (exfalso; omega)))
  refine aw_seq ?_
  refine aw_seq ?_
  repeat' (first | (with_reducible first | refine thn_normal ?_ | refine thn_ret ?_ | refine thn_exit ?_ | refine blk_normal ?_ | refine blk_ret ?_ | refine blk_hit ?_ | refine blk_miss rfl ?_ | refine aw_block ?_ | refine aw_ret ?_ | refine aw_skip ?_ | refine aw_exit ?_ | refine w_nil ?_ | refine x_nil (by kernel_rfl) ?_) | refine aw_region ?_ | refine aw_region_draw (by kernel_rfl) ?_ | refine aw_yes rfl ?_ | refine aw_no rfl ?_ | ((with_reducible refine w_seq ?_); first | refine r_q tbOk rfl rfl rfl rfl ?_ | refine r_e tbOk rfl rfl rfl rfl rfl ?_ | refine r_yes tbOk rfl rfl rfl rfl rfl rfl ?_ | refine w_no rfl rfl (lookO_spec rfl) rfl rfl rfl ?_ | refine w_un rfl rfl (lookO_spec rfl) rfl rfl ?_) | ((with_reducible refine w_drw ?_); first | refine rx_q tbOk rfl rfl rfl rfl ?_ | refine rx_e tbOk rfl rfl rfl rfl rfl ?_ | refine rx_yes tbOk rfl rfl rfl rfl rfl rfl ?_ | refine x_no rfl rfl (lookO_spec rfl) rfl rfl rfl ?_ | refine x_un rfl rfl (lookO_spec rfl) rfl rfl ?_) | ((first | refine' w_q rfl rfl ?xa rfl ?_ | refine' v_q rfl rfl ?xa rfl ?_ | refine' w_yes rfl rfl (lookO_spec rfl) rfl ?xa rfl ?_ | refine' v_yes rfl rfl (lookO_spec rfl) rfl ?xa rfl ?_); case xa => exact k_call hok rfl ⟨asA_agg (evO_spec rfl) ⟨cAr_r, cAr_r, cAr_r, cAr_r, cAr_r, trivial⟩, trivial⟩) | ((first | refine aw_ways rfl ?_ ?_ | refine r_split rfl rfl rfl ?_ ?_) <;> intro hg_ <;> fail_if_success (exact Bool.noConfusion hg_)) <;> (try simp only [prn] at hg_) <;> (try first | contradiction | (exfalso; omega)))
  clear hok h1 h2 h3 h4
  have hz : ∃ m nV' nG' nP' nR', (m = !zf c.ps.length) ∧ (nV' = (zf c.ps.length && nV)) ∧ (nG' = (zf c.ps.length && nG)) ∧ (nP' = (zf c.ps.length && nP)) ∧ (nR' = (zf c.ps.length && nR)) := ⟨_, _, _, _, _, rfl, rfl, rfl, rfl, rfl⟩
  obtain ⟨m, nV', nG', nP', nR', z1, z2, z3, z4, z5⟩ := hz
  refine aw_cut (mkS 27 [(2, .one (.ptr 2 0 0 0)), (1, .one (.ptr 1 0 0 0))] [(1, .var 40 (chV m nV' nG' nP' nR' (Ch.packetsIn c))), zeroV 2]) ?_ ?_
  · refine aw_block ?_
    refine aw_loopI (fun k : Nat => k ≤ c.ps.length) (fun k => mkS 27 [(2, .one (.ptr 2 0 0 0)), (1, .one (.ptr 1 0 0 0))] [(1, .var 40 (chV (!zf k) (zf k && nV) (zf k && nG) (zf k && nP) (zf k && nR) (Ch.it 1 k c))), zeroV 2]) (fun k => c.ps.length - k) 0 (Nat.zero_le _) ?_ ?_
    · dsimp only [chV, zeroV]
      (refine weak_ren [] rfl ?_ ?_ <;> repeat' (first | exact trivial | refine subR_cons rfl ?_ ?_ | refine subHR_cons rfl ?_ ?_ | rfl | (refine d_int ?_; (first | rfl | omega | (rw [IntWalk.i64_in _ (by omega)] <;> omega) | (simp; done) | (simp; omega))) | (refine d_bool ?_; (first | (simp_all; done) | (rw [Bool.eq_iff_iff]; simp_all; done) | (rw [Bool.eq_iff_iff]; simp_all; omega) | (rw [Bool.eq_iff_iff]; simp; omega)))))
    · intro k hk
      have K := f_specStepV (zf k && nV) (zf k && nG) (zf k && nP) (zf k && nR) (Ch.it 1 k c) 1 (Ch.it_grow hG 1 k).good
      have hp := (Ch.it_ps (s := 1) (.inl rfl) c k).1
      have hl : (pks (Ch.it 1 k c).ps).length = c.ps.length - k := by rw [pks_len, hp]; simp
      by_cases hlt : k < c.ps.length
      · clear hG2 hG3 hp z1 z2 z3 z4 z5
        have hfin : ∀ s', Weak s' (mkS 27 [(2, .one (.ptr 2 0 0 0)), (1, .one (.ptr 1 0 0 0))] [(1, .var 40 (chV true false false false false (Ch.step (Ch.it 1 k c) 1).1)), zeroV 2]) → ∃ x', x' ≤ c.ps.length ∧ Weak s' (mkS 27 [(2, .one (.ptr 2 0 0 0)), (1, .one (.ptr 1 0 0 0))] [(1, .var 40 (chV (!zf x') (zf x' && nV) (zf x' && nG) (zf x' && nP) (zf x' && nR) (Ch.it 1 x' c))), zeroV 2]) ∧ c.ps.length - x' < c.ps.length - k := fun s' h => ⟨k + 1, hlt, h, by omega⟩
        dsimp only [chV, zeroV] at hfin ⊢
        generalize (Ch.step (Ch.it 1 k c) 1).1 = d' at *
        generalize (Ch.step (Ch.it 1 k c) 1).2 = b at *
        generalize Ch.it 1 k c = d at *
        generalize (!zf k) = m0 at *
        generalize (zf k && nV) = a1 at *
        generalize (zf k && nG) = a2 at *
        generalize (zf k && nP) = a3 at *
        generalize (zf k && nR) = a4 at *
        repeat' (first | (with_reducible first | refine aw_seq ?_ | refine thn_normal ?_ | refine thn_ret ?_ | refine thn_exit ?_ | refine blk_normal ?_ | refine blk_ret ?_ | refine blk_hit ?_ | refine blk_miss rfl ?_ | refine aw_block ?_ | refine aw_ret ?_ | refine aw_skip ?_ | refine aw_exit ?_ | refine w_nil ?_ | refine x_nil (by kernel_rfl) ?_) | refine aw_region ?_ | refine aw_region_draw (by kernel_rfl) ?_ | refine aw_yes rfl ?_ | refine aw_no rfl ?_ | ((with_reducible refine w_seq ?_); first | refine r_q tbOk rfl rfl rfl rfl ?_ | refine r_e tbOk rfl rfl rfl rfl rfl ?_ | refine r_yes tbOk rfl rfl rfl rfl rfl rfl ?_ | refine w_no rfl rfl (lookO_spec rfl) rfl rfl rfl ?_ | refine w_un rfl rfl (lookO_spec rfl) rfl rfl ?_) | ((with_reducible refine w_drw ?_); first | refine rx_q tbOk rfl rfl rfl rfl ?_ | refine rx_e tbOk rfl rfl rfl rfl rfl ?_ | refine rx_yes tbOk rfl rfl rfl rfl rfl rfl ?_ | refine x_no rfl rfl (lookO_spec rfl) rfl rfl rfl ?_ | refine x_un rfl rfl (lookO_spec rfl) rfl rfl ?_) | ((first | refine' w_q rfl rfl ?xa rfl ?_ | refine' v_q rfl rfl ?xa rfl ?_ | refine' w_yes rfl rfl (lookO_spec rfl) rfl ?xa rfl ?_ | refine' v_yes rfl rfl (lookO_spec rfl) rfl ?xa rfl ?_); case xa => exact k_call K rfl ⟨asA_agg (evO_spec rfl) ⟨cAr_r, cAr_r, cAr_r, cAr_r, cAr_r, trivial⟩, asA_r (evO_spec rfl), trivial⟩) | ((first | refine aw_ways rfl ?_ ?_ | refine r_split rfl rfl rfl ?_ ?_) <;> intro hg_ <;> fail_if_success (exact Bool.noConfusion hg_)) <;> (try simp only [prn] at hg_) <;> (try first | contradiction | (exfalso; omega)))
        all_goals first
          | (refine hfin _ ?_
             (refine weak_ren [] rfl ?_ ?_ <;> repeat' (first | exact trivial | refine subR_cons rfl ?_ ?_ | refine subHR_cons rfl ?_ ?_ | rfl | (refine d_int ?_; (first | rfl | omega | (rw [IntWalk.i64_in _ (by omega)] <;> omega) | (simp; done) | (simp; omega))) | (refine d_bool ?_; (first | (simp_all; done) | (rw [Bool.eq_iff_iff]; simp_all; done) | (rw [Bool.eq_iff_iff]; simp_all; omega) | (rw [Bool.eq_iff_iff]; simp; omega))))))
          | trace_state
      · obtain rfl : k = c.ps.length := by omega
        have hfin : ∀ s', Weak s' (mkS 27 [(2, .one (.ptr 2 0 0 0)), (1, .one (.ptr 1 0 0 0))] [(1, .var 40 (chV (!zf c.ps.length) (zf c.ps.length && nV) (zf c.ps.length && nG) (zf c.ps.length && nP) (zf c.ps.length && nR) (Ch.it 1 c.ps.length c))), zeroV 2]) → Weak s' (mkS 27 [(2, .one (.ptr 2 0 0 0)), (1, .one (.ptr 1 0 0 0))] [(1, .var 40 (chV m nV' nG' nP' nR' (Ch.packetsIn c))), zeroV 2]) := fun s' h => by rw [z1, z2, z3, z4, z5]; exact h
        dsimp only [chV, zeroV] at hfin ⊢
        clear K hp z1 z2 z3 z4 z5 hG2 hG3
        repeat' (first | (with_reducible first | refine aw_seq ?_ | refine thn_normal ?_ | refine thn_ret ?_ | refine thn_exit ?_ | refine blk_normal ?_ | refine blk_ret ?_ | refine blk_hit ?_ | refine blk_miss rfl ?_ | refine aw_block ?_ | refine aw_ret ?_ | refine aw_skip ?_ | refine aw_exit ?_ | refine w_nil ?_ | refine x_nil (by kernel_rfl) ?_) | refine aw_region ?_ | refine aw_region_draw (by kernel_rfl) ?_ | refine aw_yes rfl ?_ | refine aw_no rfl ?_ | ((with_reducible refine w_seq ?_); first | refine r_q tbOk rfl rfl rfl rfl ?_ | refine r_e tbOk rfl rfl rfl rfl rfl ?_ | refine r_yes tbOk rfl rfl rfl rfl rfl rfl ?_ | refine w_no rfl rfl (lookO_spec rfl) rfl rfl rfl ?_ | refine w_un rfl rfl (lookO_spec rfl) rfl rfl ?_) | ((with_reducible refine w_drw ?_); first | refine rx_q tbOk rfl rfl rfl rfl ?_ | refine rx_e tbOk rfl rfl rfl rfl rfl ?_ | refine rx_yes tbOk rfl rfl rfl rfl rfl rfl ?_ | refine x_no rfl rfl (lookO_spec rfl) rfl rfl rfl ?_ | refine x_un rfl rfl (lookO_spec rfl) rfl rfl ?_) | ((first | refine aw_ways rfl ?_ ?_ | refine r_split rfl rfl rfl ?_ ?_) <;> intro hg_ <;> fail_if_success (exact Bool.noConfusion hg_)) <;> (try simp only [prn] at hg_) <;> (try first | contradiction | (exfalso; omega)))
        all_goals first
          | (refine hfin _ ?_
             (refine weak_ren [] rfl ?_ ?_ <;> repeat' (first | exact trivial | refine subR_cons rfl ?_ ?_ | refine subHR_cons rfl ?_ ?_ | rfl | (refine d_int ?_; (first | rfl | omega | (rw [IntWalk.i64_in _ (by omega)] <;> omega) | (simp; done) | (simp; omega))) | (refine d_bool ?_; (first | (simp_all; done) | (rw [Bool.eq_iff_iff]; simp_all; done) | (rw [Bool.eq_iff_iff]; simp_all; omega) | (rw [Bool.eq_iff_iff]; simp; omega))))))
          | trace_state
  · clear z1 z2 z3 z4 z5
    unfold Ch.quiet Ch.receiptsIn at *
    generalize Ch.packetsIn c = e at *
    have hz : ∃ n nV2 nG2 nP2 nR2, (n = if e.rs.length = 0 then m else true) ∧ (nV2 = (zf e.rs.length && nV')) ∧ (nG2 = (zf e.rs.length && nG')) ∧ (nP2 = (zf e.rs.length && nP')) ∧ (nR2 = (zf e.rs.length && nR')) := ⟨_, _, _, _, _, rfl, rfl, rfl, rfl, rfl⟩
    obtain ⟨n, nV2, nG2, nP2, nR2, z1, z2, z3, z4, z5⟩ := hz
    refine aw_cut (mkS 27 [(2, .one (.ptr 2 0 0 0)), (1, .one (.ptr 1 0 0 0))] [(1, .var 40 (chV n nV2 nG2 nP2 nR2 (Ch.it 6 e.rs.length e))), zeroV 2]) ?_ ?_
    · refine aw_block ?_
      refine aw_loopI (fun k : Nat => k ≤ e.rs.length) (fun k => mkS 27 [(2, .one (.ptr 2 0 0 0)), (1, .one (.ptr 1 0 0 0))] [(1, .var 40 (chV (if k = 0 then m else true) (zf k && nV') (zf k && nG') (zf k && nP') (zf k && nR') (Ch.it 6 k e))), zeroV 2]) (fun k => e.rs.length - k) 0 (Nat.zero_le _) ?_ ?_
      · dsimp only [chV, zeroV]
        (refine weak_ren [] rfl ?_ ?_ <;> repeat' (first | exact trivial | refine subR_cons rfl ?_ ?_ | refine subHR_cons rfl ?_ ?_ | rfl | (refine d_int ?_; (first | rfl | omega | (rw [IntWalk.i64_in _ (by omega)] <;> omega) | (simp; done) | (simp; omega))) | (refine d_bool ?_; (first | (simp_all; done) | (rw [Bool.eq_iff_iff]; simp_all; done) | (rw [Bool.eq_iff_iff]; simp_all; omega) | (rw [Bool.eq_iff_iff]; simp; omega)))))
      · intro k hk
        have K := f_specStepV (zf k && nV') (zf k && nG') (zf k && nP') (zf k && nR') (Ch.it 6 k e) 6 (Ch.it_grow hG2 6 k).good
        have hp := (Ch.it_rs (s := 6) (.inl rfl) e k).1
        have hl : (ints (Ch.it 6 k e).rs).length = e.rs.length - k := by rw [ints_len, hp]; simp
        by_cases hlt : k < e.rs.length
        · clear hG2 hG3 hp z1 z2 z3 z4 z5
          have hfin : ∀ s', Weak s' (mkS 27 [(2, .one (.ptr 2 0 0 0)), (1, .one (.ptr 1 0 0 0))] [(1, .var 40 (chV true false false false false (Ch.step (Ch.it 6 k e) 6).1)), zeroV 2]) → ∃ x', x' ≤ e.rs.length ∧ Weak s' (mkS 27 [(2, .one (.ptr 2 0 0 0)), (1, .one (.ptr 1 0 0 0))] [(1, .var 40 (chV (if x' = 0 then m else true) (zf x' && nV') (zf x' && nG') (zf x' && nP') (zf x' && nR') (Ch.it 6 x' e))), zeroV 2]) ∧ e.rs.length - x' < e.rs.length - k := fun s' h => ⟨k + 1, hlt, h, by omega⟩
          dsimp only [chV, zeroV] at hfin ⊢
          generalize (Ch.step (Ch.it 6 k e) 6).1 = d' at *
          generalize (Ch.step (Ch.it 6 k e) 6).2 = b at *
          generalize Ch.it 6 k e = d at *
          generalize (if k = 0 then m else true) = m0 at *
          generalize (zf k && nV') = a1 at *
          generalize (zf k && nG') = a2 at *
          generalize (zf k && nP') = a3 at *
          generalize (zf k && nR') = a4 at *
          repeat' (first | (with_reducible first | refine aw_seq ?_ | refine thn_normal ?_ | refine thn_ret ?_ | refine thn_exit ?_ | refine blk_normal ?_ | refine blk_ret ?_ | refine blk_hit ?_ | refine blk_miss rfl ?_ | refine aw_block ?_ | refine aw_ret ?_ | refine aw_skip ?_ | refine aw_exit ?_ | refine w_nil ?_ | refine x_nil (by kernel_rfl) ?_) | refine aw_region ?_ | refine aw_region_draw (by kernel_rfl) ?_ | refine aw_yes rfl ?_ | refine aw_no rfl ?_ | ((with_reducible refine w_seq ?_); first | refine r_q tbOk rfl rfl rfl rfl ?_ | refine r_e tbOk rfl rfl rfl rfl rfl ?_ | refine r_yes tbOk rfl rfl rfl rfl rfl rfl ?_ | refine w_no rfl rfl (lookO_spec rfl) rfl rfl rfl ?_ | refine w_un rfl rfl (lookO_spec rfl) rfl rfl ?_) | ((with_reducible refine w_drw ?_); first | refine rx_q tbOk rfl rfl rfl rfl ?_ | refine rx_e tbOk rfl rfl rfl rfl rfl ?_ | refine rx_yes tbOk rfl rfl rfl rfl rfl rfl ?_ | refine x_no rfl rfl (lookO_spec rfl) rfl rfl rfl ?_ | refine x_un rfl rfl (lookO_spec rfl) rfl rfl ?_) | ((first | refine' w_q rfl rfl ?xa rfl ?_ | refine' v_q rfl rfl ?xa rfl ?_ | refine' w_yes rfl rfl (lookO_spec rfl) rfl ?xa rfl ?_ | refine' v_yes rfl rfl (lookO_spec rfl) rfl ?xa rfl ?_); case xa => exact k_call K rfl ⟨asA_agg (evO_spec rfl) ⟨cAr_r, cAr_r, cAr_r, cAr_r, cAr_r, trivial⟩, asA_r (evO_spec rfl), trivial⟩) | ((first | refine aw_ways rfl ?_ ?_ | refine r_split rfl rfl rfl ?_ ?_) <;> intro hg_ <;> fail_if_success (exact Bool.noConfusion hg_)) <;> (try simp only [prn] at hg_) <;> (try first | contradiction | (exfalso; omega)))
          all_goals first
            | (refine hfin _ ?_
               (refine weak_ren [] rfl ?_ ?_ <;> repeat' (first | exact trivial | refine subR_cons rfl ?_ ?_ | refine subHR_cons rfl ?_ ?_ | rfl | (refine d_int ?_; (first | rfl | omega | (rw [IntWalk.i64_in _ (by omega)] <;> omega) | (simp; done) | (simp; omega))) | (refine d_bool ?_; (first | (simp_all; done) | (rw [Bool.eq_iff_iff]; simp_all; done) | (rw [Bool.eq_iff_iff]; simp_all; omega) | (rw [Bool.eq_iff_iff]; simp; omega))))))
            | trace_state
        · obtain rfl : k = e.rs.length := by omega
          have hfin : ∀ s', Weak s' (mkS 27 [(2, .one (.ptr 2 0 0 0)), (1, .one (.ptr 1 0 0 0))] [(1, .var 40 (chV (if e.rs.length = 0 then m else true) (zf e.rs.length && nV') (zf e.rs.length && nG') (zf e.rs.length && nP') (zf e.rs.length && nR') (Ch.it 6 e.rs.length e))), zeroV 2]) → Weak s' (mkS 27 [(2, .one (.ptr 2 0 0 0)), (1, .one (.ptr 1 0 0 0))] [(1, .var 40 (chV n nV2 nG2 nP2 nR2 (Ch.it 6 e.rs.length e))), zeroV 2]) := fun s' h => by rw [z1, z2, z3, z4, z5]; exact h
          dsimp only [chV, zeroV] at hfin ⊢
          clear K hp z1 z2 z3 z4 z5 hG2 hG3
          repeat' (first | (with_reducible first | refine aw_seq ?_ | refine thn_normal ?_ | refine thn_ret ?_ | refine thn_exit ?_ | refine blk_normal ?_ | refine blk_ret ?_ | refine blk_hit ?_ | refine blk_miss rfl ?_ | refine aw_block ?_ | refine aw_ret ?_ | refine aw_skip ?_ | refine aw_exit ?_ | refine w_nil ?_ | refine x_nil (by kernel_rfl) ?_) | refine aw_region ?_ | refine aw_region_draw (by kernel_rfl) ?_ | refine aw_yes rfl ?_ | refine aw_no rfl ?_ | ((with_reducible refine w_seq ?_); first | refine r_q tbOk rfl rfl rfl rfl ?_ | refine r_e tbOk rfl rfl rfl rfl rfl ?_ | refine r_yes tbOk rfl rfl rfl rfl rfl rfl ?_ | refine w_no rfl rfl (lookO_spec rfl) rfl rfl rfl ?_ | refine w_un rfl rfl (lookO_spec rfl) rfl rfl ?_) | ((with_reducible refine w_drw ?_); first | refine rx_q tbOk rfl rfl rfl rfl ?_ | refine rx_e tbOk rfl rfl rfl rfl rfl ?_ | refine rx_yes tbOk rfl rfl rfl rfl rfl rfl ?_ | refine x_no rfl rfl (lookO_spec rfl) rfl rfl rfl ?_ | refine x_un rfl rfl (lookO_spec rfl) rfl rfl ?_) | ((first | refine aw_ways rfl ?_ ?_ | refine r_split rfl rfl rfl ?_ ?_) <;> intro hg_ <;> fail_if_success (exact Bool.noConfusion hg_)) <;> (try simp only [prn] at hg_) <;> (try first | contradiction | (exfalso; omega)))
          all_goals first
            | (refine hfin _ ?_
               (refine weak_ren [] rfl ?_ ?_ <;> repeat' (first | exact trivial | refine subR_cons rfl ?_ ?_ | refine subHR_cons rfl ?_ ?_ | rfl | (refine d_int ?_; (first | rfl | omega | (rw [IntWalk.i64_in _ (by omega)] <;> omega) | (simp; done) | (simp; omega))) | (refine d_bool ?_; (first | (simp_all; done) | (rw [Bool.eq_iff_iff]; simp_all; done) | (rw [Bool.eq_iff_iff]; simp_all; omega) | (rw [Bool.eq_iff_iff]; simp; omega))))))
            | trace_state
    · have K := f_l16V nV2 nG2 nP2 nR2 (Ch.it 6 e.rs.length e) hG3
      clear z1 z2 z3 z4 z5 hG2 hG3
      generalize Ch.it 6 e.rs.length e = d at *
      dsimp only [chV, zeroV]
      repeat' (first | (with_reducible first | refine aw_seq ?_ | refine thn_normal ?_ | refine thn_ret ?_ | refine thn_exit ?_ | refine blk_normal ?_ | refine blk_ret ?_ | refine blk_hit ?_ | refine blk_miss rfl ?_ | refine aw_block ?_ | refine aw_ret ?_ | refine aw_skip ?_ | refine aw_exit ?_ | refine w_nil ?_ | refine x_nil (by kernel_rfl) ?_) | refine aw_region ?_ | refine aw_region_draw (by kernel_rfl) ?_ | refine aw_yes rfl ?_ | refine aw_no rfl ?_ | ((with_reducible refine w_seq ?_); first | refine r_q tbOk rfl rfl rfl rfl ?_ | refine r_e tbOk rfl rfl rfl rfl rfl ?_ | refine r_yes tbOk rfl rfl rfl rfl rfl rfl ?_ | refine w_no rfl rfl (lookO_spec rfl) rfl rfl rfl ?_ | refine w_un rfl rfl (lookO_spec rfl) rfl rfl ?_) | ((with_reducible refine w_drw ?_); first | refine rx_q tbOk rfl rfl rfl rfl ?_ | refine rx_e tbOk rfl rfl rfl rfl rfl ?_ | refine rx_yes tbOk rfl rfl rfl rfl rfl rfl ?_ | refine x_no rfl rfl (lookO_spec rfl) rfl rfl rfl ?_ | refine x_un rfl rfl (lookO_spec rfl) rfl rfl ?_) | ((first | refine' w_q rfl rfl ?xa rfl ?_ | refine' v_q rfl rfl ?xa rfl ?_ | refine' w_yes rfl rfl (lookO_spec rfl) rfl ?xa rfl ?_ | refine' v_yes rfl rfl (lookO_spec rfl) rfl ?xa rfl ?_); case xa => exact k_call K rfl ⟨asA_agg (evO_spec rfl) ⟨cAr_r, cAr_r, cAr_r, cAr_r, cAr_r, trivial⟩, trivial⟩) | ((first | refine aw_ways rfl ?_ ?_ | refine r_split rfl rfl rfl ?_ ?_) <;> intro hg_ <;> fail_if_success (exact Bool.noConfusion hg_)) <;> (try simp only [prn] at hg_) <;> (try first | contradiction | (exfalso; omega)))
      all_goals first
        | exact ret_v (rv_cell rfl rfl (by (with_reducible first | exact ty3 | exact ty4 | exact ty5 | exact ty9 | exact ty17 | exact ty19 | exact ty22 | exact ty23 | exact ty25 | exact ty31 | exact ty38 | exact ty40 | exact ty54 | exact ty71 | exact ty75 | exact ty78 | exact ty82 | exact ty83)) rfl rfl rfl (dres_agg (by exact ⟨cres_new, cres_val, cres_new, cres_new, cres_new, trivial⟩)))
        | trace_state
set_option maxRecDepth 100000 in
set_option maxHeartbeats 4000000 in
theorem f_specRun (nV nG nP nR nS : Bool) (c : Ch) (xs : List Int) (hG : Ch.Good c) (hx : xs.length ≤ 200) :
    Fn Try.prog 30 [chP nV nG nP nR c, .one (row nS 1 (ints xs))] (.tup [chP false false false false (Ch.run c xs).1, iP ((Ch.run c xs).2 : Int)]) := by
  obtain ⟨h1, h2, h3, h4⟩ := hG.lens
  have hok := f_specChOk' nV nG nP nR c h1 h2 h3 h4
  rw [Ch.ok_iff.2 hG] at hok
  have hlen := ints_len xs
  refine fn_of (l := [.cell 4 40, .tmp 5]) Try.func30 (by kernel_rfl) rfl Try.ntmps30 rfl rfl ?_; simp only [argEnv, P0.d, Nat.reduceAdd, chP, List.map_cons, List.map_nil]
  refine aw_seq ?_
  repeat' (first | (with_reducible first | refine thn_normal ?_ | refine thn_ret ?_ | refine thn_exit ?_ | refine blk_normal ?_ | refine blk_ret ?_ | refine blk_hit ?_ | refine blk_miss rfl ?_ | refine aw_block ?_ | refine aw_ret ?_ | refine aw_skip ?_ | refine aw_exit ?_ | refine w_nil ?_ | refine x_nil (by kernel_rfl) ?_) | refine aw_region ?_ | refine aw_region_draw (by kernel_rfl) ?_ | refine aw_yes rfl ?_ | refine aw_no rfl ?_ | ((with_reducible refine w_seq ?_); first | refine r_q tbOk rfl rfl rfl rfl ?_ | refine r_e tbOk rfl rfl rfl rfl rfl ?_ | refine r_yes tbOk rfl rfl rfl rfl rfl rfl ?_ | refine w_no rfl rfl (lookO_spec rfl) rfl rfl rfl ?_ | refine w_un rfl rfl (lookO_spec rfl) rfl rfl ?_) | ((with_reducible refine w_drw ?_); first | refine rx_q tbOk rfl rfl rfl rfl ?_ | refine rx_e tbOk rfl rfl rfl rfl rfl ?_ | refine rx_yes tbOk rfl rfl rfl rfl rfl rfl ?_ | refine x_no rfl rfl (lookO_spec rfl) rfl rfl rfl ?_ | refine x_un rfl rfl (lookO_spec rfl) rfl rfl ?_) | ((first | refine aw_ways rfl ?_ ?_ | refine r_split rfl rfl rfl ?_ ?_) <;> intro hg_ <;> fail_if_success (exact Bool.noConfusion hg_)) <;> (try simp only [prn] at hg_) <;> (try first | contradiction | (exfalso; omega)))
  refine aw_seq ?_
  refine aw_seq ?_
  repeat' (first | (with_reducible first | refine thn_normal ?_ | refine thn_ret ?_ | refine thn_exit ?_ | refine blk_normal ?_ | refine blk_ret ?_ | refine blk_hit ?_ | refine blk_miss rfl ?_ | refine aw_block ?_ | refine aw_ret ?_ | refine aw_skip ?_ | refine aw_exit ?_ | refine w_nil ?_ | refine x_nil (by kernel_rfl) ?_) | refine aw_region ?_ | refine aw_region_draw (by kernel_rfl) ?_ | refine aw_yes rfl ?_ | refine aw_no rfl ?_ | ((with_reducible refine w_seq ?_); first | refine r_q tbOk rfl rfl rfl rfl ?_ | refine r_e tbOk rfl rfl rfl rfl rfl ?_ | refine r_yes tbOk rfl rfl rfl rfl rfl rfl ?_ | refine w_no rfl rfl (lookO_spec rfl) rfl rfl rfl ?_ | refine w_un rfl rfl (lookO_spec rfl) rfl rfl ?_) | ((with_reducible refine w_drw ?_); first | refine rx_q tbOk rfl rfl rfl rfl ?_ | refine rx_e tbOk rfl rfl rfl rfl rfl ?_ | refine rx_yes tbOk rfl rfl rfl rfl rfl rfl ?_ | refine x_no rfl rfl (lookO_spec rfl) rfl rfl rfl ?_ | refine x_un rfl rfl (lookO_spec rfl) rfl rfl ?_) | ((first | refine' w_q rfl rfl ?xa rfl ?_ | refine' v_q rfl rfl ?xa rfl ?_ | refine' w_yes rfl rfl (lookO_spec rfl) rfl ?xa rfl ?_ | refine' v_yes rfl rfl (lookO_spec rfl) rfl ?xa rfl ?_); case xa => exact k_call hok rfl ⟨asA_agg (evO_spec rfl) ⟨cAr_r, cAr_r, cAr_r, cAr_r, cAr_r, trivial⟩, trivial⟩) | ((first | refine aw_ways rfl ?_ ?_ | refine r_split rfl rfl rfl ?_ ?_) <;> intro hg_ <;> fail_if_success (exact Bool.noConfusion hg_)) <;> (try simp only [prn] at hg_) <;> (try first | contradiction | (exfalso; omega)))
  clear hok h1 h2 h3 h4
  repeat' (first | (with_reducible first | refine aw_seq ?_ | refine thn_normal ?_ | refine thn_ret ?_ | refine thn_exit ?_ | refine blk_normal ?_ | refine blk_ret ?_ | refine blk_hit ?_ | refine blk_miss rfl ?_ | refine aw_block ?_ | refine aw_ret ?_ | refine aw_skip ?_ | refine aw_exit ?_ | refine w_nil ?_ | refine x_nil (by kernel_rfl) ?_) | refine aw_region ?_ | refine aw_region_draw (by kernel_rfl) ?_ | refine aw_yes rfl ?_ | refine aw_no rfl ?_ | ((with_reducible refine w_seq ?_); first | refine r_q tbOk rfl rfl rfl rfl ?_ | refine r_e tbOk rfl rfl rfl rfl rfl ?_ | refine r_yes tbOk rfl rfl rfl rfl rfl rfl ?_ | refine w_no rfl rfl (lookO_spec rfl) rfl rfl rfl ?_ | refine w_un rfl rfl (lookO_spec rfl) rfl rfl ?_) | ((with_reducible refine w_drw ?_); first | refine rx_q tbOk rfl rfl rfl rfl ?_ | refine rx_e tbOk rfl rfl rfl rfl rfl ?_ | refine rx_yes tbOk rfl rfl rfl rfl rfl rfl ?_ | refine x_no rfl rfl (lookO_spec rfl) rfl rfl rfl ?_ | refine x_un rfl rfl (lookO_spec rfl) rfl rfl ?_) | ((first | refine aw_ways rfl ?_ ?_ | refine r_split rfl rfl rfl ?_ ?_) <;> intro hg_ <;> fail_if_success (exact Bool.noConfusion hg_)) <;> (try simp only [prn] at hg_) <;> (try first | contradiction | (exfalso; omega)))
  refine aw_loopI (fun k : Nat => k ≤ xs.length) (fun k => mkS 41 [(7, .one (.r true (int k))), (6, .one (.r true (int ((Ch.run c (xs.take k)).2 : Int)))), (4, .one (.ptr 4 0 0 0)), (2, .one (.ptr 2 0 0 0)), (1, .one (.r false (row nS 1 (ints xs))))] [(2, .var 40 (chV (!zf k) (zf k && nV) (zf k && nG) (zf k && nP) (zf k && nR) (Ch.run c (xs.take k)).1)), zeroV 4]) (fun k => xs.length - k) 0 (Nat.zero_le _) ?_ ?_
  · dsimp only [chV, zeroV]
    (refine weak_ren [] rfl ?_ ?_ <;> repeat' (first | exact trivial | refine subR_cons rfl ?_ ?_ | refine subHR_cons rfl ?_ ?_ | rfl | (refine d_int ?_; (first | rfl | omega | (rw [IntWalk.i64_in _ (by omega)] <;> omega) | (simp; done) | (simp; omega))) | (refine d_bool ?_; (first | (simp_all; done) | (rw [Bool.eq_iff_iff]; simp_all; done) | (rw [Bool.eq_iff_iff]; simp_all; omega) | (rw [Bool.eq_iff_iff]; simp; omega)))))
  · intro k hk
    have hg := Ch.run_grow hG (xs.take k)
    by_cases hlt : k < xs.length
    · have K := f_specStepV (zf k && nV) (zf k && nG) (zf k && nP) (zf k && nR) (Ch.run c (xs.take k)).1 (dV xs k) hg.1.good
      have hfin : ∀ (s' : St), Weak s' (mkS 41 [(7, .one (.r true (int ((k + 1 : Nat) : Int)))), (6, .one (.r true (int ((if (Ch.step (Ch.run c (xs.take k)).1 (dV xs k)).2 = true then (Ch.run c (xs.take k)).2 + 1 else (Ch.run c (xs.take k)).2 : Nat) : Int)))), (4, .one (.ptr 4 0 0 0)), (2, .one (.ptr 2 0 0 0)), (1, .one (.r false (row nS 1 (ints xs))))] [(2, .var 40 (chV true false false false false (Ch.step (Ch.run c (xs.take k)).1 (dV xs k)).1)), zeroV 4]) → ∃ x', x' ≤ xs.length ∧ Weak s' (mkS 41 [(7, .one (.r true (int (x' : Int)))), (6, .one (.r true (int ((Ch.run c (xs.take x')).2 : Int)))), (4, .one (.ptr 4 0 0 0)), (2, .one (.ptr 2 0 0 0)), (1, .one (.r false (row nS 1 (ints xs))))] [(2, .var 40 (chV (!zf x') (zf x' && nV) (zf x' && nG) (zf x' && nP) (zf x' && nR) (Ch.run c (xs.take x')).1)), zeroV 4]) ∧ xs.length - x' < xs.length - k := fun s' h => ⟨k + 1, hlt, by rw [run_take hlt]; exact h, by omega⟩
      have hn2 := hg.2
      rw [List.length_take] at hn2
      have hix : (ints xs)[(k : Int).toNat]? = some (iP (dV xs k)) := ints_atD (by omega) (by omega)
      have hw : IntKind.i64.wrap ((k : Int) + 1) = ((k + 1 : Nat) : Int) := by rw [IntWalk.i64_in _ (by omega)]; omega
      dsimp only [chV, zeroV] at hfin ⊢
      clear hg hG
      generalize dV xs k = v at *
      generalize (Ch.step (Ch.run c (xs.take k)).1 v).1 = d' at *
      generalize (Ch.step (Ch.run c (xs.take k)).1 v).2 = b at *
      generalize Ch.run c (xs.take k) = d at *
      generalize (!zf k) = m0 at *
      generalize (zf k && nV) = a1 at *
      generalize (zf k && nG) = a2 at *
      generalize (zf k && nP) = a3 at *
      generalize (zf k && nR) = a4 at *
      obtain ⟨d, N⟩ := d
      dsimp only at *
      have hw2 : IntKind.i64.wrap ((N : Int) + 1) = ((N + 1 : Nat) : Int) := by rw [IntWalk.i64_in _ (by omega)]; omega
      cases b
      all_goals
        simp only [if_true, if_false, Bool.false_eq_true] at hfin
        repeat' (first | (with_reducible first | refine aw_seq ?_ | refine thn_normal ?_ | refine thn_ret ?_ | refine thn_exit ?_ | refine blk_normal ?_ | refine blk_ret ?_ | refine blk_hit ?_ | refine blk_miss rfl ?_ | refine aw_block ?_ | refine aw_ret ?_ | refine aw_skip ?_ | refine aw_exit ?_ | refine w_nil ?_ | refine x_nil (by kernel_rfl) ?_) | refine aw_region ?_ | refine aw_region_draw (by kernel_rfl) ?_ | refine aw_yes rfl ?_ | refine aw_no rfl ?_ | ((with_reducible refine w_seq ?_); first | refine r_q tbOk rfl rfl rfl rfl ?_ | refine r_e tbOk rfl rfl rfl rfl rfl ?_ | refine r_yes tbOk rfl rfl rfl rfl rfl rfl ?_ | refine w_no rfl rfl (lookO_spec rfl) rfl rfl rfl ?_ | refine w_un rfl rfl (lookO_spec rfl) rfl rfl ?_) | ((with_reducible refine w_drw ?_); first | refine rx_q tbOk rfl rfl rfl rfl ?_ | refine rx_e tbOk rfl rfl rfl rfl rfl ?_ | refine rx_yes tbOk rfl rfl rfl rfl rfl rfl ?_ | refine x_no rfl rfl (lookO_spec rfl) rfl rfl rfl ?_ | refine x_un rfl rfl (lookO_spec rfl) rfl rfl ?_) | ((first | refine' w_q rfl rfl ?xa rfl ?_ | refine' v_q rfl rfl ?xa rfl ?_ | refine' w_yes rfl rfl (lookO_spec rfl) rfl ?xa rfl ?_ | refine' v_yes rfl rfl (lookO_spec rfl) rfl ?xa rfl ?_); case xa => first | exact k_index tbOk rfl rfl rfl rfl (by omega) (by exact hix) | exact k_call K rfl ⟨asA_agg (evO_spec rfl) ⟨cAr_r, cAr_r, cAr_r, cAr_r, cAr_r, trivial⟩, asA_r (evO_spec rfl), trivial⟩) | ((first | refine aw_ways rfl ?_ ?_ | refine r_split rfl rfl rfl ?_ ?_) <;> intro hg_ <;> fail_if_success (exact Bool.noConfusion hg_)) <;> (try simp only [prn] at hg_) <;> (try first | contradiction | (exfalso; omega)))
        all_goals first
          | (refine hfin _ ?_
             (refine weak_ren [] rfl ?_ ?_ <;> repeat' (first | exact trivial | refine subR_cons rfl ?_ ?_ | refine subHR_cons rfl ?_ ?_ | rfl | (refine d_int ?_; (first | rfl | omega | (rw [IntWalk.i64_in _ (by omega)] <;> omega) | (simp; done) | (simp; omega))) | (refine d_bool ?_; (first | (simp_all; done) | (rw [Bool.eq_iff_iff]; simp_all; done) | (rw [Bool.eq_iff_iff]; simp_all; omega) | (rw [Bool.eq_iff_iff]; simp; omega))) | exact d_int hw | exact d_int hw2)))
          | trace_state
    · obtain rfl : k = xs.length := by omega
      have K := f_l16V (zf xs.length && nV) (zf xs.length && nG) (zf xs.length && nP) (zf xs.length && nR) (Ch.run c (xs.take xs.length)).1 hg.1.good
      rw [List.take_length] at *
      clear hg hG
      generalize Ch.run c xs = d at *
      obtain ⟨d, N⟩ := d
      dsimp only [chV, zeroV] at *
      repeat' (first | (with_reducible first | refine aw_seq ?_ | refine thn_normal ?_ | refine thn_ret ?_ | refine thn_exit ?_ | refine blk_normal ?_ | refine blk_ret ?_ | refine blk_hit ?_ | refine blk_miss rfl ?_ | refine aw_block ?_ | refine aw_ret ?_ | refine aw_skip ?_ | refine aw_exit ?_ | refine w_nil ?_ | refine x_nil (by kernel_rfl) ?_) | refine aw_region ?_ | refine aw_region_draw (by kernel_rfl) ?_ | refine aw_yes rfl ?_ | refine aw_no rfl ?_ | ((with_reducible refine w_seq ?_); first | refine r_q tbOk rfl rfl rfl rfl ?_ | refine r_e tbOk rfl rfl rfl rfl rfl ?_ | refine r_yes tbOk rfl rfl rfl rfl rfl rfl ?_ | refine w_no rfl rfl (lookO_spec rfl) rfl rfl rfl ?_ | refine w_un rfl rfl (lookO_spec rfl) rfl rfl ?_) | ((with_reducible refine w_drw ?_); first | refine rx_q tbOk rfl rfl rfl rfl ?_ | refine rx_e tbOk rfl rfl rfl rfl rfl ?_ | refine rx_yes tbOk rfl rfl rfl rfl rfl rfl ?_ | refine x_no rfl rfl (lookO_spec rfl) rfl rfl rfl ?_ | refine x_un rfl rfl (lookO_spec rfl) rfl rfl ?_) | ((first | refine' w_q rfl rfl ?xa rfl ?_ | refine' v_q rfl rfl ?xa rfl ?_ | refine' w_yes rfl rfl (lookO_spec rfl) rfl ?xa rfl ?_ | refine' v_yes rfl rfl (lookO_spec rfl) rfl ?xa rfl ?_); case xa => exact k_call K rfl ⟨asA_agg (evO_spec rfl) ⟨cAr_r, cAr_r, cAr_r, cAr_r, cAr_r, trivial⟩, trivial⟩) | ((first | refine aw_ways rfl ?_ ?_ | refine r_split rfl rfl rfl ?_ ?_) <;> intro hg_ <;> fail_if_success (exact Bool.noConfusion hg_)) <;> (try simp only [prn] at hg_) <;> (try first | contradiction | (exfalso; omega)))
      all_goals first
        | exact ret_2 (rv_cell rfl rfl (by (with_reducible first | exact ty3 | exact ty4 | exact ty5 | exact ty9 | exact ty17 | exact ty19 | exact ty22 | exact ty23 | exact ty25 | exact ty31 | exact ty38 | exact ty40 | exact ty54 | exact ty71 | exact ty75 | exact ty78 | exact ty82 | exact ty83)) rfl rfl rfl (dres_agg (by exact ⟨cres_new, cres_val, cres_new, cres_new, cres_new, trivial⟩))) (rv_tmp rfl (dres_int rfl))
        | trace_state
end Go.Proofs.Ytjjeihcmiofkmaa.Abs
