/- Channels by states: ChannelFinish of the reference; what DrawChannelQuiet, DrawChannelRun and DrawChannelDone draw; what the five further laws lean on. No statement of the seat is proved here. -/
import Derived.Test.YtjjeihcmiofkmaaTy
import Derived.Lib.Hide
import Derived.Test.YtjjeihcmiofkmaaAChD
import Derived.Test.YtjjeihcmiofkmaaAChH
import Derived.Test.YtjjeihcmiofkmaaAFinI
import Derived.Test.YtjjeihcmiofkmaaAChL
import Derived.Test.YtjjeihcmiofkmaaAChA
set_option linter.unusedSimpArgs false
set_option linter.unusedVariables false
namespace Go.Proofs.Ytjjeihcmiofkmaa.Abs
open Go.RowKit
open R (val row ref)

set_option maxRecDepth 100000 in
set_option maxHeartbeats 4000000 in
theorem f_specFinish (nV nG nP nR : Bool) (c : Ch) (n : Nat) (hG : Ch.Good c) (hn40 : n ≤ 40) (hend : (Ch.rounds n (Ch.quiet c)).kn = (Ch.rounds n (Ch.quiet c)).vs.length) (hbef : ∀ k, k < n → (Ch.rounds k (Ch.quiet c)).kn ≠ (Ch.rounds k (Ch.quiet c)).vs.length) :
    Fn Try.prog 57 [chP nV nG nP nR c] (.tup [chP false false false false (Ch.rounds n (Ch.quiet c)), iP (n : Int)]) := by
  obtain ⟨h1, h2, h3, h4⟩ := hG.lens
  have hok := f_specChOk' false false false false c h1 h2 h3 h4
  rw [Ch.ok_iff.2 hG] at hok
  have K1 := f_ownCh nV nG nP nR c h1 h2 h3 h4
  have K2 := f_specQuiet false false false false c hG
  have hQ := Ch.quiet_facts hG
  refine fn_of (l := [.cell 2 40, .tmp 3]) Try.func57 (by kernel_rfl) rfl Try.ntmps57 rfl rfl ?_; simp only [argEnv, P0.d, Nat.reduceAdd, chP, List.map_cons, List.map_nil]
  clear h1 h2 h3 h4
  repeat' (first | (with_reducible first | refine aw_seq ?_ | refine thn_normal ?_ | refine thn_ret ?_ | refine thn_exit ?_ | refine blk_normal ?_ | refine blk_ret ?_ | refine blk_hit ?_ | refine blk_miss rfl ?_ | refine aw_block ?_ | refine aw_ret ?_ | refine aw_skip ?_ | refine aw_exit ?_ | refine w_nil ?_ | refine x_nil (by kernel_rfl) ?_) | refine aw_region ?_ | refine aw_region_draw (by kernel_rfl) ?_ | refine aw_yes rfl ?_ | refine aw_no rfl ?_ | ((with_reducible refine w_seq ?_); first | refine r_q tbOk rfl rfl rfl rfl ?_ | refine r_e tbOk rfl rfl rfl rfl rfl ?_ | refine r_yes tbOk rfl rfl rfl rfl rfl rfl ?_ | refine w_no rfl rfl (lookO_spec rfl) rfl rfl rfl ?_ | refine w_un rfl rfl (lookO_spec rfl) rfl rfl ?_) | ((with_reducible refine w_drw ?_); first | refine rx_q tbOk rfl rfl rfl rfl ?_ | refine rx_e tbOk rfl rfl rfl rfl rfl ?_ | refine rx_yes tbOk rfl rfl rfl rfl rfl rfl ?_ | refine x_no rfl rfl (lookO_spec rfl) rfl rfl rfl ?_ | refine x_un rfl rfl (lookO_spec rfl) rfl rfl ?_) | ((first | refine' w_q rfl rfl ?xa rfl ?_ | refine' v_q rfl rfl ?xa rfl ?_ | refine' w_yes rfl rfl (lookO_spec rfl) rfl ?xa rfl ?_ | refine' v_yes rfl rfl (lookO_spec rfl) rfl ?xa rfl ?_); case xa => first | exact k_call hok rfl ⟨asA_agg (evO_spec rfl) ⟨cAr_r, cAr_r, cAr_r, cAr_r, cAr_r, trivial⟩, trivial⟩ | exact k_call K1 rfl ⟨asA_agg (evO_spec rfl) ⟨cAr_r, cAr_r, cAr_r, cAr_r, cAr_r, trivial⟩, trivial⟩ | exact k_call K2 rfl ⟨asA_agg (evO_spec rfl) ⟨cAr_r, cAr_r, cAr_r, cAr_r, cAr_r, trivial⟩, trivial⟩) | ((first | refine aw_ways rfl ?_ ?_ | refine r_split rfl rfl rfl ?_ ?_) <;> intro hg_ <;> fail_if_success (exact Bool.noConfusion hg_)) <;> (try simp only [prn] at hg_) <;> (try first | contradiction | (exfalso; omega)))
  have hG2 := hQ.1.good
  have hps := hQ.2.1
  have hrs := hQ.2.2.1
  clear hQ hok K1 K2
  generalize Ch.quiet c = q at *
  refine aw_loopI (fun k : Nat => k ≤ n) (fun k => mkS 37 [(4, .one (.r true (int (k : Int)))), (2, .one (.ptr 2 0 0 0)), (1, .one (.ptr 1 0 0 0))] [(1, .var 40 (chV true false false false false (Ch.rounds k q))), zeroV 2]) (fun k => n - k) 0 (Nat.zero_le _) ?_ ?_
  · dsimp only [chV, zeroV]
    (refine weak_ren [] rfl ?_ ?_ <;> repeat' (first | exact trivial | refine subR_cons rfl ?_ ?_ | refine subHR_cons rfl ?_ ?_ | rfl | (refine d_int ?_; (first | rfl | omega | (rw [IntWalk.i64_in _ (by omega)] <;> omega) | (simp; done) | (simp; omega))) | (refine d_bool ?_; (first | (simp_all; done) | (rw [Bool.eq_iff_iff]; simp_all; done) | (rw [Bool.eq_iff_iff]; simp_all; omega) | (rw [Bool.eq_iff_iff]; simp; omega)))))
  · intro k hk
    have hg := Ch.rounds_grow hG2 hps hrs k
    have hl := hg.1.good.lens
    have KD := f_specDone false false false false (Ch.rounds k q) hl.1 hl.2.1 hl.2.2.1 hl.2.2.2
    rw [Ch.ok_iff.2 hg.1.good, Bool.true_and] at KD
    by_cases hlt : k < n
    · rw [decide_eq_false (hbef k hlt)] at KD
      have K5 := f_specStepV false false false false (Ch.rounds k q) 5 hg.1.good
      have K6 := f_specStepV false false false false (m5 (Ch.rounds k q)) 6 (m5_good hg.1.good)
      have K0 := f_specStepV false false false false (m6 (Ch.rounds k q)) 0 (m6_good hg.1.good)
      have KQ := f_specQuiet false false false false (m0 (Ch.rounds k q)) (m0_good hg.1.good)
      have hw : IntKind.i64.wrap ((k : Int) + 1) = ((k + 1 : Nat) : Int) := by rw [IntWalk.i64_in _ (by omega)]; omega
      change Fn _ _ _ (.tup [chP false false false false (m5 (Ch.rounds k q)), _]) at K5
      change Fn _ _ _ (.tup [chP false false false false (m6 (Ch.rounds k q)), _]) at K6
      change Fn _ _ _ (.tup [chP false false false false (m0 (Ch.rounds k q)), _]) at K0
      change Fn _ _ _ (.v (chP false false false false (Ch.rounds (k + 1) q))) at KQ
      have hfin : ∀ s', Weak s' (mkS 37 [(4, .one (.r true (int ((k + 1 : Nat) : Int)))), (2, .one (.ptr 2 0 0 0)), (1, .one (.ptr 1 0 0 0))] [(1, .var 40 (chV true false false false false (Ch.rounds (k + 1) q))), zeroV 2]) → ∃ x', x' ≤ n ∧ Weak s' (mkS 37 [(4, .one (.r true (int (x' : Int)))), (2, .one (.ptr 2 0 0 0)), (1, .one (.ptr 1 0 0 0))] [(1, .var 40 (chV true false false false false (Ch.rounds x' q))), zeroV 2]) ∧ n - x' < n - k := fun s' h => ⟨k + 1, hlt, h, by omega⟩
      clear hg hl hend hbef hG2 hps hrs
      dsimp only [chV, zeroV] at hfin ⊢
      generalize (Ch.step (m6 (Ch.rounds k q)) 0).2 = b0 at *
      generalize (Ch.step (m5 (Ch.rounds k q)) 6).2 = b6 at *
      generalize (Ch.step (Ch.rounds k q) 5).2 = b5 at *
      generalize m0 (Ch.rounds k q) = d0 at *
      generalize m6 (Ch.rounds k q) = d6 at *
      generalize m5 (Ch.rounds k q) = d5 at *
      generalize Ch.rounds (k + 1) q = d' at *
      generalize Ch.rounds k q = d at *
      repeat' (first | (with_reducible first | refine aw_seq ?_ | refine thn_normal ?_ | refine thn_ret ?_ | refine thn_exit ?_ | refine blk_normal ?_ | refine blk_ret ?_ | refine blk_hit ?_ | refine blk_miss rfl ?_ | refine aw_block ?_ | refine aw_ret ?_ | refine aw_skip ?_ | refine aw_exit ?_ | refine w_nil ?_ | refine x_nil (by kernel_rfl) ?_) | refine aw_region ?_ | refine aw_region_draw (by kernel_rfl) ?_ | refine aw_yes rfl ?_ | refine aw_no rfl ?_ | ((with_reducible refine w_seq ?_); first | refine r_q tbOk rfl rfl rfl rfl ?_ | refine r_e tbOk rfl rfl rfl rfl rfl ?_ | refine r_yes tbOk rfl rfl rfl rfl rfl rfl ?_ | refine w_no rfl rfl (lookO_spec rfl) rfl rfl rfl ?_ | refine w_un rfl rfl (lookO_spec rfl) rfl rfl ?_) | ((with_reducible refine w_drw ?_); first | refine rx_q tbOk rfl rfl rfl rfl ?_ | refine rx_e tbOk rfl rfl rfl rfl rfl ?_ | refine rx_yes tbOk rfl rfl rfl rfl rfl rfl ?_ | refine x_no rfl rfl (lookO_spec rfl) rfl rfl rfl ?_ | refine x_un rfl rfl (lookO_spec rfl) rfl rfl ?_) | ((first | refine' w_q rfl rfl ?xa rfl ?_ | refine' v_q rfl rfl ?xa rfl ?_ | refine' w_yes rfl rfl (lookO_spec rfl) rfl ?xa rfl ?_ | refine' v_yes rfl rfl (lookO_spec rfl) rfl ?xa rfl ?_); case xa => first | exact k_call KD rfl ⟨asA_agg (evO_spec rfl) ⟨cAr_r, cAr_r, cAr_r, cAr_r, cAr_r, trivial⟩, trivial⟩ | exact k_call K5 rfl ⟨asA_agg (evO_spec rfl) ⟨cAr_r, cAr_r, cAr_r, cAr_r, cAr_r, trivial⟩, asA_r (evO_spec rfl), trivial⟩ | exact k_call K6 rfl ⟨asA_agg (evO_spec rfl) ⟨cAr_r, cAr_r, cAr_r, cAr_r, cAr_r, trivial⟩, asA_r (evO_spec rfl), trivial⟩ | exact k_call K0 rfl ⟨asA_agg (evO_spec rfl) ⟨cAr_r, cAr_r, cAr_r, cAr_r, cAr_r, trivial⟩, asA_r (evO_spec rfl), trivial⟩ | exact k_call KQ rfl ⟨asA_agg (evO_spec rfl) ⟨cAr_r, cAr_r, cAr_r, cAr_r, cAr_r, trivial⟩, trivial⟩) | ((first | refine aw_ways rfl ?_ ?_ | refine r_split rfl rfl rfl ?_ ?_) <;> intro hg_ <;> fail_if_success (exact Bool.noConfusion hg_)) <;> (try simp only [prn] at hg_) <;> (try first | contradiction | (exfalso; omega)))
      all_goals first
        | (refine hfin _ ?_
           (refine weak_ren [] rfl ?_ ?_ <;> repeat' (first | exact trivial | refine subR_cons rfl ?_ ?_ | refine subHR_cons rfl ?_ ?_ | rfl | (refine d_int ?_; (first | rfl | omega | (rw [IntWalk.i64_in _ (by omega)] <;> omega) | (simp; done) | (simp; omega))) | (refine d_bool ?_; (first | (simp_all; done) | (rw [Bool.eq_iff_iff]; simp_all; done) | (rw [Bool.eq_iff_iff]; simp_all; omega) | (rw [Bool.eq_iff_iff]; simp; omega))) | exact d_int hw)))
        | trace_state
    · obtain rfl : k = n := by omega
      rw [decide_eq_true hend] at KD
      clear hg hl hend hbef hG2 hps hrs
      generalize Ch.rounds k q = d at *
      dsimp only [chV, zeroV]
      repeat' (first | (with_reducible first | refine aw_seq ?_ | refine thn_normal ?_ | refine thn_ret ?_ | refine thn_exit ?_ | refine blk_normal ?_ | refine blk_ret ?_ | refine blk_hit ?_ | refine blk_miss rfl ?_ | refine aw_block ?_ | refine aw_ret ?_ | refine aw_skip ?_ | refine aw_exit ?_ | refine w_nil ?_ | refine x_nil (by kernel_rfl) ?_) | refine aw_region ?_ | refine aw_region_draw (by kernel_rfl) ?_ | refine aw_yes rfl ?_ | refine aw_no rfl ?_ | ((with_reducible refine w_seq ?_); first | refine r_q tbOk rfl rfl rfl rfl ?_ | refine r_e tbOk rfl rfl rfl rfl rfl ?_ | refine r_yes tbOk rfl rfl rfl rfl rfl rfl ?_ | refine w_no rfl rfl (lookO_spec rfl) rfl rfl rfl ?_ | refine w_un rfl rfl (lookO_spec rfl) rfl rfl ?_) | ((with_reducible refine w_drw ?_); first | refine rx_q tbOk rfl rfl rfl rfl ?_ | refine rx_e tbOk rfl rfl rfl rfl rfl ?_ | refine rx_yes tbOk rfl rfl rfl rfl rfl rfl ?_ | refine x_no rfl rfl (lookO_spec rfl) rfl rfl rfl ?_ | refine x_un rfl rfl (lookO_spec rfl) rfl rfl ?_) | ((first | refine' w_q rfl rfl ?xa rfl ?_ | refine' v_q rfl rfl ?xa rfl ?_ | refine' w_yes rfl rfl (lookO_spec rfl) rfl ?xa rfl ?_ | refine' v_yes rfl rfl (lookO_spec rfl) rfl ?xa rfl ?_); case xa => exact k_call KD rfl ⟨asA_agg (evO_spec rfl) ⟨cAr_r, cAr_r, cAr_r, cAr_r, cAr_r, trivial⟩, trivial⟩) | ((first | refine aw_ways rfl ?_ ?_ | refine r_split rfl rfl rfl ?_ ?_) <;> intro hg_ <;> fail_if_success (exact Bool.noConfusion hg_)) <;> (try simp only [prn] at hg_) <;> (try first | contradiction | (exfalso; omega)))
      all_goals first
        | exact ret_2 (rv_cell rfl rfl (by (with_reducible first | exact ty3 | exact ty4 | exact ty5 | exact ty9 | exact ty17 | exact ty19 | exact ty22 | exact ty23 | exact ty25 | exact ty31 | exact ty38 | exact ty40 | exact ty54 | exact ty71 | exact ty75 | exact ty78 | exact ty82 | exact ty83)) rfl rfl rfl (dres_agg (by exact ⟨cres_new, cres_val, cres_new, cres_new, cres_new, trivial⟩))) (rv_tmp rfl (dres_int rfl))
        | trace_state
set_option maxRecDepth 100000 in
set_option maxHeartbeats 4000000 in
theorem f_specFinishNo (nV nG nP nR : Bool) (c : Ch) (ho : Ch.ok c = false) (h1 : c.vs.length ≤ 1048576) (h2 : c.got.length ≤ 1048576) (h3 : c.ps.length ≤ 1048576) (h4 : c.rs.length ≤ 1048576) :
    Fn Try.prog 57 [chP nV nG nP nR c] (.tup [chP true true true true zeroCh, iP (-1)]) := by
  have hok := f_specChOk' false false false false c h1 h2 h3 h4
  rw [ho] at hok
  have K1 := f_ownCh nV nG nP nR c h1 h2 h3 h4
  refine fn_of (l := [.cell 2 40, .tmp 3]) Try.func57 (by kernel_rfl) rfl Try.ntmps57 rfl rfl ?_; simp only [argEnv, P0.d, Nat.reduceAdd, chP, List.map_cons, List.map_nil]
  repeat' (first | (with_reducible first | refine aw_seq ?_ | refine thn_normal ?_ | refine thn_ret ?_ | refine thn_exit ?_ | refine blk_normal ?_ | refine blk_ret ?_ | refine blk_hit ?_ | refine blk_miss rfl ?_ | refine aw_block ?_ | refine aw_ret ?_ | refine aw_skip ?_ | refine aw_exit ?_ | refine w_nil ?_ | refine x_nil (by kernel_rfl) ?_) | refine aw_region ?_ | refine aw_region_draw (by kernel_rfl) ?_ | refine aw_yes rfl ?_ | refine aw_no rfl ?_ | ((with_reducible refine w_seq ?_); first | refine r_q tbOk rfl rfl rfl rfl ?_ | refine r_e tbOk rfl rfl rfl rfl rfl ?_ | refine r_yes tbOk rfl rfl rfl rfl rfl rfl ?_ | refine w_no rfl rfl (lookO_spec rfl) rfl rfl rfl ?_ | refine w_un rfl rfl (lookO_spec rfl) rfl rfl ?_) | ((with_reducible refine w_drw ?_); first | refine rx_q tbOk rfl rfl rfl rfl ?_ | refine rx_e tbOk rfl rfl rfl rfl rfl ?_ | refine rx_yes tbOk rfl rfl rfl rfl rfl rfl ?_ | refine x_no rfl rfl (lookO_spec rfl) rfl rfl rfl ?_ | refine x_un rfl rfl (lookO_spec rfl) rfl rfl ?_) | ((first | refine' w_q rfl rfl ?xa rfl ?_ | refine' v_q rfl rfl ?xa rfl ?_ | refine' w_yes rfl rfl (lookO_spec rfl) rfl ?xa rfl ?_ | refine' v_yes rfl rfl (lookO_spec rfl) rfl ?xa rfl ?_); case xa => first | exact k_call hok rfl ⟨asA_agg (evO_spec rfl) ⟨cAr_r, cAr_r, cAr_r, cAr_r, cAr_r, trivial⟩, trivial⟩ | exact k_call K1 rfl ⟨asA_agg (evO_spec rfl) ⟨cAr_r, cAr_r, cAr_r, cAr_r, cAr_r, trivial⟩, trivial⟩) | ((first | refine aw_ways rfl ?_ ?_ | refine r_split rfl rfl rfl ?_ ?_) <;> intro hg_ <;> fail_if_success (exact Bool.noConfusion hg_)) <;> (try simp only [prn] at hg_) <;> (try first | contradiction | (exfalso; omega)))
  all_goals first
    | exact ret_2 (rv_cell rfl rfl (by (with_reducible first | exact ty3 | exact ty4 | exact ty5 | exact ty9 | exact ty17 | exact ty19 | exact ty22 | exact ty23 | exact ty25 | exact ty31 | exact ty38 | exact ty40 | exact ty54 | exact ty71 | exact ty75 | exact ty78 | exact ty82 | exact ty83)) rfl rfl rfl (dres_agg (by exact ⟨cres_nil, cres_val, cres_nil, cres_nil, cres_nil, trivial⟩))) (rv_tmp rfl (dres_int rfl))
    | trace_state
set_option maxRecDepth 100000 in
set_option maxHeartbeats 4000000 in
theorem f_specQuietNo (nV nG nP nR : Bool) (c : Ch) (ho : Ch.ok c = false) (h1 : c.vs.length ≤ 1048576) (h2 : c.got.length ≤ 1048576) (h3 : c.ps.length ≤ 1048576) (h4 : c.rs.length ≤ 1048576) :
    Fn Try.prog 26 [chP nV nG nP nR c] (.v (chP true true true true zeroCh)) := by
  have hok := f_specChOk' nV nG nP nR c h1 h2 h3 h4
  rw [ho] at hok
  refine fn_of (l := [.cell 2 40]) Try.func26 (by kernel_rfl) rfl Try.ntmps26 rfl rfl ?_; simp only [argEnv, P0.d, Nat.reduceAdd, chP, List.map_cons, List.map_nil]
  repeat' (first | (with_reducible first | refine aw_seq ?_ | refine thn_normal ?_ | refine thn_ret ?_ | refine thn_exit ?_ | refine blk_normal ?_ | refine blk_ret ?_ | refine blk_hit ?_ | refine blk_miss rfl ?_ | refine aw_block ?_ | refine aw_ret ?_ | refine aw_skip ?_ | refine aw_exit ?_ | refine w_nil ?_ | refine x_nil (by kernel_rfl) ?_) | refine aw_region ?_ | refine aw_region_draw (by kernel_rfl) ?_ | refine aw_yes rfl ?_ | refine aw_no rfl ?_ | ((with_reducible refine w_seq ?_); first | refine r_q tbOk rfl rfl rfl rfl ?_ | refine r_e tbOk rfl rfl rfl rfl rfl ?_ | refine r_yes tbOk rfl rfl rfl rfl rfl rfl ?_ | refine w_no rfl rfl (lookO_spec rfl) rfl rfl rfl ?_ | refine w_un rfl rfl (lookO_spec rfl) rfl rfl ?_) | ((with_reducible refine w_drw ?_); first | refine rx_q tbOk rfl rfl rfl rfl ?_ | refine rx_e tbOk rfl rfl rfl rfl rfl ?_ | refine rx_yes tbOk rfl rfl rfl rfl rfl rfl ?_ | refine x_no rfl rfl (lookO_spec rfl) rfl rfl rfl ?_ | refine x_un rfl rfl (lookO_spec rfl) rfl rfl ?_) | ((first | refine' w_q rfl rfl ?xa rfl ?_ | refine' v_q rfl rfl ?xa rfl ?_ | refine' w_yes rfl rfl (lookO_spec rfl) rfl ?xa rfl ?_ | refine' v_yes rfl rfl (lookO_spec rfl) rfl ?xa rfl ?_); case xa => exact k_call hok rfl ⟨asA_agg (evO_spec rfl) ⟨cAr_r, cAr_r, cAr_r, cAr_r, cAr_r, trivial⟩, trivial⟩) | ((first | refine aw_ways rfl ?_ ?_ | refine r_split rfl rfl rfl ?_ ?_) <;> intro hg_ <;> fail_if_success (exact Bool.noConfusion hg_)) <;> (try simp only [prn] at hg_) <;> (try first | contradiction | (exfalso; omega)))
  all_goals first
    | exact ret_v (rv_cell rfl rfl (by (with_reducible first | exact ty3 | exact ty4 | exact ty5 | exact ty9 | exact ty17 | exact ty19 | exact ty22 | exact ty23 | exact ty25 | exact ty31 | exact ty38 | exact ty40 | exact ty54 | exact ty71 | exact ty75 | exact ty78 | exact ty82 | exact ty83)) rfl rfl rfl (dres_agg (by exact ⟨cres_nil, cres_val, cres_nil, cres_nil, cres_nil, trivial⟩)))
    | trace_state
set_option maxRecDepth 100000 in
set_option maxHeartbeats 4000000 in
theorem f_specRunNo (nV nG nP nR nS : Bool) (c : Ch) (xs : List Int) (ho : Ch.ok c = false ∨ xs.length > 200) (h1 : c.vs.length ≤ 1048576) (h2 : c.got.length ≤ 1048576) (h3 : c.ps.length ≤ 1048576) (h4 : c.rs.length ≤ 1048576) :
    Fn Try.prog 30 [chP nV nG nP nR c, .one (row nS 1 (ints xs))] (.tup [chP true true true true zeroCh, iP (-1)]) := by
  have hok := f_specChOk' nV nG nP nR c h1 h2 h3 h4
  have hlen := ints_len xs
  cases hb : Ch.ok c <;> rw [hb] at hok ho
  all_goals
    refine fn_of (l := [.cell 4 40, .tmp 5]) Try.func30 (by kernel_rfl) rfl Try.ntmps30 rfl rfl ?_; simp only [argEnv, P0.d, Nat.reduceAdd, chP, List.map_cons, List.map_nil]
    refine aw_seq ?_
    repeat' (first | (with_reducible first | refine thn_normal ?_ | refine thn_ret ?_ | refine thn_exit ?_ | refine blk_normal ?_ | refine blk_ret ?_ | refine blk_hit ?_ | refine blk_miss rfl ?_ | refine aw_block ?_ | refine aw_ret ?_ | refine aw_skip ?_ | refine aw_exit ?_ | refine w_nil ?_ | refine x_nil (by kernel_rfl) ?_) | refine aw_region ?_ | refine aw_region_draw (by kernel_rfl) ?_ | refine aw_yes rfl ?_ | refine aw_no rfl ?_ | ((with_reducible refine w_seq ?_); first | refine r_q tbOk rfl rfl rfl rfl ?_ | refine r_e tbOk rfl rfl rfl rfl rfl ?_ | refine r_yes tbOk rfl rfl rfl rfl rfl rfl ?_ | refine w_no rfl rfl (lookO_spec rfl) rfl rfl rfl ?_ | refine w_un rfl rfl (lookO_spec rfl) rfl rfl ?_) | ((with_reducible refine w_drw ?_); first | refine rx_q tbOk rfl rfl rfl rfl ?_ | refine rx_e tbOk rfl rfl rfl rfl rfl ?_ | refine rx_yes tbOk rfl rfl rfl rfl rfl rfl ?_ | refine x_no rfl rfl (lookO_spec rfl) rfl rfl rfl ?_ | refine x_un rfl rfl (lookO_spec rfl) rfl rfl ?_) | ((first | refine aw_ways rfl ?_ ?_ | refine r_split rfl rfl rfl ?_ ?_) <;> intro hg_ <;> fail_if_success (exact Bool.noConfusion hg_)) <;> (try simp only [prn] at hg_) <;> (try first | contradiction | (exfalso; omega)))
    refine aw_seq ?_
    refine aw_seq ?_
    repeat' (first | (with_reducible first | refine thn_normal ?_ | refine thn_ret ?_ | refine thn_exit ?_ | refine blk_normal ?_ | refine blk_ret ?_ | refine blk_hit ?_ | refine blk_miss rfl ?_ | refine aw_block ?_ | refine aw_ret ?_ | refine aw_skip ?_ | refine aw_exit ?_ | refine w_nil ?_ | refine x_nil (by kernel_rfl) ?_) | refine aw_region ?_ | refine aw_region_draw (by kernel_rfl) ?_ | refine aw_yes rfl ?_ | refine aw_no rfl ?_ | ((with_reducible refine w_seq ?_); first | refine r_q tbOk rfl rfl rfl rfl ?_ | refine r_e tbOk rfl rfl rfl rfl rfl ?_ | refine r_yes tbOk rfl rfl rfl rfl rfl rfl ?_ | refine w_no rfl rfl (lookO_spec rfl) rfl rfl rfl ?_ | refine w_un rfl rfl (lookO_spec rfl) rfl rfl ?_) | ((with_reducible refine w_drw ?_); first | refine rx_q tbOk rfl rfl rfl rfl ?_ | refine rx_e tbOk rfl rfl rfl rfl rfl ?_ | refine rx_yes tbOk rfl rfl rfl rfl rfl rfl ?_ | refine x_no rfl rfl (lookO_spec rfl) rfl rfl rfl ?_ | refine x_un rfl rfl (lookO_spec rfl) rfl rfl ?_) | ((first | refine' w_q rfl rfl ?xa rfl ?_ | refine' v_q rfl rfl ?xa rfl ?_ | refine' w_yes rfl rfl (lookO_spec rfl) rfl ?xa rfl ?_ | refine' v_yes rfl rfl (lookO_spec rfl) rfl ?xa rfl ?_); case xa => exact k_call hok rfl ⟨asA_agg (evO_spec rfl) ⟨cAr_r, cAr_r, cAr_r, cAr_r, cAr_r, trivial⟩, trivial⟩) | ((first | refine aw_ways rfl ?_ ?_ | refine r_split rfl rfl rfl ?_ ?_) <;> intro hg_ <;> fail_if_success (exact Bool.noConfusion hg_)) <;> (try simp only [prn] at hg_) <;> (try first | contradiction | (exfalso; omega)))
    all_goals first
      | (exfalso; rcases ho with ho | ho <;> first | (cases ho; done) | omega | (simp at *; omega))
      | skip
    all_goals repeat' (first | (with_reducible first | refine aw_seq ?_ | refine thn_normal ?_ | refine thn_ret ?_ | refine thn_exit ?_ | refine blk_normal ?_ | refine blk_ret ?_ | refine blk_hit ?_ | refine blk_miss rfl ?_ | refine aw_block ?_ | refine aw_ret ?_ | refine aw_skip ?_ | refine aw_exit ?_ | refine w_nil ?_ | refine x_nil (by kernel_rfl) ?_) | refine aw_region ?_ | refine aw_region_draw (by kernel_rfl) ?_ | refine aw_yes rfl ?_ | refine aw_no rfl ?_ | ((with_reducible refine w_seq ?_); first | refine r_q tbOk rfl rfl rfl rfl ?_ | refine r_e tbOk rfl rfl rfl rfl rfl ?_ | refine r_yes tbOk rfl rfl rfl rfl rfl rfl ?_ | refine w_no rfl rfl (lookO_spec rfl) rfl rfl rfl ?_ | refine w_un rfl rfl (lookO_spec rfl) rfl rfl ?_) | ((with_reducible refine w_drw ?_); first | refine rx_q tbOk rfl rfl rfl rfl ?_ | refine rx_e tbOk rfl rfl rfl rfl rfl ?_ | refine rx_yes tbOk rfl rfl rfl rfl rfl rfl ?_ | refine x_no rfl rfl (lookO_spec rfl) rfl rfl rfl ?_ | refine x_un rfl rfl (lookO_spec rfl) rfl rfl ?_) | ((first | refine aw_ways rfl ?_ ?_ | refine r_split rfl rfl rfl ?_ ?_) <;> intro hg_ <;> fail_if_success (exact Bool.noConfusion hg_)) <;> (try simp only [prn] at hg_) <;> (try first | contradiction | (exfalso; omega)))
    all_goals first
      | exact ret_2 (rv_cell rfl rfl (by (with_reducible first | exact ty3 | exact ty4 | exact ty5 | exact ty9 | exact ty17 | exact ty19 | exact ty22 | exact ty23 | exact ty25 | exact ty31 | exact ty38 | exact ty40 | exact ty54 | exact ty71 | exact ty75 | exact ty78 | exact ty82 | exact ty83)) rfl rfl rfl (dres_agg (by exact ⟨cres_nil, cres_val, cres_nil, cres_nil, cres_nil, trivial⟩))) (rv_tmp rfl (dres_int rfl))
      | trace_state
set_option maxRecDepth 100000 in
set_option maxHeartbeats 4000000 in
theorem f_implRunNo (nV nG nP nR nS : Bool) (c : Ch) (xs : List Int) (ho : Ch.ok c = false ∨ xs.length > 200) (h1 : c.vs.length ≤ 1048576) (h2 : c.got.length ≤ 1048576) (h3 : c.ps.length ≤ 1048576) (h4 : c.rs.length ≤ 1048576) :
    Fn Try.prog 29 [chP nV nG nP nR c, .one (row nS 1 (ints xs))] (.tup [chP true true true true zeroCh, iP (-1)]) := by
  have hok := f_implChOk' nV nG nP nR c h1 h2 h3 h4
  have hlen := ints_len xs
  cases hb : Ch.ok c <;> rw [hb] at hok ho
  all_goals
    refine fn_of (l := [.cell 4 40, .tmp 5]) Try.func29 (by kernel_rfl) rfl Try.ntmps29 rfl rfl ?_; simp only [argEnv, P0.d, Nat.reduceAdd, chP, List.map_cons, List.map_nil]
    refine aw_seq ?_
    repeat' (first | (with_reducible first | refine thn_normal ?_ | refine thn_ret ?_ | refine thn_exit ?_ | refine blk_normal ?_ | refine blk_ret ?_ | refine blk_hit ?_ | refine blk_miss rfl ?_ | refine aw_block ?_ | refine aw_ret ?_ | refine aw_skip ?_ | refine aw_exit ?_ | refine w_nil ?_ | refine x_nil (by kernel_rfl) ?_) | refine aw_region ?_ | refine aw_region_draw (by kernel_rfl) ?_ | refine aw_yes rfl ?_ | refine aw_no rfl ?_ | ((with_reducible refine w_seq ?_); first | refine r_q tbOk rfl rfl rfl rfl ?_ | refine r_e tbOk rfl rfl rfl rfl rfl ?_ | refine r_yes tbOk rfl rfl rfl rfl rfl rfl ?_ | refine w_no rfl rfl (lookO_spec rfl) rfl rfl rfl ?_ | refine w_un rfl rfl (lookO_spec rfl) rfl rfl ?_) | ((with_reducible refine w_drw ?_); first | refine rx_q tbOk rfl rfl rfl rfl ?_ | refine rx_e tbOk rfl rfl rfl rfl rfl ?_ | refine rx_yes tbOk rfl rfl rfl rfl rfl rfl ?_ | refine x_no rfl rfl (lookO_spec rfl) rfl rfl rfl ?_ | refine x_un rfl rfl (lookO_spec rfl) rfl rfl ?_) | ((first | refine aw_ways rfl ?_ ?_ | refine r_split rfl rfl rfl ?_ ?_) <;> intro hg_ <;> fail_if_success (exact Bool.noConfusion hg_)) <;> (try simp only [prn] at hg_) <;> (try first | contradiction | (exfalso; omega)))
    refine aw_seq ?_
    refine aw_seq ?_
    repeat' (first | (with_reducible first | refine thn_normal ?_ | refine thn_ret ?_ | refine thn_exit ?_ | refine blk_normal ?_ | refine blk_ret ?_ | refine blk_hit ?_ | refine blk_miss rfl ?_ | refine aw_block ?_ | refine aw_ret ?_ | refine aw_skip ?_ | refine aw_exit ?_ | refine w_nil ?_ | refine x_nil (by kernel_rfl) ?_) | refine aw_region ?_ | refine aw_region_draw (by kernel_rfl) ?_ | refine aw_yes rfl ?_ | refine aw_no rfl ?_ | ((with_reducible refine w_seq ?_); first | refine r_q tbOk rfl rfl rfl rfl ?_ | refine r_e tbOk rfl rfl rfl rfl rfl ?_ | refine r_yes tbOk rfl rfl rfl rfl rfl rfl ?_ | refine w_no rfl rfl (lookO_spec rfl) rfl rfl rfl ?_ | refine w_un rfl rfl (lookO_spec rfl) rfl rfl ?_) | ((with_reducible refine w_drw ?_); first | refine rx_q tbOk rfl rfl rfl rfl ?_ | refine rx_e tbOk rfl rfl rfl rfl rfl ?_ | refine rx_yes tbOk rfl rfl rfl rfl rfl rfl ?_ | refine x_no rfl rfl (lookO_spec rfl) rfl rfl rfl ?_ | refine x_un rfl rfl (lookO_spec rfl) rfl rfl ?_) | ((first | refine' w_q rfl rfl ?xa rfl ?_ | refine' v_q rfl rfl ?xa rfl ?_ | refine' w_yes rfl rfl (lookO_spec rfl) rfl ?xa rfl ?_ | refine' v_yes rfl rfl (lookO_spec rfl) rfl ?xa rfl ?_); case xa => exact k_call hok rfl ⟨asA_agg (evO_spec rfl) ⟨cAr_r, cAr_r, cAr_r, cAr_r, cAr_r, trivial⟩, trivial⟩) | ((first | refine aw_ways rfl ?_ ?_ | refine r_split rfl rfl rfl ?_ ?_) <;> intro hg_ <;> fail_if_success (exact Bool.noConfusion hg_)) <;> (try simp only [prn] at hg_) <;> (try first | contradiction | (exfalso; omega)))
    all_goals first
      | (exfalso; rcases ho with ho | ho <;> first | (cases ho; done) | omega | (simp at *; omega))
      | skip
    all_goals repeat' (first | (with_reducible first | refine aw_seq ?_ | refine thn_normal ?_ | refine thn_ret ?_ | refine thn_exit ?_ | refine blk_normal ?_ | refine blk_ret ?_ | refine blk_hit ?_ | refine blk_miss rfl ?_ | refine aw_block ?_ | refine aw_ret ?_ | refine aw_skip ?_ | refine aw_exit ?_ | refine w_nil ?_ | refine x_nil (by kernel_rfl) ?_) | refine aw_region ?_ | refine aw_region_draw (by kernel_rfl) ?_ | refine aw_yes rfl ?_ | refine aw_no rfl ?_ | ((with_reducible refine w_seq ?_); first | refine r_q tbOk rfl rfl rfl rfl ?_ | refine r_e tbOk rfl rfl rfl rfl rfl ?_ | refine r_yes tbOk rfl rfl rfl rfl rfl rfl ?_ | refine w_no rfl rfl (lookO_spec rfl) rfl rfl rfl ?_ | refine w_un rfl rfl (lookO_spec rfl) rfl rfl ?_) | ((with_reducible refine w_drw ?_); first | refine rx_q tbOk rfl rfl rfl rfl ?_ | refine rx_e tbOk rfl rfl rfl rfl rfl ?_ | refine rx_yes tbOk rfl rfl rfl rfl rfl rfl ?_ | refine x_no rfl rfl (lookO_spec rfl) rfl rfl rfl ?_ | refine x_un rfl rfl (lookO_spec rfl) rfl rfl ?_) | ((first | refine aw_ways rfl ?_ ?_ | refine r_split rfl rfl rfl ?_ ?_) <;> intro hg_ <;> fail_if_success (exact Bool.noConfusion hg_)) <;> (try simp only [prn] at hg_) <;> (try first | contradiction | (exfalso; omega)))
    all_goals first
      | exact ret_2 (rv_cell rfl rfl (by (with_reducible first | exact ty3 | exact ty4 | exact ty5 | exact ty9 | exact ty17 | exact ty19 | exact ty22 | exact ty23 | exact ty25 | exact ty31 | exact ty38 | exact ty40 | exact ty54 | exact ty71 | exact ty75 | exact ty78 | exact ty82 | exact ty83)) rfl rfl rfl (dres_agg (by exact ⟨cres_nil, cres_val, cres_nil, cres_nil, cres_nil, trivial⟩))) (rv_tmp rfl (dres_int rfl))
      | trace_state
set_option maxRecDepth 100000 in
set_option maxHeartbeats 4000000 in
theorem f_drawQuiet (nb : Bool) (code : List Int) (hB : Byte code) (hl : code.length ≤ 1048576) :
    ∃ (nG nP nR : Bool) (c : Ch), (Nils false nG nP nR c ∧ c.vs.length ≤ 20 ∧ c.got.length ≤ 21 ∧ c.ps.length ≤ 101 ∧ c.rs.length ≤ 101) ∧ Fn Try.prog 24 [.one (row nb 1 (bys code))] (.v (chP false nG nP nR c)) := by
  have K0 := f_open nb code hl
  have hB2 := byte_take hB 2000
  have hl2 : (code.take 2000).length ≤ 2000 := by rw [List.length_take]; omega
  obtain ⟨nG, nP, nR, mk, c, p', ⟨e1, e2, e3, e4, e5, e6, e7, e8, e9⟩, KC0⟩ := f_l20Channel (bs := code.take 2000) 0 9 (by omega) (by omega) hB2 hl2 (by omega) (by omega)
  have KC := KC0 false true nb
  refine ⟨nG, nP, nR, c, ⟨⟨(fun h => by cases h), e1, e2, e3⟩, e4, e5, e6, e7⟩, ?_⟩
  clear KC0 hB2 hl2 hB
  generalize code.take 2000 = bs at *
  obtain ⟨vs, kn, got, ps, rs⟩ := c
  have l1 := ints_len vs
  have l2 := ints_len got
  have l3 := pks_len ps
  have l4 := ints_len rs
  dsimp only at e1 e2 e3
  unfold rdH at *
  cases nG <;> cases nP <;> cases nR
  all_goals
    (try (have h := e1 rfl; subst h)); (try (have h := e2 rfl; subst h)); (try (have h := e3 rfl; subst h))
    simp only [chW, chWr, rowZ, rowO, if_true, if_false, Bool.false_eq_true, List.nil_append, List.append_nil, List.cons_append] at KC
    refine fn_of (l := [.cell 2 40]) Try.func24 (by kernel_rfl) rfl Try.ntmps24 rfl rfl ?_; simp only [argEnv, P0.d, Nat.reduceAdd, chP, List.map_cons, List.map_nil]
    repeat' (first | (with_reducible first | refine aw_seq ?_ | refine thn_normal ?_ | refine thn_ret ?_ | refine thn_exit ?_ | refine blk_normal ?_ | refine blk_ret ?_ | refine blk_hit ?_ | refine blk_miss rfl ?_ | refine aw_block ?_ | refine aw_ret ?_ | refine aw_skip ?_ | refine aw_exit ?_ | refine w_nil ?_ | refine x_nil (by kernel_rfl) ?_) | refine aw_region ?_ | refine aw_region_draw (by kernel_rfl) ?_ | refine aw_yes rfl ?_ | refine aw_no rfl ?_ | ((with_reducible refine w_seq ?_); first | refine r_q tbOk rfl rfl rfl rfl ?_ | refine r_e tbOk rfl rfl rfl rfl rfl ?_ | refine r_yes tbOk rfl rfl rfl rfl rfl rfl ?_ | refine w_no rfl rfl (lookO_spec rfl) rfl rfl rfl ?_ | refine w_un rfl rfl (lookO_spec rfl) rfl rfl ?_) | ((with_reducible refine w_drw ?_); first | refine rx_q tbOk rfl rfl rfl rfl ?_ | refine rx_e tbOk rfl rfl rfl rfl rfl ?_ | refine rx_yes tbOk rfl rfl rfl rfl rfl rfl ?_ | refine x_no rfl rfl (lookO_spec rfl) rfl rfl rfl ?_ | refine x_un rfl rfl (lookO_spec rfl) rfl rfl ?_) | ((first | refine' w_e rfl ?xa ?xb ?xc ?xe ?_ | refine' v_e rfl ?xa ?xb ?xc ?xe ?_); (case xa => first | exact e_callS [(2000001, 600)] K0 rfl ⟨by rw [evO_spec rfl]; exact asD_r rfl, trivial⟩ trivial rfl | exact e_callS [(1000000000, 600), (2000001, 101), (2000002, 102), (2000003, 103), (2000004, 104)] KC rfl ⟨asD_ren (evO_spec rfl), by rw [evO_spec rfl]; exact asD_r rfl, trivial⟩ (by (repeat' (first | exact trivial | refine subHR_cons rfl ?_ ?_ | rfl))) rfl); (case xb => rfl); (case xc => rfl); (case xe => rfl); try dsimp only [P0.d, Res.d, List.map_cons, List.map_nil, List.set_cons_zero, List.set_cons_succ, Nat.reduceAdd]) | ((first | refine aw_ways rfl ?_ ?_ | refine r_split rfl rfl rfl ?_ ?_) <;> intro hg_ <;> fail_if_success (exact Bool.noConfusion hg_)) <;> (try simp only [prn] at hg_) <;> (try first | contradiction | (exfalso; omega)))
    all_goals first
      | exact ret_v (rv_cell rfl rfl (by (with_reducible first | exact ty3 | exact ty4 | exact ty5 | exact ty9 | exact ty17 | exact ty19 | exact ty22 | exact ty23 | exact ty25 | exact ty31 | exact ty38 | exact ty40 | exact ty54 | exact ty71 | exact ty75 | exact ty78 | exact ty82 | exact ty83)) rfl rfl rfl (dres_agg (by refine ⟨?_, cres_val, ?_, ?_, ?_, trivial⟩ <;> first | exact cres_nil | exact cres_own0 (lookHO_spec rfl) l1.symm | exact cres_own0 (lookHO_spec rfl) l2.symm | exact cres_own0 (lookHO_spec rfl) l3.symm | exact cres_own0 (lookHO_spec rfl) l4.symm)))
      | trace_state
set_option maxRecDepth 100000 in
set_option maxHeartbeats 8000000 in
theorem f_drawRun (nb : Bool) (code : List Int) (hB : Byte code) (hl : code.length ≤ 1048576) :
    ∃ (nG nP nR : Bool) (c : Ch) (xs : List Int), (Nils false nG nP nR c ∧ c.vs.length ≤ 20 ∧ c.got.length ≤ 21 ∧ c.ps.length ≤ 101 ∧ c.rs.length ≤ 101 ∧ xs.length ≤ 201) ∧ Fn Try.prog 28 [.one (row nb 1 (bys code))] (.tup [chP false nG nP nR c, .one (row false 1 (ints xs))]) := by
  have K0 := f_open nb code hl
  have hB2 := byte_take hB 2000
  have hl2 : (code.take 2000).length ≤ 2000 := by rw [List.length_take]; omega
  obtain ⟨nG, nP, nR, mk, c, p', ⟨e1, e2, e3, e4, e5, e6, e7, e8, e9⟩, KC0⟩ := f_l20Channel (bs := code.take 2000) 0 12 (by omega) (by omega) hB2 hl2 (by omega) (by omega)
  have KC := KC0 false true nb
  clear KC0
  have KP : ∀ q : Int, 0 ≤ q → q ≤ 1000000 → ∀ n, FnS Try.prog 48 [.one (.ptr 1000000000 0 0 0), .one (.r false (int n))] (rdH 1000000000 false true nb (code.take 2000) q) (.one (.r true (int (pickV (code.take 2000) q n)))) (rdH 1000000000 false true nb (code.take 2000) (q + 1)) := fun q h0 h1 n => f_pick q n hB2 hl2 h0 h1 false true nb
  have K4 := KP p' (by omega) (by omega) 14
  have hc := pickV_in (code.take 2000) p' 14
  have hcN : ((pickV (code.take 2000) p' 14).toNat : Int) = pickV (code.take 2000) p' 14 := Int.toNat_of_nonneg hc.1
  generalize hC : (pickV (code.take 2000) p' 14).toNat = C at *
  rw [← hcN] at K4
  have hC9 : C ≤ 14 := by omega
  clear hC hcN hc
  have KO := f_odd (bs := code.take 2000) (p' + 1 + 2 * (C : Int)) 24 (by omega) (by omega) hB2 hl2 (by omega) (by omega) false true nb
  generalize oddV (code.take 2000) (p' + 1 + 2 * (C : Int)) 24 = o at *
  obtain ⟨xs, hx0, hx1, hx2⟩ : ∃ xs : List Int, xs.length ≤ 201 ∧ (o = true → ints xs = List.replicate 201 (iP 0)) ∧ (o = false → ints xs = ints (intsT (code.take 2000) p' 10 C)) := by
    cases o with
    | true => exact ⟨List.replicate 201 0, by rw [List.length_replicate]; omega, (fun _ => by unfold ints; rw [List.map_replicate]), (fun h => by cases h)⟩
    | false => exact ⟨intsT (code.take 2000) p' 10 C, by rw [intsT_len]; omega, (fun h => by cases h), fun _ => rfl⟩
  refine ⟨nG, nP, nR, c, xs, ⟨⟨(fun h => by cases h), e1, e2, e3⟩, e4, e5, e6, e7, hx0⟩, ?_⟩
  clear hB2 hl2 hB
  generalize code.take 2000 = bs at *
  obtain ⟨vs, kn, got, ps, rs⟩ := c
  have l1 := ints_len vs
  have l2 := ints_len got
  have l3 := pks_len ps
  have l4 := ints_len rs
  dsimp only at e1 e2 e3
  obtain ⟨F, hF⟩ : ∃ F : Nat → St, ∀ i : Nat, F i = mkS 33 [(7, .one (.r true (int ((C : Int) - (i : Int))))), (6, .one (.own 200 0 i 1)), (5, .one (.ptr 5 0 0 0)), (4, .one (.ptr 600 0 0 0)), (2, .one (.ptr 2 0 0 0))] ((600, .var 75 [.r false (row nb 1 (bys bs)), .r true (int (p' + 1 + 2 * (i : Int)))]) :: zeroV 2 :: (5, .var 40 (chW 101 102 103 104 nG nP nR mk ⟨vs, kn, got, ps, rs⟩)) :: (200, .sl 3 1 true (ints (intsT bs p' 10 i))) :: chWr 101 102 103 104 nG nP nR ⟨vs, kn, got, ps, rs⟩) := ⟨_, fun _ => rfl⟩
  unfold rdH at *
  cases nG <;> cases nP <;> cases nR
  all_goals
    (try (have h := e1 rfl; subst h)); (try (have h := e2 rfl; subst h)); (try (have h := e3 rfl; subst h))
    simp only [chW, chWr, rowZ, rowO, zeroV, if_true, if_false, Bool.false_eq_true, List.nil_append, List.append_nil, List.cons_append] at KC hF
    refine fn_of (l := [.cell 2 40, .tmp 3]) Try.func28 (by kernel_rfl) rfl Try.ntmps28 rfl rfl ?_; simp only [argEnv, P0.d, Nat.reduceAdd, chP, List.map_cons, List.map_nil]
    repeat' (first | (with_reducible first | refine aw_seq ?_ | refine thn_normal ?_ | refine thn_ret ?_ | refine thn_exit ?_ | refine blk_normal ?_ | refine blk_ret ?_ | refine blk_hit ?_ | refine blk_miss rfl ?_ | refine aw_block ?_ | refine aw_ret ?_ | refine aw_skip ?_ | refine aw_exit ?_ | refine w_nil ?_ | refine x_nil (by kernel_rfl) ?_) | refine aw_region ?_ | refine aw_region_draw (by kernel_rfl) ?_ | refine aw_yes rfl ?_ | refine aw_no rfl ?_ | ((with_reducible refine w_seq ?_); first | refine r_q tbOk rfl rfl rfl rfl ?_ | refine r_e tbOk rfl rfl rfl rfl rfl ?_ | refine r_yes tbOk rfl rfl rfl rfl rfl rfl ?_ | refine w_no rfl rfl (lookO_spec rfl) rfl rfl rfl ?_ | refine w_un rfl rfl (lookO_spec rfl) rfl rfl ?_) | ((with_reducible refine w_drw ?_); first | refine rx_q tbOk rfl rfl rfl rfl ?_ | refine rx_e tbOk rfl rfl rfl rfl rfl ?_ | refine rx_yes tbOk rfl rfl rfl rfl rfl rfl ?_ | refine x_no rfl rfl (lookO_spec rfl) rfl rfl rfl ?_ | refine x_un rfl rfl (lookO_spec rfl) rfl rfl ?_) | ((first | refine' w_e rfl ?xa ?xb ?xc ?xe ?_ | refine' v_e rfl ?xa ?xb ?xc ?xe ?_); (case xa => first | exact e_callS [(2000001, 600)] K0 rfl ⟨by rw [evO_spec rfl]; exact asD_r rfl, trivial⟩ trivial rfl | exact e_callS [(1000000000, 600), (2000001, 101), (2000002, 102), (2000003, 103), (2000004, 104)] KC rfl ⟨asD_ren (evO_spec rfl), by rw [evO_spec rfl]; exact asD_r rfl, trivial⟩ (by (repeat' (first | exact trivial | refine subHR_cons rfl ?_ ?_ | rfl))) rfl | exact e_callS [(1000000000, 600)] K4 rfl ⟨asD_ren (evO_spec rfl), by rw [evO_spec rfl]; exact asD_r rfl, trivial⟩ (by (repeat' (first | exact trivial | refine subHR_cons rfl ?_ ?_ | rfl))) rfl | exact e_build [] tlOk rfl rfl rfl rfl rfl rfl (by simp [AllN]) (by simp)); (case xb => rfl); (case xc => rfl); (case xe => rfl); try dsimp only [P0.d, Res.d, List.map_cons, List.map_nil, List.set_cons_zero, List.set_cons_succ, Nat.reduceAdd]) | ((first | refine aw_ways rfl ?_ ?_ | refine r_split rfl rfl rfl ?_ ?_) <;> intro hg_ <;> fail_if_success (exact Bool.noConfusion hg_)) <;> (try simp only [prn] at hg_) <;> (try first | contradiction | (exfalso; omega)))
    refine aw_loopI (fun i : Nat => i ≤ C) F (fun i => C - i) 0 (Nat.zero_le _) ?_ ?_
    · rw [hF 0]
      first
        | (refine weak_ren [(200, 12)] rfl ?_ ?_ <;> repeat' (first | exact trivial | refine subR_cons rfl ?_ ?_ | refine subHR_cons rfl ?_ ?_ | rfl | (refine d_int ?_; (first | rfl | omega | (rw [IntWalk.i64_in _ (by omega)] <;> omega) | (simp; done) | (simp; omega))) | (refine d_bool ?_; (first | (simp_all; done) | (rw [Bool.eq_iff_iff]; simp_all; done) | (rw [Bool.eq_iff_iff]; simp_all; omega) | (rw [Bool.eq_iff_iff]; simp; omega))) | exact d_int (by omega) | exact var2 rfl (cell_int (by omega))))
        | trace_state
    · intro i hi
      rw [hF i]
      have hlen := intsT_len bs p' 10 i
      have hli := ints_len (intsT bs p' 10 i)
      by_cases hlt : i < C
      · have hsn : ints (intsT bs p' 10 (i + 1)) = ints (intsT bs p' 10 i) ++ [iP (intV bs p' 10 i)] := by rw [intsT_snoc, ints_app]
        have K1 := KP (p' + 1 + 2 * (i : Int)) (by omega) (by omega) 10
        have K2 := KP (p' + 1 + 2 * (i : Int) + 1) (by omega) (by omega) 9
        have hv1 := pickV_in bs (p' + 1 + 2 * (i : Int)) 10
        have hv2 := pickV_in bs (p' + 1 + 2 * (i : Int) + 1) 9
        have hd0 : 0 ≤ (pickV bs (p' + 1 + 2 * (i : Int) + 1) 9).tdiv 8 := Int.tdiv_nonneg hv2.1 (by omega)
        have hd1 : (pickV bs (p' + 1 + 2 * (i : Int) + 1) 9).tdiv 8 ≤ pickV bs (p' + 1 + 2 * (i : Int) + 1) 9 := Int.tdiv_le_self _ hv2.1
        have hiv : IntKind.i64.wrap (pickV bs (p' + 1 + 2 * (i : Int)) 10 - IntKind.i64.wrap ((pickV bs (p' + 1 + 2 * (i : Int) + 1) 9).tdiv 8)) = intV bs p' 10 i := by
          rw [IntWalk.i64_in ((pickV bs (p' + 1 + 2 * (i : Int) + 1) 9).tdiv 8) (by omega), IntWalk.i64_in _ (by omega)]; rfl
        generalize intV bs p' 10 i = V at *
        repeat' (first | (with_reducible first | refine aw_seq ?_ | refine thn_normal ?_ | refine thn_ret ?_ | refine thn_exit ?_ | refine blk_normal ?_ | refine blk_ret ?_ | refine blk_hit ?_ | refine blk_miss rfl ?_ | refine aw_block ?_ | refine aw_ret ?_ | refine aw_skip ?_ | refine aw_exit ?_ | refine w_nil ?_ | refine x_nil (by kernel_rfl) ?_) | refine aw_region ?_ | refine aw_region_draw (by kernel_rfl) ?_ | refine aw_yes rfl ?_ | refine aw_no rfl ?_ | ((with_reducible refine w_seq ?_); first | refine r_q tbOk rfl rfl rfl rfl ?_ | refine r_e tbOk rfl rfl rfl rfl rfl ?_ | refine r_yes tbOk rfl rfl rfl rfl rfl rfl ?_ | refine w_no rfl rfl (lookO_spec rfl) rfl rfl rfl ?_ | refine w_un rfl rfl (lookO_spec rfl) rfl rfl ?_) | ((with_reducible refine w_drw ?_); first | refine rx_q tbOk rfl rfl rfl rfl ?_ | refine rx_e tbOk rfl rfl rfl rfl rfl ?_ | refine rx_yes tbOk rfl rfl rfl rfl rfl rfl ?_ | refine x_no rfl rfl (lookO_spec rfl) rfl rfl rfl ?_ | refine x_un rfl rfl (lookO_spec rfl) rfl rfl ?_) | ((first | refine' w_q rfl rfl ?xa rfl ?_ | refine' v_q rfl rfl ?xa rfl ?_ | refine' w_yes rfl rfl (lookO_spec rfl) rfl ?xa rfl ?_ | refine' v_yes rfl rfl (lookO_spec rfl) rfl ?xa rfl ?_); case xa => exact k_div rfl rfl rfl (by omega)) | ((first | refine' w_e rfl ?xa ?xb ?xc ?xe ?_ | refine' v_e rfl ?xa ?xb ?xc ?xe ?_); (case xa => first | exact e_callS [(1000000000, 600)] K1 rfl ⟨asD_ren (evO_spec rfl), by rw [evO_spec rfl]; exact asD_r rfl, trivial⟩ (by (repeat' (first | exact trivial | refine subHR_cons rfl ?_ ?_ | rfl))) rfl | exact e_callS [(1000000000, 600)] K2 rfl ⟨asD_ren (evO_spec rfl), by rw [evO_spec rfl]; exact asD_r rfl, trivial⟩ (by (repeat' (first | exact trivial | refine subHR_cons rfl ?_ ?_ | rfl))) rfl | exact e_build [.tmp 25] tlOk rfl rfl rfl rfl rfl rfl (allN_one rfl) (by simp) | exact e_append tlOk rfl rfl rfl rfl rfl rfl (slD_own (lookHO_spec rfl) rfl) (by omega) (by simp only [maxLen, List.length_cons, List.length_nil] at *; omega) (by simp only [List.length_cons, List.length_nil] at *; omega)); (case xb => rfl); (case xc => rfl); (case xe => rfl); try dsimp only [P0.d, Res.d, List.map_cons, List.map_nil, List.set_cons_zero, List.set_cons_succ, Nat.reduceAdd]) | ((first | refine aw_ways rfl ?_ ?_ | refine r_split rfl rfl rfl ?_ ?_) <;> intro hg_ <;> fail_if_success (exact Bool.noConfusion hg_)) <;> (try simp only [prn] at hg_) <;> (try first | contradiction | (exfalso; omega)))
        all_goals first
          | (refine ⟨i + 1, by omega, ?_, by omega⟩
             rw [hF (i + 1)]
             (refine weak_ren [(200, 27)] rfl ?_ ?_ <;> repeat' (first | exact trivial | refine subR_cons rfl ?_ ?_ | refine subHR_cons rfl ?_ ?_ | rfl | (refine d_int ?_; (first | rfl | omega | (rw [IntWalk.i64_in _ (by omega)] <;> omega) | (simp; done) | (simp; omega))) | (refine d_bool ?_; (first | (simp_all; done) | (rw [Bool.eq_iff_iff]; simp_all; done) | (rw [Bool.eq_iff_iff]; simp_all; omega) | (rw [Bool.eq_iff_iff]; simp; omega))) | exact d_int (by rw [IntWalk.i64_in _ (by omega)] <;> omega) | exact d_own (by simp only [hli, hlen, List.length_cons, List.length_nil]) | exact var2 rfl (cell_int (by omega)) | exact ob_sl rfl (by rw [hsn, ← hiv] <;> rfl))))
          | trace_state
      · have hiC : i = C := by omega
        subst hiC
        clear KP K4 KC K0 hF
        repeat' (first | (with_reducible first | refine aw_seq ?_ | refine thn_normal ?_ | refine thn_ret ?_ | refine thn_exit ?_ | refine blk_normal ?_ | refine blk_ret ?_ | refine blk_hit ?_ | refine blk_miss rfl ?_ | refine aw_block ?_ | refine aw_ret ?_ | refine aw_skip ?_ | refine aw_exit ?_ | refine w_nil ?_ | refine x_nil (by kernel_rfl) ?_) | refine aw_region ?_ | refine aw_region_draw (by kernel_rfl) ?_ | refine aw_yes rfl ?_ | refine aw_no rfl ?_ | ((with_reducible refine w_seq ?_); first | refine r_q tbOk rfl rfl rfl rfl ?_ | refine r_e tbOk rfl rfl rfl rfl rfl ?_ | refine r_yes tbOk rfl rfl rfl rfl rfl rfl ?_ | refine w_no rfl rfl (lookO_spec rfl) rfl rfl rfl ?_ | refine w_un rfl rfl (lookO_spec rfl) rfl rfl ?_) | ((with_reducible refine w_drw ?_); first | refine rx_q tbOk rfl rfl rfl rfl ?_ | refine rx_e tbOk rfl rfl rfl rfl rfl ?_ | refine rx_yes tbOk rfl rfl rfl rfl rfl rfl ?_ | refine x_no rfl rfl (lookO_spec rfl) rfl rfl rfl ?_ | refine x_un rfl rfl (lookO_spec rfl) rfl rfl ?_) | ((first | refine' w_e rfl ?xa ?xb ?xc ?xe ?_ | refine' v_e rfl ?xa ?xb ?xc ?xe ?_); (case xa => first | exact e_callS [(1000000000, 600)] KO rfl ⟨asD_ren (evO_spec rfl), by rw [evO_spec rfl]; exact asD_r rfl, trivial⟩ (by (repeat' (first | exact trivial | refine subHR_cons rfl ?_ ?_ | rfl))) rfl | exact e_make tlOk rfl rfl rfl rfl rfl rfl (c := 201) rfl rfl (by omega) (by simp only [maxLen]; omega)); (case xb => rfl); (case xc => rfl); (case xe => rfl); try dsimp only [P0.d, Res.d, List.map_cons, List.map_nil, List.set_cons_zero, List.set_cons_succ, Nat.reduceAdd]) | ((first | refine' w_ey rfl rfl (lookO_spec rfl) ?xa ?xb ?xc ?xe ?_ | refine' v_ey rfl rfl (lookO_spec rfl) ?xa ?xb ?xc ?xe ?_); (case xa => exact e_callS [(1000000000, 600)] KO rfl ⟨asD_ren (evO_spec rfl), by rw [evO_spec rfl]; exact asD_r rfl, trivial⟩ (by (repeat' (first | exact trivial | refine subHR_cons rfl ?_ ?_ | rfl))) rfl); (case xb => rfl); (case xc => rfl); (case xe => rfl); try dsimp only [P0.d, Res.d, List.map_cons, List.map_nil, List.set_cons_zero, List.set_cons_succ, Nat.reduceAdd]) | ((first | refine aw_ways rfl ?_ ?_ | refine r_split rfl rfl rfl ?_ ?_) <;> intro hg_ <;> fail_if_success (exact Bool.noConfusion hg_)) <;> (try simp only [prn] at hg_) <;> (try first | contradiction | (exfalso; omega)))
        all_goals first
          | exact ret_2 (rv_cell rfl rfl (by (with_reducible first | exact ty3 | exact ty4 | exact ty5 | exact ty9 | exact ty17 | exact ty19 | exact ty22 | exact ty23 | exact ty25 | exact ty31 | exact ty38 | exact ty40 | exact ty54 | exact ty71 | exact ty75 | exact ty78 | exact ty82 | exact ty83)) rfl rfl rfl (dres_agg (by refine ⟨?_, cres_val, ?_, ?_, ?_, trivial⟩ <;> first | exact cres_nil | exact cres_own0 (lookHO_spec rfl) l1.symm | exact cres_own0 (lookHO_spec rfl) l2.symm | exact cres_own0 (lookHO_spec rfl) l3.symm | exact cres_own0 (lookHO_spec rfl) l4.symm))) (rv_tmp rfl (dres_one (by rw [hx1 hg_]; exact cres_own0 (lookHO_spec rfl) (by simp only [List.length_replicate]))))
          | exact ret_2 (rv_cell rfl rfl (by (with_reducible first | exact ty3 | exact ty4 | exact ty5 | exact ty9 | exact ty17 | exact ty19 | exact ty22 | exact ty23 | exact ty25 | exact ty31 | exact ty38 | exact ty40 | exact ty54 | exact ty71 | exact ty75 | exact ty78 | exact ty82 | exact ty83)) rfl rfl rfl (dres_agg (by refine ⟨?_, cres_val, ?_, ?_, ?_, trivial⟩ <;> first | exact cres_nil | exact cres_own0 (lookHO_spec rfl) l1.symm | exact cres_own0 (lookHO_spec rfl) l2.symm | exact cres_own0 (lookHO_spec rfl) l3.symm | exact cres_own0 (lookHO_spec rfl) l4.symm))) (rv_tmp rfl (dres_one (by rw [hx2 hg_]; exact cres_own0 (lookHO_spec rfl) (by rw [hli, hlen]))))
          | trace_state
set_option maxRecDepth 100000 in
set_option maxHeartbeats 8000000 in
theorem f_drawDone (nb : Bool) (code : List Int) (hB : Byte code) (hl : code.length ≤ 1048576) :
    ∃ (nV nG nP nR : Bool) (c : Ch), (Nils nV nG nP nR c ∧ c.vs.length ≤ 20 ∧ c.got.length ≤ 21 ∧ c.ps.length ≤ 101 ∧ c.rs.length ≤ 101) ∧ Fn Try.prog 31 [.one (row nb 1 (bys code))] (.v (chP nV nG nP nR c)) := by
  have K0 := f_open nb code hl
  have hB2 := byte_take hB 2000
  have hl2 : (code.take 2000).length ≤ 2000 := by rw [List.length_take]; omega
  obtain ⟨nG, nP, nR, mk, c, p', ⟨e1, e2, e3, e4, e5, e6, e7, e8, e9⟩, KC0⟩ := f_l20Channel (bs := code.take 2000) 0 9 (by omega) (by omega) hB2 hl2 (by omega) (by omega)
  have KC := KC0 false true nb
  have K4 := f_pick (bs := code.take 2000) p' 2 hB2 hl2 (by omega) (by omega) false true nb
  clear KC0 hB2 hl2 hB
  generalize pickV (code.take 2000) p' 2 = V at *
  generalize code.take 2000 = bs at *
  -- what ChannelFinish would hand back
  have hF : ∃ (nF : Bool) (d : Ch) (N : Int), (d.vs.length ≤ 20 ∧ d.got.length ≤ 21 ∧ d.ps.length ≤ 101 ∧ d.rs.length ≤ 101 ∧ Nils nF nF nF nF d) ∧ Fn Try.prog 57 [chP false nG nP nR c] (.tup [chP nF nF nF nF d, iP N]) := by
    cases ho : Ch.ok c with
    | false => exact ⟨true, zeroCh, -1, ⟨by simp [zeroCh], by simp [zeroCh], by simp [zeroCh], by simp [zeroCh], ⟨fun _ => rfl, fun _ => rfl, fun _ => rfl, fun _ => rfl⟩⟩, f_specFinishNo false nG nP nR c ho (by omega) (by omega) (by omega) (by omega)⟩
    | true =>
      have hG := Ch.ok_iff.1 ho
      have hQ := Ch.quiet_facts hG
      obtain ⟨n, hn, h1, h2⟩ := Ch.rounds_end hQ.1.good hQ.2.1 hQ.2.2.1
      have hg := (Ch.rounds_grow hQ.1.good hQ.2.1 hQ.2.2.1 n).1.good
      have a1 := hg.vsl
      have a2 := hg.len
      have a3 := hg.psl
      have a4 := hg.rsl
      exact ⟨false, _, n, ⟨a1, by omega, by omega, by omega, ⟨(fun h => by cases h), (fun h => by cases h), (fun h => by cases h), (fun h => by cases h)⟩⟩, f_specFinish false nG nP nR c n hG hn h1 h2⟩
  obtain ⟨nF, d, N, ⟨d1, d2, d3, d4, d5⟩, KF⟩ := hF
  by_cases hV : V = 0
  · subst hV
    refine ⟨nF, nF, nF, nF, d, ⟨d5, d1, d2, d3, d4⟩, ?_⟩
    obtain ⟨vs, kn, got, ps, rs⟩ := c
    have l1 := ints_len vs
    have l2 := ints_len got
    have l3 := pks_len ps
    have l4 := ints_len rs
    dsimp only at e1 e2 e3
    unfold rdH at *
    cases nG <;> cases nP <;> cases nR
    all_goals
      (try (have h := e1 rfl; subst h)); (try (have h := e2 rfl; subst h)); (try (have h := e3 rfl; subst h))
      simp only [chW, chWr, rowZ, rowO, if_true, if_false, Bool.false_eq_true, List.nil_append, List.append_nil, List.cons_append] at KC
      refine fn_of (l := [.cell 2 40]) Try.func31 (by kernel_rfl) rfl Try.ntmps31 rfl rfl ?_; simp only [argEnv, P0.d, Nat.reduceAdd, chP, List.map_cons, List.map_nil]
      repeat' (first | (with_reducible first | refine aw_seq ?_ | refine thn_normal ?_ | refine thn_ret ?_ | refine thn_exit ?_ | refine blk_normal ?_ | refine blk_ret ?_ | refine blk_hit ?_ | refine blk_miss rfl ?_ | refine aw_block ?_ | refine aw_ret ?_ | refine aw_skip ?_ | refine aw_exit ?_ | refine w_nil ?_ | refine x_nil (by kernel_rfl) ?_) | refine aw_region ?_ | refine aw_region_draw (by kernel_rfl) ?_ | refine aw_yes rfl ?_ | refine aw_no rfl ?_ | ((with_reducible refine w_seq ?_); first | refine r_q tbOk rfl rfl rfl rfl ?_ | refine r_e tbOk rfl rfl rfl rfl rfl ?_ | refine r_yes tbOk rfl rfl rfl rfl rfl rfl ?_ | refine w_no rfl rfl (lookO_spec rfl) rfl rfl rfl ?_ | refine w_un rfl rfl (lookO_spec rfl) rfl rfl ?_) | ((with_reducible refine w_drw ?_); first | refine rx_q tbOk rfl rfl rfl rfl ?_ | refine rx_e tbOk rfl rfl rfl rfl rfl ?_ | refine rx_yes tbOk rfl rfl rfl rfl rfl rfl ?_ | refine x_no rfl rfl (lookO_spec rfl) rfl rfl rfl ?_ | refine x_un rfl rfl (lookO_spec rfl) rfl rfl ?_) | ((first | refine' w_q rfl rfl ?xa rfl ?_ | refine' v_q rfl rfl ?xa rfl ?_ | refine' w_yes rfl rfl (lookO_spec rfl) rfl ?xa rfl ?_ | refine' v_yes rfl rfl (lookO_spec rfl) rfl ?xa rfl ?_); case xa => exact k_call KF rfl ⟨asA_agg (evO_spec rfl) ⟨by first | exact cAr_nil | exact cAr_own0 (lookHO_spec rfl) l1.symm, cAr_r, by first | exact cAr_nil | exact cAr_own0 (lookHO_spec rfl) l2.symm, by first | exact cAr_nil | exact cAr_own0 (lookHO_spec rfl) l3.symm, by first | exact cAr_nil | exact cAr_own0 (lookHO_spec rfl) l4.symm, trivial⟩, trivial⟩) | ((first | refine' w_e rfl ?xa ?xb ?xc ?xe ?_ | refine' v_e rfl ?xa ?xb ?xc ?xe ?_); (case xa => first | exact e_callS [(2000001, 600)] K0 rfl ⟨by rw [evO_spec rfl]; exact asD_r rfl, trivial⟩ trivial rfl | exact e_callS [(1000000000, 600), (2000001, 101), (2000002, 102), (2000003, 103), (2000004, 104)] KC rfl ⟨asD_ren (evO_spec rfl), by rw [evO_spec rfl]; exact asD_r rfl, trivial⟩ (by (repeat' (first | exact trivial | refine subHR_cons rfl ?_ ?_ | rfl))) rfl | exact e_callS [(1000000000, 600)] K4 rfl ⟨asD_ren (evO_spec rfl), by rw [evO_spec rfl]; exact asD_r rfl, trivial⟩ (by (repeat' (first | exact trivial | refine subHR_cons rfl ?_ ?_ | rfl))) rfl); (case xb => rfl); (case xc => rfl); (case xe => rfl); try dsimp only [P0.d, Res.d, List.map_cons, List.map_nil, List.set_cons_zero, List.set_cons_succ, Nat.reduceAdd]) | ((first | refine aw_ways rfl ?_ ?_ | refine r_split rfl rfl rfl ?_ ?_) <;> intro hg_ <;> fail_if_success (exact Bool.noConfusion hg_)) <;> (try simp only [prn] at hg_) <;> (try first | contradiction | (exfalso; omega)))
      all_goals first
        | exact ret_v (rv_cell rfl rfl (by (with_reducible first | exact ty3 | exact ty4 | exact ty5 | exact ty9 | exact ty17 | exact ty19 | exact ty22 | exact ty23 | exact ty25 | exact ty31 | exact ty38 | exact ty40 | exact ty54 | exact ty71 | exact ty75 | exact ty78 | exact ty82 | exact ty83)) rfl rfl rfl (dres_agg (by exact ⟨cres_new, cres_val, cres_new, cres_new, cres_new, trivial⟩)))
        | trace_state
  · refine ⟨false, nG, nP, nR, c, ⟨⟨(fun h => by cases h), e1, e2, e3⟩, e4, e5, e6, e7⟩, ?_⟩
    clear KF d1 d2 d3 d4 d5
    obtain ⟨vs, kn, got, ps, rs⟩ := c
    have l1 := ints_len vs
    have l2 := ints_len got
    have l3 := pks_len ps
    have l4 := ints_len rs
    dsimp only at e1 e2 e3
    unfold rdH at *
    cases nG <;> cases nP <;> cases nR
    all_goals
      (try (have h := e1 rfl; subst h)); (try (have h := e2 rfl; subst h)); (try (have h := e3 rfl; subst h))
      simp only [chW, chWr, rowZ, rowO, if_true, if_false, Bool.false_eq_true, List.nil_append, List.append_nil, List.cons_append] at KC
      refine fn_of (l := [.cell 2 40]) Try.func31 (by kernel_rfl) rfl Try.ntmps31 rfl rfl ?_; simp only [argEnv, P0.d, Nat.reduceAdd, chP, List.map_cons, List.map_nil]
      repeat' (first | (with_reducible first | refine aw_seq ?_ | refine thn_normal ?_ | refine thn_ret ?_ | refine thn_exit ?_ | refine blk_normal ?_ | refine blk_ret ?_ | refine blk_hit ?_ | refine blk_miss rfl ?_ | refine aw_block ?_ | refine aw_ret ?_ | refine aw_skip ?_ | refine aw_exit ?_ | refine w_nil ?_ | refine x_nil (by kernel_rfl) ?_) | refine aw_region ?_ | refine aw_region_draw (by kernel_rfl) ?_ | refine aw_yes rfl ?_ | refine aw_no rfl ?_ | ((with_reducible refine w_seq ?_); first | refine r_q tbOk rfl rfl rfl rfl ?_ | refine r_e tbOk rfl rfl rfl rfl rfl ?_ | refine r_yes tbOk rfl rfl rfl rfl rfl rfl ?_ | refine w_no rfl rfl (lookO_spec rfl) rfl rfl rfl ?_ | refine w_un rfl rfl (lookO_spec rfl) rfl rfl ?_) | ((with_reducible refine w_drw ?_); first | refine rx_q tbOk rfl rfl rfl rfl ?_ | refine rx_e tbOk rfl rfl rfl rfl rfl ?_ | refine rx_yes tbOk rfl rfl rfl rfl rfl rfl ?_ | refine x_no rfl rfl (lookO_spec rfl) rfl rfl rfl ?_ | refine x_un rfl rfl (lookO_spec rfl) rfl rfl ?_) | ((first | refine' w_e rfl ?xa ?xb ?xc ?xe ?_ | refine' v_e rfl ?xa ?xb ?xc ?xe ?_); (case xa => first | exact e_callS [(2000001, 600)] K0 rfl ⟨by rw [evO_spec rfl]; exact asD_r rfl, trivial⟩ trivial rfl | exact e_callS [(1000000000, 600), (2000001, 101), (2000002, 102), (2000003, 103), (2000004, 104)] KC rfl ⟨asD_ren (evO_spec rfl), by rw [evO_spec rfl]; exact asD_r rfl, trivial⟩ (by (repeat' (first | exact trivial | refine subHR_cons rfl ?_ ?_ | rfl))) rfl | exact e_callS [(1000000000, 600)] K4 rfl ⟨asD_ren (evO_spec rfl), by rw [evO_spec rfl]; exact asD_r rfl, trivial⟩ (by (repeat' (first | exact trivial | refine subHR_cons rfl ?_ ?_ | rfl))) rfl); (case xb => rfl); (case xc => rfl); (case xe => rfl); try dsimp only [P0.d, Res.d, List.map_cons, List.map_nil, List.set_cons_zero, List.set_cons_succ, Nat.reduceAdd]) | ((first | refine aw_ways rfl ?_ ?_ | refine r_split rfl rfl rfl ?_ ?_) <;> intro hg_ <;> fail_if_success (exact Bool.noConfusion hg_)) <;> (try simp only [prn] at hg_) <;> (try first | contradiction | (exfalso; omega)))
      all_goals first
        | exact ret_v (rv_cell rfl rfl (by (with_reducible first | exact ty3 | exact ty4 | exact ty5 | exact ty9 | exact ty17 | exact ty19 | exact ty22 | exact ty23 | exact ty25 | exact ty31 | exact ty38 | exact ty40 | exact ty54 | exact ty71 | exact ty75 | exact ty78 | exact ty82 | exact ty83)) rfl rfl rfl (dres_agg (by refine ⟨?_, cres_val, ?_, ?_, ?_, trivial⟩ <;> first | exact cres_nil | exact cres_own0 (lookHO_spec rfl) l1.symm | exact cres_own0 (lookHO_spec rfl) l2.symm | exact cres_own0 (lookHO_spec rfl) l3.symm | exact cres_own0 (lookHO_spec rfl) l4.symm)))
        | trace_state
theorem zeroCh_ok : Ch.ok zeroCh = true := rfl
theorem f_sameCh' (n1 n2 n3 n4 m1 m2 m3 m4 : Bool) (c : Ch) (h1 : c.vs.length ≤ 1048576) (h2 : c.got.length ≤ 1048576) (h3 : c.ps.length ≤ 1048576) (h4 : c.rs.length ≤ 1048576) : Fn Try.prog 22 [chP n1 n2 n3 n4 c, chP m1 m2 m3 m4 c] (.v (.one (bool true))) := by
  obtain ⟨vs, kn, got, ps, rs⟩ := c
  exact f_sameCh n1 n2 n3 n4 m1 m2 m3 m4 vs kn got ps rs h1 h2 h3 h4
/-- A step of the program on a valid channel. -/
theorem f_implStepV (nV nG nP nR : Bool) (c : Ch) (s : Int) (hG : Ch.Good c) (hn : Nils nV nG nP nR c) : Fn Try.prog 20 [chP nV nG nP nR c, iP s] (.tup [chP nV (stG nG c s) (stP nP c s) (stR nR c s) (Ch.step c s).1, .one (bool (Ch.step c s).2)]) := by
  obtain ⟨h1, h2, h3, h4⟩ := hG.lens
  obtain ⟨vs, kn, got, ps, rs⟩ := c
  have := f_implChStep nV nG nP nR vs kn got ps rs s hn h1 h2 h3 h4
  unfold stepR stNil at this
  rw [Ch.ok_iff.2 hG, if_pos rfl, if_pos rfl] at this
  exact this
end Go.Proofs.Ytjjeihcmiofkmaa.Abs
