/- FnServiceValid by states: the law's walk. -/
import Derived.Test.YtihpchbkodihpaaTy
import Derived.Lib.Hide
import Derived.Test.YtihpchbkodihpaaADrS
import Derived.Test.YtihpchbkodihpaaALawG
set_option linter.unusedSimpArgs false
set_option linter.unusedVariables false
namespace Go.Proofs.Ytihpchbkodihpaa.Abs
open Go.RowKit
open R (val row ref)

set_option maxRecDepth 100000 in
set_option maxHeartbeats 8000000 in
theorem f_lawSvc (nb : Bool) (code : List Int) (hB : Byte code) (hl : code.length ≤ 1048576) : Fn Try.prog 3 [.one (row nb 1 (bys code))] (.v (.one (bool true))) := by
  obtain ⟨nE, m, es, n1, xs, n2, ys, ⟨e1, e2, e3, e4⟩, KD⟩ := f_drawService nb code hB hl
  have hcl := bys_len code
  have KI := f_implServiceValid m nE n1 n2 es xs ys (by omega) (by omega) (by omega)
  have KS := f_specServiceValid m nE n1 n2 es xs ys (by omega) (by omega) (by omega)
  have KN := f_implServiceValid (-1) true n1 n2 [] xs ys (by simp) (by omega) (by omega)
  have KG := f_implGraphValid m nE es (by simp only [maxLen]; omega)
  have hneg : gOk (-1) [] = false := by decide
  rw [hneg, Bool.false_and] at KN
  generalize gOk m es = g at *
  generalize diskOk xs ys = dd at *
  cases g <;> cases dd
  all_goals
    simp only [Bool.and_true, Bool.and_false, Bool.true_and, Bool.false_and] at KI KS
    refine fn_of (l := [.tmp 2]) Try.func3 (by kernel_rfl) rfl Try.ntmps3 rfl rfl ?_; simp only [argEnv, P0.d, Nat.reduceAdd]
    repeat' (first | (with_reducible first | refine aw_seq ?_ | refine thn_normal ?_ | refine thn_ret ?_ | refine thn_exit ?_ | refine blk_normal ?_ | refine blk_ret ?_ | refine blk_hit ?_ | refine blk_miss rfl ?_ | refine aw_block ?_ | refine aw_ret ?_ | refine aw_skip ?_ | refine aw_exit ?_ | refine w_nil ?_ | refine x_nil (by kernel_rfl) ?_) | refine aw_region ?_ | refine aw_region_draw (by kernel_rfl) ?_ | refine aw_yes rfl ?_ | refine aw_no rfl ?_ | ((with_reducible refine w_seq ?_); first | refine r_q tbOk rfl rfl rfl rfl ?_ | refine r_e tbOk rfl rfl rfl rfl rfl ?_ | refine r_yes tbOk rfl rfl rfl rfl rfl rfl ?_ | refine w_no rfl rfl (lookO_spec rfl) rfl rfl rfl ?_ | refine w_un rfl rfl (lookO_spec rfl) rfl rfl ?_) | ((with_reducible refine w_drw ?_); first | refine rx_q tbOk rfl rfl rfl rfl ?_ | refine rx_e tbOk rfl rfl rfl rfl rfl ?_ | refine rx_yes tbOk rfl rfl rfl rfl rfl rfl ?_ | refine x_no rfl rfl (lookO_spec rfl) rfl rfl rfl ?_ | refine x_un rfl rfl (lookO_spec rfl) rfl rfl ?_) | ((first | refine' w_q rfl rfl ?xa rfl ?_ | refine' v_q rfl rfl ?xa rfl ?_ | refine' w_yes rfl rfl (lookO_spec rfl) rfl ?xa rfl ?_ | refine' v_yes rfl rfl (lookO_spec rfl) rfl ?xa rfl ?_); case xa => first | exact k_call KD rfl ⟨asA_r (evO_spec rfl), trivial⟩ | exact k_call KI rfl ⟨asA_agg (evO_spec rfl) ⟨cAr_r, cAr_r, cAr_r, cAr_r, trivial⟩, trivial⟩ | exact k_call KS rfl ⟨asA_agg (evO_spec rfl) ⟨cAr_r, cAr_r, cAr_r, cAr_r, trivial⟩, trivial⟩ | exact k_call KN rfl ⟨asA_agg (evO_spec rfl) ⟨cAr_r, cAr_nil, cAr_r, cAr_r, trivial⟩, trivial⟩ | exact k_call KG rfl ⟨asA_agg (evO_spec rfl) ⟨cAr_r, cAr_r, trivial⟩, trivial⟩ | exact k_neB bo4 rfl rfl rfl | exact k_call f_alive2 rfl trivial) | ((first | refine aw_ways rfl ?_ ?_ | refine r_split rfl rfl rfl ?_ ?_) <;> intro hg_ <;> fail_if_success (exact Bool.noConfusion hg_)) <;> (try simp only [prn] at hg_) <;> (try first | contradiction | (exfalso; omega)))
    all_goals first
      | exact ret_tmp rfl (dres_bool rfl)
      | (exfalso; simp at hg_; done)
      | trace_state
set_option maxRecDepth 100000 in
set_option maxHeartbeats 4000000 in
theorem law_svc (nb : Bool) (code : List Int) (hB : Byte code) : Fn Try.prog 3 [.one (row nb 1 (bys code))] (.v (.one (bool true))) := by
  have hlb := bys_len code
  by_cases hl : code.length ≤ 1048576
  · exact f_lawSvc nb code hB hl
  · refine fn_of (l := [.tmp 2]) Try.func3 (by kernel_rfl) rfl Try.ntmps3 rfl rfl ?_; simp only [argEnv, P0.d, Nat.reduceAdd]
    repeat' (first | (with_reducible first | refine aw_seq ?_ | refine thn_normal ?_ | refine thn_ret ?_ | refine thn_exit ?_ | refine blk_normal ?_ | refine blk_ret ?_ | refine blk_hit ?_ | refine blk_miss rfl ?_ | refine aw_block ?_ | refine aw_ret ?_ | refine aw_skip ?_ | refine aw_exit ?_ | refine w_nil ?_ | refine x_nil (by kernel_rfl) ?_) | refine aw_region ?_ | refine aw_region_draw (by kernel_rfl) ?_ | refine aw_yes rfl ?_ | refine aw_no rfl ?_ | ((with_reducible refine w_seq ?_); first | refine r_q tbOk rfl rfl rfl rfl ?_ | refine r_e tbOk rfl rfl rfl rfl rfl ?_ | refine r_yes tbOk rfl rfl rfl rfl rfl rfl ?_ | refine w_no rfl rfl (lookO_spec rfl) rfl rfl rfl ?_ | refine w_un rfl rfl (lookO_spec rfl) rfl rfl ?_) | ((with_reducible refine w_drw ?_); first | refine rx_q tbOk rfl rfl rfl rfl ?_ | refine rx_e tbOk rfl rfl rfl rfl rfl ?_ | refine rx_yes tbOk rfl rfl rfl rfl rfl rfl ?_ | refine x_no rfl rfl (lookO_spec rfl) rfl rfl rfl ?_ | refine x_un rfl rfl (lookO_spec rfl) rfl rfl ?_) | ((first | refine aw_ways rfl ?_ ?_ | refine r_split rfl rfl rfl ?_ ?_) <;> intro hg_ <;> fail_if_success (exact Bool.noConfusion hg_)) <;> (try simp only [prn] at hg_) <;> (try first | contradiction | (exfalso; omega)))
    all_goals first
      | exact ret_tmp rfl (dres_bool rfl)
      | (exfalso; omega)
      | trace_state
end Go.Proofs.Ytihpchbkodihpaa.Abs
