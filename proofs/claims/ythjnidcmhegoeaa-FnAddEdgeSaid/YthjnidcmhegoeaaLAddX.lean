/- FnExactAddEdge by states: the law's walk. -/
import Derived.Test.YthjnidcmhegoeaaTy
import Derived.Lib.Hide
import Derived.Test.YthjnidcmhegoeaaAImG
import Derived.Test.YthjnidcmhegoeaaAExH
import Derived.Test.YthjnidcmhegoeaaAAdd
set_option linter.unusedSimpArgs false
set_option linter.unusedVariables false
namespace Go.Proofs.Ythjnidcmhegoeaa.Abs
open Go.RowKit
open R (val row ref)

set_option maxRecDepth 100000 in
set_option maxHeartbeats 4000000 in
theorem f_specAddBad (m : Int) (nil : Bool) (es : List E3) (e : E3) (hl : es.length ≤ 1048576) (hg : gOk m es = false) : Fn Try.prog 9 [graphP m nil es, edgeP e] (.tup [graphP 0 true [], .one (bool false)]) := by
  have K1 := f_ownGraph m nil es hl
  have KV := f_specGraphValid m false es (by simp only [maxLen]; omega)
  rw [hg] at KV
  obtain ⟨e1, e2, e3⟩ := e
  refine fn_of (l := [.cell 4 30, .tmp 5]) Try.func9 (by kernel_rfl) rfl Try.ntmps9 rfl rfl ?_; simp only [argEnv, P0.d, Nat.reduceAdd, graphP, edgeP, List.map_cons, List.map_nil]
  repeat' (first | (with_reducible first | refine aw_seq ?_ | refine thn_normal ?_ | refine thn_ret ?_ | refine thn_exit ?_ | refine blk_normal ?_ | refine blk_ret ?_ | refine blk_hit ?_ | refine blk_miss rfl ?_ | refine aw_block ?_ | refine aw_ret ?_ | refine aw_skip ?_ | refine aw_exit ?_ | refine w_nil ?_ | refine x_nil (by kernel_rfl) ?_) | refine aw_region ?_ | refine aw_region_draw (by kernel_rfl) ?_ | refine aw_yes rfl ?_ | refine aw_no rfl ?_ | ((with_reducible refine w_seq ?_); first | refine r_q tbOk rfl rfl rfl rfl ?_ | refine r_e tbOk rfl rfl rfl rfl rfl ?_ | refine r_yes tbOk rfl rfl rfl rfl rfl rfl ?_ | refine w_no rfl rfl (lookO_spec rfl) rfl rfl rfl ?_ | refine w_un rfl rfl (lookO_spec rfl) rfl rfl ?_) | ((with_reducible refine w_drw ?_); first | refine rx_q tbOk rfl rfl rfl rfl ?_ | refine rx_e tbOk rfl rfl rfl rfl rfl ?_ | refine rx_yes tbOk rfl rfl rfl rfl rfl rfl ?_ | refine x_no rfl rfl (lookO_spec rfl) rfl rfl rfl ?_ | refine x_un rfl rfl (lookO_spec rfl) rfl rfl ?_) | ((first | refine' w_q rfl rfl ?xa rfl ?_ | refine' v_q rfl rfl ?xa rfl ?_ | refine' w_yes rfl rfl (lookO_spec rfl) rfl ?xa rfl ?_ | refine' v_yes rfl rfl (lookO_spec rfl) rfl ?xa rfl ?_); case xa => first | exact k_call K1 rfl ⟨asA_agg (evO_spec rfl) ⟨cAr_r, cAr_r, trivial⟩, trivial⟩ | exact k_call KV rfl ⟨asA_agg (evO_spec rfl) ⟨cAr_r, cAr_r, trivial⟩, trivial⟩) | ((first | refine aw_ways rfl ?_ ?_ | refine r_split rfl rfl rfl ?_ ?_) <;> intro hg_ <;> fail_if_success (exact Bool.noConfusion hg_)) <;> (try simp only [prn] at hg_) <;> (try first | contradiction | (exfalso; omega)))
  all_goals first
    | exact ret_2 (rv_cell rfl rfl (by (with_reducible first | exact ty3 | exact ty4 | exact ty5 | exact ty9 | exact ty17 | exact ty19 | exact ty22 | exact ty24 | exact ty26 | exact ty28 | exact ty30 | exact ty34 | exact ty39 | exact ty47 | exact ty49 | exact ty54 | exact ty56 | exact ty57 | exact ty58 | exact ty60 | exact ty69 | exact ty72 | exact ty83 | exact ty88 | exact ty119 | exact ty124 | exact ty125 | exact ty133 | exact ty145 | exact ty146 | exact ty149 | exact ty156 | exact ty157 | exact ty161 | exact ty165 | exact ty167 | exact ty168)) rfl rfl rfl (dres_agg (by exact ⟨cres_val, cres_nil, trivial⟩))) (rv_tmp rfl (dres_bool rfl))
    | trace_state
set_option maxRecDepth 100000 in
set_option maxHeartbeats 8000000 in
theorem f_lawAddX0 (m : Int) (nil : Bool) (es : List E3) (e : E3) (hl : es.length ≤ 9223372036854775807) (hg : gOk m es = false) : Fn Try.prog 3 [graphP m nil es, edgeP e] (.v (.one (bool true))) := by
  have KZ := f_szGraph m nil es 1048576 hl (by omega) (by omega)
  by_cases he : es.length ≤ 1048576
  · rw [if_neg (by omega)] at KZ
    have hlen := edges_len es
    have KT := f_toGraph m nil es he
    have KTO := f_toGraphO m nil es he
    have KE := f_toEdge e
    have KI := f_implAddBad m false es e he hg
    have KS := f_specAddBad m false es e he hg
    have KQ0 := f_eqGraph 0 true true [] (by simp)
    have KQ := f_eqGraph m false false es he
    have KMG := f_markGraph true m es 1 (by omega) (by omega) he
    have KM0 := f_markGraph0 0 true 1
    have KH0 := f_heldGraph 0 true 1 0 (by omega) (by omega) (by omega)
    obtain ⟨e1, e2, e3⟩ := e
    refine fn_of (l := [.tmp 4]) Try.func3 (by kernel_rfl) rfl Try.ntmps3 rfl rfl ?_; simp only [argEnv, P0.d, Nat.reduceAdd, graphP, edgeP, List.map_cons, List.map_nil]
    repeat' (first | (with_reducible first | refine aw_seq ?_ | refine thn_normal ?_ | refine thn_ret ?_ | refine thn_exit ?_ | refine blk_normal ?_ | refine blk_ret ?_ | refine blk_hit ?_ | refine blk_miss rfl ?_ | refine aw_block ?_ | refine aw_ret ?_ | refine aw_skip ?_ | refine aw_exit ?_ | refine w_nil ?_ | refine x_nil (by kernel_rfl) ?_) | refine aw_region ?_ | refine aw_region_draw (by kernel_rfl) ?_ | refine aw_yes rfl ?_ | refine aw_no rfl ?_ | ((with_reducible refine w_seq ?_); first | refine r_q tbOk rfl rfl rfl rfl ?_ | refine r_e tbOk rfl rfl rfl rfl rfl ?_ | refine r_yes tbOk rfl rfl rfl rfl rfl rfl ?_ | refine w_no rfl rfl (lookO_spec rfl) rfl rfl rfl ?_ | refine w_un rfl rfl (lookO_spec rfl) rfl rfl ?_) | ((with_reducible refine w_drw ?_); first | refine rx_q tbOk rfl rfl rfl rfl ?_ | refine rx_e tbOk rfl rfl rfl rfl rfl ?_ | refine rx_yes tbOk rfl rfl rfl rfl rfl rfl ?_ | refine x_no rfl rfl (lookO_spec rfl) rfl rfl rfl ?_ | refine x_un rfl rfl (lookO_spec rfl) rfl rfl ?_) | ((first | refine' w_q rfl rfl ?xa rfl ?_ | refine' v_q rfl rfl ?xa rfl ?_ | refine' w_yes rfl rfl (lookO_spec rfl) rfl ?xa rfl ?_ | refine' v_yes rfl rfl (lookO_spec rfl) rfl ?xa rfl ?_); case xa => first | exact k_call KZ rfl ⟨asA_agg (evO_spec rfl) ⟨cAr_r, cAr_r, trivial⟩, asA_r (evO_spec rfl), trivial⟩ | exact k_call KE rfl ⟨asA_agg (evO_spec rfl) ⟨cAr_r, cAr_r, cAr_r, trivial⟩, trivial⟩ | exact k_at 23 rfl (k_call KT rfl ⟨asA_agg (evO_spec rfl) ⟨cAr_r, cAr_r, trivial⟩, trivial⟩) | exact k_at 49 rfl (k_call KT rfl ⟨asA_agg (evO_spec rfl) ⟨cAr_r, cAr_r, trivial⟩, trivial⟩) | exact k_at 81 rfl (k_call KT rfl ⟨asA_agg (evO_spec rfl) ⟨cAr_r, cAr_r, trivial⟩, trivial⟩) | exact k_call KS rfl ⟨asA_agg (evO_spec rfl) ⟨cAr_r, cAr_r, trivial⟩, asA_agg (evO_spec rfl) ⟨cAr_r, cAr_r, cAr_r, trivial⟩, trivial⟩ | exact k_call KI rfl ⟨asA_agg (evO_spec rfl) ⟨cAr_r, cAr_r, trivial⟩, asA_agg (evO_spec rfl) ⟨cAr_r, cAr_r, cAr_r, trivial⟩, trivial⟩ | exact k_call KI rfl ⟨asA_agg (evO_spec rfl) ⟨cAr_r, cAr_own0 (lookHO_spec rfl) hlen.symm, trivial⟩, asA_agg (evO_spec rfl) ⟨cAr_r, cAr_r, cAr_r, trivial⟩, trivial⟩ | exact k_call KQ0 rfl ⟨asA_agg (evO_spec rfl) ⟨cAr_r, cAr_r, trivial⟩, asA_agg (evO_spec rfl) ⟨cAr_r, cAr_r, trivial⟩, trivial⟩ | exact k_call KQ rfl ⟨asA_agg (evO_spec rfl) ⟨cAr_r, cAr_own0 (lookHO_spec rfl) hlen.symm, trivial⟩, asA_agg (evO_spec rfl) ⟨cAr_r, cAr_r, trivial⟩, trivial⟩ | exact k_call KM0 rfl ⟨asA_agg (evO_spec rfl) ⟨cAr_r, cAr_r, trivial⟩, asA_r (evO_spec rfl), trivial⟩ | exact k_call KH0 rfl ⟨asA_agg (evO_spec rfl) ⟨cAr_r, cAr_r, trivial⟩, asA_r (evO_spec rfl), trivial⟩ | exact k_neB bo4 rfl rfl rfl) | ((first | refine' w_e rfl ?xa ?xb ?xc ?xe ?_ | refine' v_e rfl ?xa ?xb ?xc ?xe ?_); (case xa => first | exact at_dst 30 rfl (e_callS0 (ys := [graphP m nil es]) [(2000001, 500)] KTO rfl rfl ⟨asA_agg (evO_spec rfl) ⟨cAr_r, cAr_r, trivial⟩, trivial⟩ rfl rfl) | exact e_callS [(1000000000, 500)] KMG rfl ⟨asD_ren (evO_spec rfl), by rw [evO_spec rfl]; exact asD_r rfl, trivial⟩ (by (repeat' (first | exact trivial | refine subHR_cons rfl ?_ ?_ | rfl))) rfl); (case xb => rfl); (case xc => rfl); (case xe => rfl); try dsimp only [P0.d, Res.d, List.map_cons, List.map_nil, List.set_cons_zero, List.set_cons_succ, Nat.reduceAdd]) | ((first | refine aw_ways rfl ?_ ?_ | refine r_split rfl rfl rfl ?_ ?_) <;> intro hg_ <;> fail_if_success (exact Bool.noConfusion hg_)) <;> (try simp only [prn] at hg_) <;> (try first | contradiction | (exfalso; omega)))
    all_goals first
      | exact ret_tmp rfl (dres_bool rfl)
      | (exfalso; first | omega | (simp at hg_; done) | (simp at hg_; omega))
      | trace_state
  · rw [if_pos (by omega)] at KZ
    obtain ⟨e1, e2, e3⟩ := e
    refine fn_of (l := [.tmp 4]) Try.func3 (by kernel_rfl) rfl Try.ntmps3 rfl rfl ?_; simp only [argEnv, P0.d, Nat.reduceAdd, graphP, edgeP, List.map_cons, List.map_nil]
    repeat' (first | (with_reducible first | refine aw_seq ?_ | refine thn_normal ?_ | refine thn_ret ?_ | refine thn_exit ?_ | refine blk_normal ?_ | refine blk_ret ?_ | refine blk_hit ?_ | refine blk_miss rfl ?_ | refine aw_block ?_ | refine aw_ret ?_ | refine aw_skip ?_ | refine aw_exit ?_ | refine w_nil ?_ | refine x_nil (by kernel_rfl) ?_) | refine aw_region ?_ | refine aw_region_draw (by kernel_rfl) ?_ | refine aw_yes rfl ?_ | refine aw_no rfl ?_ | ((with_reducible refine w_seq ?_); first | refine r_q tbOk rfl rfl rfl rfl ?_ | refine r_e tbOk rfl rfl rfl rfl rfl ?_ | refine r_yes tbOk rfl rfl rfl rfl rfl rfl ?_ | refine w_no rfl rfl (lookO_spec rfl) rfl rfl rfl ?_ | refine w_un rfl rfl (lookO_spec rfl) rfl rfl ?_) | ((with_reducible refine w_drw ?_); first | refine rx_q tbOk rfl rfl rfl rfl ?_ | refine rx_e tbOk rfl rfl rfl rfl rfl ?_ | refine rx_yes tbOk rfl rfl rfl rfl rfl rfl ?_ | refine x_no rfl rfl (lookO_spec rfl) rfl rfl rfl ?_ | refine x_un rfl rfl (lookO_spec rfl) rfl rfl ?_) | ((first | refine' w_q rfl rfl ?xa rfl ?_ | refine' v_q rfl rfl ?xa rfl ?_ | refine' w_yes rfl rfl (lookO_spec rfl) rfl ?xa rfl ?_ | refine' v_yes rfl rfl (lookO_spec rfl) rfl ?xa rfl ?_); case xa => exact k_call KZ rfl ⟨asA_agg (evO_spec rfl) ⟨cAr_r, cAr_r, trivial⟩, asA_r (evO_spec rfl), trivial⟩) | ((first | refine aw_ways rfl ?_ ?_ | refine r_split rfl rfl rfl ?_ ?_) <;> intro hg_ <;> fail_if_success (exact Bool.noConfusion hg_)) <;> (try simp only [prn] at hg_) <;> (try first | contradiction | (exfalso; omega)))
    all_goals first
      | exact ret_tmp rfl (dres_bool rfl)
      | (exfalso; first | omega | (simp at hg_; done) | (simp at hg_; omega))
      | trace_state
theorem addE_len {m : Int} {es : List E3} (e : E3) (hl : es.length ≤ 40) : (addE m es e).1.length ≤ 41 := by
  unfold addE
  have := ins_len e es
  split
  · dsimp only; omega
  · dsimp only; omega
set_option maxRecDepth 100000 in
set_option maxHeartbeats 8000000 in
theorem f_lawAddX1 (m : Int) (nil : Bool) (es : List E3) (e : E3) (hg : gOk m es = true) : Fn Try.prog 3 [graphP m nil es, edgeP e] (.v (.one (bool true))) := by
  have h40 := gOk_len hg
  have KZ := f_szGraph m nil es 1048576 (by omega) (by omega) (by omega)
  rw [if_neg (by omega)] at KZ
  have hlen := edges_len es
  have KT := f_toGraph m nil es (by omega)
  have KTO := f_toGraphO m nil es (by omega)
  have KE := f_toEdge e
  have KI := f_implAddS m es e hg
  have KS := f_specAddEdge m false es e hg
  have hA := addE_len (m := m) e h40
  have KQ0 := f_eqGraph m false false (addE m es e).1 (by omega)
  have KQ := f_eqGraph m false false es (by omega)
  have KMG := f_markGraph true m es 1 (by omega) (by omega) (by omega)
  have KM0 := f_markGraph true m (addE m es e).1 1 (by omega) (by omega) (by omega)
  rw [mixE_all] at KM0
  have hle := edges_len (addE m es e).1
  have hlu : (addE m es e).1.length = (edges (upE 1 (addE m es e).1.length)).length := by rw [edges_len, upE_len]
  have KH0 := f_heldGraph m false 1 (addE m es e).1.length (by omega) (by omega) (by omega)
  generalize addE m es e = R at *
  obtain ⟨rs, b⟩ := R
  obtain ⟨e1, e2, e3⟩ := e
  dsimp only at *
  refine fn_of (l := [.tmp 4]) Try.func3 (by kernel_rfl) rfl Try.ntmps3 rfl rfl ?_; simp only [argEnv, P0.d, Nat.reduceAdd, graphP, edgeP, List.map_cons, List.map_nil]
  repeat' (first | (with_reducible first | refine aw_seq ?_ | refine thn_normal ?_ | refine thn_ret ?_ | refine thn_exit ?_ | refine blk_normal ?_ | refine blk_ret ?_ | refine blk_hit ?_ | refine blk_miss rfl ?_ | refine aw_block ?_ | refine aw_ret ?_ | refine aw_skip ?_ | refine aw_exit ?_ | refine w_nil ?_ | refine x_nil (by kernel_rfl) ?_) | refine aw_region ?_ | refine aw_region_draw (by kernel_rfl) ?_ | refine aw_yes rfl ?_ | refine aw_no rfl ?_ | ((with_reducible refine w_seq ?_); first | refine r_q tbOk rfl rfl rfl rfl ?_ | refine r_e tbOk rfl rfl rfl rfl rfl ?_ | refine r_yes tbOk rfl rfl rfl rfl rfl rfl ?_ | refine w_no rfl rfl (lookO_spec rfl) rfl rfl rfl ?_ | refine w_un rfl rfl (lookO_spec rfl) rfl rfl ?_) | ((with_reducible refine w_drw ?_); first | refine rx_q tbOk rfl rfl rfl rfl ?_ | refine rx_e tbOk rfl rfl rfl rfl rfl ?_ | refine rx_yes tbOk rfl rfl rfl rfl rfl rfl ?_ | refine x_no rfl rfl (lookO_spec rfl) rfl rfl rfl ?_ | refine x_un rfl rfl (lookO_spec rfl) rfl rfl ?_) | ((first | refine' w_q rfl rfl ?xa rfl ?_ | refine' v_q rfl rfl ?xa rfl ?_ | refine' w_yes rfl rfl (lookO_spec rfl) rfl ?xa rfl ?_ | refine' v_yes rfl rfl (lookO_spec rfl) rfl ?xa rfl ?_); case xa => first | exact k_call KZ rfl ⟨asA_agg (evO_spec rfl) ⟨cAr_r, cAr_r, trivial⟩, asA_r (evO_spec rfl), trivial⟩ | exact k_call KE rfl ⟨asA_agg (evO_spec rfl) ⟨cAr_r, cAr_r, cAr_r, trivial⟩, trivial⟩ | exact k_at 23 rfl (k_call KT rfl ⟨asA_agg (evO_spec rfl) ⟨cAr_r, cAr_r, trivial⟩, trivial⟩) | exact k_at 49 rfl (k_call KT rfl ⟨asA_agg (evO_spec rfl) ⟨cAr_r, cAr_r, trivial⟩, trivial⟩) | exact k_at 81 rfl (k_call KT rfl ⟨asA_agg (evO_spec rfl) ⟨cAr_r, cAr_r, trivial⟩, trivial⟩) | exact k_call KQ rfl ⟨asA_agg (evO_spec rfl) ⟨cAr_r, cAr_own0 (lookHO_spec rfl) hlen.symm, trivial⟩, asA_agg (evO_spec rfl) ⟨cAr_r, cAr_r, trivial⟩, trivial⟩ | exact k_call KQ0 rfl ⟨asA_agg (evO_spec rfl) ⟨cAr_r, cAr_own0 (lookHO_spec rfl) hle.symm, trivial⟩, asA_agg (evO_spec rfl) ⟨cAr_r, cAr_own0 (lookHO_spec rfl) hle.symm, trivial⟩, trivial⟩ | exact k_call KH0 rfl ⟨asA_agg (evO_spec rfl) ⟨cAr_r, cAr_own0 (lookHO_spec rfl) hlu, trivial⟩, asA_r (evO_spec rfl), trivial⟩ | exact k_neB bo4 rfl rfl rfl) | ((first | refine' w_e rfl ?xa ?xb ?xc ?xe ?_ | refine' v_e rfl ?xa ?xb ?xc ?xe ?_); (case xa => first | exact at_dst 30 rfl (e_callS0 (ys := [graphP m nil es]) [(2000001, 500)] KTO rfl rfl ⟨asA_agg (evO_spec rfl) ⟨cAr_r, cAr_r, trivial⟩, trivial⟩ rfl rfl) | exact at_dst 26 rfl (e_callS0 (ys := [graphP m false es, edgeP (e1, e2, e3)]) [(2000001, 600)] KS rfl rfl ⟨asA_agg (evO_spec rfl) ⟨cAr_r, cAr_r, trivial⟩, asA_agg (evO_spec rfl) ⟨cAr_r, cAr_r, cAr_r, trivial⟩, trivial⟩ rfl rfl) | exact at_dst 35 rfl (e_callS0 (ys := [graphP m false es, edgeP (e1, e2, e3)]) [(2000001, 601)] KI rfl rfl ⟨asA_agg (evO_spec rfl) ⟨cAr_r, cAr_own0 (lookHO_spec rfl) hlen.symm, trivial⟩, asA_agg (evO_spec rfl) ⟨cAr_r, cAr_r, cAr_r, trivial⟩, trivial⟩ rfl rfl) | exact at_dst 84 rfl (e_callS0 (ys := [graphP m false es, edgeP (e1, e2, e3)]) [(2000001, 602)] KI rfl rfl ⟨asA_agg (evO_spec rfl) ⟨cAr_r, cAr_r, trivial⟩, asA_agg (evO_spec rfl) ⟨cAr_r, cAr_r, cAr_r, trivial⟩, trivial⟩ rfl rfl) | exact at_dst 54 rfl (e_callS [(1000000000, 500)] KMG rfl ⟨asD_ren (evO_spec rfl), by rw [evO_spec rfl]; exact asD_r rfl, trivial⟩ (by (repeat' (first | exact trivial | refine subHR_cons rfl ?_ ?_ | rfl))) rfl) | exact at_dst 70 rfl (e_callS [(1000000000, 601)] KM0 rfl ⟨asD_ren (evO_spec rfl), by rw [evO_spec rfl]; exact asD_r rfl, trivial⟩ (by (repeat' (first | exact trivial | refine subHR_cons rfl ?_ ?_ | rfl))) rfl)); (case xb => rfl); (case xc => rfl); (case xe => rfl); try dsimp only [P0.d, Res.d, List.map_cons, List.map_nil, List.set_cons_zero, List.set_cons_succ, Nat.reduceAdd]) | ((first | refine aw_ways rfl ?_ ?_ | refine r_split rfl rfl rfl ?_ ?_) <;> intro hg_ <;> fail_if_success (exact Bool.noConfusion hg_)) <;> (try simp only [prn] at hg_) <;> (try first | contradiction | (exfalso; omega)))
  all_goals first
    | exact ret_tmp rfl (dres_bool rfl)
    | (exfalso; first | omega | (simp at hg_; done) | (simp at hg_; omega))
    | trace_state
theorem law_addX (m : Int) (nil : Bool) (es : List E3) (e : E3) (hl : es.length ≤ 9223372036854775807) : Fn Try.prog 3 [graphP m nil es, edgeP e] (.v (.one (bool true))) := by
  cases hg : gOk m es with
  | true => exact f_lawAddX1 m nil es e hg
  | false => exact f_lawAddX0 m nil es e hl hg
end Go.Proofs.Ythjnidcmhegoeaa.Abs
