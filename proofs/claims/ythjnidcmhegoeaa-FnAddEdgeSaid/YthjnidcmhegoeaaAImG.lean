/- Adding an edge by states: the program. No statement of the seat is proved here. -/
import Derived.Test.YthjnidcmhegoeaaTy
import Derived.Lib.Hide
import Derived.Test.YthjnidcmhegoeaaAImB
set_option linter.unusedSimpArgs false
set_option linter.unusedVariables false
namespace Go.Proofs.Ythjnidcmhegoeaa.Abs
open Go.RowKit
open R (val row ref)

theorem spec_ret {a b : Bool} (h : a = b) : D.one (.r true (bool a)) = .one (.r true (bool b)) := by rw [h]
set_option maxRecDepth 100000 in
set_option maxHeartbeats 8000000 in
theorem f_implAddS (m : Int) (es : List E3) (e : E3) (hg : gOk m es = true) :
    FnS Try.prog 12 [.agg [.r false (int m), .r false (row false 3 (edges es))], .agg [.r false (int e.1), .r false (int e.2.1), .r false (int e.2.2)]] [] (.tups [(true, [.r true (int m), .own 2000001 0 (addE m es e).1.length 3]), (false, [.r true (bool (addE m es e).2)])]) [(2000001, .sl 34 3 true (edges (addE m es e).1))] := by
  have hl40 := gOk_len hg
  have hlen := edges_len es
  have hI := ins_pos e es
  have hN := ins_len e es
  have hple := posE_le e es
  have hfl := fnd_lt (e := e) (es := es)
  have KV1 := f_implGraphValid m false es (by simp only [maxLen]; omega)
  rw [hg] at KV1
  have KS := f_search false m es e hg
  have KC := f_gcopyO m es (by omega)
  have KV2 := f_implGraphValid m false (ins e es) (by simp only [maxLen]; omega)
  unfold addE
  generalize gOk m (ins e es) = b at *
  generalize fndE e es = fd at *
  generalize posE e es = p at *
  obtain ⟨X, hX⟩ : ∃ X : List E3, X = ins e es := ⟨_, rfl⟩
  rw [← hX] at KV2 hN hI ⊢
  clear hX
  obtain ⟨e1, e2, e3⟩ := e
  dsimp only
  cases fd with
  | true =>
    have hp := hfl rfl
    rw [if_pos rfl] at hI
    have hE : (edges es).set (0 + ((p : Nat) : Int).toNat) (P0.agg [int e1, int e2, int e3]) = edges X := by rw [hI, Nat.zero_add, Int.toNat_natCast, ← edges_set]
    have hEl : es.length = ((edges es).set (0 + ((p : Nat) : Int).toNat) (P0.agg [int e1, int e2, int e3])).length := by rw [List.length_set, hlen]
    have hXl : es.length = X.length := by rw [hI, List.length_set]
    cases b
    all_goals
      (try simp only [if_true, if_false, Bool.false_eq_true])
      refine fnS_of (l := [.cell 4 30, .tmp 5]) Try.func12 (by kernel_rfl) rfl Try.ntmps12 rfl rfl ?_; simp only [dEnv, Nat.reduceAdd]
      repeat' (first | (with_reducible first | refine aw_seq ?_ | refine thn_normal ?_ | refine thn_ret ?_ | refine thn_exit ?_ | refine blk_normal ?_ | refine blk_ret ?_ | refine blk_hit ?_ | refine blk_miss rfl ?_ | refine aw_block ?_ | refine aw_ret ?_ | refine aw_skip ?_ | refine aw_exit ?_ | refine w_nil ?_ | refine x_nil (by kernel_rfl) ?_) | refine aw_region ?_ | refine aw_region_draw (by kernel_rfl) ?_ | refine aw_yes rfl ?_ | refine aw_no rfl ?_ | ((with_reducible refine w_seq ?_); first | refine r_q tbOk rfl rfl rfl rfl ?_ | refine r_e tbOk rfl rfl rfl rfl rfl ?_ | refine r_yes tbOk rfl rfl rfl rfl rfl rfl ?_ | refine w_no rfl rfl (lookO_spec rfl) rfl rfl rfl ?_ | refine w_un rfl rfl (lookO_spec rfl) rfl rfl ?_) | ((with_reducible refine w_drw ?_); first | refine rx_q tbOk rfl rfl rfl rfl ?_ | refine rx_e tbOk rfl rfl rfl rfl rfl ?_ | refine rx_yes tbOk rfl rfl rfl rfl rfl rfl ?_ | refine x_no rfl rfl (lookO_spec rfl) rfl rfl rfl ?_ | refine x_un rfl rfl (lookO_spec rfl) rfl rfl ?_) | ((first | refine' w_q rfl rfl ?xa rfl ?_ | refine' v_q rfl rfl ?xa rfl ?_ | refine' w_yes rfl rfl (lookO_spec rfl) rfl ?xa rfl ?_ | refine' v_yes rfl rfl (lookO_spec rfl) rfl ?xa rfl ?_); case xa => first | exact k_call KV1 rfl ⟨asA_agg (evO_spec rfl) ⟨cAr_r, cAr_r, trivial⟩, trivial⟩ | exact k_call KV2 rfl ⟨asA_agg (evO_spec rfl) ⟨cAr_r, cAr_ownE (lookHO_spec rfl) hEl hE, trivial⟩, trivial⟩ | exact k_call KS rfl ⟨asA_r (evO_spec rfl), asA_agg (evO_spec rfl) ⟨cAr_r, cAr_r, cAr_r, trivial⟩, asA_r (evO_spec rfl), trivial⟩ | exact k_indexO tbOk rfl rfl rfl rfl (by omega) (by omega)) | ((first | refine' w_e rfl ?xa ?xb ?xc ?xe ?_ | refine' v_e rfl ?xa ?xb ?xc ?xe ?_); (case xa => first | exact at_dst 21 rfl (e_callS0 (ys := [graphP m false es]) [(2000001, 501)] KC rfl rfl ⟨asA_agg (evO_spec rfl) ⟨cAr_r, cAr_r, trivial⟩, trivial⟩ rfl rfl) | exact at_dst 39 rfl (e_callS0 (ys := [graphP m false es]) [(2000001, 502)] KC rfl rfl ⟨asA_agg (evO_spec rfl) ⟨cAr_r, cAr_r, trivial⟩, trivial⟩ rfl rfl) | exact e_storeS tbOk rfl rfl rfl rfl rfl rfl rfl rfl (by omega)); (case xb => rfl); (case xc => rfl); (case xe => rfl); try dsimp only [P0.d, Res.d, List.map_cons, List.map_nil, List.set_cons_zero, List.set_cons_succ, Nat.reduceAdd]) | ((first | refine aw_ways rfl ?_ ?_ | refine r_split rfl rfl rfl ?_ ?_) <;> intro hg_ <;> fail_if_success (exact Bool.noConfusion hg_)) <;> (try simp only [prn] at hg_) <;> (try first | contradiction | (exfalso; omega)))
      all_goals first
        | exact ret_D [(2000001, 501)] rfl (by (repeat' (first | exact trivial | refine subHR_cons rfl ?_ ?_ | rfl | exact ob_sl rfl hE))) (retD_two (x := (true, _)) (y := (false, [_])) (ret1_cell rfl rfl (by (with_reducible first | exact ty3 | exact ty4 | exact ty5 | exact ty9 | exact ty17 | exact ty19 | exact ty22 | exact ty24 | exact ty26 | exact ty28 | exact ty30 | exact ty34 | exact ty39 | exact ty47 | exact ty49 | exact ty54 | exact ty56 | exact ty57 | exact ty58 | exact ty60 | exact ty69 | exact ty72 | exact ty83 | exact ty88 | exact ty119 | exact ty124 | exact ty125 | exact ty133 | exact ty145 | exact ty146 | exact ty149 | exact ty156 | exact ty157 | exact ty161 | exact ty165 | exact ty167 | exact ty168)) rfl rfl rfl) rfl (ret1_tmp rfl) rfl (imp_refl (tups2 (list2 rfl (cell_own hXl)) rfl)))
        | exact ret_D [(2000001, 502)] rfl (by (repeat' (first | exact trivial | refine subHR_cons rfl ?_ ?_ | rfl))) (retD_two (x := (true, _)) (y := (false, [_])) (ret1_cell rfl rfl (by (with_reducible first | exact ty3 | exact ty4 | exact ty5 | exact ty9 | exact ty17 | exact ty19 | exact ty22 | exact ty24 | exact ty26 | exact ty28 | exact ty30 | exact ty34 | exact ty39 | exact ty47 | exact ty49 | exact ty54 | exact ty56 | exact ty57 | exact ty58 | exact ty60 | exact ty69 | exact ty72 | exact ty83 | exact ty88 | exact ty119 | exact ty124 | exact ty125 | exact ty133 | exact ty145 | exact ty146 | exact ty149 | exact ty156 | exact ty157 | exact ty161 | exact ty165 | exact ty167 | exact ty168)) rfl rfl rfl) rfl (ret1_tmp rfl) rfl (imp_refl (tups2 (list2 rfl rfl) rfl)))
        | trace_state
  | false =>
    rw [if_neg (by simp)] at hI
    have hE : (edges es).take p ++ P0.agg [int e1, int e2, int e3] :: (edges es).drop p = edges X := by rw [hI, ← edges_ins]
    have hXl : es.length + 1 = X.length := by rw [hI, List.length_append, List.length_cons, List.length_take, List.length_drop]; omega
    have hEl : es.length + 1 = ((edges es).take p ++ P0.agg [int e1, int e2, int e3] :: (edges es).drop p).length := by rw [hE, edges_len, hXl]
    cases b
    all_goals
      (try simp only [if_true, if_false, Bool.false_eq_true])
      refine fnS_of (l := [.cell 4 30, .tmp 5]) Try.func12 (by kernel_rfl) rfl Try.ntmps12 rfl rfl ?_; simp only [dEnv, Nat.reduceAdd]
      repeat' (first | (with_reducible first | refine aw_seq ?_ | refine thn_normal ?_ | refine thn_ret ?_ | refine thn_exit ?_ | refine blk_normal ?_ | refine blk_ret ?_ | refine blk_hit ?_ | refine blk_miss rfl ?_ | refine aw_block ?_ | refine aw_ret ?_ | refine aw_skip ?_ | refine aw_exit ?_ | refine w_nil ?_ | refine x_nil (by kernel_rfl) ?_) | refine aw_region ?_ | refine aw_region_draw (by kernel_rfl) ?_ | refine aw_yes rfl ?_ | refine aw_no rfl ?_ | ((with_reducible refine w_seq ?_); first | refine r_q tbOk rfl rfl rfl rfl ?_ | refine r_e tbOk rfl rfl rfl rfl rfl ?_ | refine r_yes tbOk rfl rfl rfl rfl rfl rfl ?_ | refine w_no rfl rfl (lookO_spec rfl) rfl rfl rfl ?_ | refine w_un rfl rfl (lookO_spec rfl) rfl rfl ?_) | ((with_reducible refine w_drw ?_); first | refine rx_q tbOk rfl rfl rfl rfl ?_ | refine rx_e tbOk rfl rfl rfl rfl rfl ?_ | refine rx_yes tbOk rfl rfl rfl rfl rfl rfl ?_ | refine x_no rfl rfl (lookO_spec rfl) rfl rfl rfl ?_ | refine x_un rfl rfl (lookO_spec rfl) rfl rfl ?_) | ((first | refine' w_q rfl rfl ?xa rfl ?_ | refine' v_q rfl rfl ?xa rfl ?_ | refine' w_yes rfl rfl (lookO_spec rfl) rfl ?xa rfl ?_ | refine' v_yes rfl rfl (lookO_spec rfl) rfl ?xa rfl ?_); case xa => first | exact k_call KV1 rfl ⟨asA_agg (evO_spec rfl) ⟨cAr_r, cAr_r, trivial⟩, trivial⟩ | exact k_call KV2 rfl ⟨asA_agg (evO_spec rfl) ⟨cAr_r, cAr_ownE (lookHO_spec rfl) hEl hE, trivial⟩, trivial⟩ | exact k_call KS rfl ⟨asA_r (evO_spec rfl), asA_agg (evO_spec rfl) ⟨cAr_r, cAr_r, cAr_r, trivial⟩, asA_r (evO_spec rfl), trivial⟩) | ((first | refine' w_e rfl ?xa ?xb ?xc ?xe ?_ | refine' v_e rfl ?xa ?xb ?xc ?xe ?_); (case xa => first | exact at_dst 21 rfl (e_callS0 (ys := [graphP m false es]) [(2000001, 501)] KC rfl rfl ⟨asA_agg (evO_spec rfl) ⟨cAr_r, cAr_r, trivial⟩, trivial⟩ rfl rfl) | exact at_dst 39 rfl (e_callS0 (ys := [graphP m false es]) [(2000001, 502)] KC rfl rfl ⟨asA_agg (evO_spec rfl) ⟨cAr_r, cAr_r, trivial⟩, trivial⟩ rfl rfl) | exact e_build [.tmp 31] tlOk rfl rfl rfl rfl rfl rfl (allN_one rfl) (by simp) | exact e_insert (t := 33) rfl rfl rfl hlen.symm rfl hple (by omega) rfl rfl (by decide)); (case xb => rfl); (case xc => rfl); (case xe => rfl); try dsimp only [P0.d, Res.d, List.map_cons, List.map_nil, List.set_cons_zero, List.set_cons_succ, Nat.reduceAdd]) | ((first | refine aw_ways rfl ?_ ?_ | refine r_split rfl rfl rfl ?_ ?_) <;> intro hg_ <;> fail_if_success (exact Bool.noConfusion hg_)) <;> (try simp only [prn] at hg_) <;> (try first | contradiction | (exfalso; omega)))
      all_goals first
        | exact ret_D [(2000001, 33)] rfl (by (repeat' (first | exact trivial | refine subHR_cons rfl ?_ ?_ | rfl | exact ob_sl rfl hE))) (retD_two (x := (true, _)) (y := (false, [_])) (ret1_cell rfl rfl (by (with_reducible first | exact ty3 | exact ty4 | exact ty5 | exact ty9 | exact ty17 | exact ty19 | exact ty22 | exact ty24 | exact ty26 | exact ty28 | exact ty30 | exact ty34 | exact ty39 | exact ty47 | exact ty49 | exact ty54 | exact ty56 | exact ty57 | exact ty58 | exact ty60 | exact ty69 | exact ty72 | exact ty83 | exact ty88 | exact ty119 | exact ty124 | exact ty125 | exact ty133 | exact ty145 | exact ty146 | exact ty149 | exact ty156 | exact ty157 | exact ty161 | exact ty165 | exact ty167 | exact ty168)) rfl rfl rfl) rfl (ret1_tmp rfl) rfl (imp_refl (tups2 (list2 rfl (cell_own hXl)) rfl)))
        | exact ret_D [(2000001, 502)] rfl (by (repeat' (first | exact trivial | refine subHR_cons rfl ?_ ?_ | rfl))) (retD_two (x := (true, _)) (y := (false, [_])) (ret1_cell rfl rfl (by (with_reducible first | exact ty3 | exact ty4 | exact ty5 | exact ty9 | exact ty17 | exact ty19 | exact ty22 | exact ty24 | exact ty26 | exact ty28 | exact ty30 | exact ty34 | exact ty39 | exact ty47 | exact ty49 | exact ty54 | exact ty56 | exact ty57 | exact ty58 | exact ty60 | exact ty69 | exact ty72 | exact ty83 | exact ty88 | exact ty119 | exact ty124 | exact ty125 | exact ty133 | exact ty145 | exact ty146 | exact ty149 | exact ty156 | exact ty157 | exact ty161 | exact ty165 | exact ty167 | exact ty168)) rfl rfl rfl) rfl (ret1_tmp rfl) rfl (imp_refl (tups2 (list2 rfl rfl) rfl)))
        | trace_state
end Go.Proofs.Ythjnidcmhegoeaa.Abs
