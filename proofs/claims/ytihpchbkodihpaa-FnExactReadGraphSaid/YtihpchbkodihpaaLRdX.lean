/- FnExactReadGraph by states: the law's walk. -/
import Derived.Test.YtihpchbkodihpaaTy
import Derived.Lib.Hide
import Derived.Test.YtihpchbkodihpaaAExH
import Derived.Test.YtihpchbkodihpaaAImF
import Derived.Test.YtihpchbkodihpaaASpF
import Derived.Test.YtihpchbkodihpaaADrS
set_option linter.unusedSimpArgs false
set_option linter.unusedVariables false
namespace Go.Proofs.Ytihpchbkodihpaa.Abs
open Go.RowKit
open R (val row ref)

theorem f_heldGraph0 (m : Int) (nil : Bool) (k : Int) (h0 : 0 ≤ k) (hk : k ≤ 100000000) : Fn Try.prog 23 [graphP m nil [], iP k] (.v (iP k)) := by
  have := f_heldGraph m nil k 0 h0 hk (by omega)
  rwa [show k + 3 * ((0 : Nat) : Int) = k by omega] at this
set_option maxRecDepth 100000 in
set_option maxHeartbeats 8000000 in
theorem f_lawRdX0 (nil : Bool) (xs : List Int) (he : xs.length ≤ 1048576) (m : Int) (ok : Bool)
    (KI : Fn Try.prog 29 [.one (row false 1 (ints xs))] (.tup [graphP m true [], .one (bool ok)]))
    (KS : Fn Try.prog 27 [.one (row false 1 (ints xs))] (.tup [graphP m true [], .one (bool ok)])) : Fn Try.prog 6 [.one (row nil 1 (ints xs))] (.v (.one (bool true))) := by
  have hlen := ints_len xs
  have KT := f_toIntS nil xs he
  have KTO := f_toIntSO nil xs he
  have KX := f_eqIntS false false xs he
  have KMX := f_markIntS xs 1 (by omega) (by omega) he
  rw [← hlen] at KMX
  have KQ := f_eqGraph m true true [] (by simp)
  have KMG := f_markGraph0 m true 1
  have KHG := f_heldGraph0 m true 1 (by omega) (by omega)
  refine fn_of (l := [.tmp 2]) Try.func6 (by kernel_rfl) rfl Try.ntmps6 rfl rfl ?_; simp only [argEnv, P0.d, Nat.reduceAdd]
  repeat' (first | (with_reducible first | refine aw_seq ?_ | refine thn_normal ?_ | refine thn_ret ?_ | refine thn_exit ?_ | refine blk_normal ?_ | refine blk_ret ?_ | refine blk_hit ?_ | refine blk_miss rfl ?_ | refine aw_block ?_ | refine aw_ret ?_ | refine aw_skip ?_ | refine aw_exit ?_ | refine w_nil ?_ | refine x_nil (by kernel_rfl) ?_) | refine aw_region ?_ | refine aw_region_draw (by kernel_rfl) ?_ | refine aw_yes rfl ?_ | refine aw_no rfl ?_ | ((with_reducible refine w_seq ?_); first | refine r_q tbOk rfl rfl rfl rfl ?_ | refine r_e tbOk rfl rfl rfl rfl rfl ?_ | refine r_yes tbOk rfl rfl rfl rfl rfl rfl ?_ | refine w_no rfl rfl (lookO_spec rfl) rfl rfl rfl ?_ | refine w_un rfl rfl (lookO_spec rfl) rfl rfl ?_) | ((with_reducible refine w_drw ?_); first | refine rx_q tbOk rfl rfl rfl rfl ?_ | refine rx_e tbOk rfl rfl rfl rfl rfl ?_ | refine rx_yes tbOk rfl rfl rfl rfl rfl rfl ?_ | refine x_no rfl rfl (lookO_spec rfl) rfl rfl rfl ?_ | refine x_un rfl rfl (lookO_spec rfl) rfl rfl ?_) | ((first | refine' w_q rfl rfl ?xa rfl ?_ | refine' v_q rfl rfl ?xa rfl ?_ | refine' w_yes rfl rfl (lookO_spec rfl) rfl ?xa rfl ?_ | refine' v_yes rfl rfl (lookO_spec rfl) rfl ?xa rfl ?_); case xa => first | exact k_at 18 rfl (k_call KT rfl ⟨asA_r (evO_spec rfl), trivial⟩) | exact k_at 40 rfl (k_call KT rfl ⟨asA_r (evO_spec rfl), trivial⟩) | exact k_at 72 rfl (k_call KT rfl ⟨asA_r (evO_spec rfl), trivial⟩) | exact k_call KS rfl ⟨asA_r (evO_spec rfl), trivial⟩ | exact k_at 26 rfl (k_call KI rfl ⟨asA_own0H (evO_spec rfl) (lookHO_spec rfl) rfl, trivial⟩) | exact k_at 73 rfl (k_call KI rfl ⟨asA_r (evO_spec rfl), trivial⟩) | exact k_call KQ rfl ⟨asA_agg (evO_spec rfl) ⟨cAr_r, cAr_r, trivial⟩, asA_agg (evO_spec rfl) ⟨cAr_r, cAr_r, trivial⟩, trivial⟩ | exact k_call KX rfl ⟨asA_own0H (evO_spec rfl) (lookHO_spec rfl) rfl, asA_r (evO_spec rfl), trivial⟩ | exact k_call KMG rfl ⟨asA_agg (evO_spec rfl) ⟨cAr_r, cAr_r, trivial⟩, asA_r (evO_spec rfl), trivial⟩ | exact k_call KHG rfl ⟨asA_agg (evO_spec rfl) ⟨cAr_r, cAr_r, trivial⟩, asA_r (evO_spec rfl), trivial⟩ | exact k_neB bo4 rfl rfl rfl) | ((first | refine' w_e rfl ?xa ?xb ?xc ?xe ?_ | refine' v_e rfl ?xa ?xb ?xc ?xe ?_); (case xa => first | exact at_dst 23 rfl (e_callO KTO rfl rfl ⟨asA_r (evO_spec rfl), trivial⟩) | exact e_callS [(1000000000, 23)] KMX rfl ⟨asD_ren (evO_spec rfl), by rw [evO_spec rfl]; exact asD_r rfl, trivial⟩ (by (repeat' (first | exact trivial | refine subHR_cons rfl ?_ ?_ | rfl))) rfl); (case xb => rfl); (case xc => rfl); (case xe => rfl); try dsimp only [P0.d, Res.d, List.map_cons, List.map_nil, List.set_cons_zero, List.set_cons_succ, Nat.reduceAdd]) | ((first | refine aw_ways rfl ?_ ?_ | refine r_split rfl rfl rfl ?_ ?_) <;> intro hg_ <;> fail_if_success (exact Bool.noConfusion hg_)) <;> (try simp only [prn] at hg_) <;> (try first | contradiction | (exfalso; omega)))
  all_goals first
    | exact ret_tmp rfl (dres_bool rfl)
    | (exfalso; first | omega | (simp at hg_; done) | (simp at hg_; omega))
    | trace_state
set_option maxRecDepth 100000 in
set_option maxHeartbeats 8000000 in
theorem f_lawRdX1 (nil : Bool) (m : Int) (es : List E3) (hg : gOk m es = true) (hne : es ≠ []) : Fn Try.prog 6 [.one (row nil 1 (ints (bytesG m es)))] (.v (.one (bool true))) := by
  have hX := bytesG_len hg
  have h40 := gOk_len hg
  have he : (bytesG m es).length ≤ 1048576 := by omega
  have hlen := ints_len (bytesG m es)
  have hle := edges_len es
  have KIS := f_implReadGraphS false m es hg hne
  have KI := f_implReadGraph false (bytesG m es) he
  have KS := f_specReadGraph false (bytesG m es) he
  rw [readG_bytesG hg] at KI KS
  unfold graphRes at KI KS
  dsimp only at KI KS
  rw [show decide (es = []) = false by simp [hne]] at KI KS
  have KT := f_toIntS nil (bytesG m es) he
  have KTO := f_toIntSO nil (bytesG m es) he
  have KX := f_eqIntS false false (bytesG m es) he
  have KMX := f_markIntS (bytesG m es) 1 (by omega) (by omega) he
  rw [← hlen] at KMX
  have KQ := f_eqGraph m false false es (by omega)
  have KMG := f_markGraph true m es 1 (by omega) (by omega) (by omega)
  rw [mixE_all] at KMG
  have KHG := f_heldGraph m false 1 es.length (by omega) (by omega) (by omega)
  have hlu : es.length = (edges (upE 1 es.length)).length := by rw [edges_len, upE_len]
  generalize bytesG m es = xs at *
  refine fn_of (l := [.tmp 2]) Try.func6 (by kernel_rfl) rfl Try.ntmps6 rfl rfl ?_; simp only [argEnv, P0.d, Nat.reduceAdd]
  repeat' (first | (with_reducible first | refine aw_seq ?_ | refine thn_normal ?_ | refine thn_ret ?_ | refine thn_exit ?_ | refine blk_normal ?_ | refine blk_ret ?_ | refine blk_hit ?_ | refine blk_miss rfl ?_ | refine aw_block ?_ | refine aw_ret ?_ | refine aw_skip ?_ | refine aw_exit ?_ | refine w_nil ?_ | refine x_nil (by kernel_rfl) ?_) | refine aw_region ?_ | refine aw_region_draw (by kernel_rfl) ?_ | refine aw_yes rfl ?_ | refine aw_no rfl ?_ | ((with_reducible refine w_seq ?_); first | refine r_q tbOk rfl rfl rfl rfl ?_ | refine r_e tbOk rfl rfl rfl rfl rfl ?_ | refine r_yes tbOk rfl rfl rfl rfl rfl rfl ?_ | refine w_no rfl rfl (lookO_spec rfl) rfl rfl rfl ?_ | refine w_un rfl rfl (lookO_spec rfl) rfl rfl ?_) | ((with_reducible refine w_drw ?_); first | refine rx_q tbOk rfl rfl rfl rfl ?_ | refine rx_e tbOk rfl rfl rfl rfl rfl ?_ | refine rx_yes tbOk rfl rfl rfl rfl rfl rfl ?_ | refine x_no rfl rfl (lookO_spec rfl) rfl rfl rfl ?_ | refine x_un rfl rfl (lookO_spec rfl) rfl rfl ?_) | ((first | refine' w_q rfl rfl ?xa rfl ?_ | refine' v_q rfl rfl ?xa rfl ?_ | refine' w_yes rfl rfl (lookO_spec rfl) rfl ?xa rfl ?_ | refine' v_yes rfl rfl (lookO_spec rfl) rfl ?xa rfl ?_); case xa => first | exact k_at 18 rfl (k_call KT rfl ⟨asA_r (evO_spec rfl), trivial⟩) | exact k_at 40 rfl (k_call KT rfl ⟨asA_r (evO_spec rfl), trivial⟩) | exact k_at 72 rfl (k_call KT rfl ⟨asA_r (evO_spec rfl), trivial⟩) | exact k_call KS rfl ⟨asA_r (evO_spec rfl), trivial⟩ | exact k_at 73 rfl (k_call KI rfl ⟨asA_r (evO_spec rfl), trivial⟩) | exact k_call KQ rfl ⟨asA_agg (evO_spec rfl) ⟨cAr_r, cAr_own0 (lookHO_spec rfl) hle.symm, trivial⟩, asA_agg (evO_spec rfl) ⟨cAr_r, cAr_r, trivial⟩, trivial⟩ | exact k_call KQ rfl ⟨asA_agg (evO_spec rfl) ⟨cAr_r, cAr_r, trivial⟩, asA_agg (evO_spec rfl) ⟨cAr_r, cAr_r, trivial⟩, trivial⟩ | exact k_call KX rfl ⟨asA_own0H (evO_spec rfl) (lookHO_spec rfl) rfl, asA_r (evO_spec rfl), trivial⟩ | exact k_call KHG rfl ⟨asA_agg (evO_spec rfl) ⟨cAr_r, cAr_own0 (lookHO_spec rfl) hlu, trivial⟩, asA_r (evO_spec rfl), trivial⟩ | exact k_neB bo4 rfl rfl rfl) | ((first | refine' w_e rfl ?xa ?xb ?xc ?xe ?_ | refine' v_e rfl ?xa ?xb ?xc ?xe ?_); (case xa => first | exact at_dst 23 rfl (e_callO KTO rfl rfl ⟨asA_r (evO_spec rfl), trivial⟩) | exact at_dst 26 rfl (e_callS0 (ys := [.one (row false 1 (ints xs))]) [(2000001, 501)] KIS rfl rfl ⟨by rw [evO_spec rfl]; exact cAr_own0 (lookHO_spec rfl) rfl, trivial⟩ rfl rfl) | exact e_callS [(1000000000, 23)] KMX rfl ⟨asD_ren (evO_spec rfl), by rw [evO_spec rfl]; exact asD_r rfl, trivial⟩ (by (repeat' (first | exact trivial | refine subHR_cons rfl ?_ ?_ | rfl))) rfl | exact e_callS [(1000000000, 501)] KMG rfl ⟨asD_ren (evO_spec rfl), by rw [evO_spec rfl]; exact asD_r rfl, trivial⟩ (by (repeat' (first | exact trivial | refine subHR_cons rfl ?_ ?_ | rfl))) rfl); (case xb => rfl); (case xc => rfl); (case xe => rfl); try dsimp only [P0.d, Res.d, List.map_cons, List.map_nil, List.set_cons_zero, List.set_cons_succ, Nat.reduceAdd]) | ((first | refine aw_ways rfl ?_ ?_ | refine r_split rfl rfl rfl ?_ ?_) <;> intro hg_ <;> fail_if_success (exact Bool.noConfusion hg_)) <;> (try simp only [prn] at hg_) <;> (try first | contradiction | (exfalso; omega)))
  all_goals first
    | exact ret_tmp rfl (dres_bool rfl)
    | (exfalso; first | omega | (simp at hg_; done) | (simp at hg_; omega))
    | trace_state
set_option maxRecDepth 100000 in
set_option maxHeartbeats 8000000 in
theorem law_rdX (nil : Bool) (xs : List Int) (hl : xs.length ≤ 9223372036854775807) : Fn Try.prog 6 [.one (row nil 1 (ints xs))] (.v (.one (bool true))) := by
  have hlen := ints_len xs
  by_cases he : xs.length ≤ 1048576
  · have KI := f_implReadGraph false xs he
    have KS := f_specReadGraph false xs he
    cases hr : readG xs with
    | none =>
      rw [hr] at KI KS
      exact f_lawRdX0 nil xs he _ _ KI KS
    | some r =>
      obtain ⟨m, es⟩ := r
      obtain ⟨hxs, hg⟩ := readG_canon hr
      rw [hr] at KI KS
      by_cases hne : es = []
      · subst hne
        unfold graphRes at KI KS
        dsimp only at KI KS
        rw [show decide (([] : List E3) = []) = true by simp] at KI KS
        exact f_lawRdX0 nil xs he _ _ KI KS
      · rw [hxs]
        exact f_lawRdX1 nil m es hg hne
  · refine fn_of (l := [.tmp 2]) Try.func6 (by kernel_rfl) rfl Try.ntmps6 rfl rfl ?_; simp only [argEnv, P0.d, Nat.reduceAdd]
    repeat' (first | (with_reducible first | refine aw_seq ?_ | refine thn_normal ?_ | refine thn_ret ?_ | refine thn_exit ?_ | refine blk_normal ?_ | refine blk_ret ?_ | refine blk_hit ?_ | refine blk_miss rfl ?_ | refine aw_block ?_ | refine aw_ret ?_ | refine aw_skip ?_ | refine aw_exit ?_ | refine w_nil ?_ | refine x_nil (by kernel_rfl) ?_) | refine aw_region ?_ | refine aw_region_draw (by kernel_rfl) ?_ | refine aw_yes rfl ?_ | refine aw_no rfl ?_ | ((with_reducible refine w_seq ?_); first | refine r_q tbOk rfl rfl rfl rfl ?_ | refine r_e tbOk rfl rfl rfl rfl rfl ?_ | refine r_yes tbOk rfl rfl rfl rfl rfl rfl ?_ | refine w_no rfl rfl (lookO_spec rfl) rfl rfl rfl ?_ | refine w_un rfl rfl (lookO_spec rfl) rfl rfl ?_) | ((with_reducible refine w_drw ?_); first | refine rx_q tbOk rfl rfl rfl rfl ?_ | refine rx_e tbOk rfl rfl rfl rfl rfl ?_ | refine rx_yes tbOk rfl rfl rfl rfl rfl rfl ?_ | refine x_no rfl rfl (lookO_spec rfl) rfl rfl rfl ?_ | refine x_un rfl rfl (lookO_spec rfl) rfl rfl ?_) | ((first | refine aw_ways rfl ?_ ?_ | refine r_split rfl rfl rfl ?_ ?_) <;> intro hg_ <;> fail_if_success (exact Bool.noConfusion hg_)) <;> (try simp only [prn] at hg_) <;> (try first | contradiction | (exfalso; omega)))
    all_goals first
      | exact ret_tmp rfl (dres_bool rfl)
      | (exfalso; first | omega | (simp at hg_; done) | (simp at hg_; omega))
      | trace_state
end Go.Proofs.Ytihpchbkodihpaa.Abs
