/- FnWrongHops by states: the law's walk. -/
import Derived.Test.YtfdaoepbdolgiaaDoorTy
import Derived.Lib.Hide
import Derived.Test.YtfdaoepbdolgiaaDoorLHopU
set_option linter.unusedSimpArgs false
set_option linter.unusedVariables false
namespace Go.Proofs.YtfdaoepbdolgiaaDoor.Abs
open Go.RowKit
open R (val row ref)

set_option maxRecDepth 100000 in
set_option maxHeartbeats 8000000 in
theorem f_lawWrongHops (nb : Bool) (code : List Int) (hB : Byte code) (hl : code.length ≤ 1048576) : Fn Tryd.prog 4 [.one (row nb 1 (bys code))] (.v (.one (bool true))) := by
  obtain ⟨nE, m, es, s, ⟨e1, e2, e3, e4, e5, e6⟩, KD⟩ := f_drawAt nb code hB hl
  have hel : es.length ≤ 1048576 := by omega
  have KS := f_specHopsFrom m nE es s hel
  have hcl := bys_len code
  cases hv : (gOk m es && inR 0 (m - 1) s)
  · have KI := f_implHopsNo m nE es s hel hv
    have hF : hopsF m es s = [] := by unfold hopsF; rw [hv]; rfl
    rw [hF] at KS
    have KE := f_sameInts2 true false [] (by simp)
    refine fn_of (l := [.tmp 2]) Tryd.func4 (by kernel_rfl) rfl Tryd.ntmps4 rfl rfl ?_; simp only [argEnv, P0.d, Nat.reduceAdd, graphP, List.map_cons, List.map_nil]
    repeat' (first | (with_reducible first | refine aw_seq ?_ | refine thn_normal ?_ | refine thn_ret ?_ | refine thn_exit ?_ | refine blk_normal ?_ | refine blk_ret ?_ | refine blk_hit ?_ | refine blk_miss rfl ?_ | refine aw_block ?_ | refine aw_ret ?_ | refine aw_skip ?_ | refine aw_exit ?_ | refine w_nil ?_ | refine x_nil (by kernel_rfl) ?_) | refine aw_region ?_ | refine aw_region_draw (by kernel_rfl) ?_ | refine aw_yes rfl ?_ | refine aw_no rfl ?_ | ((with_reducible refine w_seq ?_); first | refine r_q tbOk rfl rfl rfl rfl ?_ | refine r_e tbOk rfl rfl rfl rfl rfl ?_ | refine r_yes tbOk rfl rfl rfl rfl rfl rfl ?_ | refine w_no rfl rfl (lookO_spec rfl) rfl rfl rfl ?_ | refine w_un rfl rfl (lookO_spec rfl) rfl rfl ?_) | ((with_reducible refine w_drw ?_); first | refine rx_q tbOk rfl rfl rfl rfl ?_ | refine rx_e tbOk rfl rfl rfl rfl rfl ?_ | refine rx_yes tbOk rfl rfl rfl rfl rfl rfl ?_ | refine x_no rfl rfl (lookO_spec rfl) rfl rfl rfl ?_ | refine x_un rfl rfl (lookO_spec rfl) rfl rfl ?_) | ((first | refine' w_q rfl rfl ?xa rfl ?_ | refine' v_q rfl rfl ?xa rfl ?_ | refine' w_yes rfl rfl (lookO_spec rfl) rfl ?xa rfl ?_ | refine' v_yes rfl rfl (lookO_spec rfl) rfl ?xa rfl ?_); case xa => first | exact k_call KD rfl ⟨asA_r (evO_spec rfl), trivial⟩ | exact k_call KI rfl ⟨asA_agg (evO_spec rfl) ⟨cAr_r, cAr_r, trivial⟩, asA_r (evO_spec rfl), trivial⟩ | exact k_call KE rfl ⟨asA_r (evO_spec rfl), asA_own0H (evO_spec rfl) (lookHO_spec rfl) rfl, trivial⟩ | exact k_call f_alive2 rfl trivial) | ((first | refine' w_e rfl ?xa ?xb ?xc ?xe ?_ | refine' v_e rfl ?xa ?xb ?xc ?xe ?_); (case xa => exact e_callO KS rfl rfl ⟨asA_agg (evO_spec rfl) ⟨cAr_r, cAr_r, trivial⟩, asA_r (evO_spec rfl), trivial⟩); (case xb => rfl); (case xc => rfl); (case xe => rfl); try dsimp only [P0.d, Res.d, List.map_cons, List.map_nil, List.set_cons_zero, List.set_cons_succ, Nat.reduceAdd]) | ((first | refine aw_ways rfl ?_ ?_ | refine r_split rfl rfl rfl ?_ ?_) <;> intro hg_ <;> fail_if_success (exact Bool.noConfusion hg_)) <;> (try simp only [prn] at hg_) <;> (try first | contradiction | (exfalso; omega)))
    all_goals first
      | exact ret_tmp rfl (dres_bool rfl)
      | trace_state
  · have KI := f_implHopsFrom m nE es s hel hv
    have hL := hopsF_len hv
    have hbd := hopsF_in (m := m) (es := es) (s := s)
    have hgk : gOk m es = true := by cases h : gOk m es <;> simp_all
    have hR : inR 0 (m - 1) s = true := by cases h : inR 0 (m - 1) s <;> simp_all
    have hpos : 0 < m := by unfold inR at hR; simp at hR; omega
    have hOk := fun ys => hopsOk_iff (ys := ys) hgk hR
    generalize hopsF m es s = xs at *
    have KE := f_sameInts2 false false xs (by omega)
    have hxl := ints_len xs
    obtain ⟨A, hA⟩ : ∃ A : Nat, A = code.length % xs.length := ⟨_, rfl⟩
    have hAlt : A < xs.length := by rw [hA]; exact Nat.mod_lt _ (by omega)
    have hAr : ((bys code).length : Int).tmod ((ints xs).length : Int) = (A : Int) := by
      rw [hxl, hcl, hA, Int.tmod_eq_emod_of_nonneg (by omega)]; rfl
    have hxA := hbd xs[A] (List.getElem_mem hAlt)
    have hgA : xs.getD (0 + ((A : Nat) : Int).toNat) 0 = xs[A] := by
      rw [Int.toNat_natCast, Nat.zero_add, List.getD_eq_getElem?_getD, List.getElem?_eq_getElem hAlt]; rfl
    have hw : IntKind.i64.wrap (xs.getD (0 + ((A : Nat) : Int).toNat) 0 + 1) = xs[A] + 1 := by rw [hgA]; exact IntWalk.i64_in _ (by omega)
    have hbI : ∀ z ∈ xs, I64 z := fun z hz => by have := hbd z hz; unfold I64; omega
    have KR1 := f_implHopsRight m nE false es s xs hel (by omega) hbI
    have KR2 := f_implHopsRight m nE false es s (xs.set A (xs[A] + 1)) hel (by rw [List.length_set]; omega) (fun z hz => by
      rcases List.mem_or_eq_of_mem_set hz with h | h
      · exact hbI z h
      · rw [h]; unfold I64; omega)
    rw [hOk, decide_eq_true rfl] at KR1
    rw [hOk, decide_eq_false (fun h => by
      have h2 := congrArg (fun l => l.getD A 0) h
      simp only [List.getD_eq_getElem?_getD, List.getElem?_set_self hAlt, List.getElem?_eq_getElem hAlt, Option.getD_some] at h2
      omega)] at KR2
    have hset : (ints xs).set (0 + ((A : Nat) : Int).toNat) (iP (IntKind.i64.wrap (xs.getD (0 + ((A : Nat) : Int).toNat) 0 + 1))) = ints (xs.set A (xs[A] + 1)) := by rw [hw, ints_set, Int.toNat_natCast, Nat.zero_add]
    have hsl : ((ints xs).set (0 + ((A : Nat) : Int).toNat) (iP (IntKind.i64.wrap (xs.getD (0 + ((A : Nat) : Int).toNat) 0 + 1)))).length = xs.length := by rw [List.length_set, hxl]
    clear hOk hbd hbI hxA hgA
    refine fn_of (l := [.tmp 2]) Tryd.func4 (by kernel_rfl) rfl Tryd.ntmps4 rfl rfl ?_; simp only [argEnv, P0.d, Nat.reduceAdd, graphP, List.map_cons, List.map_nil]
    repeat' (first | (with_reducible first | refine aw_seq ?_ | refine thn_normal ?_ | refine thn_ret ?_ | refine thn_exit ?_ | refine blk_normal ?_ | refine blk_ret ?_ | refine blk_hit ?_ | refine blk_miss rfl ?_ | refine aw_block ?_ | refine aw_ret ?_ | refine aw_skip ?_ | refine aw_exit ?_ | refine w_nil ?_ | refine x_nil (by kernel_rfl) ?_) | refine aw_region ?_ | refine aw_region_draw (by kernel_rfl) ?_ | refine aw_yes rfl ?_ | refine aw_no rfl ?_ | ((with_reducible refine w_seq ?_); first | refine r_q tbOk rfl rfl rfl rfl ?_ | refine r_e tbOk rfl rfl rfl rfl rfl ?_ | refine r_yes tbOk rfl rfl rfl rfl rfl rfl ?_ | refine w_no rfl rfl (lookO_spec rfl) rfl rfl rfl ?_ | refine w_un rfl rfl (lookO_spec rfl) rfl rfl ?_) | ((with_reducible refine w_drw ?_); first | refine rx_q tbOk rfl rfl rfl rfl ?_ | refine rx_e tbOk rfl rfl rfl rfl rfl ?_ | refine rx_yes tbOk rfl rfl rfl rfl rfl rfl ?_ | refine x_no rfl rfl (lookO_spec rfl) rfl rfl rfl ?_ | refine x_un rfl rfl (lookO_spec rfl) rfl rfl ?_) | ((first | refine' w_q rfl rfl ?xa rfl ?_ | refine' v_q rfl rfl ?xa rfl ?_ | refine' w_yes rfl rfl (lookO_spec rfl) rfl ?xa rfl ?_ | refine' v_yes rfl rfl (lookO_spec rfl) rfl ?xa rfl ?_); case xa => first | exact k_call KD rfl ⟨asA_r (evO_spec rfl), trivial⟩ | exact k_call KE rfl ⟨asA_own0H (evO_spec rfl) (lookHO_spec rfl) rfl, asA_own0H (evO_spec rfl) (lookHO_spec rfl) rfl, trivial⟩ | exact k_call f_alive2 rfl trivial | exact k_remE rfl rfl rfl (by omega) hAr | exact k_indexO tbOk rfl rfl rfl rfl (by omega) (by simp only [List.length_nil]; omega) | exact k_loadI (xs := xs) tbOk rfl rfl rfl rfl (by omega) | exact k_call KR1 rfl ⟨asA_agg (evO_spec rfl) ⟨cAr_r, cAr_r, trivial⟩, asA_r (evO_spec rfl), asA_own0H (evO_spec rfl) (lookHO_spec rfl) rfl, trivial⟩ | exact k_call KR2 rfl ⟨asA_agg (evO_spec rfl) ⟨cAr_r, cAr_r, trivial⟩, asA_r (evO_spec rfl), asA_ownE (evO_spec rfl) (lookHO_spec rfl) (by rw [List.length_set]; simp only [List.nil_append, List.length_nil, Nat.zero_add]) hset, trivial⟩) | ((first | refine' w_e rfl ?xa ?xb ?xc ?xe ?_ | refine' v_e rfl ?xa ?xb ?xc ?xe ?_); (case xa => first | exact e_callO KI rfl rfl ⟨asA_agg (evO_spec rfl) ⟨cAr_r, cAr_r, trivial⟩, asA_r (evO_spec rfl), trivial⟩ | exact e_callO KS rfl rfl ⟨asA_agg (evO_spec rfl) ⟨cAr_r, cAr_r, trivial⟩, asA_r (evO_spec rfl), trivial⟩ | exact e_build [] tlOk rfl rfl rfl rfl rfl rfl (by simp [AllN]) (by simp) | exact e_append tlOk rfl rfl rfl rfl rfl rfl (slD_plain (slD_own (lookHO_spec rfl) rfl) (ints_plain _)) rfl (by simp only [maxLen, List.length_nil]; omega) (by simp only [List.length_nil]; omega) | exact e_storeS tbOk rfl rfl rfl rfl rfl rfl rfl rfl (by simp only [List.nil_append]; omega)); (case xb => rfl); (case xc => rfl); (case xe => rfl); try dsimp only [P0.d, Res.d, List.map_cons, List.map_nil, List.set_cons_zero, List.set_cons_succ, Nat.reduceAdd]) | ((first | refine aw_ways rfl ?_ ?_ | refine r_split rfl rfl rfl ?_ ?_) <;> intro hg_ <;> fail_if_success (exact Bool.noConfusion hg_)) <;> (try simp only [prn] at hg_) <;> (try first | contradiction | (exfalso; omega)))
    all_goals first
      | exact ret_tmp rfl (dres_bool rfl)
      | (exfalso; simp at hg_; omega)
      | (exfalso; omega)
      | trace_state
set_option maxRecDepth 100000 in
set_option maxHeartbeats 2000000 in
theorem law_hopW (nb : Bool) (code : List Int) (hB : Byte code) : Fn Tryd.prog 4 [.one (row nb 1 (bys code))] (.v (.one (bool true))) := by
  by_cases hl : code.length ≤ 1048576
  · exact f_lawWrongHops nb code hB hl
  · have hlb := bys_len code
    refine fn_of (l := [.tmp 2]) Tryd.func4 (by kernel_rfl) rfl Tryd.ntmps4 rfl rfl ?_; simp only [argEnv, P0.d, Nat.reduceAdd]
    repeat' (first | (with_reducible first | refine aw_seq ?_ | refine thn_normal ?_ | refine thn_ret ?_ | refine thn_exit ?_ | refine blk_normal ?_ | refine blk_ret ?_ | refine blk_hit ?_ | refine blk_miss rfl ?_ | refine aw_block ?_ | refine aw_ret ?_ | refine aw_skip ?_ | refine aw_exit ?_ | refine w_nil ?_ | refine x_nil (by kernel_rfl) ?_) | refine aw_region ?_ | refine aw_region_draw (by kernel_rfl) ?_ | refine aw_yes rfl ?_ | refine aw_no rfl ?_ | ((with_reducible refine w_seq ?_); first | refine r_q tbOk rfl rfl rfl rfl ?_ | refine r_e tbOk rfl rfl rfl rfl rfl ?_ | refine r_yes tbOk rfl rfl rfl rfl rfl rfl ?_ | refine w_no rfl rfl (lookO_spec rfl) rfl rfl rfl ?_ | refine w_un rfl rfl (lookO_spec rfl) rfl rfl ?_) | ((with_reducible refine w_drw ?_); first | refine rx_q tbOk rfl rfl rfl rfl ?_ | refine rx_e tbOk rfl rfl rfl rfl rfl ?_ | refine rx_yes tbOk rfl rfl rfl rfl rfl rfl ?_ | refine x_no rfl rfl (lookO_spec rfl) rfl rfl rfl ?_ | refine x_un rfl rfl (lookO_spec rfl) rfl rfl ?_) | ((first | refine aw_ways rfl ?_ ?_ | refine r_split rfl rfl rfl ?_ ?_) <;> intro hg_ <;> fail_if_success (exact Bool.noConfusion hg_)) <;> (try simp only [prn] at hg_) <;> (try first | contradiction | (exfalso; omega)))
    all_goals first
      | exact ret_tmp rfl (dres_bool rfl)
      | (exfalso; omega)
      | trace_state
end Go.Proofs.YtfdaoepbdolgiaaDoor.Abs
