/- The law FnChannelStep by states. -/
import Derived.Test.YtjjeihcmiofkmaaTy
import Derived.Lib.Hide
import Derived.Test.YtjjeihcmiofkmaaAChD
import Derived.Test.YtjjeihcmiofkmaaAChL
import Derived.Test.YtjjeihcmiofkmaaAChA
import Derived.Test.YtjjeihcmiofkmaaAChS
import Derived.Test.YtjjeihcmiofkmaaAChZ
set_option linter.unusedSimpArgs false
set_option linter.unusedVariables false
namespace Go.Proofs.Ytjjeihcmiofkmaa.Abs
open Go.RowKit
open R (val row ref)

theorem stepR_facts {c : Ch} {s : Int} : (c.ok = false ∧ stepR c s = (zeroCh, false)) ∨ (Ch.Good c ∧ stepR c s = c.step s ∧ Ch.Good (stepR c s).1 ∧ (stepR c s).1.vs = c.vs ∧ c.kn ≤ (stepR c s).1.kn ∧ c.got.length ≤ (stepR c s).1.got.length ∧ (stepR c s).1.got.length ≤ c.got.length + 1 ∧ ((stepR c s).2 = false → (stepR c s).1 = c)) := by
  cases ho : c.ok with
  | false => exact .inl ⟨rfl, by unfold stepR; rw [ho]; rfl⟩
  | true =>
    have e : stepR c s = c.step s := by unfold stepR; rw [ho]; rfl
    have hG := Ch.ok_iff.1 ho
    rw [e]
    exact .inr ⟨hG, rfl, hG.step s⟩
set_option maxRecDepth 100000 in
set_option maxHeartbeats 8000000 in
theorem law_chStep (nb : Bool) (code : List Int) (hB : Byte code) : Fn Try.prog 4 [.one (row nb 1 (bys code))] (.v (.one (bool true))) := by
  have hlb := bys_len code
  by_cases hl : code.length ≤ 1048576
  · obtain ⟨nG, nP, nR, ⟨vs, kn, got, ps, rs⟩, s, ⟨e1, e2, e3, e4, e5, e6, e7⟩, KD⟩ := f_drawStep nb code hB hl
    dsimp only at e1 e2 e3 e4 e5 e6 e7
    have KI := f_implChStep false nG nP nR vs kn got ps rs s ⟨(fun h => by cases h), e1, e2, e3⟩ (by omega) (by omega) (by omega) (by omega)
    have KS := f_specChStep false nG nP nR vs kn got ps rs s (by omega) (by omega) (by omega) (by omega)
    have hf := stepR_facts (c := ⟨vs, kn, got, ps, rs⟩) (s := s)
    generalize (stNil ⟨vs, kn, got, ps, rs⟩ s false nG nP nR).1 = i1 at *
    generalize (stNil ⟨vs, kn, got, ps, rs⟩ s false nG nP nR).2.1 = i2 at *
    generalize (stNil ⟨vs, kn, got, ps, rs⟩ s false nG nP nR).2.2.1 = i3 at *
    generalize (stNil ⟨vs, kn, got, ps, rs⟩ s false nG nP nR).2.2.2 = i4 at *
    generalize hx : (!Ch.ok ⟨vs, kn, got, ps, rs⟩) = s1 at KS
    clear hx
    generalize Ch.step ⟨vs, kn, got, ps, rs⟩ s = st at *
    generalize stepR ⟨vs, kn, got, ps, rs⟩ s = r at *
    obtain ⟨⟨vs', kn', got', ps', rs'⟩, b⟩ := r
    dsimp only at KI KS hf
    have hlen : vs'.length ≤ 1048576 ∧ got'.length ≤ 1048576 ∧ ps'.length ≤ 1048576 ∧ rs'.length ≤ 1048576 := by
      rcases hf with ⟨_, h⟩ | ⟨_, _, hg, _⟩
      · injection h with h1 h2
        unfold zeroCh at h1
        injection h1 with h1 h3 h4 h5 h6
        subst h1 h4 h5 h6
        simp
      · have a1 := hg.vsl
        have a2 := hg.len
        have a3 := hg.psl
        have a4 := hg.rsl
        dsimp only at a1 a2 a3 a4
        omega
    have KE := f_sameCh i1 i2 i3 i4 s1 s1 s1 s1 vs' kn' got' ps' rs' hlen.1 hlen.2.1 hlen.2.2.1 hlen.2.2.2
    have l0 := ints_len vs'
    have l1 := ints_len got
    have l2 := ints_len got'
    cases b with
    | false =>
      have hc : vs' = [] ∨ (⟨vs', kn', got', ps', rs'⟩ : Ch) = ⟨vs, kn, got, ps, rs⟩ := by
        rcases hf with ⟨_, h⟩ | ⟨_, _, _, _, _, _, _, h⟩
        · injection h with h1 h2
          unfold zeroCh at h1
          injection h1 with h1
          exact .inl h1
        · exact .inr (h rfl)
      clear hf
      rcases hc with hc | hc
      · subst hc
        refine fn_of (l := [.tmp 2]) Try.func4 (by kernel_rfl) rfl Try.ntmps4 rfl rfl ?_; simp only [argEnv, P0.d, Nat.reduceAdd]
        repeat' (first | with_reducible refine aw_seq ?_ | refine aw_region ?_ | refine aw_region_draw (by kernel_rfl) ?_ | with_reducible refine thn_normal ?_ | with_reducible refine thn_ret ?_ | with_reducible refine thn_exit ?_ | with_reducible refine blk_normal ?_ | with_reducible refine blk_ret ?_ | with_reducible refine blk_hit ?_ | with_reducible refine blk_miss rfl ?_ | with_reducible refine aw_block ?_ | with_reducible refine aw_ret ?_ | with_reducible refine aw_skip ?_ | with_reducible refine aw_exit ?_ | refine aw_yes rfl ?_ | refine aw_no rfl ?_ | (refine aw_ways rfl ?_ ?_ <;> intro hg_ <;> (try simp only [decide_eq_true_eq, decide_eq_false_iff_not, Bool.not_eq_true', Bool.not_eq_false', beq_iff_eq, bne_iff_ne, ne_eq, beq_eq_false_iff_ne, bne_eq_false_iff_eq, Int.not_lt, Int.not_le, Bool.not_eq_true, Bool.not_eq_false] at hg_) <;> (try first | contradiction | (exfalso; omega))) | with_reducible refine w_nil ?_ | with_reducible refine x_nil (by kernel_rfl) ?_ | (first | ((with_reducible refine w_seq ?_); first | refine r_q tbOk rfl rfl rfl rfl ?_ | refine r_e tbOk rfl rfl rfl rfl rfl ?_ | refine r_yes tbOk rfl rfl rfl rfl rfl rfl ?_ | refine w_no rfl rfl (lookO_spec rfl) rfl rfl rfl ?_ | refine w_un rfl rfl (lookO_spec rfl) rfl rfl ?_ | refine w_q rfl rfl (by (first | exact k_call KD rfl ⟨asA_r (evO_spec rfl), trivial⟩ | exact k_call KI rfl ⟨asA_agg (evO_spec rfl) ⟨cAr_r, cAr_r, cAr_r, cAr_r, cAr_r, trivial⟩, asA_r (evO_spec rfl), trivial⟩ | exact k_call KS rfl ⟨asA_agg (evO_spec rfl) ⟨cAr_r, cAr_r, cAr_r, cAr_r, cAr_r, trivial⟩, asA_r (evO_spec rfl), trivial⟩ | exact k_call KE rfl ⟨asA_agg (evO_spec rfl) ⟨cAr_r, cAr_r, cAr_r, cAr_r, cAr_r, trivial⟩, asA_agg (evO_spec rfl) ⟨cAr_r, cAr_r, cAr_r, cAr_r, cAr_r, trivial⟩, trivial⟩ | exact k_neB bo4 rfl rfl rfl | exact k_call f_alive rfl trivial)) rfl ?_ | refine w_yes rfl rfl (lookO_spec rfl) rfl (by (first | exact k_call KD rfl ⟨asA_r (evO_spec rfl), trivial⟩ | exact k_call KI rfl ⟨asA_agg (evO_spec rfl) ⟨cAr_r, cAr_r, cAr_r, cAr_r, cAr_r, trivial⟩, asA_r (evO_spec rfl), trivial⟩ | exact k_call KS rfl ⟨asA_agg (evO_spec rfl) ⟨cAr_r, cAr_r, cAr_r, cAr_r, cAr_r, trivial⟩, asA_r (evO_spec rfl), trivial⟩ | exact k_call KE rfl ⟨asA_agg (evO_spec rfl) ⟨cAr_r, cAr_r, cAr_r, cAr_r, cAr_r, trivial⟩, asA_agg (evO_spec rfl) ⟨cAr_r, cAr_r, cAr_r, cAr_r, cAr_r, trivial⟩, trivial⟩ | exact k_neB bo4 rfl rfl rfl | exact k_call f_alive rfl trivial)) rfl ?_) | ((with_reducible refine w_drw ?_); first | refine rx_q tbOk rfl rfl rfl rfl ?_ | refine rx_e tbOk rfl rfl rfl rfl rfl ?_ | refine rx_yes tbOk rfl rfl rfl rfl rfl rfl ?_ | refine x_no rfl rfl (lookO_spec rfl) rfl rfl rfl ?_ | refine x_un rfl rfl (lookO_spec rfl) rfl rfl ?_ | refine v_q rfl rfl (by (first | exact k_call KD rfl ⟨asA_r (evO_spec rfl), trivial⟩ | exact k_call KI rfl ⟨asA_agg (evO_spec rfl) ⟨cAr_r, cAr_r, cAr_r, cAr_r, cAr_r, trivial⟩, asA_r (evO_spec rfl), trivial⟩ | exact k_call KS rfl ⟨asA_agg (evO_spec rfl) ⟨cAr_r, cAr_r, cAr_r, cAr_r, cAr_r, trivial⟩, asA_r (evO_spec rfl), trivial⟩ | exact k_call KE rfl ⟨asA_agg (evO_spec rfl) ⟨cAr_r, cAr_r, cAr_r, cAr_r, cAr_r, trivial⟩, asA_agg (evO_spec rfl) ⟨cAr_r, cAr_r, cAr_r, cAr_r, cAr_r, trivial⟩, trivial⟩ | exact k_neB bo4 rfl rfl rfl | exact k_call f_alive rfl trivial)) rfl ?_ | refine v_yes rfl rfl (lookO_spec rfl) rfl (by (first | exact k_call KD rfl ⟨asA_r (evO_spec rfl), trivial⟩ | exact k_call KI rfl ⟨asA_agg (evO_spec rfl) ⟨cAr_r, cAr_r, cAr_r, cAr_r, cAr_r, trivial⟩, asA_r (evO_spec rfl), trivial⟩ | exact k_call KS rfl ⟨asA_agg (evO_spec rfl) ⟨cAr_r, cAr_r, cAr_r, cAr_r, cAr_r, trivial⟩, asA_r (evO_spec rfl), trivial⟩ | exact k_call KE rfl ⟨asA_agg (evO_spec rfl) ⟨cAr_r, cAr_r, cAr_r, cAr_r, cAr_r, trivial⟩, asA_agg (evO_spec rfl) ⟨cAr_r, cAr_r, cAr_r, cAr_r, cAr_r, trivial⟩, trivial⟩ | exact k_neB bo4 rfl rfl rfl | exact k_call f_alive rfl trivial)) rfl ?_) | (refine r_split rfl rfl rfl ?_ ?_ <;> intro hg_ <;> fail_if_success (exact Bool.noConfusion hg_)) <;> (try simp only [decide_eq_true_eq, decide_eq_false_iff_not, Bool.not_eq_true', Bool.not_eq_false', beq_iff_eq, bne_iff_ne, ne_eq, beq_eq_false_iff_ne, bne_eq_false_iff_eq, Int.not_lt, Int.not_le, Bool.not_eq_true, Bool.not_eq_false] at hg_) <;> (try first | contradiction | (exfalso; omega))))
        all_goals first
          | exact ret_tmp rfl (dres_bool rfl)
          | (exfalso; simp at *; done)
          | trace_state
      · injection hc with h1 h2 h3 h4 h5
        subst h1 h2 h3 h4 h5
        have KC := f_sameCh i1 i2 i3 i4 false nG nP nR vs' kn' got' ps' rs' hlen.1 hlen.2.1 hlen.2.2.1 hlen.2.2.2
        refine fn_of (l := [.tmp 2]) Try.func4 (by kernel_rfl) rfl Try.ntmps4 rfl rfl ?_; simp only [argEnv, P0.d, Nat.reduceAdd]
        repeat' (first | with_reducible refine aw_seq ?_ | refine aw_region ?_ | refine aw_region_draw (by kernel_rfl) ?_ | with_reducible refine thn_normal ?_ | with_reducible refine thn_ret ?_ | with_reducible refine thn_exit ?_ | with_reducible refine blk_normal ?_ | with_reducible refine blk_ret ?_ | with_reducible refine blk_hit ?_ | with_reducible refine blk_miss rfl ?_ | with_reducible refine aw_block ?_ | with_reducible refine aw_ret ?_ | with_reducible refine aw_skip ?_ | with_reducible refine aw_exit ?_ | refine aw_yes rfl ?_ | refine aw_no rfl ?_ | (refine aw_ways rfl ?_ ?_ <;> intro hg_ <;> (try simp only [decide_eq_true_eq, decide_eq_false_iff_not, Bool.not_eq_true', Bool.not_eq_false', beq_iff_eq, bne_iff_ne, ne_eq, beq_eq_false_iff_ne, bne_eq_false_iff_eq, Int.not_lt, Int.not_le, Bool.not_eq_true, Bool.not_eq_false] at hg_) <;> (try first | contradiction | (exfalso; omega))) | with_reducible refine w_nil ?_ | with_reducible refine x_nil (by kernel_rfl) ?_ | (first | ((with_reducible refine w_seq ?_); first | refine r_q tbOk rfl rfl rfl rfl ?_ | refine r_e tbOk rfl rfl rfl rfl rfl ?_ | refine r_yes tbOk rfl rfl rfl rfl rfl rfl ?_ | refine w_no rfl rfl (lookO_spec rfl) rfl rfl rfl ?_ | refine w_un rfl rfl (lookO_spec rfl) rfl rfl ?_ | refine w_q rfl rfl (by (first | exact k_call KD rfl ⟨asA_r (evO_spec rfl), trivial⟩ | exact k_call KI rfl ⟨asA_agg (evO_spec rfl) ⟨cAr_r, cAr_r, cAr_r, cAr_r, cAr_r, trivial⟩, asA_r (evO_spec rfl), trivial⟩ | exact k_call KS rfl ⟨asA_agg (evO_spec rfl) ⟨cAr_r, cAr_r, cAr_r, cAr_r, cAr_r, trivial⟩, asA_r (evO_spec rfl), trivial⟩ | exact k_call KE rfl ⟨asA_agg (evO_spec rfl) ⟨cAr_r, cAr_r, cAr_r, cAr_r, cAr_r, trivial⟩, asA_agg (evO_spec rfl) ⟨cAr_r, cAr_r, cAr_r, cAr_r, cAr_r, trivial⟩, trivial⟩ | exact k_call KC rfl ⟨asA_agg (evO_spec rfl) ⟨cAr_r, cAr_r, cAr_r, cAr_r, cAr_r, trivial⟩, asA_agg (evO_spec rfl) ⟨cAr_r, cAr_r, cAr_r, cAr_r, cAr_r, trivial⟩, trivial⟩ | exact k_neB bo4 rfl rfl rfl | exact k_call f_alive rfl trivial)) rfl ?_ | refine w_yes rfl rfl (lookO_spec rfl) rfl (by (first | exact k_call KD rfl ⟨asA_r (evO_spec rfl), trivial⟩ | exact k_call KI rfl ⟨asA_agg (evO_spec rfl) ⟨cAr_r, cAr_r, cAr_r, cAr_r, cAr_r, trivial⟩, asA_r (evO_spec rfl), trivial⟩ | exact k_call KS rfl ⟨asA_agg (evO_spec rfl) ⟨cAr_r, cAr_r, cAr_r, cAr_r, cAr_r, trivial⟩, asA_r (evO_spec rfl), trivial⟩ | exact k_call KE rfl ⟨asA_agg (evO_spec rfl) ⟨cAr_r, cAr_r, cAr_r, cAr_r, cAr_r, trivial⟩, asA_agg (evO_spec rfl) ⟨cAr_r, cAr_r, cAr_r, cAr_r, cAr_r, trivial⟩, trivial⟩ | exact k_call KC rfl ⟨asA_agg (evO_spec rfl) ⟨cAr_r, cAr_r, cAr_r, cAr_r, cAr_r, trivial⟩, asA_agg (evO_spec rfl) ⟨cAr_r, cAr_r, cAr_r, cAr_r, cAr_r, trivial⟩, trivial⟩ | exact k_neB bo4 rfl rfl rfl | exact k_call f_alive rfl trivial)) rfl ?_) | ((with_reducible refine w_drw ?_); first | refine rx_q tbOk rfl rfl rfl rfl ?_ | refine rx_e tbOk rfl rfl rfl rfl rfl ?_ | refine rx_yes tbOk rfl rfl rfl rfl rfl rfl ?_ | refine x_no rfl rfl (lookO_spec rfl) rfl rfl rfl ?_ | refine x_un rfl rfl (lookO_spec rfl) rfl rfl ?_ | refine v_q rfl rfl (by (first | exact k_call KD rfl ⟨asA_r (evO_spec rfl), trivial⟩ | exact k_call KI rfl ⟨asA_agg (evO_spec rfl) ⟨cAr_r, cAr_r, cAr_r, cAr_r, cAr_r, trivial⟩, asA_r (evO_spec rfl), trivial⟩ | exact k_call KS rfl ⟨asA_agg (evO_spec rfl) ⟨cAr_r, cAr_r, cAr_r, cAr_r, cAr_r, trivial⟩, asA_r (evO_spec rfl), trivial⟩ | exact k_call KE rfl ⟨asA_agg (evO_spec rfl) ⟨cAr_r, cAr_r, cAr_r, cAr_r, cAr_r, trivial⟩, asA_agg (evO_spec rfl) ⟨cAr_r, cAr_r, cAr_r, cAr_r, cAr_r, trivial⟩, trivial⟩ | exact k_call KC rfl ⟨asA_agg (evO_spec rfl) ⟨cAr_r, cAr_r, cAr_r, cAr_r, cAr_r, trivial⟩, asA_agg (evO_spec rfl) ⟨cAr_r, cAr_r, cAr_r, cAr_r, cAr_r, trivial⟩, trivial⟩ | exact k_neB bo4 rfl rfl rfl | exact k_call f_alive rfl trivial)) rfl ?_ | refine v_yes rfl rfl (lookO_spec rfl) rfl (by (first | exact k_call KD rfl ⟨asA_r (evO_spec rfl), trivial⟩ | exact k_call KI rfl ⟨asA_agg (evO_spec rfl) ⟨cAr_r, cAr_r, cAr_r, cAr_r, cAr_r, trivial⟩, asA_r (evO_spec rfl), trivial⟩ | exact k_call KS rfl ⟨asA_agg (evO_spec rfl) ⟨cAr_r, cAr_r, cAr_r, cAr_r, cAr_r, trivial⟩, asA_r (evO_spec rfl), trivial⟩ | exact k_call KE rfl ⟨asA_agg (evO_spec rfl) ⟨cAr_r, cAr_r, cAr_r, cAr_r, cAr_r, trivial⟩, asA_agg (evO_spec rfl) ⟨cAr_r, cAr_r, cAr_r, cAr_r, cAr_r, trivial⟩, trivial⟩ | exact k_call KC rfl ⟨asA_agg (evO_spec rfl) ⟨cAr_r, cAr_r, cAr_r, cAr_r, cAr_r, trivial⟩, asA_agg (evO_spec rfl) ⟨cAr_r, cAr_r, cAr_r, cAr_r, cAr_r, trivial⟩, trivial⟩ | exact k_neB bo4 rfl rfl rfl | exact k_call f_alive rfl trivial)) rfl ?_) | (refine r_split rfl rfl rfl ?_ ?_ <;> intro hg_ <;> fail_if_success (exact Bool.noConfusion hg_)) <;> (try simp only [decide_eq_true_eq, decide_eq_false_iff_not, Bool.not_eq_true', Bool.not_eq_false', beq_iff_eq, bne_iff_ne, ne_eq, beq_eq_false_iff_ne, bne_eq_false_iff_eq, Int.not_lt, Int.not_le, Bool.not_eq_true, Bool.not_eq_false] at hg_) <;> (try first | contradiction | (exfalso; omega))))
        all_goals first
          | exact ret_tmp rfl (dres_bool rfl)
          | (exfalso; simp at *; done)
          | trace_state
    | true =>
      rcases hf with ⟨_, h⟩ | ⟨_, _, hg, hv, hk, hg1, hg2, _⟩
      · injection h with _ h; cases h
      · (try dsimp only at hv hk hg1 hg2)
        subst hv
        have KV := f_implChOk i1 i2 i3 i4 vs' kn' got' ps' rs' hlen.1 hlen.2.1 hlen.2.2.1 hlen.2.2.2
        rw [Ch.ok_iff.2 hg] at KV
        have KN := f_sameInts i1 false vs' hlen.1
        have hw : IntKind.i64.wrap ((got.length : Int) + 1) = got.length + 1 := IntWalk.i64_in _ (by omega)
        have hw' : IntKind.i64.wrap (((ints got).length : Int) + 1) = got.length + 1 := by rw [l1]; exact hw
        refine fn_of (l := [.tmp 2]) Try.func4 (by kernel_rfl) rfl Try.ntmps4 rfl rfl ?_; simp only [argEnv, P0.d, Nat.reduceAdd]
        repeat' (first | with_reducible refine aw_seq ?_ | refine aw_region ?_ | refine aw_region_draw (by kernel_rfl) ?_ | with_reducible refine thn_normal ?_ | with_reducible refine thn_ret ?_ | with_reducible refine thn_exit ?_ | with_reducible refine blk_normal ?_ | with_reducible refine blk_ret ?_ | with_reducible refine blk_hit ?_ | with_reducible refine blk_miss rfl ?_ | with_reducible refine aw_block ?_ | with_reducible refine aw_ret ?_ | with_reducible refine aw_skip ?_ | with_reducible refine aw_exit ?_ | refine aw_yes rfl ?_ | refine aw_no rfl ?_ | (refine aw_ways rfl ?_ ?_ <;> intro hg_ <;> (try simp only [decide_eq_true_eq, decide_eq_false_iff_not, Bool.not_eq_true', Bool.not_eq_false', beq_iff_eq, bne_iff_ne, ne_eq, beq_eq_false_iff_ne, bne_eq_false_iff_eq, Int.not_lt, Int.not_le, Bool.not_eq_true, Bool.not_eq_false] at hg_) <;> (try first | contradiction | (exfalso; omega))) | with_reducible refine w_nil ?_ | with_reducible refine x_nil (by kernel_rfl) ?_ | (first | ((with_reducible refine w_seq ?_); first | refine r_q tbOk rfl rfl rfl rfl ?_ | refine r_e tbOk rfl rfl rfl rfl rfl ?_ | refine r_yes tbOk rfl rfl rfl rfl rfl rfl ?_ | refine w_no rfl rfl (lookO_spec rfl) rfl rfl rfl ?_ | refine w_un rfl rfl (lookO_spec rfl) rfl rfl ?_ | refine w_q rfl rfl (by (first | exact k_call KD rfl ⟨asA_r (evO_spec rfl), trivial⟩ | exact k_call KI rfl ⟨asA_agg (evO_spec rfl) ⟨cAr_r, cAr_r, cAr_r, cAr_r, cAr_r, trivial⟩, asA_r (evO_spec rfl), trivial⟩ | exact k_call KS rfl ⟨asA_agg (evO_spec rfl) ⟨cAr_r, cAr_r, cAr_r, cAr_r, cAr_r, trivial⟩, asA_r (evO_spec rfl), trivial⟩ | exact k_call KE rfl ⟨asA_agg (evO_spec rfl) ⟨cAr_r, cAr_r, cAr_r, cAr_r, cAr_r, trivial⟩, asA_agg (evO_spec rfl) ⟨cAr_r, cAr_r, cAr_r, cAr_r, cAr_r, trivial⟩, trivial⟩ | exact k_call KV rfl ⟨asA_agg (evO_spec rfl) ⟨cAr_r, cAr_r, cAr_r, cAr_r, cAr_r, trivial⟩, trivial⟩ | exact k_call KN rfl ⟨asA_r (evO_spec rfl), asA_r (evO_spec rfl), trivial⟩ | exact k_neB bo4 rfl rfl rfl)) rfl ?_ | refine w_yes rfl rfl (lookO_spec rfl) rfl (by (first | exact k_call KD rfl ⟨asA_r (evO_spec rfl), trivial⟩ | exact k_call KI rfl ⟨asA_agg (evO_spec rfl) ⟨cAr_r, cAr_r, cAr_r, cAr_r, cAr_r, trivial⟩, asA_r (evO_spec rfl), trivial⟩ | exact k_call KS rfl ⟨asA_agg (evO_spec rfl) ⟨cAr_r, cAr_r, cAr_r, cAr_r, cAr_r, trivial⟩, asA_r (evO_spec rfl), trivial⟩ | exact k_call KE rfl ⟨asA_agg (evO_spec rfl) ⟨cAr_r, cAr_r, cAr_r, cAr_r, cAr_r, trivial⟩, asA_agg (evO_spec rfl) ⟨cAr_r, cAr_r, cAr_r, cAr_r, cAr_r, trivial⟩, trivial⟩ | exact k_call KV rfl ⟨asA_agg (evO_spec rfl) ⟨cAr_r, cAr_r, cAr_r, cAr_r, cAr_r, trivial⟩, trivial⟩ | exact k_call KN rfl ⟨asA_r (evO_spec rfl), asA_r (evO_spec rfl), trivial⟩ | exact k_neB bo4 rfl rfl rfl)) rfl ?_) | ((with_reducible refine w_drw ?_); first | refine rx_q tbOk rfl rfl rfl rfl ?_ | refine rx_e tbOk rfl rfl rfl rfl rfl ?_ | refine rx_yes tbOk rfl rfl rfl rfl rfl rfl ?_ | refine x_no rfl rfl (lookO_spec rfl) rfl rfl rfl ?_ | refine x_un rfl rfl (lookO_spec rfl) rfl rfl ?_ | refine v_q rfl rfl (by (first | exact k_call KD rfl ⟨asA_r (evO_spec rfl), trivial⟩ | exact k_call KI rfl ⟨asA_agg (evO_spec rfl) ⟨cAr_r, cAr_r, cAr_r, cAr_r, cAr_r, trivial⟩, asA_r (evO_spec rfl), trivial⟩ | exact k_call KS rfl ⟨asA_agg (evO_spec rfl) ⟨cAr_r, cAr_r, cAr_r, cAr_r, cAr_r, trivial⟩, asA_r (evO_spec rfl), trivial⟩ | exact k_call KE rfl ⟨asA_agg (evO_spec rfl) ⟨cAr_r, cAr_r, cAr_r, cAr_r, cAr_r, trivial⟩, asA_agg (evO_spec rfl) ⟨cAr_r, cAr_r, cAr_r, cAr_r, cAr_r, trivial⟩, trivial⟩ | exact k_call KV rfl ⟨asA_agg (evO_spec rfl) ⟨cAr_r, cAr_r, cAr_r, cAr_r, cAr_r, trivial⟩, trivial⟩ | exact k_call KN rfl ⟨asA_r (evO_spec rfl), asA_r (evO_spec rfl), trivial⟩ | exact k_neB bo4 rfl rfl rfl)) rfl ?_ | refine v_yes rfl rfl (lookO_spec rfl) rfl (by (first | exact k_call KD rfl ⟨asA_r (evO_spec rfl), trivial⟩ | exact k_call KI rfl ⟨asA_agg (evO_spec rfl) ⟨cAr_r, cAr_r, cAr_r, cAr_r, cAr_r, trivial⟩, asA_r (evO_spec rfl), trivial⟩ | exact k_call KS rfl ⟨asA_agg (evO_spec rfl) ⟨cAr_r, cAr_r, cAr_r, cAr_r, cAr_r, trivial⟩, asA_r (evO_spec rfl), trivial⟩ | exact k_call KE rfl ⟨asA_agg (evO_spec rfl) ⟨cAr_r, cAr_r, cAr_r, cAr_r, cAr_r, trivial⟩, asA_agg (evO_spec rfl) ⟨cAr_r, cAr_r, cAr_r, cAr_r, cAr_r, trivial⟩, trivial⟩ | exact k_call KV rfl ⟨asA_agg (evO_spec rfl) ⟨cAr_r, cAr_r, cAr_r, cAr_r, cAr_r, trivial⟩, trivial⟩ | exact k_call KN rfl ⟨asA_r (evO_spec rfl), asA_r (evO_spec rfl), trivial⟩ | exact k_neB bo4 rfl rfl rfl)) rfl ?_) | (refine r_split rfl rfl rfl ?_ ?_ <;> intro hg_ <;> fail_if_success (exact Bool.noConfusion hg_)) <;> (try simp only [decide_eq_true_eq, decide_eq_false_iff_not, Bool.not_eq_true', Bool.not_eq_false', beq_iff_eq, bne_iff_ne, ne_eq, beq_eq_false_iff_ne, bne_eq_false_iff_eq, Int.not_lt, Int.not_le, Bool.not_eq_true, Bool.not_eq_false] at hg_) <;> (try first | contradiction | (exfalso; omega))))
        all_goals first
          | exact ret_tmp rfl (dres_bool rfl)
          | (exfalso; simp at *; done)
          | trace_state
  · refine fn_of (l := [.tmp 2]) Try.func4 (by kernel_rfl) rfl Try.ntmps4 rfl rfl ?_; simp only [argEnv, P0.d, Nat.reduceAdd]
    repeat' (first | with_reducible refine aw_seq ?_ | refine aw_region ?_ | refine aw_region_draw (by kernel_rfl) ?_ | with_reducible refine thn_normal ?_ | with_reducible refine thn_ret ?_ | with_reducible refine thn_exit ?_ | with_reducible refine blk_normal ?_ | with_reducible refine blk_ret ?_ | with_reducible refine blk_hit ?_ | with_reducible refine blk_miss rfl ?_ | with_reducible refine aw_block ?_ | with_reducible refine aw_ret ?_ | with_reducible refine aw_skip ?_ | with_reducible refine aw_exit ?_ | refine aw_yes rfl ?_ | refine aw_no rfl ?_ | (refine aw_ways rfl ?_ ?_ <;> intro hg_ <;> (try simp only [decide_eq_true_eq, decide_eq_false_iff_not, Bool.not_eq_true', Bool.not_eq_false', beq_iff_eq, bne_iff_ne, ne_eq, beq_eq_false_iff_ne, bne_eq_false_iff_eq, Int.not_lt, Int.not_le, Bool.not_eq_true, Bool.not_eq_false] at hg_) <;> (try first | contradiction | (exfalso; omega))) | with_reducible refine w_nil ?_ | with_reducible refine x_nil (by kernel_rfl) ?_ | (first | ((with_reducible refine w_seq ?_); first | refine r_q tbOk rfl rfl rfl rfl ?_ | refine r_e tbOk rfl rfl rfl rfl rfl ?_ | refine r_yes tbOk rfl rfl rfl rfl rfl rfl ?_ | refine w_no rfl rfl (lookO_spec rfl) rfl rfl rfl ?_ | refine w_un rfl rfl (lookO_spec rfl) rfl rfl ?_) | ((with_reducible refine w_drw ?_); first | refine rx_q tbOk rfl rfl rfl rfl ?_ | refine rx_e tbOk rfl rfl rfl rfl rfl ?_ | refine rx_yes tbOk rfl rfl rfl rfl rfl rfl ?_ | refine x_no rfl rfl (lookO_spec rfl) rfl rfl rfl ?_ | refine x_un rfl rfl (lookO_spec rfl) rfl rfl ?_) | (refine r_split rfl rfl rfl ?_ ?_ <;> intro hg_ <;> fail_if_success (exact Bool.noConfusion hg_)) <;> (try simp only [decide_eq_true_eq, decide_eq_false_iff_not, Bool.not_eq_true', Bool.not_eq_false', beq_iff_eq, bne_iff_ne, ne_eq, beq_eq_false_iff_ne, bne_eq_false_iff_eq, Int.not_lt, Int.not_le, Bool.not_eq_true, Bool.not_eq_false] at hg_) <;> (try first | contradiction | (exfalso; omega))))
    all_goals first
      | exact ret_tmp rfl (dres_bool rfl)
      | trace_state
end Go.Proofs.Ytjjeihcmiofkmaa.Abs
