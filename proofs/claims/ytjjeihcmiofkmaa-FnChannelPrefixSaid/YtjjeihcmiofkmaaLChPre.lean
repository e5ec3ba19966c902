/- The law FnChannelPrefix by states. -/
import Derived.Test.YtjjeihcmiofkmaaTy
import Derived.Lib.Hide
import Derived.Test.YtjjeihcmiofkmaaADrC
set_option linter.unusedSimpArgs false
set_option linter.unusedVariables false
namespace Go.Proofs.Ytjjeihcmiofkmaa.Abs
open Go.RowKit
open R (val row ref)

set_option maxRecDepth 100000 in
set_option maxHeartbeats 8000000 in
theorem law_chPre (nb : Bool) (code : List Int) (hB : Byte code) : Fn Try.prog 9 [.one (row nb 1 (bys code))] (.v (.one (bool true))) := by
  have hlb := bys_len code
  by_cases hl : code.length ≤ 1048576
  · obtain ⟨nG, nP, nR, c, xs, ⟨hn, a1, a2, a3, a4, a5⟩, KD⟩ := f_drawRun nb code hB hl
    by_cases ho : Ch.ok c = false ∨ xs.length > 200
    · have KI := f_implRunNo false nG nP nR false c xs ho (by omega) (by omega) (by omega) (by omega)
      have KS := f_specRunNo false nG nP nR false c xs ho (by omega) (by omega) (by omega) (by omega)
      have KE := f_sameCh' true true true true true true true true zeroCh (by simp [zeroCh]) (by simp [zeroCh]) (by simp [zeroCh]) (by simp [zeroCh])
      clear hn a1 a2 a3 a4 ho
      unfold zeroCh at *
      refine fn_of (l := [.tmp 2]) Try.func9 (by kernel_rfl) rfl Try.ntmps9 rfl rfl ?_; simp only [argEnv, P0.d, Nat.reduceAdd]
      repeat' (first | (with_reducible first | refine aw_seq ?_ | refine thn_normal ?_ | refine thn_ret ?_ | refine thn_exit ?_ | refine blk_normal ?_ | refine blk_ret ?_ | refine blk_hit ?_ | refine blk_miss rfl ?_ | refine aw_block ?_ | refine aw_ret ?_ | refine aw_skip ?_ | refine aw_exit ?_ | refine w_nil ?_ | refine x_nil (by kernel_rfl) ?_) | refine aw_region ?_ | refine aw_region_draw (by kernel_rfl) ?_ | refine aw_yes rfl ?_ | refine aw_no rfl ?_ | ((with_reducible refine w_seq ?_); first | refine r_q tbOk rfl rfl rfl rfl ?_ | refine r_e tbOk rfl rfl rfl rfl rfl ?_ | refine r_yes tbOk rfl rfl rfl rfl rfl rfl ?_ | refine w_no rfl rfl (lookO_spec rfl) rfl rfl rfl ?_ | refine w_un rfl rfl (lookO_spec rfl) rfl rfl ?_) | ((with_reducible refine w_drw ?_); first | refine rx_q tbOk rfl rfl rfl rfl ?_ | refine rx_e tbOk rfl rfl rfl rfl rfl ?_ | refine rx_yes tbOk rfl rfl rfl rfl rfl rfl ?_ | refine x_no rfl rfl (lookO_spec rfl) rfl rfl rfl ?_ | refine x_un rfl rfl (lookO_spec rfl) rfl rfl ?_) | ((first | refine' w_q rfl rfl ?xa rfl ?_ | refine' v_q rfl rfl ?xa rfl ?_ | refine' w_yes rfl rfl (lookO_spec rfl) rfl ?xa rfl ?_ | refine' v_yes rfl rfl (lookO_spec rfl) rfl ?xa rfl ?_); case xa => first | exact k_call KD rfl ⟨asA_r (evO_spec rfl), trivial⟩ | exact k_call KI rfl ⟨asA_agg (evO_spec rfl) ⟨cAr_r, cAr_r, cAr_r, cAr_r, cAr_r, trivial⟩, asA_r (evO_spec rfl), trivial⟩ | exact k_call KS rfl ⟨asA_agg (evO_spec rfl) ⟨cAr_r, cAr_r, cAr_r, cAr_r, cAr_r, trivial⟩, asA_r (evO_spec rfl), trivial⟩ | exact k_call KE rfl ⟨asA_agg (evO_spec rfl) ⟨cAr_r, cAr_r, cAr_r, cAr_r, cAr_r, trivial⟩, asA_agg (evO_spec rfl) ⟨cAr_r, cAr_r, cAr_r, cAr_r, cAr_r, trivial⟩, trivial⟩ | exact k_call f_alive rfl trivial) | ((first | refine aw_ways rfl ?_ ?_ | refine r_split rfl rfl rfl ?_ ?_) <;> intro hg_ <;> fail_if_success (exact Bool.noConfusion hg_)) <;> (try simp only [prn] at hg_) <;> (try first | contradiction | (exfalso; omega)))
      all_goals first
        | exact ret_tmp rfl (dres_bool rfl)
        | (exfalso; simp at *; done)
        | trace_state
    · have hok : Ch.ok c = true := by cases h : Ch.ok c <;> simp_all
      have hx : xs.length ≤ 200 := by omega
      have hG := Ch.ok_iff.1 hok
      have KI := f_implRun false nG nP nR false c xs hG hn hx
      have KS := f_specRun false nG nP nR false c xs hG hx
      have hr := Ch.run_grow hG xs
      have hls := hr.1.good.lens
      have hnr := ru_nils (xs := xs) hn xs.length (Nat.le_refl _)
      rw [List.take_length] at hnr
      have hQ := Ch.quiet_facts hr.1.good
      obtain ⟨n, hn40, h1, h2⟩ := Ch.rounds_end hQ.1.good hQ.2.1 hQ.2.2.1
      have KF := f_implFinish false _ _ _ (Ch.run c xs).1 n hr.1.good hnr hn40 h1 h2
      have hg := (Ch.rounds_grow hQ.1.good hQ.2.1 hQ.2.2.1 n).1
      have hend : (Ch.rounds n (Ch.quiet (Ch.run c xs).1)).got = c.vs := by
        rw [Ch.done_got hg.good h1, hg.vs, hQ.1.vs, hr.1.vs]
      have KE := f_sameCh' false (ruG nG c xs xs.length) (ruP nP c xs xs.length) (ruR nR c xs xs.length) false false false false (Ch.run c xs).1 hls.1 hls.2.1 hls.2.2.1 hls.2.2.2
      have hpre := hr.1.good.pre
      have hle := hr.1.good.len
      rw [hr.1.vs] at hpre hle
      have e3 := hr.2
      have lv := ints_len c.vs
      have lg := ints_len (Ch.run c xs).1.got
      have tv : ((ints c.vs).drop 0).take ((Ch.run c xs).1.got.length - 0) = ints (Ch.run c xs).1.got := by
        rw [List.drop_zero, Nat.sub_zero]
        unfold ints
        rw [← List.map_take, ← hpre]
      have KN1 := f_sameInts (ruG nG c xs xs.length) false (Ch.run c xs).1.got hls.2.1
      rw [← tv] at KN1
      have KN2 := fun nn => f_sameInts nn false c.vs (by omega)
      clear hnr hQ h1 h2 hg hr hls hn a1 a2 a3 a4 a5 hG hok ho
      generalize hz : Ch.rounds n (Ch.quiet (Ch.run c xs).1) = e at *
      clear hz
      generalize rdG _ (Ch.quiet (Ch.run c xs).1) n = z1 at *
      generalize rdP _ (Ch.quiet (Ch.run c xs).1) n = z2 at *
      generalize rdR _ (Ch.quiet (Ch.run c xs).1) n = z3 at *
      generalize ruG nG c xs xs.length = x1 at *
      generalize ruP nP c xs xs.length = x2 at *
      generalize ruR nR c xs xs.length = x3 at *
      generalize Ch.run c xs = d at *
      obtain ⟨d, N⟩ := d
      obtain ⟨vs, kn, got, ps, rs⟩ := e
      dsimp only at *
      subst hend
      have KN2 := KN2 z1
      rw [tv] at KN1
      refine fn_of (l := [.tmp 2]) Try.func9 (by kernel_rfl) rfl Try.ntmps9 rfl rfl ?_; simp only [argEnv, P0.d, Nat.reduceAdd]
      repeat' (first | (with_reducible first | refine aw_seq ?_ | refine thn_normal ?_ | refine thn_ret ?_ | refine thn_exit ?_ | refine blk_normal ?_ | refine blk_ret ?_ | refine blk_hit ?_ | refine blk_miss rfl ?_ | refine aw_block ?_ | refine aw_ret ?_ | refine aw_skip ?_ | refine aw_exit ?_ | refine w_nil ?_ | refine x_nil (by kernel_rfl) ?_) | refine aw_region ?_ | refine aw_region_draw (by kernel_rfl) ?_ | refine aw_yes rfl ?_ | refine aw_no rfl ?_ | ((with_reducible refine w_seq ?_); first | refine r_q tbOk rfl rfl rfl rfl ?_ | refine r_e tbOk rfl rfl rfl rfl rfl ?_ | refine r_yes tbOk rfl rfl rfl rfl rfl rfl ?_ | refine w_no rfl rfl (lookO_spec rfl) rfl rfl rfl ?_ | refine w_un rfl rfl (lookO_spec rfl) rfl rfl ?_) | ((with_reducible refine w_drw ?_); first | refine rx_q tbOk rfl rfl rfl rfl ?_ | refine rx_e tbOk rfl rfl rfl rfl rfl ?_ | refine rx_yes tbOk rfl rfl rfl rfl rfl rfl ?_ | refine x_no rfl rfl (lookO_spec rfl) rfl rfl rfl ?_ | refine x_un rfl rfl (lookO_spec rfl) rfl rfl ?_) | ((first | refine' w_q rfl rfl ?xa rfl ?_ | refine' v_q rfl rfl ?xa rfl ?_ | refine' w_yes rfl rfl (lookO_spec rfl) rfl ?xa rfl ?_ | refine' v_yes rfl rfl (lookO_spec rfl) rfl ?xa rfl ?_); case xa => first | exact k_call KD rfl ⟨asA_r (evO_spec rfl), trivial⟩ | exact k_call KI rfl ⟨asA_agg (evO_spec rfl) ⟨cAr_r, cAr_r, cAr_r, cAr_r, cAr_r, trivial⟩, asA_r (evO_spec rfl), trivial⟩ | exact k_call KS rfl ⟨asA_agg (evO_spec rfl) ⟨cAr_r, cAr_r, cAr_r, cAr_r, cAr_r, trivial⟩, asA_r (evO_spec rfl), trivial⟩ | exact k_call KE rfl ⟨asA_agg (evO_spec rfl) ⟨cAr_r, cAr_r, cAr_r, cAr_r, cAr_r, trivial⟩, asA_agg (evO_spec rfl) ⟨cAr_r, cAr_r, cAr_r, cAr_r, cAr_r, trivial⟩, trivial⟩ | exact k_slice (a := 0) (b := d.got.length) tbOk rfl rfl rfl rfl ⟨_, by rw [← lg]; exact evO_spec rfl⟩ (by omega) (by omega) | exact k_call KF rfl ⟨asA_agg (evO_spec rfl) ⟨cAr_r, cAr_r, cAr_r, cAr_r, cAr_r, trivial⟩, trivial⟩ | exact k_call KN1 rfl ⟨asA_r (evO_spec rfl), by rw [← tv]; exact asA_r (evO_spec rfl), trivial⟩ | exact k_call KN2 rfl ⟨asA_r (evO_spec rfl), asA_r (evO_spec rfl), trivial⟩) | ((first | refine aw_ways rfl ?_ ?_ | refine r_split rfl rfl rfl ?_ ?_) <;> intro hg_ <;> fail_if_success (exact Bool.noConfusion hg_)) <;> (try simp only [prn] at hg_) <;> (try first | contradiction | (exfalso; omega)))
      all_goals first
        | exact ret_tmp rfl (dres_bool rfl)
        | (exfalso; simp at *; done)
        | (exfalso; omega)
        | trace_state
  · refine fn_of (l := [.tmp 2]) Try.func9 (by kernel_rfl) rfl Try.ntmps9 rfl rfl ?_; simp only [argEnv, P0.d, Nat.reduceAdd]
    repeat' (first | (with_reducible first | refine aw_seq ?_ | refine thn_normal ?_ | refine thn_ret ?_ | refine thn_exit ?_ | refine blk_normal ?_ | refine blk_ret ?_ | refine blk_hit ?_ | refine blk_miss rfl ?_ | refine aw_block ?_ | refine aw_ret ?_ | refine aw_skip ?_ | refine aw_exit ?_ | refine w_nil ?_ | refine x_nil (by kernel_rfl) ?_) | refine aw_region ?_ | refine aw_region_draw (by kernel_rfl) ?_ | refine aw_yes rfl ?_ | refine aw_no rfl ?_ | ((with_reducible refine w_seq ?_); first | refine r_q tbOk rfl rfl rfl rfl ?_ | refine r_e tbOk rfl rfl rfl rfl rfl ?_ | refine r_yes tbOk rfl rfl rfl rfl rfl rfl ?_ | refine w_no rfl rfl (lookO_spec rfl) rfl rfl rfl ?_ | refine w_un rfl rfl (lookO_spec rfl) rfl rfl ?_) | ((with_reducible refine w_drw ?_); first | refine rx_q tbOk rfl rfl rfl rfl ?_ | refine rx_e tbOk rfl rfl rfl rfl rfl ?_ | refine rx_yes tbOk rfl rfl rfl rfl rfl rfl ?_ | refine x_no rfl rfl (lookO_spec rfl) rfl rfl rfl ?_ | refine x_un rfl rfl (lookO_spec rfl) rfl rfl ?_) | ((first | refine aw_ways rfl ?_ ?_ | refine r_split rfl rfl rfl ?_ ?_) <;> intro hg_ <;> fail_if_success (exact Bool.noConfusion hg_)) <;> (try simp only [prn] at hg_) <;> (try first | contradiction | (exfalso; omega)))
    all_goals first
      | exact ret_tmp rfl (dres_bool rfl)
      | trace_state
end Go.Proofs.Ytjjeihcmiofkmaa.Abs
