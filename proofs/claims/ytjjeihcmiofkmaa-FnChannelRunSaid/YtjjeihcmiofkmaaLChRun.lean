/- The law FnChannelRun by states. -/
import Derived.Test.YtjjeihcmiofkmaaTy
import Derived.Lib.Hide
import Derived.Test.YtjjeihcmiofkmaaADrC
set_option linter.unusedSimpArgs false
set_option linter.unusedVariables false
namespace Go.Proofs.Ytjjeihcmiofkmaa.Abs
open Go.RowKit
open R (val row ref)

set_option maxRecDepth 100000 in
set_option maxHeartbeats 8000000 in
theorem law_chRun (nb : Bool) (code : List Int) (hB : Byte code) : Fn Try.prog 6 [.one (row nb 1 (bys code))] (.v (.one (bool true))) := by
  have hlb := bys_len code
  by_cases hl : code.length ≤ 1048576
  · obtain ⟨nG, nP, nR, c, xs, ⟨hn, a1, a2, a3, a4, a5⟩, KD⟩ := f_drawRun nb code hB hl
    by_cases ho : Ch.ok c = false ∨ xs.length > 200
    · have KI := f_implRunNo false nG nP nR false c xs ho (by omega) (by omega) (by omega) (by omega)
      have KS := f_specRunNo false nG nP nR false c xs ho (by omega) (by omega) (by omega) (by omega)
      have KE := f_sameCh' true true true true true true true true zeroCh (by simp [zeroCh]) (by simp [zeroCh]) (by simp [zeroCh]) (by simp [zeroCh])
      clear hn a1 a2 a3 a4 ho
      unfold zeroCh at *
      refine fn_of (l := [.tmp 2]) Try.func6 (by kernel_rfl) rfl Try.ntmps6 rfl rfl ?_; simp only [argEnv, P0.d, Nat.reduceAdd]
      repeat' (first | (with_reducible first | refine aw_seq ?_ | refine thn_normal ?_ | refine thn_ret ?_ | refine thn_exit ?_ | refine blk_normal ?_ | refine blk_ret ?_ | refine blk_hit ?_ | refine blk_miss rfl ?_ | refine aw_block ?_ | refine aw_ret ?_ | refine aw_skip ?_ | refine aw_exit ?_ | refine w_nil ?_ | refine x_nil (by kernel_rfl) ?_) | refine aw_region ?_ | refine aw_region_draw (by kernel_rfl) ?_ | refine aw_yes rfl ?_ | refine aw_no rfl ?_ | ((with_reducible refine w_seq ?_); first | refine r_q tbOk rfl rfl rfl rfl ?_ | refine r_e tbOk rfl rfl rfl rfl rfl ?_ | refine r_yes tbOk rfl rfl rfl rfl rfl rfl ?_ | refine w_no rfl rfl (lookO_spec rfl) rfl rfl rfl ?_ | refine w_un rfl rfl (lookO_spec rfl) rfl rfl ?_) | ((with_reducible refine w_drw ?_); first | refine rx_q tbOk rfl rfl rfl rfl ?_ | refine rx_e tbOk rfl rfl rfl rfl rfl ?_ | refine rx_yes tbOk rfl rfl rfl rfl rfl rfl ?_ | refine x_no rfl rfl (lookO_spec rfl) rfl rfl rfl ?_ | refine x_un rfl rfl (lookO_spec rfl) rfl rfl ?_) | ((first | refine' w_q rfl rfl ?xa rfl ?_ | refine' v_q rfl rfl ?xa rfl ?_ | refine' w_yes rfl rfl (lookO_spec rfl) rfl ?xa rfl ?_ | refine' v_yes rfl rfl (lookO_spec rfl) rfl ?xa rfl ?_); case xa => first | exact k_call KD rfl ⟨asA_r (evO_spec rfl), trivial⟩ | exact k_call KI rfl ⟨asA_agg (evO_spec rfl) ⟨cAr_r, cAr_r, cAr_r, cAr_r, cAr_r, trivial⟩, asA_r (evO_spec rfl), trivial⟩ | exact k_call KS rfl ⟨asA_agg (evO_spec rfl) ⟨cAr_r, cAr_r, cAr_r, cAr_r, cAr_r, trivial⟩, asA_r (evO_spec rfl), trivial⟩ | exact k_call KE rfl ⟨asA_agg (evO_spec rfl) ⟨cAr_r, cAr_r, cAr_r, cAr_r, cAr_r, trivial⟩, asA_agg (evO_spec rfl) ⟨cAr_r, cAr_r, cAr_r, cAr_r, cAr_r, trivial⟩, trivial⟩ | exact k_call f_alive rfl trivial) | ((first | refine aw_ways rfl ?_ ?_ | refine r_split rfl rfl rfl ?_ ?_) <;> intro hg_ <;> fail_if_success (exact Bool.noConfusion hg_)) <;> (try simp only [prn] at hg_) <;> (try first | contradiction | (exfalso; omega)))
      all_goals first
        | exact ret_tmp rfl (dres_bool rfl)
        | (exfalso; simp at *; done)
        | trace_state
    · have hok : Ch.ok c = true := by cases h : Ch.ok c <;> simp_all
      have hx : xs.length ≤ 200 := by omega
      have hG := Ch.ok_iff.1 hok
      have KI := f_implRun false nG nP nR false c xs hG hn hx
      have KS := f_specRun false nG nP nR false c xs hG hx
      have hr := Ch.run_grow hG xs
      have hls := hr.1.good.lens
      obtain ⟨h, hh, hh2⟩ : ∃ h : Nat, (h : Int) = (xs.length : Int).tdiv 2 ∧ h ≤ xs.length := by
        refine ⟨xs.length / 2, ?_, by omega⟩
        rw [Int.tdiv_eq_ediv_of_nonneg (by omega)]; omega
      have KA := f_implRun false nG nP nR false c (xs.take h) hG hn (by rw [List.length_take]; omega)
      have hra := Ch.run_grow hG (xs.take h)
      have hna : Nils false (ruG nG c (xs.take h) (xs.take h).length) (ruP nP c (xs.take h) (xs.take h).length) (ruR nR c (xs.take h) (xs.take h).length) (Ch.run c (xs.take h)).1 := by
        have := ru_nils (xs := xs.take h) hn (xs.take h).length (Nat.le_refl _)
        rw [List.take_length] at this
        exact this
      have KB := f_implRun false _ _ _ false (Ch.run c (xs.take h)).1 (xs.drop h) hra.1.good hna (by rw [List.length_drop]; omega)
      have hab := Ch.run_append c (xs.take h) (xs.drop h)
      rw [List.take_append_drop] at hab
      have e1 : (Ch.run c xs).1 = (Ch.run (Ch.run c (xs.take h)).1 (xs.drop h)).1 := by rw [hab]
      have e2 : (Ch.run c xs).2 = (Ch.run c (xs.take h)).2 + (Ch.run (Ch.run c (xs.take h)).1 (xs.drop h)).2 := by rw [hab]
      have KE := fun n1 n2 n3 n4 m1 m2 m3 m4 => f_sameCh' n1 n2 n3 n4 m1 m2 m3 m4 (Ch.run c xs).1 hls.1 hls.2.1 hls.2.2.1 hls.2.2.2
      have KV := fun n1 n2 n3 n4 => f_implChOk' n1 n2 n3 n4 (Ch.run c xs).1 hls.1 hls.2.1 hls.2.2.1 hls.2.2.2
      rw [Ch.ok_iff.2 hr.1.good] at KV
      rw [← e1] at KB
      have e3 := hr.2
      have hlx := ints_len xs
      have t1 : ints (xs.take h) = ((ints xs).drop 0).take (h - 0) := by unfold ints; rw [List.drop_zero, Nat.sub_zero, List.map_take]
      have t2 : ints (xs.drop h) = ((ints xs).drop h).take (xs.length - h) := by
        unfold ints
        rw [List.map_drop, List.take_of_length_le (by simp)]
      rw [t1] at KA
      rw [t2] at KB
      have hw : IntKind.i64.wrap (((Ch.run c (xs.take h)).2 : Int) + ((Ch.run (Ch.run c (xs.take h)).1 (xs.drop h)).2 : Int)) = ((Ch.run c xs).2 : Int) := by rw [IntWalk.i64_in _ (by omega)]; omega
      clear hra hna hab hr hls hn a1 a2 a3 a4 a5 hG hok ho t1 t2 e1
      generalize (Ch.run (Ch.run c (xs.take h)).1 (xs.drop h)).2 = N2 at *
      generalize ruG nG c xs xs.length = x1 at *
      generalize ruP nP c xs xs.length = x2 at *
      generalize ruR nR c xs xs.length = x3 at *
      generalize ruG (ruG nG c (xs.take h) (xs.take h).length) (Ch.run c (xs.take h)).1 (xs.drop h) (xs.drop h).length = z1 at *
      generalize ruP (ruP nP c (xs.take h) (xs.take h).length) (Ch.run c (xs.take h)).1 (xs.drop h) (xs.drop h).length = z2 at *
      generalize ruR (ruR nR c (xs.take h) (xs.take h).length) (Ch.run c (xs.take h)).1 (xs.drop h) (xs.drop h).length = z3 at *
      generalize ruG nG c (xs.take h) (xs.take h).length = y1 at *
      generalize ruP nP c (xs.take h) (xs.take h).length = y2 at *
      generalize ruR nR c (xs.take h) (xs.take h).length = y3 at *
      generalize Ch.run c (xs.take h) = a at *
      generalize Ch.run c xs = d at *
      obtain ⟨d, N⟩ := d
      obtain ⟨a, N1⟩ := a
      dsimp only at *
      have KE1 := KE false x1 x2 x3 false false false false
      have KE2 := KE false z1 z2 z3 false x1 x2 x3
      have KV := KV false x1 x2 x3
      clear KE
      have hq : ((ints xs).length : Int).tdiv 2 = h := by rw [hlx, hh]
      have hw2 : IntKind.i64.wrap (h : Int) = h := IntWalk.i64_in _ (by omega)
      refine fn_of (l := [.tmp 2]) Try.func6 (by kernel_rfl) rfl Try.ntmps6 rfl rfl ?_; simp only [argEnv, P0.d, Nat.reduceAdd]
      repeat' (first | (with_reducible first | refine aw_seq ?_ | refine thn_normal ?_ | refine thn_ret ?_ | refine thn_exit ?_ | refine blk_normal ?_ | refine blk_ret ?_ | refine blk_hit ?_ | refine blk_miss rfl ?_ | refine aw_block ?_ | refine aw_ret ?_ | refine aw_skip ?_ | refine aw_exit ?_ | refine w_nil ?_ | refine x_nil (by kernel_rfl) ?_) | refine aw_region ?_ | refine aw_region_draw (by kernel_rfl) ?_ | refine aw_yes rfl ?_ | refine aw_no rfl ?_ | ((with_reducible refine w_seq ?_); first | refine r_q tbOk rfl rfl rfl rfl ?_ | refine r_e tbOk rfl rfl rfl rfl rfl ?_ | refine r_yes tbOk rfl rfl rfl rfl rfl rfl ?_ | refine w_no rfl rfl (lookO_spec rfl) rfl rfl rfl ?_ | refine w_un rfl rfl (lookO_spec rfl) rfl rfl ?_) | ((with_reducible refine w_drw ?_); first | refine rx_q tbOk rfl rfl rfl rfl ?_ | refine rx_e tbOk rfl rfl rfl rfl rfl ?_ | refine rx_yes tbOk rfl rfl rfl rfl rfl rfl ?_ | refine x_no rfl rfl (lookO_spec rfl) rfl rfl rfl ?_ | refine x_un rfl rfl (lookO_spec rfl) rfl rfl ?_) | ((first | refine' w_q rfl rfl ?xa rfl ?_ | refine' v_q rfl rfl ?xa rfl ?_ | refine' w_yes rfl rfl (lookO_spec rfl) rfl ?xa rfl ?_ | refine' v_yes rfl rfl (lookO_spec rfl) rfl ?xa rfl ?_); case xa => first | exact k_call KD rfl ⟨asA_r (evO_spec rfl), trivial⟩ | exact k_call KI rfl ⟨asA_agg (evO_spec rfl) ⟨cAr_r, cAr_r, cAr_r, cAr_r, cAr_r, trivial⟩, asA_r (evO_spec rfl), trivial⟩ | exact k_call KS rfl ⟨asA_agg (evO_spec rfl) ⟨cAr_r, cAr_r, cAr_r, cAr_r, cAr_r, trivial⟩, asA_r (evO_spec rfl), trivial⟩ | exact k_call KE1 rfl ⟨asA_agg (evO_spec rfl) ⟨cAr_r, cAr_r, cAr_r, cAr_r, cAr_r, trivial⟩, asA_agg (evO_spec rfl) ⟨cAr_r, cAr_r, cAr_r, cAr_r, cAr_r, trivial⟩, trivial⟩ | exact k_div rfl rfl rfl (by omega) | exact k_slice (a := 0) (b := h) tbOk rfl rfl rfl rfl ⟨_, by rw [← hw2, ← hq]; exact evO_spec rfl⟩ (by omega) (by omega) | exact k_slice (a := h) (b := xs.length) tbOk rfl rfl rfl ⟨_, by rw [← hw2, ← hq]; exact evO_spec rfl⟩ hlx.symm (by omega) (by omega) | exact k_call KA rfl ⟨asA_agg (evO_spec rfl) ⟨cAr_r, cAr_r, cAr_r, cAr_r, cAr_r, trivial⟩, asA_r (evO_spec rfl), trivial⟩ | exact k_call KB rfl ⟨asA_agg (evO_spec rfl) ⟨cAr_r, cAr_r, cAr_r, cAr_r, cAr_r, trivial⟩, asA_r (evO_spec rfl), trivial⟩ | exact k_call KE2 rfl ⟨asA_agg (evO_spec rfl) ⟨cAr_r, cAr_r, cAr_r, cAr_r, cAr_r, trivial⟩, asA_agg (evO_spec rfl) ⟨cAr_r, cAr_r, cAr_r, cAr_r, cAr_r, trivial⟩, trivial⟩ | exact k_call KV rfl ⟨asA_agg (evO_spec rfl) ⟨cAr_r, cAr_r, cAr_r, cAr_r, cAr_r, trivial⟩, trivial⟩) | ((first | refine aw_ways rfl ?_ ?_ | refine r_split rfl rfl rfl ?_ ?_) <;> intro hg_ <;> fail_if_success (exact Bool.noConfusion hg_)) <;> (try simp only [prn] at hg_) <;> (try first | contradiction | (exfalso; omega)))
      all_goals first
        | exact ret_tmp rfl (dres_bool rfl)
        | (exfalso; simp at *; done)
        | (exfalso; omega)
        | trace_state
  · refine fn_of (l := [.tmp 2]) Try.func6 (by kernel_rfl) rfl Try.ntmps6 rfl rfl ?_; simp only [argEnv, P0.d, Nat.reduceAdd]
    repeat' (first | (with_reducible first | refine aw_seq ?_ | refine thn_normal ?_ | refine thn_ret ?_ | refine thn_exit ?_ | refine blk_normal ?_ | refine blk_ret ?_ | refine blk_hit ?_ | refine blk_miss rfl ?_ | refine aw_block ?_ | refine aw_ret ?_ | refine aw_skip ?_ | refine aw_exit ?_ | refine w_nil ?_ | refine x_nil (by kernel_rfl) ?_) | refine aw_region ?_ | refine aw_region_draw (by kernel_rfl) ?_ | refine aw_yes rfl ?_ | refine aw_no rfl ?_ | ((with_reducible refine w_seq ?_); first | refine r_q tbOk rfl rfl rfl rfl ?_ | refine r_e tbOk rfl rfl rfl rfl rfl ?_ | refine r_yes tbOk rfl rfl rfl rfl rfl rfl ?_ | refine w_no rfl rfl (lookO_spec rfl) rfl rfl rfl ?_ | refine w_un rfl rfl (lookO_spec rfl) rfl rfl ?_) | ((with_reducible refine w_drw ?_); first | refine rx_q tbOk rfl rfl rfl rfl ?_ | refine rx_e tbOk rfl rfl rfl rfl rfl ?_ | refine rx_yes tbOk rfl rfl rfl rfl rfl rfl ?_ | refine x_no rfl rfl (lookO_spec rfl) rfl rfl rfl ?_ | refine x_un rfl rfl (lookO_spec rfl) rfl rfl ?_) | ((first | refine aw_ways rfl ?_ ?_ | refine r_split rfl rfl rfl ?_ ?_) <;> intro hg_ <;> fail_if_success (exact Bool.noConfusion hg_)) <;> (try simp only [prn] at hg_) <;> (try first | contradiction | (exfalso; omega)))
    all_goals first
      | exact ret_tmp rfl (dres_bool rfl)
      | trace_state
end Go.Proofs.Ytjjeihcmiofkmaa.Abs
