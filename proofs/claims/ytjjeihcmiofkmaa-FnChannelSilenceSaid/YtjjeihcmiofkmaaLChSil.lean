/- The law FnChannelSilence by states. -/
import Derived.Test.YtjjeihcmiofkmaaTy
import Derived.Lib.Hide
import Derived.Test.YtjjeihcmiofkmaaADrC
set_option linter.unusedSimpArgs false
set_option linter.unusedVariables false
namespace Go.Proofs.Ytjjeihcmiofkmaa.Abs
open Go.RowKit
open R (val row ref)

theorem it2_nils {nV nG nP nR : Bool} {c : Ch} (h : Nils nV nG nP nR c) : ∀ k, Nils nV nG nP nR (Ch.it 2 k c)
  | 0 => h
  | k + 1 => by
    have := st_nils (it2_nils h k) 2
    rw [stP_ne (by omega), stR_ne (by omega), stG_ne (by omega)] at this
    exact this
theorem it7_nils {nV nG nP nR : Bool} {c : Ch} (h : Nils nV nG nP nR c) : ∀ k, Nils nV nG nP nR (Ch.it 7 k c)
  | 0 => h
  | k + 1 => by
    have := st_nils (it7_nils h k) 7
    rw [stP_ne (by omega), stR_ne (by omega), stG_ne (by omega)] at this
    exact this
set_option maxRecDepth 100000 in
set_option maxHeartbeats 8000000 in
theorem law_chSil (nb : Bool) (code : List Int) (hB : Byte code) : Fn Try.prog 8 [.one (row nb 1 (bys code))] (.v (.one (bool true))) := by
  have hlb := bys_len code
  by_cases hl : code.length ≤ 1048576
  · obtain ⟨nG, nP, nR, c, ⟨hn, a1, a2, a3, a4⟩, KD⟩ := f_drawQuiet nb code hB hl
    have KV := f_specChOk' false nG nP nR c (by omega) (by omega) (by omega) (by omega)
    cases ho : Ch.ok c with
    | false =>
      rw [ho] at KV
      have KI := f_implQuietNo false nG nP nR c ho (by omega) (by omega) (by omega) (by omega)
      have KS := f_specQuietNo false nG nP nR c ho (by omega) (by omega) (by omega) (by omega)
      have KE := f_sameCh' true true true true true true true true zeroCh (by simp [zeroCh]) (by simp [zeroCh]) (by simp [zeroCh]) (by simp [zeroCh])
      clear hn a1 a2 a3 a4 ho
      unfold zeroCh at *
      refine fn_of (l := [.tmp 2]) Try.func8 (by kernel_rfl) rfl Try.ntmps8 rfl rfl ?_; simp only [argEnv, P0.d, Nat.reduceAdd]
      repeat' (first | (with_reducible first | refine aw_seq ?_ | refine thn_normal ?_ | refine thn_ret ?_ | refine thn_exit ?_ | refine blk_normal ?_ | refine blk_ret ?_ | refine blk_hit ?_ | refine blk_miss rfl ?_ | refine aw_block ?_ | refine aw_ret ?_ | refine aw_skip ?_ | refine aw_exit ?_ | refine w_nil ?_ | refine x_nil (by kernel_rfl) ?_) | refine aw_region ?_ | refine aw_region_draw (by kernel_rfl) ?_ | refine aw_yes rfl ?_ | refine aw_no rfl ?_ | ((with_reducible refine w_seq ?_); first | refine r_q tbOk rfl rfl rfl rfl ?_ | refine r_e tbOk rfl rfl rfl rfl rfl ?_ | refine r_yes tbOk rfl rfl rfl rfl rfl rfl ?_ | refine w_no rfl rfl (lookO_spec rfl) rfl rfl rfl ?_ | refine w_un rfl rfl (lookO_spec rfl) rfl rfl ?_) | ((with_reducible refine w_drw ?_); first | refine rx_q tbOk rfl rfl rfl rfl ?_ | refine rx_e tbOk rfl rfl rfl rfl rfl ?_ | refine rx_yes tbOk rfl rfl rfl rfl rfl rfl ?_ | refine x_no rfl rfl (lookO_spec rfl) rfl rfl rfl ?_ | refine x_un rfl rfl (lookO_spec rfl) rfl rfl ?_) | ((first | refine' w_q rfl rfl ?xa rfl ?_ | refine' v_q rfl rfl ?xa rfl ?_ | refine' w_yes rfl rfl (lookO_spec rfl) rfl ?xa rfl ?_ | refine' v_yes rfl rfl (lookO_spec rfl) rfl ?xa rfl ?_); case xa => first | exact k_call KD rfl ⟨asA_r (evO_spec rfl), trivial⟩ | exact k_call KI rfl ⟨asA_agg (evO_spec rfl) ⟨cAr_r, cAr_r, cAr_r, cAr_r, cAr_r, trivial⟩, trivial⟩ | exact k_call KS rfl ⟨asA_agg (evO_spec rfl) ⟨cAr_r, cAr_r, cAr_r, cAr_r, cAr_r, trivial⟩, trivial⟩ | exact k_call KV rfl ⟨asA_agg (evO_spec rfl) ⟨cAr_r, cAr_r, cAr_r, cAr_r, cAr_r, trivial⟩, trivial⟩ | exact k_call KE rfl ⟨asA_agg (evO_spec rfl) ⟨cAr_r, cAr_r, cAr_r, cAr_r, cAr_r, trivial⟩, asA_agg (evO_spec rfl) ⟨cAr_r, cAr_r, cAr_r, cAr_r, cAr_r, trivial⟩, trivial⟩ | exact k_call f_alive rfl trivial) | ((first | refine aw_ways rfl ?_ ?_ | refine r_split rfl rfl rfl ?_ ?_) <;> intro hg_ <;> fail_if_success (exact Bool.noConfusion hg_)) <;> (try simp only [prn] at hg_) <;> (try first | contradiction | (exfalso; omega)))
      all_goals first
        | exact ret_tmp rfl (dres_bool rfl)
        | (exfalso; simp at *; done)
        | trace_state
    | true =>
      rw [ho] at KV
      have hG := Ch.ok_iff.1 ho
      have KI := f_implQuiet false nG nP nR c hG hn
      have KS := f_specQuiet false nG nP nR c hG
      have hq := Ch.quiet_facts hG
      have hls := hq.1.good.lens
      have KE := f_sameCh' false (quG nG c) nP nR false false false false (Ch.quiet c) hls.1 hls.2.1 hls.2.2.1 hls.2.2.2
      clear hq hls ho
      generalize Ch.quiet c = d at *
      generalize quG nG c = g1 at *
      refine fn_of (l := [.tmp 2]) Try.func8 (by kernel_rfl) rfl Try.ntmps8 rfl rfl ?_; simp only [argEnv, P0.d, Nat.reduceAdd]
      repeat' (first | (with_reducible first | refine aw_seq ?_ | refine thn_normal ?_ | refine thn_ret ?_ | refine thn_exit ?_ | refine blk_normal ?_ | refine blk_ret ?_ | refine blk_hit ?_ | refine blk_miss rfl ?_ | refine aw_block ?_ | refine aw_ret ?_ | refine aw_skip ?_ | refine aw_exit ?_ | refine w_nil ?_ | refine x_nil (by kernel_rfl) ?_) | refine aw_region ?_ | refine aw_region_draw (by kernel_rfl) ?_ | refine aw_yes rfl ?_ | refine aw_no rfl ?_ | ((with_reducible refine w_seq ?_); first | refine r_q tbOk rfl rfl rfl rfl ?_ | refine r_e tbOk rfl rfl rfl rfl rfl ?_ | refine r_yes tbOk rfl rfl rfl rfl rfl rfl ?_ | refine w_no rfl rfl (lookO_spec rfl) rfl rfl rfl ?_ | refine w_un rfl rfl (lookO_spec rfl) rfl rfl ?_) | ((with_reducible refine w_drw ?_); first | refine rx_q tbOk rfl rfl rfl rfl ?_ | refine rx_e tbOk rfl rfl rfl rfl rfl ?_ | refine rx_yes tbOk rfl rfl rfl rfl rfl rfl ?_ | refine x_no rfl rfl (lookO_spec rfl) rfl rfl rfl ?_ | refine x_un rfl rfl (lookO_spec rfl) rfl rfl ?_) | ((first | refine' w_q rfl rfl ?xa rfl ?_ | refine' v_q rfl rfl ?xa rfl ?_ | refine' w_yes rfl rfl (lookO_spec rfl) rfl ?xa rfl ?_ | refine' v_yes rfl rfl (lookO_spec rfl) rfl ?xa rfl ?_); case xa => first | exact k_call KD rfl ⟨asA_r (evO_spec rfl), trivial⟩ | exact k_call KI rfl ⟨asA_agg (evO_spec rfl) ⟨cAr_r, cAr_r, cAr_r, cAr_r, cAr_r, trivial⟩, trivial⟩ | exact k_call KS rfl ⟨asA_agg (evO_spec rfl) ⟨cAr_r, cAr_r, cAr_r, cAr_r, cAr_r, trivial⟩, trivial⟩ | exact k_call KV rfl ⟨asA_agg (evO_spec rfl) ⟨cAr_r, cAr_r, cAr_r, cAr_r, cAr_r, trivial⟩, trivial⟩ | exact k_call KE rfl ⟨asA_agg (evO_spec rfl) ⟨cAr_r, cAr_r, cAr_r, cAr_r, cAr_r, trivial⟩, asA_agg (evO_spec rfl) ⟨cAr_r, cAr_r, cAr_r, cAr_r, cAr_r, trivial⟩, trivial⟩ | exact k_call f_alive rfl trivial) | ((first | refine aw_ways rfl ?_ ?_ | refine r_split rfl rfl rfl ?_ ?_) <;> intro hg_ <;> fail_if_success (exact Bool.noConfusion hg_)) <;> (try simp only [prn] at hg_) <;> (try first | contradiction | (exfalso; omega)))
      clear KD KI KS KV KE
      have hps := hG.psl
      obtain ⟨T, hT⟩ : ∃ T : St, T = mkS 85 [(3, .one (.ptr 3 0 0 0))] [(3, .var 40 (chV true false nG nP nR (Ch.it 2 c.ps.length c)))] := ⟨_, rfl⟩
      refine aw_loopCut T ?_ ?_
      · refine aw_loopI (fun k : Nat => k ≤ c.ps.length) (fun k => mkS 85 [(4, .one (.r true (int (k : Int)))), (3, .one (.ptr 3 0 0 0))] [(3, .var 40 (chV true false nG nP nR (Ch.it 2 k c)))]) (fun k => c.ps.length - k) 0 (Nat.zero_le _) ?_ ?_
        · dsimp only [chV]
          (refine weak_ren [] rfl ?_ ?_ <;> repeat' (first | exact trivial | refine subR_cons rfl ?_ ?_ | refine subHR_cons rfl ?_ ?_ | rfl | (refine d_int ?_; (first | rfl | omega | (rw [IntWalk.i64_in _ (by omega)] <;> omega) | (simp; done) | (simp; omega))) | (refine d_bool ?_; (first | (simp_all; done) | (rw [Bool.eq_iff_iff]; simp_all; done) | (rw [Bool.eq_iff_iff]; simp_all; omega) | (rw [Bool.eq_iff_iff]; simp; omega)))))
        intro k hk
        have hst := Ch.step_ps (c := Ch.it 2 k c) (s := 2) (.inr rfl)
        have hit := Ch.it_ps (s := 2) (.inr rfl) c k
        have hgk := Ch.it_grow hG 2 k
        have hlen : (pks (Ch.it 2 k c).ps).length = c.ps.length - k := by rw [pks_len, hit.1]; simp
        by_cases hlt : k < c.ps.length
        · have K := f_implStepV false nG nP nR (Ch.it 2 k c) 2 hgk.good (it2_nils hn k)
          rw [stP_ne (by omega), stR_ne (by omega), stG_ne (by omega), hst.2.2.2.1] at K
          have hb : (!List.isEmpty (Ch.it 2 k c).ps) = true := by
            rw [hit.1]
            cases h : List.drop k c.ps with
            | nil => have := congrArg List.length h; simp at this; omega
            | cons _ _ => rfl
          rw [hb] at K
          have hw : IntKind.i64.wrap ((k : Int) + 1) = ((k + 1 : Nat) : Int) := by rw [IntWalk.i64_in _ (by omega)]; omega
          have hfin : ∀ s', Weak s' (mkS 85 [(4, .one (.r true (int ((k + 1 : Nat) : Int)))), (3, .one (.ptr 3 0 0 0))] [(3, .var 40 (chV true false nG nP nR (Ch.step (Ch.it 2 k c) 2).1))]) → ∃ x', x' ≤ c.ps.length ∧ Weak s' (mkS 85 [(4, .one (.r true (int (x' : Int)))), (3, .one (.ptr 3 0 0 0))] [(3, .var 40 (chV true false nG nP nR (Ch.it 2 x' c)))]) ∧ c.ps.length - x' < c.ps.length - k := fun s' h => ⟨k + 1, hlt, h, by omega⟩
          clear hst hit hgk hb hG hn
          dsimp only [chV] at hfin ⊢
          generalize (Ch.step (Ch.it 2 k c) 2).1 = d' at *
          generalize Ch.it 2 k c = d0 at *
          repeat' (first | (with_reducible first | refine aw_seq ?_ | refine thn_normal ?_ | refine thn_ret ?_ | refine thn_exit ?_ | refine blk_normal ?_ | refine blk_ret ?_ | refine blk_hit ?_ | refine blk_miss rfl ?_ | refine aw_block ?_ | refine aw_ret ?_ | refine aw_skip ?_ | refine aw_exit ?_ | refine w_nil ?_ | refine x_nil (by kernel_rfl) ?_) | refine aw_region ?_ | refine aw_region_draw (by kernel_rfl) ?_ | refine aw_yes rfl ?_ | refine aw_no rfl ?_ | ((with_reducible refine w_seq ?_); first | refine r_q tbOk rfl rfl rfl rfl ?_ | refine r_e tbOk rfl rfl rfl rfl rfl ?_ | refine r_yes tbOk rfl rfl rfl rfl rfl rfl ?_ | refine w_no rfl rfl (lookO_spec rfl) rfl rfl rfl ?_ | refine w_un rfl rfl (lookO_spec rfl) rfl rfl ?_) | ((with_reducible refine w_drw ?_); first | refine rx_q tbOk rfl rfl rfl rfl ?_ | refine rx_e tbOk rfl rfl rfl rfl rfl ?_ | refine rx_yes tbOk rfl rfl rfl rfl rfl rfl ?_ | refine x_no rfl rfl (lookO_spec rfl) rfl rfl rfl ?_ | refine x_un rfl rfl (lookO_spec rfl) rfl rfl ?_) | ((first | refine' w_q rfl rfl ?xa rfl ?_ | refine' v_q rfl rfl ?xa rfl ?_ | refine' w_yes rfl rfl (lookO_spec rfl) rfl ?xa rfl ?_ | refine' v_yes rfl rfl (lookO_spec rfl) rfl ?xa rfl ?_); case xa => exact k_call K rfl ⟨asA_agg (evO_spec rfl) ⟨cAr_r, cAr_r, cAr_r, cAr_r, cAr_r, trivial⟩, asA_r (evO_spec rfl), trivial⟩) | ((first | refine aw_ways rfl ?_ ?_ | refine r_split rfl rfl rfl ?_ ?_) <;> intro hg_ <;> fail_if_success (exact Bool.noConfusion hg_)) <;> (try simp only [prn] at hg_) <;> (try first | contradiction | (exfalso; omega)))
          all_goals first
            | (refine hfin _ ?_
               (refine weak_ren [] rfl ?_ ?_ <;> repeat' (first | exact trivial | refine subR_cons rfl ?_ ?_ | refine subHR_cons rfl ?_ ?_ | rfl | (refine d_int ?_; (first | rfl | omega | (rw [IntWalk.i64_in _ (by omega)] <;> omega) | (simp; done) | (simp; omega))) | (refine d_bool ?_; (first | (simp_all; done) | (rw [Bool.eq_iff_iff]; simp_all; done) | (rw [Bool.eq_iff_iff]; simp_all; omega) | (rw [Bool.eq_iff_iff]; simp; omega))) | exact d_int hw)))
            | (exfalso; omega)
            | (exfalso; simp at *; omega)
            | trace_state
        obtain rfl : k = c.ps.length := by omega
        have hfin : ∀ s', Weak s' (mkS 85 [(3, .one (.ptr 3 0 0 0))] [(3, .var 40 (chV true false nG nP nR (Ch.it 2 c.ps.length c)))]) → Weak s' T := fun s' h => by rw [hT]; exact h
        clear hT hst hit hgk hG hn
        dsimp only [chV] at hfin ⊢
        generalize Ch.it 2 c.ps.length c = d0 at *
        repeat' (first | (with_reducible first | refine aw_seq ?_ | refine thn_normal ?_ | refine thn_ret ?_ | refine thn_exit ?_ | refine blk_normal ?_ | refine blk_ret ?_ | refine blk_hit ?_ | refine blk_miss rfl ?_ | refine aw_block ?_ | refine aw_ret ?_ | refine aw_skip ?_ | refine aw_exit ?_ | refine w_nil ?_ | refine x_nil (by kernel_rfl) ?_) | refine aw_region ?_ | refine aw_region_draw (by kernel_rfl) ?_ | refine aw_yes rfl ?_ | refine aw_no rfl ?_ | ((with_reducible refine w_seq ?_); first | refine r_q tbOk rfl rfl rfl rfl ?_ | refine r_e tbOk rfl rfl rfl rfl rfl ?_ | refine r_yes tbOk rfl rfl rfl rfl rfl rfl ?_ | refine w_no rfl rfl (lookO_spec rfl) rfl rfl rfl ?_ | refine w_un rfl rfl (lookO_spec rfl) rfl rfl ?_) | ((with_reducible refine w_drw ?_); first | refine rx_q tbOk rfl rfl rfl rfl ?_ | refine rx_e tbOk rfl rfl rfl rfl rfl ?_ | refine rx_yes tbOk rfl rfl rfl rfl rfl rfl ?_ | refine x_no rfl rfl (lookO_spec rfl) rfl rfl rfl ?_ | refine x_un rfl rfl (lookO_spec rfl) rfl rfl ?_) | ((first | refine aw_ways rfl ?_ ?_ | refine r_split rfl rfl rfl ?_ ?_) <;> intro hg_ <;> fail_if_success (exact Bool.noConfusion hg_)) <;> (try simp only [prn] at hg_) <;> (try first | contradiction | (exfalso; omega)))
        all_goals first
          | (refine hfin _ ?_
             (refine weak_ren [] rfl ?_ ?_ <;> repeat' (first | exact trivial | refine subR_cons rfl ?_ ?_ | refine subHR_cons rfl ?_ ?_ | rfl | (refine d_int ?_; (first | rfl | omega | (rw [IntWalk.i64_in _ (by omega)] <;> omega) | (simp; done) | (simp; omega))) | (refine d_bool ?_; (first | (simp_all; done) | (rw [Bool.eq_iff_iff]; simp_all; done) | (rw [Bool.eq_iff_iff]; simp_all; omega) | (rw [Bool.eq_iff_iff]; simp; omega))))))
          | (exfalso; omega)
          | (exfalso; simp at *; omega)
          | trace_state
      rw [hT]
      clear hT T
      have hn2 := it2_nils hn c.ps.length
      have hit := (Ch.it_ps (s := 2) (.inr rfl) c c.ps.length)
      have hgk := Ch.it_grow hG 2 c.ps.length
      have hit2 := hit.1
      rw [List.drop_length] at hit2
      have hG2 := hgk.good
      have hrs := hG2.rsl
      have hvs := hgk.vs
      clear hgk hit hn hG hps
      generalize Ch.it 2 c.ps.length c = e at *
      repeat' (first | (with_reducible first | refine aw_seq ?_ | refine thn_normal ?_ | refine thn_ret ?_ | refine thn_exit ?_ | refine blk_normal ?_ | refine blk_ret ?_ | refine blk_hit ?_ | refine blk_miss rfl ?_ | refine aw_block ?_ | refine aw_ret ?_ | refine aw_skip ?_ | refine aw_exit ?_ | refine w_nil ?_ | refine x_nil (by kernel_rfl) ?_) | refine aw_region ?_ | refine aw_region_draw (by kernel_rfl) ?_ | refine aw_yes rfl ?_ | refine aw_no rfl ?_ | ((with_reducible refine w_seq ?_); first | refine r_q tbOk rfl rfl rfl rfl ?_ | refine r_e tbOk rfl rfl rfl rfl rfl ?_ | refine r_yes tbOk rfl rfl rfl rfl rfl rfl ?_ | refine w_no rfl rfl (lookO_spec rfl) rfl rfl rfl ?_ | refine w_un rfl rfl (lookO_spec rfl) rfl rfl ?_) | ((with_reducible refine w_drw ?_); first | refine rx_q tbOk rfl rfl rfl rfl ?_ | refine rx_e tbOk rfl rfl rfl rfl rfl ?_ | refine rx_yes tbOk rfl rfl rfl rfl rfl rfl ?_ | refine x_no rfl rfl (lookO_spec rfl) rfl rfl rfl ?_ | refine x_un rfl rfl (lookO_spec rfl) rfl rfl ?_) | ((first | refine aw_ways rfl ?_ ?_ | refine r_split rfl rfl rfl ?_ ?_) <;> intro hg_ <;> fail_if_success (exact Bool.noConfusion hg_)) <;> (try simp only [prn] at hg_) <;> (try first | contradiction | (exfalso; omega)))
      obtain ⟨T, hT⟩ : ∃ T : St, T = mkS 85 [(3, .one (.ptr 3 0 0 0))] [(3, .var 40 (chV true false nG nP nR (Ch.it 7 e.rs.length e)))] := ⟨_, rfl⟩
      refine aw_loopCut T ?_ ?_
      · refine aw_loopI (fun k : Nat => k ≤ e.rs.length) (fun k => mkS 85 [(7, .one (.r true (int (k : Int)))), (3, .one (.ptr 3 0 0 0))] [(3, .var 40 (chV true false nG nP nR (Ch.it 7 k e)))]) (fun k => e.rs.length - k) 0 (Nat.zero_le _) ?_ ?_
        · dsimp only [chV]
          (refine weak_ren [] rfl ?_ ?_ <;> repeat' (first | exact trivial | refine subR_cons rfl ?_ ?_ | refine subHR_cons rfl ?_ ?_ | rfl | (refine d_int ?_; (first | rfl | omega | (rw [IntWalk.i64_in _ (by omega)] <;> omega) | (simp; done) | (simp; omega))) | (refine d_bool ?_; (first | (simp_all; done) | (rw [Bool.eq_iff_iff]; simp_all; done) | (rw [Bool.eq_iff_iff]; simp_all; omega) | (rw [Bool.eq_iff_iff]; simp; omega)))))
        intro k hk
        have hst := Ch.step_rs (c := Ch.it 7 k e) (s := 7) (.inr rfl)
        have hit := Ch.it_rs (s := 7) (.inr rfl) e k
        have hgk := Ch.it_grow hG2 7 k
        have hlen : (ints (Ch.it 7 k e).rs).length = e.rs.length - k := by rw [ints_len, hit.1]; simp
        by_cases hlt : k < e.rs.length
        · have K := f_implStepV false nG nP nR (Ch.it 7 k e) 7 hgk.good (it7_nils hn2 k)
          rw [stP_ne (by omega), stR_ne (by omega), stG_ne (by omega), hst.2.2.2.1] at K
          have hb : (!List.isEmpty (Ch.it 7 k e).rs) = true := by
            rw [hit.1]
            cases h : List.drop k e.rs with
            | nil => have := congrArg List.length h; simp at this; omega
            | cons _ _ => rfl
          rw [hb] at K
          have hw : IntKind.i64.wrap ((k : Int) + 1) = ((k + 1 : Nat) : Int) := by rw [IntWalk.i64_in _ (by omega)]; omega
          have hfin : ∀ s', Weak s' (mkS 85 [(7, .one (.r true (int ((k + 1 : Nat) : Int)))), (3, .one (.ptr 3 0 0 0))] [(3, .var 40 (chV true false nG nP nR (Ch.step (Ch.it 7 k e) 7).1))]) → ∃ x', x' ≤ e.rs.length ∧ Weak s' (mkS 85 [(7, .one (.r true (int (x' : Int)))), (3, .one (.ptr 3 0 0 0))] [(3, .var 40 (chV true false nG nP nR (Ch.it 7 x' e)))]) ∧ e.rs.length - x' < e.rs.length - k := fun s' h => ⟨k + 1, hlt, h, by omega⟩
          clear hst hit hgk hb hG2 hn2 hT
          dsimp only [chV] at hfin ⊢
          generalize (Ch.step (Ch.it 7 k e) 7).1 = d' at *
          generalize Ch.it 7 k e = d0 at *
          repeat' (first | (with_reducible first | refine aw_seq ?_ | refine thn_normal ?_ | refine thn_ret ?_ | refine thn_exit ?_ | refine blk_normal ?_ | refine blk_ret ?_ | refine blk_hit ?_ | refine blk_miss rfl ?_ | refine aw_block ?_ | refine aw_ret ?_ | refine aw_skip ?_ | refine aw_exit ?_ | refine w_nil ?_ | refine x_nil (by kernel_rfl) ?_) | refine aw_region ?_ | refine aw_region_draw (by kernel_rfl) ?_ | refine aw_yes rfl ?_ | refine aw_no rfl ?_ | ((with_reducible refine w_seq ?_); first | refine r_q tbOk rfl rfl rfl rfl ?_ | refine r_e tbOk rfl rfl rfl rfl rfl ?_ | refine r_yes tbOk rfl rfl rfl rfl rfl rfl ?_ | refine w_no rfl rfl (lookO_spec rfl) rfl rfl rfl ?_ | refine w_un rfl rfl (lookO_spec rfl) rfl rfl ?_) | ((with_reducible refine w_drw ?_); first | refine rx_q tbOk rfl rfl rfl rfl ?_ | refine rx_e tbOk rfl rfl rfl rfl rfl ?_ | refine rx_yes tbOk rfl rfl rfl rfl rfl rfl ?_ | refine x_no rfl rfl (lookO_spec rfl) rfl rfl rfl ?_ | refine x_un rfl rfl (lookO_spec rfl) rfl rfl ?_) | ((first | refine' w_q rfl rfl ?xa rfl ?_ | refine' v_q rfl rfl ?xa rfl ?_ | refine' w_yes rfl rfl (lookO_spec rfl) rfl ?xa rfl ?_ | refine' v_yes rfl rfl (lookO_spec rfl) rfl ?xa rfl ?_); case xa => exact k_call K rfl ⟨asA_agg (evO_spec rfl) ⟨cAr_r, cAr_r, cAr_r, cAr_r, cAr_r, trivial⟩, asA_r (evO_spec rfl), trivial⟩) | ((first | refine aw_ways rfl ?_ ?_ | refine r_split rfl rfl rfl ?_ ?_) <;> intro hg_ <;> fail_if_success (exact Bool.noConfusion hg_)) <;> (try simp only [prn] at hg_) <;> (try first | contradiction | (exfalso; omega)))
          all_goals first
            | (refine hfin _ ?_
               (refine weak_ren [] rfl ?_ ?_ <;> repeat' (first | exact trivial | refine subR_cons rfl ?_ ?_ | refine subHR_cons rfl ?_ ?_ | rfl | (refine d_int ?_; (first | rfl | omega | (rw [IntWalk.i64_in _ (by omega)] <;> omega) | (simp; done) | (simp; omega))) | (refine d_bool ?_; (first | (simp_all; done) | (rw [Bool.eq_iff_iff]; simp_all; done) | (rw [Bool.eq_iff_iff]; simp_all; omega) | (rw [Bool.eq_iff_iff]; simp; omega))) | exact d_int hw)))
            | (exfalso; omega)
            | (exfalso; simp at *; omega)
            | trace_state
        obtain rfl : k = e.rs.length := by omega
        have hfin : ∀ s', Weak s' (mkS 85 [(3, .one (.ptr 3 0 0 0))] [(3, .var 40 (chV true false nG nP nR (Ch.it 7 e.rs.length e)))]) → Weak s' T := fun s' h => by rw [hT]; exact h
        clear hT hst hit hgk hG2 hn2
        dsimp only [chV] at hfin ⊢
        generalize Ch.it 7 e.rs.length e = d0 at *
        repeat' (first | (with_reducible first | refine aw_seq ?_ | refine thn_normal ?_ | refine thn_ret ?_ | refine thn_exit ?_ | refine blk_normal ?_ | refine blk_ret ?_ | refine blk_hit ?_ | refine blk_miss rfl ?_ | refine aw_block ?_ | refine aw_ret ?_ | refine aw_skip ?_ | refine aw_exit ?_ | refine w_nil ?_ | refine x_nil (by kernel_rfl) ?_) | refine aw_region ?_ | refine aw_region_draw (by kernel_rfl) ?_ | refine aw_yes rfl ?_ | refine aw_no rfl ?_ | ((with_reducible refine w_seq ?_); first | refine r_q tbOk rfl rfl rfl rfl ?_ | refine r_e tbOk rfl rfl rfl rfl rfl ?_ | refine r_yes tbOk rfl rfl rfl rfl rfl rfl ?_ | refine w_no rfl rfl (lookO_spec rfl) rfl rfl rfl ?_ | refine w_un rfl rfl (lookO_spec rfl) rfl rfl ?_) | ((with_reducible refine w_drw ?_); first | refine rx_q tbOk rfl rfl rfl rfl ?_ | refine rx_e tbOk rfl rfl rfl rfl rfl ?_ | refine rx_yes tbOk rfl rfl rfl rfl rfl rfl ?_ | refine x_no rfl rfl (lookO_spec rfl) rfl rfl rfl ?_ | refine x_un rfl rfl (lookO_spec rfl) rfl rfl ?_) | ((first | refine aw_ways rfl ?_ ?_ | refine r_split rfl rfl rfl ?_ ?_) <;> intro hg_ <;> fail_if_success (exact Bool.noConfusion hg_)) <;> (try simp only [prn] at hg_) <;> (try first | contradiction | (exfalso; omega)))
        all_goals first
          | (refine hfin _ ?_
             (refine weak_ren [] rfl ?_ ?_ <;> repeat' (first | exact trivial | refine subR_cons rfl ?_ ?_ | refine subHR_cons rfl ?_ ?_ | rfl | (refine d_int ?_; (first | rfl | omega | (rw [IntWalk.i64_in _ (by omega)] <;> omega) | (simp; done) | (simp; omega))) | (refine d_bool ?_; (first | (simp_all; done) | (rw [Bool.eq_iff_iff]; simp_all; done) | (rw [Bool.eq_iff_iff]; simp_all; omega) | (rw [Bool.eq_iff_iff]; simp; omega))))))
          | (exfalso; omega)
          | (exfalso; simp at *; omega)
          | trace_state
      rw [hT]
      clear hT T
      have hn3 := it7_nils hn2 e.rs.length
      have hit := (Ch.it_rs (s := 7) (.inr rfl) e e.rs.length)
      have hgk := Ch.it_grow hG2 7 e.rs.length
      have p1 : (Ch.it 7 e.rs.length e).rs = [] := by rw [hit.1, List.drop_length]
      have p2 : (Ch.it 7 e.rs.length e).ps = [] := by rw [hit.2.1, hit2]
      have hG3 := hgk.good
      clear hgk hit hG2 hn2 hit2 hvs hrs
      generalize Ch.it 7 e.rs.length e = f at *
      have hQ := Ch.quiet_facts hG3
      obtain ⟨n, hn40, h1, h2⟩ := Ch.rounds_end hQ.1.good hQ.2.1 hQ.2.2.1
      have KF := f_implFinish false nG nP nR f n hG3 hn3 hn40 h1 h2
      have hg := (Ch.rounds_grow hQ.1.good hQ.2.1 hQ.2.2.1 n).1
      have hend : (Ch.rounds n (Ch.quiet f)).got = f.vs := by
        rw [Ch.done_got hg.good h1, hg.vs, hQ.1.vs]
      have KN2 := fun nn => f_sameInts nn false f.vs hG3.lens.1
      clear hQ h1 h2 hg hn3 hG3
      generalize Ch.rounds n (Ch.quiet f) = g at *
      generalize rdG _ (Ch.quiet f) n = z1 at *
      generalize rdP _ (Ch.quiet f) n = z2 at *
      generalize rdR _ (Ch.quiet f) n = z3 at *
      obtain ⟨vs, kn, got, ps, rs⟩ := f
      obtain ⟨vs', kn', got', ps', rs'⟩ := g
      dsimp only at p1 p2 hend KN2
      subst p1 p2 hend
      have KN2 := KN2 z1
      dsimp only [chV]
      repeat' (first | (with_reducible first | refine aw_seq ?_ | refine thn_normal ?_ | refine thn_ret ?_ | refine thn_exit ?_ | refine blk_normal ?_ | refine blk_ret ?_ | refine blk_hit ?_ | refine blk_miss rfl ?_ | refine aw_block ?_ | refine aw_ret ?_ | refine aw_skip ?_ | refine aw_exit ?_ | refine w_nil ?_ | refine x_nil (by kernel_rfl) ?_) | refine aw_region ?_ | refine aw_region_draw (by kernel_rfl) ?_ | refine aw_yes rfl ?_ | refine aw_no rfl ?_ | ((with_reducible refine w_seq ?_); first | refine r_q tbOk rfl rfl rfl rfl ?_ | refine r_e tbOk rfl rfl rfl rfl rfl ?_ | refine r_yes tbOk rfl rfl rfl rfl rfl rfl ?_ | refine w_no rfl rfl (lookO_spec rfl) rfl rfl rfl ?_ | refine w_un rfl rfl (lookO_spec rfl) rfl rfl ?_) | ((with_reducible refine w_drw ?_); first | refine rx_q tbOk rfl rfl rfl rfl ?_ | refine rx_e tbOk rfl rfl rfl rfl rfl ?_ | refine rx_yes tbOk rfl rfl rfl rfl rfl rfl ?_ | refine x_no rfl rfl (lookO_spec rfl) rfl rfl rfl ?_ | refine x_un rfl rfl (lookO_spec rfl) rfl rfl ?_) | ((first | refine' w_q rfl rfl ?xa rfl ?_ | refine' v_q rfl rfl ?xa rfl ?_ | refine' w_yes rfl rfl (lookO_spec rfl) rfl ?xa rfl ?_ | refine' v_yes rfl rfl (lookO_spec rfl) rfl ?xa rfl ?_); case xa => first | exact k_call KF rfl ⟨asA_agg (evO_spec rfl) ⟨cAr_r, cAr_r, cAr_r, cAr_r, cAr_r, trivial⟩, trivial⟩ | exact k_call KN2 rfl ⟨asA_r (evO_spec rfl), asA_r (evO_spec rfl), trivial⟩) | ((first | refine aw_ways rfl ?_ ?_ | refine r_split rfl rfl rfl ?_ ?_) <;> intro hg_ <;> fail_if_success (exact Bool.noConfusion hg_)) <;> (try simp only [prn] at hg_) <;> (try first | contradiction | (exfalso; omega)))
      all_goals first
        | exact ret_tmp rfl (dres_bool rfl)
        | (exfalso; simp at *; done)
        | trace_state
  · refine fn_of (l := [.tmp 2]) Try.func8 (by kernel_rfl) rfl Try.ntmps8 rfl rfl ?_; simp only [argEnv, P0.d, Nat.reduceAdd]
    repeat' (first | (with_reducible first | refine aw_seq ?_ | refine thn_normal ?_ | refine thn_ret ?_ | refine thn_exit ?_ | refine blk_normal ?_ | refine blk_ret ?_ | refine blk_hit ?_ | refine blk_miss rfl ?_ | refine aw_block ?_ | refine aw_ret ?_ | refine aw_skip ?_ | refine aw_exit ?_ | refine w_nil ?_ | refine x_nil (by kernel_rfl) ?_) | refine aw_region ?_ | refine aw_region_draw (by kernel_rfl) ?_ | refine aw_yes rfl ?_ | refine aw_no rfl ?_ | ((with_reducible refine w_seq ?_); first | refine r_q tbOk rfl rfl rfl rfl ?_ | refine r_e tbOk rfl rfl rfl rfl rfl ?_ | refine r_yes tbOk rfl rfl rfl rfl rfl rfl ?_ | refine w_no rfl rfl (lookO_spec rfl) rfl rfl rfl ?_ | refine w_un rfl rfl (lookO_spec rfl) rfl rfl ?_) | ((with_reducible refine w_drw ?_); first | refine rx_q tbOk rfl rfl rfl rfl ?_ | refine rx_e tbOk rfl rfl rfl rfl rfl ?_ | refine rx_yes tbOk rfl rfl rfl rfl rfl rfl ?_ | refine x_no rfl rfl (lookO_spec rfl) rfl rfl rfl ?_ | refine x_un rfl rfl (lookO_spec rfl) rfl rfl ?_) | ((first | refine aw_ways rfl ?_ ?_ | refine r_split rfl rfl rfl ?_ ?_) <;> intro hg_ <;> fail_if_success (exact Bool.noConfusion hg_)) <;> (try simp only [prn] at hg_) <;> (try first | contradiction | (exfalso; omega)))
    all_goals first
      | exact ret_tmp rfl (dres_bool rfl)
      | trace_state
end Go.Proofs.Ytjjeihcmiofkmaa.Abs
