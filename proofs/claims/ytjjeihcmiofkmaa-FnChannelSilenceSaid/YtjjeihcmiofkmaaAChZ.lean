/- Channels by states: ChannelStep of the reference. No statement of the seat is proved here. -/
import Derived.Test.YtjjeihcmiofkmaaTy
import Derived.Lib.Hide
import Derived.Test.YtjjeihcmiofkmaaAChY
set_option linter.unusedSimpArgs false
set_option linter.unusedVariables false
namespace Go.Proofs.Ytjjeihcmiofkmaa.Abs
open Go.RowKit
open R (val row ref)

set_option maxRecDepth 100000 in
set_option maxHeartbeats 2000000 in
theorem f_specChStep (nV nG nP nR : Bool) (vs : List Int) (kn : Int) (got : List Int) (ps : List Pk) (rs : List Int) (s : Int) (h1 : vs.length ≤ 1048576) (h2 : got.length ≤ 1048576) (h3 : ps.length ≤ 1048576) (h4 : rs.length ≤ 1048576) :
    Fn Try.prog 21 [chP nV nG nP nR ⟨vs, kn, got, ps, rs⟩, iP s] (.tup [chP (!Ch.ok ⟨vs, kn, got, ps, rs⟩) (!Ch.ok ⟨vs, kn, got, ps, rs⟩) (!Ch.ok ⟨vs, kn, got, ps, rs⟩) (!Ch.ok ⟨vs, kn, got, ps, rs⟩) (stepR ⟨vs, kn, got, ps, rs⟩ s).1, .one (bool (stepR ⟨vs, kn, got, ps, rs⟩ s).2)]) := by
  have hok := f_specChOk nV nG nP nR vs kn got ps rs h1 h2 h3 h4
  unfold stepR
  cases ho : Ch.ok ⟨vs, kn, got, ps, rs⟩ with
  | false =>
    rw [ho] at hok
    simp only [Bool.false_eq_true, if_false, Bool.not_false]
    refine fn_of (l := [.cell 4 40, .tmp 5]) Try.func21 (by kernel_rfl) rfl Try.ntmps21 rfl rfl ?_; simp only [argEnv, P0.d, Nat.reduceAdd, chP, List.map_cons, List.map_nil]
    repeat' (first | (with_reducible first | refine aw_seq ?_ | refine thn_normal ?_ | refine thn_ret ?_ | refine thn_exit ?_ | refine blk_normal ?_ | refine blk_ret ?_ | refine blk_hit ?_ | refine blk_miss rfl ?_ | refine aw_block ?_ | refine aw_ret ?_ | refine aw_skip ?_ | refine aw_exit ?_ | refine w_nil ?_ | refine x_nil (by kernel_rfl) ?_) | refine aw_region ?_ | refine aw_region_draw (by kernel_rfl) ?_ | refine aw_yes rfl ?_ | refine aw_no rfl ?_ | ((with_reducible refine w_seq ?_); first | refine r_q tbOk rfl rfl rfl rfl ?_ | refine r_e tbOk rfl rfl rfl rfl rfl ?_ | refine r_yes tbOk rfl rfl rfl rfl rfl rfl ?_ | refine w_no rfl rfl (lookO_spec rfl) rfl rfl rfl ?_ | refine w_un rfl rfl (lookO_spec rfl) rfl rfl ?_) | ((with_reducible refine w_drw ?_); first | refine rx_q tbOk rfl rfl rfl rfl ?_ | refine rx_e tbOk rfl rfl rfl rfl rfl ?_ | refine rx_yes tbOk rfl rfl rfl rfl rfl rfl ?_ | refine x_no rfl rfl (lookO_spec rfl) rfl rfl rfl ?_ | refine x_un rfl rfl (lookO_spec rfl) rfl rfl ?_) | ((first | refine' w_q rfl rfl ?xa rfl ?_ | refine' v_q rfl rfl ?xa rfl ?_ | refine' w_yes rfl rfl (lookO_spec rfl) rfl ?xa rfl ?_ | refine' v_yes rfl rfl (lookO_spec rfl) rfl ?xa rfl ?_); case xa => exact k_call hok rfl ⟨asA_agg (evO_spec rfl) ⟨cAr_r, cAr_r, cAr_r, cAr_r, cAr_r, trivial⟩, trivial⟩) | ((first | refine aw_ways rfl ?_ ?_ | refine r_split rfl rfl rfl ?_ ?_) <;> intro hg_ <;> fail_if_success (exact Bool.noConfusion hg_)) <;> (try simp only [prn] at hg_) <;> (try first | contradiction | (exfalso; omega)))
    all_goals first
      | exact ret_2 (rv_cell rfl rfl (by (with_reducible first | exact ty3 | exact ty4 | exact ty5 | exact ty9 | exact ty17 | exact ty19 | exact ty22 | exact ty23 | exact ty25 | exact ty31 | exact ty38 | exact ty40 | exact ty54 | exact ty71 | exact ty75 | exact ty78 | exact ty82 | exact ty83)) rfl rfl rfl (dres_agg (by exact ⟨cres_nil, cres_val, cres_nil, cres_nil, cres_nil, trivial⟩))) (rv_tmp rfl (dres_bool rfl))
      | trace_state
  | true =>
    rw [ho] at hok
    simp only [if_true, Bool.not_true]
    have hG := Ch.ok_iff.1 ho
    have g1 := hG.psl
    have g2 := hG.rsl
    have g3 := hG.vsl
    have g4 := hG.kn0
    have g5 := hG.kn1
    have g6 := hG.len
    dsimp only at g1 g2 g3 g4 g5 g6
    clear hG ho h1 h2 h3 h4
    by_cases h0 : s = 0
    · subst h0
      exact ss_send nV nG nP nR vs kn got ps rs hok g1 g2 g3 g4 g5 g6
    by_cases h1 : s = 1 ∨ s = 2 ∨ s = 3 ∨ s = 4
    · have e : Ch.step ⟨vs, kn, got, ps, rs⟩ s = Ch.packet ⟨vs, kn, got, ps, rs⟩ s := by unfold Ch.step; rw [if_neg h0, if_pos h1]
      rw [e]
      cases ps with
      | nil => exact ss_pnil nV nG nP nR vs kn got rs s (by unfold inR; simp <;> omega) hok g1 g2 g3 g4 g5 g6
      | cons p t =>
        rcases h1 with rfl | rfl | rfl | rfl
        · exact ss_deliver nV nG nP nR vs kn got p t rs hok g1 g2 g3 g4 g5 g6
        · exact ss_lose nV nG nP nR vs kn got p t rs hok g1 g2 g3 g4 g5 g6
        · exact ss_double nV nG nP nR vs kn got p t rs hok g1 g2 g3 g4 g5 g6
        · exact ss_behind nV nG nP nR vs kn got p t rs hok g1 g2 g3 g4 g5 g6
    by_cases h5 : s = 5
    · subst h5
      exact ss_receipt nV nG nP nR vs kn got ps rs hok g1 g2 g3 g4 g5 g6
    by_cases h6 : s = 6 ∨ s = 7
    · have e : Ch.step ⟨vs, kn, got, ps, rs⟩ s = Ch.receiptStep ⟨vs, kn, got, ps, rs⟩ s := by unfold Ch.step; rw [if_neg h0, if_neg h1, if_neg h5, if_pos h6]
      rw [e]
      cases rs with
      | nil => exact ss_rnil nV nG nP nR vs kn got ps s (by unfold inR; simp <;> omega) (by unfold inR; simp <;> omega) hok g1 g2 g3 g4 g5 g6
      | cons r t =>
        rcases h6 with rfl | rfl
        · exact ss_learn nV nG nP nR vs kn got ps r t hok g1 g2 g3 g4 g5 g6
        · exact ss_forget nV nG nP nR vs kn got ps r t hok g1 g2 g3 g4 g5 g6
    · have e : Ch.step ⟨vs, kn, got, ps, rs⟩ s = (⟨vs, kn, got, ps, rs⟩, false) := by
        unfold Ch.step
        rw [if_neg h0, if_neg h1, if_neg h5, if_neg h6]
      rw [e]
      exact ss_no nV nG nP nR vs kn got ps rs s (by omega) hok g1 g2 g3 g4 g5 g6
end Go.Proofs.Ytjjeihcmiofkmaa.Abs
