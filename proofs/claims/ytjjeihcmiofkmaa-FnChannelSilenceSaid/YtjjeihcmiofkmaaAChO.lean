/- Channels by states: a step of the program. No statement of the seat is proved here. -/
import Derived.Test.YtjjeihcmiofkmaaTy
import Derived.Lib.Hide
import Derived.Test.YtjjeihcmiofkmaaAChN
set_option linter.unusedSimpArgs false
set_option linter.unusedVariables false
namespace Go.Proofs.Ytjjeihcmiofkmaa.Abs
open Go.RowKit
open R (val row ref)

/-- The marks of nil rows behind a step; whether what is known was laid anew. -/
def stG (nG : Bool) (c : Ch) (s : Int) : Bool := nG && !(decide (s = 1 ∨ s = 2 ∨ s = 3 ∨ s = 4) && pkApp c.ps c.got s)
def stP (nP : Bool) (c : Ch) (s : Int) : Bool := nP && !(decide (s = 0) && (Ch.send c).2)
def stR (nR : Bool) (c : Ch) (s : Int) : Bool := nR && !(decide (s = 5) && (Ch.receipt c).2)
def stK (mk : Bool) (c : Ch) (s : Int) : Bool := mk || (!c.rs.isEmpty && decide (s = 6))
set_option maxRecDepth 100000 in
set_option maxHeartbeats 8000000 in
theorem f_do (nV nG nP nR mV mk : Bool) (vs : List Int) (kn : Int) (got : List Int) (ps : List Pk) (rs : List Int) (s : Int) (hG : nG = true → got = []) (hP : nP = true → ps = []) (hR : nR = true → rs = []) (hl : ps.length ≤ 100) (hlr : rs.length ≤ 100) (hv : vs.length ≤ 20) (hk0 : 0 ≤ kn) (hk1 : kn ≤ vs.length) (hg : got.length ≤ 1048576) :
    FnS Try.prog 50 [.one (.ptr 1000000000 0 0 0), .one (.r false (int s))] (chH 1000000000 1000001 1000002 1000003 nV nG nP nR mV mk ⟨vs, kn, got, ps, rs⟩) (.one (.r true (bool (Ch.step ⟨vs, kn, got, ps, rs⟩ s).2))) (chH 1000000000 2000001 2000002 2000003 nV (stG nG ⟨vs, kn, got, ps, rs⟩ s) (stP nP ⟨vs, kn, got, ps, rs⟩ s) (stR nR ⟨vs, kn, got, ps, rs⟩ s) mV (stK mk ⟨vs, kn, got, ps, rs⟩ s) (Ch.step ⟨vs, kn, got, ps, rs⟩ s).1) := by
  have K0 := f_send nV nG nP nR mV mk vs kn got ps rs hG hP hR hl hv hk0 hk1
  have K1 := f_packetStep nV nG nP nR mV mk vs kn got ps rs s hG hP hR hl hg
  have K2 := f_receipt nV nG nP nR mV mk vs kn got ps rs hG hP hR hlr
  have K3 := f_receiptStep nV nG nP nR mV mk vs kn got ps rs s hG hP hR hlr
  by_cases h0 : s = 0
  · subst h0
    have e1 : Ch.step ⟨vs, kn, got, ps, rs⟩ 0 = Ch.send ⟨vs, kn, got, ps, rs⟩ := by simp [Ch.step]
    have e2 : stG nG ⟨vs, kn, got, ps, rs⟩ 0 = nG := by simp [stG]
    have e3 : stP nP ⟨vs, kn, got, ps, rs⟩ 0 = (nP && !(Ch.send ⟨vs, kn, got, ps, rs⟩).2) := by simp [stP]
    have e4 : stR nR ⟨vs, kn, got, ps, rs⟩ 0 = nR := by simp [stR]
    have e5 : stK mk ⟨vs, kn, got, ps, rs⟩ 0 = mk := by simp [stK]
    rw [e1, e2, e3, e4, e5]
    clear e1 e2 e3 e4 e5 K1 K2 K3
    generalize Ch.send ⟨vs, kn, got, ps, rs⟩ = r at *
    obtain ⟨⟨vs', kn', got', ps', rs'⟩, b⟩ := r
    generalize hnp : (nP && !b) = nP' at *
    clear hnp
    dsimp only at K0 ⊢
    cases nG <;> cases nP <;> cases nR <;> cases nP'
    all_goals
      (try (have h := hG rfl; subst h)); (try (have h := hP rfl; subst h)); (try (have h := hR rfl; subst h))
      dsimp only [chH, rowC, rowO] at K0
      simp only [Bool.false_eq_true, if_false, if_true, List.nil_append, List.append_nil, List.cons_append] at K0
      dsimp only [chH, rowC, rowO]; simp only [Bool.false_eq_true, if_false, if_true, List.nil_append, List.append_nil, List.cons_append, Bool.and_true, Bool.and_false, Bool.true_and, Bool.false_and, Bool.not_false, Bool.not_true]
      refine fnS_of (l := [.tmp 4]) Try.func50 (by kernel_rfl) rfl Try.ntmps50 rfl rfl ?_; simp only [dEnv, Nat.reduceAdd]
      repeat' (first | (with_reducible first | refine aw_seq ?_ | refine thn_normal ?_ | refine thn_ret ?_ | refine thn_exit ?_ | refine blk_normal ?_ | refine blk_ret ?_ | refine blk_hit ?_ | refine blk_miss rfl ?_ | refine aw_block ?_ | refine aw_ret ?_ | refine aw_skip ?_ | refine aw_exit ?_ | refine w_nil ?_ | refine x_nil (by kernel_rfl) ?_) | refine aw_region ?_ | refine aw_region_draw (by kernel_rfl) ?_ | refine aw_yes rfl ?_ | refine aw_no rfl ?_ | ((with_reducible refine w_seq ?_); first | refine r_q tbOk rfl rfl rfl rfl ?_ | refine r_e tbOk rfl rfl rfl rfl rfl ?_ | refine r_yes tbOk rfl rfl rfl rfl rfl rfl ?_ | refine w_no rfl rfl (lookO_spec rfl) rfl rfl rfl ?_ | refine w_un rfl rfl (lookO_spec rfl) rfl rfl ?_) | ((with_reducible refine w_drw ?_); first | refine rx_q tbOk rfl rfl rfl rfl ?_ | refine rx_e tbOk rfl rfl rfl rfl rfl ?_ | refine rx_yes tbOk rfl rfl rfl rfl rfl rfl ?_ | refine x_no rfl rfl (lookO_spec rfl) rfl rfl rfl ?_ | refine x_un rfl rfl (lookO_spec rfl) rfl rfl ?_) | ((first | refine' w_e rfl ?xa ?xb ?xc ?xe ?_ | refine' v_e rfl ?xa ?xb ?xc ?xe ?_); (case xa => exact e_callS [] K0 rfl ⟨asD_ren (evO_spec rfl), trivial⟩ (by (repeat' (first | exact trivial | refine subHR_cons rfl ?_ ?_ | rfl))) rfl); (case xb => rfl); (case xc => rfl); (case xe => rfl); try dsimp only [P0.d, Res.d, List.map_cons, List.map_nil, List.set_cons_zero, List.set_cons_succ, Nat.reduceAdd]) | ((first | refine aw_ways rfl ?_ ?_ | refine r_split rfl rfl rfl ?_ ?_) <;> intro hg_ <;> fail_if_success (exact Bool.noConfusion hg_)) <;> (try simp only [prn] at hg_) <;> (try first | contradiction | (exfalso; omega)))
      all_goals first
        | exact ret_D [] rfl (by (repeat' (first | exact trivial | refine subHR_cons rfl ?_ ?_ | rfl))) (retD_bool rfl rfl rfl)
        | trace_state
  · by_cases h1 : s = 1 ∨ s = 2 ∨ s = 3 ∨ s = 4
    · have e1 : Ch.step ⟨vs, kn, got, ps, rs⟩ s = Ch.packet ⟨vs, kn, got, ps, rs⟩ s := by unfold Ch.step; rw [if_neg h0, if_pos h1]
      have e2 : stG nG ⟨vs, kn, got, ps, rs⟩ s = (nG && !pkApp ps got s) := by unfold stG; rw [decide_eq_true h1, Bool.true_and]
      have e3 : stP nP ⟨vs, kn, got, ps, rs⟩ s = nP := by simp [stP, h0]
      have e4 : stR nR ⟨vs, kn, got, ps, rs⟩ s = nR := by
        unfold stR; rw [decide_eq_false (by omega)]; simp
      have e5 : stK mk ⟨vs, kn, got, ps, rs⟩ s = mk := by unfold stK; rw [decide_eq_false (show ¬ s = 6 by omega)]; simp
      rw [e1, e2, e3, e4, e5]
      generalize Ch.packet ⟨vs, kn, got, ps, rs⟩ s = r at *
      generalize (nG && !pkApp ps got s) = nG' at *
      clear e1 e2 e3 e4 e5 K0 K2 K3
      obtain ⟨⟨vs', kn', got', ps', rs'⟩, b⟩ := r
      dsimp only at K1 ⊢
      rcases h1 with rfl | rfl | rfl | rfl
      all_goals
        cases nG <;> cases nP <;> cases nR <;> cases nG'
        all_goals
          (try (have h := hG rfl; subst h)); (try (have h := hP rfl; subst h)); (try (have h := hR rfl; subst h))
          dsimp only [chH, rowC, rowO] at K1
          simp only [Bool.false_eq_true, if_false, if_true, List.nil_append, List.append_nil, List.cons_append] at K1
          dsimp only [chH, rowC, rowO]; simp only [Bool.false_eq_true, if_false, if_true, List.nil_append, List.append_nil, List.cons_append, Bool.and_true, Bool.and_false, Bool.true_and, Bool.false_and, Bool.not_false, Bool.not_true]
          refine fnS_of (l := [.tmp 4]) Try.func50 (by kernel_rfl) rfl Try.ntmps50 rfl rfl ?_; simp only [dEnv, Nat.reduceAdd]
          repeat' (first | (with_reducible first | refine aw_seq ?_ | refine thn_normal ?_ | refine thn_ret ?_ | refine thn_exit ?_ | refine blk_normal ?_ | refine blk_ret ?_ | refine blk_hit ?_ | refine blk_miss rfl ?_ | refine aw_block ?_ | refine aw_ret ?_ | refine aw_skip ?_ | refine aw_exit ?_ | refine w_nil ?_ | refine x_nil (by kernel_rfl) ?_) | refine aw_region ?_ | refine aw_region_draw (by kernel_rfl) ?_ | refine aw_yes rfl ?_ | refine aw_no rfl ?_ | ((with_reducible refine w_seq ?_); first | refine r_q tbOk rfl rfl rfl rfl ?_ | refine r_e tbOk rfl rfl rfl rfl rfl ?_ | refine r_yes tbOk rfl rfl rfl rfl rfl rfl ?_ | refine w_no rfl rfl (lookO_spec rfl) rfl rfl rfl ?_ | refine w_un rfl rfl (lookO_spec rfl) rfl rfl ?_) | ((with_reducible refine w_drw ?_); first | refine rx_q tbOk rfl rfl rfl rfl ?_ | refine rx_e tbOk rfl rfl rfl rfl rfl ?_ | refine rx_yes tbOk rfl rfl rfl rfl rfl rfl ?_ | refine x_no rfl rfl (lookO_spec rfl) rfl rfl rfl ?_ | refine x_un rfl rfl (lookO_spec rfl) rfl rfl ?_) | ((first | refine' w_e rfl ?xa ?xb ?xc ?xe ?_ | refine' v_e rfl ?xa ?xb ?xc ?xe ?_); (case xa => exact e_callS [] K1 rfl ⟨asD_ren (evO_spec rfl), asD_ren (evO_spec rfl), trivial⟩ (by (repeat' (first | exact trivial | refine subHR_cons rfl ?_ ?_ | rfl))) rfl); (case xb => rfl); (case xc => rfl); (case xe => rfl); try dsimp only [P0.d, Res.d, List.map_cons, List.map_nil, List.set_cons_zero, List.set_cons_succ, Nat.reduceAdd]) | ((first | refine aw_ways rfl ?_ ?_ | refine r_split rfl rfl rfl ?_ ?_) <;> intro hg_ <;> fail_if_success (exact Bool.noConfusion hg_)) <;> (try simp only [prn] at hg_) <;> (try first | contradiction | (exfalso; omega)))
          all_goals first
            | exact ret_D [] rfl (by (repeat' (first | exact trivial | refine subHR_cons rfl ?_ ?_ | rfl))) (retD_bool rfl rfl rfl)
            | trace_state
    · by_cases h5 : s = 5
      · subst h5
        have e1 : Ch.step ⟨vs, kn, got, ps, rs⟩ 5 = Ch.receipt ⟨vs, kn, got, ps, rs⟩ := by simp [Ch.step]
        have e2 : stG nG ⟨vs, kn, got, ps, rs⟩ 5 = nG := by simp [stG]
        have e3 : stP nP ⟨vs, kn, got, ps, rs⟩ 5 = nP := by simp [stP]
        have e4 : stR nR ⟨vs, kn, got, ps, rs⟩ 5 = (nR && !(Ch.receipt ⟨vs, kn, got, ps, rs⟩).2) := by simp [stR]
        have e5 : stK mk ⟨vs, kn, got, ps, rs⟩ 5 = mk := by simp [stK]
        rw [e1, e2, e3, e4, e5]
        clear e1 e2 e3 e4 e5 K0 K1 K3
        generalize Ch.receipt ⟨vs, kn, got, ps, rs⟩ = r at *
        obtain ⟨⟨vs', kn', got', ps', rs'⟩, b⟩ := r
        generalize hnp : (nR && !b) = nR' at *
        clear hnp
        dsimp only at K2 ⊢
        cases nG <;> cases nP <;> cases nR <;> cases nR'
        all_goals
          (try (have h := hG rfl; subst h)); (try (have h := hP rfl; subst h)); (try (have h := hR rfl; subst h))
          dsimp only [chH, rowC, rowO] at K2
          simp only [Bool.false_eq_true, if_false, if_true, List.nil_append, List.append_nil, List.cons_append] at K2
          dsimp only [chH, rowC, rowO]; simp only [Bool.false_eq_true, if_false, if_true, List.nil_append, List.append_nil, List.cons_append, Bool.and_true, Bool.and_false, Bool.true_and, Bool.false_and, Bool.not_false, Bool.not_true]
          refine fnS_of (l := [.tmp 4]) Try.func50 (by kernel_rfl) rfl Try.ntmps50 rfl rfl ?_; simp only [dEnv, Nat.reduceAdd]
          repeat' (first | (with_reducible first | refine aw_seq ?_ | refine thn_normal ?_ | refine thn_ret ?_ | refine thn_exit ?_ | refine blk_normal ?_ | refine blk_ret ?_ | refine blk_hit ?_ | refine blk_miss rfl ?_ | refine aw_block ?_ | refine aw_ret ?_ | refine aw_skip ?_ | refine aw_exit ?_ | refine w_nil ?_ | refine x_nil (by kernel_rfl) ?_) | refine aw_region ?_ | refine aw_region_draw (by kernel_rfl) ?_ | refine aw_yes rfl ?_ | refine aw_no rfl ?_ | ((with_reducible refine w_seq ?_); first | refine r_q tbOk rfl rfl rfl rfl ?_ | refine r_e tbOk rfl rfl rfl rfl rfl ?_ | refine r_yes tbOk rfl rfl rfl rfl rfl rfl ?_ | refine w_no rfl rfl (lookO_spec rfl) rfl rfl rfl ?_ | refine w_un rfl rfl (lookO_spec rfl) rfl rfl ?_) | ((with_reducible refine w_drw ?_); first | refine rx_q tbOk rfl rfl rfl rfl ?_ | refine rx_e tbOk rfl rfl rfl rfl rfl ?_ | refine rx_yes tbOk rfl rfl rfl rfl rfl rfl ?_ | refine x_no rfl rfl (lookO_spec rfl) rfl rfl rfl ?_ | refine x_un rfl rfl (lookO_spec rfl) rfl rfl ?_) | ((first | refine' w_e rfl ?xa ?xb ?xc ?xe ?_ | refine' v_e rfl ?xa ?xb ?xc ?xe ?_); (case xa => exact e_callS [] K2 rfl ⟨asD_ren (evO_spec rfl), trivial⟩ (by (repeat' (first | exact trivial | refine subHR_cons rfl ?_ ?_ | rfl))) rfl); (case xb => rfl); (case xc => rfl); (case xe => rfl); try dsimp only [P0.d, Res.d, List.map_cons, List.map_nil, List.set_cons_zero, List.set_cons_succ, Nat.reduceAdd]) | ((first | refine aw_ways rfl ?_ ?_ | refine r_split rfl rfl rfl ?_ ?_) <;> intro hg_ <;> fail_if_success (exact Bool.noConfusion hg_)) <;> (try simp only [prn] at hg_) <;> (try first | contradiction | (exfalso; omega)))
          all_goals first
            | exact ret_D [] rfl (by (repeat' (first | exact trivial | refine subHR_cons rfl ?_ ?_ | rfl))) (retD_bool rfl rfl rfl)
            | trace_state
      · by_cases h6 : s = 6 ∨ s = 7
        · have e1 : Ch.step ⟨vs, kn, got, ps, rs⟩ s = Ch.receiptStep ⟨vs, kn, got, ps, rs⟩ s := by unfold Ch.step; rw [if_neg h0, if_neg h1, if_neg h5, if_pos h6]
          have e2 : stG nG ⟨vs, kn, got, ps, rs⟩ s = nG := by unfold stG; rw [decide_eq_false h1]; simp
          have e3 : stP nP ⟨vs, kn, got, ps, rs⟩ s = nP := by simp [stP, h0]
          have e4 : stR nR ⟨vs, kn, got, ps, rs⟩ s = nR := by simp [stR, h5]
          have e5 : stK mk ⟨vs, kn, got, ps, rs⟩ s = (mk || (!rs.isEmpty && decide (s = 6))) := rfl
          rw [e1, e2, e3, e4, e5]
          generalize Ch.receiptStep ⟨vs, kn, got, ps, rs⟩ s = r at *
          generalize (mk || (!rs.isEmpty && decide (s = 6))) = mk' at *
          clear e1 e2 e3 e4 e5 K0 K1 K2
          obtain ⟨⟨vs', kn', got', ps', rs'⟩, b⟩ := r
          dsimp only at K3 ⊢
          rcases h6 with rfl | rfl
          all_goals
            cases nG <;> cases nP <;> cases nR
            all_goals
              (try (have h := hG rfl; subst h)); (try (have h := hP rfl; subst h)); (try (have h := hR rfl; subst h))
              dsimp only [chH, rowC, rowO] at K3
              simp only [Bool.false_eq_true, if_false, if_true, List.nil_append, List.append_nil, List.cons_append] at K3
              dsimp only [chH, rowC, rowO]; simp only [Bool.false_eq_true, if_false, if_true, List.nil_append, List.append_nil, List.cons_append, Bool.and_true, Bool.and_false, Bool.true_and, Bool.false_and, Bool.not_false, Bool.not_true]
              refine fnS_of (l := [.tmp 4]) Try.func50 (by kernel_rfl) rfl Try.ntmps50 rfl rfl ?_; simp only [dEnv, Nat.reduceAdd]
              repeat' (first | (with_reducible first | refine aw_seq ?_ | refine thn_normal ?_ | refine thn_ret ?_ | refine thn_exit ?_ | refine blk_normal ?_ | refine blk_ret ?_ | refine blk_hit ?_ | refine blk_miss rfl ?_ | refine aw_block ?_ | refine aw_ret ?_ | refine aw_skip ?_ | refine aw_exit ?_ | refine w_nil ?_ | refine x_nil (by kernel_rfl) ?_) | refine aw_region ?_ | refine aw_region_draw (by kernel_rfl) ?_ | refine aw_yes rfl ?_ | refine aw_no rfl ?_ | ((with_reducible refine w_seq ?_); first | refine r_q tbOk rfl rfl rfl rfl ?_ | refine r_e tbOk rfl rfl rfl rfl rfl ?_ | refine r_yes tbOk rfl rfl rfl rfl rfl rfl ?_ | refine w_no rfl rfl (lookO_spec rfl) rfl rfl rfl ?_ | refine w_un rfl rfl (lookO_spec rfl) rfl rfl ?_) | ((with_reducible refine w_drw ?_); first | refine rx_q tbOk rfl rfl rfl rfl ?_ | refine rx_e tbOk rfl rfl rfl rfl rfl ?_ | refine rx_yes tbOk rfl rfl rfl rfl rfl rfl ?_ | refine x_no rfl rfl (lookO_spec rfl) rfl rfl rfl ?_ | refine x_un rfl rfl (lookO_spec rfl) rfl rfl ?_) | ((first | refine' w_e rfl ?xa ?xb ?xc ?xe ?_ | refine' v_e rfl ?xa ?xb ?xc ?xe ?_); (case xa => exact e_callS [] K3 rfl ⟨asD_ren (evO_spec rfl), asD_ren (evO_spec rfl), trivial⟩ (by (repeat' (first | exact trivial | refine subHR_cons rfl ?_ ?_ | rfl))) rfl); (case xb => rfl); (case xc => rfl); (case xe => rfl); try dsimp only [P0.d, Res.d, List.map_cons, List.map_nil, List.set_cons_zero, List.set_cons_succ, Nat.reduceAdd]) | ((first | refine aw_ways rfl ?_ ?_ | refine r_split rfl rfl rfl ?_ ?_) <;> intro hg_ <;> fail_if_success (exact Bool.noConfusion hg_)) <;> (try simp only [prn] at hg_) <;> (try first | contradiction | (exfalso; omega)))
              all_goals first
                | exact ret_D [] rfl (by (repeat' (first | exact trivial | refine subHR_cons rfl ?_ ?_ | rfl))) (retD_bool rfl rfl rfl)
                | trace_state
        · have e1 : Ch.step ⟨vs, kn, got, ps, rs⟩ s = (⟨vs, kn, got, ps, rs⟩, false) := by unfold Ch.step; rw [if_neg h0, if_neg h1, if_neg h5, if_neg h6]
          have e2 : stG nG ⟨vs, kn, got, ps, rs⟩ s = nG := by unfold stG; rw [decide_eq_false h1]; simp
          have e3 : stP nP ⟨vs, kn, got, ps, rs⟩ s = nP := by simp [stP, h0]
          have e4 : stR nR ⟨vs, kn, got, ps, rs⟩ s = nR := by simp [stR, h5]
          have e5 : stK mk ⟨vs, kn, got, ps, rs⟩ s = mk := by unfold stK; rw [decide_eq_false (show ¬ s = 6 by omega)]; simp
          rw [e1, e2, e3, e4, e5]
          clear e1 e2 e3 e4 e5 K0 K1 K2 K3
          dsimp only
          cases nG <;> cases nP <;> cases nR
          all_goals
            (try (have h := hG rfl; subst h)); (try (have h := hP rfl; subst h)); (try (have h := hR rfl; subst h))
            dsimp only [chH, rowC, rowO]; simp only [Bool.false_eq_true, if_false, if_true, List.nil_append, List.append_nil, List.cons_append, Bool.and_true, Bool.and_false, Bool.true_and, Bool.false_and, Bool.not_false, Bool.not_true]
            refine fnS_of (l := [.tmp 4]) Try.func50 (by kernel_rfl) rfl Try.ntmps50 rfl rfl ?_; simp only [dEnv, Nat.reduceAdd]
            repeat' (first | (with_reducible first | refine aw_seq ?_ | refine thn_normal ?_ | refine thn_ret ?_ | refine thn_exit ?_ | refine blk_normal ?_ | refine blk_ret ?_ | refine blk_hit ?_ | refine blk_miss rfl ?_ | refine aw_block ?_ | refine aw_ret ?_ | refine aw_skip ?_ | refine aw_exit ?_ | refine w_nil ?_ | refine x_nil (by kernel_rfl) ?_) | refine aw_region ?_ | refine aw_region_draw (by kernel_rfl) ?_ | refine aw_yes rfl ?_ | refine aw_no rfl ?_ | ((with_reducible refine w_seq ?_); first | refine r_q tbOk rfl rfl rfl rfl ?_ | refine r_e tbOk rfl rfl rfl rfl rfl ?_ | refine r_yes tbOk rfl rfl rfl rfl rfl rfl ?_ | refine w_no rfl rfl (lookO_spec rfl) rfl rfl rfl ?_ | refine w_un rfl rfl (lookO_spec rfl) rfl rfl ?_) | ((with_reducible refine w_drw ?_); first | refine rx_q tbOk rfl rfl rfl rfl ?_ | refine rx_e tbOk rfl rfl rfl rfl rfl ?_ | refine rx_yes tbOk rfl rfl rfl rfl rfl rfl ?_ | refine x_no rfl rfl (lookO_spec rfl) rfl rfl rfl ?_ | refine x_un rfl rfl (lookO_spec rfl) rfl rfl ?_) | ((first | refine aw_ways rfl ?_ ?_ | refine r_split rfl rfl rfl ?_ ?_) <;> intro hg_ <;> fail_if_success (exact Bool.noConfusion hg_)) <;> (try simp only [prn] at hg_) <;> (try first | contradiction | (exfalso; omega)))
            all_goals first
              | exact ret_D [(2000001, 1000001), (2000002, 1000002), (2000003, 1000003)] rfl (by (repeat' (first | exact trivial | refine subHR_cons rfl ?_ ?_ | rfl))) (retD_bool rfl rfl rfl)
              | trace_state
end Go.Proofs.Ytjjeihcmiofkmaa.Abs
