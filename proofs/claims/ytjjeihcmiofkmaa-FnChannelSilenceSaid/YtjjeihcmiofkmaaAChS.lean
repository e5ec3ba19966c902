/- Channels by states: ChannelStep of the program. No statement of the seat is proved here. -/
import Derived.Test.YtjjeihcmiofkmaaTy
import Derived.Lib.Hide
import Derived.Test.YtjjeihcmiofkmaaAChC
import Derived.Test.YtjjeihcmiofkmaaAChW
import Derived.Test.YtjjeihcmiofkmaaChQ
set_option linter.unusedSimpArgs false
set_option linter.unusedVariables false
namespace Go.Proofs.Ytjjeihcmiofkmaa.Abs
open Go.RowKit
open R (val row ref)

set_option maxRecDepth 100000 in
set_option maxHeartbeats 8000000 in
theorem f_implChStep (nV nG nP nR : Bool) (vs : List Int) (kn : Int) (got : List Int) (ps : List Pk) (rs : List Int) (s : Int) (hn : Nils nV nG nP nR ⟨vs, kn, got, ps, rs⟩) (h1 : vs.length ≤ 1048576) (h2 : got.length ≤ 1048576) (h3 : ps.length ≤ 1048576) (h4 : rs.length ≤ 1048576) :
    Fn Try.prog 20 [chP nV nG nP nR ⟨vs, kn, got, ps, rs⟩, iP s] (.tup [chP (stNil ⟨vs, kn, got, ps, rs⟩ s nV nG nP nR).1 (stNil ⟨vs, kn, got, ps, rs⟩ s nV nG nP nR).2.1 (stNil ⟨vs, kn, got, ps, rs⟩ s nV nG nP nR).2.2.1 (stNil ⟨vs, kn, got, ps, rs⟩ s nV nG nP nR).2.2.2 (stepR ⟨vs, kn, got, ps, rs⟩ s).1, .one (bool (stepR ⟨vs, kn, got, ps, rs⟩ s).2)]) := by
  have hok := f_implChOk nV nG nP nR vs kn got ps rs h1 h2 h3 h4
  unfold stepR stNil
  cases ho : Ch.ok ⟨vs, kn, got, ps, rs⟩ with
  | false =>
    rw [ho] at hok
    simp only [Bool.false_eq_true, if_false]
    refine fn_of (l := [.cell 4 40, .tmp 5]) Try.func20 (by kernel_rfl) rfl Try.ntmps20 rfl rfl ?_; simp only [argEnv, P0.d, Nat.reduceAdd, chP, List.map_cons, List.map_nil]
    repeat' (first | (with_reducible first | refine aw_seq ?_ | refine thn_normal ?_ | refine thn_ret ?_ | refine thn_exit ?_ | refine blk_normal ?_ | refine blk_ret ?_ | refine blk_hit ?_ | refine blk_miss rfl ?_ | refine aw_block ?_ | refine aw_ret ?_ | refine aw_skip ?_ | refine aw_exit ?_ | refine w_nil ?_ | refine x_nil (by kernel_rfl) ?_) | refine aw_region ?_ | refine aw_region_draw (by kernel_rfl) ?_ | refine aw_yes rfl ?_ | refine aw_no rfl ?_ | ((with_reducible refine w_seq ?_); first | refine r_q tbOk rfl rfl rfl rfl ?_ | refine r_e tbOk rfl rfl rfl rfl rfl ?_ | refine r_yes tbOk rfl rfl rfl rfl rfl rfl ?_ | refine w_no rfl rfl (lookO_spec rfl) rfl rfl rfl ?_ | refine w_un rfl rfl (lookO_spec rfl) rfl rfl ?_) | ((with_reducible refine w_drw ?_); first | refine rx_q tbOk rfl rfl rfl rfl ?_ | refine rx_e tbOk rfl rfl rfl rfl rfl ?_ | refine rx_yes tbOk rfl rfl rfl rfl rfl rfl ?_ | refine x_no rfl rfl (lookO_spec rfl) rfl rfl rfl ?_ | refine x_un rfl rfl (lookO_spec rfl) rfl rfl ?_) | ((first | refine' w_q rfl rfl ?xa rfl ?_ | refine' v_q rfl rfl ?xa rfl ?_ | refine' w_yes rfl rfl (lookO_spec rfl) rfl ?xa rfl ?_ | refine' v_yes rfl rfl (lookO_spec rfl) rfl ?xa rfl ?_); case xa => exact k_call hok rfl ⟨asA_agg (evO_spec rfl) ⟨cAr_r, cAr_r, cAr_r, cAr_r, cAr_r, trivial⟩, trivial⟩) | ((first | refine aw_ways rfl ?_ ?_ | refine r_split rfl rfl rfl ?_ ?_) <;> intro hg_ <;> fail_if_success (exact Bool.noConfusion hg_)) <;> (try simp only [prn] at hg_) <;> (try first | contradiction | (exfalso; omega)))
    all_goals first
      | exact ret_2 (rv_cell rfl rfl (by (with_reducible first | exact ty3 | exact ty4 | exact ty5 | exact ty9 | exact ty17 | exact ty19 | exact ty22 | exact ty23 | exact ty25 | exact ty31 | exact ty38 | exact ty40 | exact ty54 | exact ty71 | exact ty75 | exact ty78 | exact ty82 | exact ty83)) rfl rfl rfl (dres_agg (by exact ⟨cres_nil, cres_val, cres_nil, cres_nil, cres_nil, trivial⟩))) (rv_tmp rfl (dres_bool rfl))
      | trace_state
  | true =>
    rw [ho] at hok
    simp only [if_true]
    have hG := Ch.ok_iff.1 ho
    have K1 := f_copied nV nG nP nR vs kn got ps rs hn.v hn.g hn.p hn.r h1 h2 h3 h4
    have K2 := f_do nV nG nP nR true false vs kn got ps rs s hn.g hn.p hn.r hG.psl hG.rsl hG.vsl hG.kn0 (by have := hG.kn1; have := hG.len; dsimp only at *; omega) h2
    have hn' := st_nils hn s
    generalize stG nG ⟨vs, kn, got, ps, rs⟩ s = nG' at *
    generalize stP nP ⟨vs, kn, got, ps, rs⟩ s = nP' at *
    generalize stR nR ⟨vs, kn, got, ps, rs⟩ s = nR' at *
    generalize stK false ⟨vs, kn, got, ps, rs⟩ s = mk' at *
    generalize Ch.step ⟨vs, kn, got, ps, rs⟩ s = r at *
    obtain ⟨⟨vs', kn', got', ps', rs'⟩, b⟩ := r
    clear ho hG
    have q1 := hn.g
    have q2 := hn.p
    have q3 := hn.r
    have q4 := hn'.g
    have q5 := hn'.p
    have q6 := hn'.r
    clear hn hn'
    dsimp only at K2 q1 q2 q3 q4 q5 q6 ⊢
    have l1 := ints_len got'
    have l2 := pks_len ps'
    have l3 := ints_len rs'
    cases nG <;> cases nP <;> cases nR <;> cases nG' <;> cases nP' <;> cases nR'
    all_goals
      (try (have h := q1 rfl; subst h)); (try (have h := q2 rfl; subst h)); (try (have h := q3 rfl; subst h)); (try (have h := q4 rfl; subst h)); (try (have h := q5 rfl; subst h)); (try (have h := q6 rfl; subst h))
      dsimp only [chH, chD, chR, rowC, rowO] at K1 K2
      simp only [Bool.false_eq_true, if_false, if_true, List.nil_append, List.append_nil, List.cons_append] at K1 K2
      refine fn_of (l := [.cell 4 40, .tmp 5]) Try.func20 (by kernel_rfl) rfl Try.ntmps20 rfl rfl ?_; simp only [argEnv, P0.d, Nat.reduceAdd, chP, List.map_cons, List.map_nil]
      repeat' (first | (with_reducible first | refine aw_seq ?_ | refine thn_normal ?_ | refine thn_ret ?_ | refine thn_exit ?_ | refine blk_normal ?_ | refine blk_ret ?_ | refine blk_hit ?_ | refine blk_miss rfl ?_ | refine aw_block ?_ | refine aw_ret ?_ | refine aw_skip ?_ | refine aw_exit ?_ | refine w_nil ?_ | refine x_nil (by kernel_rfl) ?_) | refine aw_region ?_ | refine aw_region_draw (by kernel_rfl) ?_ | refine aw_yes rfl ?_ | refine aw_no rfl ?_ | ((with_reducible refine w_seq ?_); first | refine r_q tbOk rfl rfl rfl rfl ?_ | refine r_e tbOk rfl rfl rfl rfl rfl ?_ | refine r_yes tbOk rfl rfl rfl rfl rfl rfl ?_ | refine w_no rfl rfl (lookO_spec rfl) rfl rfl rfl ?_ | refine w_un rfl rfl (lookO_spec rfl) rfl rfl ?_) | ((with_reducible refine w_drw ?_); first | refine rx_q tbOk rfl rfl rfl rfl ?_ | refine rx_e tbOk rfl rfl rfl rfl rfl ?_ | refine rx_yes tbOk rfl rfl rfl rfl rfl rfl ?_ | refine x_no rfl rfl (lookO_spec rfl) rfl rfl rfl ?_ | refine x_un rfl rfl (lookO_spec rfl) rfl rfl ?_) | ((first | refine' w_q rfl rfl ?xa rfl ?_ | refine' v_q rfl rfl ?xa rfl ?_ | refine' w_yes rfl rfl (lookO_spec rfl) rfl ?xa rfl ?_ | refine' v_yes rfl rfl (lookO_spec rfl) rfl ?xa rfl ?_); case xa => exact k_call hok rfl ⟨asA_agg (evO_spec rfl) ⟨cAr_r, cAr_r, cAr_r, cAr_r, cAr_r, trivial⟩, trivial⟩) | ((first | refine' w_e rfl ?xa ?xb ?xc ?xe ?_ | refine' v_e rfl ?xa ?xb ?xc ?xe ?_); (case xa => first | exact e_callS [(2000001, 101), (2000002, 102), (2000003, 103)] K1 rfl ⟨asD_ren (evO_spec rfl), trivial⟩ trivial rfl | exact e_callS [(1000000000, 6), (1000001, 101), (1000002, 102), (1000003, 103), (2000001, 201), (2000002, 202), (2000003, 203)] K2 rfl ⟨asD_ren (evO_spec rfl), asD_ren (evO_spec rfl), trivial⟩ (by (repeat' (first | exact trivial | refine subHR_cons rfl ?_ ?_ | rfl))) rfl); (case xb => rfl); (case xc => rfl); (case xe => rfl); try dsimp only [P0.d, Res.d, List.map_cons, List.map_nil, List.set_cons_zero, List.set_cons_succ, Nat.reduceAdd]) | ((first | refine aw_ways rfl ?_ ?_ | refine r_split rfl rfl rfl ?_ ?_) <;> intro hg_ <;> fail_if_success (exact Bool.noConfusion hg_)) <;> (try simp only [prn] at hg_) <;> (try first | contradiction | (exfalso; omega)))
      all_goals first
        | exact ret_2 (rv_cell rfl rfl (by (with_reducible first | exact ty3 | exact ty4 | exact ty5 | exact ty9 | exact ty17 | exact ty19 | exact ty22 | exact ty23 | exact ty25 | exact ty31 | exact ty38 | exact ty40 | exact ty54 | exact ty71 | exact ty75 | exact ty78 | exact ty82 | exact ty83)) rfl rfl rfl (dres_agg (by refine ⟨?_, cres_val, ?_, ?_, ?_, trivial⟩ <;> first | exact cres_new | exact cres_nil | exact cres_own0 (lookHO_spec rfl) l1.symm | exact cres_own0 (lookHO_spec rfl) l2.symm | exact cres_own0 (lookHO_spec rfl) l3.symm))) (rv_tmp rfl (dres_bool rfl))
        | trace_state
end Go.Proofs.Ytjjeihcmiofkmaa.Abs
