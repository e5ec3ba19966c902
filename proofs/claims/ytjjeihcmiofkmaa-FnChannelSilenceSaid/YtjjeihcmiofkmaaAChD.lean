/- Channels by states: the drawing of FnChannelStep. No statement of the seat is proved here. -/
import Derived.Test.YtjjeihcmiofkmaaTy
import Derived.Lib.Hide
import Derived.Test.YtjjeihcmiofkmaaAChJ
set_option linter.unusedSimpArgs false
set_option linter.unusedVariables false
namespace Go.Proofs.Ytjjeihcmiofkmaa.Abs
open Go.RowKit
open R (val row ref)

theorem byte_take {bs : List Int} (h : Byte bs) (n : Nat) : Byte (bs.take n) := fun z hz => h z (List.mem_of_mem_take hz)
set_option maxRecDepth 100000 in
set_option maxHeartbeats 4000000 in
theorem f_drawStep (nb : Bool) (code : List Int) (hB : Byte code) (hl : code.length ≤ 1048576) :
    ∃ (nG nP nR : Bool) (c : Ch) (s : Int), ((nG = true → c.got = []) ∧ (nP = true → c.ps = []) ∧ (nR = true → c.rs = []) ∧ c.vs.length ≤ 20 ∧ c.got.length ≤ 21 ∧ c.ps.length ≤ 101 ∧ c.rs.length ≤ 101) ∧ Fn Try.prog 19 [.one (row nb 1 (bys code))] (.tup [chP false nG nP nR c, iP s]) := by
  have K0 := f_open nb code hl
  have hB2 := byte_take hB 2000
  have hl2 : (code.take 2000).length ≤ 2000 := by rw [List.length_take]; omega
  obtain ⟨nG, nP, nR, mk, c, p', ⟨e1, e2, e3, e4, e5, e6, e7, e8, e9⟩, KC0⟩ := f_l20Channel (bs := code.take 2000) 0 12 (by omega) (by omega) hB2 hl2 (by omega) (by omega)
  have K4 := f_pick (bs := code.take 2000) p' 10 hB2 hl2 (by omega) (by omega) false true nb
  have hv := pickV_in (code.take 2000) p' 10
  have hw : IntKind.i64.wrap (pickV (code.take 2000) p' 10 - 1) = pickV (code.take 2000) p' 10 - 1 := IntWalk.i64_in _ (by omega)
  have KC := KC0 false true nb
  refine ⟨nG, nP, nR, c, pickV (code.take 2000) p' 10 - 1, ⟨e1, e2, e3, e4, e5, e6, e7⟩, ?_⟩
  clear KC0 hB2 hl2 hB
  generalize code.take 2000 = bs at *
  generalize pickV bs p' 10 = V at *
  obtain ⟨vs, kn, got, ps, rs⟩ := c
  have l1 := ints_len vs
  have l2 := ints_len got
  have l3 := pks_len ps
  have l4 := ints_len rs
  dsimp only at e1 e2 e3
  unfold rdH at *
  cases nG <;> cases nP <;> cases nR
  all_goals
    (try (have h := e1 rfl; subst h)); (try (have h := e2 rfl; subst h)); (try (have h := e3 rfl; subst h))
    simp only [chW, chWr, rowZ, rowO, if_true, if_false, Bool.false_eq_true, List.nil_append, List.append_nil, List.cons_append] at KC
    refine fn_of (l := [.cell 2 40, .tmp 3]) Try.func19 (by kernel_rfl) rfl Try.ntmps19 rfl rfl ?_; simp only [argEnv, P0.d, Nat.reduceAdd, chP, List.map_cons, List.map_nil]
    repeat' (first | (with_reducible first | refine aw_seq ?_ | refine thn_normal ?_ | refine thn_ret ?_ | refine thn_exit ?_ | refine blk_normal ?_ | refine blk_ret ?_ | refine blk_hit ?_ | refine blk_miss rfl ?_ | refine aw_block ?_ | refine aw_ret ?_ | refine aw_skip ?_ | refine aw_exit ?_ | refine w_nil ?_ | refine x_nil (by kernel_rfl) ?_) | refine aw_region ?_ | refine aw_region_draw (by kernel_rfl) ?_ | refine aw_yes rfl ?_ | refine aw_no rfl ?_ | ((with_reducible refine w_seq ?_); first | refine r_q tbOk rfl rfl rfl rfl ?_ | refine r_e tbOk rfl rfl rfl rfl rfl ?_ | refine r_yes tbOk rfl rfl rfl rfl rfl rfl ?_ | refine w_no rfl rfl (lookO_spec rfl) rfl rfl rfl ?_ | refine w_un rfl rfl (lookO_spec rfl) rfl rfl ?_) | ((with_reducible refine w_drw ?_); first | refine rx_q tbOk rfl rfl rfl rfl ?_ | refine rx_e tbOk rfl rfl rfl rfl rfl ?_ | refine rx_yes tbOk rfl rfl rfl rfl rfl rfl ?_ | refine x_no rfl rfl (lookO_spec rfl) rfl rfl rfl ?_ | refine x_un rfl rfl (lookO_spec rfl) rfl rfl ?_) | ((first | refine' w_e rfl ?xa ?xb ?xc ?xe ?_ | refine' v_e rfl ?xa ?xb ?xc ?xe ?_); (case xa => first | exact e_callS [(2000001, 600)] K0 rfl ⟨by rw [evO_spec rfl]; exact asD_r rfl, trivial⟩ trivial rfl | exact e_callS [(1000000000, 600), (2000001, 101), (2000002, 102), (2000003, 103), (2000004, 104)] KC rfl ⟨asD_ren (evO_spec rfl), by rw [evO_spec rfl]; exact asD_r rfl, trivial⟩ (by (repeat' (first | exact trivial | refine subHR_cons rfl ?_ ?_ | rfl))) rfl | exact e_callS [(1000000000, 600)] K4 rfl ⟨asD_ren (evO_spec rfl), by rw [evO_spec rfl]; exact asD_r rfl, trivial⟩ (by (repeat' (first | exact trivial | refine subHR_cons rfl ?_ ?_ | rfl))) rfl); (case xb => rfl); (case xc => rfl); (case xe => rfl); try dsimp only [P0.d, Res.d, List.map_cons, List.map_nil, List.set_cons_zero, List.set_cons_succ, Nat.reduceAdd]) | ((first | refine aw_ways rfl ?_ ?_ | refine r_split rfl rfl rfl ?_ ?_) <;> intro hg_ <;> fail_if_success (exact Bool.noConfusion hg_)) <;> (try simp only [prn] at hg_) <;> (try first | contradiction | (exfalso; omega)))
    all_goals first
      | exact ret_2 (rv_cell rfl rfl (by (with_reducible first | exact ty3 | exact ty4 | exact ty5 | exact ty9 | exact ty17 | exact ty19 | exact ty22 | exact ty23 | exact ty25 | exact ty31 | exact ty38 | exact ty40 | exact ty54 | exact ty71 | exact ty75 | exact ty78 | exact ty82 | exact ty83)) rfl rfl rfl (dres_agg (by refine ⟨?_, cres_val, ?_, ?_, ?_, trivial⟩ <;> first | exact cres_nil | exact cres_own0 (lookHO_spec rfl) l1.symm | exact cres_own0 (lookHO_spec rfl) l2.symm | exact cres_own0 (lookHO_spec rfl) l3.symm | exact cres_own0 (lookHO_spec rfl) l4.symm))) (rv_tmp rfl (dres_int hw))
      | trace_state
end Go.Proofs.Ytjjeihcmiofkmaa.Abs
