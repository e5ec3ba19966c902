/- Graphs by states: what DrawHopsFrom, DrawDropVertex and DrawPartParents draw. No statement of the seat is proved here. -/
import Derived.Test.YtfdaoepbdolgiaaDoorTy
import Derived.Lib.Hide
import Derived.Test.YtfdaoepbdolgiaaDoorAGrD
set_option linter.unusedSimpArgs false
set_option linter.unusedVariables false
namespace Go.Proofs.YtfdaoepbdolgiaaDoor.Abs
open Go.RowKit
open R (val row ref)

theorem byte_take2 {bs : List Int} (h : Byte bs) (n : Nat) : Byte (bs.take n) := fun z hz => h z (List.mem_of_mem_take hz)
set_option maxRecDepth 100000 in
set_option maxHeartbeats 4000000 in
theorem f_l20At {bs : List Int} (p : Int) (hB : Byte bs) (hl : bs.length ≤ 2000) (hp0 : 0 ≤ p) (hp : p ≤ 700000) :
    ∃ (nE : Bool) (m : Int) (es : List E3) (p' s : Int), ((nE = true → es = []) ∧ -1 ≤ m ∧ m ≤ 17 ∧ es.length ≤ 41 ∧ p ≤ p' ∧ p' ≤ p + 200 ∧ -100 ≤ s ∧ s ≤ 100) ∧ ∀ m1 m2 nb, FnS Tryd.prog 41 [.one (.ptr 1000000000 0 0 0)] (rdH 1000000000 m1 m2 nb bs p) (.tups [(true, [.r true (int m), .r true (row nE 3 (edges es))]), (false, [.r true (int s)])]) (rdH 1000000000 m1 true nb bs p') := by
  obtain ⟨nE, m, es, p1, ⟨e1, e2, e3, e4, e5, e6⟩, KG0⟩ := f_l20Graph (bs := bs) p 12 (by omega) (by omega) hB hl hp0 (by omega)
  have K10 := fun m1 nb => f_pick p1 (if 1 < m then m else 1) hB hl (by omega) (by omega) m1 true nb
  have K20 := fun m1 nb => f_pick (p1 + 1) 12 hB hl (by omega) (by omega) m1 true nb
  have K30 := fun m1 nb => f_pick (p1 + 1 + 1) 12 hB hl (by omega) (by omega) m1 true nb
  have h1 := pickV_in bs p1 (if 1 < m then m else 1)
  have h2 := pickV_in bs (p1 + 1) 12
  have h3 := pickV_in bs (p1 + 1 + 1) 12
  generalize pickV bs p1 (if 1 < m then m else 1) = a at *
  generalize pickV bs (p1 + 1) 12 = b at *
  generalize pickV bs (p1 + 1 + 1) 12 = c at *
  have d2 : 0 ≤ b.tdiv 11 ∧ b.tdiv 11 ≤ 2 := by rw [Int.tdiv_eq_ediv_of_nonneg h2.1]; omega
  have d3 : 0 ≤ c.tdiv 11 ∧ c.tdiv 11 ≤ 2 := by rw [Int.tdiv_eq_ediv_of_nonneg h3.1]; omega
  have w2 : IntKind.i64.wrap (b.tdiv 11) = b.tdiv 11 := IntWalk.i64_in _ (by omega)
  have w3 : IntKind.i64.wrap (c.tdiv 11) = c.tdiv 11 := IntWalk.i64_in _ (by omega)
  have w4 : IntKind.i64.wrap (a - b.tdiv 11) = a - b.tdiv 11 := IntWalk.i64_in _ (by omega)
  have w5 : IntKind.i64.wrap (c.tdiv 11 * 20) = c.tdiv 11 * 20 := IntWalk.i64_in _ (by omega)
  have w6 : IntKind.i64.wrap (a - b.tdiv 11 + c.tdiv 11 * 20) = a - b.tdiv 11 + c.tdiv 11 * 20 := IntWalk.i64_in _ (by omega)
  refine ⟨nE, m, es, p1 + 1 + 1 + 1, a - b.tdiv 11 + c.tdiv 11 * 20, ⟨e1, e2, e3, e4, by omega, by omega, by omega, by omega⟩, ?_⟩
  intro m1 m2 nb
  have KG := KG0 m1 m2 nb
  have K1 := K10 m1 nb
  have K2 := K20 m1 nb
  have K3 := K30 m1 nb
  clear KG0 K10 K20 K30
  unfold rdH at *
  refine fnS_of (l := [.cell 2 25, .tmp 3]) Tryd.func41 (by kernel_rfl) rfl Tryd.ntmps41 rfl rfl ?_; simp only [dEnv, Nat.reduceAdd]
  repeat' (first | (with_reducible first | refine aw_seq ?_ | refine thn_normal ?_ | refine thn_ret ?_ | refine thn_exit ?_ | refine blk_normal ?_ | refine blk_ret ?_ | refine blk_hit ?_ | refine blk_miss rfl ?_ | refine aw_block ?_ | refine aw_ret ?_ | refine aw_skip ?_ | refine aw_exit ?_ | refine w_nil ?_ | refine x_nil (by kernel_rfl) ?_) | refine aw_region ?_ | refine aw_region_draw (by kernel_rfl) ?_ | refine aw_yes rfl ?_ | refine aw_no rfl ?_ | ((with_reducible refine w_seq ?_); first | refine r_q tbOk rfl rfl rfl rfl ?_ | refine r_e tbOk rfl rfl rfl rfl rfl ?_ | refine r_yes tbOk rfl rfl rfl rfl rfl rfl ?_ | refine w_no rfl rfl (lookO_spec rfl) rfl rfl rfl ?_ | refine w_un rfl rfl (lookO_spec rfl) rfl rfl ?_) | ((with_reducible refine w_drw ?_); first | refine rx_q tbOk rfl rfl rfl rfl ?_ | refine rx_e tbOk rfl rfl rfl rfl rfl ?_ | refine rx_yes tbOk rfl rfl rfl rfl rfl rfl ?_ | refine x_no rfl rfl (lookO_spec rfl) rfl rfl rfl ?_ | refine x_un rfl rfl (lookO_spec rfl) rfl rfl ?_) | ((first | refine' w_q rfl rfl ?xa rfl ?_ | refine' v_q rfl rfl ?xa rfl ?_ | refine' w_yes rfl rfl (lookO_spec rfl) rfl ?xa rfl ?_ | refine' v_yes rfl rfl (lookO_spec rfl) rfl ?xa rfl ?_); case xa => exact k_div rfl rfl rfl (by omega)) | ((first | refine' w_e rfl ?xa ?xb ?xc ?xe ?_ | refine' v_e rfl ?xa ?xb ?xc ?xe ?_); (case xa => first | exact e_callS [] KG rfl ⟨asD_ren (evO_spec rfl), by rw [evO_spec rfl]; exact asD_r rfl, trivial⟩ (by (repeat' (first | exact trivial | refine subHR_cons rfl ?_ ?_ | rfl))) rfl | exact at_dst 12 rfl (e_callS [] K1 rfl ⟨asD_ren (evO_spec rfl), by rw [evO_spec rfl]; exact asD_r rfl, trivial⟩ (by (repeat' (first | exact trivial | refine subHR_cons rfl ?_ ?_ | rfl))) rfl) | exact at_dst 14 rfl (e_callS [] K2 rfl ⟨asD_ren (evO_spec rfl), by rw [evO_spec rfl]; exact asD_r rfl, trivial⟩ (by (repeat' (first | exact trivial | refine subHR_cons rfl ?_ ?_ | rfl))) rfl) | exact at_dst 18 rfl (e_callS [] K3 rfl ⟨asD_ren (evO_spec rfl), by rw [evO_spec rfl]; exact asD_r rfl, trivial⟩ (by (repeat' (first | exact trivial | refine subHR_cons rfl ?_ ?_ | rfl))) rfl)); (case xb => rfl); (case xc => rfl); (case xe => rfl); try dsimp only [P0.d, Res.d, List.map_cons, List.map_nil, List.set_cons_zero, List.set_cons_succ, Nat.reduceAdd]) | ((first | refine aw_ways rfl ?_ ?_ | refine r_split rfl rfl rfl ?_ ?_) <;> intro hg_ <;> fail_if_success (exact Bool.noConfusion hg_)) <;> (try simp only [prn] at hg_) <;> (try first | contradiction | (exfalso; omega)))
  all_goals first
    | exact ret_D [] rfl (by (repeat' (first | exact trivial | refine subHR_cons rfl ?_ ?_ | rfl))) (retD_two (x := (true, _)) (y := (false, [_])) (ret1_cell rfl rfl (by (with_reducible first | exact ty3 | exact ty4 | exact ty5 | exact ty9 | exact ty17 | exact ty19 | exact ty22 | exact ty23 | exact ty25 | exact ty28 | exact ty33 | exact ty48 | exact ty50 | exact ty57 | exact ty61 | exact ty67 | exact ty68 | exact ty69 | exact ty85 | exact ty95 | exact ty97)) rfl rfl rfl) rfl (ret1_tmp rfl) rfl (imp_refl (tups2 rfl (cell_int (by rw [w2, w3, w4, w5, w6])))))
    | trace_state
set_option maxRecDepth 100000 in
set_option maxHeartbeats 4000000 in
theorem f_drawAt (nb : Bool) (code : List Int) (hB : Byte code) (hl : code.length ≤ 1048576) :
    ∃ (nE : Bool) (m : Int) (es : List E3) (s : Int), ((nE = true → es = []) ∧ -1 ≤ m ∧ m ≤ 17 ∧ es.length ≤ 41 ∧ -100 ≤ s ∧ s ≤ 100) ∧ Fn Tryd.prog 11 [.one (row nb 1 (bys code))] (.tup [graphP m nE es, iP s]) := by
  have K0 := f_open nb code hl
  have hB2 := byte_take2 hB 2000
  have hl2 : (code.take 2000).length ≤ 2000 := by rw [List.length_take]; omega
  obtain ⟨nE, m, es, p', s, ⟨e1, e2, e3, e4, e5, e6, e7, e8⟩, KA0⟩ := f_l20At (bs := code.take 2000) 0 hB2 hl2 (by omega) (by omega)
  have KA := KA0 false true nb
  refine ⟨nE, m, es, s, ⟨e1, e2, e3, e4, e7, e8⟩, ?_⟩
  clear KA0 hB2 hl2 hB
  generalize code.take 2000 = bs at *
  unfold rdH at *
  refine fn_of (l := [.cell 2 25, .tmp 3]) Tryd.func11 (by kernel_rfl) rfl Tryd.ntmps11 rfl rfl ?_; simp only [argEnv, P0.d, Nat.reduceAdd, graphP, List.map_cons, List.map_nil]
  repeat' (first | (with_reducible first | refine aw_seq ?_ | refine thn_normal ?_ | refine thn_ret ?_ | refine thn_exit ?_ | refine blk_normal ?_ | refine blk_ret ?_ | refine blk_hit ?_ | refine blk_miss rfl ?_ | refine aw_block ?_ | refine aw_ret ?_ | refine aw_skip ?_ | refine aw_exit ?_ | refine w_nil ?_ | refine x_nil (by kernel_rfl) ?_) | refine aw_region ?_ | refine aw_region_draw (by kernel_rfl) ?_ | refine aw_yes rfl ?_ | refine aw_no rfl ?_ | ((with_reducible refine w_seq ?_); first | refine r_q tbOk rfl rfl rfl rfl ?_ | refine r_e tbOk rfl rfl rfl rfl rfl ?_ | refine r_yes tbOk rfl rfl rfl rfl rfl rfl ?_ | refine w_no rfl rfl (lookO_spec rfl) rfl rfl rfl ?_ | refine w_un rfl rfl (lookO_spec rfl) rfl rfl ?_) | ((with_reducible refine w_drw ?_); first | refine rx_q tbOk rfl rfl rfl rfl ?_ | refine rx_e tbOk rfl rfl rfl rfl rfl ?_ | refine rx_yes tbOk rfl rfl rfl rfl rfl rfl ?_ | refine x_no rfl rfl (lookO_spec rfl) rfl rfl rfl ?_ | refine x_un rfl rfl (lookO_spec rfl) rfl rfl ?_) | ((first | refine' w_e rfl ?xa ?xb ?xc ?xe ?_ | refine' v_e rfl ?xa ?xb ?xc ?xe ?_); (case xa => first | exact e_callS [(2000001, 600)] K0 rfl ⟨by rw [evO_spec rfl]; exact asD_r rfl, trivial⟩ trivial rfl | exact e_callS [(1000000000, 600)] KA rfl ⟨asD_ren (evO_spec rfl), trivial⟩ (by (repeat' (first | exact trivial | refine subHR_cons rfl ?_ ?_ | rfl))) rfl); (case xb => rfl); (case xc => rfl); (case xe => rfl); try dsimp only [P0.d, Res.d, List.map_cons, List.map_nil, List.set_cons_zero, List.set_cons_succ, Nat.reduceAdd]) | ((first | refine aw_ways rfl ?_ ?_ | refine r_split rfl rfl rfl ?_ ?_) <;> intro hg_ <;> fail_if_success (exact Bool.noConfusion hg_)) <;> (try simp only [prn] at hg_) <;> (try first | contradiction | (exfalso; omega)))
  all_goals first
    | exact ret_2 (rv_cell rfl rfl (by (with_reducible first | exact ty3 | exact ty4 | exact ty5 | exact ty9 | exact ty17 | exact ty19 | exact ty22 | exact ty23 | exact ty25 | exact ty28 | exact ty33 | exact ty48 | exact ty50 | exact ty57 | exact ty61 | exact ty67 | exact ty68 | exact ty69 | exact ty85 | exact ty95 | exact ty97)) rfl rfl rfl (dres_agg (by exact ⟨cres_val, cres_new, trivial⟩))) (rv_tmp rfl (dres_int rfl))
    | trace_state
set_option maxRecDepth 100000 in
set_option maxHeartbeats 4000000 in
theorem f_drawDrop (nb : Bool) (code : List Int) (hB : Byte code) (hl : code.length ≤ 1048576) :
    ∃ (nE : Bool) (m : Int) (es : List E3) (s : Int), ((nE = true → es = []) ∧ -1 ≤ m ∧ m ≤ 17 ∧ es.length ≤ 41 ∧ -100 ≤ s ∧ s ≤ 100) ∧ Fn Tryd.prog 19 [.one (row nb 1 (bys code))] (.tup [graphP m nE es, iP s]) := by
  have K0 := f_open nb code hl
  have hB2 := byte_take2 hB 2000
  have hl2 : (code.take 2000).length ≤ 2000 := by rw [List.length_take]; omega
  obtain ⟨nE, m, es, p', ⟨e1, e2, e3, e4, e5, e6⟩, KG0⟩ := f_l20Graph (bs := code.take 2000) 0 12 (by omega) (by omega) hB2 hl2 (by omega) (by omega)
  have KG := KG0 false true nb
  have K4 := f_pick (bs := code.take 2000) p' 10 hB2 hl2 (by omega) (by omega) false true nb
  have hv := pickV_in (code.take 2000) p' 10
  generalize pickV (code.take 2000) p' 10 = V at *
  have hw : IntKind.i64.wrap (V - 1) = V - 1 := IntWalk.i64_in _ (by omega)
  refine ⟨nE, m, es, V - 1, ⟨e1, e2, e3, e4, by omega, by omega⟩, ?_⟩
  clear KG0 hB2 hl2 hB
  generalize code.take 2000 = bs at *
  unfold rdH at *
  refine fn_of (l := [.cell 2 25, .tmp 3]) Tryd.func19 (by kernel_rfl) rfl Tryd.ntmps19 rfl rfl ?_; simp only [argEnv, P0.d, Nat.reduceAdd, graphP, List.map_cons, List.map_nil]
  repeat' (first | (with_reducible first | refine aw_seq ?_ | refine thn_normal ?_ | refine thn_ret ?_ | refine thn_exit ?_ | refine blk_normal ?_ | refine blk_ret ?_ | refine blk_hit ?_ | refine blk_miss rfl ?_ | refine aw_block ?_ | refine aw_ret ?_ | refine aw_skip ?_ | refine aw_exit ?_ | refine w_nil ?_ | refine x_nil (by kernel_rfl) ?_) | refine aw_region ?_ | refine aw_region_draw (by kernel_rfl) ?_ | refine aw_yes rfl ?_ | refine aw_no rfl ?_ | ((with_reducible refine w_seq ?_); first | refine r_q tbOk rfl rfl rfl rfl ?_ | refine r_e tbOk rfl rfl rfl rfl rfl ?_ | refine r_yes tbOk rfl rfl rfl rfl rfl rfl ?_ | refine w_no rfl rfl (lookO_spec rfl) rfl rfl rfl ?_ | refine w_un rfl rfl (lookO_spec rfl) rfl rfl ?_) | ((with_reducible refine w_drw ?_); first | refine rx_q tbOk rfl rfl rfl rfl ?_ | refine rx_e tbOk rfl rfl rfl rfl rfl ?_ | refine rx_yes tbOk rfl rfl rfl rfl rfl rfl ?_ | refine x_no rfl rfl (lookO_spec rfl) rfl rfl rfl ?_ | refine x_un rfl rfl (lookO_spec rfl) rfl rfl ?_) | ((first | refine' w_e rfl ?xa ?xb ?xc ?xe ?_ | refine' v_e rfl ?xa ?xb ?xc ?xe ?_); (case xa => first | exact e_callS [(2000001, 600)] K0 rfl ⟨by rw [evO_spec rfl]; exact asD_r rfl, trivial⟩ trivial rfl | exact e_callS [(1000000000, 600)] KG rfl ⟨asD_ren (evO_spec rfl), by rw [evO_spec rfl]; exact asD_r rfl, trivial⟩ (by (repeat' (first | exact trivial | refine subHR_cons rfl ?_ ?_ | rfl))) rfl | exact e_callS [(1000000000, 600)] K4 rfl ⟨asD_ren (evO_spec rfl), by rw [evO_spec rfl]; exact asD_r rfl, trivial⟩ (by (repeat' (first | exact trivial | refine subHR_cons rfl ?_ ?_ | rfl))) rfl); (case xb => rfl); (case xc => rfl); (case xe => rfl); try dsimp only [P0.d, Res.d, List.map_cons, List.map_nil, List.set_cons_zero, List.set_cons_succ, Nat.reduceAdd]) | ((first | refine aw_ways rfl ?_ ?_ | refine r_split rfl rfl rfl ?_ ?_) <;> intro hg_ <;> fail_if_success (exact Bool.noConfusion hg_)) <;> (try simp only [prn] at hg_) <;> (try first | contradiction | (exfalso; omega)))
  all_goals first
    | exact ret_2 (rv_cell rfl rfl (by (with_reducible first | exact ty3 | exact ty4 | exact ty5 | exact ty9 | exact ty17 | exact ty19 | exact ty22 | exact ty23 | exact ty25 | exact ty28 | exact ty33 | exact ty48 | exact ty50 | exact ty57 | exact ty61 | exact ty67 | exact ty68 | exact ty69 | exact ty85 | exact ty95 | exact ty97)) rfl rfl rfl (dres_agg (by exact ⟨cres_val, cres_new, trivial⟩))) (rv_tmp rfl (dres_int hw))
    | trace_state
set_option maxRecDepth 100000 in
set_option maxHeartbeats 4000000 in
theorem f_drawPartParents (nb : Bool) (code : List Int) (hB : Byte code) (hl : code.length ≤ 1048576) :
    ∃ (nE : Bool) (m : Int) (es : List E3), ((nE = true → es = []) ∧ -1 ≤ m ∧ m ≤ 17 ∧ es.length ≤ 41) ∧ Fn Tryd.prog 31 [.one (row nb 1 (bys code))] (.v (graphP m nE es)) := by
  have K0 := f_open nb code hl
  have hB2 := byte_take2 hB 2000
  have hl2 : (code.take 2000).length ≤ 2000 := by rw [List.length_take]; omega
  obtain ⟨nE, m, es, p', ⟨e1, e2, e3, e4, e5, e6⟩, KG0⟩ := f_l20Graph (bs := code.take 2000) 0 9 (by omega) (by omega) hB2 hl2 (by omega) (by omega)
  have KG := KG0 false true nb
  refine ⟨nE, m, es, ⟨e1, e2, e3, e4⟩, ?_⟩
  clear KG0 hB2 hl2 hB
  generalize code.take 2000 = bs at *
  unfold rdH at *
  refine fn_of (l := [.cell 2 25]) Tryd.func31 (by kernel_rfl) rfl Tryd.ntmps31 rfl rfl ?_; simp only [argEnv, P0.d, Nat.reduceAdd, graphP, List.map_cons, List.map_nil]
  repeat' (first | (with_reducible first | refine aw_seq ?_ | refine thn_normal ?_ | refine thn_ret ?_ | refine thn_exit ?_ | refine blk_normal ?_ | refine blk_ret ?_ | refine blk_hit ?_ | refine blk_miss rfl ?_ | refine aw_block ?_ | refine aw_ret ?_ | refine aw_skip ?_ | refine aw_exit ?_ | refine w_nil ?_ | refine x_nil (by kernel_rfl) ?_) | refine aw_region ?_ | refine aw_region_draw (by kernel_rfl) ?_ | refine aw_yes rfl ?_ | refine aw_no rfl ?_ | ((with_reducible refine w_seq ?_); first | refine r_q tbOk rfl rfl rfl rfl ?_ | refine r_e tbOk rfl rfl rfl rfl rfl ?_ | refine r_yes tbOk rfl rfl rfl rfl rfl rfl ?_ | refine w_no rfl rfl (lookO_spec rfl) rfl rfl rfl ?_ | refine w_un rfl rfl (lookO_spec rfl) rfl rfl ?_) | ((with_reducible refine w_drw ?_); first | refine rx_q tbOk rfl rfl rfl rfl ?_ | refine rx_e tbOk rfl rfl rfl rfl rfl ?_ | refine rx_yes tbOk rfl rfl rfl rfl rfl rfl ?_ | refine x_no rfl rfl (lookO_spec rfl) rfl rfl rfl ?_ | refine x_un rfl rfl (lookO_spec rfl) rfl rfl ?_) | ((first | refine' w_e rfl ?xa ?xb ?xc ?xe ?_ | refine' v_e rfl ?xa ?xb ?xc ?xe ?_); (case xa => first | exact e_callS [(2000001, 600)] K0 rfl ⟨by rw [evO_spec rfl]; exact asD_r rfl, trivial⟩ trivial rfl | exact e_callS [(1000000000, 600)] KG rfl ⟨asD_ren (evO_spec rfl), by rw [evO_spec rfl]; exact asD_r rfl, trivial⟩ (by (repeat' (first | exact trivial | refine subHR_cons rfl ?_ ?_ | rfl))) rfl); (case xb => rfl); (case xc => rfl); (case xe => rfl); try dsimp only [P0.d, Res.d, List.map_cons, List.map_nil, List.set_cons_zero, List.set_cons_succ, Nat.reduceAdd]) | ((first | refine aw_ways rfl ?_ ?_ | refine r_split rfl rfl rfl ?_ ?_) <;> intro hg_ <;> fail_if_success (exact Bool.noConfusion hg_)) <;> (try simp only [prn] at hg_) <;> (try first | contradiction | (exfalso; omega)))
  all_goals first
    | exact ret_v (rv_cell rfl rfl (by (with_reducible first | exact ty3 | exact ty4 | exact ty5 | exact ty9 | exact ty17 | exact ty19 | exact ty22 | exact ty23 | exact ty25 | exact ty28 | exact ty33 | exact ty48 | exact ty50 | exact ty57 | exact ty61 | exact ty67 | exact ty68 | exact ty69 | exact ty85 | exact ty95 | exact ty97)) rfl rfl rfl (dres_agg (by exact ⟨cres_val, cres_new, trivial⟩)))
    | trace_state
end Go.Proofs.YtfdaoepbdolgiaaDoor.Abs
