/- FnDiskWrite by states: the draw, DiskRecords, the law's walk. -/
import Derived.Test.YtihpchbkodihpaaTy
import Derived.Lib.Hide
import Derived.Test.YtihpchbkodihpaaADkW
import Derived.Test.YtihpchbkodihpaaAScanJ
import Derived.Test.YtihpchbkodihpaaALawG
set_option linter.unusedSimpArgs false
set_option linter.unusedVariables false
namespace Go.Proofs.Ytihpchbkodihpaa.Abs
open Go.RowKit
open R (val row ref)

theorem cres_ownD {H : Nat → Option Ob} {k j n sz : Nat} {E : TypeId} {els els' : List P0} (hk : H k = some (.sl E sz true els)) (hn : j + n ≤ els.length) (he : (els.drop j).take n = els') : CRes H (.own k j n sz) (row false sz els') := he ▸ cres_own hk hn
set_option maxRecDepth 100000 in
set_option maxHeartbeats 8000000 in
theorem f_drawDiskWrite (nb : Bool) (code : List Int) (hB : Byte code) (hl : code.length ≤ 1048576) :
    ∃ xs ys bs : List Int, (xs.length ≤ 2501 ∧ ys.length ≤ 2501 ∧ bs.length ≤ 2501) ∧ Fn Try.prog 38 [.one (row nb 1 (bys code))] (.tup [diskP false xs false ys, .one (row false 1 (ints bs))]) := by
  have K0 := f_open nb code hl
  have hB2 := byte_take2 hB 2000
  have hl2 : (code.take 2000).length ≤ 2000 := by rw [List.length_take]; omega
  have KD := f_l20Disk (bs := code.take 2000) 0 12 (by omega) (by omega) hB2 hl2 (by omega) (by omega) false true nb
  have hD := drD_bd (code.take 2000) 0 12
  generalize drD (code.take 2000) 0 12 = DR at *
  obtain ⟨xs, ys, q⟩ := DR
  dsimp only at KD hD
  have K1 := f_odd q 6 (by omega) (by omega) hB2 hl2 (by omega) (by omega) false true nb
  have K2 := f_pick (q + 1) 3 hB2 hl2 (by omega) (by omega) false true nb
  have hv := pickV_in (code.take 2000) (q + 1) 3
  have K3 := f_l20Bytes (q + 1) 9 (by omega) (by omega) hB2 hl2 (by omega) (by omega) false true nb
  have hb := drB_bd (code.take 2000) (q + 1) 9
  generalize oddV (code.take 2000) q 6 = od at *
  generalize pickV (code.take 2000) (q + 1) 3 = v at *
  generalize drB (code.take 2000) (q + 1) 9 = b at *
  obtain ⟨B, q4⟩ := b
  dsimp only at hb K3
  have hlx := (ints_len xs).symm
  have hly := (ints_len ys).symm
  have hlB := (ints_len B).symm
  have hR : ∀ k : Nat, List.replicate k (iP 0) = ints (List.replicate k 0) := ints_rep0
  clear hB2 hl2 hB
  generalize code.take 2000 = bs at *
  unfold rdH at *
  cases od with
  | false =>
    refine ⟨xs, ys, B, ⟨by omega, by omega, by omega⟩, ?_⟩
    refine fn_of (l := [.cell 2 28, .tmp 3]) Try.func38 (by kernel_rfl) rfl Try.ntmps38 rfl rfl ?_; simp only [argEnv, P0.d, Nat.reduceAdd, diskP, List.map_cons, List.map_nil]
    repeat' (first | (with_reducible first | refine aw_seq ?_ | refine thn_normal ?_ | refine thn_ret ?_ | refine thn_exit ?_ | refine blk_normal ?_ | refine blk_ret ?_ | refine blk_hit ?_ | refine blk_miss rfl ?_ | refine aw_block ?_ | refine aw_ret ?_ | refine aw_skip ?_ | refine aw_exit ?_ | refine w_nil ?_ | refine x_nil (by kernel_rfl) ?_) | refine aw_region ?_ | refine aw_region_draw (by kernel_rfl) ?_ | refine aw_yes rfl ?_ | refine aw_no rfl ?_ | ((with_reducible refine w_seq ?_); first | refine r_q tbOk rfl rfl rfl rfl ?_ | refine r_e tbOk rfl rfl rfl rfl rfl ?_ | refine r_yes tbOk rfl rfl rfl rfl rfl rfl ?_ | refine w_no rfl rfl (lookO_spec rfl) rfl rfl rfl ?_ | refine w_un rfl rfl (lookO_spec rfl) rfl rfl ?_) | ((with_reducible refine w_drw ?_); first | refine rx_q tbOk rfl rfl rfl rfl ?_ | refine rx_e tbOk rfl rfl rfl rfl rfl ?_ | refine rx_yes tbOk rfl rfl rfl rfl rfl rfl ?_ | refine x_no rfl rfl (lookO_spec rfl) rfl rfl rfl ?_ | refine x_un rfl rfl (lookO_spec rfl) rfl rfl ?_) | ((first | refine' w_e rfl ?xa ?xb ?xc ?xe ?_ | refine' v_e rfl ?xa ?xb ?xc ?xe ?_); (case xa => first | exact e_callS [(2000001, 600)] K0 rfl ⟨by rw [evO_spec rfl]; exact asD_r rfl, trivial⟩ trivial rfl | exact at_dst 9 rfl (e_callS [(1000000000, 600), (2000001, 501), (2000002, 502)] KD rfl ⟨asD_ren (evO_spec rfl), by rw [evO_spec rfl]; exact asD_r rfl, trivial⟩ (by (repeat' (first | exact trivial | refine subHR_cons rfl ?_ ?_ | rfl))) rfl) | exact at_dst 11 rfl (e_callS [(1000000000, 600)] K1 rfl ⟨asD_ren (evO_spec rfl), by rw [evO_spec rfl]; exact asD_r rfl, trivial⟩ (by (repeat' (first | exact trivial | refine subHR_cons rfl ?_ ?_ | rfl))) rfl) | exact at_dst 21 rfl (e_callS [(1000000000, 600), (2000001, 503)] K3 rfl ⟨asD_ren (evO_spec rfl), by rw [evO_spec rfl]; exact asD_r rfl, trivial⟩ (by (repeat' (first | exact trivial | refine subHR_cons rfl ?_ ?_ | rfl))) rfl)); (case xb => rfl); (case xc => rfl); (case xe => rfl); try dsimp only [P0.d, Res.d, List.map_cons, List.map_nil, List.set_cons_zero, List.set_cons_succ, Nat.reduceAdd]) | ((first | refine aw_ways rfl ?_ ?_ | refine r_split rfl rfl rfl ?_ ?_) <;> intro hg_ <;> fail_if_success (exact Bool.noConfusion hg_)) <;> (try simp only [prn] at hg_) <;> (try first | contradiction | (exfalso; omega)))
    all_goals first
      | (exfalso; omega)
      | exact ret_2 (rv_cell rfl rfl (by (with_reducible first | exact ty3 | exact ty4 | exact ty5 | exact ty9 | exact ty17 | exact ty19 | exact ty22 | exact ty23 | exact ty25 | exact ty26 | exact ty28 | exact ty30 | exact ty36 | exact ty38 | exact ty40 | exact ty45 | exact ty66 | exact ty77 | exact ty80 | exact ty100 | exact ty112 | exact ty118 | exact ty126 | exact ty128 | exact ty131 | exact ty132)) rfl rfl rfl (dres_agg (by exact ⟨cres_own0 (lookHO_spec rfl) hlx, cres_own0 (lookHO_spec rfl) hly, trivial⟩))) (rv_tmp rfl (dres_one (cres_own0 (lookHO_spec rfl) hlB)))
      | trace_state
  | true =>
    have hv3 : v = 0 ∨ v = 1 ∨ v = 2 := by omega
    rcases hv3 with rfl | rfl | rfl
    · refine ⟨xs, ys, List.replicate 100 0, ⟨by omega, by omega, by simp⟩, ?_⟩
      refine fn_of (l := [.cell 2 28, .tmp 3]) Try.func38 (by kernel_rfl) rfl Try.ntmps38 rfl rfl ?_; simp only [argEnv, P0.d, Nat.reduceAdd, diskP, List.map_cons, List.map_nil]
      repeat' (first | (with_reducible first | refine aw_seq ?_ | refine thn_normal ?_ | refine thn_ret ?_ | refine thn_exit ?_ | refine blk_normal ?_ | refine blk_ret ?_ | refine blk_hit ?_ | refine blk_miss rfl ?_ | refine aw_block ?_ | refine aw_ret ?_ | refine aw_skip ?_ | refine aw_exit ?_ | refine w_nil ?_ | refine x_nil (by kernel_rfl) ?_) | refine aw_region ?_ | refine aw_region_draw (by kernel_rfl) ?_ | refine aw_yes rfl ?_ | refine aw_no rfl ?_ | ((with_reducible refine w_seq ?_); first | refine r_q tbOk rfl rfl rfl rfl ?_ | refine r_e tbOk rfl rfl rfl rfl rfl ?_ | refine r_yes tbOk rfl rfl rfl rfl rfl rfl ?_ | refine w_no rfl rfl (lookO_spec rfl) rfl rfl rfl ?_ | refine w_un rfl rfl (lookO_spec rfl) rfl rfl ?_) | ((with_reducible refine w_drw ?_); first | refine rx_q tbOk rfl rfl rfl rfl ?_ | refine rx_e tbOk rfl rfl rfl rfl rfl ?_ | refine rx_yes tbOk rfl rfl rfl rfl rfl rfl ?_ | refine x_no rfl rfl (lookO_spec rfl) rfl rfl rfl ?_ | refine x_un rfl rfl (lookO_spec rfl) rfl rfl ?_) | ((first | refine' w_q rfl rfl ?xa rfl ?_ | refine' v_q rfl rfl ?xa rfl ?_ | refine' w_yes rfl rfl (lookO_spec rfl) rfl ?xa rfl ?_ | refine' v_yes rfl rfl (lookO_spec rfl) rfl ?xa rfl ?_); case xa => first | exact k_indexO tbOk rfl rfl rfl rfl (by omega) (by simp only [List.length_cons, List.length_nil]; omega) | exact k_loadI (xs := [100, 101, 0]) tbOk rfl rfl rfl rfl (by simp only [List.length_cons, List.length_nil]; omega)) | ((first | refine' w_e rfl ?xa ?xb ?xc ?xe ?_ | refine' v_e rfl ?xa ?xb ?xc ?xe ?_); (case xa => first | exact e_callS [(2000001, 600)] K0 rfl ⟨by rw [evO_spec rfl]; exact asD_r rfl, trivial⟩ trivial rfl | exact at_dst 9 rfl (e_callS [(1000000000, 600), (2000001, 501), (2000002, 502)] KD rfl ⟨asD_ren (evO_spec rfl), by rw [evO_spec rfl]; exact asD_r rfl, trivial⟩ (by (repeat' (first | exact trivial | refine subHR_cons rfl ?_ ?_ | rfl))) rfl) | exact at_dst 11 rfl (e_callS [(1000000000, 600)] K1 rfl ⟨asD_ren (evO_spec rfl), by rw [evO_spec rfl]; exact asD_r rfl, trivial⟩ (by (repeat' (first | exact trivial | refine subHR_cons rfl ?_ ?_ | rfl))) rfl) | exact at_dst 15 rfl (e_callS [(1000000000, 600)] K2 rfl ⟨asD_ren (evO_spec rfl), by rw [evO_spec rfl]; exact asD_r rfl, trivial⟩ (by (repeat' (first | exact trivial | refine subHR_cons rfl ?_ ?_ | rfl))) rfl) | exact at_dst 13 rfl (e_build [.const (.int .i64 100), .const (.int .i64 101), .const (.int .i64 0)] tlOk rfl rfl rfl rfl rfl rfl (allN_ints [100, 101, 0]) (by simp)) | exact at_dst 18 rfl (e_make tlOk rfl rfl rfl rfl rfl rfl (c := 100) rfl rfl (by omega) (by simp only [maxLen]; omega))); (case xb => rfl); (case xc => rfl); (case xe => rfl); try dsimp only [P0.d, Res.d, List.map_cons, List.map_nil, List.set_cons_zero, List.set_cons_succ, Nat.reduceAdd]) | ((first | refine aw_ways rfl ?_ ?_ | refine r_split rfl rfl rfl ?_ ?_) <;> intro hg_ <;> fail_if_success (exact Bool.noConfusion hg_)) <;> (try simp only [prn] at hg_) <;> (try first | contradiction | (exfalso; omega)))
      all_goals first
        | (exfalso; omega)
        | exact ret_2 (rv_cell rfl rfl (by (with_reducible first | exact ty3 | exact ty4 | exact ty5 | exact ty9 | exact ty17 | exact ty19 | exact ty22 | exact ty23 | exact ty25 | exact ty26 | exact ty28 | exact ty30 | exact ty36 | exact ty38 | exact ty40 | exact ty45 | exact ty66 | exact ty77 | exact ty80 | exact ty100 | exact ty112 | exact ty118 | exact ty126 | exact ty128 | exact ty131 | exact ty132)) rfl rfl rfl (dres_agg (by exact ⟨cres_own0 (lookHO_spec rfl) hlx, cres_own0 (lookHO_spec rfl) hly, trivial⟩))) (rv_tmp rfl (dres_one (cres_own0D (lookHO_spec rfl) (by rw [List.length_replicate]) (hR _))))
        | trace_state
    · refine ⟨xs, ys, List.replicate 101 0, ⟨by omega, by omega, by simp⟩, ?_⟩
      refine fn_of (l := [.cell 2 28, .tmp 3]) Try.func38 (by kernel_rfl) rfl Try.ntmps38 rfl rfl ?_; simp only [argEnv, P0.d, Nat.reduceAdd, diskP, List.map_cons, List.map_nil]
      repeat' (first | (with_reducible first | refine aw_seq ?_ | refine thn_normal ?_ | refine thn_ret ?_ | refine thn_exit ?_ | refine blk_normal ?_ | refine blk_ret ?_ | refine blk_hit ?_ | refine blk_miss rfl ?_ | refine aw_block ?_ | refine aw_ret ?_ | refine aw_skip ?_ | refine aw_exit ?_ | refine w_nil ?_ | refine x_nil (by kernel_rfl) ?_) | refine aw_region ?_ | refine aw_region_draw (by kernel_rfl) ?_ | refine aw_yes rfl ?_ | refine aw_no rfl ?_ | ((with_reducible refine w_seq ?_); first | refine r_q tbOk rfl rfl rfl rfl ?_ | refine r_e tbOk rfl rfl rfl rfl rfl ?_ | refine r_yes tbOk rfl rfl rfl rfl rfl rfl ?_ | refine w_no rfl rfl (lookO_spec rfl) rfl rfl rfl ?_ | refine w_un rfl rfl (lookO_spec rfl) rfl rfl ?_) | ((with_reducible refine w_drw ?_); first | refine rx_q tbOk rfl rfl rfl rfl ?_ | refine rx_e tbOk rfl rfl rfl rfl rfl ?_ | refine rx_yes tbOk rfl rfl rfl rfl rfl rfl ?_ | refine x_no rfl rfl (lookO_spec rfl) rfl rfl rfl ?_ | refine x_un rfl rfl (lookO_spec rfl) rfl rfl ?_) | ((first | refine' w_q rfl rfl ?xa rfl ?_ | refine' v_q rfl rfl ?xa rfl ?_ | refine' w_yes rfl rfl (lookO_spec rfl) rfl ?xa rfl ?_ | refine' v_yes rfl rfl (lookO_spec rfl) rfl ?xa rfl ?_); case xa => first | exact k_indexO tbOk rfl rfl rfl rfl (by omega) (by simp only [List.length_cons, List.length_nil]; omega) | exact k_loadI (xs := [100, 101, 0]) tbOk rfl rfl rfl rfl (by simp only [List.length_cons, List.length_nil]; omega)) | ((first | refine' w_e rfl ?xa ?xb ?xc ?xe ?_ | refine' v_e rfl ?xa ?xb ?xc ?xe ?_); (case xa => first | exact e_callS [(2000001, 600)] K0 rfl ⟨by rw [evO_spec rfl]; exact asD_r rfl, trivial⟩ trivial rfl | exact at_dst 9 rfl (e_callS [(1000000000, 600), (2000001, 501), (2000002, 502)] KD rfl ⟨asD_ren (evO_spec rfl), by rw [evO_spec rfl]; exact asD_r rfl, trivial⟩ (by (repeat' (first | exact trivial | refine subHR_cons rfl ?_ ?_ | rfl))) rfl) | exact at_dst 11 rfl (e_callS [(1000000000, 600)] K1 rfl ⟨asD_ren (evO_spec rfl), by rw [evO_spec rfl]; exact asD_r rfl, trivial⟩ (by (repeat' (first | exact trivial | refine subHR_cons rfl ?_ ?_ | rfl))) rfl) | exact at_dst 15 rfl (e_callS [(1000000000, 600)] K2 rfl ⟨asD_ren (evO_spec rfl), by rw [evO_spec rfl]; exact asD_r rfl, trivial⟩ (by (repeat' (first | exact trivial | refine subHR_cons rfl ?_ ?_ | rfl))) rfl) | exact at_dst 13 rfl (e_build [.const (.int .i64 100), .const (.int .i64 101), .const (.int .i64 0)] tlOk rfl rfl rfl rfl rfl rfl (allN_ints [100, 101, 0]) (by simp)) | exact at_dst 18 rfl (e_make tlOk rfl rfl rfl rfl rfl rfl (c := 101) rfl rfl (by omega) (by simp only [maxLen]; omega))); (case xb => rfl); (case xc => rfl); (case xe => rfl); try dsimp only [P0.d, Res.d, List.map_cons, List.map_nil, List.set_cons_zero, List.set_cons_succ, Nat.reduceAdd]) | ((first | refine aw_ways rfl ?_ ?_ | refine r_split rfl rfl rfl ?_ ?_) <;> intro hg_ <;> fail_if_success (exact Bool.noConfusion hg_)) <;> (try simp only [prn] at hg_) <;> (try first | contradiction | (exfalso; omega)))
      all_goals first
        | (exfalso; omega)
        | exact ret_2 (rv_cell rfl rfl (by (with_reducible first | exact ty3 | exact ty4 | exact ty5 | exact ty9 | exact ty17 | exact ty19 | exact ty22 | exact ty23 | exact ty25 | exact ty26 | exact ty28 | exact ty30 | exact ty36 | exact ty38 | exact ty40 | exact ty45 | exact ty66 | exact ty77 | exact ty80 | exact ty100 | exact ty112 | exact ty118 | exact ty126 | exact ty128 | exact ty131 | exact ty132)) rfl rfl rfl (dres_agg (by exact ⟨cres_own0 (lookHO_spec rfl) hlx, cres_own0 (lookHO_spec rfl) hly, trivial⟩))) (rv_tmp rfl (dres_one (cres_own0D (lookHO_spec rfl) (by rw [List.length_replicate]) (hR _))))
        | trace_state
    · refine ⟨xs, ys, List.replicate 0 0, ⟨by omega, by omega, by simp⟩, ?_⟩
      refine fn_of (l := [.cell 2 28, .tmp 3]) Try.func38 (by kernel_rfl) rfl Try.ntmps38 rfl rfl ?_; simp only [argEnv, P0.d, Nat.reduceAdd, diskP, List.map_cons, List.map_nil]
      repeat' (first | (with_reducible first | refine aw_seq ?_ | refine thn_normal ?_ | refine thn_ret ?_ | refine thn_exit ?_ | refine blk_normal ?_ | refine blk_ret ?_ | refine blk_hit ?_ | refine blk_miss rfl ?_ | refine aw_block ?_ | refine aw_ret ?_ | refine aw_skip ?_ | refine aw_exit ?_ | refine w_nil ?_ | refine x_nil (by kernel_rfl) ?_) | refine aw_region ?_ | refine aw_region_draw (by kernel_rfl) ?_ | refine aw_yes rfl ?_ | refine aw_no rfl ?_ | ((with_reducible refine w_seq ?_); first | refine r_q tbOk rfl rfl rfl rfl ?_ | refine r_e tbOk rfl rfl rfl rfl rfl ?_ | refine r_yes tbOk rfl rfl rfl rfl rfl rfl ?_ | refine w_no rfl rfl (lookO_spec rfl) rfl rfl rfl ?_ | refine w_un rfl rfl (lookO_spec rfl) rfl rfl ?_) | ((with_reducible refine w_drw ?_); first | refine rx_q tbOk rfl rfl rfl rfl ?_ | refine rx_e tbOk rfl rfl rfl rfl rfl ?_ | refine rx_yes tbOk rfl rfl rfl rfl rfl rfl ?_ | refine x_no rfl rfl (lookO_spec rfl) rfl rfl rfl ?_ | refine x_un rfl rfl (lookO_spec rfl) rfl rfl ?_) | ((first | refine' w_q rfl rfl ?xa rfl ?_ | refine' v_q rfl rfl ?xa rfl ?_ | refine' w_yes rfl rfl (lookO_spec rfl) rfl ?xa rfl ?_ | refine' v_yes rfl rfl (lookO_spec rfl) rfl ?xa rfl ?_); case xa => first | exact k_indexO tbOk rfl rfl rfl rfl (by omega) (by simp only [List.length_cons, List.length_nil]; omega) | exact k_loadI (xs := [100, 101, 0]) tbOk rfl rfl rfl rfl (by simp only [List.length_cons, List.length_nil]; omega)) | ((first | refine' w_e rfl ?xa ?xb ?xc ?xe ?_ | refine' v_e rfl ?xa ?xb ?xc ?xe ?_); (case xa => first | exact e_callS [(2000001, 600)] K0 rfl ⟨by rw [evO_spec rfl]; exact asD_r rfl, trivial⟩ trivial rfl | exact at_dst 9 rfl (e_callS [(1000000000, 600), (2000001, 501), (2000002, 502)] KD rfl ⟨asD_ren (evO_spec rfl), by rw [evO_spec rfl]; exact asD_r rfl, trivial⟩ (by (repeat' (first | exact trivial | refine subHR_cons rfl ?_ ?_ | rfl))) rfl) | exact at_dst 11 rfl (e_callS [(1000000000, 600)] K1 rfl ⟨asD_ren (evO_spec rfl), by rw [evO_spec rfl]; exact asD_r rfl, trivial⟩ (by (repeat' (first | exact trivial | refine subHR_cons rfl ?_ ?_ | rfl))) rfl) | exact at_dst 15 rfl (e_callS [(1000000000, 600)] K2 rfl ⟨asD_ren (evO_spec rfl), by rw [evO_spec rfl]; exact asD_r rfl, trivial⟩ (by (repeat' (first | exact trivial | refine subHR_cons rfl ?_ ?_ | rfl))) rfl) | exact at_dst 13 rfl (e_build [.const (.int .i64 100), .const (.int .i64 101), .const (.int .i64 0)] tlOk rfl rfl rfl rfl rfl rfl (allN_ints [100, 101, 0]) (by simp)) | exact at_dst 18 rfl (e_make tlOk rfl rfl rfl rfl rfl rfl (c := 0) rfl rfl (by omega) (by simp only [maxLen]; omega))); (case xb => rfl); (case xc => rfl); (case xe => rfl); try dsimp only [P0.d, Res.d, List.map_cons, List.map_nil, List.set_cons_zero, List.set_cons_succ, Nat.reduceAdd]) | ((first | refine aw_ways rfl ?_ ?_ | refine r_split rfl rfl rfl ?_ ?_) <;> intro hg_ <;> fail_if_success (exact Bool.noConfusion hg_)) <;> (try simp only [prn] at hg_) <;> (try first | contradiction | (exfalso; omega)))
      all_goals first
        | (exfalso; omega)
        | exact ret_2 (rv_cell rfl rfl (by (with_reducible first | exact ty3 | exact ty4 | exact ty5 | exact ty9 | exact ty17 | exact ty19 | exact ty22 | exact ty23 | exact ty25 | exact ty26 | exact ty28 | exact ty30 | exact ty36 | exact ty38 | exact ty40 | exact ty45 | exact ty66 | exact ty77 | exact ty80 | exact ty100 | exact ty112 | exact ty118 | exact ty126 | exact ty128 | exact ty131 | exact ty132)) rfl rfl rfl (dres_agg (by exact ⟨cres_own0 (lookHO_spec rfl) hlx, cres_own0 (lookHO_spec rfl) hly, trivial⟩))) (rv_tmp rfl (dres_one (cres_own0D (lookHO_spec rfl) (by rw [List.length_replicate]) (hR _))))
        | trace_state
/-! ### DiskRecords -/
theorem disk_bytes {xs ys : List Int} (h : diskOk xs ys = true) : bytesOk (xs ++ ys) = true := by
  unfold diskOk at h
  simp only [Bool.and_eq_true, decide_eq_true_eq] at h
  refine bytesOk_of (fun z hz => ?_) (by rw [List.length_append]; exact h.2)
  rcases List.mem_append.1 hz with hz | hz
  · exact bytesOk_mem h.1.1 hz
  · exact bytesOk_mem h.1.2 hz
set_option maxRecDepth 100000 in
set_option maxHeartbeats 4000000 in
theorem f_implBytes (n1 n2 : Bool) (xs ys : List Int) (hl : xs.length ≤ 1048576) (hl' : ys.length ≤ 1048576) : Fn Try.prog 92 [diskP n1 xs n2 ys] (.v (.one (row (decide (xs.length + ys.length = 0)) 1 (ints (xs ++ ys))))) := by
  have K2 := f_concat n1 n2 xs ys hl hl'
  unfold rows2 at K2
  refine fn_of (l := [.tmp 2]) Try.func92 (by kernel_rfl) rfl Try.ntmps92 rfl rfl ?_; simp only [argEnv, P0.d, Nat.reduceAdd, diskP, List.map_cons, List.map_nil]
  repeat' (first | (with_reducible first | refine aw_seq ?_ | refine thn_normal ?_ | refine thn_ret ?_ | refine thn_exit ?_ | refine blk_normal ?_ | refine blk_ret ?_ | refine blk_hit ?_ | refine blk_miss rfl ?_ | refine aw_block ?_ | refine aw_ret ?_ | refine aw_skip ?_ | refine aw_exit ?_ | refine w_nil ?_ | refine x_nil (by kernel_rfl) ?_) | refine aw_region ?_ | refine aw_region_draw (by kernel_rfl) ?_ | refine aw_yes rfl ?_ | refine aw_no rfl ?_ | ((with_reducible refine w_seq ?_); first | refine r_q tbOk rfl rfl rfl rfl ?_ | refine r_e tbOk rfl rfl rfl rfl rfl ?_ | refine r_yes tbOk rfl rfl rfl rfl rfl rfl ?_ | refine w_no rfl rfl (lookO_spec rfl) rfl rfl rfl ?_ | refine w_un rfl rfl (lookO_spec rfl) rfl rfl ?_) | ((with_reducible refine w_drw ?_); first | refine rx_q tbOk rfl rfl rfl rfl ?_ | refine rx_e tbOk rfl rfl rfl rfl rfl ?_ | refine rx_yes tbOk rfl rfl rfl rfl rfl rfl ?_ | refine x_no rfl rfl (lookO_spec rfl) rfl rfl rfl ?_ | refine x_un rfl rfl (lookO_spec rfl) rfl rfl ?_) | ((first | refine' w_q rfl rfl ?xa rfl ?_ | refine' v_q rfl rfl ?xa rfl ?_ | refine' w_yes rfl rfl (lookO_spec rfl) rfl ?xa rfl ?_ | refine' v_yes rfl rfl (lookO_spec rfl) rfl ?xa rfl ?_); case xa => exact k_call K2 rfl ⟨asA_own0H (evO_spec rfl) (lookHO_spec rfl) rfl, trivial⟩) | ((first | refine' w_e rfl ?xa ?xb ?xc ?xe ?_ | refine' v_e rfl ?xa ?xb ?xc ?xe ?_); (case xa => exact e_build [.tmp 4, .tmp 6] tlOk rfl rfl rfl rfl rfl rfl (allN_two rfl rfl) (by simp)); (case xb => rfl); (case xc => rfl); (case xe => rfl); try dsimp only [P0.d, Res.d, List.map_cons, List.map_nil, List.set_cons_zero, List.set_cons_succ, Nat.reduceAdd]) | ((first | refine aw_ways rfl ?_ ?_ | refine r_split rfl rfl rfl ?_ ?_) <;> intro hg_ <;> fail_if_success (exact Bool.noConfusion hg_)) <;> (try simp only [prn] at hg_) <;> (try first | contradiction | (exfalso; omega)))
  all_goals first
    | exact ret_tmp rfl (dres_one cres_new)
    | trace_state
set_option maxRecDepth 100000 in
set_option maxHeartbeats 4000000 in
theorem f_implRecords (n1 n2 : Bool) (xs ys : List Int) (hv : diskOk xs ys = true) : Fn Try.prog 43 [diskP n1 xs n2 ys] (.v (.one (row (decide ((scanF (xs ++ ys)).1 = [])) 1 (rowsI (scanF (xs ++ ys)).1)))) := by
  have hl : xs.length + ys.length ≤ 2000 := by unfold diskOk at hv; simp at hv; omega
  have KV := f_implDiskValid n1 n2 xs ys (by omega) (by omega)
  rw [hv] at KV
  have KB := f_implBytes n1 n2 xs ys (by omega) (by omega)
  have KS := f_implScanFrames (decide (xs.length + ys.length = 0)) (xs ++ ys) (disk_bytes hv)
  generalize scanF (xs ++ ys) = S at *
  generalize decide (xs.length + ys.length = 0) = dn at *
  refine fn_of (l := [.tmp 2]) Try.func43 (by kernel_rfl) rfl Try.ntmps43 rfl rfl ?_; simp only [argEnv, P0.d, Nat.reduceAdd, diskP, List.map_cons, List.map_nil]
  repeat' (first | (with_reducible first | refine aw_seq ?_ | refine thn_normal ?_ | refine thn_ret ?_ | refine thn_exit ?_ | refine blk_normal ?_ | refine blk_ret ?_ | refine blk_hit ?_ | refine blk_miss rfl ?_ | refine aw_block ?_ | refine aw_ret ?_ | refine aw_skip ?_ | refine aw_exit ?_ | refine w_nil ?_ | refine x_nil (by kernel_rfl) ?_) | refine aw_region ?_ | refine aw_region_draw (by kernel_rfl) ?_ | refine aw_yes rfl ?_ | refine aw_no rfl ?_ | ((with_reducible refine w_seq ?_); first | refine r_q tbOk rfl rfl rfl rfl ?_ | refine r_e tbOk rfl rfl rfl rfl rfl ?_ | refine r_yes tbOk rfl rfl rfl rfl rfl rfl ?_ | refine w_no rfl rfl (lookO_spec rfl) rfl rfl rfl ?_ | refine w_un rfl rfl (lookO_spec rfl) rfl rfl ?_) | ((with_reducible refine w_drw ?_); first | refine rx_q tbOk rfl rfl rfl rfl ?_ | refine rx_e tbOk rfl rfl rfl rfl rfl ?_ | refine rx_yes tbOk rfl rfl rfl rfl rfl rfl ?_ | refine x_no rfl rfl (lookO_spec rfl) rfl rfl rfl ?_ | refine x_un rfl rfl (lookO_spec rfl) rfl rfl ?_) | ((first | refine' w_q rfl rfl ?xa rfl ?_ | refine' v_q rfl rfl ?xa rfl ?_ | refine' w_yes rfl rfl (lookO_spec rfl) rfl ?xa rfl ?_ | refine' v_yes rfl rfl (lookO_spec rfl) rfl ?xa rfl ?_); case xa => first | exact k_call KV rfl ⟨asA_agg (evO_spec rfl) ⟨cAr_r, cAr_r, trivial⟩, trivial⟩ | exact k_call KB rfl ⟨asA_agg (evO_spec rfl) ⟨cAr_r, cAr_r, trivial⟩, trivial⟩ | exact k_call KS rfl ⟨asA_r (evO_spec rfl), trivial⟩) | ((first | refine aw_ways rfl ?_ ?_ | refine r_split rfl rfl rfl ?_ ?_) <;> intro hg_ <;> fail_if_success (exact Bool.noConfusion hg_)) <;> (try simp only [prn] at hg_) <;> (try first | contradiction | (exfalso; omega)))
  all_goals first
    | exact ret_tmp rfl (dres_one cres_new)
    | trace_state
set_option maxRecDepth 100000 in
set_option maxHeartbeats 4000000 in
theorem f_sameDisk (n1 n2 n3 n4 : Bool) (xs ys : List Int) (hl : xs.length ≤ 1048576) (hl' : ys.length ≤ 1048576) : Fn Try.prog 41 [diskP n1 xs n2 ys, diskP n3 xs n4 ys] (.v (.one (bool true))) := by
  have K1 := f_sameInts2 n1 n3 xs hl
  have K2 := f_sameInts2 n2 n4 ys hl'
  refine fn_of (l := [.tmp 4]) Try.func41 (by kernel_rfl) rfl Try.ntmps41 rfl rfl ?_; simp only [argEnv, P0.d, Nat.reduceAdd, diskP, List.map_cons, List.map_nil]
  repeat' (first | (with_reducible first | refine aw_seq ?_ | refine thn_normal ?_ | refine thn_ret ?_ | refine thn_exit ?_ | refine blk_normal ?_ | refine blk_ret ?_ | refine blk_hit ?_ | refine blk_miss rfl ?_ | refine aw_block ?_ | refine aw_ret ?_ | refine aw_skip ?_ | refine aw_exit ?_ | refine w_nil ?_ | refine x_nil (by kernel_rfl) ?_) | refine aw_region ?_ | refine aw_region_draw (by kernel_rfl) ?_ | refine aw_yes rfl ?_ | refine aw_no rfl ?_ | ((with_reducible refine w_seq ?_); first | refine r_q tbOk rfl rfl rfl rfl ?_ | refine r_e tbOk rfl rfl rfl rfl rfl ?_ | refine r_yes tbOk rfl rfl rfl rfl rfl rfl ?_ | refine w_no rfl rfl (lookO_spec rfl) rfl rfl rfl ?_ | refine w_un rfl rfl (lookO_spec rfl) rfl rfl ?_) | ((with_reducible refine w_drw ?_); first | refine rx_q tbOk rfl rfl rfl rfl ?_ | refine rx_e tbOk rfl rfl rfl rfl rfl ?_ | refine rx_yes tbOk rfl rfl rfl rfl rfl rfl ?_ | refine x_no rfl rfl (lookO_spec rfl) rfl rfl rfl ?_ | refine x_un rfl rfl (lookO_spec rfl) rfl rfl ?_) | ((first | refine' w_q rfl rfl ?xa rfl ?_ | refine' v_q rfl rfl ?xa rfl ?_ | refine' w_yes rfl rfl (lookO_spec rfl) rfl ?xa rfl ?_ | refine' v_yes rfl rfl (lookO_spec rfl) rfl ?xa rfl ?_); case xa => first | exact k_atD 9 rfl (k_call K1 rfl ⟨asA_r (evO_spec rfl), asA_r (evO_spec rfl), trivial⟩) | exact k_atD 15 rfl (k_call K2 rfl ⟨asA_r (evO_spec rfl), asA_r (evO_spec rfl), trivial⟩)) | ((first | refine aw_ways rfl ?_ ?_ | refine r_split rfl rfl rfl ?_ ?_) <;> intro hg_ <;> fail_if_success (exact Bool.noConfusion hg_)) <;> (try simp only [prn] at hg_) <;> (try first | contradiction | (exfalso; omega)))
  all_goals first
    | exact ret_tmp rfl (dres_bool rfl)
    | trace_state
theorem dw_valid {xs ys bs : List Int} (hv : diskOk xs ys = true) (hb : bodyOk bs = true) (hl : xs.length + ys.length + (frameOf bs).length ≤ 2000) : diskOk xs (ys ++ frameOf bs) = true := by
  unfold diskOk at hv ⊢
  simp only [Bool.and_eq_true, decide_eq_true_eq] at hv ⊢
  refine ⟨⟨hv.1.1, bytesOk_of (fun z hz => ?_) (by rw [List.length_append]; omega)⟩, by rw [List.length_append]; omega⟩
  rcases List.mem_append.1 hz with hz | hz
  · exact bytesOk_mem hv.1.2 hz
  · exact frame_bytes bs z hz
theorem scanF_empty : scanF [] = ([], 0) := rfl
theorem dw_last {xs ys bs : List Int} (hv : diskOk xs ys = true) (hb : bodyOk bs = true) (hc : (scanF (xs ++ ys)).2 = xs.length + ys.length) : (scanF (xs ++ (ys ++ frameOf bs))).1 = (scanF (xs ++ ys)).1 ++ [bs] := by
  have hby := disk_bytes hv
  obtain ⟨hok, _, _⟩ := scanF_inv _ (xs ++ ys) (Nat.le_refl _) hby
  have hj := scanF_all hby (by rw [hc, List.length_append])
  have h := scanF_joined ((scanF (xs ++ ys)).1 ++ [bs]) [] (fun b hb' => by
    rcases List.mem_append.1 hb' with h | h
    · exact hok b h
    · rw [List.mem_singleton.1 h]; exact hb)
  rw [List.append_nil, joined_app, ← hj, scanF_empty] at h
  have e : joined [bs] = frameOf bs := by rw [joined_cons]; simp [joined]
  rw [e, List.append_assoc] at h
  rw [h]
  simp
set_option maxRecDepth 100000 in
set_option maxHeartbeats 8000000 in
theorem f_lawDkW (nb : Bool) (code : List Int) (hB : Byte code) (hl : code.length ≤ 1048576) : Fn Try.prog 9 [.one (row nb 1 (bys code))] (.v (.one (bool true))) := by
  obtain ⟨xs, ys, bs, ⟨hx, hy, hb⟩, KD⟩ := f_drawDiskWrite nb code hB hl
  have hcl := bys_len code
  have hlx := ints_len xs
  have hly := ints_len ys
  obtain ⟨nI, KI⟩ := f_implDiskWrite xs ys bs (by omega) (by omega) (by omega)
  obtain ⟨nS, KS⟩ := f_specDiskWrite xs ys bs (by omega) (by omega) (by omega)
  have hwl : IntKind.i64.wrap (((ints xs).length : Int) + ((ints ys).length : Int)) = ((xs.length + ys.length : Nat) : Int) := by rw [hlx, hly, IntWalk.i64_in _ (by omega)]; omega
  unfold dwF at KI KS
  cases hv : diskOk xs ys
  · rw [hv, if_neg (by simp)] at KI KS
    dsimp only at KI KS
    have KM := f_sameDisk nI nI nS nS [] [] (by simp) (by simp)
    refine fn_of (l := [.tmp 2]) Try.func9 (by kernel_rfl) rfl Try.ntmps9 rfl rfl ?_; simp only [argEnv, P0.d, Nat.reduceAdd]
    repeat' (first | (with_reducible first | refine aw_seq ?_ | refine thn_normal ?_ | refine thn_ret ?_ | refine thn_exit ?_ | refine blk_normal ?_ | refine blk_ret ?_ | refine blk_hit ?_ | refine blk_miss rfl ?_ | refine aw_block ?_ | refine aw_ret ?_ | refine aw_skip ?_ | refine aw_exit ?_ | refine w_nil ?_ | refine x_nil (by kernel_rfl) ?_) | refine aw_region ?_ | refine aw_region_draw (by kernel_rfl) ?_ | refine aw_yes rfl ?_ | refine aw_no rfl ?_ | ((with_reducible refine w_seq ?_); first | refine r_q tbOk rfl rfl rfl rfl ?_ | refine r_e tbOk rfl rfl rfl rfl rfl ?_ | refine r_yes tbOk rfl rfl rfl rfl rfl rfl ?_ | refine w_no rfl rfl (lookO_spec rfl) rfl rfl rfl ?_ | refine w_un rfl rfl (lookO_spec rfl) rfl rfl ?_) | ((with_reducible refine w_drw ?_); first | refine rx_q tbOk rfl rfl rfl rfl ?_ | refine rx_e tbOk rfl rfl rfl rfl rfl ?_ | refine rx_yes tbOk rfl rfl rfl rfl rfl rfl ?_ | refine x_no rfl rfl (lookO_spec rfl) rfl rfl rfl ?_ | refine x_un rfl rfl (lookO_spec rfl) rfl rfl ?_) | ((first | refine' w_q rfl rfl ?xa rfl ?_ | refine' v_q rfl rfl ?xa rfl ?_ | refine' w_yes rfl rfl (lookO_spec rfl) rfl ?xa rfl ?_ | refine' v_yes rfl rfl (lookO_spec rfl) rfl ?xa rfl ?_); case xa => first | exact k_call KD rfl ⟨asA_r (evO_spec rfl), trivial⟩ | exact k_call KI rfl ⟨asA_agg (evO_spec rfl) ⟨cAr_r, cAr_r, trivial⟩, asA_r (evO_spec rfl), trivial⟩ | exact k_call KS rfl ⟨asA_agg (evO_spec rfl) ⟨cAr_r, cAr_r, trivial⟩, asA_r (evO_spec rfl), trivial⟩ | exact k_call KM rfl ⟨asA_agg (evO_spec rfl) ⟨cAr_r, cAr_r, trivial⟩, asA_agg (evO_spec rfl) ⟨cAr_r, cAr_r, trivial⟩, trivial⟩ | exact k_neB bo4 rfl rfl rfl | exact k_call f_alive2 rfl trivial) | ((first | refine aw_ways rfl ?_ ?_ | refine r_split rfl rfl rfl ?_ ?_) <;> intro hg_ <;> fail_if_success (exact Bool.noConfusion hg_)) <;> (try simp only [prn] at hg_) <;> (try first | contradiction | (exfalso; omega)))
    all_goals first
      | exact ret_tmp rfl (dres_bool rfl)
      | (exfalso; simp at hg_; done)
      | trace_state
  · rw [hv, if_pos rfl] at KI KS
    by_cases hc : bodyOk bs = true ∧ xs.length + ys.length + (frameOf bs).length ≤ 2000
    · rw [if_pos hc] at KI KS
      dsimp only at KI KS
      have hfl := frame_len bs
      have KM := f_sameDisk nI nI nS nS xs (ys ++ frameOf bs) (by omega) (by rw [List.length_append]; omega)
      have hv2 := dw_valid hv hc.1 hc.2
      have KV := f_implDiskValid nI nI xs (ys ++ frameOf bs) (by omega) (by rw [List.length_append]; omega)
      rw [hv2] at KV
      have KR := f_implRecords nI nI xs (ys ++ frameOf bs) hv2
      have KF := f_implScanFrames false (xs ++ ys) (disk_bytes hv)
      rw [show ints (xs ++ ys) = ([] ++ ints xs) ++ ints ys by rw [ints_appB]; rfl] at KF
      have KQ := f_sameInts2 nI false xs (by omega)
      have KQ2 := f_sameInts2 false false bs (by omega)
      have hlast := fun h => dw_last (bs := bs) hv hc.1 h
      have hcnt : (scanF (xs ++ (ys ++ frameOf bs))).1.length ≤ 2001 := by
        have hby := disk_bytes hv2
        have hs := scan_its (xs := xs ++ (ys ++ frameOf bs)) _ 0 (Nat.le_refl _) (Nat.zero_le _)
        rw [List.drop_zero] at hs
        have h2 := itsF_len (xs ++ (ys ++ frameOf bs)) ((xs ++ (ys ++ frameOf bs)).length + 1 - 0) 0
        have h3 := bytesOk_len hby
        rw [hs.1, List.length_map]; unfold itsA; omega
      generalize ys ++ frameOf bs = zs at *
      generalize scanF (xs ++ zs) = L at *
      generalize scanF (xs ++ ys) = S at *
      obtain ⟨L1, L2⟩ := L
      obtain ⟨S1, S2⟩ := S
      dsimp only at KR KF hlast hcnt
      have hrl := rowsI_len L1
      by_cases hcl2 : S2 = xs.length + ys.length
      · have hL := hlast hcl2
        subst hL
        have hpos : (S1 ++ [bs]).length = S1.length + 1 := by simp
        have hwi : IntKind.i64.wrap (((rowsI (S1 ++ [bs])).length : Int) - 1) = (S1.length : Int) := by rw [hrl, hpos, IntWalk.i64_in _ (by omega)]; omega
        have hix : (rowsI (S1 ++ [bs]))[(IntKind.i64.wrap (((rowsI (S1 ++ [bs])).length : Int) - 1)).toNat]? = some (rowP bs) := by
          rw [hwi, Int.toNat_natCast, rowsI_app, List.getElem?_append_right (by rw [rowsI_len]; exact Nat.le_refl _), rowsI_len, Nat.sub_self]; rfl
        have hlt : 0 ≤ IntKind.i64.wrap (((rowsI (S1 ++ [bs])).length : Int) - 1) := by rw [hwi]; omega
        rw [hcl2] at KF
        clear hlast
        generalize S1 ++ [bs] = L1 at *
        refine fn_of (l := [.tmp 2]) Try.func9 (by kernel_rfl) rfl Try.ntmps9 rfl rfl ?_; simp only [argEnv, P0.d, Nat.reduceAdd]
        repeat' (first | (with_reducible first | refine aw_seq ?_ | refine thn_normal ?_ | refine thn_ret ?_ | refine thn_exit ?_ | refine blk_normal ?_ | refine blk_ret ?_ | refine blk_hit ?_ | refine blk_miss rfl ?_ | refine aw_block ?_ | refine aw_ret ?_ | refine aw_skip ?_ | refine aw_exit ?_ | refine w_nil ?_ | refine x_nil (by kernel_rfl) ?_) | refine aw_region ?_ | refine aw_region_draw (by kernel_rfl) ?_ | refine aw_yes rfl ?_ | refine aw_no rfl ?_ | ((with_reducible refine w_seq ?_); first | refine r_q tbOk rfl rfl rfl rfl ?_ | refine r_e tbOk rfl rfl rfl rfl rfl ?_ | refine r_yes tbOk rfl rfl rfl rfl rfl rfl ?_ | refine w_no rfl rfl (lookO_spec rfl) rfl rfl rfl ?_ | refine w_un rfl rfl (lookO_spec rfl) rfl rfl ?_) | ((with_reducible refine w_drw ?_); first | refine rx_q tbOk rfl rfl rfl rfl ?_ | refine rx_e tbOk rfl rfl rfl rfl rfl ?_ | refine rx_yes tbOk rfl rfl rfl rfl rfl rfl ?_ | refine x_no rfl rfl (lookO_spec rfl) rfl rfl rfl ?_ | refine x_un rfl rfl (lookO_spec rfl) rfl rfl ?_) | ((first | refine' w_q rfl rfl ?xa rfl ?_ | refine' v_q rfl rfl ?xa rfl ?_ | refine' w_yes rfl rfl (lookO_spec rfl) rfl ?xa rfl ?_ | refine' v_yes rfl rfl (lookO_spec rfl) rfl ?xa rfl ?_); case xa => first | exact k_call KD rfl ⟨asA_r (evO_spec rfl), trivial⟩ | exact k_call KI rfl ⟨asA_agg (evO_spec rfl) ⟨cAr_r, cAr_r, trivial⟩, asA_r (evO_spec rfl), trivial⟩ | exact k_call KS rfl ⟨asA_agg (evO_spec rfl) ⟨cAr_r, cAr_r, trivial⟩, asA_r (evO_spec rfl), trivial⟩ | exact k_call KM rfl ⟨asA_agg (evO_spec rfl) ⟨cAr_r, cAr_r, trivial⟩, asA_agg (evO_spec rfl) ⟨cAr_r, cAr_r, trivial⟩, trivial⟩ | exact k_neB bo4 rfl rfl rfl | exact k_call KF rfl ⟨asA_own0H (evO_spec rfl) (lookHO_spec rfl) (by simp only [List.length_append]), trivial⟩ | exact k_call KR rfl ⟨asA_agg (evO_spec rfl) ⟨cAr_r, cAr_r, trivial⟩, trivial⟩ | exact k_call KV rfl ⟨asA_agg (evO_spec rfl) ⟨cAr_r, cAr_r, trivial⟩, trivial⟩ | exact k_atD 89 rfl (k_call KQ rfl ⟨asA_r (evO_spec rfl), asA_r (evO_spec rfl), trivial⟩) | exact k_index tbOk rfl rfl rfl rfl hlt (by exact hix) | exact k_atD 106 rfl (k_call KQ2 rfl ⟨asA_r (evO_spec rfl), asA_r (evO_spec rfl), trivial⟩)) | ((first | refine' w_e rfl ?xa ?xb ?xc ?xe ?_ | refine' v_e rfl ?xa ?xb ?xc ?xe ?_); (case xa => first | exact e_build [] tlOk rfl rfl rfl rfl rfl rfl (by simp [AllN]) (by simp) | exact e_append tlOk rfl rfl rfl rfl rfl rfl (slD_plain slD_row (ints_plain _)) (by first | rfl | (simp only [List.length_append]; done)) (by simp only [maxLen, List.length_append, List.length_cons, List.length_nil]; omega) (by (try simp only [List.length_append, List.length_cons, List.length_nil]); omega)); (case xb => rfl); (case xc => rfl); (case xe => rfl); try dsimp only [P0.d, Res.d, List.map_cons, List.map_nil, List.set_cons_zero, List.set_cons_succ, Nat.reduceAdd]) | ((first | refine aw_ways rfl ?_ ?_ | refine r_split rfl rfl rfl ?_ ?_) <;> intro hg_ <;> fail_if_success (exact Bool.noConfusion hg_)) <;> (try simp only [prn] at hg_) <;> (try first | contradiction | (exfalso; omega)))
        all_goals first
          | exact ret_tmp rfl (dres_bool rfl)
          | (exfalso; rw [hwl] at *; omega)
          | (exfalso; omega)
          | trace_state
      · refine fn_of (l := [.tmp 2]) Try.func9 (by kernel_rfl) rfl Try.ntmps9 rfl rfl ?_; simp only [argEnv, P0.d, Nat.reduceAdd]
        repeat' (first | (with_reducible first | refine aw_seq ?_ | refine thn_normal ?_ | refine thn_ret ?_ | refine thn_exit ?_ | refine blk_normal ?_ | refine blk_ret ?_ | refine blk_hit ?_ | refine blk_miss rfl ?_ | refine aw_block ?_ | refine aw_ret ?_ | refine aw_skip ?_ | refine aw_exit ?_ | refine w_nil ?_ | refine x_nil (by kernel_rfl) ?_) | refine aw_region ?_ | refine aw_region_draw (by kernel_rfl) ?_ | refine aw_yes rfl ?_ | refine aw_no rfl ?_ | ((with_reducible refine w_seq ?_); first | refine r_q tbOk rfl rfl rfl rfl ?_ | refine r_e tbOk rfl rfl rfl rfl rfl ?_ | refine r_yes tbOk rfl rfl rfl rfl rfl rfl ?_ | refine w_no rfl rfl (lookO_spec rfl) rfl rfl rfl ?_ | refine w_un rfl rfl (lookO_spec rfl) rfl rfl ?_) | ((with_reducible refine w_drw ?_); first | refine rx_q tbOk rfl rfl rfl rfl ?_ | refine rx_e tbOk rfl rfl rfl rfl rfl ?_ | refine rx_yes tbOk rfl rfl rfl rfl rfl rfl ?_ | refine x_no rfl rfl (lookO_spec rfl) rfl rfl rfl ?_ | refine x_un rfl rfl (lookO_spec rfl) rfl rfl ?_) | ((first | refine' w_q rfl rfl ?xa rfl ?_ | refine' v_q rfl rfl ?xa rfl ?_ | refine' w_yes rfl rfl (lookO_spec rfl) rfl ?xa rfl ?_ | refine' v_yes rfl rfl (lookO_spec rfl) rfl ?xa rfl ?_); case xa => first | exact k_call KD rfl ⟨asA_r (evO_spec rfl), trivial⟩ | exact k_call KI rfl ⟨asA_agg (evO_spec rfl) ⟨cAr_r, cAr_r, trivial⟩, asA_r (evO_spec rfl), trivial⟩ | exact k_call KS rfl ⟨asA_agg (evO_spec rfl) ⟨cAr_r, cAr_r, trivial⟩, asA_r (evO_spec rfl), trivial⟩ | exact k_call KM rfl ⟨asA_agg (evO_spec rfl) ⟨cAr_r, cAr_r, trivial⟩, asA_agg (evO_spec rfl) ⟨cAr_r, cAr_r, trivial⟩, trivial⟩ | exact k_neB bo4 rfl rfl rfl | exact k_call KF rfl ⟨asA_own0H (evO_spec rfl) (lookHO_spec rfl) (by simp only [List.length_append]), trivial⟩ | exact k_call KR rfl ⟨asA_agg (evO_spec rfl) ⟨cAr_r, cAr_r, trivial⟩, trivial⟩ | exact k_call KV rfl ⟨asA_agg (evO_spec rfl) ⟨cAr_r, cAr_r, trivial⟩, trivial⟩ | exact k_atD 89 rfl (k_call KQ rfl ⟨asA_r (evO_spec rfl), asA_r (evO_spec rfl), trivial⟩)) | ((first | refine' w_e rfl ?xa ?xb ?xc ?xe ?_ | refine' v_e rfl ?xa ?xb ?xc ?xe ?_); (case xa => first | exact e_build [] tlOk rfl rfl rfl rfl rfl rfl (by simp [AllN]) (by simp) | exact e_append tlOk rfl rfl rfl rfl rfl rfl (slD_plain slD_row (ints_plain _)) (by first | rfl | (simp only [List.length_append]; done)) (by simp only [maxLen, List.length_append, List.length_cons, List.length_nil]; omega) (by (try simp only [List.length_append, List.length_cons, List.length_nil]); omega)); (case xb => rfl); (case xc => rfl); (case xe => rfl); try dsimp only [P0.d, Res.d, List.map_cons, List.map_nil, List.set_cons_zero, List.set_cons_succ, Nat.reduceAdd]) | ((first | refine aw_ways rfl ?_ ?_ | refine r_split rfl rfl rfl ?_ ?_) <;> intro hg_ <;> fail_if_success (exact Bool.noConfusion hg_)) <;> (try simp only [prn] at hg_) <;> (try first | contradiction | (exfalso; omega)))
        all_goals first
          | exact ret_tmp rfl (dres_bool rfl)
          | (exfalso; rw [hwl] at *; omega)
          | (exfalso; omega)
          | trace_state
    · rw [if_neg hc] at KI KS
      dsimp only at KI KS
      have KM := f_sameDisk nI nI nS nS xs ys (by omega) (by omega)
      have KM2 := f_sameDisk nI nI false false xs ys (by omega) (by omega)
      refine fn_of (l := [.tmp 2]) Try.func9 (by kernel_rfl) rfl Try.ntmps9 rfl rfl ?_; simp only [argEnv, P0.d, Nat.reduceAdd]
      repeat' (first | (with_reducible first | refine aw_seq ?_ | refine thn_normal ?_ | refine thn_ret ?_ | refine thn_exit ?_ | refine blk_normal ?_ | refine blk_ret ?_ | refine blk_hit ?_ | refine blk_miss rfl ?_ | refine aw_block ?_ | refine aw_ret ?_ | refine aw_skip ?_ | refine aw_exit ?_ | refine w_nil ?_ | refine x_nil (by kernel_rfl) ?_) | refine aw_region ?_ | refine aw_region_draw (by kernel_rfl) ?_ | refine aw_yes rfl ?_ | refine aw_no rfl ?_ | ((with_reducible refine w_seq ?_); first | refine r_q tbOk rfl rfl rfl rfl ?_ | refine r_e tbOk rfl rfl rfl rfl rfl ?_ | refine r_yes tbOk rfl rfl rfl rfl rfl rfl ?_ | refine w_no rfl rfl (lookO_spec rfl) rfl rfl rfl ?_ | refine w_un rfl rfl (lookO_spec rfl) rfl rfl ?_) | ((with_reducible refine w_drw ?_); first | refine rx_q tbOk rfl rfl rfl rfl ?_ | refine rx_e tbOk rfl rfl rfl rfl rfl ?_ | refine rx_yes tbOk rfl rfl rfl rfl rfl rfl ?_ | refine x_no rfl rfl (lookO_spec rfl) rfl rfl rfl ?_ | refine x_un rfl rfl (lookO_spec rfl) rfl rfl ?_) | ((first | refine' w_q rfl rfl ?xa rfl ?_ | refine' v_q rfl rfl ?xa rfl ?_ | refine' w_yes rfl rfl (lookO_spec rfl) rfl ?xa rfl ?_ | refine' v_yes rfl rfl (lookO_spec rfl) rfl ?xa rfl ?_); case xa => first | exact k_call KD rfl ⟨asA_r (evO_spec rfl), trivial⟩ | exact k_call KI rfl ⟨asA_agg (evO_spec rfl) ⟨cAr_r, cAr_r, trivial⟩, asA_r (evO_spec rfl), trivial⟩ | exact k_call KS rfl ⟨asA_agg (evO_spec rfl) ⟨cAr_r, cAr_r, trivial⟩, asA_r (evO_spec rfl), trivial⟩ | exact k_atD 35 rfl (k_call KM rfl ⟨asA_agg (evO_spec rfl) ⟨cAr_r, cAr_r, trivial⟩, asA_agg (evO_spec rfl) ⟨cAr_r, cAr_r, trivial⟩, trivial⟩) | exact k_atD 55 rfl (k_call KM2 rfl ⟨asA_agg (evO_spec rfl) ⟨cAr_r, cAr_r, trivial⟩, asA_agg (evO_spec rfl) ⟨cAr_r, cAr_r, trivial⟩, trivial⟩) | exact k_neB bo4 rfl rfl rfl | exact k_call f_alive2 rfl trivial) | ((first | refine aw_ways rfl ?_ ?_ | refine r_split rfl rfl rfl ?_ ?_) <;> intro hg_ <;> fail_if_success (exact Bool.noConfusion hg_)) <;> (try simp only [prn] at hg_) <;> (try first | contradiction | (exfalso; omega)))
      all_goals first
        | exact ret_tmp rfl (dres_bool rfl)
        | (exfalso; simp at hg_; done)
        | trace_state
set_option maxRecDepth 100000 in
set_option maxHeartbeats 4000000 in
theorem law_dkW (nb : Bool) (code : List Int) (hB : Byte code) : Fn Try.prog 9 [.one (row nb 1 (bys code))] (.v (.one (bool true))) := by
  have hlb := bys_len code
  by_cases hl : code.length ≤ 1048576
  · exact f_lawDkW nb code hB hl
  · refine fn_of (l := [.tmp 2]) Try.func9 (by kernel_rfl) rfl Try.ntmps9 rfl rfl ?_; simp only [argEnv, P0.d, Nat.reduceAdd]
    repeat' (first | (with_reducible first | refine aw_seq ?_ | refine thn_normal ?_ | refine thn_ret ?_ | refine thn_exit ?_ | refine blk_normal ?_ | refine blk_ret ?_ | refine blk_hit ?_ | refine blk_miss rfl ?_ | refine aw_block ?_ | refine aw_ret ?_ | refine aw_skip ?_ | refine aw_exit ?_ | refine w_nil ?_ | refine x_nil (by kernel_rfl) ?_) | refine aw_region ?_ | refine aw_region_draw (by kernel_rfl) ?_ | refine aw_yes rfl ?_ | refine aw_no rfl ?_ | ((with_reducible refine w_seq ?_); first | refine r_q tbOk rfl rfl rfl rfl ?_ | refine r_e tbOk rfl rfl rfl rfl rfl ?_ | refine r_yes tbOk rfl rfl rfl rfl rfl rfl ?_ | refine w_no rfl rfl (lookO_spec rfl) rfl rfl rfl ?_ | refine w_un rfl rfl (lookO_spec rfl) rfl rfl ?_) | ((with_reducible refine w_drw ?_); first | refine rx_q tbOk rfl rfl rfl rfl ?_ | refine rx_e tbOk rfl rfl rfl rfl rfl ?_ | refine rx_yes tbOk rfl rfl rfl rfl rfl rfl ?_ | refine x_no rfl rfl (lookO_spec rfl) rfl rfl rfl ?_ | refine x_un rfl rfl (lookO_spec rfl) rfl rfl ?_) | ((first | refine aw_ways rfl ?_ ?_ | refine r_split rfl rfl rfl ?_ ?_) <;> intro hg_ <;> fail_if_success (exact Bool.noConfusion hg_)) <;> (try simp only [prn] at hg_) <;> (try first | contradiction | (exfalso; omega)))
    all_goals first
      | exact ret_tmp rfl (dres_bool rfl)
      | (exfalso; omega)
      | trace_state
end Go.Proofs.Ytihpchbkodihpaa.Abs
