/- FnWriteAll by states: crashes, equal records, the law's walk. -/
import Derived.Test.YtihpchbkodihpaaTy
import Derived.Lib.Hide
import Derived.Test.YtihpchbkodihpaaLDkW
import Derived.Test.YtihpchbkodihpaaASpD
import Derived.Test.YtihpchbkodihpaaAImD
import Derived.Test.YtihpchbkodihpaaADrJ
set_option linter.unusedSimpArgs false
set_option linter.unusedVariables false
namespace Go.Proofs.Ytihpchbkodihpaa.Abs
open Go.RowKit
open R (val row ref)

theorem optI_wD {l : List (Nat × D)} {x : Operand} {m : Bool} {z : Int} {a d : Nat} (h : evO l x = some (.one (.r m (int z)))) (hz : z = (a : Int)) : optI (evD (look l)) (some x) a d := ⟨m, by rw [evO_spec h, hz]⟩
set_option maxRecDepth 100000 in
set_option maxHeartbeats 4000000 in
theorem f_implPut (n2 : Bool) (ys bs : List Int) (hn2 : n2 = true → ys = []) (hv : diskOk [] ys = true) (hbo : bodyOk bs = true) (h3 : ys.length + (frameOf bs).length ≤ 2000) : Fn Try.prog 39 [diskP true [] n2 ys, .one (row false 1 (ints bs))] (.tup [diskP true [] false (ys ++ frameOf bs), .one (bool true)]) := by
  have hyl : ys.length ≤ 2000 := by omega
  have KV := f_implDiskValid true n2 [] ys (by simp) (by omega)
  rw [hv] at KV
  have KF := f_implFrame false bs
  rw [hbo, show (!true) = false from rfl] at KF
  have hly := ints_len ys
  have hlf := ints_len (frameOf bs)
  have hfl := frame_len bs
  have hz := frame_zeroD bs
  have hw1 : IntKind.i64.wrap (((ints []).length : Int) + ((ints ys).length : Int)) = ((ys.length : Nat) : Int) := by rw [hly, show (ints []).length = 0 from rfl, IntWalk.i64_in _ (by omega)]; omega
  have hw2 : IntKind.i64.wrap (((ys.length : Nat) : Int) + ((ints (frameOf bs)).length : Int)) = ((ys.length + (frameOf bs).length : Nat) : Int) := by rw [hlf, IntWalk.i64_in _ (by omega)]; omega
  have K1 := f_cloneD true [] (by simp) (by simp)
  have K2 := f_concat n2 false ys (frameOf bs) (by omega) (by omega)
  have hfz : (frameOf bs).length ≠ 0 := fun h => by have := hz.1 h; rw [hbo] at this; cases this
  rw [show decide (ys.length + (frameOf bs).length = 0) = false from decide_eq_false (by omega)] at K2
  unfold rows2 at K2
  generalize frameOf bs = fr at *
  refine fn_of (l := [.cell 4 28, .tmp 5]) Try.func39 (by kernel_rfl) rfl Try.ntmps39 rfl rfl ?_; simp only [argEnv, P0.d, Nat.reduceAdd, diskP, List.map_cons, List.map_nil]
  repeat' (first | (with_reducible first | refine aw_seq ?_ | refine thn_normal ?_ | refine thn_ret ?_ | refine thn_exit ?_ | refine blk_normal ?_ | refine blk_ret ?_ | refine blk_hit ?_ | refine blk_miss rfl ?_ | refine aw_block ?_ | refine aw_ret ?_ | refine aw_skip ?_ | refine aw_exit ?_ | refine w_nil ?_ | refine x_nil (by kernel_rfl) ?_) | refine aw_region ?_ | refine aw_region_draw (by kernel_rfl) ?_ | refine aw_yes rfl ?_ | refine aw_no rfl ?_ | ((with_reducible refine w_seq ?_); first | refine r_q tbOk rfl rfl rfl rfl ?_ | refine r_e tbOk rfl rfl rfl rfl rfl ?_ | refine r_yes tbOk rfl rfl rfl rfl rfl rfl ?_ | refine w_no rfl rfl (lookO_spec rfl) rfl rfl rfl ?_ | refine w_un rfl rfl (lookO_spec rfl) rfl rfl ?_) | ((with_reducible refine w_drw ?_); first | refine rx_q tbOk rfl rfl rfl rfl ?_ | refine rx_e tbOk rfl rfl rfl rfl rfl ?_ | refine rx_yes tbOk rfl rfl rfl rfl rfl rfl ?_ | refine x_no rfl rfl (lookO_spec rfl) rfl rfl rfl ?_ | refine x_un rfl rfl (lookO_spec rfl) rfl rfl ?_) | ((first | refine' w_q rfl rfl ?xa rfl ?_ | refine' v_q rfl rfl ?xa rfl ?_ | refine' w_yes rfl rfl (lookO_spec rfl) rfl ?xa rfl ?_ | refine' v_yes rfl rfl (lookO_spec rfl) rfl ?xa rfl ?_); case xa => first | exact k_call KV rfl ⟨asA_agg (evO_spec rfl) ⟨cAr_r, cAr_r, trivial⟩, trivial⟩ | exact k_call KF rfl ⟨asA_r (evO_spec rfl), trivial⟩ | exact k_nil_eq tbOk rfl rfl rfl rfl | exact k_atD 32 rfl (k_call K1 rfl ⟨asA_r (evO_spec rfl), trivial⟩) | exact k_call K2 rfl ⟨asA_own0H (evO_spec rfl) (lookHO_spec rfl) rfl, trivial⟩) | ((first | refine' w_e rfl ?xa ?xb ?xc ?xe ?_ | refine' v_e rfl ?xa ?xb ?xc ?xe ?_); (case xa => exact e_build [.tmp 34, .tmp 35] tlOk rfl rfl rfl rfl rfl rfl (allN_two rfl rfl) (by simp)); (case xb => rfl); (case xc => rfl); (case xe => rfl); try dsimp only [P0.d, Res.d, List.map_cons, List.map_nil, List.set_cons_zero, List.set_cons_succ, Nat.reduceAdd]) | ((first | refine aw_ways rfl ?_ ?_ | refine r_split rfl rfl rfl ?_ ?_) <;> intro hg_ <;> fail_if_success (exact Bool.noConfusion hg_)) <;> (try simp only [prn] at hg_) <;> (try first | contradiction | (exfalso; omega)))
  all_goals first
    | (exfalso; rw [hw1, hw2] at *; omega)
    | exact ret_2 (rv_cell rfl rfl (by (with_reducible first | exact ty3 | exact ty4 | exact ty5 | exact ty9 | exact ty17 | exact ty19 | exact ty22 | exact ty23 | exact ty25 | exact ty26 | exact ty28 | exact ty30 | exact ty36 | exact ty38 | exact ty40 | exact ty45 | exact ty66 | exact ty77 | exact ty80 | exact ty100 | exact ty112 | exact ty118 | exact ty126 | exact ty128 | exact ty131 | exact ty132)) rfl rfl rfl (dres_agg (by exact ⟨cres_new, cres_new, trivial⟩))) (rv_tmp rfl (dres_bool rfl))
    | trace_state
set_option maxRecDepth 100000 in
set_option maxHeartbeats 4000000 in
theorem f_implKept0 (n2 : Bool) (ys : List Int) (hl : ys.length ≤ 2000) : Fn Try.prog 94 [diskP true [] n2 ys, iP 0] (.v (diskP true [] true [])) := by
  have hly := ints_len ys
  have K2 := f_concat true n2 [] [] (by simp) (by simp)
  rw [show decide (([] : List Int).length + ([] : List Int).length = 0) = true from rfl] at K2
  unfold rows2 at K2
  have hm : (if ((ints ys).length : Int) < 0 then ((ints ys).length : Int) else 0) = ((0 : Nat) : Int) := by rw [if_neg (by omega)]; rfl
  have hs : ((ints ys).drop 0).take (0 - 0) = [] := by simp
  refine fn_of (l := [.cell 4 28]) Try.func94 (by kernel_rfl) rfl Try.ntmps94 rfl rfl ?_; simp only [argEnv, P0.d, Nat.reduceAdd, diskP, List.map_cons, List.map_nil]
  repeat' (first | (with_reducible first | refine aw_seq ?_ | refine thn_normal ?_ | refine thn_ret ?_ | refine thn_exit ?_ | refine blk_normal ?_ | refine blk_ret ?_ | refine blk_hit ?_ | refine blk_miss rfl ?_ | refine aw_block ?_ | refine aw_ret ?_ | refine aw_skip ?_ | refine aw_exit ?_ | refine w_nil ?_ | refine x_nil (by kernel_rfl) ?_) | refine aw_region ?_ | refine aw_region_draw (by kernel_rfl) ?_ | refine aw_yes rfl ?_ | refine aw_no rfl ?_ | ((with_reducible refine w_seq ?_); first | refine r_q tbOk rfl rfl rfl rfl ?_ | refine r_e tbOk rfl rfl rfl rfl rfl ?_ | refine r_yes tbOk rfl rfl rfl rfl rfl rfl ?_ | refine w_no rfl rfl (lookO_spec rfl) rfl rfl rfl ?_ | refine w_un rfl rfl (lookO_spec rfl) rfl rfl ?_) | ((with_reducible refine w_drw ?_); first | refine rx_q tbOk rfl rfl rfl rfl ?_ | refine rx_e tbOk rfl rfl rfl rfl rfl ?_ | refine rx_yes tbOk rfl rfl rfl rfl rfl rfl ?_ | refine x_no rfl rfl (lookO_spec rfl) rfl rfl rfl ?_ | refine x_un rfl rfl (lookO_spec rfl) rfl rfl ?_) | ((first | refine' w_q rfl rfl ?xa rfl ?_ | refine' v_q rfl rfl ?xa rfl ?_ | refine' w_yes rfl rfl (lookO_spec rfl) rfl ?xa rfl ?_ | refine' v_yes rfl rfl (lookO_spec rfl) rfl ?xa rfl ?_); case xa => first | exact k_slice (a := 0) (b := 0) tbOk rfl rfl rfl rfl (optI_wD rfl hm) (by omega) (by omega) | exact k_call K2 rfl ⟨asA_own0H (evO_spec rfl) (lookHO_spec rfl) rfl, trivial⟩) | ((first | refine' w_e rfl ?xa ?xb ?xc ?xe ?_ | refine' v_e rfl ?xa ?xb ?xc ?xe ?_); (case xa => exact e_build [.tmp 11, .tmp 15] tlOk rfl rfl rfl rfl rfl rfl (allN_two rfl rfl) (by simp)); (case xb => rfl); (case xc => rfl); (case xe => rfl); try dsimp only [P0.d, Res.d, List.map_cons, List.map_nil, List.set_cons_zero, List.set_cons_succ, Nat.reduceAdd]) | ((first | refine aw_ways rfl ?_ ?_ | refine r_split rfl rfl rfl ?_ ?_) <;> intro hg_ <;> fail_if_success (exact Bool.noConfusion hg_)) <;> (try simp only [prn] at hg_) <;> (try first | contradiction | (exfalso; omega)))
  all_goals first
    | exact ret_v (rv_cell rfl rfl (by (with_reducible first | exact ty3 | exact ty4 | exact ty5 | exact ty9 | exact ty17 | exact ty19 | exact ty22 | exact ty23 | exact ty25 | exact ty26 | exact ty28 | exact ty30 | exact ty36 | exact ty38 | exact ty40 | exact ty45 | exact ty66 | exact ty77 | exact ty80 | exact ty100 | exact ty112 | exact ty118 | exact ty126 | exact ty128 | exact ty131 | exact ty132)) rfl rfl rfl (dres_agg (by exact ⟨cres_new, cres_nil, trivial⟩)))
    | trace_state
set_option maxRecDepth 100000 in
set_option maxHeartbeats 4000000 in
theorem f_implCrash0 (n2 : Bool) (ys : List Int) (hv : diskOk [] ys = true) : Fn Try.prog 49 [diskP true [] n2 ys, iP 0] (.v (diskP true [] true [])) := by
  have hl : ys.length ≤ 2000 := by unfold diskOk at hv; simp at hv; omega
  have KV := f_implDiskValid true n2 [] ys (by simp) (by omega)
  rw [hv] at KV
  have KK := f_implKept0 n2 ys hl
  refine fn_of (l := [.cell 4 28]) Try.func49 (by kernel_rfl) rfl Try.ntmps49 rfl rfl ?_; simp only [argEnv, P0.d, Nat.reduceAdd, diskP, List.map_cons, List.map_nil]
  repeat' (first | (with_reducible first | refine aw_seq ?_ | refine thn_normal ?_ | refine thn_ret ?_ | refine thn_exit ?_ | refine blk_normal ?_ | refine blk_ret ?_ | refine blk_hit ?_ | refine blk_miss rfl ?_ | refine aw_block ?_ | refine aw_ret ?_ | refine aw_skip ?_ | refine aw_exit ?_ | refine w_nil ?_ | refine x_nil (by kernel_rfl) ?_) | refine aw_region ?_ | refine aw_region_draw (by kernel_rfl) ?_ | refine aw_yes rfl ?_ | refine aw_no rfl ?_ | ((with_reducible refine w_seq ?_); first | refine r_q tbOk rfl rfl rfl rfl ?_ | refine r_e tbOk rfl rfl rfl rfl rfl ?_ | refine r_yes tbOk rfl rfl rfl rfl rfl rfl ?_ | refine w_no rfl rfl (lookO_spec rfl) rfl rfl rfl ?_ | refine w_un rfl rfl (lookO_spec rfl) rfl rfl ?_) | ((with_reducible refine w_drw ?_); first | refine rx_q tbOk rfl rfl rfl rfl ?_ | refine rx_e tbOk rfl rfl rfl rfl rfl ?_ | refine rx_yes tbOk rfl rfl rfl rfl rfl rfl ?_ | refine x_no rfl rfl (lookO_spec rfl) rfl rfl rfl ?_ | refine x_un rfl rfl (lookO_spec rfl) rfl rfl ?_) | ((first | refine' w_q rfl rfl ?xa rfl ?_ | refine' v_q rfl rfl ?xa rfl ?_ | refine' w_yes rfl rfl (lookO_spec rfl) rfl ?xa rfl ?_ | refine' v_yes rfl rfl (lookO_spec rfl) rfl ?xa rfl ?_); case xa => first | exact k_call KV rfl ⟨asA_agg (evO_spec rfl) ⟨cAr_r, cAr_r, trivial⟩, trivial⟩ | exact k_call KK rfl ⟨asA_agg (evO_spec rfl) ⟨cAr_r, cAr_r, trivial⟩, asA_r (evO_spec rfl), trivial⟩) | ((first | refine aw_ways rfl ?_ ?_ | refine r_split rfl rfl rfl ?_ ?_) <;> intro hg_ <;> fail_if_success (exact Bool.noConfusion hg_)) <;> (try simp only [prn] at hg_) <;> (try first | contradiction | (exfalso; omega)))
  all_goals first
    | exact ret_v (rv_cell rfl rfl (by (with_reducible first | exact ty3 | exact ty4 | exact ty5 | exact ty9 | exact ty17 | exact ty19 | exact ty22 | exact ty23 | exact ty25 | exact ty26 | exact ty28 | exact ty30 | exact ty36 | exact ty38 | exact ty40 | exact ty45 | exact ty66 | exact ty77 | exact ty80 | exact ty100 | exact ty112 | exact ty118 | exact ty126 | exact ty128 | exact ty131 | exact ty132)) rfl rfl rfl (dres_agg (by exact ⟨cres_new, cres_new, trivial⟩)))
    | trace_state
set_option maxRecDepth 100000 in
set_option maxHeartbeats 4000000 in
theorem f_sameRecords (n1 n2 : Bool) (L : List (List Int)) (hl : L.length ≤ 1048576) (hb : ∀ b ∈ L, b.length ≤ 1048576) : Fn Try.prog 48 [.one (row n1 1 (rowsI L)), .one (row n2 1 (rowsI L))] (.v (.one (bool true))) := by
  have hlen := rowsI_len L
  refine fn_of (l := [.tmp 4]) Try.func48 (by kernel_rfl) rfl Try.ntmps48 rfl rfl ?_; simp only [argEnv, P0.d, Nat.reduceAdd]
  repeat' (first | (with_reducible first | refine aw_seq ?_ | refine thn_normal ?_ | refine thn_ret ?_ | refine thn_exit ?_ | refine blk_normal ?_ | refine blk_ret ?_ | refine blk_hit ?_ | refine blk_miss rfl ?_ | refine aw_block ?_ | refine aw_ret ?_ | refine aw_skip ?_ | refine aw_exit ?_ | refine w_nil ?_ | refine x_nil (by kernel_rfl) ?_) | refine aw_region ?_ | refine aw_region_draw (by kernel_rfl) ?_ | refine aw_yes rfl ?_ | refine aw_no rfl ?_ | ((with_reducible refine w_seq ?_); first | refine r_q tbOk rfl rfl rfl rfl ?_ | refine r_e tbOk rfl rfl rfl rfl rfl ?_ | refine r_yes tbOk rfl rfl rfl rfl rfl rfl ?_ | refine w_no rfl rfl (lookO_spec rfl) rfl rfl rfl ?_ | refine w_un rfl rfl (lookO_spec rfl) rfl rfl ?_) | ((with_reducible refine w_drw ?_); first | refine rx_q tbOk rfl rfl rfl rfl ?_ | refine rx_e tbOk rfl rfl rfl rfl rfl ?_ | refine rx_yes tbOk rfl rfl rfl rfl rfl rfl ?_ | refine x_no rfl rfl (lookO_spec rfl) rfl rfl rfl ?_ | refine x_un rfl rfl (lookO_spec rfl) rfl rfl ?_) | ((first | refine aw_ways rfl ?_ ?_ | refine r_split rfl rfl rfl ?_ ?_) <;> intro hg_ <;> fail_if_success (exact Bool.noConfusion hg_)) <;> (try simp only [prn] at hg_) <;> (try first | contradiction | (exfalso; omega)))
  refine aw_loopI (fun k : Nat => k ≤ L.length) (fun k => mkS 27 [(5, .one (.r true (int k))), (0, .one (.r false (row n1 1 (rowsI L)))), (1, .one (.r false (row n2 1 (rowsI L))))] []) (fun k => L.length - k) 0 (Nat.zero_le _) (by (refine weak_ren [] rfl ?_ ?_ <;> repeat' (first | exact trivial | refine subR_cons rfl ?_ ?_ | refine subHR_cons rfl ?_ ?_ | rfl | (refine d_int ?_; (first | rfl | omega | (rw [IntWalk.i64_in _ (by omega)] <;> omega) | (simp; done) | (simp; omega))) | (refine d_bool ?_; (first | (simp_all; done) | (rw [Bool.eq_iff_iff]; simp_all; done) | (rw [Bool.eq_iff_iff]; simp_all; omega) | (rw [Bool.eq_iff_iff]; simp; omega)))))) ?_
  intro k hk
  by_cases hlt : k < L.length
  · have hix := rowsI_at hlt
    have KQ := f_sameInts2 false false L[k] (hb _ (List.getElem_mem hlt))
    have hw : IntKind.i64.wrap ((k : Int) + 1) = ((k + 1 : Nat) : Int) := by rw [IntWalk.i64_in _ (by omega)]; omega
    generalize L[k] = b at *
    repeat' (first | (with_reducible first | refine aw_seq ?_ | refine thn_normal ?_ | refine thn_ret ?_ | refine thn_exit ?_ | refine blk_normal ?_ | refine blk_ret ?_ | refine blk_hit ?_ | refine blk_miss rfl ?_ | refine aw_block ?_ | refine aw_ret ?_ | refine aw_skip ?_ | refine aw_exit ?_ | refine w_nil ?_ | refine x_nil (by kernel_rfl) ?_) | refine aw_region ?_ | refine aw_region_draw (by kernel_rfl) ?_ | refine aw_yes rfl ?_ | refine aw_no rfl ?_ | ((with_reducible refine w_seq ?_); first | refine r_q tbOk rfl rfl rfl rfl ?_ | refine r_e tbOk rfl rfl rfl rfl rfl ?_ | refine r_yes tbOk rfl rfl rfl rfl rfl rfl ?_ | refine w_no rfl rfl (lookO_spec rfl) rfl rfl rfl ?_ | refine w_un rfl rfl (lookO_spec rfl) rfl rfl ?_) | ((with_reducible refine w_drw ?_); first | refine rx_q tbOk rfl rfl rfl rfl ?_ | refine rx_e tbOk rfl rfl rfl rfl rfl ?_ | refine rx_yes tbOk rfl rfl rfl rfl rfl rfl ?_ | refine x_no rfl rfl (lookO_spec rfl) rfl rfl rfl ?_ | refine x_un rfl rfl (lookO_spec rfl) rfl rfl ?_) | ((first | refine' w_q rfl rfl ?xa rfl ?_ | refine' v_q rfl rfl ?xa rfl ?_ | refine' w_yes rfl rfl (lookO_spec rfl) rfl ?xa rfl ?_ | refine' v_yes rfl rfl (lookO_spec rfl) rfl ?xa rfl ?_); case xa => first | exact k_index tbOk rfl rfl rfl rfl (by omega) (by exact hix) | exact k_call KQ rfl ⟨asA_r (evO_spec rfl), asA_r (evO_spec rfl), trivial⟩) | ((first | refine aw_ways rfl ?_ ?_ | refine r_split rfl rfl rfl ?_ ?_) <;> intro hg_ <;> fail_if_success (exact Bool.noConfusion hg_)) <;> (try simp only [prn] at hg_) <;> (try first | contradiction | (exfalso; omega)))
    all_goals first
      | exact ⟨k + 1, by omega, by (refine weak_ren [] rfl ?_ ?_ <;> repeat' (first | exact trivial | refine subR_cons rfl ?_ ?_ | refine subHR_cons rfl ?_ ?_ | rfl | (refine d_int ?_; (first | rfl | omega | (rw [IntWalk.i64_in _ (by omega)] <;> omega) | (simp; done) | (simp; omega))) | (refine d_bool ?_; (first | (simp_all; done) | (rw [Bool.eq_iff_iff]; simp_all; done) | (rw [Bool.eq_iff_iff]; simp_all; omega) | (rw [Bool.eq_iff_iff]; simp; omega))) | exact d_int hw)), by omega⟩
      | trace_state
  · repeat' (first | (with_reducible first | refine aw_seq ?_ | refine thn_normal ?_ | refine thn_ret ?_ | refine thn_exit ?_ | refine blk_normal ?_ | refine blk_ret ?_ | refine blk_hit ?_ | refine blk_miss rfl ?_ | refine aw_block ?_ | refine aw_ret ?_ | refine aw_skip ?_ | refine aw_exit ?_ | refine w_nil ?_ | refine x_nil (by kernel_rfl) ?_) | refine aw_region ?_ | refine aw_region_draw (by kernel_rfl) ?_ | refine aw_yes rfl ?_ | refine aw_no rfl ?_ | ((with_reducible refine w_seq ?_); first | refine r_q tbOk rfl rfl rfl rfl ?_ | refine r_e tbOk rfl rfl rfl rfl rfl ?_ | refine r_yes tbOk rfl rfl rfl rfl rfl rfl ?_ | refine w_no rfl rfl (lookO_spec rfl) rfl rfl rfl ?_ | refine w_un rfl rfl (lookO_spec rfl) rfl rfl ?_) | ((with_reducible refine w_drw ?_); first | refine rx_q tbOk rfl rfl rfl rfl ?_ | refine rx_e tbOk rfl rfl rfl rfl rfl ?_ | refine rx_yes tbOk rfl rfl rfl rfl rfl rfl ?_ | refine x_no rfl rfl (lookO_spec rfl) rfl rfl rfl ?_ | refine x_un rfl rfl (lookO_spec rfl) rfl rfl ?_) | ((first | refine aw_ways rfl ?_ ?_ | refine r_split rfl rfl rfl ?_ ?_) <;> intro hg_ <;> fail_if_success (exact Bool.noConfusion hg_)) <;> (try simp only [prn] at hg_) <;> (try first | contradiction | (exfalso; omega)))
    all_goals first
      | exact ret_tmp rfl (dres_bool rfl)
      | trace_state
theorem joinR_ok {bs : List (List Int)} {out : List Int} (h : joinR bs [] = (out, true)) : (∀ b ∈ bs, bodyOk b = true) ∧ out = joined bs ∧ out.length ≤ 2000 := by
  unfold joinR at h
  cases hj : joinF bs [] with
  | none => rw [hj] at h; cases h
  | some o =>
    rw [hj] at h
    obtain ⟨h1, h2, h3⟩ := joinF_some hj
    injection h with h
    subst h
    exact ⟨h1, by rw [h2, List.nil_append], h3 (by simp)⟩
theorem joined_take_le (bs : List (List Int)) (k : Nat) : (joined (bs.take k)).length ≤ (joined bs).length := by
  have h : joined bs = joined (bs.take k) ++ joined (bs.drop k) := by rw [← joined_app, List.take_append_drop]
  rw [h, List.length_append]; omega
theorem joined_ok {bs : List (List Int)} (hl : (joined bs).length ≤ 2000) : diskOk [] (joined bs) = true := by
  unfold diskOk
  rw [bytesOk_of (joined_bytes bs) hl]
  simp only [List.length_nil, Nat.zero_add, Bool.and_true, Bool.and_eq_true, decide_eq_true_eq]
  exact ⟨rfl, hl⟩
set_option maxRecDepth 100000 in
set_option maxHeartbeats 8000000 in
theorem f_lawWrA (nb : Bool) (code : List Int) (hB : Byte code) (hl : code.length ≤ 1048576) : Fn Try.prog 10 [.one (row nb 1 (bys code))] (.v (.one (bool true))) := by
  obtain ⟨bs, ⟨hbl, hbb⟩, KD⟩ := f_drawRecords nb code hB hl
  have hcl := bys_len code
  have hlb := rowsI_len bs
  have KI := f_implJoin false bs (by omega)
  have KS := f_specJoin false bs (by omega)
  have hJl : (joinR bs []).1.length ≤ 2000 := by
    cases hj : joinR bs [] with
    | mk o ok =>
      cases ok with
      | true => exact (joinR_ok hj).2.2
      | false =>
        unfold joinR at hj
        cases hf : joinF bs [] with
        | none => rw [hf] at hj; cases hj; simp
        | some o => rw [hf] at hj; cases hj
  have hok : (joinR bs []).2 = true → joinR bs [] = ((joinR bs []).1, true) := fun h => by rw [← h]
  have KQ := fun n1 => f_sameInts2 n1 false (joinR bs []).1 (by omega)
  have hfacts := fun h : (joinR bs []).2 = true => joinR_ok (bs := bs) (hok h)
  generalize joinR bs [] = J at *
  obtain ⟨out, ok⟩ := J
  dsimp only at KI KS hJl hok KQ hfacts
  have hlo := ints_len out
  cases ok with
  | false =>
    have KQ1 := KQ (decide (out = []))
    generalize decide (out = []) = dn at *
    refine fn_of (l := [.tmp 2]) Try.func10 (by kernel_rfl) rfl Try.ntmps10 rfl rfl ?_; simp only [argEnv, P0.d, Nat.reduceAdd]
    repeat' (first | (with_reducible first | refine aw_seq ?_ | refine thn_normal ?_ | refine thn_ret ?_ | refine thn_exit ?_ | refine blk_normal ?_ | refine blk_ret ?_ | refine blk_hit ?_ | refine blk_miss rfl ?_ | refine aw_block ?_ | refine aw_ret ?_ | refine aw_skip ?_ | refine aw_exit ?_ | refine w_nil ?_ | refine x_nil (by kernel_rfl) ?_) | refine aw_region ?_ | refine aw_region_draw (by kernel_rfl) ?_ | refine aw_yes rfl ?_ | refine aw_no rfl ?_ | ((with_reducible refine w_seq ?_); first | refine r_q tbOk rfl rfl rfl rfl ?_ | refine r_e tbOk rfl rfl rfl rfl rfl ?_ | refine r_yes tbOk rfl rfl rfl rfl rfl rfl ?_ | refine w_no rfl rfl (lookO_spec rfl) rfl rfl rfl ?_ | refine w_un rfl rfl (lookO_spec rfl) rfl rfl ?_) | ((with_reducible refine w_drw ?_); first | refine rx_q tbOk rfl rfl rfl rfl ?_ | refine rx_e tbOk rfl rfl rfl rfl rfl ?_ | refine rx_yes tbOk rfl rfl rfl rfl rfl rfl ?_ | refine x_no rfl rfl (lookO_spec rfl) rfl rfl rfl ?_ | refine x_un rfl rfl (lookO_spec rfl) rfl rfl ?_) | ((first | refine' w_q rfl rfl ?xa rfl ?_ | refine' v_q rfl rfl ?xa rfl ?_ | refine' w_yes rfl rfl (lookO_spec rfl) rfl ?xa rfl ?_ | refine' v_yes rfl rfl (lookO_spec rfl) rfl ?xa rfl ?_); case xa => first | exact k_call KD rfl ⟨asA_r (evO_spec rfl), trivial⟩ | exact k_call KI rfl ⟨asA_r (evO_spec rfl), trivial⟩ | exact k_atD 29 rfl (k_call KQ1 rfl ⟨asA_r (evO_spec rfl), asA_own0H (evO_spec rfl) (lookHO_spec rfl) hlo.symm, trivial⟩) | exact k_neB bo4 rfl rfl rfl | exact k_call f_alive2 rfl trivial) | ((first | refine' w_e rfl ?xa ?xb ?xc ?xe ?_ | refine' v_e rfl ?xa ?xb ?xc ?xe ?_); (case xa => exact at_dst 24 rfl (e_callS0 (ys := [.one (row false 1 (rowsI bs))]) [(2000001, 501)] KS rfl rfl ⟨by rw [evO_spec rfl]; exact cAr_r, trivial⟩ rfl rfl)); (case xb => rfl); (case xc => rfl); (case xe => rfl); try dsimp only [P0.d, Res.d, List.map_cons, List.map_nil, List.set_cons_zero, List.set_cons_succ, Nat.reduceAdd]) | ((first | refine aw_ways rfl ?_ ?_ | refine r_split rfl rfl rfl ?_ ?_) <;> intro hg_ <;> fail_if_success (exact Bool.noConfusion hg_)) <;> (try simp only [prn] at hg_) <;> (try first | contradiction | (exfalso; omega)))
    all_goals first
      | exact ret_tmp rfl (dres_bool rfl)
      | (exfalso; simp at hg_; done)
      | trace_state
  | true =>
    obtain ⟨hbo, hout, _⟩ := hfacts rfl
    have KQ1 := KQ (decide (out = []))
    clear hok hfacts KQ
    have hTk : ∀ (k : Nat) (h : k < bs.length), joined (bs.take (k + 1)) = joined (bs.take k) ++ frameOf bs[k] := fun k h => by
      rw [List.take_succ_eq_append_getElem h, joined_app]
      congr 1
      rw [joined_cons]; simp [joined]
    have hTl : ∀ k, (joined (bs.take k)).length ≤ 2000 := fun k => by have := joined_take_le bs k; rw [← hout] at this; omega
    have KR2 : Fn Try.prog 43 [diskP true [] true []] (.v (.one (row true 1 []))) := by
      have h := f_implRecords true true [] [] (joined_ok (bs := []) (by simp [joined]))
      rw [List.append_nil, scanF_empty] at h
      exact h
    obtain ⟨dn, hdn⟩ : ∃ dn, dn = decide (out = []) := ⟨_, rfl⟩
    rw [← hdn] at KI KQ1
    have hdo : dn = true → out = [] := fun h => by rw [hdn] at h; exact of_decide_eq_true h
    clear hdn
    refine fn_of (l := [.tmp 2]) Try.func10 (by kernel_rfl) rfl Try.ntmps10 rfl rfl ?_; simp only [argEnv, P0.d, Nat.reduceAdd]
    repeat' (first | (with_reducible first | refine aw_seq ?_ | refine thn_normal ?_ | refine thn_ret ?_ | refine thn_exit ?_ | refine blk_normal ?_ | refine blk_ret ?_ | refine blk_hit ?_ | refine blk_miss rfl ?_ | refine aw_block ?_ | refine aw_ret ?_ | refine aw_skip ?_ | refine aw_exit ?_ | refine w_nil ?_ | refine x_nil (by kernel_rfl) ?_) | refine aw_region ?_ | refine aw_region_draw (by kernel_rfl) ?_ | refine aw_yes rfl ?_ | refine aw_no rfl ?_ | ((with_reducible refine w_seq ?_); first | refine r_q tbOk rfl rfl rfl rfl ?_ | refine r_e tbOk rfl rfl rfl rfl rfl ?_ | refine r_yes tbOk rfl rfl rfl rfl rfl rfl ?_ | refine w_no rfl rfl (lookO_spec rfl) rfl rfl rfl ?_ | refine w_un rfl rfl (lookO_spec rfl) rfl rfl ?_) | ((with_reducible refine w_drw ?_); first | refine rx_q tbOk rfl rfl rfl rfl ?_ | refine rx_e tbOk rfl rfl rfl rfl rfl ?_ | refine rx_yes tbOk rfl rfl rfl rfl rfl rfl ?_ | refine x_no rfl rfl (lookO_spec rfl) rfl rfl rfl ?_ | refine x_un rfl rfl (lookO_spec rfl) rfl rfl ?_) | ((first | refine' w_q rfl rfl ?xa rfl ?_ | refine' v_q rfl rfl ?xa rfl ?_ | refine' w_yes rfl rfl (lookO_spec rfl) rfl ?xa rfl ?_ | refine' v_yes rfl rfl (lookO_spec rfl) rfl ?xa rfl ?_); case xa => first | exact k_call KD rfl ⟨asA_r (evO_spec rfl), trivial⟩ | exact k_call KI rfl ⟨asA_r (evO_spec rfl), trivial⟩ | exact k_atD 29 rfl (k_call KQ1 rfl ⟨asA_r (evO_spec rfl), asA_own0H (evO_spec rfl) (lookHO_spec rfl) hlo.symm, trivial⟩) | exact k_neB bo4 rfl rfl rfl) | ((first | refine' w_e rfl ?xa ?xb ?xc ?xe ?_ | refine' v_e rfl ?xa ?xb ?xc ?xe ?_); (case xa => exact at_dst 24 rfl (e_callS0 (ys := [.one (row false 1 (rowsI bs))]) [(2000001, 501)] KS rfl rfl ⟨by rw [evO_spec rfl]; exact cAr_r, trivial⟩ rfl rfl)); (case xb => rfl); (case xc => rfl); (case xe => rfl); try dsimp only [P0.d, Res.d, List.map_cons, List.map_nil, List.set_cons_zero, List.set_cons_succ, Nat.reduceAdd]) | ((first | refine aw_ways rfl ?_ ?_ | refine r_split rfl rfl rfl ?_ ?_) <;> intro hg_ <;> fail_if_success (exact Bool.noConfusion hg_)) <;> (try simp only [prn] at hg_) <;> (try first | contradiction | (exfalso; omega)))
    all_goals first
      | exact ret_tmp rfl (dres_bool rfl)
      | (exfalso; simp at hg_; done)
      | skip
    obtain ⟨S0, hS0⟩ : ∃ S0 : St, S0 = mkS 75 [(9, .one (.r true (int 0))), (8, .one (.ptr 8 0 0 0)), (4, .one (.r true (row dn 1 (ints out)))), (3, .one (.r true (row false 1 (rowsI bs))))] [(8, .var 28 [.r true (row true 0 []), .r true (row true 0 [])])] := ⟨_, rfl⟩
    obtain ⟨S1, hS1⟩ : ∃ S1 : Nat → St, ∀ k, S1 k = mkS 75 [(9, .one (.r true (int k))), (8, .one (.ptr 8 0 0 0)), (4, .one (.r true (row dn 1 (ints out)))), (3, .one (.r true (row false 1 (rowsI bs))))] [(8, .var 28 [.r true (row true 1 []), .r true (row false 1 (ints (joined (bs.take k))))])] := ⟨_, fun _ => rfl⟩
    obtain ⟨F, hF0, hF1⟩ : ∃ F : Option Nat → St, F none = S0 ∧ ∀ x, F (some x) = S1 x := ⟨fun o => match o with | none => S0 | some x => S1 x, rfl, fun _ => rfl⟩
    refine aw_loopI (fun o : Option Nat => ∀ k, o = some k → k ≤ bs.length) F (fun o => match o with | none => bs.length + 1 | some k => bs.length - k) none (fun x h => by cases h) (by rw [hF0, hS0]; (refine weak_ren [] rfl ?_ ?_ <;> repeat' (first | exact trivial | refine subR_cons rfl ?_ ?_ | refine subHR_cons rfl ?_ ?_ | rfl | (refine d_int ?_; (first | rfl | omega | (rw [IntWalk.i64_in _ (by omega)] <;> omega) | (simp; done) | (simp; omega))) | (refine d_bool ?_; (first | (simp_all; done) | (rw [Bool.eq_iff_iff]; simp_all; done) | (rw [Bool.eq_iff_iff]; simp_all; omega) | (rw [Bool.eq_iff_iff]; simp; omega)))))) ?_
    intro o ho
    cases o with
    | none =>
      rw [hF0, hS0]
      by_cases hlt : 0 < bs.length
      · have hix := rowsI_at hlt
        have hT1 := hTk 0 hlt
        rw [List.take_zero, show joined [] = [] from rfl, List.nil_append] at hT1
        have hT2 := hTl 1
        have hbo0 := hbo bs[0] (List.getElem_mem hlt)
        have KP := f_implPut true [] bs[0] (fun _ => rfl) (joined_ok (bs := []) (by simp [joined])) hbo0 (by rw [Nat.zero_add] at hT1; rw [hT1] at hT2; simpa using hT2)
        rw [List.nil_append] at KP
        have hw : IntKind.i64.wrap ((0 : Int) + 1) = ((1 : Nat) : Int) := by decide
        have hfin : ∀ s' : St, Weak s' (S1 1) → ∃ x' : Option Nat, (∀ k, x' = some k → k ≤ bs.length) ∧ Weak s' (F x') ∧ (match x' with | none => bs.length + 1 | some k => bs.length - k) < bs.length + 1 := fun s' h => ⟨some 1, fun k hk => by injection hk with hk; omega, (by rw [hF1]; exact h), by dsimp only; omega⟩
        rw [Nat.zero_add] at hT1
        rw [hS1, hT1] at hfin
        generalize bs[0] = b at *
        clear hF0 hF1 hS0 hS1 ho KS KI KD KQ1 hT1 hT2
        repeat' (first | (with_reducible first | refine aw_seq ?_ | refine thn_normal ?_ | refine thn_ret ?_ | refine thn_exit ?_ | refine blk_normal ?_ | refine blk_ret ?_ | refine blk_hit ?_ | refine blk_miss rfl ?_ | refine aw_block ?_ | refine aw_ret ?_ | refine aw_skip ?_ | refine aw_exit ?_ | refine w_nil ?_ | refine x_nil (by kernel_rfl) ?_) | refine aw_region ?_ | refine aw_region_draw (by kernel_rfl) ?_ | refine aw_yes rfl ?_ | refine aw_no rfl ?_ | ((with_reducible refine w_seq ?_); first | refine r_q tbOk rfl rfl rfl rfl ?_ | refine r_e tbOk rfl rfl rfl rfl rfl ?_ | refine r_yes tbOk rfl rfl rfl rfl rfl rfl ?_ | refine w_no rfl rfl (lookO_spec rfl) rfl rfl rfl ?_ | refine w_un rfl rfl (lookO_spec rfl) rfl rfl ?_) | ((with_reducible refine w_drw ?_); first | refine rx_q tbOk rfl rfl rfl rfl ?_ | refine rx_e tbOk rfl rfl rfl rfl rfl ?_ | refine rx_yes tbOk rfl rfl rfl rfl rfl rfl ?_ | refine x_no rfl rfl (lookO_spec rfl) rfl rfl rfl ?_ | refine x_un rfl rfl (lookO_spec rfl) rfl rfl ?_) | ((first | refine' w_q rfl rfl ?xa rfl ?_ | refine' v_q rfl rfl ?xa rfl ?_ | refine' w_yes rfl rfl (lookO_spec rfl) rfl ?xa rfl ?_ | refine' v_yes rfl rfl (lookO_spec rfl) rfl ?xa rfl ?_); case xa => first | exact k_index tbOk rfl rfl rfl rfl (by omega) (by exact hix) | exact k_call KP rfl ⟨asA_agg (evO_spec rfl) ⟨cAr_nil, cAr_nil, trivial⟩, asA_r (evO_spec rfl), trivial⟩) | ((first | refine aw_ways rfl ?_ ?_ | refine r_split rfl rfl rfl ?_ ?_) <;> intro hg_ <;> fail_if_success (exact Bool.noConfusion hg_)) <;> (try simp only [prn] at hg_) <;> (try first | contradiction | (exfalso; omega)))
        all_goals first
          | (exfalso; omega)
          | (refine hfin _ ?_
             (refine weak_ren [] rfl ?_ ?_ <;> repeat' (first | exact trivial | refine subR_cons rfl ?_ ?_ | refine subHR_cons rfl ?_ ?_ | rfl | (refine d_int ?_; (first | rfl | omega | (rw [IntWalk.i64_in _ (by omega)] <;> omega) | (simp; done) | (simp; omega))) | (refine d_bool ?_; (first | (simp_all; done) | (rw [Bool.eq_iff_iff]; simp_all; done) | (rw [Bool.eq_iff_iff]; simp_all; omega) | (rw [Bool.eq_iff_iff]; simp; omega))) | exact d_int hw)))
          | trace_state
      · have hb : bs = [] := List.eq_nil_of_length_eq_zero (by omega)
        subst hb
        have ho0 : out = [] := hout
        subst ho0
        have KQ2 := f_sameInts2 true dn [] (by simp)
        have KC := f_implCrash0 true [] (joined_ok (bs := []) (by simp [joined]))
        have KSR := f_sameRecords true false [] (by simp) (by simp)
        clear hF0 hF1 hS0 hS1 ho KS KI KD KQ1 hTk hTl
        repeat' (first | (with_reducible first | refine aw_seq ?_ | refine thn_normal ?_ | refine thn_ret ?_ | refine thn_exit ?_ | refine blk_normal ?_ | refine blk_ret ?_ | refine blk_hit ?_ | refine blk_miss rfl ?_ | refine aw_block ?_ | refine aw_ret ?_ | refine aw_skip ?_ | refine aw_exit ?_ | refine w_nil ?_ | refine x_nil (by kernel_rfl) ?_) | refine aw_region ?_ | refine aw_region_draw (by kernel_rfl) ?_ | refine aw_yes rfl ?_ | refine aw_no rfl ?_ | ((with_reducible refine w_seq ?_); first | refine r_q tbOk rfl rfl rfl rfl ?_ | refine r_e tbOk rfl rfl rfl rfl rfl ?_ | refine r_yes tbOk rfl rfl rfl rfl rfl rfl ?_ | refine w_no rfl rfl (lookO_spec rfl) rfl rfl rfl ?_ | refine w_un rfl rfl (lookO_spec rfl) rfl rfl ?_) | ((with_reducible refine w_drw ?_); first | refine rx_q tbOk rfl rfl rfl rfl ?_ | refine rx_e tbOk rfl rfl rfl rfl rfl ?_ | refine rx_yes tbOk rfl rfl rfl rfl rfl rfl ?_ | refine x_no rfl rfl (lookO_spec rfl) rfl rfl rfl ?_ | refine x_un rfl rfl (lookO_spec rfl) rfl rfl ?_) | ((first | refine' w_q rfl rfl ?xa rfl ?_ | refine' v_q rfl rfl ?xa rfl ?_ | refine' w_yes rfl rfl (lookO_spec rfl) rfl ?xa rfl ?_ | refine' v_yes rfl rfl (lookO_spec rfl) rfl ?xa rfl ?_); case xa => first | exact k_atD 61 rfl (k_call KQ2 rfl ⟨by rw [evO_spec rfl]; exact asArg_nil, asA_r (evO_spec rfl), trivial⟩) | exact k_atD 64 rfl (k_call KR2 rfl ⟨asA_agg (evO_spec rfl) ⟨cAr_nil, cAr_nil, trivial⟩, trivial⟩) | exact k_atD 71 rfl (k_call KR2 rfl ⟨asA_agg (evO_spec rfl) ⟨cAr_r, cAr_r, trivial⟩, trivial⟩) | exact k_call KSR rfl ⟨asA_r (evO_spec rfl), asA_r (evO_spec rfl), trivial⟩ | exact k_call KC rfl ⟨asA_agg (evO_spec rfl) ⟨cAr_nil, cAr_nil, trivial⟩, asA_r (evO_spec rfl), trivial⟩) | ((first | refine aw_ways rfl ?_ ?_ | refine r_split rfl rfl rfl ?_ ?_) <;> intro hg_ <;> fail_if_success (exact Bool.noConfusion hg_)) <;> (try simp only [prn] at hg_) <;> (try first | contradiction | (exfalso; omega)))
        all_goals first
          | exact ret_tmp rfl (dres_bool rfl)
          | (exfalso; simp at *; done)
          | trace_state
    | some k =>
      have hk := ho k rfl
      rw [hF1, hS1]
      by_cases hlt : k < bs.length
      · have hix := rowsI_at hlt
        have hT1 := hTk k hlt
        have hT2 := hTl (k + 1)
        have hbo0 := hbo bs[k] (List.getElem_mem hlt)
        rw [hT1, List.length_append] at hT2
        have KP := f_implPut false (joined (bs.take k)) bs[k] (fun h => by cases h) (joined_ok (hTl k)) hbo0 hT2
        have hw : IntKind.i64.wrap ((k : Int) + 1) = ((k + 1 : Nat) : Int) := by rw [IntWalk.i64_in _ (by omega)]; omega
        have hfin : ∀ s' : St, Weak s' (S1 (k + 1)) → ∃ x' : Option Nat, (∀ k, x' = some k → k ≤ bs.length) ∧ Weak s' (F x') ∧ (match x' with | none => bs.length + 1 | some k => bs.length - k) < bs.length - k := fun s' h => ⟨some (k + 1), fun k' hk => by injection hk with hk; omega, (by rw [hF1]; exact h), by dsimp only; omega⟩
        rw [hS1, hT1] at hfin
        generalize bs[k] = b at *
        generalize joined (bs.take k) = ys at *
        clear hF0 hF1 hS0 hS1 ho KS KI KD KQ1 hT1 hT2
        repeat' (first | (with_reducible first | refine aw_seq ?_ | refine thn_normal ?_ | refine thn_ret ?_ | refine thn_exit ?_ | refine blk_normal ?_ | refine blk_ret ?_ | refine blk_hit ?_ | refine blk_miss rfl ?_ | refine aw_block ?_ | refine aw_ret ?_ | refine aw_skip ?_ | refine aw_exit ?_ | refine w_nil ?_ | refine x_nil (by kernel_rfl) ?_) | refine aw_region ?_ | refine aw_region_draw (by kernel_rfl) ?_ | refine aw_yes rfl ?_ | refine aw_no rfl ?_ | ((with_reducible refine w_seq ?_); first | refine r_q tbOk rfl rfl rfl rfl ?_ | refine r_e tbOk rfl rfl rfl rfl rfl ?_ | refine r_yes tbOk rfl rfl rfl rfl rfl rfl ?_ | refine w_no rfl rfl (lookO_spec rfl) rfl rfl rfl ?_ | refine w_un rfl rfl (lookO_spec rfl) rfl rfl ?_) | ((with_reducible refine w_drw ?_); first | refine rx_q tbOk rfl rfl rfl rfl ?_ | refine rx_e tbOk rfl rfl rfl rfl rfl ?_ | refine rx_yes tbOk rfl rfl rfl rfl rfl rfl ?_ | refine x_no rfl rfl (lookO_spec rfl) rfl rfl rfl ?_ | refine x_un rfl rfl (lookO_spec rfl) rfl rfl ?_) | ((first | refine' w_q rfl rfl ?xa rfl ?_ | refine' v_q rfl rfl ?xa rfl ?_ | refine' w_yes rfl rfl (lookO_spec rfl) rfl ?xa rfl ?_ | refine' v_yes rfl rfl (lookO_spec rfl) rfl ?xa rfl ?_); case xa => first | exact k_index tbOk rfl rfl rfl rfl (by omega) (by exact hix) | exact k_call KP rfl ⟨asA_agg (evO_spec rfl) ⟨cAr_r, cAr_r, trivial⟩, asA_r (evO_spec rfl), trivial⟩) | ((first | refine aw_ways rfl ?_ ?_ | refine r_split rfl rfl rfl ?_ ?_) <;> intro hg_ <;> fail_if_success (exact Bool.noConfusion hg_)) <;> (try simp only [prn] at hg_) <;> (try first | contradiction | (exfalso; omega)))
        all_goals first
          | (exfalso; omega)
          | (refine hfin _ ?_
             (refine weak_ren [] rfl ?_ ?_ <;> repeat' (first | exact trivial | refine subR_cons rfl ?_ ?_ | refine subHR_cons rfl ?_ ?_ | rfl | (refine d_int ?_; (first | rfl | omega | (rw [IntWalk.i64_in _ (by omega)] <;> omega) | (simp; done) | (simp; omega))) | (refine d_bool ?_; (first | (simp_all; done) | (rw [Bool.eq_iff_iff]; simp_all; done) | (rw [Bool.eq_iff_iff]; simp_all; omega) | (rw [Bool.eq_iff_iff]; simp; omega))) | exact d_int hw)))
          | trace_state
      · obtain rfl : k = bs.length := by omega
        have hvo : diskOk [] out = true := by rw [hout]; exact joined_ok (by rw [← hout]; exact hJl)
        rw [List.take_length, ← hout]
        have KQ2 := f_sameInts2 false dn out (by omega)
        have KC := f_implCrash0 false out hvo
        have KR := f_implRecords true false [] out hvo
        rw [List.nil_append, hout] at KR
        have hsc := scanF_joined bs [] hbo
        rw [List.append_nil, scanF_empty, List.append_nil] at hsc
        rw [hsc] at KR
        rw [← hout] at KR
        have KSR := f_sameRecords (decide (bs = [])) false bs (by omega) (fun b hb => by have := hbb b hb; omega)
        dsimp only at KR
        generalize decide (bs = []) = db at *
        clear hF0 hF1 hS0 hS1 ho KS KI KD KQ1 hTk hTl hsc
        repeat' (first | (with_reducible first | refine aw_seq ?_ | refine thn_normal ?_ | refine thn_ret ?_ | refine thn_exit ?_ | refine blk_normal ?_ | refine blk_ret ?_ | refine blk_hit ?_ | refine blk_miss rfl ?_ | refine aw_block ?_ | refine aw_ret ?_ | refine aw_skip ?_ | refine aw_exit ?_ | refine w_nil ?_ | refine x_nil (by kernel_rfl) ?_) | refine aw_region ?_ | refine aw_region_draw (by kernel_rfl) ?_ | refine aw_yes rfl ?_ | refine aw_no rfl ?_ | ((with_reducible refine w_seq ?_); first | refine r_q tbOk rfl rfl rfl rfl ?_ | refine r_e tbOk rfl rfl rfl rfl rfl ?_ | refine r_yes tbOk rfl rfl rfl rfl rfl rfl ?_ | refine w_no rfl rfl (lookO_spec rfl) rfl rfl rfl ?_ | refine w_un rfl rfl (lookO_spec rfl) rfl rfl ?_) | ((with_reducible refine w_drw ?_); first | refine rx_q tbOk rfl rfl rfl rfl ?_ | refine rx_e tbOk rfl rfl rfl rfl rfl ?_ | refine rx_yes tbOk rfl rfl rfl rfl rfl rfl ?_ | refine x_no rfl rfl (lookO_spec rfl) rfl rfl rfl ?_ | refine x_un rfl rfl (lookO_spec rfl) rfl rfl ?_) | ((first | refine' w_q rfl rfl ?xa rfl ?_ | refine' v_q rfl rfl ?xa rfl ?_ | refine' w_yes rfl rfl (lookO_spec rfl) rfl ?xa rfl ?_ | refine' v_yes rfl rfl (lookO_spec rfl) rfl ?xa rfl ?_); case xa => first | exact k_atD 61 rfl (k_call KQ2 rfl ⟨asA_r (evO_spec rfl), asA_r (evO_spec rfl), trivial⟩) | exact k_atD 64 rfl (k_call KR rfl ⟨asA_agg (evO_spec rfl) ⟨cAr_r, cAr_r, trivial⟩, trivial⟩) | exact k_atD 71 rfl (k_call KR2 rfl ⟨asA_agg (evO_spec rfl) ⟨cAr_r, cAr_r, trivial⟩, trivial⟩) | exact k_call KSR rfl ⟨asA_r (evO_spec rfl), asA_r (evO_spec rfl), trivial⟩ | exact k_call KC rfl ⟨asA_agg (evO_spec rfl) ⟨cAr_r, cAr_r, trivial⟩, asA_r (evO_spec rfl), trivial⟩) | ((first | refine aw_ways rfl ?_ ?_ | refine r_split rfl rfl rfl ?_ ?_) <;> intro hg_ <;> fail_if_success (exact Bool.noConfusion hg_)) <;> (try simp only [prn] at hg_) <;> (try first | contradiction | (exfalso; omega)))
        all_goals first
          | exact ret_tmp rfl (dres_bool rfl)
          | (exfalso; omega)
          | trace_state
set_option maxRecDepth 100000 in
set_option maxHeartbeats 4000000 in
theorem law_wrA (nb : Bool) (code : List Int) (hB : Byte code) : Fn Try.prog 10 [.one (row nb 1 (bys code))] (.v (.one (bool true))) := by
  have hlb := bys_len code
  by_cases hl : code.length ≤ 1048576
  · exact f_lawWrA nb code hB hl
  · refine fn_of (l := [.tmp 2]) Try.func10 (by kernel_rfl) rfl Try.ntmps10 rfl rfl ?_; simp only [argEnv, P0.d, Nat.reduceAdd]
    repeat' (first | (with_reducible first | refine aw_seq ?_ | refine thn_normal ?_ | refine thn_ret ?_ | refine thn_exit ?_ | refine blk_normal ?_ | refine blk_ret ?_ | refine blk_hit ?_ | refine blk_miss rfl ?_ | refine aw_block ?_ | refine aw_ret ?_ | refine aw_skip ?_ | refine aw_exit ?_ | refine w_nil ?_ | refine x_nil (by kernel_rfl) ?_) | refine aw_region ?_ | refine aw_region_draw (by kernel_rfl) ?_ | refine aw_yes rfl ?_ | refine aw_no rfl ?_ | ((with_reducible refine w_seq ?_); first | refine r_q tbOk rfl rfl rfl rfl ?_ | refine r_e tbOk rfl rfl rfl rfl rfl ?_ | refine r_yes tbOk rfl rfl rfl rfl rfl rfl ?_ | refine w_no rfl rfl (lookO_spec rfl) rfl rfl rfl ?_ | refine w_un rfl rfl (lookO_spec rfl) rfl rfl ?_) | ((with_reducible refine w_drw ?_); first | refine rx_q tbOk rfl rfl rfl rfl ?_ | refine rx_e tbOk rfl rfl rfl rfl rfl ?_ | refine rx_yes tbOk rfl rfl rfl rfl rfl rfl ?_ | refine x_no rfl rfl (lookO_spec rfl) rfl rfl rfl ?_ | refine x_un rfl rfl (lookO_spec rfl) rfl rfl ?_) | ((first | refine aw_ways rfl ?_ ?_ | refine r_split rfl rfl rfl ?_ ?_) <;> intro hg_ <;> fail_if_success (exact Bool.noConfusion hg_)) <;> (try simp only [prn] at hg_) <;> (try first | contradiction | (exfalso; omega)))
    all_goals first
      | exact ret_tmp rfl (dres_bool rfl)
      | (exfalso; omega)
      | trace_state
end Go.Proofs.Ytihpchbkodihpaa.Abs
