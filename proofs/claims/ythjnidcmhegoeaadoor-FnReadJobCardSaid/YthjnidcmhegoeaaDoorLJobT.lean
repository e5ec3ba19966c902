/- FnExactJobText, FnJobText, FnReadJob by states: the laws' walks. No statement of the seat is proved here. -/
import Derived.Test.YthjnidcmhegoeaaDoorTy
import Derived.Lib.Hide
import Derived.Test.YthjnidcmhegoeaaDoorAJobL
set_option linter.unusedSimpArgs false
set_option linter.unusedVariables false
namespace Go.Proofs.YthjnidcmhegoeaaDoor.Abs
open Go.RowKit
open R (val row ref)

open Go.Lib (decDigits decDigits_one hasPrefix)
theorem job_p {c : Cx} {cs : Array Value} {k s r n : Int} (h : cs.toList = [.int .i64 k, .int .i64 s, .int .i64 r, .int .i64 n]) : (jobP k s r n).p c (.agg cs) := by
  refine ⟨cs.toList, by simp, by rw [h]; rfl, fun j x hj => ?_⟩
  rw [h]
  match j, hj with
  | 0, hj => obtain rfl : int k = x := Option.some.inj hj; exact ⟨_, rfl, val_p.2 ⟨rfl, rfl⟩⟩
  | 1, hj => obtain rfl : int s = x := Option.some.inj hj; exact ⟨_, rfl, val_p.2 ⟨rfl, rfl⟩⟩
  | 2, hj => obtain rfl : int r = x := Option.some.inj hj; exact ⟨_, rfl, val_p.2 ⟨rfl, rfl⟩⟩
  | 3, hj => obtain rfl : int n = x := Option.some.inj hj; exact ⟨_, rfl, val_p.2 ⟨rfl, rfl⟩⟩
  | n + 4, hj => cases hj
set_option maxRecDepth 100000 in
set_option maxHeartbeats 2000000 in
theorem f_toProgram (k s r : Int) : Fn Tryd.prog 42 [prgP k s r] (.v (prgP k s r)) := by
  refine fn_of (l := [.cell 2 27]) Tryd.func42 (by kernel_rfl) rfl Tryd.ntmps42 rfl rfl ?_; simp only [argEnv, P0.d, Nat.reduceAdd, prgP]
  repeat' (first | (with_reducible first | refine aw_seq ?_ | refine thn_normal ?_ | refine thn_ret ?_ | refine thn_exit ?_ | refine blk_normal ?_ | refine blk_ret ?_ | refine blk_hit ?_ | refine blk_miss rfl ?_ | refine aw_block ?_ | refine aw_ret ?_ | refine aw_skip ?_ | refine aw_exit ?_ | refine w_nil ?_ | refine x_nil (by kernel_rfl) ?_) | refine aw_region ?_ | refine aw_region_draw (by kernel_rfl) ?_ | refine aw_yes rfl ?_ | refine aw_no rfl ?_ | ((with_reducible refine w_seq ?_); first | refine r_q tbOk rfl rfl rfl rfl ?_ | refine r_e tbOk rfl rfl rfl rfl rfl ?_ | refine r_yes tbOk rfl rfl rfl rfl rfl rfl ?_ | refine w_no rfl rfl (lookO_spec rfl) rfl rfl rfl ?_ | refine w_un rfl rfl (lookO_spec rfl) rfl rfl ?_) | ((with_reducible refine w_drw ?_); first | refine rx_q tbOk rfl rfl rfl rfl ?_ | refine rx_e tbOk rfl rfl rfl rfl rfl ?_ | refine rx_yes tbOk rfl rfl rfl rfl rfl rfl ?_ | refine x_no rfl rfl (lookO_spec rfl) rfl rfl rfl ?_ | refine x_un rfl rfl (lookO_spec rfl) rfl rfl ?_) | ((first | refine aw_ways rfl ?_ ?_ | refine r_split rfl rfl rfl ?_ ?_) <;> intro hg_ <;> fail_if_success (exact Bool.noConfusion hg_)) <;> (try simp only [prn] at hg_) <;> (try first | contradiction | (exfalso; omega)))
  all_goals first
    | exact ret_v (rv_cell rfl rfl (by (with_reducible first | exact ty2 | exact ty3 | exact ty4 | exact ty5 | exact ty9 | exact ty17 | exact ty19 | exact ty20 | exact ty23 | exact ty25 | exact ty27 | exact ty29 | exact ty32 | exact ty40 | exact ty42 | exact ty44 | exact ty46 | exact ty48 | exact ty63 | exact ty65 | exact ty67 | exact ty70 | exact ty74 | exact ty85 | exact ty89 | exact ty91 | exact ty92 | exact ty93 | exact ty104 | exact ty106 | exact ty107 | exact ty108 | exact ty112 | exact ty115 | exact ty120 | exact ty122 | exact ty124 | exact ty126 | exact ty131 | exact ty134 | exact ty137 | exact ty144 | exact ty154 | exact ty155 | exact ty161 | exact ty164 | exact ty165 | exact ty168)) rfl rfl rfl (dres_agg (by exact ⟨cres_val, cres_val, cres_val, trivial⟩)))
    | trace_state
set_option maxRecDepth 100000 in
set_option maxHeartbeats 2000000 in
theorem f_toJob (k s r n : Int) : Fn Tryd.prog 12 [jobP k s r n] (.v (jobP k s r n)) := by
  have K := f_toProgram k s r
  refine fn_of (l := [.cell 2 29]) Tryd.func12 (by kernel_rfl) rfl Tryd.ntmps12 rfl rfl ?_; simp only [argEnv, P0.d, Nat.reduceAdd, jobP]
  repeat' (first | (with_reducible first | refine aw_seq ?_ | refine thn_normal ?_ | refine thn_ret ?_ | refine thn_exit ?_ | refine blk_normal ?_ | refine blk_ret ?_ | refine blk_hit ?_ | refine blk_miss rfl ?_ | refine aw_block ?_ | refine aw_ret ?_ | refine aw_skip ?_ | refine aw_exit ?_ | refine w_nil ?_ | refine x_nil (by kernel_rfl) ?_) | refine aw_region ?_ | refine aw_region_draw (by kernel_rfl) ?_ | refine aw_yes rfl ?_ | refine aw_no rfl ?_ | ((with_reducible refine w_seq ?_); first | refine r_q tbOk rfl rfl rfl rfl ?_ | refine r_e tbOk rfl rfl rfl rfl rfl ?_ | refine r_yes tbOk rfl rfl rfl rfl rfl rfl ?_ | refine w_no rfl rfl (lookO_spec rfl) rfl rfl rfl ?_ | refine w_un rfl rfl (lookO_spec rfl) rfl rfl ?_) | ((with_reducible refine w_drw ?_); first | refine rx_q tbOk rfl rfl rfl rfl ?_ | refine rx_e tbOk rfl rfl rfl rfl rfl ?_ | refine rx_yes tbOk rfl rfl rfl rfl rfl rfl ?_ | refine x_no rfl rfl (lookO_spec rfl) rfl rfl rfl ?_ | refine x_un rfl rfl (lookO_spec rfl) rfl rfl ?_) | ((first | refine' w_q rfl rfl ?xa rfl ?_ | refine' v_q rfl rfl ?xa rfl ?_ | refine' w_yes rfl rfl (lookO_spec rfl) rfl ?xa rfl ?_ | refine' v_yes rfl rfl (lookO_spec rfl) rfl ?xa rfl ?_); case xa => exact k_call K rfl ⟨asA_agg (evO_spec rfl) ⟨cAr_r, cAr_r, cAr_r, trivial⟩, trivial⟩) | ((first | refine aw_ways rfl ?_ ?_ | refine r_split rfl rfl rfl ?_ ?_) <;> intro hg_ <;> fail_if_success (exact Bool.noConfusion hg_)) <;> (try simp only [prn] at hg_) <;> (try first | contradiction | (exfalso; omega)))
  all_goals first
    | exact ret_v (rv_cell rfl rfl (by (with_reducible first | exact ty2 | exact ty3 | exact ty4 | exact ty5 | exact ty9 | exact ty17 | exact ty19 | exact ty20 | exact ty23 | exact ty25 | exact ty27 | exact ty29 | exact ty32 | exact ty40 | exact ty42 | exact ty44 | exact ty46 | exact ty48 | exact ty63 | exact ty65 | exact ty67 | exact ty70 | exact ty74 | exact ty85 | exact ty89 | exact ty91 | exact ty92 | exact ty93 | exact ty104 | exact ty106 | exact ty107 | exact ty108 | exact ty112 | exact ty115 | exact ty120 | exact ty122 | exact ty124 | exact ty126 | exact ty131 | exact ty134 | exact ty137 | exact ty144 | exact ty154 | exact ty155 | exact ty161 | exact ty164 | exact ty165 | exact ty168)) rfl rfl rfl (dres_agg (by exact ⟨cres_val, cres_val, cres_val, cres_val, trivial⟩)))
    | trace_state
set_option maxRecDepth 100000 in
set_option maxHeartbeats 2000000 in
theorem f_lawExactJobText (k s r n : Int) : Fn Tryd.prog 3 [jobP k s r n] (.v (.one (bool true))) := by
  have K0 := f_toJob k s r n
  have K1 := f_specText k s r n
  have K2 := f_implText k s r n
  generalize txJ k s r n = T at *
  have hb : (!(T == T)) = false := by simp
  refine fn_of (l := [.tmp 2]) Tryd.func3 (by kernel_rfl) rfl Tryd.ntmps3 rfl rfl ?_; simp only [argEnv, P0.d, Nat.reduceAdd, jobP]
  repeat' (first | (with_reducible first | refine aw_seq ?_ | refine thn_normal ?_ | refine thn_ret ?_ | refine thn_exit ?_ | refine blk_normal ?_ | refine blk_ret ?_ | refine blk_hit ?_ | refine blk_miss rfl ?_ | refine aw_block ?_ | refine aw_ret ?_ | refine aw_skip ?_ | refine aw_exit ?_ | refine w_nil ?_ | refine x_nil (by kernel_rfl) ?_) | refine aw_region ?_ | refine aw_region_draw (by kernel_rfl) ?_ | refine aw_yes rfl ?_ | refine aw_no rfl ?_ | ((with_reducible refine w_seq ?_); first | refine r_q tbOk rfl rfl rfl rfl ?_ | refine r_e tbOk rfl rfl rfl rfl rfl ?_ | refine r_yes tbOk rfl rfl rfl rfl rfl rfl ?_ | refine w_no rfl rfl (lookO_spec rfl) rfl rfl rfl ?_ | refine w_un rfl rfl (lookO_spec rfl) rfl rfl ?_) | ((with_reducible refine w_drw ?_); first | refine rx_q tbOk rfl rfl rfl rfl ?_ | refine rx_e tbOk rfl rfl rfl rfl rfl ?_ | refine rx_yes tbOk rfl rfl rfl rfl rfl rfl ?_ | refine x_no rfl rfl (lookO_spec rfl) rfl rfl rfl ?_ | refine x_un rfl rfl (lookO_spec rfl) rfl rfl ?_) | ((first | refine' w_q rfl rfl ?xa rfl ?_ | refine' v_q rfl rfl ?xa rfl ?_ | refine' w_yes rfl rfl (lookO_spec rfl) rfl ?xa rfl ?_ | refine' v_yes rfl rfl (lookO_spec rfl) rfl ?xa rfl ?_); case xa => first | exact k_call K0 rfl ⟨asA_agg (evO_spec rfl) ⟨cAr_r, cAr_r, cAr_r, cAr_r, trivial⟩, trivial⟩ | exact k_call K1 rfl ⟨asA_agg (evO_spec rfl) ⟨cAr_r, cAr_r, cAr_r, cAr_r, trivial⟩, trivial⟩ | exact k_call K2 rfl ⟨asA_agg (evO_spec rfl) ⟨cAr_r, cAr_r, cAr_r, cAr_r, trivial⟩, trivial⟩ | exact k_strNeB hb rfl rfl rfl) | ((first | refine aw_ways rfl ?_ ?_ | refine r_split rfl rfl rfl ?_ ?_) <;> intro hg_ <;> fail_if_success (exact Bool.noConfusion hg_)) <;> (try simp only [prn] at hg_) <;> (try first | contradiction | (exfalso; omega)))
  all_goals first
    | exact ret_tmp rfl (dres_bool rfl)
    | (exfalso; omega)
    | trace_state
theorem readJ_tx {k s r n : Int} (h : jobOk k s r n = true) : readJ (txJ k s r n) = ((k, s, r, n), true) := by unfold txJ; rw [if_pos h]; exact readJ_of h
set_option maxRecDepth 100000 in
set_option maxHeartbeats 4000000 in
theorem f_lawJobText0 (nb : Bool) (code : List Int) (hB : Byte code) (hl : code.length ≤ 1048576) : Fn Tryd.prog 4 [.one (row nb 1 (bys code))] (.v (.one (bool true))) := by
  obtain ⟨k, s, r, n, K0⟩ := f_drawJobText nb code hB hl
  have hlb := bys_len code
  have K1 := f_specText k s r n
  have K2 := f_implText k s r n
  have K3 := f_specJobValid k s r n
  have K4 := f_aliveJ
  have hT := txJ_len k s r n
  have K5 := f_implReadJob (txJ k s r n) (by omega)
  have hY := @readJ_tx k s r n
  have hN : jobOk k s r n = false → txJ k s r n = [] := fun h => by unfold txJ; rw [if_neg (by rw [h]; simp)]
  generalize jobOk k s r n = ok at *
  cases ok with
  | true =>
    rw [hY rfl] at K5
    clear hY hN
    generalize txJ k s r n = T at *
    have hb : (!(T == T)) = false := by simp
    refine fn_of (l := [.tmp 2]) Tryd.func4 (by kernel_rfl) rfl Tryd.ntmps4 rfl rfl ?_; simp only [argEnv, P0.d, Nat.reduceAdd]
    repeat' (first | (with_reducible first | refine aw_seq ?_ | refine thn_normal ?_ | refine thn_ret ?_ | refine thn_exit ?_ | refine blk_normal ?_ | refine blk_ret ?_ | refine blk_hit ?_ | refine blk_miss rfl ?_ | refine aw_block ?_ | refine aw_ret ?_ | refine aw_skip ?_ | refine aw_exit ?_ | refine w_nil ?_ | refine x_nil (by kernel_rfl) ?_) | refine aw_region ?_ | refine aw_region_draw (by kernel_rfl) ?_ | refine aw_yes rfl ?_ | refine aw_no rfl ?_ | ((with_reducible refine w_seq ?_); first | refine r_q tbOk rfl rfl rfl rfl ?_ | refine r_e tbOk rfl rfl rfl rfl rfl ?_ | refine r_yes tbOk rfl rfl rfl rfl rfl rfl ?_ | refine w_no rfl rfl (lookO_spec rfl) rfl rfl rfl ?_ | refine w_un rfl rfl (lookO_spec rfl) rfl rfl ?_) | ((with_reducible refine w_drw ?_); first | refine rx_q tbOk rfl rfl rfl rfl ?_ | refine rx_e tbOk rfl rfl rfl rfl rfl ?_ | refine rx_yes tbOk rfl rfl rfl rfl rfl rfl ?_ | refine x_no rfl rfl (lookO_spec rfl) rfl rfl rfl ?_ | refine x_un rfl rfl (lookO_spec rfl) rfl rfl ?_) | ((first | refine' w_q rfl rfl ?xa rfl ?_ | refine' v_q rfl rfl ?xa rfl ?_ | refine' w_yes rfl rfl (lookO_spec rfl) rfl ?xa rfl ?_ | refine' v_yes rfl rfl (lookO_spec rfl) rfl ?xa rfl ?_); case xa => first | exact k_call K0 rfl ⟨asA_r (evO_spec rfl), trivial⟩ | exact k_call K1 rfl ⟨asA_agg (evO_spec rfl) ⟨cAr_r, cAr_r, cAr_r, cAr_r, trivial⟩, trivial⟩ | exact k_call K2 rfl ⟨asA_agg (evO_spec rfl) ⟨cAr_r, cAr_r, cAr_r, cAr_r, trivial⟩, trivial⟩ | exact k_strNeB hb rfl rfl rfl | exact k_call K3 rfl ⟨asA_agg (evO_spec rfl) ⟨cAr_r, cAr_r, cAr_r, cAr_r, trivial⟩, trivial⟩ | exact k_call K5 rfl ⟨asA_r (evO_spec rfl), trivial⟩ | exact k_jobEq rfl rfl rfl) | ((first | refine aw_ways rfl ?_ ?_ | refine r_split rfl rfl rfl ?_ ?_) <;> intro hg_ <;> fail_if_success (exact Bool.noConfusion hg_)) <;> (try simp only [prn] at hg_) <;> (try first | contradiction | (exfalso; omega)))
    all_goals first
      | exact ret_tmp rfl (dres_bool rfl)
      | (exfalso; omega)
      | trace_state
  | false =>
    rw [hN rfl] at K1 K2
    clear hY hN K5 hT
    have hb : (!(([] : List UInt8) == [])) = false := rfl
    have hb2 : (([] : List UInt8) == []) = true := rfl
    refine fn_of (l := [.tmp 2]) Tryd.func4 (by kernel_rfl) rfl Tryd.ntmps4 rfl rfl ?_; simp only [argEnv, P0.d, Nat.reduceAdd]
    repeat' (first | (with_reducible first | refine aw_seq ?_ | refine thn_normal ?_ | refine thn_ret ?_ | refine thn_exit ?_ | refine blk_normal ?_ | refine blk_ret ?_ | refine blk_hit ?_ | refine blk_miss rfl ?_ | refine aw_block ?_ | refine aw_ret ?_ | refine aw_skip ?_ | refine aw_exit ?_ | refine w_nil ?_ | refine x_nil (by kernel_rfl) ?_) | refine aw_region ?_ | refine aw_region_draw (by kernel_rfl) ?_ | refine aw_yes rfl ?_ | refine aw_no rfl ?_ | ((with_reducible refine w_seq ?_); first | refine r_q tbOk rfl rfl rfl rfl ?_ | refine r_e tbOk rfl rfl rfl rfl rfl ?_ | refine r_yes tbOk rfl rfl rfl rfl rfl rfl ?_ | refine w_no rfl rfl (lookO_spec rfl) rfl rfl rfl ?_ | refine w_un rfl rfl (lookO_spec rfl) rfl rfl ?_) | ((with_reducible refine w_drw ?_); first | refine rx_q tbOk rfl rfl rfl rfl ?_ | refine rx_e tbOk rfl rfl rfl rfl rfl ?_ | refine rx_yes tbOk rfl rfl rfl rfl rfl rfl ?_ | refine x_no rfl rfl (lookO_spec rfl) rfl rfl rfl ?_ | refine x_un rfl rfl (lookO_spec rfl) rfl rfl ?_) | ((first | refine' w_q rfl rfl ?xa rfl ?_ | refine' v_q rfl rfl ?xa rfl ?_ | refine' w_yes rfl rfl (lookO_spec rfl) rfl ?xa rfl ?_ | refine' v_yes rfl rfl (lookO_spec rfl) rfl ?xa rfl ?_); case xa => first | exact k_call K0 rfl ⟨asA_r (evO_spec rfl), trivial⟩ | exact k_call K1 rfl ⟨asA_agg (evO_spec rfl) ⟨cAr_r, cAr_r, cAr_r, cAr_r, trivial⟩, trivial⟩ | exact k_call K2 rfl ⟨asA_agg (evO_spec rfl) ⟨cAr_r, cAr_r, cAr_r, cAr_r, trivial⟩, trivial⟩ | exact k_strNeB hb rfl rfl rfl | exact k_call K3 rfl ⟨asA_agg (evO_spec rfl) ⟨cAr_r, cAr_r, cAr_r, cAr_r, trivial⟩, trivial⟩ | exact k_strEqB hb2 rfl rfl rfl | exact k_call K4 rfl trivial) | ((first | refine aw_ways rfl ?_ ?_ | refine r_split rfl rfl rfl ?_ ?_) <;> intro hg_ <;> fail_if_success (exact Bool.noConfusion hg_)) <;> (try simp only [prn] at hg_) <;> (try first | contradiction | (exfalso; omega)))
    all_goals first
      | exact ret_tmp rfl (dres_bool rfl)
      | (exfalso; omega)
      | trace_state
theorem jobB_last {k s r n k' s' r' n' : Int} (h : jobB k' s' r' n' = jobB k s r n ++ [32]) : False := by
  have h1 : ∃ u b, isDg b = true ∧ jobB k' s' r' n' = u ++ [b] := by
    obtain ⟨u, b, hu⟩ : ∃ u b, decDigits n'.toNat = u ++ [b] := by
      have := dig_ne n'.toNat
      exact ⟨(decDigits n'.toNat).dropLast, (decDigits n'.toNat).getLast this, (List.dropLast_concat_getLast this).symm⟩
    refine ⟨kindB k' ++ (midB k' s' r' ++ (withB ++ u)), b, dig_isDg n'.toNat b (by rw [hu]; simp), ?_⟩
    unfold jobB
    rw [hu]
    simp
  obtain ⟨u, b, hb, he⟩ := h1
  rw [he] at h
  have h2 := congrArg List.getLast? h
  rw [List.getLast?_append, List.getLast?_append] at h2
  simp at h2
  rw [h2, isDg32] at hb
  cases hb
set_option maxRecDepth 100000 in
set_option maxHeartbeats 4000000 in
theorem f_lawReadJob0 (nb : Bool) (code : List Int) (hB : Byte code) (hl : code.length ≤ 1048576) : Fn Tryd.prog 5 [.one (row nb 1 (bys code))] (.v (.one (bool true))) := by
  obtain ⟨X, hX, K0⟩ := f_drawReadJob nb code hB hl
  have hlb := bys_len code
  have K1 := f_specReadAny X
  have K2 := f_implReadJob X (by omega)
  have K3 := f_implReadJob (X ++ [32]) (by rw [List.length_append]; simp; omega)
  have K4 := f_aliveJ
  by_cases h : ∃ j : Int × Int × Int × Int, jobOk j.1 j.2.1 j.2.2.1 j.2.2.2 = true ∧ jobB j.1 j.2.1 j.2.2.1 j.2.2.2 = X
  · obtain ⟨⟨k, s, r, n⟩, h1, h2⟩ := h
    dsimp only at h1 h2
    have hn : readJ (X ++ [32]) = ((0, 0, 0, 0), false) := readJ_no (fun ⟨⟨k', s', r', n'⟩, _, e2⟩ => jobB_last (h2.symm ▸ e2))
    have hy : readJ X = ((k, s, r, n), true) := by rw [← h2]; exact readJ_of h1
    have K5 := f_implText k s r n
    rw [show txJ k s r n = X by unfold txJ; rw [if_pos h1, h2]] at K5
    have K6 := f_jobValid k s r n
    rw [h1] at K6
    rw [hn] at K3
    rw [hy] at K1 K2
    have hb : (X == X) = true := by simp
    clear hn hy h1 h2
    dsimp only [jobQ, jobP] at K1 K2 K3
    generalize hZ : X ++ [32] = Z at *
    refine fn_of (l := [.tmp 2]) Tryd.func5 (by kernel_rfl) rfl Tryd.ntmps5 rfl rfl ?_; simp only [argEnv, P0.d, Nat.reduceAdd, jobP]
    repeat' (first | (with_reducible first | refine aw_seq ?_ | refine thn_normal ?_ | refine thn_ret ?_ | refine thn_exit ?_ | refine blk_normal ?_ | refine blk_ret ?_ | refine blk_hit ?_ | refine blk_miss rfl ?_ | refine aw_block ?_ | refine aw_ret ?_ | refine aw_skip ?_ | refine aw_exit ?_ | refine w_nil ?_ | refine x_nil (by kernel_rfl) ?_) | refine aw_region ?_ | refine aw_region_draw (by kernel_rfl) ?_ | refine aw_yes rfl ?_ | refine aw_no rfl ?_ | ((with_reducible refine w_seq ?_); first | refine r_q tbOk rfl rfl rfl rfl ?_ | refine r_e tbOk rfl rfl rfl rfl rfl ?_ | refine r_yes tbOk rfl rfl rfl rfl rfl rfl ?_ | refine w_no rfl rfl (lookO_spec rfl) rfl rfl rfl ?_ | refine w_un rfl rfl (lookO_spec rfl) rfl rfl ?_) | ((with_reducible refine w_drw ?_); first | refine rx_q tbOk rfl rfl rfl rfl ?_ | refine rx_e tbOk rfl rfl rfl rfl rfl ?_ | refine rx_yes tbOk rfl rfl rfl rfl rfl rfl ?_ | refine x_no rfl rfl (lookO_spec rfl) rfl rfl rfl ?_ | refine x_un rfl rfl (lookO_spec rfl) rfl rfl ?_) | ((first | refine' w_q rfl rfl ?xa rfl ?_ | refine' v_q rfl rfl ?xa rfl ?_ | refine' w_yes rfl rfl (lookO_spec rfl) rfl ?xa rfl ?_ | refine' v_yes rfl rfl (lookO_spec rfl) rfl ?xa rfl ?_); case xa => first | exact k_call K0 rfl ⟨asA_r (evO_spec rfl), trivial⟩ | exact k_call K1 rfl ⟨asA_r (evO_spec rfl), trivial⟩ | exact k_call K2 rfl ⟨asA_r (evO_spec rfl), trivial⟩ | exact k_jobNe rfl rfl rfl | exact k_neB bo4 rfl rfl rfl | exact k_strAddE hZ rfl rfl rfl (by omega) (by decide) | exact k_call K3 rfl ⟨asA_r (evO_spec rfl), trivial⟩ | exact k_call K5 rfl ⟨asA_agg (evO_spec rfl) ⟨cAr_r, cAr_r, cAr_r, cAr_r, trivial⟩, trivial⟩ | exact k_strEqB hb rfl rfl rfl | exact k_call K6 rfl ⟨asA_agg (evO_spec rfl) ⟨cAr_r, cAr_r, cAr_r, cAr_r, trivial⟩, trivial⟩) | ((first | refine aw_ways rfl ?_ ?_ | refine r_split rfl rfl rfl ?_ ?_) <;> intro hg_ <;> fail_if_success (exact Bool.noConfusion hg_)) <;> (try simp only [prn] at hg_) <;> (try first | contradiction | (exfalso; omega)))
    all_goals first
      | exact ret_tmp rfl (dres_bool rfl)
      | (exfalso; omega)
      | (exfalso; simp at *; done)
      | trace_state
  · have hy := readJ_no h
    rw [hy] at K1 K2
    clear K3 h hy
    dsimp only [jobQ, jobP] at K1 K2
    refine fn_of (l := [.tmp 2]) Tryd.func5 (by kernel_rfl) rfl Tryd.ntmps5 rfl rfl ?_; simp only [argEnv, P0.d, Nat.reduceAdd, jobP]
    repeat' (first | (with_reducible first | refine aw_seq ?_ | refine thn_normal ?_ | refine thn_ret ?_ | refine thn_exit ?_ | refine blk_normal ?_ | refine blk_ret ?_ | refine blk_hit ?_ | refine blk_miss rfl ?_ | refine aw_block ?_ | refine aw_ret ?_ | refine aw_skip ?_ | refine aw_exit ?_ | refine w_nil ?_ | refine x_nil (by kernel_rfl) ?_) | refine aw_region ?_ | refine aw_region_draw (by kernel_rfl) ?_ | refine aw_yes rfl ?_ | refine aw_no rfl ?_ | ((with_reducible refine w_seq ?_); first | refine r_q tbOk rfl rfl rfl rfl ?_ | refine r_e tbOk rfl rfl rfl rfl rfl ?_ | refine r_yes tbOk rfl rfl rfl rfl rfl rfl ?_ | refine w_no rfl rfl (lookO_spec rfl) rfl rfl rfl ?_ | refine w_un rfl rfl (lookO_spec rfl) rfl rfl ?_) | ((with_reducible refine w_drw ?_); first | refine rx_q tbOk rfl rfl rfl rfl ?_ | refine rx_e tbOk rfl rfl rfl rfl rfl ?_ | refine rx_yes tbOk rfl rfl rfl rfl rfl rfl ?_ | refine x_no rfl rfl (lookO_spec rfl) rfl rfl rfl ?_ | refine x_un rfl rfl (lookO_spec rfl) rfl rfl ?_) | ((first | refine' w_q rfl rfl ?xa rfl ?_ | refine' v_q rfl rfl ?xa rfl ?_ | refine' w_yes rfl rfl (lookO_spec rfl) rfl ?xa rfl ?_ | refine' v_yes rfl rfl (lookO_spec rfl) rfl ?xa rfl ?_); case xa => first | exact k_call K0 rfl ⟨asA_r (evO_spec rfl), trivial⟩ | exact k_call K1 rfl ⟨asA_r (evO_spec rfl), trivial⟩ | exact k_call K2 rfl ⟨asA_r (evO_spec rfl), trivial⟩ | exact k_jobNe rfl rfl rfl | exact k_neB bo4 rfl rfl rfl | exact k_jobEq rfl rfl rfl | exact k_call K4 rfl trivial) | ((first | refine aw_ways rfl ?_ ?_ | refine r_split rfl rfl rfl ?_ ?_) <;> intro hg_ <;> fail_if_success (exact Bool.noConfusion hg_)) <;> (try simp only [prn] at hg_) <;> (try first | contradiction | (exfalso; omega)))
    all_goals first
      | exact ret_tmp rfl (dres_bool rfl)
      | (exfalso; omega)
      | (exfalso; simp at *; done)
      | trace_state
set_option maxRecDepth 100000 in
set_option maxHeartbeats 4000000 in
theorem f_lawJobText (nb : Bool) (code : List Int) (hB : Byte code) : Fn Tryd.prog 4 [.one (row nb 1 (bys code))] (.v (.one (bool true))) := by
  have hlb := bys_len code
  by_cases hl : code.length ≤ 1048576
  · exact f_lawJobText0 nb code hB hl
  · refine fn_of (l := [.tmp 2]) Tryd.func4 (by kernel_rfl) rfl Tryd.ntmps4 rfl rfl ?_; simp only [argEnv, P0.d, Nat.reduceAdd]
    repeat' (first | (with_reducible first | refine aw_seq ?_ | refine thn_normal ?_ | refine thn_ret ?_ | refine thn_exit ?_ | refine blk_normal ?_ | refine blk_ret ?_ | refine blk_hit ?_ | refine blk_miss rfl ?_ | refine aw_block ?_ | refine aw_ret ?_ | refine aw_skip ?_ | refine aw_exit ?_ | refine w_nil ?_ | refine x_nil (by kernel_rfl) ?_) | refine aw_region ?_ | refine aw_region_draw (by kernel_rfl) ?_ | refine aw_yes rfl ?_ | refine aw_no rfl ?_ | ((with_reducible refine w_seq ?_); first | refine r_q tbOk rfl rfl rfl rfl ?_ | refine r_e tbOk rfl rfl rfl rfl rfl ?_ | refine r_yes tbOk rfl rfl rfl rfl rfl rfl ?_ | refine w_no rfl rfl (lookO_spec rfl) rfl rfl rfl ?_ | refine w_un rfl rfl (lookO_spec rfl) rfl rfl ?_) | ((with_reducible refine w_drw ?_); first | refine rx_q tbOk rfl rfl rfl rfl ?_ | refine rx_e tbOk rfl rfl rfl rfl rfl ?_ | refine rx_yes tbOk rfl rfl rfl rfl rfl rfl ?_ | refine x_no rfl rfl (lookO_spec rfl) rfl rfl rfl ?_ | refine x_un rfl rfl (lookO_spec rfl) rfl rfl ?_) | ((first | refine aw_ways rfl ?_ ?_ | refine r_split rfl rfl rfl ?_ ?_) <;> intro hg_ <;> fail_if_success (exact Bool.noConfusion hg_)) <;> (try simp only [prn] at hg_) <;> (try first | contradiction | (exfalso; omega)))
    all_goals first
      | exact ret_tmp rfl (dres_bool rfl)
      | (exfalso; omega)
      | trace_state
set_option maxRecDepth 100000 in
set_option maxHeartbeats 4000000 in
theorem f_lawReadJob (nb : Bool) (code : List Int) (hB : Byte code) : Fn Tryd.prog 5 [.one (row nb 1 (bys code))] (.v (.one (bool true))) := by
  have hlb := bys_len code
  by_cases hl : code.length ≤ 1048576
  · exact f_lawReadJob0 nb code hB hl
  · refine fn_of (l := [.tmp 2]) Tryd.func5 (by kernel_rfl) rfl Tryd.ntmps5 rfl rfl ?_; simp only [argEnv, P0.d, Nat.reduceAdd]
    repeat' (first | (with_reducible first | refine aw_seq ?_ | refine thn_normal ?_ | refine thn_ret ?_ | refine thn_exit ?_ | refine blk_normal ?_ | refine blk_ret ?_ | refine blk_hit ?_ | refine blk_miss rfl ?_ | refine aw_block ?_ | refine aw_ret ?_ | refine aw_skip ?_ | refine aw_exit ?_ | refine w_nil ?_ | refine x_nil (by kernel_rfl) ?_) | refine aw_region ?_ | refine aw_region_draw (by kernel_rfl) ?_ | refine aw_yes rfl ?_ | refine aw_no rfl ?_ | ((with_reducible refine w_seq ?_); first | refine r_q tbOk rfl rfl rfl rfl ?_ | refine r_e tbOk rfl rfl rfl rfl rfl ?_ | refine r_yes tbOk rfl rfl rfl rfl rfl rfl ?_ | refine w_no rfl rfl (lookO_spec rfl) rfl rfl rfl ?_ | refine w_un rfl rfl (lookO_spec rfl) rfl rfl ?_) | ((with_reducible refine w_drw ?_); first | refine rx_q tbOk rfl rfl rfl rfl ?_ | refine rx_e tbOk rfl rfl rfl rfl rfl ?_ | refine rx_yes tbOk rfl rfl rfl rfl rfl rfl ?_ | refine x_no rfl rfl (lookO_spec rfl) rfl rfl rfl ?_ | refine x_un rfl rfl (lookO_spec rfl) rfl rfl ?_) | ((first | refine aw_ways rfl ?_ ?_ | refine r_split rfl rfl rfl ?_ ?_) <;> intro hg_ <;> fail_if_success (exact Bool.noConfusion hg_)) <;> (try simp only [prn] at hg_) <;> (try first | contradiction | (exfalso; omega)))
    all_goals first
      | exact ret_tmp rfl (dres_bool rfl)
      | (exfalso; omega)
      | trace_state
end Go.Proofs.YthjnidcmhegoeaaDoor.Abs
