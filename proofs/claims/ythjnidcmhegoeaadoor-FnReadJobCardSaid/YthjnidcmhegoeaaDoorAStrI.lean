/- Texts of jobs by states: the reference's JobText. No statement of the seat is proved here. -/
import Derived.Test.YthjnidcmhegoeaaDoorTy
import Derived.Lib.Hide
import Derived.Test.YthjnidcmhegoeaaDoorAStrG
set_option linter.unusedSimpArgs false
set_option linter.unusedVariables false
namespace Go.Proofs.YthjnidcmhegoeaaDoor.Abs
open Go.RowKit
open R (val row ref)

open Go.Lib (decDigits decDigits_one hasPrefix)
def namesB : List P0 := [strP [104, 111, 112, 115], strP [99, 111, 115, 116, 115], strP [112, 97, 114, 116, 115], strP [108, 97, 98, 101, 108, 115], strP [116, 114, 105, 97, 110, 103, 108, 101, 115], strP [99, 111, 114, 101, 115]]
theorem names_n : AllN 1 namesB := fun i e he => by
  match i, he with
  | 0, he => obtain rfl : _ = e := Option.some.inj he; rfl
  | 1, he => obtain rfl : _ = e := Option.some.inj he; rfl
  | 2, he => obtain rfl : _ = e := Option.some.inj he; rfl
  | 3, he => obtain rfl : _ = e := Option.some.inj he; rfl
  | 4, he => obtain rfl : _ = e := Option.some.inj he; rfl
  | 5, he => obtain rfl : _ = e := Option.some.inj he; rfl
  | n + 6, he => cases he
set_option maxRecDepth 100000 in
set_option maxHeartbeats 2000000 in
theorem f_l24Name (k : Int) (h1 : 1 ≤ k) (h2 : k ≤ 6) : Fn Tryd.prog 40 [iP k] (.v (strP (kindB k))) := by
  have h0 : 0 ≤ IntKind.i64.wrap (k - 1) ∧ IntKind.i64.wrap (k - 1) < 6 := by rw [IntWalk.i64_in _ (by omega)]; omega
  have hk : namesB[(0 + (IntKind.i64.wrap (k - 1)).toNat)]? = some (strP (kindB k)) := by
    rw [IntWalk.i64_in _ (by omega)]
    have : k = 1 ∨ k = 2 ∨ k = 3 ∨ k = 4 ∨ k = 5 ∨ k = 6 := by omega
    rcases this with rfl | rfl | rfl | rfl | rfl | rfl <;> rfl
  refine fn_of (l := [.tmp 2]) Tryd.func40 (by kernel_rfl) rfl Tryd.ntmps40 rfl rfl ?_; simp only [argEnv, P0.d, Nat.reduceAdd]
  repeat' (first | (with_reducible first | refine aw_seq ?_ | refine thn_normal ?_ | refine thn_ret ?_ | refine thn_exit ?_ | refine blk_normal ?_ | refine blk_ret ?_ | refine blk_hit ?_ | refine blk_miss rfl ?_ | refine aw_block ?_ | refine aw_ret ?_ | refine aw_skip ?_ | refine aw_exit ?_ | refine w_nil ?_ | refine x_nil (by kernel_rfl) ?_) | refine aw_region ?_ | refine aw_region_draw (by kernel_rfl) ?_ | refine aw_yes rfl ?_ | refine aw_no rfl ?_ | ((with_reducible refine w_seq ?_); first | refine r_q tbOk rfl rfl rfl rfl ?_ | refine r_e tbOk rfl rfl rfl rfl rfl ?_ | refine r_yes tbOk rfl rfl rfl rfl rfl rfl ?_ | refine w_no rfl rfl (lookO_spec rfl) rfl rfl rfl ?_ | refine w_un rfl rfl (lookO_spec rfl) rfl rfl ?_) | ((with_reducible refine w_drw ?_); first | refine rx_q tbOk rfl rfl rfl rfl ?_ | refine rx_e tbOk rfl rfl rfl rfl rfl ?_ | refine rx_yes tbOk rfl rfl rfl rfl rfl rfl ?_ | refine x_no rfl rfl (lookO_spec rfl) rfl rfl rfl ?_ | refine x_un rfl rfl (lookO_spec rfl) rfl rfl ?_) | ((first | refine' w_q rfl rfl ?xa rfl ?_ | refine' v_q rfl rfl ?xa rfl ?_ | refine' w_yes rfl rfl (lookO_spec rfl) rfl ?xa rfl ?_ | refine' v_yes rfl rfl (lookO_spec rfl) rfl ?xa rfl ?_); case xa => first | exact k_indexO tbOk rfl rfl rfl rfl h0.1 h0.2 | exact k_loadS tbOk rfl rfl rfl rfl hk rfl (Nat.le_refl 1) (.inr rfl)) | ((first | refine' w_e rfl ?xa ?xb ?xc ?xe ?_ | refine' v_e rfl ?xa ?xb ?xc ?xe ?_); (case xa => exact e_build [.const (.string ⟨#[104, 111, 112, 115]⟩), .const (.string ⟨#[99, 111, 115, 116, 115]⟩), .const (.string ⟨#[112, 97, 114, 116, 115]⟩), .const (.string ⟨#[108, 97, 98, 101, 108, 115]⟩), .const (.string ⟨#[116, 114, 105, 97, 110, 103, 108, 101, 115]⟩), .const (.string ⟨#[99, 111, 114, 101, 115]⟩)] tlOk rfl rfl rfl rfl rfl rfl names_n (by decide)); (case xb => rfl); (case xc => rfl); (case xe => rfl); try dsimp only [P0.d, Res.d, List.map_cons, List.map_nil, List.set_cons_zero, List.set_cons_succ, Nat.reduceAdd]) | ((first | refine aw_ways rfl ?_ ?_ | refine r_split rfl rfl rfl ?_ ?_) <;> intro hg_ <;> fail_if_success (exact Bool.noConfusion hg_)) <;> (try simp only [prn] at hg_) <;> (try first | contradiction | (exfalso; omega)))
  all_goals first
    | exact ret_tmp rfl (dres_strE rfl)
    | trace_state
set_option maxRecDepth 100000 in
set_option maxHeartbeats 2000000 in
theorem f_specProgValid (k s r : Int) : Fn Tryd.prog 50 [prgP k s r] (.v (.one (bool (progOk k s r)))) := by
  have K1 := f_l1In s 0 15
  have K2 := f_l1In r 1 20
  unfold inR at K1 K2
  refine fn_of (l := [.tmp 2]) Tryd.func50 (by kernel_rfl) rfl Tryd.ntmps50 rfl rfl ?_; simp only [argEnv, P0.d, Nat.reduceAdd, prgP]
  repeat' (first | (with_reducible first | refine aw_seq ?_ | refine thn_normal ?_ | refine thn_ret ?_ | refine thn_exit ?_ | refine blk_normal ?_ | refine blk_ret ?_ | refine blk_hit ?_ | refine blk_miss rfl ?_ | refine aw_block ?_ | refine aw_ret ?_ | refine aw_skip ?_ | refine aw_exit ?_ | refine w_nil ?_ | refine x_nil (by kernel_rfl) ?_) | refine aw_region ?_ | refine aw_region_draw (by kernel_rfl) ?_ | refine aw_yes rfl ?_ | refine aw_no rfl ?_ | ((with_reducible refine w_seq ?_); first | refine r_q tbOk rfl rfl rfl rfl ?_ | refine r_e tbOk rfl rfl rfl rfl rfl ?_ | refine r_yes tbOk rfl rfl rfl rfl rfl rfl ?_ | refine w_no rfl rfl (lookO_spec rfl) rfl rfl rfl ?_ | refine w_un rfl rfl (lookO_spec rfl) rfl rfl ?_) | ((with_reducible refine w_drw ?_); first | refine rx_q tbOk rfl rfl rfl rfl ?_ | refine rx_e tbOk rfl rfl rfl rfl rfl ?_ | refine rx_yes tbOk rfl rfl rfl rfl rfl rfl ?_ | refine x_no rfl rfl (lookO_spec rfl) rfl rfl rfl ?_ | refine x_un rfl rfl (lookO_spec rfl) rfl rfl ?_) | ((first | refine' w_q rfl rfl ?xa rfl ?_ | refine' v_q rfl rfl ?xa rfl ?_ | refine' w_yes rfl rfl (lookO_spec rfl) rfl ?xa rfl ?_ | refine' v_yes rfl rfl (lookO_spec rfl) rfl ?xa rfl ?_); case xa => first | exact k_call K1 rfl ⟨asA_r (evO_spec rfl), asA_r (evO_spec rfl), asA_r (evO_spec rfl), trivial⟩ | exact k_call K2 rfl ⟨asA_r (evO_spec rfl), asA_r (evO_spec rfl), asA_r (evO_spec rfl), trivial⟩) | ((first | refine aw_ways rfl ?_ ?_ | refine r_split rfl rfl rfl ?_ ?_) <;> intro hg_ <;> fail_if_success (exact Bool.noConfusion hg_)) <;> (try simp only [prn] at hg_) <;> (try first | contradiction | (exfalso; omega)))
  all_goals first
    | exact ret_tmp rfl (dres_bool (by unfold progOk; (first | (simp_all; done) | (rw [Bool.eq_iff_iff]; simp_all; done) | (rw [Bool.eq_iff_iff]; simp_all; omega) | (rw [Bool.eq_iff_iff]; simp; omega))))
    | (exfalso; omega)
    | trace_state
set_option maxRecDepth 100000 in
set_option maxHeartbeats 2000000 in
theorem f_specJobValid (k s r n : Int) : Fn Tryd.prog 15 [jobP k s r n] (.v (.one (bool (jobOk k s r n)))) := by
  have K1 := f_specProgValid k s r
  have K2 := f_l1In n 1 6
  unfold inR at K2
  unfold jobOk
  generalize progOk k s r = a at *
  generalize decide (1 ≤ n ∧ n ≤ 6) = b at *
  cases a
  all_goals
    refine fn_of (l := [.tmp 2]) Tryd.func15 (by kernel_rfl) rfl Tryd.ntmps15 rfl rfl ?_; simp only [argEnv, P0.d, Nat.reduceAdd, jobP]
    repeat' (first | (with_reducible first | refine aw_seq ?_ | refine thn_normal ?_ | refine thn_ret ?_ | refine thn_exit ?_ | refine blk_normal ?_ | refine blk_ret ?_ | refine blk_hit ?_ | refine blk_miss rfl ?_ | refine aw_block ?_ | refine aw_ret ?_ | refine aw_skip ?_ | refine aw_exit ?_ | refine w_nil ?_ | refine x_nil (by kernel_rfl) ?_) | refine aw_region ?_ | refine aw_region_draw (by kernel_rfl) ?_ | refine aw_yes rfl ?_ | refine aw_no rfl ?_ | ((with_reducible refine w_seq ?_); first | refine r_q tbOk rfl rfl rfl rfl ?_ | refine r_e tbOk rfl rfl rfl rfl rfl ?_ | refine r_yes tbOk rfl rfl rfl rfl rfl rfl ?_ | refine w_no rfl rfl (lookO_spec rfl) rfl rfl rfl ?_ | refine w_un rfl rfl (lookO_spec rfl) rfl rfl ?_) | ((with_reducible refine w_drw ?_); first | refine rx_q tbOk rfl rfl rfl rfl ?_ | refine rx_e tbOk rfl rfl rfl rfl rfl ?_ | refine rx_yes tbOk rfl rfl rfl rfl rfl rfl ?_ | refine x_no rfl rfl (lookO_spec rfl) rfl rfl rfl ?_ | refine x_un rfl rfl (lookO_spec rfl) rfl rfl ?_) | ((first | refine' w_q rfl rfl ?xa rfl ?_ | refine' v_q rfl rfl ?xa rfl ?_ | refine' w_yes rfl rfl (lookO_spec rfl) rfl ?xa rfl ?_ | refine' v_yes rfl rfl (lookO_spec rfl) rfl ?xa rfl ?_); case xa => first | exact k_call K1 rfl ⟨asA_agg (evO_spec rfl) ⟨cAr_r, cAr_r, cAr_r, trivial⟩, trivial⟩ | exact k_call K2 rfl ⟨asA_r (evO_spec rfl), asA_r (evO_spec rfl), asA_r (evO_spec rfl), trivial⟩) | ((first | refine aw_ways rfl ?_ ?_ | refine r_split rfl rfl rfl ?_ ?_) <;> intro hg_ <;> fail_if_success (exact Bool.noConfusion hg_)) <;> (try simp only [prn] at hg_) <;> (try first | contradiction | (exfalso; omega)))
    all_goals first
      | exact ret_tmp rfl (dres_bool (by simp))
      | (exfalso; omega)
      | trace_state
set_option maxRecDepth 100000 in
set_option maxHeartbeats 2000000 in
theorem f_specTextN (k s r n : Int) (h : jobOk k s r n = false) : Fn Tryd.prog 11 [jobP k s r n] (.v (strP [])) := by
  have K1 := f_specJobValid k s r n
  rw [h] at K1
  refine fn_of (l := [.tmp 2]) Tryd.func11 (by kernel_rfl) rfl Tryd.ntmps11 rfl rfl ?_; simp only [argEnv, P0.d, Nat.reduceAdd, jobP]
  repeat' (first | (with_reducible first | refine aw_seq ?_ | refine thn_normal ?_ | refine thn_ret ?_ | refine thn_exit ?_ | refine blk_normal ?_ | refine blk_ret ?_ | refine blk_hit ?_ | refine blk_miss rfl ?_ | refine aw_block ?_ | refine aw_ret ?_ | refine aw_skip ?_ | refine aw_exit ?_ | refine w_nil ?_ | refine x_nil (by kernel_rfl) ?_) | refine aw_region ?_ | refine aw_region_draw (by kernel_rfl) ?_ | refine aw_yes rfl ?_ | refine aw_no rfl ?_ | ((with_reducible refine w_seq ?_); first | refine r_q tbOk rfl rfl rfl rfl ?_ | refine r_e tbOk rfl rfl rfl rfl rfl ?_ | refine r_yes tbOk rfl rfl rfl rfl rfl rfl ?_ | refine w_no rfl rfl (lookO_spec rfl) rfl rfl rfl ?_ | refine w_un rfl rfl (lookO_spec rfl) rfl rfl ?_) | ((with_reducible refine w_drw ?_); first | refine rx_q tbOk rfl rfl rfl rfl ?_ | refine rx_e tbOk rfl rfl rfl rfl rfl ?_ | refine rx_yes tbOk rfl rfl rfl rfl rfl rfl ?_ | refine x_no rfl rfl (lookO_spec rfl) rfl rfl rfl ?_ | refine x_un rfl rfl (lookO_spec rfl) rfl rfl ?_) | ((first | refine' w_q rfl rfl ?xa rfl ?_ | refine' v_q rfl rfl ?xa rfl ?_ | refine' w_yes rfl rfl (lookO_spec rfl) rfl ?xa rfl ?_ | refine' v_yes rfl rfl (lookO_spec rfl) rfl ?xa rfl ?_); case xa => exact k_call K1 rfl ⟨asA_agg (evO_spec rfl) ⟨cAr_r, cAr_r, cAr_r, cAr_r, trivial⟩, trivial⟩) | ((first | refine aw_ways rfl ?_ ?_ | refine r_split rfl rfl rfl ?_ ?_) <;> intro hg_ <;> fail_if_success (exact Bool.noConfusion hg_)) <;> (try simp only [prn] at hg_) <;> (try first | contradiction | (exfalso; omega)))
  all_goals first
    | exact ret_tmp rfl (dres_strE rfl)
    | (exfalso; omega)
    | trace_state
theorem kindB_len (k : Int) : (kindB k).length ≤ 9 := by
  unfold kindB
  (repeat' split) <;> decide
set_option maxRecDepth 100000 in
set_option maxHeartbeats 4000000 in
theorem f_specTextY (k s r n : Int) (h : jobOk k s r n = true) : Fn Tryd.prog 11 [jobP k s r n] (.v (strP (jobB k s r n))) := by
  have K1 := f_specJobValid k s r n
  rw [h] at K1
  have hk := jobOk_kind h
  have K2 := f_l24Name k hk.1 hk.2
  have hkl := kindB_len k
  unfold jobOk progOk at h
  simp only [Bool.and_eq_true, decide_eq_true_eq] at h
  obtain ⟨hp, hn1, hn2⟩ := h
  have hw : withB = [32, 119, 105, 116, 104, 32] := rfl
  have K5 := f_l24Number n.toNat (by omega)
  rw [show ((n.toNat : Nat) : Int) = n by omega] at K5
  have hl5 := dig_bd (n := n.toNat) (by omega)
  by_cases hk1 : k = 1 ∨ k = 2
  · rw [if_pos hk1] at hp
    simp only [decide_eq_true_eq] at hp
    have K4 := f_l24Number s.toNat (by omega)
    rw [show ((s.toNat : Nat) : Int) = s by omega] at K4
    have hl4 := dig_bd (n := s.toNat) (by omega)
    have hfin : kindB k ++ [32] ++ decDigits s.toNat ++ [32, 119, 105, 116, 104, 32] ++ decDigits n.toNat = jobB k s r n := by
      unfold jobB midB; rw [if_pos hk1, hw]; simp only [List.append_assoc, List.cons_append, List.nil_append]
    generalize kindB k = kb at *
    generalize decDigits s.toNat = x4 at *
    generalize decDigits n.toNat = x5 at *
    refine fn_of (l := [.tmp 2]) Tryd.func11 (by kernel_rfl) rfl Tryd.ntmps11 rfl rfl ?_; simp only [argEnv, P0.d, Nat.reduceAdd, jobP]
    repeat' (first | (with_reducible first | refine aw_seq ?_ | refine thn_normal ?_ | refine thn_ret ?_ | refine thn_exit ?_ | refine blk_normal ?_ | refine blk_ret ?_ | refine blk_hit ?_ | refine blk_miss rfl ?_ | refine aw_block ?_ | refine aw_ret ?_ | refine aw_skip ?_ | refine aw_exit ?_ | refine w_nil ?_ | refine x_nil (by kernel_rfl) ?_) | refine aw_region ?_ | refine aw_region_draw (by kernel_rfl) ?_ | refine aw_yes rfl ?_ | refine aw_no rfl ?_ | ((with_reducible refine w_seq ?_); first | refine r_q tbOk rfl rfl rfl rfl ?_ | refine r_e tbOk rfl rfl rfl rfl rfl ?_ | refine r_yes tbOk rfl rfl rfl rfl rfl rfl ?_ | refine w_no rfl rfl (lookO_spec rfl) rfl rfl rfl ?_ | refine w_un rfl rfl (lookO_spec rfl) rfl rfl ?_) | ((with_reducible refine w_drw ?_); first | refine rx_q tbOk rfl rfl rfl rfl ?_ | refine rx_e tbOk rfl rfl rfl rfl rfl ?_ | refine rx_yes tbOk rfl rfl rfl rfl rfl rfl ?_ | refine x_no rfl rfl (lookO_spec rfl) rfl rfl rfl ?_ | refine x_un rfl rfl (lookO_spec rfl) rfl rfl ?_) | ((first | refine' w_q rfl rfl ?xa rfl ?_ | refine' v_q rfl rfl ?xa rfl ?_ | refine' w_yes rfl rfl (lookO_spec rfl) rfl ?xa rfl ?_ | refine' v_yes rfl rfl (lookO_spec rfl) rfl ?xa rfl ?_); case xa => first | exact k_call K1 rfl ⟨asA_agg (evO_spec rfl) ⟨cAr_r, cAr_r, cAr_r, cAr_r, trivial⟩, trivial⟩ | exact k_call K2 rfl ⟨asA_r (evO_spec rfl), trivial⟩ | exact k_call K4 rfl ⟨asA_r (evO_spec rfl), trivial⟩ | exact k_call K5 rfl ⟨asA_r (evO_spec rfl), trivial⟩ | exact k_strAdd rfl rfl rfl (by (try simp only [List.length_append, List.length_cons, List.length_nil]); omega) (by (try simp only [List.length_append, List.length_cons, List.length_nil]); omega)) | ((first | refine aw_ways rfl ?_ ?_ | refine r_split rfl rfl rfl ?_ ?_) <;> intro hg_ <;> fail_if_success (exact Bool.noConfusion hg_)) <;> (try simp only [prn] at hg_) <;> (try first | contradiction | (exfalso; omega)))
    all_goals first
      | exact ret_tmp rfl (dres_strE hfin)
      | (exfalso; omega)
      | (exfalso; simp_all; done)
      | trace_state
  · rw [if_neg hk1] at hp
    by_cases hk4 : k = 4 ∨ k = 6
    · rw [if_neg (by omega), if_pos hk4] at hp
      simp only [decide_eq_true_eq] at hp
      have K4 := f_l24Number r.toNat (by omega)
      rw [show ((r.toNat : Nat) : Int) = r by omega] at K4
      have hl4 := dig_bd (n := r.toNat) (by omega)
      have hfin : kindB k ++ [32] ++ decDigits r.toNat ++ [32, 119, 105, 116, 104, 32] ++ decDigits n.toNat = jobB k s r n := by
        unfold jobB midB; rw [if_neg hk1, if_pos hk4, hw]; simp only [List.append_assoc, List.cons_append, List.nil_append]
      generalize kindB k = kb at *
      generalize decDigits r.toNat = x4 at *
      generalize decDigits n.toNat = x5 at *
      refine fn_of (l := [.tmp 2]) Tryd.func11 (by kernel_rfl) rfl Tryd.ntmps11 rfl rfl ?_; simp only [argEnv, P0.d, Nat.reduceAdd, jobP]
      repeat' (first | (with_reducible first | refine aw_seq ?_ | refine thn_normal ?_ | refine thn_ret ?_ | refine thn_exit ?_ | refine blk_normal ?_ | refine blk_ret ?_ | refine blk_hit ?_ | refine blk_miss rfl ?_ | refine aw_block ?_ | refine aw_ret ?_ | refine aw_skip ?_ | refine aw_exit ?_ | refine w_nil ?_ | refine x_nil (by kernel_rfl) ?_) | refine aw_region ?_ | refine aw_region_draw (by kernel_rfl) ?_ | refine aw_yes rfl ?_ | refine aw_no rfl ?_ | ((with_reducible refine w_seq ?_); first | refine r_q tbOk rfl rfl rfl rfl ?_ | refine r_e tbOk rfl rfl rfl rfl rfl ?_ | refine r_yes tbOk rfl rfl rfl rfl rfl rfl ?_ | refine w_no rfl rfl (lookO_spec rfl) rfl rfl rfl ?_ | refine w_un rfl rfl (lookO_spec rfl) rfl rfl ?_) | ((with_reducible refine w_drw ?_); first | refine rx_q tbOk rfl rfl rfl rfl ?_ | refine rx_e tbOk rfl rfl rfl rfl rfl ?_ | refine rx_yes tbOk rfl rfl rfl rfl rfl rfl ?_ | refine x_no rfl rfl (lookO_spec rfl) rfl rfl rfl ?_ | refine x_un rfl rfl (lookO_spec rfl) rfl rfl ?_) | ((first | refine' w_q rfl rfl ?xa rfl ?_ | refine' v_q rfl rfl ?xa rfl ?_ | refine' w_yes rfl rfl (lookO_spec rfl) rfl ?xa rfl ?_ | refine' v_yes rfl rfl (lookO_spec rfl) rfl ?xa rfl ?_); case xa => first | exact k_call K1 rfl ⟨asA_agg (evO_spec rfl) ⟨cAr_r, cAr_r, cAr_r, cAr_r, trivial⟩, trivial⟩ | exact k_call K2 rfl ⟨asA_r (evO_spec rfl), trivial⟩ | exact k_call K4 rfl ⟨asA_r (evO_spec rfl), trivial⟩ | exact k_call K5 rfl ⟨asA_r (evO_spec rfl), trivial⟩ | exact k_strAdd rfl rfl rfl (by (try simp only [List.length_append, List.length_cons, List.length_nil]); omega) (by (try simp only [List.length_append, List.length_cons, List.length_nil]); omega)) | ((first | refine aw_ways rfl ?_ ?_ | refine r_split rfl rfl rfl ?_ ?_) <;> intro hg_ <;> fail_if_success (exact Bool.noConfusion hg_)) <;> (try simp only [prn] at hg_) <;> (try first | contradiction | (exfalso; omega)))
      all_goals first
        | exact ret_tmp rfl (dres_strE hfin)
        | (exfalso; omega)
        | (exfalso; simp_all; done)
        | trace_state
    · have hfin : kindB k ++ [32, 119, 105, 116, 104, 32] ++ decDigits n.toNat = jobB k s r n := by
        unfold jobB midB; rw [if_neg hk1, if_neg hk4, hw]; simp only [List.append_assoc, List.nil_append]
      clear hp
      generalize kindB k = kb at *
      generalize decDigits n.toNat = x5 at *
      refine fn_of (l := [.tmp 2]) Tryd.func11 (by kernel_rfl) rfl Tryd.ntmps11 rfl rfl ?_; simp only [argEnv, P0.d, Nat.reduceAdd, jobP]
      repeat' (first | (with_reducible first | refine aw_seq ?_ | refine thn_normal ?_ | refine thn_ret ?_ | refine thn_exit ?_ | refine blk_normal ?_ | refine blk_ret ?_ | refine blk_hit ?_ | refine blk_miss rfl ?_ | refine aw_block ?_ | refine aw_ret ?_ | refine aw_skip ?_ | refine aw_exit ?_ | refine w_nil ?_ | refine x_nil (by kernel_rfl) ?_) | refine aw_region ?_ | refine aw_region_draw (by kernel_rfl) ?_ | refine aw_yes rfl ?_ | refine aw_no rfl ?_ | ((with_reducible refine w_seq ?_); first | refine r_q tbOk rfl rfl rfl rfl ?_ | refine r_e tbOk rfl rfl rfl rfl rfl ?_ | refine r_yes tbOk rfl rfl rfl rfl rfl rfl ?_ | refine w_no rfl rfl (lookO_spec rfl) rfl rfl rfl ?_ | refine w_un rfl rfl (lookO_spec rfl) rfl rfl ?_) | ((with_reducible refine w_drw ?_); first | refine rx_q tbOk rfl rfl rfl rfl ?_ | refine rx_e tbOk rfl rfl rfl rfl rfl ?_ | refine rx_yes tbOk rfl rfl rfl rfl rfl rfl ?_ | refine x_no rfl rfl (lookO_spec rfl) rfl rfl rfl ?_ | refine x_un rfl rfl (lookO_spec rfl) rfl rfl ?_) | ((first | refine' w_q rfl rfl ?xa rfl ?_ | refine' v_q rfl rfl ?xa rfl ?_ | refine' w_yes rfl rfl (lookO_spec rfl) rfl ?xa rfl ?_ | refine' v_yes rfl rfl (lookO_spec rfl) rfl ?xa rfl ?_); case xa => first | exact k_call K1 rfl ⟨asA_agg (evO_spec rfl) ⟨cAr_r, cAr_r, cAr_r, cAr_r, trivial⟩, trivial⟩ | exact k_call K2 rfl ⟨asA_r (evO_spec rfl), trivial⟩ | exact k_call K5 rfl ⟨asA_r (evO_spec rfl), trivial⟩ | exact k_strAdd rfl rfl rfl (by (try simp only [List.length_append, List.length_cons, List.length_nil]); omega) (by (try simp only [List.length_append, List.length_cons, List.length_nil]); omega)) | ((first | refine aw_ways rfl ?_ ?_ | refine r_split rfl rfl rfl ?_ ?_) <;> intro hg_ <;> fail_if_success (exact Bool.noConfusion hg_)) <;> (try simp only [prn] at hg_) <;> (try first | contradiction | (exfalso; omega)))
      all_goals first
        | exact ret_tmp rfl (dres_strE hfin)
        | (exfalso; omega)
        | (exfalso; simp_all; done)
        | trace_state
end Go.Proofs.YthjnidcmhegoeaaDoor.Abs
