/- Codes, frames and graphs as bytes by states: the program's writers. No statement of the seat is proved here. -/
import Derived.Test.YtihpchbkodihpaaTy
import Derived.Lib.Hide
import Derived.Test.YtihpchbkodihpaaASpD
set_option linter.unusedSimpArgs false
set_option linter.unusedVariables false
namespace Go.Proofs.Ytihpchbkodihpaa.Abs
open Go.RowKit
open R (val row ref)

theorem fits_iff (n : Int) : fits n = true ↔ 0 ≤ n ∧ n ≤ 1000000 := by unfold fits; rw [decide_eq_true_eq]
set_option maxRecDepth 100000 in
set_option maxHeartbeats 4000000 in
theorem f_implEncode (n : Int) (hf : fits n = true) : FnO Try.prog 76 [iP n] 3 1 (ints (enc n)) := by
  have hn := (fits_iff n).1 hf
  refine fn_ofO Try.func76 (by kernel_rfl) rfl Try.ntmps76 rfl rfl ?_; simp only [argEnv, P0.d, Nat.reduceAdd, List.map_cons, List.map_nil]
  repeat' (first | (with_reducible first | refine aw_seq ?_ | refine thn_normal ?_ | refine thn_ret ?_ | refine thn_exit ?_ | refine blk_normal ?_ | refine blk_ret ?_ | refine blk_hit ?_ | refine blk_miss rfl ?_ | refine aw_block ?_ | refine aw_ret ?_ | refine aw_skip ?_ | refine aw_exit ?_ | refine w_nil ?_ | refine x_nil (by kernel_rfl) ?_) | refine aw_region ?_ | refine aw_region_draw (by kernel_rfl) ?_ | refine aw_yes rfl ?_ | refine aw_no rfl ?_ | ((with_reducible refine w_seq ?_); first | refine r_q tbOk rfl rfl rfl rfl ?_ | refine r_e tbOk rfl rfl rfl rfl rfl ?_ | refine r_yes tbOk rfl rfl rfl rfl rfl rfl ?_ | refine w_no rfl rfl (lookO_spec rfl) rfl rfl rfl ?_ | refine w_un rfl rfl (lookO_spec rfl) rfl rfl ?_) | ((with_reducible refine w_drw ?_); first | refine rx_q tbOk rfl rfl rfl rfl ?_ | refine rx_e tbOk rfl rfl rfl rfl rfl ?_ | refine rx_yes tbOk rfl rfl rfl rfl rfl rfl ?_ | refine x_no rfl rfl (lookO_spec rfl) rfl rfl rfl ?_ | refine x_un rfl rfl (lookO_spec rfl) rfl rfl ?_) | ((first | refine aw_ways rfl ?_ ?_ | refine r_split rfl rfl rfl ?_ ?_) <;> intro hg_ <;> fail_if_success (exact Bool.noConfusion hg_)) <;> (try simp only [prn] at hg_) <;> (try first | contradiction | (exfalso; omega)))
  by_cases hs : n < 128
  · refine aw_loopI (fun _ : Nat => True) (fun _ => mkS 24 [(3, .one (.r true (row true 0 []))), (0, .one (.r false (int n)))] []) (fun _ => 0) 0 trivial (by (refine weak_ren [] rfl ?_ ?_ <;> repeat' (first | exact trivial | refine subR_cons rfl ?_ ?_ | refine subHR_cons rfl ?_ ?_ | rfl | (refine d_int ?_; (first | rfl | omega | (rw [IntWalk.i64_in _ (by omega)] <;> omega) | (simp; done) | (simp; omega))) | (refine d_bool ?_; (first | (simp_all; done) | (rw [Bool.eq_iff_iff]; simp_all; done) | (rw [Bool.eq_iff_iff]; simp_all; omega) | (rw [Bool.eq_iff_iff]; simp; omega)))))) ?_
    intro _ _
    rw [enc_last hn.1 hs]
    repeat' (first | (with_reducible first | refine aw_seq ?_ | refine thn_normal ?_ | refine thn_ret ?_ | refine thn_exit ?_ | refine blk_normal ?_ | refine blk_ret ?_ | refine blk_hit ?_ | refine blk_miss rfl ?_ | refine aw_block ?_ | refine aw_ret ?_ | refine aw_skip ?_ | refine aw_exit ?_ | refine w_nil ?_ | refine x_nil (by kernel_rfl) ?_) | refine aw_region ?_ | refine aw_region_draw (by kernel_rfl) ?_ | refine aw_yes rfl ?_ | refine aw_no rfl ?_ | ((with_reducible refine w_seq ?_); first | refine r_q tbOk rfl rfl rfl rfl ?_ | refine r_e tbOk rfl rfl rfl rfl rfl ?_ | refine r_yes tbOk rfl rfl rfl rfl rfl rfl ?_ | refine w_no rfl rfl (lookO_spec rfl) rfl rfl rfl ?_ | refine w_un rfl rfl (lookO_spec rfl) rfl rfl ?_) | ((with_reducible refine w_drw ?_); first | refine rx_q tbOk rfl rfl rfl rfl ?_ | refine rx_e tbOk rfl rfl rfl rfl rfl ?_ | refine rx_yes tbOk rfl rfl rfl rfl rfl rfl ?_ | refine x_no rfl rfl (lookO_spec rfl) rfl rfl rfl ?_ | refine x_un rfl rfl (lookO_spec rfl) rfl rfl ?_) | ((first | refine' w_e rfl ?xa ?xb ?xc ?xe ?_ | refine' v_e rfl ?xa ?xb ?xc ?xe ?_); (case xa => first | exact e_build [.tmp 21] tlOk rfl rfl rfl rfl rfl rfl (allN_one rfl) (by simp) | exact e_append_nil tlOk rfl rfl rfl rfl rfl (slD_plain (slD_own (lookHO_spec rfl) rfl) (by simp [plain1, iP])) (by simp) (by simp [maxLen]) (by simp)); (case xb => rfl); (case xc => rfl); (case xe => rfl); try dsimp only [P0.d, Res.d, List.map_cons, List.map_nil, List.set_cons_zero, List.set_cons_succ, Nat.reduceAdd]) | ((first | refine aw_ways rfl ?_ ?_ | refine r_split rfl rfl rfl ?_ ?_) <;> intro hg_ <;> fail_if_success (exact Bool.noConfusion hg_)) <;> (try simp only [prn] at hg_) <;> (try first | contradiction | (exfalso; omega)))
    all_goals first
      | exact ret_own rfl rfl rfl
      | trace_state
  · obtain ⟨S1, hS1⟩ : ∃ S1 : List Int × Int → St, ∀ x, S1 x = mkS 24 [(3, .one (.own 100 0 x.1.length 1)), (0, .one (.r true (int x.2)))] [(100, .sl 3 1 true (ints x.1))] := ⟨_, fun _ => rfl⟩
    obtain ⟨F, hF0, hF1⟩ : ∃ F : Option (List Int × Int) → St, F none = mkS 24 [(3, .one (.r true (row true 0 []))), (0, .one (.r false (int n)))] [] ∧ ∀ x, F (some x) = S1 x := ⟨fun o => match o with | none => mkS 24 [(3, .one (.r true (row true 0 []))), (0, .one (.r false (int n)))] [] | some x => S1 x, rfl, fun _ => rfl⟩
    refine aw_loopI (fun o : Option (List Int × Int) => ∀ x, o = some x → enc n = x.1 ++ enc x.2 ∧ 0 ≤ x.2 ∧ x.2 ≤ 100000 ∧ x.1.length + (enc x.2).length ≤ 3) F (fun o => match o with | none => 10000000 | some x => x.2.toNat) none (fun x h => by cases h) (by rw [hF0]; (refine weak_ren [] rfl ?_ ?_ <;> repeat' (first | exact trivial | refine subR_cons rfl ?_ ?_ | refine subHR_cons rfl ?_ ?_ | rfl | (refine d_int ?_; (first | rfl | omega | (rw [IntWalk.i64_in _ (by omega)] <;> omega) | (simp; done) | (simp; omega))) | (refine d_bool ?_; (first | (simp_all; done) | (rw [Bool.eq_iff_iff]; simp_all; done) | (rw [Bool.eq_iff_iff]; simp_all; omega) | (rw [Bool.eq_iff_iff]; simp; omega)))))) ?_
    intro o ho
    cases o with
    | none =>
      have hfin : ∀ s' : St, Weak s' (F (some ([n % 128 + 128], n / 128))) → ∃ x' : Option (List Int × Int), (∀ x, x' = some x → enc n = x.1 ++ enc x.2 ∧ 0 ≤ x.2 ∧ x.2 ≤ 100000 ∧ x.1.length + (enc x.2).length ≤ 3) ∧ Weak s' (F x') ∧ (match x' with | none => 10000000 | some x => x.2.toNat) < 10000000 := fun s' h => ⟨some ([n % 128 + 128], n / 128), fun x hx => by
        injection hx with hx; subst hx
        have h3 := enc_len n
        rw [enc_step (by omega) hn.2] at h3 ⊢
        exact ⟨rfl, by dsimp only; omega, by dsimp only; omega, by simp only [List.length_cons, List.length_nil] at h3 ⊢; omega⟩, h, by dsimp only; omega⟩
      rw [hF1, hS1] at hfin
      rw [hF0]
      have hw1 : IntKind.i64.wrap (n.tmod 128 + 128) = n % 128 + 128 := by rw [Int.tmod_eq_emod_of_nonneg hn.1, IntWalk.i64_in _ (by omega)]
      have hw2 : IntKind.i64.wrap (n.tdiv 128) = n / 128 := by rw [Int.tdiv_eq_ediv_of_nonneg hn.1, IntWalk.i64_in _ (by omega)]
      clear hF0 hF1 hS1 ho
      repeat' (first | (with_reducible first | refine aw_seq ?_ | refine thn_normal ?_ | refine thn_ret ?_ | refine thn_exit ?_ | refine blk_normal ?_ | refine blk_ret ?_ | refine blk_hit ?_ | refine blk_miss rfl ?_ | refine aw_block ?_ | refine aw_ret ?_ | refine aw_skip ?_ | refine aw_exit ?_ | refine w_nil ?_ | refine x_nil (by kernel_rfl) ?_) | refine aw_region ?_ | refine aw_region_draw (by kernel_rfl) ?_ | refine aw_yes rfl ?_ | refine aw_no rfl ?_ | ((with_reducible refine w_seq ?_); first | refine r_q tbOk rfl rfl rfl rfl ?_ | refine r_e tbOk rfl rfl rfl rfl rfl ?_ | refine r_yes tbOk rfl rfl rfl rfl rfl rfl ?_ | refine w_no rfl rfl (lookO_spec rfl) rfl rfl rfl ?_ | refine w_un rfl rfl (lookO_spec rfl) rfl rfl ?_) | ((with_reducible refine w_drw ?_); first | refine rx_q tbOk rfl rfl rfl rfl ?_ | refine rx_e tbOk rfl rfl rfl rfl rfl ?_ | refine rx_yes tbOk rfl rfl rfl rfl rfl rfl ?_ | refine x_no rfl rfl (lookO_spec rfl) rfl rfl rfl ?_ | refine x_un rfl rfl (lookO_spec rfl) rfl rfl ?_) | ((first | refine' w_q rfl rfl ?xa rfl ?_ | refine' v_q rfl rfl ?xa rfl ?_ | refine' w_yes rfl rfl (lookO_spec rfl) rfl ?xa rfl ?_ | refine' v_yes rfl rfl (lookO_spec rfl) rfl ?xa rfl ?_); case xa => first | exact k_rem rfl rfl rfl (by decide) | exact k_div rfl rfl rfl (by decide)) | ((first | refine' w_e rfl ?xa ?xb ?xc ?xe ?_ | refine' v_e rfl ?xa ?xb ?xc ?xe ?_); (case xa => first | exact e_build [.tmp 15] tlOk rfl rfl rfl rfl rfl rfl (allN_one rfl) (by simp) | exact e_append_nil tlOk rfl rfl rfl rfl rfl (slD_plain (slD_own (lookHO_spec rfl) rfl) (by simp [plain1, iP])) (by simp) (by simp [maxLen]) (by simp)); (case xb => rfl); (case xc => rfl); (case xe => rfl); try dsimp only [P0.d, Res.d, List.map_cons, List.map_nil, List.set_cons_zero, List.set_cons_succ, Nat.reduceAdd]) | ((first | refine aw_ways rfl ?_ ?_ | refine r_split rfl rfl rfl ?_ ?_) <;> intro hg_ <;> fail_if_success (exact Bool.noConfusion hg_)) <;> (try simp only [prn] at hg_) <;> (try first | contradiction | (exfalso; omega)))
      all_goals first
        | (exfalso; omega)
        | (refine hfin _ ?_
           (refine weak_ren [(100, 17)] rfl ?_ ?_ <;> repeat' (first | exact trivial | refine subR_cons rfl ?_ ?_ | refine subHR_cons rfl ?_ ?_ | rfl | (refine d_int ?_; (first | rfl | omega | (rw [IntWalk.i64_in _ (by omega)] <;> omega) | (simp; done) | (simp; omega))) | (refine d_bool ?_; (first | (simp_all; done) | (rw [Bool.eq_iff_iff]; simp_all; done) | (rw [Bool.eq_iff_iff]; simp_all; omega) | (rw [Bool.eq_iff_iff]; simp; omega))) | exact d_int hw2 | exact ob_sl rfl (by rw [hw1]; rfl))))
        | trace_state
    | some x =>
      obtain ⟨pre, m⟩ := x
      obtain ⟨hE, h0, h1, hl⟩ := ho _ rfl
      dsimp only at hE h0 h1 hl
      rw [hF1, hS1]
      dsimp only
      have hlen : pre.length = (ints pre).length := (ints_len pre).symm
      have hp3 : pre.length ≤ 3 := by omega
      by_cases hlt : 128 ≤ m
      · rw [enc_step hlt (by omega)] at hE hl
        have hw1 : IntKind.i64.wrap (m.tmod 128 + 128) = m % 128 + 128 := by rw [Int.tmod_eq_emod_of_nonneg h0, IntWalk.i64_in _ (by omega)]
        have hw2 : IntKind.i64.wrap (m.tdiv 128) = m / 128 := by rw [Int.tdiv_eq_ediv_of_nonneg h0, IntWalk.i64_in _ (by omega)]
        have hfin : ∀ s' : St, Weak s' (F (some (pre ++ [m % 128 + 128], m / 128))) → ∃ x' : Option (List Int × Int), (∀ x, x' = some x → enc n = x.1 ++ enc x.2 ∧ 0 ≤ x.2 ∧ x.2 ≤ 100000 ∧ x.1.length + (enc x.2).length ≤ 3) ∧ Weak s' (F x') ∧ (match x' with | none => 10000000 | some x => x.2.toNat) < m.toNat := fun s' h => ⟨some (pre ++ [m % 128 + 128], m / 128), fun x hx => by
          injection hx with hx; subst hx
          exact ⟨by rw [hE, List.append_assoc]; rfl, by dsimp only; omega, by dsimp only; omega, by simp only [List.length_append, List.length_cons, List.length_nil] at hl ⊢; omega⟩, h, by dsimp only; omega⟩
        rw [hF1, hS1] at hfin
        clear hE hl hF0 hF1 hS1 ho
        repeat' (first | (with_reducible first | refine aw_seq ?_ | refine thn_normal ?_ | refine thn_ret ?_ | refine thn_exit ?_ | refine blk_normal ?_ | refine blk_ret ?_ | refine blk_hit ?_ | refine blk_miss rfl ?_ | refine aw_block ?_ | refine aw_ret ?_ | refine aw_skip ?_ | refine aw_exit ?_ | refine w_nil ?_ | refine x_nil (by kernel_rfl) ?_) | refine aw_region ?_ | refine aw_region_draw (by kernel_rfl) ?_ | refine aw_yes rfl ?_ | refine aw_no rfl ?_ | ((with_reducible refine w_seq ?_); first | refine r_q tbOk rfl rfl rfl rfl ?_ | refine r_e tbOk rfl rfl rfl rfl rfl ?_ | refine r_yes tbOk rfl rfl rfl rfl rfl rfl ?_ | refine w_no rfl rfl (lookO_spec rfl) rfl rfl rfl ?_ | refine w_un rfl rfl (lookO_spec rfl) rfl rfl ?_) | ((with_reducible refine w_drw ?_); first | refine rx_q tbOk rfl rfl rfl rfl ?_ | refine rx_e tbOk rfl rfl rfl rfl rfl ?_ | refine rx_yes tbOk rfl rfl rfl rfl rfl rfl ?_ | refine x_no rfl rfl (lookO_spec rfl) rfl rfl rfl ?_ | refine x_un rfl rfl (lookO_spec rfl) rfl rfl ?_) | ((first | refine' w_q rfl rfl ?xa rfl ?_ | refine' v_q rfl rfl ?xa rfl ?_ | refine' w_yes rfl rfl (lookO_spec rfl) rfl ?xa rfl ?_ | refine' v_yes rfl rfl (lookO_spec rfl) rfl ?xa rfl ?_); case xa => first | exact k_rem rfl rfl rfl (by decide) | exact k_div rfl rfl rfl (by decide)) | ((first | refine' w_e rfl ?xa ?xb ?xc ?xe ?_ | refine' v_e rfl ?xa ?xb ?xc ?xe ?_); (case xa => first | exact e_build [.tmp 15] tlOk rfl rfl rfl rfl rfl rfl (allN_one rfl) (by simp) | exact e_append tlOk rfl rfl rfl rfl rfl rfl (slD_plain (slD_own (lookHO_spec rfl) rfl) (by simp [plain1, iP])) hlen (by simp only [maxLen, List.length_append, List.length_cons, List.length_nil]; omega) (by (try simp only [List.length_append, List.length_cons, List.length_nil]); omega)); (case xb => rfl); (case xc => rfl); (case xe => rfl); try dsimp only [P0.d, Res.d, List.map_cons, List.map_nil, List.set_cons_zero, List.set_cons_succ, Nat.reduceAdd]) | ((first | refine aw_ways rfl ?_ ?_ | refine r_split rfl rfl rfl ?_ ?_) <;> intro hg_ <;> fail_if_success (exact Bool.noConfusion hg_)) <;> (try simp only [prn] at hg_) <;> (try first | contradiction | (exfalso; omega)))
        all_goals first
          | (refine hfin _ ?_
             (refine weak_ren [(100, 17)] rfl ?_ ?_ <;> repeat' (first | exact trivial | refine subR_cons rfl ?_ ?_ | refine subHR_cons rfl ?_ ?_ | rfl | (refine d_int ?_; (first | rfl | omega | (rw [IntWalk.i64_in _ (by omega)] <;> omega) | (simp; done) | (simp; omega))) | (refine d_bool ?_; (first | (simp_all; done) | (rw [Bool.eq_iff_iff]; simp_all; done) | (rw [Bool.eq_iff_iff]; simp_all; omega) | (rw [Bool.eq_iff_iff]; simp; omega))) | exact d_int hw2 | exact d_own (by simp only [List.length_append, ints_len, List.length_cons, List.length_nil]) | exact ob_sl rfl (by rw [ints_app, hw1]))))
          | trace_state
      · rw [enc_last h0 (by omega)] at hE
        rw [hE]
        clear hE hl hF0 hF1 hS1 ho
        repeat' (first | (with_reducible first | refine aw_seq ?_ | refine thn_normal ?_ | refine thn_ret ?_ | refine thn_exit ?_ | refine blk_normal ?_ | refine blk_ret ?_ | refine blk_hit ?_ | refine blk_miss rfl ?_ | refine aw_block ?_ | refine aw_ret ?_ | refine aw_skip ?_ | refine aw_exit ?_ | refine w_nil ?_ | refine x_nil (by kernel_rfl) ?_) | refine aw_region ?_ | refine aw_region_draw (by kernel_rfl) ?_ | refine aw_yes rfl ?_ | refine aw_no rfl ?_ | ((with_reducible refine w_seq ?_); first | refine r_q tbOk rfl rfl rfl rfl ?_ | refine r_e tbOk rfl rfl rfl rfl rfl ?_ | refine r_yes tbOk rfl rfl rfl rfl rfl rfl ?_ | refine w_no rfl rfl (lookO_spec rfl) rfl rfl rfl ?_ | refine w_un rfl rfl (lookO_spec rfl) rfl rfl ?_) | ((with_reducible refine w_drw ?_); first | refine rx_q tbOk rfl rfl rfl rfl ?_ | refine rx_e tbOk rfl rfl rfl rfl rfl ?_ | refine rx_yes tbOk rfl rfl rfl rfl rfl rfl ?_ | refine x_no rfl rfl (lookO_spec rfl) rfl rfl rfl ?_ | refine x_un rfl rfl (lookO_spec rfl) rfl rfl ?_) | ((first | refine' w_e rfl ?xa ?xb ?xc ?xe ?_ | refine' v_e rfl ?xa ?xb ?xc ?xe ?_); (case xa => first | exact e_build [.tmp 21] tlOk rfl rfl rfl rfl rfl rfl (allN_one rfl) (by simp) | exact e_append tlOk rfl rfl rfl rfl rfl rfl (slD_plain (slD_own (lookHO_spec rfl) rfl) (by simp [plain1, iP])) hlen (by simp only [maxLen, List.length_append, List.length_cons, List.length_nil]; omega) (by (try simp only [List.length_append, List.length_cons, List.length_nil]); omega)); (case xb => rfl); (case xc => rfl); (case xe => rfl); try dsimp only [P0.d, Res.d, List.map_cons, List.map_nil, List.set_cons_zero, List.set_cons_succ, Nat.reduceAdd]) | ((first | refine aw_ways rfl ?_ ?_ | refine r_split rfl rfl rfl ?_ ?_) <;> intro hg_ <;> fail_if_success (exact Bool.noConfusion hg_)) <;> (try simp only [prn] at hg_) <;> (try first | contradiction | (exfalso; omega)))
        all_goals first
          | (rw [ints_app]; exact ret_own rfl rfl (by simp only [List.length_append]))
          | trace_state
theorem f_fits (n : Int) : Fn Try.prog 105 [iP n] (.v (.one (bool (fits n)))) := by
  refine fn_of (l := [.tmp 2]) Try.func105 (by kernel_rfl) rfl Try.ntmps105 rfl rfl ?_; simp only [argEnv, P0.d, Nat.reduceAdd]
  repeat' (first | (with_reducible first | refine aw_seq ?_ | refine thn_normal ?_ | refine thn_ret ?_ | refine thn_exit ?_ | refine blk_normal ?_ | refine blk_ret ?_ | refine blk_hit ?_ | refine blk_miss rfl ?_ | refine aw_block ?_ | refine aw_ret ?_ | refine aw_skip ?_ | refine aw_exit ?_ | refine w_nil ?_ | refine x_nil (by kernel_rfl) ?_) | refine aw_region ?_ | refine aw_region_draw (by kernel_rfl) ?_ | refine aw_yes rfl ?_ | refine aw_no rfl ?_ | ((with_reducible refine w_seq ?_); first | refine r_q tbOk rfl rfl rfl rfl ?_ | refine r_e tbOk rfl rfl rfl rfl rfl ?_ | refine r_yes tbOk rfl rfl rfl rfl rfl rfl ?_ | refine w_no rfl rfl (lookO_spec rfl) rfl rfl rfl ?_ | refine w_un rfl rfl (lookO_spec rfl) rfl rfl ?_) | ((with_reducible refine w_drw ?_); first | refine rx_q tbOk rfl rfl rfl rfl ?_ | refine rx_e tbOk rfl rfl rfl rfl rfl ?_ | refine rx_yes tbOk rfl rfl rfl rfl rfl rfl ?_ | refine x_no rfl rfl (lookO_spec rfl) rfl rfl rfl ?_ | refine x_un rfl rfl (lookO_spec rfl) rfl rfl ?_) | ((first | refine aw_ways rfl ?_ ?_ | refine r_split rfl rfl rfl ?_ ?_) <;> intro hg_ <;> fail_if_success (exact Bool.noConfusion hg_)) <;> (try simp only [prn] at hg_) <;> (try first | contradiction | (exfalso; omega)))
  all_goals exact ret_tmp rfl (dres_bool (by unfold fits; (first | (simp_all; done) | (rw [Bool.eq_iff_iff]; simp_all; done) | (rw [Bool.eq_iff_iff]; simp_all; omega) | (rw [Bool.eq_iff_iff]; simp; omega))))
theorem ovar1 {E : TypeId} {a b : Cell} (h : a = b) : Ob.var E [a] = .var E [b] := by rw [h]
set_option maxRecDepth 100000 in
set_option maxHeartbeats 2000000 in
theorem f_put0 (n : Int) (hf : fits n = true) (mm : Bool) : FnS Try.prog 106 [.one (.ptr 1000000000 0 0 0), .one (.r false (int n))] [(1000000000, .var 128 [.r mm (row true 0 [])])] (.tup true []) [(1000000000, .var 128 [.own 2000001 0 (enc n).length 1]), (2000001, .sl 3 1 true (ints (enc n)))] := by
  have KE := f_implEncode n hf
  have hn := (fits_iff n).1 hf
  have hp := enc_pos hn.1 hn.2
  have h3 := enc_len n
  have hl := ints_len (enc n)
  generalize enc n = en at *
  refine fnS_of (l := []) Try.func106 (by kernel_rfl) rfl Try.ntmps106 rfl rfl ?_; simp only [dEnv, Nat.reduceAdd]
  repeat' (first | (with_reducible first | refine aw_seq ?_ | refine thn_normal ?_ | refine thn_ret ?_ | refine thn_exit ?_ | refine blk_normal ?_ | refine blk_ret ?_ | refine blk_hit ?_ | refine blk_miss rfl ?_ | refine aw_block ?_ | refine aw_ret ?_ | refine aw_skip ?_ | refine aw_exit ?_ | refine w_nil ?_ | refine x_nil (by kernel_rfl) ?_) | refine aw_region ?_ | refine aw_region_draw (by kernel_rfl) ?_ | refine aw_yes rfl ?_ | refine aw_no rfl ?_ | ((with_reducible refine w_seq ?_); first | refine r_q tbOk rfl rfl rfl rfl ?_ | refine r_e tbOk rfl rfl rfl rfl rfl ?_ | refine r_yes tbOk rfl rfl rfl rfl rfl rfl ?_ | refine w_no rfl rfl (lookO_spec rfl) rfl rfl rfl ?_ | refine w_un rfl rfl (lookO_spec rfl) rfl rfl ?_) | ((with_reducible refine w_drw ?_); first | refine rx_q tbOk rfl rfl rfl rfl ?_ | refine rx_e tbOk rfl rfl rfl rfl rfl ?_ | refine rx_yes tbOk rfl rfl rfl rfl rfl rfl ?_ | refine x_no rfl rfl (lookO_spec rfl) rfl rfl rfl ?_ | refine x_un rfl rfl (lookO_spec rfl) rfl rfl ?_) | ((first | refine' w_e rfl ?xa ?xb ?xc ?xe ?_ | refine' v_e rfl ?xa ?xb ?xc ?xe ?_); (case xa => first | exact e_callO KE rfl rfl ⟨asA_r (evO_spec rfl), trivial⟩ | exact e_append_nil tlOk rfl rfl rfl rfl rfl (slD_plain (slD_own (lookHO_spec rfl) rfl) (ints_plain _)) (by omega) (by simp only [maxLen]; omega) (by omega)); (case xb => rfl); (case xc => rfl); (case xe => rfl); try dsimp only [P0.d, Res.d, List.map_cons, List.map_nil, List.set_cons_zero, List.set_cons_succ, Nat.reduceAdd]) | ((first | refine aw_ways rfl ?_ ?_ | refine r_split rfl rfl rfl ?_ ?_) <;> intro hg_ <;> fail_if_success (exact Bool.noConfusion hg_)) <;> (try simp only [prn] at hg_) <;> (try first | contradiction | (exfalso; omega)))
  all_goals first
    | exact end_D [(2000001, 11)] rfl (by (repeat' (first | exact trivial | refine subHR_cons rfl ?_ ?_ | rfl | exact ovar1 (cell_ownN hl)))) ⟨_, rfl, imp_refl rfl⟩
    | trace_state
set_option maxRecDepth 100000 in
set_option maxHeartbeats 2000000 in
theorem f_putO (pre : List Int) (n : Int) (hf : fits n = true) (hp : pre.length ≤ 100) : FnS Try.prog 106 [.one (.ptr 1000000000 0 0 0), .one (.r false (int n))] [(1000000000, .var 128 [.own 1000001 0 pre.length 1]), (1000001, .sl 3 1 true (ints pre))] (.tup true []) [(1000000000, .var 128 [.own 2000001 0 (pre ++ enc n).length 1]), (2000001, .sl 3 1 true (ints (pre ++ enc n)))] := by
  have KE := f_implEncode n hf
  have hn := (fits_iff n).1 hf
  have hp' := enc_pos hn.1 hn.2
  have h3 := enc_len n
  have hl := ints_len (enc n)
  have hpl := ints_len pre
  generalize enc n = en at *
  refine fnS_of (l := []) Try.func106 (by kernel_rfl) rfl Try.ntmps106 rfl rfl ?_; simp only [dEnv, Nat.reduceAdd]
  repeat' (first | (with_reducible first | refine aw_seq ?_ | refine thn_normal ?_ | refine thn_ret ?_ | refine thn_exit ?_ | refine blk_normal ?_ | refine blk_ret ?_ | refine blk_hit ?_ | refine blk_miss rfl ?_ | refine aw_block ?_ | refine aw_ret ?_ | refine aw_skip ?_ | refine aw_exit ?_ | refine w_nil ?_ | refine x_nil (by kernel_rfl) ?_) | refine aw_region ?_ | refine aw_region_draw (by kernel_rfl) ?_ | refine aw_yes rfl ?_ | refine aw_no rfl ?_ | ((with_reducible refine w_seq ?_); first | refine r_q tbOk rfl rfl rfl rfl ?_ | refine r_e tbOk rfl rfl rfl rfl rfl ?_ | refine r_yes tbOk rfl rfl rfl rfl rfl rfl ?_ | refine w_no rfl rfl (lookO_spec rfl) rfl rfl rfl ?_ | refine w_un rfl rfl (lookO_spec rfl) rfl rfl ?_) | ((with_reducible refine w_drw ?_); first | refine rx_q tbOk rfl rfl rfl rfl ?_ | refine rx_e tbOk rfl rfl rfl rfl rfl ?_ | refine rx_yes tbOk rfl rfl rfl rfl rfl rfl ?_ | refine x_no rfl rfl (lookO_spec rfl) rfl rfl rfl ?_ | refine x_un rfl rfl (lookO_spec rfl) rfl rfl ?_) | ((first | refine' w_e rfl ?xa ?xb ?xc ?xe ?_ | refine' v_e rfl ?xa ?xb ?xc ?xe ?_); (case xa => first | exact e_callO KE rfl rfl ⟨asA_r (evO_spec rfl), trivial⟩ | exact e_append tlOk rfl rfl rfl rfl rfl rfl (slD_plain (slD_own (lookHO_spec rfl) rfl) (ints_plain _)) hpl.symm (by simp only [maxLen, List.length_append, List.length_cons, List.length_nil]; omega) (by (try simp only [List.length_append, List.length_cons, List.length_nil]); omega)); (case xb => rfl); (case xc => rfl); (case xe => rfl); try dsimp only [P0.d, Res.d, List.map_cons, List.map_nil, List.set_cons_zero, List.set_cons_succ, Nat.reduceAdd]) | ((first | refine aw_ways rfl ?_ ?_ | refine r_split rfl rfl rfl ?_ ?_) <;> intro hg_ <;> fail_if_success (exact Bool.noConfusion hg_)) <;> (try simp only [prn] at hg_) <;> (try first | contradiction | (exfalso; omega)))
  all_goals first
    | exact end_D [(2000001, 11)] rfl (by (repeat' (first | exact trivial | refine subHR_cons rfl ?_ ?_ | rfl | exact ovar1 (cell_ownN (by rw [List.length_append, hl, hpl])) | exact ob_sl rfl (ints_appB _ _).symm))) ⟨_, rfl, imp_refl rfl⟩
    | trace_state
set_option maxRecDepth 100000 in
set_option maxHeartbeats 2000000 in
theorem f_implEdgeBody (e : E3) (h1 : fits e.1 = true) (h2 : fits e.2.1 = true) (h3 : fits e.2.2 = true) : FnO Try.prog 77 [edgeP e] 3 1 (ints (edgeB e.1 e.2.1 e.2.2)) := by
  obtain ⟨a, b, c⟩ := e
  dsimp only at h1 h2 h3 ⊢
  have F1 := f_fits a
  have F2 := f_fits b
  have F3 := f_fits c
  rw [h1] at F1
  rw [h2] at F2
  rw [h3] at F3
  have la := enc_len a
  have lb := enc_len b
  have K1 := f_put0 a h1 true
  have K2 := f_putO (enc a) b h2 (by omega)
  have K3 := f_putO (enc a ++ enc b) c h3 (by rw [List.length_append]; omega)
  unfold edgeB
  rw [h1, h2, h3]
  simp only [Bool.and_self, if_true]
  have hl := ints_len (enc a ++ enc b ++ enc c)
  generalize enc a ++ enc b ++ enc c = X at *
  generalize enc a ++ enc b = Y at *
  generalize enc a = Z at *
  refine fn_ofO Try.func77 (by kernel_rfl) rfl Try.ntmps77 rfl rfl ?_; simp only [argEnv, P0.d, Nat.reduceAdd, List.map_cons, List.map_nil, edgeP]
  repeat' (first | (with_reducible first | refine aw_seq ?_ | refine thn_normal ?_ | refine thn_ret ?_ | refine thn_exit ?_ | refine blk_normal ?_ | refine blk_ret ?_ | refine blk_hit ?_ | refine blk_miss rfl ?_ | refine aw_block ?_ | refine aw_ret ?_ | refine aw_skip ?_ | refine aw_exit ?_ | refine w_nil ?_ | refine x_nil (by kernel_rfl) ?_) | refine aw_region ?_ | refine aw_region_draw (by kernel_rfl) ?_ | refine aw_yes rfl ?_ | refine aw_no rfl ?_ | ((with_reducible refine w_seq ?_); first | refine r_q tbOk rfl rfl rfl rfl ?_ | refine r_e tbOk rfl rfl rfl rfl rfl ?_ | refine r_yes tbOk rfl rfl rfl rfl rfl rfl ?_ | refine w_no rfl rfl (lookO_spec rfl) rfl rfl rfl ?_ | refine w_un rfl rfl (lookO_spec rfl) rfl rfl ?_) | ((with_reducible refine w_drw ?_); first | refine rx_q tbOk rfl rfl rfl rfl ?_ | refine rx_e tbOk rfl rfl rfl rfl rfl ?_ | refine rx_yes tbOk rfl rfl rfl rfl rfl rfl ?_ | refine x_no rfl rfl (lookO_spec rfl) rfl rfl rfl ?_ | refine x_un rfl rfl (lookO_spec rfl) rfl rfl ?_) | ((first | refine' w_q rfl rfl ?xa rfl ?_ | refine' v_q rfl rfl ?xa rfl ?_ | refine' w_yes rfl rfl (lookO_spec rfl) rfl ?xa rfl ?_ | refine' v_yes rfl rfl (lookO_spec rfl) rfl ?xa rfl ?_); case xa => first | exact k_call F1 rfl ⟨asA_r (evO_spec rfl), trivial⟩ | exact k_call F2 rfl ⟨asA_r (evO_spec rfl), trivial⟩ | exact k_call F3 rfl ⟨asA_r (evO_spec rfl), trivial⟩) | ((first | refine' w_e rfl ?xa ?xb ?xc ?xe ?_ | refine' v_e rfl ?xa ?xb ?xc ?xe ?_); (case xa => first | exact at_dst 22 rfl (e_callS [(1000000000, 3), (2000001, 501)] K1 rfl ⟨asD_ren (evO_spec rfl), by rw [evO_spec rfl]; exact asD_r rfl, trivial⟩ (by (repeat' (first | exact trivial | refine subHR_cons rfl ?_ ?_ | rfl))) rfl) | exact at_dst 25 rfl (e_callS [(1000000000, 3), (1000001, 501), (2000001, 502)] K2 rfl ⟨asD_ren (evO_spec rfl), by rw [evO_spec rfl]; exact asD_r rfl, trivial⟩ (by (repeat' (first | exact trivial | refine subHR_cons rfl ?_ ?_ | rfl))) rfl) | exact at_dst 28 rfl (e_callS [(1000000000, 3), (1000001, 502), (2000001, 503)] K3 rfl ⟨asD_ren (evO_spec rfl), by rw [evO_spec rfl]; exact asD_r rfl, trivial⟩ (by (repeat' (first | exact trivial | refine subHR_cons rfl ?_ ?_ | rfl))) rfl)); (case xb => rfl); (case xc => rfl); (case xe => rfl); try dsimp only [P0.d, Res.d, List.map_cons, List.map_nil, List.set_cons_zero, List.set_cons_succ, Nat.reduceAdd]) | ((first | refine aw_ways rfl ?_ ?_ | refine r_split rfl rfl rfl ?_ ?_) <;> intro hg_ <;> fail_if_success (exact Bool.noConfusion hg_)) <;> (try simp only [prn] at hg_) <;> (try first | contradiction | (exfalso; omega)))
  all_goals first
    | exact ret_own rfl rfl hl.symm
    | trace_state
/-! ### frames -/
theorem own_row {w' : World} {base c : Nat} {ao : Option Addr} {nil : Bool} {xs : List Int} {E : TypeId} (h : Own w' base E 1 ao xs.length c (iv xs)) (hn : nil = true ↔ ao = none) : (row nil 1 (ints xs)).p ⟨w', fun b => b < base⟩ (.slice ao xs.length c) := by
  refine (row_p (c := ⟨w', fun b => b < base⟩)).2 ⟨ao, c, by rw [ints_len], by rw [ints_len]; exact h.cap_, hn, fun e => ?_, fun hp => ?_⟩
  · rcases h.form_ with ⟨_, _, h0⟩ | ⟨g, h1, _⟩
    · exact h0
    · rw [e] at h1; cases h1
  · rw [ints_len] at hp
    rcases h.form_ with ⟨_, h0, _⟩ | ⟨g, h1, h2, h3⟩
    · omega
    · obtain ⟨_, hs⟩ := h.src
      obtain ⟨b, o, hb, hc⟩ := hs hp
      refine ⟨b, o, hb, ?_, ?_, fun i e he => ?_⟩
      · rw [hb] at h1; injection h1 with h1; injection h1 with h1; show b < w'.heap.size; omega
      · rw [hb] at h1; injection h1 with h1; injection h1 with h1; show ¬ b < base; omega
      · unfold ints at he
        rw [List.getElem?_map, Option.map_eq_some_iff] at he
        obtain ⟨z, hz1, rfl⟩ := he
        refine ⟨rfl, fun j r hj => ?_⟩
        match j, hj with
        | 0, hj =>
          obtain rfl : int z = r := by simpa [P0.rs] using hj
          refine ⟨.int .i64 z, ?_, (val_p (c := ⟨w', fun b => b < base⟩)).2 ⟨rfl, rfl⟩⟩
          show w'.cell? ⟨b, o + i * 1 + 0, none⟩ = _
          rw [Nat.mul_one, Nat.add_zero]
          exact hc i _ (by unfold iv; rw [List.getElem?_map, hz1]; rfl)
        | j + 1, hj => simp [P0.rs] at hj
theorem f_implFrame (nil : Bool) (xs : List Int) : Fn Try.prog 85 [.one (row nil 1 (ints xs))] (.v (.one (row (!bodyOk xs) 1 (ints (frameOf xs))))) :=
  fn_lift Try.func85 (by kernel_rfl) rfl fun ao b o c w hl ha hi => by
    have hS : Sl w ao xs := ⟨by unfold iv; rw [List.length_map]; omega, fun h => by
      obtain rfl : ao = some ⟨b, o, none⟩ := ha.resolve_left (by omega)
      refine ⟨b, o, rfl, fun j u hu => ?_⟩
      unfold iv at hu
      rw [List.getElem?_map, Option.map_eq_some_iff] at hu
      obtain ⟨z, hz, rfl⟩ := hu
      have hj := (List.getElem?_eq_some_iff.1 hz).1
      rw [hi j hj, List.getD_eq_getElem?_getD, hz]; rfl⟩
    refine (implFrameOf ao c xs w hl hS).mono ?_
    rintro e w' ⟨ao', c', rfl, hown, hb, hn⟩
    refine ⟨_, rfl, own_row hown ?_, hb⟩
    rw [hn]; cases bodyOk xs <;> simp
end Go.Proofs.Ytihpchbkodihpaa.Abs
