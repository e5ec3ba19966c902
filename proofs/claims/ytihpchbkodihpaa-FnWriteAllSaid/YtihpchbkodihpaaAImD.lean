/- Frames and graphs as bytes by states: the program's JoinFrames, GraphBytes. No statement of the seat is proved here. -/
import Derived.Test.YtihpchbkodihpaaTy
import Derived.Lib.Hide
import Derived.Test.YtihpchbkodihpaaAImC
set_option linter.unusedSimpArgs false
set_option linter.unusedVariables false
namespace Go.Proofs.Ytihpchbkodihpaa.Abs
open Go.RowKit
open R (val row ref)

theorem joinR_ne {bs : List (List Int)} : ∀ {acc : List Int}, acc ≠ [] → (joinR bs acc).2 = true → (joinR bs acc).1 ≠ [] := by
  induction bs with
  | nil => intro acc h _; exact h
  | cons b bs ih =>
    intro acc h h2
    rw [joinR_cons] at h2 ⊢
    split at h2
    · rename_i hc
      rw [if_pos hc]
      exact ih (by simp [h]) h2
    · cases h2
set_option maxRecDepth 100000 in
set_option maxHeartbeats 4000000 in
theorem f_implJoin (nil : Bool) (bs : List (List Int)) (hl : bs.length ≤ 1048576) :
    Fn Try.prog 46 [.one (row nil 1 (rowsI bs))] (.tup [.one (row (decide ((joinR bs []).1 = [])) 1 (ints (joinR bs []).1)), .one (bool (joinR bs []).2)]) := by
  have hlen := rowsI_len bs
  refine fn_of (l := [.tmp 2, .tmp 3]) Try.func46 (by kernel_rfl) rfl Try.ntmps46 rfl rfl ?_; simp only [argEnv, P0.d, Nat.reduceAdd]
  repeat' (first | (with_reducible first | refine aw_seq ?_ | refine thn_normal ?_ | refine thn_ret ?_ | refine thn_exit ?_ | refine blk_normal ?_ | refine blk_ret ?_ | refine blk_hit ?_ | refine blk_miss rfl ?_ | refine aw_block ?_ | refine aw_ret ?_ | refine aw_skip ?_ | refine aw_exit ?_ | refine w_nil ?_ | refine x_nil (by kernel_rfl) ?_) | refine aw_region ?_ | refine aw_region_draw (by kernel_rfl) ?_ | refine aw_yes rfl ?_ | refine aw_no rfl ?_ | ((with_reducible refine w_seq ?_); first | refine r_q tbOk rfl rfl rfl rfl ?_ | refine r_e tbOk rfl rfl rfl rfl rfl ?_ | refine r_yes tbOk rfl rfl rfl rfl rfl rfl ?_ | refine w_no rfl rfl (lookO_spec rfl) rfl rfl rfl ?_ | refine w_un rfl rfl (lookO_spec rfl) rfl rfl ?_) | ((with_reducible refine w_drw ?_); first | refine rx_q tbOk rfl rfl rfl rfl ?_ | refine rx_e tbOk rfl rfl rfl rfl rfl ?_ | refine rx_yes tbOk rfl rfl rfl rfl rfl rfl ?_ | refine x_no rfl rfl (lookO_spec rfl) rfl rfl rfl ?_ | refine x_un rfl rfl (lookO_spec rfl) rfl rfl ?_) | ((first | refine aw_ways rfl ?_ ?_ | refine r_split rfl rfl rfl ?_ ?_) <;> intro hg_ <;> fail_if_success (exact Bool.noConfusion hg_)) <;> (try simp only [prn] at hg_) <;> (try first | contradiction | (exfalso; omega)))
  obtain ⟨S1, hS1⟩ : ∃ S1 : Nat × List Int → St, ∀ x, S1 x = mkS 31 [(10, .one (.r true (int x.1))), (9, .one (.r true (int bs.length))), (8, .one (.r false (row nil 1 (rowsI bs)))), (4, .one (.own 100 0 x.2.length 1))] [(100, .sl 3 1 true (ints x.2))] := ⟨_, fun _ => rfl⟩
  obtain ⟨S0, hS0⟩ : ∃ S0 : St, S0 = mkS 31 [(10, .one (.r true (int 0))), (9, .one (.r true (int bs.length))), (8, .one (.r false (row nil 1 (rowsI bs)))), (4, .one (.r true (row true 0 [])))] [] := ⟨_, rfl⟩
  obtain ⟨F, hF0, hF1⟩ : ∃ F : Option (Nat × List Int) → St, F none = S0 ∧ ∀ x, F (some x) = S1 x := ⟨fun o => match o with | none => S0 | some x => S1 x, rfl, fun _ => rfl⟩
  refine aw_loopI (fun o : Option (Nat × List Int) => ∀ x, o = some x → x.1 ≤ bs.length ∧ joinR bs [] = joinR (bs.drop x.1) x.2 ∧ x.2.length ≤ 2000 ∧ x.2 ≠ []) F (fun o => match o with | none => bs.length + 1 | some x => bs.length - x.1) none (fun x h => by cases h) (by rw [hF0, hS0]; (refine weak_ren [] rfl ?_ ?_ <;> repeat' (first | exact trivial | refine subR_cons rfl ?_ ?_ | refine subHR_cons rfl ?_ ?_ | rfl | (refine d_int ?_; (first | rfl | omega | (rw [IntWalk.i64_in _ (by omega)] <;> omega) | (simp; done) | (simp; omega))) | (refine d_bool ?_; (first | (simp_all; done) | (rw [Bool.eq_iff_iff]; simp_all; done) | (rw [Bool.eq_iff_iff]; simp_all; omega) | (rw [Bool.eq_iff_iff]; simp; omega))) | exact d_int (by rw [hlen])))) ?_
  intro o ho
  cases o with
  | none =>
    rw [hF0, hS0]
    by_cases hlt : 0 < bs.length
    · have hix := rowsI_at hlt
      have hE : joinR bs [] = if bodyOk bs[0] = true ∧ ([] : List Int).length + (frameOf bs[0]).length ≤ 2000 then joinR (bs.drop 1) ([] ++ frameOf bs[0]) else ([], false) := by
        rw [← joinR_cons, ← List.drop_eq_getElem_cons hlt, List.drop_zero]
      generalize bs[0] = b at *
      have KF := f_implFrame false b
      have hz := frame_zero b
      have hf := frame_len b
      have hfl := ints_len (frameOf b)
      have hw : IntKind.i64.wrap ((0 : Int) + 1) = ((1 : Nat) : Int) := by decide
      have hw2 : IntKind.i64.wrap (((([] : List P0).length : Nat) : Int) + ((ints (frameOf b)).length : Int)) = ((frameOf b).length : Int) := by show IntKind.i64.wrap (((0 : Nat) : Int) + _) = _; rw [hfl, IntWalk.i64_in _ (by omega)]; omega
      have hfin : bodyOk b = true → ∀ s' : St, Weak s' (S1 (1, frameOf b)) → ∃ x' : Option (Nat × List Int), (∀ x, x' = some x → x.1 ≤ bs.length ∧ joinR bs [] = joinR (bs.drop x.1) x.2 ∧ x.2.length ≤ 2000 ∧ x.2 ≠ []) ∧ Weak s' (F x') ∧ (match x' with | none => bs.length + 1 | some x => bs.length - x.1) < bs.length + 1 := fun hc s' h => ⟨some (1, frameOf b), fun x hx => by
        injection hx with hx; subst hx
        refine ⟨hlt, ?_, by dsimp only; omega, ?_⟩
        · rw [hE, if_pos ⟨hc, by simp; omega⟩]; rfl
        · intro h
          have h : frameOf b = [] := h
          have := hz.1 (by rw [h]; rfl)
          rw [hc] at this
          exact Bool.noConfusion this, (by rw [hF1]; exact h), by dsimp only; omega⟩
      have hno : bodyOk b = false → joinR bs [] = ([], false) := fun h => by rw [hE, if_neg (fun hc => by rw [h] at hc; cases hc.1)]
      rw [hS1] at hfin
      clear hE hF0 hF1 hS0 hS1 ho
      generalize joinR bs [] = J at *
      generalize frameOf b = fr at *
      generalize bodyOk b = bo at *
      cases bo
      · rw [hno rfl]
        repeat' (first | (with_reducible first | refine aw_seq ?_ | refine thn_normal ?_ | refine thn_ret ?_ | refine thn_exit ?_ | refine blk_normal ?_ | refine blk_ret ?_ | refine blk_hit ?_ | refine blk_miss rfl ?_ | refine aw_block ?_ | refine aw_ret ?_ | refine aw_skip ?_ | refine aw_exit ?_ | refine w_nil ?_ | refine x_nil (by kernel_rfl) ?_) | refine aw_region ?_ | refine aw_region_draw (by kernel_rfl) ?_ | refine aw_yes rfl ?_ | refine aw_no rfl ?_ | ((with_reducible refine w_seq ?_); first | refine r_q tbOk rfl rfl rfl rfl ?_ | refine r_e tbOk rfl rfl rfl rfl rfl ?_ | refine r_yes tbOk rfl rfl rfl rfl rfl rfl ?_ | refine w_no rfl rfl (lookO_spec rfl) rfl rfl rfl ?_ | refine w_un rfl rfl (lookO_spec rfl) rfl rfl ?_) | ((with_reducible refine w_drw ?_); first | refine rx_q tbOk rfl rfl rfl rfl ?_ | refine rx_e tbOk rfl rfl rfl rfl rfl ?_ | refine rx_yes tbOk rfl rfl rfl rfl rfl rfl ?_ | refine x_no rfl rfl (lookO_spec rfl) rfl rfl rfl ?_ | refine x_un rfl rfl (lookO_spec rfl) rfl rfl ?_) | ((first | refine' w_q rfl rfl ?xa rfl ?_ | refine' v_q rfl rfl ?xa rfl ?_ | refine' w_yes rfl rfl (lookO_spec rfl) rfl ?xa rfl ?_ | refine' v_yes rfl rfl (lookO_spec rfl) rfl ?xa rfl ?_); case xa => first | exact k_index tbOk rfl rfl rfl rfl (by omega) (by exact hix) | exact k_call KF rfl ⟨asA_r (evO_spec rfl), trivial⟩ | exact k_nil_eq tbOk rfl rfl rfl rfl) | ((first | refine aw_ways rfl ?_ ?_ | refine r_split rfl rfl rfl ?_ ?_) <;> intro hg_ <;> fail_if_success (exact Bool.noConfusion hg_)) <;> (try simp only [prn] at hg_) <;> (try first | contradiction | (exfalso; omega)))
        all_goals first
          | exact ret_2 (rv_tmp rfl (dres_one cres_nil)) (rv_tmp rfl (dres_bool rfl))
          | trace_state
      · have hpos : 0 < fr.length := Nat.pos_of_ne_zero (fun h => Bool.noConfusion (hz.1 h))
        repeat' (first | (with_reducible first | refine aw_seq ?_ | refine thn_normal ?_ | refine thn_ret ?_ | refine thn_exit ?_ | refine blk_normal ?_ | refine blk_ret ?_ | refine blk_hit ?_ | refine blk_miss rfl ?_ | refine aw_block ?_ | refine aw_ret ?_ | refine aw_skip ?_ | refine aw_exit ?_ | refine w_nil ?_ | refine x_nil (by kernel_rfl) ?_) | refine aw_region ?_ | refine aw_region_draw (by kernel_rfl) ?_ | refine aw_yes rfl ?_ | refine aw_no rfl ?_ | ((with_reducible refine w_seq ?_); first | refine r_q tbOk rfl rfl rfl rfl ?_ | refine r_e tbOk rfl rfl rfl rfl rfl ?_ | refine r_yes tbOk rfl rfl rfl rfl rfl rfl ?_ | refine w_no rfl rfl (lookO_spec rfl) rfl rfl rfl ?_ | refine w_un rfl rfl (lookO_spec rfl) rfl rfl ?_) | ((with_reducible refine w_drw ?_); first | refine rx_q tbOk rfl rfl rfl rfl ?_ | refine rx_e tbOk rfl rfl rfl rfl rfl ?_ | refine rx_yes tbOk rfl rfl rfl rfl rfl rfl ?_ | refine x_no rfl rfl (lookO_spec rfl) rfl rfl rfl ?_ | refine x_un rfl rfl (lookO_spec rfl) rfl rfl ?_) | ((first | refine' w_q rfl rfl ?xa rfl ?_ | refine' v_q rfl rfl ?xa rfl ?_ | refine' w_yes rfl rfl (lookO_spec rfl) rfl ?xa rfl ?_ | refine' v_yes rfl rfl (lookO_spec rfl) rfl ?xa rfl ?_); case xa => first | exact k_index tbOk rfl rfl rfl rfl (by omega) (by exact hix) | exact k_call KF rfl ⟨asA_r (evO_spec rfl), trivial⟩ | exact k_nil_eq tbOk rfl rfl rfl rfl) | ((first | refine' w_e rfl ?xa ?xb ?xc ?xe ?_ | refine' v_e rfl ?xa ?xb ?xc ?xe ?_); (case xa => exact e_append_nil tlOk rfl rfl rfl rfl rfl (slD_plain slD_row (ints_plain _)) (by omega) (by simp only [maxLen]; omega) (by omega)); (case xb => rfl); (case xc => rfl); (case xe => rfl); try dsimp only [P0.d, Res.d, List.map_cons, List.map_nil, List.set_cons_zero, List.set_cons_succ, Nat.reduceAdd]) | ((first | refine aw_ways rfl ?_ ?_ | refine r_split rfl rfl rfl ?_ ?_) <;> intro hg_ <;> fail_if_success (exact Bool.noConfusion hg_)) <;> (try simp only [prn] at hg_) <;> (try first | contradiction | (exfalso; omega)))
        all_goals first
          | (exfalso; rw [hw2] at *; omega)
          | (exfalso; simp only [Bool.not_true] at *; first | contradiction | omega)
          | (refine hfin rfl _ ?_
             (refine weak_ren [(100, 28)] rfl ?_ ?_ <;> repeat' (first | exact trivial | refine subR_cons rfl ?_ ?_ | refine subHR_cons rfl ?_ ?_ | rfl | (refine d_int ?_; (first | rfl | omega | (rw [IntWalk.i64_in _ (by omega)] <;> omega) | (simp; done) | (simp; omega))) | (refine d_bool ?_; (first | (simp_all; done) | (rw [Bool.eq_iff_iff]; simp_all; done) | (rw [Bool.eq_iff_iff]; simp_all; omega) | (rw [Bool.eq_iff_iff]; simp; omega))) | exact d_int hw | exact d_own (by rw [hfl]))))
          | trace_state
    · have hb : bs = [] := List.eq_nil_of_length_eq_zero (by omega)
      clear hF0 hF1 hS0 hS1 ho
      subst hb
      repeat' (first | (with_reducible first | refine aw_seq ?_ | refine thn_normal ?_ | refine thn_ret ?_ | refine thn_exit ?_ | refine blk_normal ?_ | refine blk_ret ?_ | refine blk_hit ?_ | refine blk_miss rfl ?_ | refine aw_block ?_ | refine aw_ret ?_ | refine aw_skip ?_ | refine aw_exit ?_ | refine w_nil ?_ | refine x_nil (by kernel_rfl) ?_) | refine aw_region ?_ | refine aw_region_draw (by kernel_rfl) ?_ | refine aw_yes rfl ?_ | refine aw_no rfl ?_ | ((with_reducible refine w_seq ?_); first | refine r_q tbOk rfl rfl rfl rfl ?_ | refine r_e tbOk rfl rfl rfl rfl rfl ?_ | refine r_yes tbOk rfl rfl rfl rfl rfl rfl ?_ | refine w_no rfl rfl (lookO_spec rfl) rfl rfl rfl ?_ | refine w_un rfl rfl (lookO_spec rfl) rfl rfl ?_) | ((with_reducible refine w_drw ?_); first | refine rx_q tbOk rfl rfl rfl rfl ?_ | refine rx_e tbOk rfl rfl rfl rfl rfl ?_ | refine rx_yes tbOk rfl rfl rfl rfl rfl rfl ?_ | refine x_no rfl rfl (lookO_spec rfl) rfl rfl rfl ?_ | refine x_un rfl rfl (lookO_spec rfl) rfl rfl ?_) | ((first | refine aw_ways rfl ?_ ?_ | refine r_split rfl rfl rfl ?_ ?_) <;> intro hg_ <;> fail_if_success (exact Bool.noConfusion hg_)) <;> (try simp only [prn] at hg_) <;> (try first | contradiction | (exfalso; omega)))
      all_goals first
        | exact ret_2 (rv_tmp rfl (dres_one cres_nil)) (rv_tmp rfl (dres_bool rfl))
        | (exfalso; simp at *; done)
        | trace_state
  | some x =>
    obtain ⟨k, acc⟩ := x
    obtain ⟨hk, hE, ha, hne⟩ := ho _ rfl
    dsimp only at hk hE ha hne
    rw [hF1, hS1]
    dsimp only
    have hac := (ints_len acc).symm
    by_cases hlt : k < bs.length
    · have hix := rowsI_at hlt
      rw [List.drop_eq_getElem_cons hlt, joinR_cons] at hE
      generalize bs[k] = b at *
      have KF := f_implFrame false b
      have hz := frame_zero b
      have hf := frame_len b
      have hfl := ints_len (frameOf b)
      have hw : IntKind.i64.wrap ((k : Int) + 1) = ((k + 1 : Nat) : Int) := by rw [IntWalk.i64_in _ (by omega)]; omega
      have hw2 : IntKind.i64.wrap ((acc.length : Int) + ((ints (frameOf b)).length : Int)) = ((acc.length + (frameOf b).length : Nat) : Int) := by rw [hfl, IntWalk.i64_in _ (by omega)]; omega
      have hfin : bodyOk b = true ∧ acc.length + (frameOf b).length ≤ 2000 → ∀ s' : St, Weak s' (S1 (k + 1, acc ++ frameOf b)) → ∃ x' : Option (Nat × List Int), (∀ x, x' = some x → x.1 ≤ bs.length ∧ joinR bs [] = joinR (bs.drop x.1) x.2 ∧ x.2.length ≤ 2000 ∧ x.2 ≠ []) ∧ Weak s' (F x') ∧ (match x' with | none => bs.length + 1 | some x => bs.length - x.1) < bs.length - k := fun hc s' h => ⟨some (k + 1, acc ++ frameOf b), fun x hx => by
        injection hx with hx; subst hx
        exact ⟨hlt, by rw [hE, if_pos hc], by dsimp only; rw [List.length_append]; exact hc.2, by simp [hne]⟩, by rw [hF1]; exact h, by dsimp only; omega⟩
      have hno : ¬ (bodyOk b = true ∧ acc.length + (frameOf b).length ≤ 2000) → joinR bs [] = ([], false) := fun h => by rw [hE, if_neg h]
      rw [hS1] at hfin
      clear hE hF0 hF1 hS0 hS1 ho
      generalize joinR bs [] = J at *
      generalize frameOf b = fr at *
      generalize bodyOk b = bo at *
      cases bo
      · rw [hno (by simp)]
        repeat' (first | (with_reducible first | refine aw_seq ?_ | refine thn_normal ?_ | refine thn_ret ?_ | refine thn_exit ?_ | refine blk_normal ?_ | refine blk_ret ?_ | refine blk_hit ?_ | refine blk_miss rfl ?_ | refine aw_block ?_ | refine aw_ret ?_ | refine aw_skip ?_ | refine aw_exit ?_ | refine w_nil ?_ | refine x_nil (by kernel_rfl) ?_) | refine aw_region ?_ | refine aw_region_draw (by kernel_rfl) ?_ | refine aw_yes rfl ?_ | refine aw_no rfl ?_ | ((with_reducible refine w_seq ?_); first | refine r_q tbOk rfl rfl rfl rfl ?_ | refine r_e tbOk rfl rfl rfl rfl rfl ?_ | refine r_yes tbOk rfl rfl rfl rfl rfl rfl ?_ | refine w_no rfl rfl (lookO_spec rfl) rfl rfl rfl ?_ | refine w_un rfl rfl (lookO_spec rfl) rfl rfl ?_) | ((with_reducible refine w_drw ?_); first | refine rx_q tbOk rfl rfl rfl rfl ?_ | refine rx_e tbOk rfl rfl rfl rfl rfl ?_ | refine rx_yes tbOk rfl rfl rfl rfl rfl rfl ?_ | refine x_no rfl rfl (lookO_spec rfl) rfl rfl rfl ?_ | refine x_un rfl rfl (lookO_spec rfl) rfl rfl ?_) | ((first | refine' w_q rfl rfl ?xa rfl ?_ | refine' v_q rfl rfl ?xa rfl ?_ | refine' w_yes rfl rfl (lookO_spec rfl) rfl ?xa rfl ?_ | refine' v_yes rfl rfl (lookO_spec rfl) rfl ?xa rfl ?_); case xa => first | exact k_index tbOk rfl rfl rfl rfl (by omega) (by exact hix) | exact k_call KF rfl ⟨asA_r (evO_spec rfl), trivial⟩ | exact k_nil_eq tbOk rfl rfl rfl rfl) | ((first | refine aw_ways rfl ?_ ?_ | refine r_split rfl rfl rfl ?_ ?_) <;> intro hg_ <;> fail_if_success (exact Bool.noConfusion hg_)) <;> (try simp only [prn] at hg_) <;> (try first | contradiction | (exfalso; omega)))
        all_goals first
          | exact ret_2 (rv_tmp rfl (dres_one cres_nil)) (rv_tmp rfl (dres_bool rfl))
          | trace_state
      · by_cases hsum : acc.length + fr.length ≤ 2000
        · have hfin' := hfin ⟨rfl, hsum⟩
          clear hfin hno
          repeat' (first | (with_reducible first | refine aw_seq ?_ | refine thn_normal ?_ | refine thn_ret ?_ | refine thn_exit ?_ | refine blk_normal ?_ | refine blk_ret ?_ | refine blk_hit ?_ | refine blk_miss rfl ?_ | refine aw_block ?_ | refine aw_ret ?_ | refine aw_skip ?_ | refine aw_exit ?_ | refine w_nil ?_ | refine x_nil (by kernel_rfl) ?_) | refine aw_region ?_ | refine aw_region_draw (by kernel_rfl) ?_ | refine aw_yes rfl ?_ | refine aw_no rfl ?_ | ((with_reducible refine w_seq ?_); first | refine r_q tbOk rfl rfl rfl rfl ?_ | refine r_e tbOk rfl rfl rfl rfl rfl ?_ | refine r_yes tbOk rfl rfl rfl rfl rfl rfl ?_ | refine w_no rfl rfl (lookO_spec rfl) rfl rfl rfl ?_ | refine w_un rfl rfl (lookO_spec rfl) rfl rfl ?_) | ((with_reducible refine w_drw ?_); first | refine rx_q tbOk rfl rfl rfl rfl ?_ | refine rx_e tbOk rfl rfl rfl rfl rfl ?_ | refine rx_yes tbOk rfl rfl rfl rfl rfl rfl ?_ | refine x_no rfl rfl (lookO_spec rfl) rfl rfl rfl ?_ | refine x_un rfl rfl (lookO_spec rfl) rfl rfl ?_) | ((first | refine' w_q rfl rfl ?xa rfl ?_ | refine' v_q rfl rfl ?xa rfl ?_ | refine' w_yes rfl rfl (lookO_spec rfl) rfl ?xa rfl ?_ | refine' v_yes rfl rfl (lookO_spec rfl) rfl ?xa rfl ?_); case xa => first | exact k_index tbOk rfl rfl rfl rfl (by omega) (by exact hix) | exact k_call KF rfl ⟨asA_r (evO_spec rfl), trivial⟩ | exact k_nil_eq tbOk rfl rfl rfl rfl) | ((first | refine' w_e rfl ?xa ?xb ?xc ?xe ?_ | refine' v_e rfl ?xa ?xb ?xc ?xe ?_); (case xa => exact e_append tlOk rfl rfl rfl rfl rfl rfl (slD_plain slD_row (ints_plain _)) hac (by simp only [maxLen, List.length_append, List.length_cons, List.length_nil]; omega) (by (try simp only [List.length_append, List.length_cons, List.length_nil]); omega)); (case xb => rfl); (case xc => rfl); (case xe => rfl); try dsimp only [P0.d, Res.d, List.map_cons, List.map_nil, List.set_cons_zero, List.set_cons_succ, Nat.reduceAdd]) | ((first | refine aw_ways rfl ?_ ?_ | refine r_split rfl rfl rfl ?_ ?_) <;> intro hg_ <;> fail_if_success (exact Bool.noConfusion hg_)) <;> (try simp only [prn] at hg_) <;> (try first | contradiction | (exfalso; omega)))
          all_goals first
            | (exfalso; rw [hw2] at *; omega)
            | (exfalso; simp only [Bool.not_true] at *; first | contradiction | omega)
            | (refine hfin' _ ?_
               (refine weak_ren [(100, 28)] rfl ?_ ?_ <;> repeat' (first | exact trivial | refine subR_cons rfl ?_ ?_ | refine subHR_cons rfl ?_ ?_ | rfl | (refine d_int ?_; (first | rfl | omega | (rw [IntWalk.i64_in _ (by omega)] <;> omega) | (simp; done) | (simp; omega))) | (refine d_bool ?_; (first | (simp_all; done) | (rw [Bool.eq_iff_iff]; simp_all; done) | (rw [Bool.eq_iff_iff]; simp_all; omega) | (rw [Bool.eq_iff_iff]; simp; omega))) | exact d_int hw | exact d_own (by simp only [List.length_append, ints_len]) | exact ob_sl rfl (ints_appB _ _).symm)))
            | trace_state
        · rw [hno (by rintro ⟨_, h⟩; exact hsum h)]
          clear hfin hno
          repeat' (first | (with_reducible first | refine aw_seq ?_ | refine thn_normal ?_ | refine thn_ret ?_ | refine thn_exit ?_ | refine blk_normal ?_ | refine blk_ret ?_ | refine blk_hit ?_ | refine blk_miss rfl ?_ | refine aw_block ?_ | refine aw_ret ?_ | refine aw_skip ?_ | refine aw_exit ?_ | refine w_nil ?_ | refine x_nil (by kernel_rfl) ?_) | refine aw_region ?_ | refine aw_region_draw (by kernel_rfl) ?_ | refine aw_yes rfl ?_ | refine aw_no rfl ?_ | ((with_reducible refine w_seq ?_); first | refine r_q tbOk rfl rfl rfl rfl ?_ | refine r_e tbOk rfl rfl rfl rfl rfl ?_ | refine r_yes tbOk rfl rfl rfl rfl rfl rfl ?_ | refine w_no rfl rfl (lookO_spec rfl) rfl rfl rfl ?_ | refine w_un rfl rfl (lookO_spec rfl) rfl rfl ?_) | ((with_reducible refine w_drw ?_); first | refine rx_q tbOk rfl rfl rfl rfl ?_ | refine rx_e tbOk rfl rfl rfl rfl rfl ?_ | refine rx_yes tbOk rfl rfl rfl rfl rfl rfl ?_ | refine x_no rfl rfl (lookO_spec rfl) rfl rfl rfl ?_ | refine x_un rfl rfl (lookO_spec rfl) rfl rfl ?_) | ((first | refine' w_q rfl rfl ?xa rfl ?_ | refine' v_q rfl rfl ?xa rfl ?_ | refine' w_yes rfl rfl (lookO_spec rfl) rfl ?xa rfl ?_ | refine' v_yes rfl rfl (lookO_spec rfl) rfl ?xa rfl ?_); case xa => first | exact k_index tbOk rfl rfl rfl rfl (by omega) (by exact hix) | exact k_call KF rfl ⟨asA_r (evO_spec rfl), trivial⟩ | exact k_nil_eq tbOk rfl rfl rfl rfl) | ((first | refine' w_e rfl ?xa ?xb ?xc ?xe ?_ | refine' v_e rfl ?xa ?xb ?xc ?xe ?_); (case xa => exact e_append tlOk rfl rfl rfl rfl rfl rfl (slD_plain slD_row (ints_plain _)) hac (by simp only [maxLen, List.length_append, List.length_cons, List.length_nil]; omega) (by (try simp only [List.length_append, List.length_cons, List.length_nil]); omega)); (case xb => rfl); (case xc => rfl); (case xe => rfl); try dsimp only [P0.d, Res.d, List.map_cons, List.map_nil, List.set_cons_zero, List.set_cons_succ, Nat.reduceAdd]) | ((first | refine aw_ways rfl ?_ ?_ | refine r_split rfl rfl rfl ?_ ?_) <;> intro hg_ <;> fail_if_success (exact Bool.noConfusion hg_)) <;> (try simp only [prn] at hg_) <;> (try first | contradiction | (exfalso; omega)))
          all_goals first
            | (exfalso; rw [hw2] at *; omega)
            | exact ret_2 (rv_tmp rfl (dres_one cres_nil)) (rv_tmp rfl (dres_bool rfl))
            | trace_state
    · obtain rfl : k = bs.length := by omega
      rw [List.drop_length] at hE
      rw [hE, show joinR [] acc = (acc, true) from rfl]
      dsimp only
      rw [show decide (acc = []) = false by simp [hne]]
      clear hE hF0 hF1 hS0 hS1 ho
      repeat' (first | (with_reducible first | refine aw_seq ?_ | refine thn_normal ?_ | refine thn_ret ?_ | refine thn_exit ?_ | refine blk_normal ?_ | refine blk_ret ?_ | refine blk_hit ?_ | refine blk_miss rfl ?_ | refine aw_block ?_ | refine aw_ret ?_ | refine aw_skip ?_ | refine aw_exit ?_ | refine w_nil ?_ | refine x_nil (by kernel_rfl) ?_) | refine aw_region ?_ | refine aw_region_draw (by kernel_rfl) ?_ | refine aw_yes rfl ?_ | refine aw_no rfl ?_ | ((with_reducible refine w_seq ?_); first | refine r_q tbOk rfl rfl rfl rfl ?_ | refine r_e tbOk rfl rfl rfl rfl rfl ?_ | refine r_yes tbOk rfl rfl rfl rfl rfl rfl ?_ | refine w_no rfl rfl (lookO_spec rfl) rfl rfl rfl ?_ | refine w_un rfl rfl (lookO_spec rfl) rfl rfl ?_) | ((with_reducible refine w_drw ?_); first | refine rx_q tbOk rfl rfl rfl rfl ?_ | refine rx_e tbOk rfl rfl rfl rfl rfl ?_ | refine rx_yes tbOk rfl rfl rfl rfl rfl rfl ?_ | refine x_no rfl rfl (lookO_spec rfl) rfl rfl rfl ?_ | refine x_un rfl rfl (lookO_spec rfl) rfl rfl ?_) | ((first | refine aw_ways rfl ?_ ?_ | refine r_split rfl rfl rfl ?_ ?_) <;> intro hg_ <;> fail_if_success (exact Bool.noConfusion hg_)) <;> (try simp only [prn] at hg_) <;> (try first | contradiction | (exfalso; omega)))
      all_goals first
        | exact ret_2 (rv_tmp rfl (dres_one (cres_own0 (lookHO_spec rfl) hac))) (rv_tmp rfl (dres_bool rfl))
        | trace_state
set_option maxRecDepth 100000 in
set_option maxHeartbeats 4000000 in
theorem f_implGraphBytes (m : Int) (nil : Bool) (es : List E3) (hl : es.length ≤ 1048576) (hg : gOk m es = true) : Fn Try.prog 33 [graphP m nil es] (.v (.one (row false 1 (ints (bytesG m es))))) := by
  have KG := f_implGraphValid m nil es (by simp only [maxLen]; omega)
  have hlen := edges_len es
  rw [hg] at KG
  have h40 := gOk_len hg
  have hm := gOk_mC hg
  have hfm : fits m = true := (fits_iff m).2 ⟨by omega, by omega⟩
  have KE := f_implEncode m hfm
  have hfe := gOk_fits hg
  have hJ : joinR (bodiesG m es) [] = (bytesG m es, true) := by unfold joinR; rw [bytesG_join hg]
  have KJ := f_implJoin false (bodiesG m es) (by rw [bodies_len]; omega)
  have hne : bytesG m es ≠ [] := fun h => by
    have h1 := congrArg List.length h
    unfold bytesG bodiesG at h1
    rw [joined_cons, List.length_append] at h1
    have h2 := bodiesG_ok hg (enc m) (by simp [bodiesG])
    have := frame_pos h2
    rw [List.length_nil] at h1
    omega
  rw [hJ] at KJ
  dsimp only at KJ
  rw [show decide (bytesG m es = []) = false by simp [hne]] at KJ
  clear hJ hne
  refine fn_of (l := [.tmp 2]) Try.func33 (by kernel_rfl) rfl Try.ntmps33 rfl rfl ?_; simp only [argEnv, P0.d, Nat.reduceAdd, graphP, List.map_cons, List.map_nil]
  repeat' (first | (with_reducible first | refine aw_seq ?_ | refine thn_normal ?_ | refine thn_ret ?_ | refine thn_exit ?_ | refine blk_normal ?_ | refine blk_ret ?_ | refine blk_hit ?_ | refine blk_miss rfl ?_ | refine aw_block ?_ | refine aw_ret ?_ | refine aw_skip ?_ | refine aw_exit ?_ | refine w_nil ?_ | refine x_nil (by kernel_rfl) ?_) | refine aw_region ?_ | refine aw_region_draw (by kernel_rfl) ?_ | refine aw_yes rfl ?_ | refine aw_no rfl ?_ | ((with_reducible refine w_seq ?_); first | refine r_q tbOk rfl rfl rfl rfl ?_ | refine r_e tbOk rfl rfl rfl rfl rfl ?_ | refine r_yes tbOk rfl rfl rfl rfl rfl rfl ?_ | refine w_no rfl rfl (lookO_spec rfl) rfl rfl rfl ?_ | refine w_un rfl rfl (lookO_spec rfl) rfl rfl ?_) | ((with_reducible refine w_drw ?_); first | refine rx_q tbOk rfl rfl rfl rfl ?_ | refine rx_e tbOk rfl rfl rfl rfl rfl ?_ | refine rx_yes tbOk rfl rfl rfl rfl rfl rfl ?_ | refine x_no rfl rfl (lookO_spec rfl) rfl rfl rfl ?_ | refine x_un rfl rfl (lookO_spec rfl) rfl rfl ?_) | ((first | refine' w_q rfl rfl ?xa rfl ?_ | refine' v_q rfl rfl ?xa rfl ?_ | refine' w_yes rfl rfl (lookO_spec rfl) rfl ?xa rfl ?_ | refine' v_yes rfl rfl (lookO_spec rfl) rfl ?xa rfl ?_); case xa => exact k_call KG rfl ⟨asA_agg (evO_spec rfl) ⟨cAr_r, cAr_r, trivial⟩, trivial⟩) | ((first | refine' w_e rfl ?xa ?xb ?xc ?xe ?_ | refine' v_e rfl ?xa ?xb ?xc ?xe ?_); (case xa => first | exact e_callO KE rfl rfl ⟨asA_r (evO_spec rfl), trivial⟩ | exact e_buildF 13 tlOk rfl rfl rfl rfl rfl rfl rfl rfl); (case xb => rfl); (case xc => rfl); (case xe => rfl); try dsimp only [P0.d, Res.d, List.map_cons, List.map_nil, List.set_cons_zero, List.set_cons_succ, Nat.reduceAdd]) | ((first | refine aw_ways rfl ?_ ?_ | refine r_split rfl rfl rfl ?_ ?_) <;> intro hg_ <;> fail_if_success (exact Bool.noConfusion hg_)) <;> (try simp only [prn] at hg_) <;> (try first | contradiction | (exfalso; omega)))
  refine aw_loopI (fun k : Nat => k ≤ es.length) (fun k => mkS 34 [(18, .one (.r true (int k))), (17, .one (.r true (int es.length))), (16, .one (.r false (row nil 3 (edges es)))), (3, .one (.own 100 0 (k + 1) 1))] [(100, .sl 26 1 true (rowsI ((bodiesG m es).take (k + 1))))]) (fun k => es.length - k) 0 (Nat.zero_le _) (by (refine weak_ren [(100, 14)] rfl ?_ ?_ <;> repeat' (first | exact trivial | refine subR_cons rfl ?_ ?_ | refine subHR_cons rfl ?_ ?_ | rfl | (refine d_int ?_; (first | rfl | omega | (rw [IntWalk.i64_in _ (by omega)] <;> omega) | (simp; done) | (simp; omega))) | (refine d_bool ?_; (first | (simp_all; done) | (rw [Bool.eq_iff_iff]; simp_all; done) | (rw [Bool.eq_iff_iff]; simp_all; omega) | (rw [Bool.eq_iff_iff]; simp; omega))) | exact d_int (by rw [hlen])))) ?_
  intro k hk
  have hrl : k + 1 = (rowsI ((bodiesG m es).take (k + 1))).length := by rw [rowsI_len, List.length_take, bodies_len]; omega
  by_cases hlt : k < es.length
  · have hix := edges_at hlt
    obtain ⟨f1, f2, f3⟩ := hfe es[k] (List.getElem_mem hlt)
    have KB := f_implEdgeBody es[k] f1 f2 f3
    have hT := bodies_take m es hlt
    have hw : IntKind.i64.wrap ((k : Int) + 1) = ((k + 1 : Nat) : Int) := by rw [IntWalk.i64_in _ (by omega)]; omega
    have hS : rowsI ((bodiesG m es).take (k + 1 + 1)) = rowsI ((bodiesG m es).take (k + 1)) ++ [rowP (edgeB es[k].1 es[k].2.1 es[k].2.2)] := by rw [hT, rowsI_app]
    clear hT hfe f1 f2 f3
    generalize es[k] = e at *
    obtain ⟨e1, e2, e3⟩ := e
    dsimp only at KB hS
    generalize edgeB e1 e2 e3 = eb at *
    repeat' (first | (with_reducible first | refine aw_seq ?_ | refine thn_normal ?_ | refine thn_ret ?_ | refine thn_exit ?_ | refine blk_normal ?_ | refine blk_ret ?_ | refine blk_hit ?_ | refine blk_miss rfl ?_ | refine aw_block ?_ | refine aw_ret ?_ | refine aw_skip ?_ | refine aw_exit ?_ | refine w_nil ?_ | refine x_nil (by kernel_rfl) ?_) | refine aw_region ?_ | refine aw_region_draw (by kernel_rfl) ?_ | refine aw_yes rfl ?_ | refine aw_no rfl ?_ | ((with_reducible refine w_seq ?_); first | refine r_q tbOk rfl rfl rfl rfl ?_ | refine r_e tbOk rfl rfl rfl rfl rfl ?_ | refine r_yes tbOk rfl rfl rfl rfl rfl rfl ?_ | refine w_no rfl rfl (lookO_spec rfl) rfl rfl rfl ?_ | refine w_un rfl rfl (lookO_spec rfl) rfl rfl ?_) | ((with_reducible refine w_drw ?_); first | refine rx_q tbOk rfl rfl rfl rfl ?_ | refine rx_e tbOk rfl rfl rfl rfl rfl ?_ | refine rx_yes tbOk rfl rfl rfl rfl rfl rfl ?_ | refine x_no rfl rfl (lookO_spec rfl) rfl rfl rfl ?_ | refine x_un rfl rfl (lookO_spec rfl) rfl rfl ?_) | ((first | refine' w_q rfl rfl ?xa rfl ?_ | refine' v_q rfl rfl ?xa rfl ?_ | refine' w_yes rfl rfl (lookO_spec rfl) rfl ?xa rfl ?_ | refine' v_yes rfl rfl (lookO_spec rfl) rfl ?xa rfl ?_); case xa => exact k_index tbOk rfl rfl rfl rfl (by omega) (by exact hix)) | ((first | refine' w_e rfl ?xa ?xb ?xc ?xe ?_ | refine' v_e rfl ?xa ?xb ?xc ?xe ?_); (case xa => first | exact e_callO KB rfl rfl ⟨asA_agg (evO_spec rfl) ⟨cAr_r, cAr_r, cAr_r, trivial⟩, trivial⟩ | exact e_buildF 24 tlOk rfl rfl rfl rfl rfl rfl rfl rfl | exact e_append tlOk rfl rfl rfl rfl rfl rfl (slD_own (lookHO_spec rfl) rfl) hrl (by simp only [maxLen, List.length_append, List.length_cons, List.length_nil]; omega) (by simp only [List.length_append, List.length_cons, List.length_nil]; omega)); (case xb => rfl); (case xc => rfl); (case xe => rfl); try dsimp only [P0.d, Res.d, List.map_cons, List.map_nil, List.set_cons_zero, List.set_cons_succ, Nat.reduceAdd]) | ((first | refine aw_ways rfl ?_ ?_ | refine r_split rfl rfl rfl ?_ ?_) <;> intro hg_ <;> fail_if_success (exact Bool.noConfusion hg_)) <;> (try simp only [prn] at hg_) <;> (try first | contradiction | (exfalso; omega)))
    all_goals first
      | exact ⟨k + 1, by omega, by (refine weak_ren [(100, 26)] rfl ?_ ?_ <;> repeat' (first | exact trivial | refine subR_cons rfl ?_ ?_ | refine subHR_cons rfl ?_ ?_ | rfl | (refine d_int ?_; (first | rfl | omega | (rw [IntWalk.i64_in _ (by omega)] <;> omega) | (simp; done) | (simp; omega))) | (refine d_bool ?_; (first | (simp_all; done) | (rw [Bool.eq_iff_iff]; simp_all; done) | (rw [Bool.eq_iff_iff]; simp_all; omega) | (rw [Bool.eq_iff_iff]; simp; omega))) | exact d_int hw | exact d_own (by rw [← hrl]; rfl) | exact ob_sl rfl hS.symm)), by omega⟩
      | trace_state
  · obtain rfl : k = es.length := by omega
    have hE : (bodiesG m es).take (es.length + 1) = bodiesG m es := by rw [← bodies_len m es]; exact List.take_length
    rw [hE] at hrl ⊢
    clear hE
    generalize bytesG m es = X at *
    repeat' (first | (with_reducible first | refine aw_seq ?_ | refine thn_normal ?_ | refine thn_ret ?_ | refine thn_exit ?_ | refine blk_normal ?_ | refine blk_ret ?_ | refine blk_hit ?_ | refine blk_miss rfl ?_ | refine aw_block ?_ | refine aw_ret ?_ | refine aw_skip ?_ | refine aw_exit ?_ | refine w_nil ?_ | refine x_nil (by kernel_rfl) ?_) | refine aw_region ?_ | refine aw_region_draw (by kernel_rfl) ?_ | refine aw_yes rfl ?_ | refine aw_no rfl ?_ | ((with_reducible refine w_seq ?_); first | refine r_q tbOk rfl rfl rfl rfl ?_ | refine r_e tbOk rfl rfl rfl rfl rfl ?_ | refine r_yes tbOk rfl rfl rfl rfl rfl rfl ?_ | refine w_no rfl rfl (lookO_spec rfl) rfl rfl rfl ?_ | refine w_un rfl rfl (lookO_spec rfl) rfl rfl ?_) | ((with_reducible refine w_drw ?_); first | refine rx_q tbOk rfl rfl rfl rfl ?_ | refine rx_e tbOk rfl rfl rfl rfl rfl ?_ | refine rx_yes tbOk rfl rfl rfl rfl rfl rfl ?_ | refine x_no rfl rfl (lookO_spec rfl) rfl rfl rfl ?_ | refine x_un rfl rfl (lookO_spec rfl) rfl rfl ?_) | ((first | refine' w_q rfl rfl ?xa rfl ?_ | refine' v_q rfl rfl ?xa rfl ?_ | refine' w_yes rfl rfl (lookO_spec rfl) rfl ?xa rfl ?_ | refine' v_yes rfl rfl (lookO_spec rfl) rfl ?xa rfl ?_); case xa => exact k_call KJ rfl ⟨by rw [evO_spec rfl]; exact cAr_own0 (lookHO_spec rfl) hrl, trivial⟩) | ((first | refine aw_ways rfl ?_ ?_ | refine r_split rfl rfl rfl ?_ ?_) <;> intro hg_ <;> fail_if_success (exact Bool.noConfusion hg_)) <;> (try simp only [prn] at hg_) <;> (try first | contradiction | (exfalso; omega)))
    all_goals first
      | exact ret_tmp rfl (dres_one cres_new)
      | trace_state
set_option maxRecDepth 100000 in
set_option maxHeartbeats 2000000 in
theorem f_implGraphNo (m : Int) (nil : Bool) (es : List E3) (hl : es.length ≤ 1048576) (hg : gOk m es = false) : Fn Try.prog 33 [graphP m nil es] (.v (.one (row true 1 []))) := by
  have KG := f_implGraphValid m nil es (by simp only [maxLen]; omega)
  rw [hg] at KG
  refine fn_of (l := [.tmp 2]) Try.func33 (by kernel_rfl) rfl Try.ntmps33 rfl rfl ?_; simp only [argEnv, P0.d, Nat.reduceAdd, graphP, List.map_cons, List.map_nil]
  repeat' (first | (with_reducible first | refine aw_seq ?_ | refine thn_normal ?_ | refine thn_ret ?_ | refine thn_exit ?_ | refine blk_normal ?_ | refine blk_ret ?_ | refine blk_hit ?_ | refine blk_miss rfl ?_ | refine aw_block ?_ | refine aw_ret ?_ | refine aw_skip ?_ | refine aw_exit ?_ | refine w_nil ?_ | refine x_nil (by kernel_rfl) ?_) | refine aw_region ?_ | refine aw_region_draw (by kernel_rfl) ?_ | refine aw_yes rfl ?_ | refine aw_no rfl ?_ | ((with_reducible refine w_seq ?_); first | refine r_q tbOk rfl rfl rfl rfl ?_ | refine r_e tbOk rfl rfl rfl rfl rfl ?_ | refine r_yes tbOk rfl rfl rfl rfl rfl rfl ?_ | refine w_no rfl rfl (lookO_spec rfl) rfl rfl rfl ?_ | refine w_un rfl rfl (lookO_spec rfl) rfl rfl ?_) | ((with_reducible refine w_drw ?_); first | refine rx_q tbOk rfl rfl rfl rfl ?_ | refine rx_e tbOk rfl rfl rfl rfl rfl ?_ | refine rx_yes tbOk rfl rfl rfl rfl rfl rfl ?_ | refine x_no rfl rfl (lookO_spec rfl) rfl rfl rfl ?_ | refine x_un rfl rfl (lookO_spec rfl) rfl rfl ?_) | ((first | refine' w_q rfl rfl ?xa rfl ?_ | refine' v_q rfl rfl ?xa rfl ?_ | refine' w_yes rfl rfl (lookO_spec rfl) rfl ?xa rfl ?_ | refine' v_yes rfl rfl (lookO_spec rfl) rfl ?xa rfl ?_); case xa => exact k_call KG rfl ⟨asA_agg (evO_spec rfl) ⟨cAr_r, cAr_r, trivial⟩, trivial⟩) | ((first | refine aw_ways rfl ?_ ?_ | refine r_split rfl rfl rfl ?_ ?_) <;> intro hg_ <;> fail_if_success (exact Bool.noConfusion hg_)) <;> (try simp only [prn] at hg_) <;> (try first | contradiction | (exfalso; omega)))
  all_goals first
    | exact ret_tmp rfl (dres_one cres_nil)
    | trace_state
end Go.Proofs.Ytihpchbkodihpaa.Abs
