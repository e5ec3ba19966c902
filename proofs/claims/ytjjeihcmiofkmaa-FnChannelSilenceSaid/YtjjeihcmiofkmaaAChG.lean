/- Channels by states: sending in the reference, rows handed over; its steps on valid channels. No statement of the seat is proved here. -/
import Derived.Test.YtjjeihcmiofkmaaTy
import Derived.Lib.Hide
import Derived.Test.YtjjeihcmiofkmaaAChR
set_option linter.unusedSimpArgs false
set_option linter.unusedVariables false
namespace Go.Proofs.Ytjjeihcmiofkmaa.Abs
open Go.RowKit
open R (val row ref)

set_option maxRecDepth 100000 in
set_option maxHeartbeats 8000000 in
theorem so_send (nV nG nP nR : Bool) (vs : List Int) (kn : Int) (got : List Int) (ps : List Pk) (rs : List Int) (hok : Fn Try.prog 27 [chP nV nG nP nR ⟨vs, kn, got, ps, rs⟩] (.v (.one (bool true)))) (g1 : List.length (α := Pk) (ps) ≤ 100) (g2 : List.length (α := Int) (rs) ≤ 100) (g3 : vs.length ≤ 20) (g4 : 0 ≤ kn) (g5 : kn ≤ got.length) (g6 : got.length ≤ vs.length) :
    FnS Try.prog 21 [chA nV nG nP nR ⟨vs, kn, got, ps, rs⟩, .one (.r false (int 0))] [] (chT false (Ch.send ⟨vs, kn, got, ps, rs⟩).1 (Ch.send ⟨vs, kn, got, ps, rs⟩).2) (chQ 2000001 2000002 2000003 2000004 (Ch.send ⟨vs, kn, got, ps, rs⟩).1) := by
  have KS := f_l16 nV nG nP nR vs kn got (ps) (rs) (by omega) (by omega) (by omega) (by omega)
  dsimp only [chO, chQ] at KS
  have l1 := ints_len vs
  have l2 := ints_len got
  have l3 := pks_len (ps)
  have l4 := ints_len (rs)
  have K14 : Fn Try.prog 52 [iP 0, iP 1, iP 4] (.v (.one (bool false))) := f_l1In 0 1 4
  have K67 : Fn Try.prog 52 [iP 0, iP 6, iP 7] (.v (.one (bool false))) := f_l1In 0 6 7
  have hw3 : IntKind.i64.wrap (kn + 3) = kn + 3 := IntWalk.i64_in _ (by omega)
  have he : Ch.sendEnd ⟨vs, kn, got, ps, rs⟩ ≤ vs.length ∧ kn ≤ Ch.sendEnd ⟨vs, kn, got, ps, rs⟩ ∧ Ch.sendEnd ⟨vs, kn, got, ps, rs⟩ ≤ kn + 3 ∧ (Ch.sendEnd ⟨vs, kn, got, ps, rs⟩ = vs.length ∨ Ch.sendEnd ⟨vs, kn, got, ps, rs⟩ = kn + 3) := by unfold Ch.sendEnd; dsimp only; split <;> omega
  have hs : ∀ b, b = (Ch.send ⟨vs, kn, got, ps, rs⟩) → b = if Ch.sendEnd ⟨vs, kn, got, ps, rs⟩ = kn ∨ (ps.length : Int) + Ch.sendEnd ⟨vs, kn, got, ps, rs⟩ - kn > 100 then (⟨vs, kn, got, ps, rs⟩, false) else (⟨vs, kn, got, ps ++ Ch.pkFrom vs kn (Ch.sendEnd ⟨vs, kn, got, ps, rs⟩ - kn).toNat, rs⟩, true) := fun b hb => hb
  have hs := hs _ rfl
  generalize Ch.sendEnd ⟨vs, kn, got, ps, rs⟩ = E at *
  rw [hs]
  clear hs
  unfold chA
  refine fnS_of (l := [.cell 4 40, .tmp 5]) Try.func21 (by kernel_rfl) rfl Try.ntmps21 rfl rfl ?_; simp only [dEnv, Nat.reduceAdd]
  repeat' (first | (with_reducible first | refine aw_seq ?_ | refine thn_normal ?_ | refine thn_ret ?_ | refine thn_exit ?_ | refine blk_normal ?_ | refine blk_ret ?_ | refine blk_hit ?_ | refine blk_miss rfl ?_ | refine aw_block ?_ | refine aw_ret ?_ | refine aw_skip ?_ | refine aw_exit ?_ | refine w_nil ?_ | refine x_nil (by kernel_rfl) ?_) | refine aw_region ?_ | refine aw_region_draw (by kernel_rfl) ?_ | refine aw_yes rfl ?_ | refine aw_no rfl ?_ | ((with_reducible refine w_seq ?_); first | refine r_q tbOk rfl rfl rfl rfl ?_ | refine r_e tbOk rfl rfl rfl rfl rfl ?_ | refine r_yes tbOk rfl rfl rfl rfl rfl rfl ?_ | refine w_no rfl rfl (lookO_spec rfl) rfl rfl rfl ?_ | refine w_un rfl rfl (lookO_spec rfl) rfl rfl ?_) | ((with_reducible refine w_drw ?_); first | refine rx_q tbOk rfl rfl rfl rfl ?_ | refine rx_e tbOk rfl rfl rfl rfl rfl ?_ | refine rx_yes tbOk rfl rfl rfl rfl rfl rfl ?_ | refine x_no rfl rfl (lookO_spec rfl) rfl rfl rfl ?_ | refine x_un rfl rfl (lookO_spec rfl) rfl rfl ?_) | ((first | refine' w_q rfl rfl ?xa rfl ?_ | refine' v_q rfl rfl ?xa rfl ?_ | refine' w_yes rfl rfl (lookO_spec rfl) rfl ?xa rfl ?_ | refine' v_yes rfl rfl (lookO_spec rfl) rfl ?xa rfl ?_); case xa => first | exact k_call hok rfl ⟨asA_agg (evO_spec rfl) ⟨cAr_r, cAr_r, cAr_r, cAr_r, cAr_r, trivial⟩, trivial⟩ | exact k_call K14 rfl ⟨asA_r (evO_spec rfl), asA_r (evO_spec rfl), asA_r (evO_spec rfl), trivial⟩ | exact k_call K67 rfl ⟨asA_r (evO_spec rfl), asA_r (evO_spec rfl), asA_r (evO_spec rfl), trivial⟩) | ((first | refine' w_e rfl ?xa ?xb ?xc ?xe ?_ | refine' v_e rfl ?xa ?xb ?xc ?xe ?_); (case xa => exact e_callS [(2000001, 101), (2000002, 102), (2000003, 103), (2000004, 104)] KS rfl ⟨asD_ren (evO_spec rfl), trivial⟩ trivial rfl); (case xb => rfl); (case xc => rfl); (case xe => rfl); try dsimp only [P0.d, Res.d, List.map_cons, List.map_nil, List.set_cons_zero, List.set_cons_succ, Nat.reduceAdd]) | ((first | refine aw_ways rfl ?_ ?_ | refine r_split rfl rfl rfl ?_ ?_) <;> intro hg_ <;> fail_if_success (exact Bool.noConfusion hg_)) <;> (try simp only [prn] at hg_) <;> (try first | contradiction | (exfalso; omega)))
  refine aw_loopI (fun x : Bool × Nat => kn + (x.2 : Int) ≤ E) (fun x => mkS 175 [(7, .one (.r x.1 (int (kn + x.2)))), (6, .one (.ptr 6 0 0 0)), (4, .one (.ptr 4 0 0 0)), (2, .one (.ptr 2 0 0 0))] [(6, .var 40 [.own 101 0 vs.length 1, .r false (int kn), .own 102 0 got.length 1, .own 105 0 (ps ++ Ch.pkFrom vs kn x.2).length 2, .own 104 0 rs.length 1]), (4, .var 40 [.r true (row true 0 []), .r true (int 0), .r true (row true 0 []), .r true (row true 0 []), .r true (row true 0 [])]), (2, .var 40 [.r false (row nV 1 (ints vs)), .r false (int kn), .r false (row nG 1 (ints got)), .r false (row nP 2 (pks ps)), .r false (row nR 1 (ints rs))]), (101, .sl 3 1 true (ints vs)), (102, .sl 3 1 true (ints got)), (105, .sl 71 2 true (pks (ps ++ Ch.pkFrom vs kn x.2))), (104, .sl 3 1 true (ints rs))]) (fun x => (E - (kn + (x.2 : Int))).toNat) (false, 0) (by show kn + ((0 : Nat) : Int) ≤ E; omega) (by simp only [Ch.pkFrom, List.append_nil]; (refine weak_ren [(105, 103)] rfl ?_ ?_ <;> repeat' (first | exact trivial | refine subR_cons rfl ?_ ?_ | refine subHR_cons rfl ?_ ?_ | rfl | (refine d_int ?_; (first | rfl | omega | (rw [IntWalk.i64_in _ (by omega)] <;> omega) | (simp; done) | (simp; omega))) | (refine d_bool ?_; (first | (simp_all; done) | (rw [Bool.eq_iff_iff]; simp_all; done) | (rw [Bool.eq_iff_iff]; simp_all; omega) | (rw [Bool.eq_iff_iff]; simp; omega))) | exact d_int (by simp)))) ?_
  rintro ⟨b, j⟩ hj
  dsimp only at hj ⊢
  have hlen : (ps ++ Ch.pkFrom vs kn j).length = ps.length + j := by rw [List.length_append, Ch.pkFrom_len]
  have hsn : ps ++ Ch.pkFrom vs kn (j + 1) = (ps ++ Ch.pkFrom vs kn j) ++ [(kn + j, vs.getD (kn + j).toNat 0)] := by rw [Ch.pkFrom_snoc vs j kn g4, List.append_assoc]
  have hsp : pks (ps ++ Ch.pkFrom vs kn (j + 1)) = pks (ps ++ Ch.pkFrom vs kn j) ++ [pkP (kn + j, vs.getD (kn + j).toNat 0)] := by rw [hsn, pks_app]
  have hln2 : (ps ++ Ch.pkFrom vs kn (j + 1)).length = ps.length + j + 1 := by rw [List.length_append, Ch.pkFrom_len]; omega
  have hlp := pks_len (ps ++ Ch.pkFrom vs kn j)
  have hwj : IntKind.i64.wrap (kn + (j : Int) + 1) = kn + ((j + 1 : Nat) : Int) := by rw [IntWalk.i64_in _ (by omega)]; omega
  by_cases hlt : kn + (j : Int) < E
  · repeat' (first | (with_reducible first | refine aw_seq ?_ | refine thn_normal ?_ | refine thn_ret ?_ | refine thn_exit ?_ | refine blk_normal ?_ | refine blk_ret ?_ | refine blk_hit ?_ | refine blk_miss rfl ?_ | refine aw_block ?_ | refine aw_ret ?_ | refine aw_skip ?_ | refine aw_exit ?_ | refine w_nil ?_ | refine x_nil (by kernel_rfl) ?_) | refine aw_region ?_ | refine aw_region_draw (by kernel_rfl) ?_ | refine aw_yes rfl ?_ | refine aw_no rfl ?_ | ((with_reducible refine w_seq ?_); first | refine r_q tbOk rfl rfl rfl rfl ?_ | refine r_e tbOk rfl rfl rfl rfl rfl ?_ | refine r_yes tbOk rfl rfl rfl rfl rfl rfl ?_ | refine w_no rfl rfl (lookO_spec rfl) rfl rfl rfl ?_ | refine w_un rfl rfl (lookO_spec rfl) rfl rfl ?_) | ((with_reducible refine w_drw ?_); first | refine rx_q tbOk rfl rfl rfl rfl ?_ | refine rx_e tbOk rfl rfl rfl rfl rfl ?_ | refine rx_yes tbOk rfl rfl rfl rfl rfl rfl ?_ | refine x_no rfl rfl (lookO_spec rfl) rfl rfl rfl ?_ | refine x_un rfl rfl (lookO_spec rfl) rfl rfl ?_) | ((first | refine' w_q rfl rfl ?xa rfl ?_ | refine' v_q rfl rfl ?xa rfl ?_ | refine' w_yes rfl rfl (lookO_spec rfl) rfl ?xa rfl ?_ | refine' v_yes rfl rfl (lookO_spec rfl) rfl ?xa rfl ?_); case xa => exact k_index tbOk rfl rfl rfl rfl (by omega) (by exact ints_atD (by omega) (by omega))) | ((first | refine' w_e rfl ?xa ?xb ?xc ?xe ?_ | refine' v_e rfl ?xa ?xb ?xc ?xe ?_); (case xa => first | exact e_build [.tmp 61] tlOk rfl rfl rfl rfl rfl rfl (allN_one rfl) (by simp) | exact e_append tlOk rfl rfl rfl rfl rfl rfl (slD_own (lookHO_spec rfl) rfl) hlp.symm (by simp only [maxLen, List.length_cons, List.length_nil] at *; omega) (by simp only [List.length_cons, List.length_nil] at *; omega)); (case xb => rfl); (case xc => rfl); (case xe => rfl); try dsimp only [P0.d, Res.d, List.map_cons, List.map_nil, List.set_cons_zero, List.set_cons_succ, Nat.reduceAdd]) | ((first | refine aw_ways rfl ?_ ?_ | refine r_split rfl rfl rfl ?_ ?_) <;> intro hg_ <;> fail_if_success (exact Bool.noConfusion hg_)) <;> (try simp only [prn] at hg_) <;> (try first | contradiction | (exfalso; omega)))
    all_goals first
      | (refine ⟨(true, j + 1), (by show kn + ((j + 1 : Nat) : Int) ≤ E; omega), ?_, by show (E - (kn + ((j + 1 : Nat) : Int))).toNat < _; omega⟩
         (refine weak_ren [(105, 63)] rfl ?_ ?_ <;> repeat' (first | exact trivial | refine subR_cons rfl ?_ ?_ | refine subHR_cons rfl ?_ ?_ | rfl | (refine d_int ?_; (first | rfl | omega | (rw [IntWalk.i64_in _ (by omega)] <;> omega) | (simp; done) | (simp; omega))) | (refine d_bool ?_; (first | (simp_all; done) | (rw [Bool.eq_iff_iff]; simp_all; done) | (rw [Bool.eq_iff_iff]; simp_all; omega) | (rw [Bool.eq_iff_iff]; simp; omega))) | exact d_int hwj | exact var_eq rfl rfl rfl (d_own' (by simp only [hlp, hlen, hln2, List.length_cons, List.length_nil])) rfl | exact ob_sl rfl (by rw [hsp] <;> rfl))))
      | trace_state
  · have hjE : (E - kn).toNat = j := by omega
    rw [hjE]
    by_cases hno : E = kn ∨ (ps.length : Int) + E - kn > 100
    · simp only [if_pos hno]
      repeat' (first | (with_reducible first | refine aw_seq ?_ | refine thn_normal ?_ | refine thn_ret ?_ | refine thn_exit ?_ | refine blk_normal ?_ | refine blk_ret ?_ | refine blk_hit ?_ | refine blk_miss rfl ?_ | refine aw_block ?_ | refine aw_ret ?_ | refine aw_skip ?_ | refine aw_exit ?_ | refine w_nil ?_ | refine x_nil (by kernel_rfl) ?_) | refine aw_region ?_ | refine aw_region_draw (by kernel_rfl) ?_ | refine aw_yes rfl ?_ | refine aw_no rfl ?_ | ((with_reducible refine w_seq ?_); first | refine r_q tbOk rfl rfl rfl rfl ?_ | refine r_e tbOk rfl rfl rfl rfl rfl ?_ | refine r_yes tbOk rfl rfl rfl rfl rfl rfl ?_ | refine w_no rfl rfl (lookO_spec rfl) rfl rfl rfl ?_ | refine w_un rfl rfl (lookO_spec rfl) rfl rfl ?_) | ((with_reducible refine w_drw ?_); first | refine rx_q tbOk rfl rfl rfl rfl ?_ | refine rx_e tbOk rfl rfl rfl rfl rfl ?_ | refine rx_yes tbOk rfl rfl rfl rfl rfl rfl ?_ | refine x_no rfl rfl (lookO_spec rfl) rfl rfl rfl ?_ | refine x_un rfl rfl (lookO_spec rfl) rfl rfl ?_) | ((first | refine' w_e rfl ?xa ?xb ?xc ?xe ?_ | refine' v_e rfl ?xa ?xb ?xc ?xe ?_); (case xa => exact e_callS [(2000001, 201), (2000002, 202), (2000003, 203), (2000004, 204)] KS rfl ⟨asD_ren (evO_spec rfl), trivial⟩ trivial rfl); (case xb => rfl); (case xc => rfl); (case xe => rfl); try dsimp only [P0.d, Res.d, List.map_cons, List.map_nil, List.set_cons_zero, List.set_cons_succ, Nat.reduceAdd]) | ((first | refine aw_ways rfl ?_ ?_ | refine r_split rfl rfl rfl ?_ ?_) <;> intro hg_ <;> fail_if_success (exact Bool.noConfusion hg_)) <;> (try simp only [prn] at hg_) <;> (try first | contradiction | (exfalso; omega)))
      dsimp only [chT, chQ]
      all_goals first
        | exact ret_D [(2000001, 201), (2000002, 202), (2000003, 203), (2000004, 204)] rfl (by (repeat' (first | exact trivial | refine subHR_cons rfl ?_ ?_ | rfl))) (retD_two (x := (true, _)) (y := (false, [_])) (ret1_cell rfl rfl (by (with_reducible first | exact ty3 | exact ty4 | exact ty5 | exact ty9 | exact ty17 | exact ty19 | exact ty22 | exact ty23 | exact ty25 | exact ty31 | exact ty38 | exact ty40 | exact ty54 | exact ty71 | exact ty75 | exact ty78 | exact ty82 | exact ty83)) rfl rfl rfl) rfl (ret1_tmp rfl) rfl (imp_refl (tups2 rfl rfl)))
        | trace_state
    · simp only [if_neg hno]
      repeat' (first | (with_reducible first | refine aw_seq ?_ | refine thn_normal ?_ | refine thn_ret ?_ | refine thn_exit ?_ | refine blk_normal ?_ | refine blk_ret ?_ | refine blk_hit ?_ | refine blk_miss rfl ?_ | refine aw_block ?_ | refine aw_ret ?_ | refine aw_skip ?_ | refine aw_exit ?_ | refine w_nil ?_ | refine x_nil (by kernel_rfl) ?_) | refine aw_region ?_ | refine aw_region_draw (by kernel_rfl) ?_ | refine aw_yes rfl ?_ | refine aw_no rfl ?_ | ((with_reducible refine w_seq ?_); first | refine r_q tbOk rfl rfl rfl rfl ?_ | refine r_e tbOk rfl rfl rfl rfl rfl ?_ | refine r_yes tbOk rfl rfl rfl rfl rfl rfl ?_ | refine w_no rfl rfl (lookO_spec rfl) rfl rfl rfl ?_ | refine w_un rfl rfl (lookO_spec rfl) rfl rfl ?_) | ((with_reducible refine w_drw ?_); first | refine rx_q tbOk rfl rfl rfl rfl ?_ | refine rx_e tbOk rfl rfl rfl rfl rfl ?_ | refine rx_yes tbOk rfl rfl rfl rfl rfl rfl ?_ | refine x_no rfl rfl (lookO_spec rfl) rfl rfl rfl ?_ | refine x_un rfl rfl (lookO_spec rfl) rfl rfl ?_) | ((first | refine aw_ways rfl ?_ ?_ | refine r_split rfl rfl rfl ?_ ?_) <;> intro hg_ <;> fail_if_success (exact Bool.noConfusion hg_)) <;> (try simp only [prn] at hg_) <;> (try first | contradiction | (exfalso; omega)))
      dsimp only [chT, chQ]
      all_goals first
        | exact ret_D [(2000001, 101), (2000002, 102), (2000003, 105), (2000004, 104)] rfl (by (repeat' (first | exact trivial | refine subHR_cons rfl ?_ ?_ | rfl))) (retD_two (x := (true, _)) (y := (false, [_])) (ret1_cell rfl rfl (by (with_reducible first | exact ty3 | exact ty4 | exact ty5 | exact ty9 | exact ty17 | exact ty19 | exact ty22 | exact ty23 | exact ty25 | exact ty31 | exact ty38 | exact ty40 | exact ty54 | exact ty71 | exact ty75 | exact ty78 | exact ty82 | exact ty83)) rfl rfl rfl) rfl (ret1_tmp rfl) rfl (imp_refl (tups2 rfl rfl)))
        | trace_state
set_option maxRecDepth 100000 in
set_option maxHeartbeats 2000000 in
theorem f_specStepO (nV nG nP nR : Bool) (vs : List Int) (kn : Int) (got : List Int) (ps : List Pk) (rs : List Int) (s : Int) (hG : Ch.Good ⟨vs, kn, got, ps, rs⟩) :
    FnS Try.prog 21 [chA nV nG nP nR ⟨vs, kn, got, ps, rs⟩, .one (.r false (int s))] [] (chT (decide (s = 6) && !rs.isEmpty) (Ch.step ⟨vs, kn, got, ps, rs⟩ s).1 (Ch.step ⟨vs, kn, got, ps, rs⟩ s).2) (chQ 2000001 2000002 2000003 2000004 (Ch.step ⟨vs, kn, got, ps, rs⟩ s).1) := by
  have g1 := hG.psl
  have g2 := hG.rsl
  have g3 := hG.vsl
  have g4 := hG.kn0
  have g5 := hG.kn1
  have g6 := hG.len
  dsimp only at g1 g2 g3 g4 g5 g6
  have hok := f_specChOk nV nG nP nR vs kn got ps rs (by omega) (by omega) (by omega) (by omega)
  rw [Ch.ok_iff.2 hG] at hok
  clear hG
  by_cases h0 : s = 0
  · subst h0
    exact so_send nV nG nP nR vs kn got ps rs hok g1 g2 g3 g4 g5 g6
  by_cases h1 : s = 1 ∨ s = 2 ∨ s = 3 ∨ s = 4
  · have e : Ch.step ⟨vs, kn, got, ps, rs⟩ s = Ch.packet ⟨vs, kn, got, ps, rs⟩ s := by unfold Ch.step; rw [if_neg h0, if_pos h1]
    rw [e]
    cases ps with
    | nil =>
      rw [decide_eq_false (show ¬ s = 6 by omega), Bool.false_and]
      exact so_pnil nV nG nP nR vs kn got rs s (by unfold inR; simp <;> omega) hok g1 g2 g3 g4 g5 g6
    | cons p t =>
      rcases h1 with rfl | rfl | rfl | rfl
      · exact so_deliver nV nG nP nR vs kn got p t rs hok g1 g2 g3 g4 g5 g6
      · exact so_lose nV nG nP nR vs kn got p t rs hok g1 g2 g3 g4 g5 g6
      · exact so_double nV nG nP nR vs kn got p t rs hok g1 g2 g3 g4 g5 g6
      · exact so_behind nV nG nP nR vs kn got p t rs hok g1 g2 g3 g4 g5 g6
  by_cases h5 : s = 5
  · subst h5
    exact so_receipt nV nG nP nR vs kn got ps rs hok g1 g2 g3 g4 g5 g6
  by_cases h6 : s = 6 ∨ s = 7
  · have e : Ch.step ⟨vs, kn, got, ps, rs⟩ s = Ch.receiptStep ⟨vs, kn, got, ps, rs⟩ s := by unfold Ch.step; rw [if_neg h0, if_neg h1, if_neg h5, if_pos h6]
    rw [e]
    cases rs with
    | nil =>
      rw [show (decide (s = 6) && !List.isEmpty ([] : List Int)) = false by simp]
      exact so_rnil nV nG nP nR vs kn got ps s (by unfold inR; simp <;> omega) (by unfold inR; simp <;> omega) hok g1 g2 g3 g4 g5 g6
    | cons r t =>
      rcases h6 with rfl | rfl
      · exact so_learn nV nG nP nR vs kn got ps r t hok g1 g2 g3 g4 g5 g6
      · exact so_forget nV nG nP nR vs kn got ps r t hok g1 g2 g3 g4 g5 g6
  · have e : Ch.step ⟨vs, kn, got, ps, rs⟩ s = (⟨vs, kn, got, ps, rs⟩, false) := by
      unfold Ch.step
      rw [if_neg h0, if_neg h1, if_neg h5, if_neg h6]
    rw [e, decide_eq_false (show ¬ s = 6 by omega), Bool.false_and]
    exact so_no nV nG nP nR vs kn got ps rs s (by omega) hok g1 g2 g3 g4 g5 g6
end Go.Proofs.Ytjjeihcmiofkmaa.Abs
