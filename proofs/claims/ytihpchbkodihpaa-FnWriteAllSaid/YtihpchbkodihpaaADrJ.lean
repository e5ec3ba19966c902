/- Draws by states: lists of records. No statement of the seat is proved here. -/
import Derived.Test.YtihpchbkodihpaaTy
import Derived.Lib.Hide
import Derived.Test.YtihpchbkodihpaaADrF
set_option linter.unusedSimpArgs false
set_option linter.unusedVariables false
namespace Go.Proofs.Ytihpchbkodihpaa.Abs
open Go.RowKit
open R (val row ref)

noncomputable def rcStep (bs : List Int) (x : Int × List (List Int)) : Int × List (List Int) := ((drB bs x.1 0).2 + 1, x.2 ++ [(drB bs x.1 0).1 ++ [pickV bs (drB bs x.1 0).2 256]])
noncomputable def rcIt (bs : List Int) (x : Int × List (List Int)) : Nat → Int × List (List Int)
  | 0 => x
  | n + 1 => rcStep bs (rcIt bs x n)
theorem rcIt_bd (bs : List Int) (p : Int) : ∀ n : Nat, p ≤ (rcIt bs (p, []) n).1 ∧ (rcIt bs (p, []) n).1 ≤ p + 61 * (n : Int) ∧ (rcIt bs (p, []) n).2.length = n ∧ ∀ b ∈ (rcIt bs (p, []) n).2, b.length ≤ 2002
  | 0 => by simp [rcIt]
  | n + 1 => by
    obtain ⟨h1, h2, h3, h4⟩ := rcIt_bd bs p n
    have h5 := drB_bd bs (rcIt bs (p, []) n).1 0
    simp only [rcIt, rcStep, List.length_append, List.length_cons, List.length_nil]
    refine ⟨by omega, by omega, by omega, fun b hb => ?_⟩
    rcases List.mem_append.1 hb with hb | hb
    · exact h4 b hb
    · rw [List.mem_singleton.1 hb]
      simp only [List.length_append, List.length_cons, List.length_nil]
      omega
/-- What l20Records draws from place p on. -/
noncomputable def drRc (bs : List Int) (p : Int) : List (List Int) :=
  let x := rcIt bs (p + 1, []) (pickV bs p 5).toNat
  if oddV bs x.1 4 = true then
    if pickV bs (x.1 + 1) 3 = 0 then x.2 ++ [[]]
    else if pickV bs (x.1 + 1) 3 = 1 then x.2 ++ [[256]]
    else x.2 ++ List.replicate 20 (List.replicate 100 0)
  else x.2
theorem drRc_bd (bs : List Int) (p : Int) : (drRc bs p).length ≤ 30 ∧ ∀ b ∈ drRc bs p, b.length ≤ 2002 := by
  have hc := pickV_in bs p 5
  obtain ⟨_, _, h3, h4⟩ := rcIt_bd bs (p + 1) (pickV bs p 5).toNat
  unfold drRc
  dsimp only
  generalize rcIt bs (p + 1, []) (pickV bs p 5).toNat = x at *
  split
  · split
    · refine ⟨by simp; omega, fun b hb => ?_⟩
      rcases List.mem_append.1 hb with hb | hb
      · exact h4 b hb
      · rw [List.mem_singleton.1 hb]; simp
    · split
      · refine ⟨by simp; omega, fun b hb => ?_⟩
        rcases List.mem_append.1 hb with hb | hb
        · exact h4 b hb
        · rw [List.mem_singleton.1 hb]; simp
      · refine ⟨by rw [List.length_append, List.length_replicate]; omega, fun b hb => ?_⟩
        rcases List.mem_append.1 hb with hb | hb
        · exact h4 b hb
        · rw [List.eq_of_mem_replicate hb, List.length_replicate]; omega
  · exact ⟨by omega, h4⟩
theorem rows_rep (X : List (List Int)) (b : List Int) (j : Nat) : rowsI (X ++ List.replicate (j + 1) b) = rowsI (X ++ List.replicate j b) ++ [rowP b] := by
  rw [List.replicate_succ', ← List.append_assoc, rowsI_app]
set_option maxRecDepth 100000 in
set_option maxHeartbeats 8000000 in
theorem f_l20Records {bs : List Int} (p : Int) (hB : Byte bs) (hl : bs.length ≤ 2000) (hp0 : 0 ≤ p) (hp : p ≤ 700000) (m1 m2 nb : Bool) :
    ∃ p' : Int, FnS Try.prog 93 [.one (.ptr 1000000000 0 0 0), .one (.r false (int 4))] (rdH 1000000000 m1 m2 nb bs p) (.one (.own 2000001 0 (drRc bs p).length 1)) (rdH 1000000000 m1 true nb bs p' ++ [(2000001, .sl 26 1 true (rowsI (drRc bs p)))]) := by
  have K0 := f_pick p 5 hB hl hp0 (by omega) m1 m2 nb
  have hc := pickV_in bs p 5
  have hcN : ((pickV bs p 5).toNat : Int) = pickV bs p 5 := Int.toNat_of_nonneg hc.1
  obtain ⟨DR, hDR⟩ : ∃ x, x = drRc bs p := ⟨_, rfl⟩
  rw [← hDR]
  unfold drRc at hDR
  dsimp only at hDR
  generalize hC : (pickV bs p 5).toNat = C at *
  rw [← hcN] at K0
  have hC9 : C ≤ 5 := by omega
  clear hC hcN hc
  have KP : ∀ q : Int, 0 ≤ q → q ≤ 1000000 → ∀ n, FnS Try.prog 69 [.one (.ptr 1000000000 0 0 0), .one (.r false (int n))] (rdH 1000000000 m1 true nb bs q) (.one (.r true (int (pickV bs q n)))) (rdH 1000000000 m1 true nb bs (q + 1)) := fun q h0 h1 n => f_pick q n hB hl h0 h1 m1 true nb
  have KB : ∀ q : Int, 0 ≤ q → q ≤ 900000 → ∀ n, 0 ≤ n → n ≤ 1000000 → FnS Try.prog 84 [.one (.ptr 1000000000 0 0 0), .one (.r false (int n))] (rdH 1000000000 m1 true nb bs q) (.one (.own 2000001 0 (drB bs q n).1.length 1)) (rdH 1000000000 m1 true nb bs (drB bs q n).2 ++ [(2000001, .sl 3 1 true (ints (drB bs q n).1))]) := fun q h0 h1 n h2 h3 => f_l20Bytes q n h2 h3 hB hl h0 h1 m1 true nb
  have KO : ∀ q : Int, 0 ≤ q → q ≤ 1000000 → FnS Try.prog 68 [.one (.ptr 1000000000 0 0 0), .one (.r false (int 4))] (rdH 1000000000 m1 true nb bs q) (.one (.r true (bool (oddV bs q 4)))) (rdH 1000000000 m1 true nb bs (q + 1)) := fun q h0 h1 => f_odd q 4 (by omega) (by omega) hB hl h0 h1 m1 true nb
  obtain ⟨P', hP'⟩ : ∃ P' : Int, P' = if oddV bs (rcIt bs (p + 1, []) C).1 4 = true then (rcIt bs (p + 1, []) C).1 + 1 + 1 else (rcIt bs (p + 1, []) C).1 + 1 := ⟨_, rfl⟩
  refine ⟨P', ?_⟩
  unfold rdH at *
  refine fnS_of (l := [.tmp 4]) Try.func93 (by kernel_rfl) rfl Try.ntmps93 rfl rfl ?_; simp only [dEnv, Nat.reduceAdd]
  repeat' (first | (with_reducible first | refine aw_seq ?_ | refine thn_normal ?_ | refine thn_ret ?_ | refine thn_exit ?_ | refine blk_normal ?_ | refine blk_ret ?_ | refine blk_hit ?_ | refine blk_miss rfl ?_ | refine aw_block ?_ | refine aw_ret ?_ | refine aw_skip ?_ | refine aw_exit ?_ | refine w_nil ?_ | refine x_nil (by kernel_rfl) ?_) | refine aw_region ?_ | refine aw_region_draw (by kernel_rfl) ?_ | refine aw_yes rfl ?_ | refine aw_no rfl ?_ | ((with_reducible refine w_seq ?_); first | refine r_q tbOk rfl rfl rfl rfl ?_ | refine r_e tbOk rfl rfl rfl rfl rfl ?_ | refine r_yes tbOk rfl rfl rfl rfl rfl rfl ?_ | refine w_no rfl rfl (lookO_spec rfl) rfl rfl rfl ?_ | refine w_un rfl rfl (lookO_spec rfl) rfl rfl ?_) | ((with_reducible refine w_drw ?_); first | refine rx_q tbOk rfl rfl rfl rfl ?_ | refine rx_e tbOk rfl rfl rfl rfl rfl ?_ | refine rx_yes tbOk rfl rfl rfl rfl rfl rfl ?_ | refine x_no rfl rfl (lookO_spec rfl) rfl rfl rfl ?_ | refine x_un rfl rfl (lookO_spec rfl) rfl rfl ?_) | ((first | refine' w_e rfl ?xa ?xb ?xc ?xe ?_ | refine' v_e rfl ?xa ?xb ?xc ?xe ?_); (case xa => first | exact e_build [] tlOk rfl rfl rfl rfl rfl rfl (by simp [AllN]) (by simp) | exact e_callS [] K0 rfl ⟨asD_ren (evO_spec rfl), by rw [evO_spec rfl]; exact asD_r rfl, trivial⟩ (by (repeat' (first | exact trivial | refine subHR_cons rfl ?_ ?_ | rfl))) rfl); (case xb => rfl); (case xc => rfl); (case xe => rfl); try dsimp only [P0.d, Res.d, List.map_cons, List.map_nil, List.set_cons_zero, List.set_cons_succ, Nat.reduceAdd]) | ((first | refine aw_ways rfl ?_ ?_ | refine r_split rfl rfl rfl ?_ ?_) <;> intro hg_ <;> fail_if_success (exact Bool.noConfusion hg_)) <;> (try simp only [prn] at hg_) <;> (try first | contradiction | (exfalso; omega)))
  obtain ⟨F, hF⟩ : ∃ F : Nat → St, ∀ i : Nat, F i = mkS 50 [(6, .one (.r true (int ((C : Int) - (i : Int))))), (5, .one (.own 100 0 (rcIt bs (p + 1, []) i).2.length 1)), (1, .one (.r false (int 4))), (0, .one (.ptr 1000000000 0 0 0))] [(1000000000, .var 118 [.r m1 (row nb 1 (bys bs)), .r true (int (rcIt bs (p + 1, []) i).1)]), (100, .sl 26 1 true (rowsI (rcIt bs (p + 1, []) i).2))] := ⟨_, fun _ => rfl⟩
  refine aw_loopI (fun i : Nat => i ≤ C) F (fun i => C - i) 0 (Nat.zero_le _) (by rw [hF]; (refine weak_ren [(100, 8)] rfl ?_ ?_ <;> repeat' (first | exact trivial | refine subR_cons rfl ?_ ?_ | refine subHR_cons rfl ?_ ?_ | rfl | (refine d_int ?_; (first | rfl | omega | (rw [IntWalk.i64_in _ (by omega)] <;> omega) | (simp; done) | (simp; omega))) | (refine d_bool ?_; (first | (simp_all; done) | (rw [Bool.eq_iff_iff]; simp_all; done) | (rw [Bool.eq_iff_iff]; simp_all; omega) | (rw [Bool.eq_iff_iff]; simp; omega))) | exact d_int (by omega) | exact var2 rfl (cell_int (by omega))))) ?_
  rintro i hi
  rw [hF]
  have hbd := rcIt_bd bs (p + 1) i
  by_cases hlt : i < C
  · have hfin : ∀ s' : St, Weak s' (F (i + 1)) → ∃ x' : Nat, x' ≤ C ∧ Weak s' (F x') ∧ C - x' < C - i := fun s' h => ⟨i + 1, hlt, h, by omega⟩
    rw [hF (i + 1)] at hfin
    simp only [rcIt, rcStep] at hfin
    clear hF hDR K0 hP'
    generalize rcIt bs (p + 1, []) i = x at *
    obtain ⟨q, X⟩ := x
    dsimp only at hbd hfin ⊢
    have K1 := KB q (by omega) (by omega) 0 (by omega) (by omega)
    have hb := drB_bd bs q 0
    have K2 := KP (drB bs q 0).2 (by omega) (by omega) 256
    clear KP KB KO
    generalize drB bs q 0 = b at *
    obtain ⟨B, q2⟩ := b
    dsimp only at hb hfin K1 K2
    generalize pickV bs q2 256 = v at *
    have hlB := ints_len B
    have hlX := rowsI_len X
    have hXr : X.length = (rowsI X).length := hlX.symm
    have hBr : B.length = (ints B).length := hlB.symm
    have hS : rowsI (X ++ [B ++ [v]]) = rowsI X ++ [.one (row false 1 (ints B ++ [iP v]))] := by
      rw [rowsI_app]
      show _ ++ [P0.one (row false 1 (ints (B ++ [v])))] = _
      rw [ints_app]
    repeat' (first | (with_reducible first | refine aw_seq ?_ | refine thn_normal ?_ | refine thn_ret ?_ | refine thn_exit ?_ | refine blk_normal ?_ | refine blk_ret ?_ | refine blk_hit ?_ | refine blk_miss rfl ?_ | refine aw_block ?_ | refine aw_ret ?_ | refine aw_skip ?_ | refine aw_exit ?_ | refine w_nil ?_ | refine x_nil (by kernel_rfl) ?_) | refine aw_region ?_ | refine aw_region_draw (by kernel_rfl) ?_ | refine aw_yes rfl ?_ | refine aw_no rfl ?_ | ((with_reducible refine w_seq ?_); first | refine r_q tbOk rfl rfl rfl rfl ?_ | refine r_e tbOk rfl rfl rfl rfl rfl ?_ | refine r_yes tbOk rfl rfl rfl rfl rfl rfl ?_ | refine w_no rfl rfl (lookO_spec rfl) rfl rfl rfl ?_ | refine w_un rfl rfl (lookO_spec rfl) rfl rfl ?_) | ((with_reducible refine w_drw ?_); first | refine rx_q tbOk rfl rfl rfl rfl ?_ | refine rx_e tbOk rfl rfl rfl rfl rfl ?_ | refine rx_yes tbOk rfl rfl rfl rfl rfl rfl ?_ | refine x_no rfl rfl (lookO_spec rfl) rfl rfl rfl ?_ | refine x_un rfl rfl (lookO_spec rfl) rfl rfl ?_) | ((first | refine' w_e rfl ?xa ?xb ?xc ?xe ?_ | refine' v_e rfl ?xa ?xb ?xc ?xe ?_); (case xa => first | exact at_dst 17 rfl (e_callS [(2000001, 501)] K1 rfl ⟨asD_ren (evO_spec rfl), by rw [evO_spec rfl]; exact asD_r rfl, trivial⟩ (by (repeat' (first | exact trivial | refine subHR_cons rfl ?_ ?_ | rfl))) rfl) | exact at_dst 19 rfl (e_callS [] K2 rfl ⟨asD_ren (evO_spec rfl), by rw [evO_spec rfl]; exact asD_r rfl, trivial⟩ (by (repeat' (first | exact trivial | refine subHR_cons rfl ?_ ?_ | rfl))) rfl) | exact e_build [.tmp 19] tlOk rfl rfl rfl rfl rfl rfl (allN_one rfl) (by simp) | exact at_dst 21 rfl (e_append tlOk rfl rfl rfl rfl rfl rfl (slD_plain (slD_own (lookHO_spec rfl) rfl) (by simp [plain1, iP])) hBr (by simp only [maxLen, List.length_cons, List.length_nil]; omega) (by simp only [List.length_cons, List.length_nil]; omega)) | exact e_buildF 21 tlOk rfl rfl rfl rfl rfl rfl rfl (by simp only [List.length_append]) | exact at_dst 23 rfl (e_append tlOk rfl rfl rfl rfl rfl rfl (slD_own (lookHO_spec rfl) rfl) hXr (by simp only [maxLen, List.length_cons, List.length_nil]; omega) (by simp only [List.length_cons, List.length_nil]; omega))); (case xb => rfl); (case xc => rfl); (case xe => rfl); try dsimp only [P0.d, Res.d, List.map_cons, List.map_nil, List.set_cons_zero, List.set_cons_succ, Nat.reduceAdd]) | ((first | refine aw_ways rfl ?_ ?_ | refine r_split rfl rfl rfl ?_ ?_) <;> intro hg_ <;> fail_if_success (exact Bool.noConfusion hg_)) <;> (try simp only [prn] at hg_) <;> (try first | contradiction | (exfalso; omega)))
    all_goals first
      | (refine hfin _ ?_
         (refine weak_ren [(100, 23)] rfl ?_ ?_ <;> repeat' (first | exact trivial | refine subR_cons rfl ?_ ?_ | refine subHR_cons rfl ?_ ?_ | rfl | (refine d_int ?_; (first | rfl | omega | (rw [IntWalk.i64_in _ (by omega)] <;> omega) | (simp; done) | (simp; omega))) | (refine d_bool ?_; (first | (simp_all; done) | (rw [Bool.eq_iff_iff]; simp_all; done) | (rw [Bool.eq_iff_iff]; simp_all; omega) | (rw [Bool.eq_iff_iff]; simp; omega))) | exact d_int (by rw [IntWalk.i64_in _ (by omega)] <;> omega) | exact d_own (by simp only [List.length_append, hlX, List.length_cons, List.length_nil]) | exact var2 rfl (cell_int (by omega)) | exact ob_sl rfl hS.symm)))
      | trace_state
  · have hiC : i = C := by omega
    subst hiC
    clear hF K0
    generalize rcIt bs (p + 1, []) i = x at *
    obtain ⟨q, X⟩ := x
    dsimp only at hbd hDR hP' ⊢
    have K1 := KO q (by omega) (by omega)
    have K2 := KP (q + 1) (by omega) (by omega) 3
    have hv2 := pickV_in bs (q + 1) 3
    clear KP KB KO
    have hlX := rowsI_len X
    have hXr : X.length = (rowsI X).length := hlX.symm
    generalize oddV bs q 4 = od at *
    generalize pickV bs (q + 1) 3 = v2 at *
    cases od with
    | false =>
      rw [if_neg (by simp)] at hDR hP'
      subst hDR hP'
      repeat' (first | (with_reducible first | refine aw_seq ?_ | refine thn_normal ?_ | refine thn_ret ?_ | refine thn_exit ?_ | refine blk_normal ?_ | refine blk_ret ?_ | refine blk_hit ?_ | refine blk_miss rfl ?_ | refine aw_block ?_ | refine aw_ret ?_ | refine aw_skip ?_ | refine aw_exit ?_ | refine w_nil ?_ | refine x_nil (by kernel_rfl) ?_) | refine aw_region ?_ | refine aw_region_draw (by kernel_rfl) ?_ | refine aw_yes rfl ?_ | refine aw_no rfl ?_ | ((with_reducible refine w_seq ?_); first | refine r_q tbOk rfl rfl rfl rfl ?_ | refine r_e tbOk rfl rfl rfl rfl rfl ?_ | refine r_yes tbOk rfl rfl rfl rfl rfl rfl ?_ | refine w_no rfl rfl (lookO_spec rfl) rfl rfl rfl ?_ | refine w_un rfl rfl (lookO_spec rfl) rfl rfl ?_) | ((with_reducible refine w_drw ?_); first | refine rx_q tbOk rfl rfl rfl rfl ?_ | refine rx_e tbOk rfl rfl rfl rfl rfl ?_ | refine rx_yes tbOk rfl rfl rfl rfl rfl rfl ?_ | refine x_no rfl rfl (lookO_spec rfl) rfl rfl rfl ?_ | refine x_un rfl rfl (lookO_spec rfl) rfl rfl ?_) | ((first | refine' w_e rfl ?xa ?xb ?xc ?xe ?_ | refine' v_e rfl ?xa ?xb ?xc ?xe ?_); (case xa => exact at_dst 26 rfl (e_callS [] K1 rfl ⟨asD_ren (evO_spec rfl), by rw [evO_spec rfl]; exact asD_r rfl, trivial⟩ (by (repeat' (first | exact trivial | refine subHR_cons rfl ?_ ?_ | rfl))) rfl)); (case xb => rfl); (case xc => rfl); (case xe => rfl); try dsimp only [P0.d, Res.d, List.map_cons, List.map_nil, List.set_cons_zero, List.set_cons_succ, Nat.reduceAdd]) | ((first | refine aw_ways rfl ?_ ?_ | refine r_split rfl rfl rfl ?_ ?_) <;> intro hg_ <;> fail_if_success (exact Bool.noConfusion hg_)) <;> (try simp only [prn] at hg_) <;> (try first | contradiction | (exfalso; omega)))
      all_goals first
        | exact ret_D [(2000001, 100)] rfl (by (repeat' (first | exact trivial | refine subHR_cons rfl ?_ ?_ | rfl))) (retD_tmp rfl (imp_refl rfl))
        | trace_state
    | true =>
      rw [if_pos rfl] at hDR hP'
      subst hP'
      by_cases h0 : v2 = 0
      · rw [if_pos h0] at hDR
        subst hDR h0
        have hS : rowsI X ++ [.one (row false 1 [])] = rowsI (X ++ [[]]) := by rw [rowsI_app]; rfl
        repeat' (first | (with_reducible first | refine aw_seq ?_ | refine thn_normal ?_ | refine thn_ret ?_ | refine thn_exit ?_ | refine blk_normal ?_ | refine blk_ret ?_ | refine blk_hit ?_ | refine blk_miss rfl ?_ | refine aw_block ?_ | refine aw_ret ?_ | refine aw_skip ?_ | refine aw_exit ?_ | refine w_nil ?_ | refine x_nil (by kernel_rfl) ?_) | refine aw_region ?_ | refine aw_region_draw (by kernel_rfl) ?_ | refine aw_yes rfl ?_ | refine aw_no rfl ?_ | ((with_reducible refine w_seq ?_); first | refine r_q tbOk rfl rfl rfl rfl ?_ | refine r_e tbOk rfl rfl rfl rfl rfl ?_ | refine r_yes tbOk rfl rfl rfl rfl rfl rfl ?_ | refine w_no rfl rfl (lookO_spec rfl) rfl rfl rfl ?_ | refine w_un rfl rfl (lookO_spec rfl) rfl rfl ?_) | ((with_reducible refine w_drw ?_); first | refine rx_q tbOk rfl rfl rfl rfl ?_ | refine rx_e tbOk rfl rfl rfl rfl rfl ?_ | refine rx_yes tbOk rfl rfl rfl rfl rfl rfl ?_ | refine x_no rfl rfl (lookO_spec rfl) rfl rfl rfl ?_ | refine x_un rfl rfl (lookO_spec rfl) rfl rfl ?_) | ((first | refine' w_e rfl ?xa ?xb ?xc ?xe ?_ | refine' v_e rfl ?xa ?xb ?xc ?xe ?_); (case xa => first | exact at_dst 26 rfl (e_callS [] K1 rfl ⟨asD_ren (evO_spec rfl), by rw [evO_spec rfl]; exact asD_r rfl, trivial⟩ (by (repeat' (first | exact trivial | refine subHR_cons rfl ?_ ?_ | rfl))) rfl) | exact at_dst 28 rfl (e_callS [] K2 rfl ⟨asD_ren (evO_spec rfl), by rw [evO_spec rfl]; exact asD_r rfl, trivial⟩ (by (repeat' (first | exact trivial | refine subHR_cons rfl ?_ ?_ | rfl))) rfl) | exact at_dst 40 rfl (e_build [] tlOk rfl rfl rfl rfl rfl rfl (by simp [AllN]) (by simp)) | exact e_buildF 40 tlOk rfl rfl rfl rfl rfl rfl rfl rfl | exact at_dst 42 rfl (e_append tlOk rfl rfl rfl rfl rfl rfl (slD_own (lookHO_spec rfl) rfl) hXr (by simp only [maxLen, List.length_cons, List.length_nil]; omega) (by simp only [List.length_cons, List.length_nil]; omega))); (case xb => rfl); (case xc => rfl); (case xe => rfl); try dsimp only [P0.d, Res.d, List.map_cons, List.map_nil, List.set_cons_zero, List.set_cons_succ, Nat.reduceAdd]) | ((first | refine aw_ways rfl ?_ ?_ | refine r_split rfl rfl rfl ?_ ?_) <;> intro hg_ <;> fail_if_success (exact Bool.noConfusion hg_)) <;> (try simp only [prn] at hg_) <;> (try first | contradiction | (exfalso; omega)))
        all_goals first
          | (exfalso; omega)
          | exact ret_D [(2000001, 42)] rfl (by (repeat' (first | exact trivial | refine subHR_cons rfl ?_ ?_ | rfl | exact ob_sl rfl hS))) (retD_tmp rfl (imp_refl (d_own (by simp only [List.length_append, hlX, List.length_cons, List.length_nil]))))
          | trace_state
      · rw [if_neg h0] at hDR
        by_cases h1 : v2 = 1
        · rw [if_pos h1] at hDR
          subst hDR h1
          have hS : rowsI X ++ [.one (row false 1 [iP 256])] = rowsI (X ++ [[256]]) := by rw [rowsI_app]; rfl
          repeat' (first | (with_reducible first | refine aw_seq ?_ | refine thn_normal ?_ | refine thn_ret ?_ | refine thn_exit ?_ | refine blk_normal ?_ | refine blk_ret ?_ | refine blk_hit ?_ | refine blk_miss rfl ?_ | refine aw_block ?_ | refine aw_ret ?_ | refine aw_skip ?_ | refine aw_exit ?_ | refine w_nil ?_ | refine x_nil (by kernel_rfl) ?_) | refine aw_region ?_ | refine aw_region_draw (by kernel_rfl) ?_ | refine aw_yes rfl ?_ | refine aw_no rfl ?_ | ((with_reducible refine w_seq ?_); first | refine r_q tbOk rfl rfl rfl rfl ?_ | refine r_e tbOk rfl rfl rfl rfl rfl ?_ | refine r_yes tbOk rfl rfl rfl rfl rfl rfl ?_ | refine w_no rfl rfl (lookO_spec rfl) rfl rfl rfl ?_ | refine w_un rfl rfl (lookO_spec rfl) rfl rfl ?_) | ((with_reducible refine w_drw ?_); first | refine rx_q tbOk rfl rfl rfl rfl ?_ | refine rx_e tbOk rfl rfl rfl rfl rfl ?_ | refine rx_yes tbOk rfl rfl rfl rfl rfl rfl ?_ | refine x_no rfl rfl (lookO_spec rfl) rfl rfl rfl ?_ | refine x_un rfl rfl (lookO_spec rfl) rfl rfl ?_) | ((first | refine' w_e rfl ?xa ?xb ?xc ?xe ?_ | refine' v_e rfl ?xa ?xb ?xc ?xe ?_); (case xa => first | exact at_dst 26 rfl (e_callS [] K1 rfl ⟨asD_ren (evO_spec rfl), by rw [evO_spec rfl]; exact asD_r rfl, trivial⟩ (by (repeat' (first | exact trivial | refine subHR_cons rfl ?_ ?_ | rfl))) rfl) | exact at_dst 28 rfl (e_callS [] K2 rfl ⟨asD_ren (evO_spec rfl), by rw [evO_spec rfl]; exact asD_r rfl, trivial⟩ (by (repeat' (first | exact trivial | refine subHR_cons rfl ?_ ?_ | rfl))) rfl) | exact at_dst 46 rfl (e_build [.const (.int .i64 256)] tlOk rfl rfl rfl rfl rfl rfl (allN_ints [256]) (by simp)) | exact e_buildF 46 tlOk rfl rfl rfl rfl rfl rfl rfl rfl | exact at_dst 48 rfl (e_append tlOk rfl rfl rfl rfl rfl rfl (slD_own (lookHO_spec rfl) rfl) hXr (by simp only [maxLen, List.length_cons, List.length_nil]; omega) (by simp only [List.length_cons, List.length_nil]; omega))); (case xb => rfl); (case xc => rfl); (case xe => rfl); try dsimp only [P0.d, Res.d, List.map_cons, List.map_nil, List.set_cons_zero, List.set_cons_succ, Nat.reduceAdd]) | ((first | refine aw_ways rfl ?_ ?_ | refine r_split rfl rfl rfl ?_ ?_) <;> intro hg_ <;> fail_if_success (exact Bool.noConfusion hg_)) <;> (try simp only [prn] at hg_) <;> (try first | contradiction | (exfalso; omega)))
          all_goals first
            | (exfalso; omega)
            | exact ret_D [(2000001, 48)] rfl (by (repeat' (first | exact trivial | refine subHR_cons rfl ?_ ?_ | rfl | exact ob_sl rfl hS))) (retD_tmp rfl (imp_refl (d_own (by simp only [List.length_append, hlX, List.length_cons, List.length_nil]))))
            | trace_state
        · rw [if_neg h1] at hDR
          subst hDR
          repeat' (first | (with_reducible first | refine aw_seq ?_ | refine thn_normal ?_ | refine thn_ret ?_ | refine thn_exit ?_ | refine blk_normal ?_ | refine blk_ret ?_ | refine blk_hit ?_ | refine blk_miss rfl ?_ | refine aw_block ?_ | refine aw_ret ?_ | refine aw_skip ?_ | refine aw_exit ?_ | refine w_nil ?_ | refine x_nil (by kernel_rfl) ?_) | refine aw_region ?_ | refine aw_region_draw (by kernel_rfl) ?_ | refine aw_yes rfl ?_ | refine aw_no rfl ?_ | ((with_reducible refine w_seq ?_); first | refine r_q tbOk rfl rfl rfl rfl ?_ | refine r_e tbOk rfl rfl rfl rfl rfl ?_ | refine r_yes tbOk rfl rfl rfl rfl rfl rfl ?_ | refine w_no rfl rfl (lookO_spec rfl) rfl rfl rfl ?_ | refine w_un rfl rfl (lookO_spec rfl) rfl rfl ?_) | ((with_reducible refine w_drw ?_); first | refine rx_q tbOk rfl rfl rfl rfl ?_ | refine rx_e tbOk rfl rfl rfl rfl rfl ?_ | refine rx_yes tbOk rfl rfl rfl rfl rfl rfl ?_ | refine x_no rfl rfl (lookO_spec rfl) rfl rfl rfl ?_ | refine x_un rfl rfl (lookO_spec rfl) rfl rfl ?_) | ((first | refine' w_e rfl ?xa ?xb ?xc ?xe ?_ | refine' v_e rfl ?xa ?xb ?xc ?xe ?_); (case xa => first | exact at_dst 26 rfl (e_callS [] K1 rfl ⟨asD_ren (evO_spec rfl), by rw [evO_spec rfl]; exact asD_r rfl, trivial⟩ (by (repeat' (first | exact trivial | refine subHR_cons rfl ?_ ?_ | rfl))) rfl) | exact at_dst 28 rfl (e_callS [] K2 rfl ⟨asD_ren (evO_spec rfl), by rw [evO_spec rfl]; exact asD_r rfl, trivial⟩ (by (repeat' (first | exact trivial | refine subHR_cons rfl ?_ ?_ | rfl))) rfl)); (case xb => rfl); (case xc => rfl); (case xe => rfl); try dsimp only [P0.d, Res.d, List.map_cons, List.map_nil, List.set_cons_zero, List.set_cons_succ, Nat.reduceAdd]) | ((first | refine aw_ways rfl ?_ ?_ | refine r_split rfl rfl rfl ?_ ?_) <;> intro hg_ <;> fail_if_success (exact Bool.noConfusion hg_)) <;> (try simp only [prn] at hg_) <;> (try first | contradiction | (exfalso; omega)))
          all_goals first
            | (exfalso; omega)
            | skip
          obtain ⟨z, hz⟩ : ∃ z : List Int, z = List.replicate 100 0 := ⟨_, rfl⟩
          have hzP : List.replicate 100 (iP 0) = ints z := by rw [hz]; exact ints_rep0 100
          have hzl : z.length = 100 := by rw [hz, List.length_replicate]
          rw [← hz]
          clear hz
          obtain ⟨G, hG⟩ : ∃ G : Nat → St, ∀ j : Nat, G j = mkS 50 [(7, .one (.r true (int j))), (5, .one (.own 100 0 (X ++ List.replicate j z).length 1))] [(1000000000, .var 118 [.r m1 (row nb 1 (bys bs)), .r true (int (q + 1 + 1))]), (100, .sl 26 1 true (rowsI (X ++ List.replicate j z)))] := ⟨_, fun _ => rfl⟩
          refine aw_loopI (fun j : Nat => j ≤ 20) G (fun j => 20 - j) 0 (Nat.zero_le _) (by rw [hG]; (refine weak_ren [] rfl ?_ ?_ <;> repeat' (first | exact trivial | refine subR_cons rfl ?_ ?_ | refine subHR_cons rfl ?_ ?_ | rfl | (refine d_int ?_; (first | rfl | omega | (rw [IntWalk.i64_in _ (by omega)] <;> omega) | (simp; done) | (simp; omega))) | (refine d_bool ?_; (first | (simp_all; done) | (rw [Bool.eq_iff_iff]; simp_all; done) | (rw [Bool.eq_iff_iff]; simp_all; omega) | (rw [Bool.eq_iff_iff]; simp; omega))) | exact d_own (by simp) | exact ob_sl rfl (by simp)))) ?_
          rintro j hj
          rw [hG]
          have hYr : (X ++ List.replicate j z).length = (rowsI (X ++ List.replicate j z)).length := (rowsI_len _).symm
          have hYl : (X ++ List.replicate j z).length ≤ 100 := by rw [List.length_append, List.length_replicate]; omega
          by_cases hjl : j < 20
          · have hfin : ∀ s' : St, Weak s' (G (j + 1)) → ∃ x' : Nat, x' ≤ 20 ∧ Weak s' (G x') ∧ 20 - x' < 20 - j := fun s' h => ⟨j + 1, hjl, h, by omega⟩
            rw [hG (j + 1), rows_rep] at hfin
            have hll : (X ++ List.replicate (j + 1) z).length = (X ++ List.replicate j z).length + 1 := by simp only [List.length_append, List.length_replicate]; omega
            rw [hll] at hfin
            have hw : IntKind.i64.wrap ((j : Int) + 1) = ((j + 1 : Nat) : Int) := by rw [IntWalk.i64_in _ (by omega)]; omega
            clear hG
            generalize X ++ List.replicate j z = Y at *
            repeat' (first | (with_reducible first | refine aw_seq ?_ | refine thn_normal ?_ | refine thn_ret ?_ | refine thn_exit ?_ | refine blk_normal ?_ | refine blk_ret ?_ | refine blk_hit ?_ | refine blk_miss rfl ?_ | refine aw_block ?_ | refine aw_ret ?_ | refine aw_skip ?_ | refine aw_exit ?_ | refine w_nil ?_ | refine x_nil (by kernel_rfl) ?_) | refine aw_region ?_ | refine aw_region_draw (by kernel_rfl) ?_ | refine aw_yes rfl ?_ | refine aw_no rfl ?_ | ((with_reducible refine w_seq ?_); first | refine r_q tbOk rfl rfl rfl rfl ?_ | refine r_e tbOk rfl rfl rfl rfl rfl ?_ | refine r_yes tbOk rfl rfl rfl rfl rfl rfl ?_ | refine w_no rfl rfl (lookO_spec rfl) rfl rfl rfl ?_ | refine w_un rfl rfl (lookO_spec rfl) rfl rfl ?_) | ((with_reducible refine w_drw ?_); first | refine rx_q tbOk rfl rfl rfl rfl ?_ | refine rx_e tbOk rfl rfl rfl rfl rfl ?_ | refine rx_yes tbOk rfl rfl rfl rfl rfl rfl ?_ | refine x_no rfl rfl (lookO_spec rfl) rfl rfl rfl ?_ | refine x_un rfl rfl (lookO_spec rfl) rfl rfl ?_) | ((first | refine' w_e rfl ?xa ?xb ?xc ?xe ?_ | refine' v_e rfl ?xa ?xb ?xc ?xe ?_); (case xa => first | exact at_dst 34 rfl (e_make tlOk rfl rfl rfl rfl rfl rfl (c := 100) rfl rfl (by omega) (by simp only [maxLen]; omega)) | exact e_buildF 34 tlOk rfl rfl rfl rfl rfl rfl rfl (by rw [List.length_replicate]) | exact at_dst 36 rfl (e_append tlOk rfl rfl rfl rfl rfl rfl (slD_own (lookHO_spec rfl) rfl) hYr (by simp only [maxLen, List.length_cons, List.length_nil]; omega) (by simp only [List.length_cons, List.length_nil]; omega))); (case xb => rfl); (case xc => rfl); (case xe => rfl); try dsimp only [P0.d, Res.d, List.map_cons, List.map_nil, List.set_cons_zero, List.set_cons_succ, Nat.reduceAdd]) | ((first | refine aw_ways rfl ?_ ?_ | refine r_split rfl rfl rfl ?_ ?_) <;> intro hg_ <;> fail_if_success (exact Bool.noConfusion hg_)) <;> (try simp only [prn] at hg_) <;> (try first | contradiction | (exfalso; omega)))
            all_goals first
              | (refine hfin _ ?_
                 (refine weak_ren [(100, 36)] rfl ?_ ?_ <;> repeat' (first | exact trivial | refine subR_cons rfl ?_ ?_ | refine subHR_cons rfl ?_ ?_ | rfl | (refine d_int ?_; (first | rfl | omega | (rw [IntWalk.i64_in _ (by omega)] <;> omega) | (simp; done) | (simp; omega))) | (refine d_bool ?_; (first | (simp_all; done) | (rw [Bool.eq_iff_iff]; simp_all; done) | (rw [Bool.eq_iff_iff]; simp_all; omega) | (rw [Bool.eq_iff_iff]; simp; omega))) | exact d_int hw | exact d_own (by rw [← hYr]; rfl) | exact ob_sl rfl (by rw [hzP]))))
              | trace_state
          · obtain rfl : j = 20 := by omega
            repeat' (first | (with_reducible first | refine aw_seq ?_ | refine thn_normal ?_ | refine thn_ret ?_ | refine thn_exit ?_ | refine blk_normal ?_ | refine blk_ret ?_ | refine blk_hit ?_ | refine blk_miss rfl ?_ | refine aw_block ?_ | refine aw_ret ?_ | refine aw_skip ?_ | refine aw_exit ?_ | refine w_nil ?_ | refine x_nil (by kernel_rfl) ?_) | refine aw_region ?_ | refine aw_region_draw (by kernel_rfl) ?_ | refine aw_yes rfl ?_ | refine aw_no rfl ?_ | ((with_reducible refine w_seq ?_); first | refine r_q tbOk rfl rfl rfl rfl ?_ | refine r_e tbOk rfl rfl rfl rfl rfl ?_ | refine r_yes tbOk rfl rfl rfl rfl rfl rfl ?_ | refine w_no rfl rfl (lookO_spec rfl) rfl rfl rfl ?_ | refine w_un rfl rfl (lookO_spec rfl) rfl rfl ?_) | ((with_reducible refine w_drw ?_); first | refine rx_q tbOk rfl rfl rfl rfl ?_ | refine rx_e tbOk rfl rfl rfl rfl rfl ?_ | refine rx_yes tbOk rfl rfl rfl rfl rfl rfl ?_ | refine x_no rfl rfl (lookO_spec rfl) rfl rfl rfl ?_ | refine x_un rfl rfl (lookO_spec rfl) rfl rfl ?_) | ((first | refine aw_ways rfl ?_ ?_ | refine r_split rfl rfl rfl ?_ ?_) <;> intro hg_ <;> fail_if_success (exact Bool.noConfusion hg_)) <;> (try simp only [prn] at hg_) <;> (try first | contradiction | (exfalso; omega)))
            all_goals first
              | (exfalso; omega)
              | exact ret_D [(2000001, 100)] rfl (by (repeat' (first | exact trivial | refine subHR_cons rfl ?_ ?_ | rfl))) (retD_tmp rfl (imp_refl rfl))
              | trace_state
set_option maxRecDepth 100000 in
set_option maxHeartbeats 4000000 in
theorem f_drawRecords (nb : Bool) (code : List Int) (hB : Byte code) (hl : code.length ≤ 1048576) :
    ∃ L : List (List Int), (L.length ≤ 30 ∧ ∀ b ∈ L, b.length ≤ 2002) ∧ Fn Try.prog 45 [.one (row nb 1 (bys code))] (.v (.one (row false 1 (rowsI L)))) := by
  have K0 := f_open nb code hl
  have hB2 := byte_take2 hB 2000
  have hl2 : (code.take 2000).length ≤ 2000 := by rw [List.length_take]; omega
  obtain ⟨p', KG⟩ := f_l20Records (bs := code.take 2000) 0 hB2 hl2 (by omega) (by omega) false true nb
  refine ⟨_, drRc_bd (code.take 2000) 0, ?_⟩
  clear hB2 hl2 hB
  generalize drRc (code.take 2000) 0 = L at *
  generalize code.take 2000 = bs at *
  have hlL := (rowsI_len L).symm
  unfold rdH at *
  refine fn_of (l := [.tmp 2]) Try.func45 (by kernel_rfl) rfl Try.ntmps45 rfl rfl ?_; simp only [argEnv, P0.d, Nat.reduceAdd]
  repeat' (first | (with_reducible first | refine aw_seq ?_ | refine thn_normal ?_ | refine thn_ret ?_ | refine thn_exit ?_ | refine blk_normal ?_ | refine blk_ret ?_ | refine blk_hit ?_ | refine blk_miss rfl ?_ | refine aw_block ?_ | refine aw_ret ?_ | refine aw_skip ?_ | refine aw_exit ?_ | refine w_nil ?_ | refine x_nil (by kernel_rfl) ?_) | refine aw_region ?_ | refine aw_region_draw (by kernel_rfl) ?_ | refine aw_yes rfl ?_ | refine aw_no rfl ?_ | ((with_reducible refine w_seq ?_); first | refine r_q tbOk rfl rfl rfl rfl ?_ | refine r_e tbOk rfl rfl rfl rfl rfl ?_ | refine r_yes tbOk rfl rfl rfl rfl rfl rfl ?_ | refine w_no rfl rfl (lookO_spec rfl) rfl rfl rfl ?_ | refine w_un rfl rfl (lookO_spec rfl) rfl rfl ?_) | ((with_reducible refine w_drw ?_); first | refine rx_q tbOk rfl rfl rfl rfl ?_ | refine rx_e tbOk rfl rfl rfl rfl rfl ?_ | refine rx_yes tbOk rfl rfl rfl rfl rfl rfl ?_ | refine x_no rfl rfl (lookO_spec rfl) rfl rfl rfl ?_ | refine x_un rfl rfl (lookO_spec rfl) rfl rfl ?_) | ((first | refine' w_e rfl ?xa ?xb ?xc ?xe ?_ | refine' v_e rfl ?xa ?xb ?xc ?xe ?_); (case xa => first | exact e_callS [(2000001, 600)] K0 rfl ⟨by rw [evO_spec rfl]; exact asD_r rfl, trivial⟩ trivial rfl | exact at_dst 5 rfl (e_callS [(1000000000, 600), (2000001, 501)] KG rfl ⟨asD_ren (evO_spec rfl), by rw [evO_spec rfl]; exact asD_r rfl, trivial⟩ (by (repeat' (first | exact trivial | refine subHR_cons rfl ?_ ?_ | rfl))) rfl)); (case xb => rfl); (case xc => rfl); (case xe => rfl); try dsimp only [P0.d, Res.d, List.map_cons, List.map_nil, List.set_cons_zero, List.set_cons_succ, Nat.reduceAdd]) | ((first | refine aw_ways rfl ?_ ?_ | refine r_split rfl rfl rfl ?_ ?_) <;> intro hg_ <;> fail_if_success (exact Bool.noConfusion hg_)) <;> (try simp only [prn] at hg_) <;> (try first | contradiction | (exfalso; omega)))
  all_goals first
    | exact ret_tmp rfl (dres_one (cres_own0 (lookHO_spec rfl) hlL))
    | trace_state
end Go.Proofs.Ytihpchbkodihpaa.Abs
