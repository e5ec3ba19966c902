/- ReadGraph of the program, by states: a graph with edges comes with edges of its own. No statement of the seat is proved here. -/
import Derived.Test.YtihpchbkodihpaaTy
import Derived.Lib.Hide
import Derived.Test.YtihpchbkodihpaaAImE
set_option linter.unusedSimpArgs false
set_option linter.unusedVariables false
namespace Go.Proofs.Ytihpchbkodihpaa.Abs
open Go.RowKit
open R (val row ref)

set_option maxRecDepth 100000 in
set_option maxHeartbeats 8000000 in
theorem f_implReadGraphS (nil : Bool) (m : Int) (es : List E3) (hg : gOk m es = true) (hne : es ≠ []) : FnS Try.prog 29 [.one (.r false (row nil 1 (ints (bytesG m es))))] [] (.tups [(true, [.r true (int m), .own 2000001 0 es.length 3]), (false, [.r true (bool true)])]) [(2000001, .sl 45 3 true (edges es))] := by
  have hX := bytesG_len hg
  have KS := f_implScanFrames nil (bytesG m es) (bytesG_ok hg)
  rw [scan_bytesG hg] at KS
  dsimp only at KS
  have hli := ints_len (bytesG m es)
  obtain ⟨hm0, hm1, h40⟩ := gOk_mC hg
  have hbo := bodiesG_ok hg (enc m) (by simp [bodiesG])
  have hb1 := bodyOk_bytes hbo
  have hb2 := bodyOk_len hbo
  have KN := f_number true true false (enc m) 0 hb1 (by omega)
  have hD := decAt_num hb1
  rw [decAt_enc hm0 (by omega)] at hD
  have hli0 := ints_len (enc m)
  have KD := f_brDone true true false (enc m) (enc m).length
  rw [show decide ((enc m).length = (enc m).length) = true by simp] at KD
  have KG := f_implGraphValid m false es (by simp only [maxLen]; omega)
  rw [hg] at KG
  have hrd : ∀ (k : Nat) (h : k < es.length), readE (edgeB es[k].1 es[k].2.1 es[k].2.2) = some es[k] := fun k h => by
    have hf := gOk_fits hg es[k] (List.getElem_mem h)
    unfold edgeB
    rw [hf.1, hf.2.1, hf.2.2]
    exact readE_edgeB hf.1 hf.2.1 hf.2.2
  have hbl : (es.map fun e => edgeB e.1 e.2.1 e.2.2).length = es.length := List.length_map ..
  have hbg : ∀ (k : Nat) (h : k < es.length), (es.map fun e => edgeB e.1 e.2.1 e.2.2)[k]'(by rw [hbl]; exact h) = edgeB es[k].1 es[k].2.1 es[k].2.2 := fun k h => by simp
  unfold bodiesG at KS
  have hdn : decide ((enc m :: es.map fun e => edgeB e.1 e.2.1 e.2.2) = []) = false := by simp
  rw [hdn] at KS
  clear hdn
  generalize (es.map fun e => edgeB e.1 e.2.1 e.2.2) = bs at *
  generalize bytesG m es = X at *
  generalize enc m = b0 at *
  generalize numF 3 0 0 1 b0 0 = N at *
  obtain ⟨v, okv, j⟩ := N
  dsimp only at hD KN
  cases okv with
  | false => rw [if_neg (by simp)] at hD; cases hD
  | true =>
    rw [if_pos rfl] at hD
    injection hD with hD
    injection hD with h1 h2
    obtain rfl : m = v := h1
    obtain rfl : j = b0.length := by omega
    clear h2 hbo hb1
    have hrl : (rowsI (b0 :: bs)).length = bs.length + 1 := by rw [rowsI_len]; rfl
    have hix0' : (rowsI (b0 :: bs))[(0 : Int).toNat]? = some (rowP b0) := rfl
    have hdrop : ((rowsI (b0 :: bs)).drop 1).take ((bs.length + 1) - 1) = rowsI bs := by
      show ((rowsI bs)).take _ = _
      rw [Nat.add_sub_cancel, List.take_of_length_le (by rw [rowsI_len]; exact Nat.le_refl _)]
    have hlb := rowsI_len bs
    have hpos : 0 < es.length := List.length_pos_iff.2 hne
    unfold brH at *
    refine fnS_of (l := [.cell 2 25, .tmp 3]) Try.func29 (by kernel_rfl) rfl Try.ntmps29 rfl rfl ?_; simp only [dEnv, Nat.reduceAdd]
    repeat' (first | (with_reducible first | refine aw_seq ?_ | refine thn_normal ?_ | refine thn_ret ?_ | refine thn_exit ?_ | refine blk_normal ?_ | refine blk_ret ?_ | refine blk_hit ?_ | refine blk_miss rfl ?_ | refine aw_block ?_ | refine aw_ret ?_ | refine aw_skip ?_ | refine aw_exit ?_ | refine w_nil ?_ | refine x_nil (by kernel_rfl) ?_) | refine aw_region ?_ | refine aw_region_draw (by kernel_rfl) ?_ | refine aw_yes rfl ?_ | refine aw_no rfl ?_ | ((with_reducible refine w_seq ?_); first | refine r_q tbOk rfl rfl rfl rfl ?_ | refine r_e tbOk rfl rfl rfl rfl rfl ?_ | refine r_yes tbOk rfl rfl rfl rfl rfl rfl ?_ | refine w_no rfl rfl (lookO_spec rfl) rfl rfl rfl ?_ | refine w_un rfl rfl (lookO_spec rfl) rfl rfl ?_) | ((with_reducible refine w_drw ?_); first | refine rx_q tbOk rfl rfl rfl rfl ?_ | refine rx_e tbOk rfl rfl rfl rfl rfl ?_ | refine rx_yes tbOk rfl rfl rfl rfl rfl rfl ?_ | refine x_no rfl rfl (lookO_spec rfl) rfl rfl rfl ?_ | refine x_un rfl rfl (lookO_spec rfl) rfl rfl ?_) | ((first | refine' w_q rfl rfl ?xa rfl ?_ | refine' v_q rfl rfl ?xa rfl ?_ | refine' w_yes rfl rfl (lookO_spec rfl) rfl ?xa rfl ?_ | refine' v_yes rfl rfl (lookO_spec rfl) rfl ?xa rfl ?_); case xa => first | exact k_call KS rfl ⟨asA_r (evO_spec rfl), trivial⟩ | exact k_index tbOk rfl rfl rfl rfl (by omega) (by exact hix0') | exact k_slice (a := 1) (b := bs.length + 1) tbOk rfl rfl rfl ⟨_, evO_spec rfl⟩ hrl.symm (by omega) (by omega)) | ((first | refine' w_e rfl ?xa ?xb ?xc ?xe ?_ | refine' v_e rfl ?xa ?xb ?xc ?xe ?_); (case xa => exact at_dst 34 rfl (e_callS [(1000000000, 6)] KN rfl ⟨asD_ren (evO_spec rfl), trivial⟩ (by (repeat' (first | exact trivial | refine subHR_cons rfl ?_ ?_ | rfl))) rfl)); (case xb => rfl); (case xc => rfl); (case xe => rfl); try dsimp only [P0.d, Res.d, List.map_cons, List.map_nil, List.set_cons_zero, List.set_cons_succ, Nat.reduceAdd]) | ((first | refine' w_ey rfl rfl (lookO_spec rfl) ?xa ?xb ?xc ?xe ?_ | refine' v_ey rfl rfl (lookO_spec rfl) ?xa ?xb ?xc ?xe ?_); (case xa => exact at_dst 40 rfl (e_callS [(1000000000, 6)] KD rfl ⟨asD_ren (evO_spec rfl), trivial⟩ (by (repeat' (first | exact trivial | refine subHR_cons rfl ?_ ?_ | rfl))) rfl)); (case xb => rfl); (case xc => rfl); (case xe => rfl); try dsimp only [P0.d, Res.d, List.map_cons, List.map_nil, List.set_cons_zero, List.set_cons_succ, Nat.reduceAdd]) | ((first | refine aw_ways rfl ?_ ?_ | refine r_split rfl rfl rfl ?_ ?_) <;> intro hg_ <;> fail_if_success (exact Bool.noConfusion hg_)) <;> (try simp only [prn] at hg_) <;> (try first | contradiction | (exfalso; omega)))
    all_goals first
      | (exfalso; omega)
      | skip
    rw [hdrop]
    obtain ⟨S0, hS0⟩ : ∃ S0 : St, S0 = mkS 73 [(49, .one (.r true (int 0))), (48, .one (.r true (int bs.length))), (47, .one (.r true (row false 1 (rowsI bs)))), (9, .one (.ptr 9 0 0 0)), (2, .one (.ptr 2 0 0 0))] [(9, .var 25 [.r true (int m), .r true (row true 0 [])]), (2, .var 25 [.r true (int 0), .r true (row true 0 [])])] := ⟨_, rfl⟩
    obtain ⟨S1, hS1⟩ : ∃ S1 : Nat × List E3 → St, ∀ x, S1 x = mkS 73 [(49, .one (.r true (int x.1))), (48, .one (.r true (int bs.length))), (47, .one (.r true (row false 1 (rowsI bs)))), (9, .one (.ptr 9 0 0 0)), (2, .one (.ptr 2 0 0 0))] [(9, .var 25 [.r true (int m), .own 100 0 x.2.length 3]), (100, .sl 45 3 true (edges x.2)), (2, .var 25 [.r true (int 0), .r true (row true 0 [])])] := ⟨_, fun _ => rfl⟩
    obtain ⟨F, hF0, hF1⟩ : ∃ F : Option (Nat × List E3) → St, F none = S0 ∧ ∀ x, F (some x) = S1 x := ⟨fun o => match o with | none => S0 | some x => S1 x, rfl, fun _ => rfl⟩
    refine aw_loopI (fun o : Option (Nat × List E3) => ∀ x, o = some x → x.1 ≤ es.length ∧ x.2 = es.take x.1 ∧ x.2.length = x.1) F (fun o => match o with | none => es.length + 1 | some x => es.length - x.1) none (fun x h => by cases h) (by rw [hF0, hS0]; (refine weak_ren [] rfl ?_ ?_ <;> repeat' (first | exact trivial | refine subR_cons rfl ?_ ?_ | refine subHR_cons rfl ?_ ?_ | rfl | (refine d_int ?_; (first | rfl | omega | (rw [IntWalk.i64_in _ (by omega)] <;> omega) | (simp; done) | (simp; omega))) | (refine d_bool ?_; (first | (simp_all; done) | (rw [Bool.eq_iff_iff]; simp_all; done) | (rw [Bool.eq_iff_iff]; simp_all; omega) | (rw [Bool.eq_iff_iff]; simp; omega))) | exact d_int (by rw [hlb])))) ?_
    intro o ho
    cases o with
    | none =>
      rw [hF0, hS0]
      have hlt : 0 < bs.length := by omega
      have hix := rowsI_at hlt
      have hr := hrd 0 hpos
      rw [← hbg 0 hpos] at hr
      have hT : es.take 1 = [es[0]] := by rw [List.take_succ_eq_append_getElem hpos]; rfl
      generalize bs[0] = b at *
      generalize es[0] = e at *
      have KE := f_implReadEdge false b
      have hw : IntKind.i64.wrap ((0 : Int) + 1) = ((1 : Nat) : Int) := by decide
      rw [hr] at KE
      have hfin : ∀ s' : St, Weak s' (S1 (1, [e])) → ∃ x' : Option (Nat × List E3), (∀ x, x' = some x → x.1 ≤ es.length ∧ x.2 = es.take x.1 ∧ x.2.length = x.1) ∧ Weak s' (F x') ∧ (match x' with | none => es.length + 1 | some x => es.length - x.1) < es.length + 1 := fun s' h => ⟨some (1, [e]), fun x hx => by
        injection hx with hx; subst hx
        exact ⟨hpos, hT.symm, rfl⟩, (by rw [hF1]; exact h), by dsimp only; omega⟩
      rw [hS1] at hfin
      clear hF0 hF1 hS0 hS1 ho KS KN KD hT hrd hbg hr
      obtain ⟨e1, e2, e3⟩ := e
      unfold edgeRes at KE
      repeat' (first | (with_reducible first | refine aw_seq ?_ | refine thn_normal ?_ | refine thn_ret ?_ | refine thn_exit ?_ | refine blk_normal ?_ | refine blk_ret ?_ | refine blk_hit ?_ | refine blk_miss rfl ?_ | refine aw_block ?_ | refine aw_ret ?_ | refine aw_skip ?_ | refine aw_exit ?_ | refine w_nil ?_ | refine x_nil (by kernel_rfl) ?_) | refine aw_region ?_ | refine aw_region_draw (by kernel_rfl) ?_ | refine aw_yes rfl ?_ | refine aw_no rfl ?_ | ((with_reducible refine w_seq ?_); first | refine r_q tbOk rfl rfl rfl rfl ?_ | refine r_e tbOk rfl rfl rfl rfl rfl ?_ | refine r_yes tbOk rfl rfl rfl rfl rfl rfl ?_ | refine w_no rfl rfl (lookO_spec rfl) rfl rfl rfl ?_ | refine w_un rfl rfl (lookO_spec rfl) rfl rfl ?_) | ((with_reducible refine w_drw ?_); first | refine rx_q tbOk rfl rfl rfl rfl ?_ | refine rx_e tbOk rfl rfl rfl rfl rfl ?_ | refine rx_yes tbOk rfl rfl rfl rfl rfl rfl ?_ | refine x_no rfl rfl (lookO_spec rfl) rfl rfl rfl ?_ | refine x_un rfl rfl (lookO_spec rfl) rfl rfl ?_) | ((first | refine' w_q rfl rfl ?xa rfl ?_ | refine' v_q rfl rfl ?xa rfl ?_ | refine' w_yes rfl rfl (lookO_spec rfl) rfl ?xa rfl ?_ | refine' v_yes rfl rfl (lookO_spec rfl) rfl ?xa rfl ?_); case xa => first | exact k_index tbOk rfl rfl rfl rfl (by omega) (by exact hix) | exact k_call KE rfl ⟨asA_r (evO_spec rfl), trivial⟩) | ((first | refine' w_e rfl ?xa ?xb ?xc ?xe ?_ | refine' v_e rfl ?xa ?xb ?xc ?xe ?_); (case xa => first | exact e_build [.tmp 63] tlOk rfl rfl rfl rfl rfl rfl (allN_one rfl) (by simp) | exact e_append_nil tlOk rfl rfl rfl rfl rfl (slD_plain (slD_own (lookHO_spec rfl) rfl) (edge1_plain _ _ _)) (by simp) (by simp [maxLen]) (by simp)); (case xb => rfl); (case xc => rfl); (case xe => rfl); try dsimp only [P0.d, Res.d, List.map_cons, List.map_nil, List.set_cons_zero, List.set_cons_succ, Nat.reduceAdd]) | ((first | refine aw_ways rfl ?_ ?_ | refine r_split rfl rfl rfl ?_ ?_) <;> intro hg_ <;> fail_if_success (exact Bool.noConfusion hg_)) <;> (try simp only [prn] at hg_) <;> (try first | contradiction | (exfalso; omega)))
      all_goals first
        | (exfalso; omega)
        | (refine hfin _ ?_
           (refine weak_ren [(100, 65)] rfl ?_ ?_ <;> repeat' (first | exact trivial | refine subR_cons rfl ?_ ?_ | refine subHR_cons rfl ?_ ?_ | rfl | (refine d_int ?_; (first | rfl | omega | (rw [IntWalk.i64_in _ (by omega)] <;> omega) | (simp; done) | (simp; omega))) | (refine d_bool ?_; (first | (simp_all; done) | (rw [Bool.eq_iff_iff]; simp_all; done) | (rw [Bool.eq_iff_iff]; simp_all; omega) | (rw [Bool.eq_iff_iff]; simp; omega))) | exact d_int hw)))
        | trace_state
    | some x =>
      obtain ⟨k, fs⟩ := x
      obtain ⟨hk, hfs, hel⟩ := ho _ rfl
      dsimp only at hk hfs hel
      rw [hF1, hS1]
      dsimp only
      have hrow := (edges_len fs).symm
      by_cases hlt : k < es.length
      · have hltb : k < bs.length := by omega
        have hix := rowsI_at hltb
        have hr := hrd k hlt
        rw [← hbg k hlt] at hr
        have hT : es.take (k + 1) = fs ++ [es[k]] := by rw [List.take_succ_eq_append_getElem hlt, hfs]
        generalize bs[k] = b at *
        generalize es[k] = e at *
        have KE := f_implReadEdge false b
        have hw : IntKind.i64.wrap ((k : Int) + 1) = ((k + 1 : Nat) : Int) := by rw [IntWalk.i64_in _ (by omega)]; omega
        rw [hr] at KE
        have hfin : ∀ s' : St, Weak s' (S1 (k + 1, fs ++ [e])) → ∃ x' : Option (Nat × List E3), (∀ x, x' = some x → x.1 ≤ es.length ∧ x.2 = es.take x.1 ∧ x.2.length = x.1) ∧ Weak s' (F x') ∧ (match x' with | none => es.length + 1 | some x => es.length - x.1) < es.length - k := fun s' h => ⟨some (k + 1, fs ++ [e]), fun x hx => by
          injection hx with hx; subst hx
          exact ⟨hlt, hT.symm, by simp [hel]⟩, (by rw [hF1]; exact h), by dsimp only; omega⟩
        rw [hS1] at hfin
        clear hF0 hF1 hS0 hS1 ho KS KN KD hT hrd hbg hr hfs
        obtain ⟨e1, e2, e3⟩ := e
        unfold edgeRes at KE
        repeat' (first | (with_reducible first | refine aw_seq ?_ | refine thn_normal ?_ | refine thn_ret ?_ | refine thn_exit ?_ | refine blk_normal ?_ | refine blk_ret ?_ | refine blk_hit ?_ | refine blk_miss rfl ?_ | refine aw_block ?_ | refine aw_ret ?_ | refine aw_skip ?_ | refine aw_exit ?_ | refine w_nil ?_ | refine x_nil (by kernel_rfl) ?_) | refine aw_region ?_ | refine aw_region_draw (by kernel_rfl) ?_ | refine aw_yes rfl ?_ | refine aw_no rfl ?_ | ((with_reducible refine w_seq ?_); first | refine r_q tbOk rfl rfl rfl rfl ?_ | refine r_e tbOk rfl rfl rfl rfl rfl ?_ | refine r_yes tbOk rfl rfl rfl rfl rfl rfl ?_ | refine w_no rfl rfl (lookO_spec rfl) rfl rfl rfl ?_ | refine w_un rfl rfl (lookO_spec rfl) rfl rfl ?_) | ((with_reducible refine w_drw ?_); first | refine rx_q tbOk rfl rfl rfl rfl ?_ | refine rx_e tbOk rfl rfl rfl rfl rfl ?_ | refine rx_yes tbOk rfl rfl rfl rfl rfl rfl ?_ | refine x_no rfl rfl (lookO_spec rfl) rfl rfl rfl ?_ | refine x_un rfl rfl (lookO_spec rfl) rfl rfl ?_) | ((first | refine' w_q rfl rfl ?xa rfl ?_ | refine' v_q rfl rfl ?xa rfl ?_ | refine' w_yes rfl rfl (lookO_spec rfl) rfl ?xa rfl ?_ | refine' v_yes rfl rfl (lookO_spec rfl) rfl ?xa rfl ?_); case xa => first | exact k_index tbOk rfl rfl rfl rfl (by omega) (by exact hix) | exact k_call KE rfl ⟨asA_r (evO_spec rfl), trivial⟩) | ((first | refine' w_e rfl ?xa ?xb ?xc ?xe ?_ | refine' v_e rfl ?xa ?xb ?xc ?xe ?_); (case xa => first | exact e_build [.tmp 63] tlOk rfl rfl rfl rfl rfl rfl (allN_one rfl) (by simp) | exact e_append tlOk rfl rfl rfl rfl rfl rfl (slD_plain (slD_own (lookHO_spec rfl) rfl) (edge1_plain _ _ _)) hrow (by simp only [maxLen, List.length_cons, List.length_nil]; omega) (by simp only [List.length_cons, List.length_nil]; omega)); (case xb => rfl); (case xc => rfl); (case xe => rfl); try dsimp only [P0.d, Res.d, List.map_cons, List.map_nil, List.set_cons_zero, List.set_cons_succ, Nat.reduceAdd]) | ((first | refine aw_ways rfl ?_ ?_ | refine r_split rfl rfl rfl ?_ ?_) <;> intro hg_ <;> fail_if_success (exact Bool.noConfusion hg_)) <;> (try simp only [prn] at hg_) <;> (try first | contradiction | (exfalso; omega)))
        all_goals first
          | (exfalso; omega)
          | (refine hfin _ ?_
             (refine weak_ren [(100, 65)] rfl ?_ ?_ <;> repeat' (first | exact trivial | refine subR_cons rfl ?_ ?_ | refine subHR_cons rfl ?_ ?_ | rfl | (refine d_int ?_; (first | rfl | omega | (rw [IntWalk.i64_in _ (by omega)] <;> omega) | (simp; done) | (simp; omega))) | (refine d_bool ?_; (first | (simp_all; done) | (rw [Bool.eq_iff_iff]; simp_all; done) | (rw [Bool.eq_iff_iff]; simp_all; omega) | (rw [Bool.eq_iff_iff]; simp; omega))) | exact d_int hw | exact gvar2 rfl (cell_own (by simp only [List.length_append, List.length_cons, List.length_nil, edges_len])) | exact ob_sl rfl (edges_app fs (e1, e2, e3)).symm)))
          | trace_state
      · obtain rfl : k = es.length := by omega
        rw [List.take_length] at hfs
        subst hfs
        clear hF0 hF1 hS0 hS1 ho KS KN KD hrd hbg
        repeat' (first | (with_reducible first | refine aw_seq ?_ | refine thn_normal ?_ | refine thn_ret ?_ | refine thn_exit ?_ | refine blk_normal ?_ | refine blk_ret ?_ | refine blk_hit ?_ | refine blk_miss rfl ?_ | refine aw_block ?_ | refine aw_ret ?_ | refine aw_skip ?_ | refine aw_exit ?_ | refine w_nil ?_ | refine x_nil (by kernel_rfl) ?_) | refine aw_region ?_ | refine aw_region_draw (by kernel_rfl) ?_ | refine aw_yes rfl ?_ | refine aw_no rfl ?_ | ((with_reducible refine w_seq ?_); first | refine r_q tbOk rfl rfl rfl rfl ?_ | refine r_e tbOk rfl rfl rfl rfl rfl ?_ | refine r_yes tbOk rfl rfl rfl rfl rfl rfl ?_ | refine w_no rfl rfl (lookO_spec rfl) rfl rfl rfl ?_ | refine w_un rfl rfl (lookO_spec rfl) rfl rfl ?_) | ((with_reducible refine w_drw ?_); first | refine rx_q tbOk rfl rfl rfl rfl ?_ | refine rx_e tbOk rfl rfl rfl rfl rfl ?_ | refine rx_yes tbOk rfl rfl rfl rfl rfl rfl ?_ | refine x_no rfl rfl (lookO_spec rfl) rfl rfl rfl ?_ | refine x_un rfl rfl (lookO_spec rfl) rfl rfl ?_) | ((first | refine' w_q rfl rfl ?xa rfl ?_ | refine' v_q rfl rfl ?xa rfl ?_ | refine' w_yes rfl rfl (lookO_spec rfl) rfl ?xa rfl ?_ | refine' v_yes rfl rfl (lookO_spec rfl) rfl ?xa rfl ?_); case xa => exact k_call KG rfl ⟨asA_agg (evO_spec rfl) ⟨cAr_r, cAr_own0 (lookHO_spec rfl) hrow, trivial⟩, trivial⟩) | ((first | refine aw_ways rfl ?_ ?_ | refine r_split rfl rfl rfl ?_ ?_) <;> intro hg_ <;> fail_if_success (exact Bool.noConfusion hg_)) <;> (try simp only [prn] at hg_) <;> (try first | contradiction | (exfalso; omega)))
        all_goals first
          | (exfalso; omega)
          | exact ret_D [(2000001, 100)] rfl (by (repeat' (first | exact trivial | refine subHR_cons rfl ?_ ?_ | rfl))) (retD_two (x := (true, _)) (y := (false, [_])) (ret1_cell rfl rfl (by (with_reducible first | exact ty3 | exact ty4 | exact ty5 | exact ty9 | exact ty17 | exact ty19 | exact ty22 | exact ty23 | exact ty25 | exact ty26 | exact ty28 | exact ty30 | exact ty36 | exact ty38 | exact ty40 | exact ty45 | exact ty66 | exact ty77 | exact ty80 | exact ty100 | exact ty112 | exact ty118 | exact ty126 | exact ty128 | exact ty131 | exact ty132)) rfl rfl rfl) rfl (ret1_tmp rfl) rfl (imp_refl rfl))
          | trace_state
end Go.Proofs.Ytihpchbkodihpaa.Abs
