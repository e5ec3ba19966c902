/- Frames and graphs as bytes by states: the reference's JoinFrames, GraphBytes. No statement of the seat is proved here. -/
import Derived.Test.YtihpchbkodihpaaTy
import Derived.Lib.Hide
import Derived.Test.YtihpchbkodihpaaASpC
set_option linter.unusedSimpArgs false
set_option linter.unusedVariables false
namespace Go.Proofs.Ytihpchbkodihpaa.Abs
open Go.RowKit
open R (val row ref)

def joinR (bs : List (List Int)) (acc : List Int) : List Int × Bool := match joinF bs acc with | some o => (o, true) | none => ([], false)
theorem joinR_cons (b : List Int) (bs : List (List Int)) (acc : List Int) : joinR (b :: bs) acc = if bodyOk b = true ∧ acc.length + (frameOf b).length ≤ 2000 then joinR bs (acc ++ frameOf b) else ([], false) := by
  unfold joinR
  simp only [joinF]
  by_cases h : bodyOk b = true ∧ acc.length + (frameOf b).length ≤ 2000
  · rw [if_pos h, if_pos h]
  · rw [if_neg h, if_neg h]
theorem frame_zero (b : List Int) : (frameOf b).length = 0 ↔ bodyOk b = false := by
  cases h : bodyOk b with
  | false => simp [frameOf, h]
  | true => rw [frame_pos h]; simp
theorem tups1 {c c' : Cell} {d d' : Cell} (h1 : c = c') (h2 : d = d') : D.tups [(false, [c]), (false, [d])] = .tups [(false, [c']), (false, [d'])] := by rw [h1, h2]
theorem cell_ownN {k n n' sz : Nat} (h : n = n') : Cell.own k 0 n sz = .own k 0 n' sz := by rw [h]
set_option maxRecDepth 100000 in
set_option maxHeartbeats 4000000 in
theorem f_specJoin (nil : Bool) (bs : List (List Int)) (hl : bs.length ≤ 1048576) :
    FnS Try.prog 47 [.one (.r false (row nil 1 (rowsI bs)))] [] (.tups [(false, [.own 2000001 0 (joinR bs []).1.length 1]), (false, [.r true (bool (joinR bs []).2)])]) [(2000001, .sl 3 1 true (ints (joinR bs []).1))] := by
  have hlen := rowsI_len bs
  refine fnS_of (l := [.tmp 2, .tmp 3]) Try.func47 (by kernel_rfl) rfl Try.ntmps47 rfl rfl ?_; simp only [dEnv, Nat.reduceAdd]
  repeat' (first | (with_reducible first | refine aw_seq ?_ | refine thn_normal ?_ | refine thn_ret ?_ | refine thn_exit ?_ | refine blk_normal ?_ | refine blk_ret ?_ | refine blk_hit ?_ | refine blk_miss rfl ?_ | refine aw_block ?_ | refine aw_ret ?_ | refine aw_skip ?_ | refine aw_exit ?_ | refine w_nil ?_ | refine x_nil (by kernel_rfl) ?_) | refine aw_region ?_ | refine aw_region_draw (by kernel_rfl) ?_ | refine aw_yes rfl ?_ | refine aw_no rfl ?_ | ((with_reducible refine w_seq ?_); first | refine r_q tbOk rfl rfl rfl rfl ?_ | refine r_e tbOk rfl rfl rfl rfl rfl ?_ | refine r_yes tbOk rfl rfl rfl rfl rfl rfl ?_ | refine w_no rfl rfl (lookO_spec rfl) rfl rfl rfl ?_ | refine w_un rfl rfl (lookO_spec rfl) rfl rfl ?_) | ((with_reducible refine w_drw ?_); first | refine rx_q tbOk rfl rfl rfl rfl ?_ | refine rx_e tbOk rfl rfl rfl rfl rfl ?_ | refine rx_yes tbOk rfl rfl rfl rfl rfl rfl ?_ | refine x_no rfl rfl (lookO_spec rfl) rfl rfl rfl ?_ | refine x_un rfl rfl (lookO_spec rfl) rfl rfl ?_) | ((first | refine' w_e rfl ?xa ?xb ?xc ?xe ?_ | refine' v_e rfl ?xa ?xb ?xc ?xe ?_); (case xa => exact e_build [] tlOk rfl rfl rfl rfl rfl rfl (by simp [AllN]) (by simp)); (case xb => rfl); (case xc => rfl); (case xe => rfl); try dsimp only [P0.d, Res.d, List.map_cons, List.map_nil, List.set_cons_zero, List.set_cons_succ, Nat.reduceAdd]) | ((first | refine aw_ways rfl ?_ ?_ | refine r_split rfl rfl rfl ?_ ?_) <;> intro hg_ <;> fail_if_success (exact Bool.noConfusion hg_)) <;> (try simp only [prn] at hg_) <;> (try first | contradiction | (exfalso; omega)))
  refine aw_loopI (fun x : Nat × List Int => x.1 ≤ bs.length ∧ joinR bs [] = joinR (bs.drop x.1) x.2 ∧ x.2.length ≤ 2000) (fun x => mkS 35 [(5, .one (.r true (int x.1))), (4, .one (.own 100 0 x.2.length 1)), (0, .one (.r false (row nil 1 (rowsI bs))))] [(100, .sl 3 1 true (ints x.2))]) (fun x => bs.length - x.1) (0, []) ⟨Nat.zero_le _, rfl, Nat.zero_le _⟩ (by (refine weak_ren [(100, 7)] rfl ?_ ?_ <;> repeat' (first | exact trivial | refine subR_cons rfl ?_ ?_ | refine subHR_cons rfl ?_ ?_ | rfl | (refine d_int ?_; (first | rfl | omega | (rw [IntWalk.i64_in _ (by omega)] <;> omega) | (simp; done) | (simp; omega))) | (refine d_bool ?_; (first | (simp_all; done) | (rw [Bool.eq_iff_iff]; simp_all; done) | (rw [Bool.eq_iff_iff]; simp_all; omega) | (rw [Bool.eq_iff_iff]; simp; omega)))))) ?_
  rintro ⟨k, acc⟩ ⟨hk, hE, ha⟩
  dsimp only at hk hE ha ⊢
  have hac := (ints_len acc).symm
  by_cases hlt : k < bs.length
  · have hix := rowsI_at hlt
    rw [List.drop_eq_getElem_cons hlt, joinR_cons] at hE
    generalize bs[k] = b at *
    · have KF := f_specFrameOf false b
      have hz := frame_zero b
      have hf := frame_len b
      have hfl := ints_len (frameOf b)
      have hw : IntKind.i64.wrap ((k : Int) + 1) = ((k + 1 : Nat) : Int) := by rw [IntWalk.i64_in _ (by omega)]; omega
      have hw2 : IntKind.i64.wrap ((acc.length : Int) + ((ints (frameOf b)).length : Int)) = ((acc.length + (frameOf b).length : Nat) : Int) := by rw [hfl, IntWalk.i64_in _ (by omega)]; omega
      have hfin : bodyOk b = true ∧ acc.length + (frameOf b).length ≤ 2000 → ∀ s' : St, Weak s' (mkS 35 [(5, .one (.r true (int ((k + 1 : Nat) : Int)))), (4, .one (.own 100 0 (acc ++ frameOf b).length 1)), (0, .one (.r false (row nil 1 (rowsI bs))))] [(100, .sl 3 1 true (ints (acc ++ frameOf b)))]) → ∃ x' : Nat × List Int, (x'.1 ≤ bs.length ∧ joinR bs [] = joinR (bs.drop x'.1) x'.2 ∧ x'.2.length ≤ 2000) ∧ Weak s' (mkS 35 [(5, .one (.r true (int x'.1))), (4, .one (.own 100 0 x'.2.length 1)), (0, .one (.r false (row nil 1 (rowsI bs))))] [(100, .sl 3 1 true (ints x'.2))]) ∧ bs.length - x'.1 < bs.length - k := fun hc s' h => ⟨(k + 1, acc ++ frameOf b), ⟨hlt, by rw [hE, if_pos hc], by dsimp only; rw [List.length_append]; exact hc.2⟩, h, by dsimp only; omega⟩
      have hno : ¬ (bodyOk b = true ∧ acc.length + (frameOf b).length ≤ 2000) → joinR bs [] = ([], false) := fun h => by rw [hE, if_neg h]
      clear hE
      generalize joinR bs [] = J at *
      generalize frameOf b = fr at *
      generalize bodyOk b = bo at *
      repeat' (first | (with_reducible first | refine aw_seq ?_ | refine thn_normal ?_ | refine thn_ret ?_ | refine thn_exit ?_ | refine blk_normal ?_ | refine blk_ret ?_ | refine blk_hit ?_ | refine blk_miss rfl ?_ | refine aw_block ?_ | refine aw_ret ?_ | refine aw_skip ?_ | refine aw_exit ?_ | refine w_nil ?_ | refine x_nil (by kernel_rfl) ?_) | refine aw_region ?_ | refine aw_region_draw (by kernel_rfl) ?_ | refine aw_yes rfl ?_ | refine aw_no rfl ?_ | ((with_reducible refine w_seq ?_); first | refine r_q tbOk rfl rfl rfl rfl ?_ | refine r_e tbOk rfl rfl rfl rfl rfl ?_ | refine r_yes tbOk rfl rfl rfl rfl rfl rfl ?_ | refine w_no rfl rfl (lookO_spec rfl) rfl rfl rfl ?_ | refine w_un rfl rfl (lookO_spec rfl) rfl rfl ?_) | ((with_reducible refine w_drw ?_); first | refine rx_q tbOk rfl rfl rfl rfl ?_ | refine rx_e tbOk rfl rfl rfl rfl rfl ?_ | refine rx_yes tbOk rfl rfl rfl rfl rfl rfl ?_ | refine x_no rfl rfl (lookO_spec rfl) rfl rfl rfl ?_ | refine x_un rfl rfl (lookO_spec rfl) rfl rfl ?_) | ((first | refine' w_q rfl rfl ?xa rfl ?_ | refine' v_q rfl rfl ?xa rfl ?_ | refine' w_yes rfl rfl (lookO_spec rfl) rfl ?xa rfl ?_ | refine' v_yes rfl rfl (lookO_spec rfl) rfl ?xa rfl ?_); case xa => exact k_index tbOk rfl rfl rfl rfl (by omega) (by exact hix)) | ((first | refine' w_e rfl ?xa ?xb ?xc ?xe ?_ | refine' v_e rfl ?xa ?xb ?xc ?xe ?_); (case xa => first | exact e_callO KF rfl rfl ⟨asA_r (evO_spec rfl), trivial⟩ | exact e_build [] tlOk rfl rfl rfl rfl rfl rfl (by simp [AllN]) (by simp) | exact e_append tlOk rfl rfl rfl rfl rfl rfl (slD_plain (slD_own (lookHO_spec rfl) rfl) (ints_plain _)) hac (by simp only [maxLen, List.length_append, List.length_cons, List.length_nil]; omega) (by (try simp only [List.length_append, List.length_cons, List.length_nil]); omega)); (case xb => rfl); (case xc => rfl); (case xe => rfl); try dsimp only [P0.d, Res.d, List.map_cons, List.map_nil, List.set_cons_zero, List.set_cons_succ, Nat.reduceAdd]) | ((first | refine aw_ways rfl ?_ ?_ | refine r_split rfl rfl rfl ?_ ?_) <;> intro hg_ <;> fail_if_success (exact Bool.noConfusion hg_)) <;> (try simp only [prn] at hg_) <;> (try first | contradiction | (exfalso; omega)))
      all_goals first
        | (have hJ := hno (by
             rintro ⟨h1, h2⟩
             have h0 : fr.length ≠ 0 := fun h => by have := hz.1 h; rw [h1] at this; cases this
             first | omega | (rw [hw2] at *; omega))
           rw [hJ]
           exact ret_D [(2000001, 30)] rfl (by (repeat' (first | exact trivial | refine subHR_cons rfl ?_ ?_ | rfl))) (retD_two (x := (false, [_])) (y := (false, [_])) (ret1_tmp rfl) rfl (ret1_tmp rfl) rfl (imp_refl (tups1 rfl rfl))))
        | (refine hfin ⟨by cases bo <;> simp_all, by first | omega | (rw [hw2] at *; omega)⟩ _ ?_
           (refine weak_ren [(100, 33)] rfl ?_ ?_ <;> repeat' (first | exact trivial | refine subR_cons rfl ?_ ?_ | refine subHR_cons rfl ?_ ?_ | rfl | (refine d_int ?_; (first | rfl | omega | (rw [IntWalk.i64_in _ (by omega)] <;> omega) | (simp; done) | (simp; omega))) | (refine d_bool ?_; (first | (simp_all; done) | (rw [Bool.eq_iff_iff]; simp_all; done) | (rw [Bool.eq_iff_iff]; simp_all; omega) | (rw [Bool.eq_iff_iff]; simp; omega))) | exact d_int hw | exact d_own (by simp only [List.length_append, ints_len]) | exact ob_sl rfl (ints_appB _ _).symm)))
        | trace_state
  · obtain rfl : k = bs.length := by omega
    rw [List.drop_length] at hE
    rw [hE]
    clear hE
    repeat' (first | (with_reducible first | refine aw_seq ?_ | refine thn_normal ?_ | refine thn_ret ?_ | refine thn_exit ?_ | refine blk_normal ?_ | refine blk_ret ?_ | refine blk_hit ?_ | refine blk_miss rfl ?_ | refine aw_block ?_ | refine aw_ret ?_ | refine aw_skip ?_ | refine aw_exit ?_ | refine w_nil ?_ | refine x_nil (by kernel_rfl) ?_) | refine aw_region ?_ | refine aw_region_draw (by kernel_rfl) ?_ | refine aw_yes rfl ?_ | refine aw_no rfl ?_ | ((with_reducible refine w_seq ?_); first | refine r_q tbOk rfl rfl rfl rfl ?_ | refine r_e tbOk rfl rfl rfl rfl rfl ?_ | refine r_yes tbOk rfl rfl rfl rfl rfl rfl ?_ | refine w_no rfl rfl (lookO_spec rfl) rfl rfl rfl ?_ | refine w_un rfl rfl (lookO_spec rfl) rfl rfl ?_) | ((with_reducible refine w_drw ?_); first | refine rx_q tbOk rfl rfl rfl rfl ?_ | refine rx_e tbOk rfl rfl rfl rfl rfl ?_ | refine rx_yes tbOk rfl rfl rfl rfl rfl rfl ?_ | refine x_no rfl rfl (lookO_spec rfl) rfl rfl rfl ?_ | refine x_un rfl rfl (lookO_spec rfl) rfl rfl ?_) | ((first | refine aw_ways rfl ?_ ?_ | refine r_split rfl rfl rfl ?_ ?_) <;> intro hg_ <;> fail_if_success (exact Bool.noConfusion hg_)) <;> (try simp only [prn] at hg_) <;> (try first | contradiction | (exfalso; omega)))
    all_goals first
      | exact ret_D [(2000001, 100)] rfl (by (repeat' (first | exact trivial | refine subHR_cons rfl ?_ ?_ | rfl))) (retD_two (x := (false, [_])) (y := (false, [_])) (ret1_tmp rfl) rfl (ret1_tmp rfl) rfl (imp_refl (tups1 rfl rfl)))
      | trace_state
/-- What GraphBytes gives. -/
def bytesS (m : Int) (es : List E3) : List Int := if gOk m es = true then bytesG m es else []
theorem bodies_take (m : Int) (es : List E3) {k : Nat} (h : k < es.length) : (bodiesG m es).take (k + 1 + 1) = (bodiesG m es).take (k + 1) ++ [edgeB es[k].1 es[k].2.1 es[k].2.2] := by
  have hl : k + 1 < (bodiesG m es).length := by simp [bodiesG]; omega
  rw [List.take_succ_eq_append_getElem hl]
  simp [bodiesG]
theorem bodies_len (m : Int) (es : List E3) : (bodiesG m es).length = es.length + 1 := by simp [bodiesG]
set_option maxRecDepth 100000 in
set_option maxHeartbeats 4000000 in
theorem f_specGraphBytes (m : Int) (nil : Bool) (es : List E3) (hl : es.length ≤ 1048576) : FnO Try.prog 35 [graphP m nil es] 3 1 (ints (bytesS m es)) := by
  have KG := f_specGraphValid m nil es (by simp only [maxLen]; omega)
  have hlen := edges_len es
  unfold bytesS
  cases hg : gOk m es
  · rw [hg] at KG
    refine fn_ofO Try.func35 (by kernel_rfl) rfl Try.ntmps35 rfl rfl ?_; simp only [argEnv, P0.d, Nat.reduceAdd, List.map_cons, List.map_nil, graphP]
    repeat' (first | (with_reducible first | refine aw_seq ?_ | refine thn_normal ?_ | refine thn_ret ?_ | refine thn_exit ?_ | refine blk_normal ?_ | refine blk_ret ?_ | refine blk_hit ?_ | refine blk_miss rfl ?_ | refine aw_block ?_ | refine aw_ret ?_ | refine aw_skip ?_ | refine aw_exit ?_ | refine w_nil ?_ | refine x_nil (by kernel_rfl) ?_) | refine aw_region ?_ | refine aw_region_draw (by kernel_rfl) ?_ | refine aw_yes rfl ?_ | refine aw_no rfl ?_ | ((with_reducible refine w_seq ?_); first | refine r_q tbOk rfl rfl rfl rfl ?_ | refine r_e tbOk rfl rfl rfl rfl rfl ?_ | refine r_yes tbOk rfl rfl rfl rfl rfl rfl ?_ | refine w_no rfl rfl (lookO_spec rfl) rfl rfl rfl ?_ | refine w_un rfl rfl (lookO_spec rfl) rfl rfl ?_) | ((with_reducible refine w_drw ?_); first | refine rx_q tbOk rfl rfl rfl rfl ?_ | refine rx_e tbOk rfl rfl rfl rfl rfl ?_ | refine rx_yes tbOk rfl rfl rfl rfl rfl rfl ?_ | refine x_no rfl rfl (lookO_spec rfl) rfl rfl rfl ?_ | refine x_un rfl rfl (lookO_spec rfl) rfl rfl ?_) | ((first | refine' w_q rfl rfl ?xa rfl ?_ | refine' v_q rfl rfl ?xa rfl ?_ | refine' w_yes rfl rfl (lookO_spec rfl) rfl ?xa rfl ?_ | refine' v_yes rfl rfl (lookO_spec rfl) rfl ?xa rfl ?_); case xa => exact k_call KG rfl ⟨asA_agg (evO_spec rfl) ⟨cAr_r, cAr_r, trivial⟩, trivial⟩) | ((first | refine' w_e rfl ?xa ?xb ?xc ?xe ?_ | refine' v_e rfl ?xa ?xb ?xc ?xe ?_); (case xa => exact e_build [] tlOk rfl rfl rfl rfl rfl rfl (by simp [AllN]) (by simp)); (case xb => rfl); (case xc => rfl); (case xe => rfl); try dsimp only [P0.d, Res.d, List.map_cons, List.map_nil, List.set_cons_zero, List.set_cons_succ, Nat.reduceAdd]) | ((first | refine aw_ways rfl ?_ ?_ | refine r_split rfl rfl rfl ?_ ?_) <;> intro hg_ <;> fail_if_success (exact Bool.noConfusion hg_)) <;> (try simp only [prn] at hg_) <;> (try first | contradiction | (exfalso; omega)))
    all_goals first
      | exact ret_own rfl rfl rfl
      | trace_state
  · rw [hg] at KG
    have h40 := gOk_len hg
    have KE := f_specEncodeNumber m
    have hJ : joinR (bodiesG m es) [] = (bytesG m es, true) := by unfold joinR; rw [bytesG_join hg]
    have KJ := f_specJoin false (bodiesG m es) (by rw [bodies_len]; omega)
    rw [hJ] at KJ
    clear hJ
    refine fn_ofO Try.func35 (by kernel_rfl) rfl Try.ntmps35 rfl rfl ?_; simp only [argEnv, P0.d, Nat.reduceAdd, List.map_cons, List.map_nil, graphP]
    repeat' (first | (with_reducible first | refine aw_seq ?_ | refine thn_normal ?_ | refine thn_ret ?_ | refine thn_exit ?_ | refine blk_normal ?_ | refine blk_ret ?_ | refine blk_hit ?_ | refine blk_miss rfl ?_ | refine aw_block ?_ | refine aw_ret ?_ | refine aw_skip ?_ | refine aw_exit ?_ | refine w_nil ?_ | refine x_nil (by kernel_rfl) ?_) | refine aw_region ?_ | refine aw_region_draw (by kernel_rfl) ?_ | refine aw_yes rfl ?_ | refine aw_no rfl ?_ | ((with_reducible refine w_seq ?_); first | refine r_q tbOk rfl rfl rfl rfl ?_ | refine r_e tbOk rfl rfl rfl rfl rfl ?_ | refine r_yes tbOk rfl rfl rfl rfl rfl rfl ?_ | refine w_no rfl rfl (lookO_spec rfl) rfl rfl rfl ?_ | refine w_un rfl rfl (lookO_spec rfl) rfl rfl ?_) | ((with_reducible refine w_drw ?_); first | refine rx_q tbOk rfl rfl rfl rfl ?_ | refine rx_e tbOk rfl rfl rfl rfl rfl ?_ | refine rx_yes tbOk rfl rfl rfl rfl rfl rfl ?_ | refine x_no rfl rfl (lookO_spec rfl) rfl rfl rfl ?_ | refine x_un rfl rfl (lookO_spec rfl) rfl rfl ?_) | ((first | refine' w_q rfl rfl ?xa rfl ?_ | refine' v_q rfl rfl ?xa rfl ?_ | refine' w_yes rfl rfl (lookO_spec rfl) rfl ?xa rfl ?_ | refine' v_yes rfl rfl (lookO_spec rfl) rfl ?xa rfl ?_); case xa => exact k_call KG rfl ⟨asA_agg (evO_spec rfl) ⟨cAr_r, cAr_r, trivial⟩, trivial⟩) | ((first | refine' w_e rfl ?xa ?xb ?xc ?xe ?_ | refine' v_e rfl ?xa ?xb ?xc ?xe ?_); (case xa => first | exact e_callO KE rfl rfl ⟨asA_r (evO_spec rfl), trivial⟩ | exact e_buildF 13 tlOk rfl rfl rfl rfl rfl rfl rfl rfl); (case xb => rfl); (case xc => rfl); (case xe => rfl); try dsimp only [P0.d, Res.d, List.map_cons, List.map_nil, List.set_cons_zero, List.set_cons_succ, Nat.reduceAdd]) | ((first | refine aw_ways rfl ?_ ?_ | refine r_split rfl rfl rfl ?_ ?_) <;> intro hg_ <;> fail_if_success (exact Bool.noConfusion hg_)) <;> (try simp only [prn] at hg_) <;> (try first | contradiction | (exfalso; omega)))
    refine aw_loopI (fun k : Nat => k ≤ es.length) (fun k => mkS 37 [(4, .one (.r true (int k))), (3, .one (.own 100 0 (k + 1) 1)), (1, .one (.ptr 1 0 0 0))] [(100, .sl 26 1 true (rowsI ((bodiesG m es).take (k + 1)))), (1, .var 25 [.r false (int m), .r false (row nil 3 (edges es))])]) (fun k => es.length - k) 0 (Nat.zero_le _) (by (refine weak_ren [(100, 14)] rfl ?_ ?_ <;> repeat' (first | exact trivial | refine subR_cons rfl ?_ ?_ | refine subHR_cons rfl ?_ ?_ | rfl | (refine d_int ?_; (first | rfl | omega | (rw [IntWalk.i64_in _ (by omega)] <;> omega) | (simp; done) | (simp; omega))) | (refine d_bool ?_; (first | (simp_all; done) | (rw [Bool.eq_iff_iff]; simp_all; done) | (rw [Bool.eq_iff_iff]; simp_all; omega) | (rw [Bool.eq_iff_iff]; simp; omega)))))) ?_
    intro k hk
    have hrl : k + 1 = (rowsI ((bodiesG m es).take (k + 1))).length := by rw [rowsI_len, List.length_take, bodies_len]; omega
    by_cases hlt : k < es.length
    · have hix := edges_at hlt
      have KB := f_specEdgeBody es[k]
      have hT := bodies_take m es hlt
      have hw : IntKind.i64.wrap ((k : Int) + 1) = ((k + 1 : Nat) : Int) := by rw [IntWalk.i64_in _ (by omega)]; omega
      have hS : rowsI ((bodiesG m es).take (k + 1 + 1)) = rowsI ((bodiesG m es).take (k + 1)) ++ [rowP (edgeB es[k].1 es[k].2.1 es[k].2.2)] := by rw [hT, rowsI_app]
      clear hT
      generalize es[k] = e at *
      obtain ⟨e1, e2, e3⟩ := e
      dsimp only at KB hS
      generalize edgeB e1 e2 e3 = eb at *
      repeat' (first | (with_reducible first | refine aw_seq ?_ | refine thn_normal ?_ | refine thn_ret ?_ | refine thn_exit ?_ | refine blk_normal ?_ | refine blk_ret ?_ | refine blk_hit ?_ | refine blk_miss rfl ?_ | refine aw_block ?_ | refine aw_ret ?_ | refine aw_skip ?_ | refine aw_exit ?_ | refine w_nil ?_ | refine x_nil (by kernel_rfl) ?_) | refine aw_region ?_ | refine aw_region_draw (by kernel_rfl) ?_ | refine aw_yes rfl ?_ | refine aw_no rfl ?_ | ((with_reducible refine w_seq ?_); first | refine r_q tbOk rfl rfl rfl rfl ?_ | refine r_e tbOk rfl rfl rfl rfl rfl ?_ | refine r_yes tbOk rfl rfl rfl rfl rfl rfl ?_ | refine w_no rfl rfl (lookO_spec rfl) rfl rfl rfl ?_ | refine w_un rfl rfl (lookO_spec rfl) rfl rfl ?_) | ((with_reducible refine w_drw ?_); first | refine rx_q tbOk rfl rfl rfl rfl ?_ | refine rx_e tbOk rfl rfl rfl rfl rfl ?_ | refine rx_yes tbOk rfl rfl rfl rfl rfl rfl ?_ | refine x_no rfl rfl (lookO_spec rfl) rfl rfl rfl ?_ | refine x_un rfl rfl (lookO_spec rfl) rfl rfl ?_) | ((first | refine' w_q rfl rfl ?xa rfl ?_ | refine' v_q rfl rfl ?xa rfl ?_ | refine' w_yes rfl rfl (lookO_spec rfl) rfl ?xa rfl ?_ | refine' v_yes rfl rfl (lookO_spec rfl) rfl ?xa rfl ?_); case xa => exact k_index tbOk rfl rfl rfl rfl (by omega) (by exact hix)) | ((first | refine' w_e rfl ?xa ?xb ?xc ?xe ?_ | refine' v_e rfl ?xa ?xb ?xc ?xe ?_); (case xa => first | exact e_callO KB rfl rfl ⟨asA_agg (evO_spec rfl) ⟨cAr_r, cAr_r, cAr_r, trivial⟩, trivial⟩ | exact e_buildF 28 tlOk rfl rfl rfl rfl rfl rfl rfl rfl | exact e_append tlOk rfl rfl rfl rfl rfl rfl (slD_own (lookHO_spec rfl) rfl) hrl (by simp only [maxLen, List.length_append, List.length_cons, List.length_nil]; omega) (by simp only [List.length_append, List.length_cons, List.length_nil]; omega)); (case xb => rfl); (case xc => rfl); (case xe => rfl); try dsimp only [P0.d, Res.d, List.map_cons, List.map_nil, List.set_cons_zero, List.set_cons_succ, Nat.reduceAdd]) | ((first | refine aw_ways rfl ?_ ?_ | refine r_split rfl rfl rfl ?_ ?_) <;> intro hg_ <;> fail_if_success (exact Bool.noConfusion hg_)) <;> (try simp only [prn] at hg_) <;> (try first | contradiction | (exfalso; omega)))
      all_goals first
        | exact ⟨k + 1, by omega, by (refine weak_ren [(100, 30)] rfl ?_ ?_ <;> repeat' (first | exact trivial | refine subR_cons rfl ?_ ?_ | refine subHR_cons rfl ?_ ?_ | rfl | (refine d_int ?_; (first | rfl | omega | (rw [IntWalk.i64_in _ (by omega)] <;> omega) | (simp; done) | (simp; omega))) | (refine d_bool ?_; (first | (simp_all; done) | (rw [Bool.eq_iff_iff]; simp_all; done) | (rw [Bool.eq_iff_iff]; simp_all; omega) | (rw [Bool.eq_iff_iff]; simp; omega))) | exact d_int hw | exact d_own (by rw [← hrl]; rfl) | exact ob_sl rfl hS.symm)), by omega⟩
        | trace_state
    · obtain rfl : k = es.length := by omega
      have hE : (bodiesG m es).take (es.length + 1) = bodiesG m es := by rw [← bodies_len m es]; exact List.take_length
      rw [hE] at hrl ⊢
      clear hE
      have hbl := (ints_len (bytesG m es)).symm
      generalize bytesG m es = X at *
      repeat' (first | (with_reducible first | refine aw_seq ?_ | refine thn_normal ?_ | refine thn_ret ?_ | refine thn_exit ?_ | refine blk_normal ?_ | refine blk_ret ?_ | refine blk_hit ?_ | refine blk_miss rfl ?_ | refine aw_block ?_ | refine aw_ret ?_ | refine aw_skip ?_ | refine aw_exit ?_ | refine w_nil ?_ | refine x_nil (by kernel_rfl) ?_) | refine aw_region ?_ | refine aw_region_draw (by kernel_rfl) ?_ | refine aw_yes rfl ?_ | refine aw_no rfl ?_ | ((with_reducible refine w_seq ?_); first | refine r_q tbOk rfl rfl rfl rfl ?_ | refine r_e tbOk rfl rfl rfl rfl rfl ?_ | refine r_yes tbOk rfl rfl rfl rfl rfl rfl ?_ | refine w_no rfl rfl (lookO_spec rfl) rfl rfl rfl ?_ | refine w_un rfl rfl (lookO_spec rfl) rfl rfl ?_) | ((with_reducible refine w_drw ?_); first | refine rx_q tbOk rfl rfl rfl rfl ?_ | refine rx_e tbOk rfl rfl rfl rfl rfl ?_ | refine rx_yes tbOk rfl rfl rfl rfl rfl rfl ?_ | refine x_no rfl rfl (lookO_spec rfl) rfl rfl rfl ?_ | refine x_un rfl rfl (lookO_spec rfl) rfl rfl ?_) | ((first | refine' w_e rfl ?xa ?xb ?xc ?xe ?_ | refine' v_e rfl ?xa ?xb ?xc ?xe ?_); (case xa => exact e_callS0 (ys := [.one (row false 1 (rowsI (bodiesG m es)))]) [(2000001, 501)] KJ rfl rfl ⟨by rw [evO_spec rfl]; exact cAr_own0 (lookHO_spec rfl) hrl, trivial⟩ rfl rfl); (case xb => rfl); (case xc => rfl); (case xe => rfl); try dsimp only [P0.d, Res.d, List.map_cons, List.map_nil, List.set_cons_zero, List.set_cons_succ, Nat.reduceAdd]) | ((first | refine aw_ways rfl ?_ ?_ | refine r_split rfl rfl rfl ?_ ?_) <;> intro hg_ <;> fail_if_success (exact Bool.noConfusion hg_)) <;> (try simp only [prn] at hg_) <;> (try first | contradiction | (exfalso; omega)))
      all_goals first
        | exact ret_own rfl rfl hbl
        | trace_state
end Go.Proofs.Ytihpchbkodihpaa.Abs
