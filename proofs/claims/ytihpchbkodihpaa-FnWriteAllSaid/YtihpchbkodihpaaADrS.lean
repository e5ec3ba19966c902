/- Draws by states: disks, services. No statement of the seat is proved here. -/
import Derived.Test.YtihpchbkodihpaaTy
import Derived.Lib.Hide
import Derived.Test.YtihpchbkodihpaaADrF
import Derived.Test.YtihpchbkodihpaaASvc
set_option linter.unusedSimpArgs false
set_option linter.unusedVariables false
namespace Go.Proofs.Ytihpchbkodihpaa.Abs
open Go.RowKit
open R (val row ref)

/-- What l20Disk draws from place p on, and where it ends. -/
noncomputable def drD (bs : List Int) (p n : Int) : List Int × List Int × Int :=
  let A := drF bs p
  let B := drF bs A.2
  let S := if oddV bs B.2 9 = true then List.replicate 1950 0 else A.1
  if oddV bs (B.2 + 1) n = true then
    if pickV bs (B.2 + 1 + 1) 2 = 0 then (S, B.1 ++ [dV [-1, 256] (pickV bs (B.2 + 1 + 1 + 1) 2)], B.2 + 1 + 1 + 1 + 1) else (List.replicate 2001 0, B.1, B.2 + 1 + 1 + 1)
  else (S, B.1, B.2 + 1 + 1)
theorem drD_bd (bs : List Int) (p n : Int) : (drD bs p n).1.length ≤ 2501 ∧ (drD bs p n).2.1.length ≤ 2501 ∧ p ≤ (drD bs p n).2.2 ∧ (drD bs p n).2.2 ≤ p + 700 := by
  have h1 := drF_bd bs p
  have h2 := drF_bd bs (drF bs p).2
  unfold drD
  dsimp only
  generalize drF bs (drF bs p).2 = B at *
  generalize drF bs p = A at *
  have hS : (if oddV bs B.2 9 = true then List.replicate 1950 (0 : Int) else A.1).length ≤ 2501 := by
    split
    · rw [List.length_replicate]; omega
    · omega
  split
  · split
    · simp only [List.length_append, List.length_cons, List.length_nil]; omega
    · simp only [List.length_replicate]; omega
  · dsimp only; omega
theorem agg2 {a b a' b' : Cell} (h1 : a = a') (h2 : b = b') : D.agg [a, b] = .agg [a', b'] := by rw [h1, h2]
set_option maxRecDepth 100000 in
set_option maxHeartbeats 8000000 in
theorem f_l20Disk {bs : List Int} (p n : Int) (hn : 0 < n) (hn2 : n ≤ 1000000) (hB : Byte bs) (hl : bs.length ≤ 2000) (hp0 : 0 ≤ p) (hp : p ≤ 700000) (m1 m2 nb : Bool) :
    FnS Try.prog 83 [.one (.ptr 1000000000 0 0 0), .one (.r false (int n))] (rdH 1000000000 m1 m2 nb bs p) (.agg [.own 2000001 0 (drD bs p n).1.length 1, .own 2000002 0 (drD bs p n).2.1.length 1]) (rdH 1000000000 m1 true nb bs (drD bs p n).2.2 ++ [(2000001, .sl 3 1 true (ints (drD bs p n).1)), (2000002, .sl 3 1 true (ints (drD bs p n).2.1))]) := by
  obtain ⟨DR, hDR⟩ : ∃ x, x = drD bs p n := ⟨_, rfl⟩
  rw [← hDR]
  unfold drD at hDR
  dsimp only at hDR
  have K1 := f_l20Frames p hB hl hp0 (by omega) m1 m2 nb
  have h1 := drF_bd bs p
  generalize drF bs p = A at *
  obtain ⟨A, q1⟩ := A
  dsimp only at h1 hDR K1
  have K2 := f_l20Frames q1 hB hl (by omega) (by omega) m1 true nb
  have h2 := drF_bd bs q1
  generalize drF bs q1 = B at *
  obtain ⟨B, q2⟩ := B
  dsimp only at h2 hDR K2
  have K3 := f_odd q2 9 (by omega) (by omega) hB hl (by omega) (by omega) m1 true nb
  have K4 := f_odd (q2 + 1) n hn hn2 hB hl (by omega) (by omega) m1 true nb
  have K5 := f_pick (q2 + 1 + 1) 2 hB hl (by omega) (by omega) m1 true nb
  have K6 := f_pick (q2 + 1 + 1 + 1) 2 hB hl (by omega) (by omega) m1 true nb
  have hv := pickV_in bs (q2 + 1 + 1 + 1) 2
  generalize oddV bs q2 9 = o1 at *
  generalize oddV bs (q2 + 1) n = o2 at *
  generalize pickV bs (q2 + 1 + 1 + 1) 2 = v2 at *
  generalize pickV bs (q2 + 1 + 1) 2 = v1 at *
  have hlA := (ints_len A).symm
  have hlB := (ints_len B).symm
  unfold rdH at *
  have hR : ∀ k : Nat, List.replicate k (iP 0) = ints (List.replicate k 0) := ints_rep0
  have hfin : DR = DR := rfl
  by_cases hv1 : v1 = 0
  · cases o1 <;> cases o2
    all_goals
      (try simp only [if_true, if_false, Bool.false_eq_true, hv1] at hDR)
      subst hDR
      (try subst hv1)
      refine fnS_of (l := [.cell 4 28]) Try.func83 (by kernel_rfl) rfl Try.ntmps83 rfl rfl ?_; simp only [dEnv, Nat.reduceAdd]
      (try dsimp only)
      repeat' (first | (with_reducible first | refine aw_seq ?_ | refine thn_normal ?_ | refine thn_ret ?_ | refine thn_exit ?_ | refine blk_normal ?_ | refine blk_ret ?_ | refine blk_hit ?_ | refine blk_miss rfl ?_ | refine aw_block ?_ | refine aw_ret ?_ | refine aw_skip ?_ | refine aw_exit ?_ | refine w_nil ?_ | refine x_nil (by kernel_rfl) ?_) | refine aw_region ?_ | refine aw_region_draw (by kernel_rfl) ?_ | refine aw_yes rfl ?_ | refine aw_no rfl ?_ | ((with_reducible refine w_seq ?_); first | refine r_q tbOk rfl rfl rfl rfl ?_ | refine r_e tbOk rfl rfl rfl rfl rfl ?_ | refine r_yes tbOk rfl rfl rfl rfl rfl rfl ?_ | refine w_no rfl rfl (lookO_spec rfl) rfl rfl rfl ?_ | refine w_un rfl rfl (lookO_spec rfl) rfl rfl ?_) | ((with_reducible refine w_drw ?_); first | refine rx_q tbOk rfl rfl rfl rfl ?_ | refine rx_e tbOk rfl rfl rfl rfl rfl ?_ | refine rx_yes tbOk rfl rfl rfl rfl rfl rfl ?_ | refine x_no rfl rfl (lookO_spec rfl) rfl rfl rfl ?_ | refine x_un rfl rfl (lookO_spec rfl) rfl rfl ?_) | ((first | refine' w_q rfl rfl ?xa rfl ?_ | refine' v_q rfl rfl ?xa rfl ?_ | refine' w_yes rfl rfl (lookO_spec rfl) rfl ?xa rfl ?_ | refine' v_yes rfl rfl (lookO_spec rfl) rfl ?xa rfl ?_); case xa => first | exact k_indexO tbOk rfl rfl rfl rfl (by omega) (by simp only [List.length_cons, List.length_nil]; omega) | exact k_loadI (xs := [-1, 256]) tbOk rfl rfl rfl rfl (by simp only [List.length_cons, List.length_nil]; omega)) | ((first | refine' w_e rfl ?xa ?xb ?xc ?xe ?_ | refine' v_e rfl ?xa ?xb ?xc ?xe ?_); (case xa => first | exact at_dst 7 rfl (e_callS [(2000001, 501)] K1 rfl ⟨asD_ren (evO_spec rfl), trivial⟩ (by (repeat' (first | exact trivial | refine subHR_cons rfl ?_ ?_ | rfl))) rfl) | exact at_dst 9 rfl (e_callS [(2000001, 502)] K2 rfl ⟨asD_ren (evO_spec rfl), trivial⟩ (by (repeat' (first | exact trivial | refine subHR_cons rfl ?_ ?_ | rfl))) rfl) | exact at_dst 12 rfl (e_callS [] K3 rfl ⟨asD_ren (evO_spec rfl), by rw [evO_spec rfl]; exact asD_r rfl, trivial⟩ (by (repeat' (first | exact trivial | refine subHR_cons rfl ?_ ?_ | rfl))) rfl) | exact at_dst 17 rfl (e_callS [] K4 rfl ⟨asD_ren (evO_spec rfl), by rw [evO_spec rfl]; exact asD_r rfl, trivial⟩ (by (repeat' (first | exact trivial | refine subHR_cons rfl ?_ ?_ | rfl))) rfl) | exact at_dst 19 rfl (e_callS [] K5 rfl ⟨asD_ren (evO_spec rfl), by rw [evO_spec rfl]; exact asD_r rfl, trivial⟩ (by (repeat' (first | exact trivial | refine subHR_cons rfl ?_ ?_ | rfl))) rfl) | exact at_dst 25 rfl (e_callS [] K6 rfl ⟨asD_ren (evO_spec rfl), by rw [evO_spec rfl]; exact asD_r rfl, trivial⟩ (by (repeat' (first | exact trivial | refine subHR_cons rfl ?_ ?_ | rfl))) rfl) | exact at_dst 13 rfl (e_make tlOk rfl rfl rfl rfl rfl rfl (c := 1950) rfl rfl (by omega) (by simp only [maxLen]; omega)) | exact at_dst 23 rfl (e_build [.const (.int .i64 (-1)), .const (.int .i64 256)] tlOk rfl rfl rfl rfl rfl rfl (allN_ints [-1, 256]) (by simp)) | exact e_build [.tmp 27] tlOk rfl rfl rfl rfl rfl rfl (allN_one rfl) (by simp) | exact e_append tlOk rfl rfl rfl rfl rfl rfl (slD_plain (slD_own (lookHO_spec rfl) rfl) (by simp [plain1, iP])) hlB (by simp only [maxLen, List.length_append, List.length_cons, List.length_nil]; omega) (by (try simp only [List.length_append, List.length_cons, List.length_nil]); omega)); (case xb => rfl); (case xc => rfl); (case xe => rfl); try dsimp only [P0.d, Res.d, List.map_cons, List.map_nil, List.set_cons_zero, List.set_cons_succ, Nat.reduceAdd]) | ((first | refine aw_ways rfl ?_ ?_ | refine r_split rfl rfl rfl ?_ ?_) <;> intro hg_ <;> fail_if_success (exact Bool.noConfusion hg_)) <;> (try simp only [prn] at hg_) <;> (try first | contradiction | (exfalso; omega)))
      all_goals first
        | (exfalso; omega)
        | exact ret_D [(2000001, 501), (2000002, 502)] rfl (by (repeat' (first | exact trivial | refine subHR_cons rfl ?_ ?_ | rfl))) (retD_cell rfl rfl (by (with_reducible first | exact ty3 | exact ty4 | exact ty5 | exact ty9 | exact ty17 | exact ty19 | exact ty22 | exact ty23 | exact ty25 | exact ty26 | exact ty28 | exact ty30 | exact ty36 | exact ty38 | exact ty40 | exact ty45 | exact ty66 | exact ty77 | exact ty80 | exact ty100 | exact ty112 | exact ty118 | exact ty126 | exact ty128 | exact ty131 | exact ty132)) rfl rfl rfl (imp_refl rfl))
        | exact ret_D [(2000001, 13), (2000002, 502)] rfl (by (repeat' (first | exact trivial | refine subHR_cons rfl ?_ ?_ | rfl | exact ob_sl rfl (hR _)))) (retD_cell rfl rfl (by (with_reducible first | exact ty3 | exact ty4 | exact ty5 | exact ty9 | exact ty17 | exact ty19 | exact ty22 | exact ty23 | exact ty25 | exact ty26 | exact ty28 | exact ty30 | exact ty36 | exact ty38 | exact ty40 | exact ty45 | exact ty66 | exact ty77 | exact ty80 | exact ty100 | exact ty112 | exact ty118 | exact ty126 | exact ty128 | exact ty131 | exact ty132)) rfl rfl rfl (imp_refl (agg2 (cell_ownN (by rw [List.length_replicate])) rfl)))
        | exact ret_D [(2000001, 501), (2000002, 29)] rfl (by (repeat' (first | exact trivial | refine subHR_cons rfl ?_ ?_ | rfl | exact ob_sl rfl (by rw [ints_app, Nat.zero_add] <;> rfl)))) (retD_cell rfl rfl (by (with_reducible first | exact ty3 | exact ty4 | exact ty5 | exact ty9 | exact ty17 | exact ty19 | exact ty22 | exact ty23 | exact ty25 | exact ty26 | exact ty28 | exact ty30 | exact ty36 | exact ty38 | exact ty40 | exact ty45 | exact ty66 | exact ty77 | exact ty80 | exact ty100 | exact ty112 | exact ty118 | exact ty126 | exact ty128 | exact ty131 | exact ty132)) rfl rfl rfl (imp_refl (agg2 rfl (cell_ownN (by simp only [List.length_append, List.length_cons, List.length_nil, ints_len])))))
        | exact ret_D [(2000001, 13), (2000002, 29)] rfl (by (repeat' (first | exact trivial | refine subHR_cons rfl ?_ ?_ | rfl | exact ob_sl rfl (hR _) | exact ob_sl rfl (by rw [ints_app, Nat.zero_add] <;> rfl)))) (retD_cell rfl rfl (by (with_reducible first | exact ty3 | exact ty4 | exact ty5 | exact ty9 | exact ty17 | exact ty19 | exact ty22 | exact ty23 | exact ty25 | exact ty26 | exact ty28 | exact ty30 | exact ty36 | exact ty38 | exact ty40 | exact ty45 | exact ty66 | exact ty77 | exact ty80 | exact ty100 | exact ty112 | exact ty118 | exact ty126 | exact ty128 | exact ty131 | exact ty132)) rfl rfl rfl (imp_refl (agg2 (cell_ownN (by rw [List.length_replicate])) (cell_ownN (by simp only [List.length_append, List.length_cons, List.length_nil, ints_len])))))
        | trace_state
  · cases o1 <;> cases o2
    all_goals
      (try simp only [if_true, if_false, Bool.false_eq_true, hv1] at hDR)
      subst hDR
      refine fnS_of (l := [.cell 4 28]) Try.func83 (by kernel_rfl) rfl Try.ntmps83 rfl rfl ?_; simp only [dEnv, Nat.reduceAdd]
      (try dsimp only)
      repeat' (first | (with_reducible first | refine aw_seq ?_ | refine thn_normal ?_ | refine thn_ret ?_ | refine thn_exit ?_ | refine blk_normal ?_ | refine blk_ret ?_ | refine blk_hit ?_ | refine blk_miss rfl ?_ | refine aw_block ?_ | refine aw_ret ?_ | refine aw_skip ?_ | refine aw_exit ?_ | refine w_nil ?_ | refine x_nil (by kernel_rfl) ?_) | refine aw_region ?_ | refine aw_region_draw (by kernel_rfl) ?_ | refine aw_yes rfl ?_ | refine aw_no rfl ?_ | ((with_reducible refine w_seq ?_); first | refine r_q tbOk rfl rfl rfl rfl ?_ | refine r_e tbOk rfl rfl rfl rfl rfl ?_ | refine r_yes tbOk rfl rfl rfl rfl rfl rfl ?_ | refine w_no rfl rfl (lookO_spec rfl) rfl rfl rfl ?_ | refine w_un rfl rfl (lookO_spec rfl) rfl rfl ?_) | ((with_reducible refine w_drw ?_); first | refine rx_q tbOk rfl rfl rfl rfl ?_ | refine rx_e tbOk rfl rfl rfl rfl rfl ?_ | refine rx_yes tbOk rfl rfl rfl rfl rfl rfl ?_ | refine x_no rfl rfl (lookO_spec rfl) rfl rfl rfl ?_ | refine x_un rfl rfl (lookO_spec rfl) rfl rfl ?_) | ((first | refine' w_e rfl ?xa ?xb ?xc ?xe ?_ | refine' v_e rfl ?xa ?xb ?xc ?xe ?_); (case xa => first | exact at_dst 7 rfl (e_callS [(2000001, 501)] K1 rfl ⟨asD_ren (evO_spec rfl), trivial⟩ (by (repeat' (first | exact trivial | refine subHR_cons rfl ?_ ?_ | rfl))) rfl) | exact at_dst 9 rfl (e_callS [(2000001, 502)] K2 rfl ⟨asD_ren (evO_spec rfl), trivial⟩ (by (repeat' (first | exact trivial | refine subHR_cons rfl ?_ ?_ | rfl))) rfl) | exact at_dst 12 rfl (e_callS [] K3 rfl ⟨asD_ren (evO_spec rfl), by rw [evO_spec rfl]; exact asD_r rfl, trivial⟩ (by (repeat' (first | exact trivial | refine subHR_cons rfl ?_ ?_ | rfl))) rfl) | exact at_dst 17 rfl (e_callS [] K4 rfl ⟨asD_ren (evO_spec rfl), by rw [evO_spec rfl]; exact asD_r rfl, trivial⟩ (by (repeat' (first | exact trivial | refine subHR_cons rfl ?_ ?_ | rfl))) rfl) | exact at_dst 19 rfl (e_callS [] K5 rfl ⟨asD_ren (evO_spec rfl), by rw [evO_spec rfl]; exact asD_r rfl, trivial⟩ (by (repeat' (first | exact trivial | refine subHR_cons rfl ?_ ?_ | rfl))) rfl) | exact at_dst 13 rfl (e_make tlOk rfl rfl rfl rfl rfl rfl (c := 1950) rfl rfl (by omega) (by simp only [maxLen]; omega)) | exact at_dst 31 rfl (e_make tlOk rfl rfl rfl rfl rfl rfl (c := 2001) rfl rfl (by omega) (by simp only [maxLen]; omega))); (case xb => rfl); (case xc => rfl); (case xe => rfl); try dsimp only [P0.d, Res.d, List.map_cons, List.map_nil, List.set_cons_zero, List.set_cons_succ, Nat.reduceAdd]) | ((first | refine aw_ways rfl ?_ ?_ | refine r_split rfl rfl rfl ?_ ?_) <;> intro hg_ <;> fail_if_success (exact Bool.noConfusion hg_)) <;> (try simp only [prn] at hg_) <;> (try first | contradiction | (exfalso; omega)))
      all_goals first
        | (exfalso; omega)
        | exact ret_D [(2000001, 501), (2000002, 502)] rfl (by (repeat' (first | exact trivial | refine subHR_cons rfl ?_ ?_ | rfl))) (retD_cell rfl rfl (by (with_reducible first | exact ty3 | exact ty4 | exact ty5 | exact ty9 | exact ty17 | exact ty19 | exact ty22 | exact ty23 | exact ty25 | exact ty26 | exact ty28 | exact ty30 | exact ty36 | exact ty38 | exact ty40 | exact ty45 | exact ty66 | exact ty77 | exact ty80 | exact ty100 | exact ty112 | exact ty118 | exact ty126 | exact ty128 | exact ty131 | exact ty132)) rfl rfl rfl (imp_refl rfl))
        | exact ret_D [(2000001, 13), (2000002, 502)] rfl (by (repeat' (first | exact trivial | refine subHR_cons rfl ?_ ?_ | rfl | exact ob_sl rfl (hR _)))) (retD_cell rfl rfl (by (with_reducible first | exact ty3 | exact ty4 | exact ty5 | exact ty9 | exact ty17 | exact ty19 | exact ty22 | exact ty23 | exact ty25 | exact ty26 | exact ty28 | exact ty30 | exact ty36 | exact ty38 | exact ty40 | exact ty45 | exact ty66 | exact ty77 | exact ty80 | exact ty100 | exact ty112 | exact ty118 | exact ty126 | exact ty128 | exact ty131 | exact ty132)) rfl rfl rfl (imp_refl (agg2 (cell_ownN (by rw [List.length_replicate])) rfl)))
        | exact ret_D [(2000001, 31), (2000002, 502)] rfl (by (repeat' (first | exact trivial | refine subHR_cons rfl ?_ ?_ | rfl | exact ob_sl rfl (hR _)))) (retD_cell rfl rfl (by (with_reducible first | exact ty3 | exact ty4 | exact ty5 | exact ty9 | exact ty17 | exact ty19 | exact ty22 | exact ty23 | exact ty25 | exact ty26 | exact ty28 | exact ty30 | exact ty36 | exact ty38 | exact ty40 | exact ty45 | exact ty66 | exact ty77 | exact ty80 | exact ty100 | exact ty112 | exact ty118 | exact ty126 | exact ty128 | exact ty131 | exact ty132)) rfl rfl rfl (imp_refl (agg2 (cell_ownN (by rw [List.length_replicate])) rfl)))
        | trace_state
set_option maxRecDepth 100000 in
set_option maxHeartbeats 8000000 in
theorem f_l20Service {bs : List Int} (p n : Int) (hn : 0 < n) (hn2 : n ≤ 1000000) (hB : Byte bs) (hl : bs.length ≤ 2000) (hp0 : 0 ≤ p) (hp : p ≤ 600000) :
    (∃ (nE : Bool) (m : Int) (es : List E3) (xs : List Int) (p' : Int), ((nE = true → es = []) ∧ es.length ≤ 41 ∧ xs.length ≤ 2501) ∧ ∀ m1 m2 nb, FnS Try.prog 50 [.one (.ptr 1000000000 0 0 0), .one (.r false (int n))] (rdH 1000000000 m1 m2 nb bs p) (.agg [.r true (int m), .r true (row nE 3 (edges es)), .own 2000001 0 xs.length 1, .r true (row true 0 [])]) (rdH 1000000000 m1 true nb bs p' ++ [(2000001, .sl 3 1 true (ints xs))])) ∨
    (∃ (nE : Bool) (m : Int) (es : List E3) (xs ys : List Int) (p' : Int), ((nE = true → es = []) ∧ es.length ≤ 41 ∧ xs.length ≤ 2501 ∧ ys.length ≤ 2501) ∧ ∀ m1 m2 nb, FnS Try.prog 50 [.one (.ptr 1000000000 0 0 0), .one (.r false (int n))] (rdH 1000000000 m1 m2 nb bs p) (.agg [.r true (int m), .r true (row nE 3 (edges es)), .own 2000001 0 xs.length 1, .own 2000002 0 ys.length 1]) (rdH 1000000000 m1 true nb bs p' ++ [(2000001, .sl 3 1 true (ints xs)), (2000002, .sl 3 1 true (ints ys))])) := by
  obtain ⟨nE, m, es, p1, ⟨e1, e2, e3, e4, e5, e6⟩, KG0⟩ := f_l20Graph (bs := bs) p n hn hn2 hB hl hp0 (by omega)
  obtain ⟨nF, mF, fs, p2, ⟨g1, g2, g3, g4, g5, g6, g7⟩, KH0⟩ := f_l20Graph0 (bs := bs) p1 0 (by omega) (by omega) hB hl (by omega) (by omega)
  have KB := f_specGraphBytes mF nF fs (by omega)
  have hbl : (bytesS mF fs).length ≤ 451 := by
    unfold bytesS; rw [if_pos (g7 rfl)]; exact bytesG_len (g7 rfl)
  have hbi := ints_len (bytesS mF fs)
  generalize bytesS mF fs = X at *
  have KO0 := fun m1 nb => f_odd p2 4 (by omega) (by omega) hB hl (by omega) (by omega) m1 true nb
  have KD0 := fun m1 nb => f_l20Disk (p2 + 1) n hn hn2 hB hl (by omega) (by omega) m1 true nb
  have hd := drD_bd bs (p2 + 1) n
  generalize oddV bs p2 4 = o at *
  generalize drD bs (p2 + 1) n = d at *
  obtain ⟨xs, ys, p3⟩ := d
  dsimp only at hd KD0
  cases o
  · refine .inl ⟨nE, m, es, X, p2 + 1, ⟨e1, e4, by omega⟩, fun m1 m2 nb => ?_⟩
    have KG := KG0 m1 m2 nb
    have KH := KH0 m1 true nb
    have KO := KO0 m1 nb
    clear KG0 KH0 KO0 KD0 g1 g7
    unfold rdH at *
    refine fnS_of (l := [.cell 4 30]) Try.func50 (by kernel_rfl) rfl Try.ntmps50 rfl rfl ?_; simp only [dEnv, Nat.reduceAdd]
    repeat' (first | (with_reducible first | refine aw_seq ?_ | refine thn_normal ?_ | refine thn_ret ?_ | refine thn_exit ?_ | refine blk_normal ?_ | refine blk_ret ?_ | refine blk_hit ?_ | refine blk_miss rfl ?_ | refine aw_block ?_ | refine aw_ret ?_ | refine aw_skip ?_ | refine aw_exit ?_ | refine w_nil ?_ | refine x_nil (by kernel_rfl) ?_) | refine aw_region ?_ | refine aw_region_draw (by kernel_rfl) ?_ | refine aw_yes rfl ?_ | refine aw_no rfl ?_ | ((with_reducible refine w_seq ?_); first | refine r_q tbOk rfl rfl rfl rfl ?_ | refine r_e tbOk rfl rfl rfl rfl rfl ?_ | refine r_yes tbOk rfl rfl rfl rfl rfl rfl ?_ | refine w_no rfl rfl (lookO_spec rfl) rfl rfl rfl ?_ | refine w_un rfl rfl (lookO_spec rfl) rfl rfl ?_) | ((with_reducible refine w_drw ?_); first | refine rx_q tbOk rfl rfl rfl rfl ?_ | refine rx_e tbOk rfl rfl rfl rfl rfl ?_ | refine rx_yes tbOk rfl rfl rfl rfl rfl rfl ?_ | refine x_no rfl rfl (lookO_spec rfl) rfl rfl rfl ?_ | refine x_un rfl rfl (lookO_spec rfl) rfl rfl ?_) | ((first | refine' w_e rfl ?xa ?xb ?xc ?xe ?_ | refine' v_e rfl ?xa ?xb ?xc ?xe ?_); (case xa => first | exact at_dst 8 rfl (e_callS [] KG rfl ⟨asD_ren (evO_spec rfl), by rw [evO_spec rfl]; exact asD_r rfl, trivial⟩ (by (repeat' (first | exact trivial | refine subHR_cons rfl ?_ ?_ | rfl))) rfl) | exact at_dst 10 rfl (e_callS [] KH rfl ⟨asD_ren (evO_spec rfl), by rw [evO_spec rfl]; exact asD_r rfl, trivial⟩ (by (repeat' (first | exact trivial | refine subHR_cons rfl ?_ ?_ | rfl))) rfl) | exact e_callO KB rfl rfl ⟨asA_agg (evO_spec rfl) ⟨cAr_r, cAr_r, trivial⟩, trivial⟩ | exact at_dst 15 rfl (e_callS [] KO rfl ⟨asD_ren (evO_spec rfl), by rw [evO_spec rfl]; exact asD_r rfl, trivial⟩ (by (repeat' (first | exact trivial | refine subHR_cons rfl ?_ ?_ | rfl))) rfl)); (case xb => rfl); (case xc => rfl); (case xe => rfl); try dsimp only [P0.d, Res.d, List.map_cons, List.map_nil, List.set_cons_zero, List.set_cons_succ, Nat.reduceAdd]) | ((first | refine aw_ways rfl ?_ ?_ | refine r_split rfl rfl rfl ?_ ?_) <;> intro hg_ <;> fail_if_success (exact Bool.noConfusion hg_)) <;> (try simp only [prn] at hg_) <;> (try first | contradiction | (exfalso; omega)))
    all_goals first
      | exact ret_D [(2000001, 11)] rfl (by (repeat' (first | exact trivial | refine subHR_cons rfl ?_ ?_ | rfl))) (retD_cell rfl rfl (by (with_reducible first | exact ty3 | exact ty4 | exact ty5 | exact ty9 | exact ty17 | exact ty19 | exact ty22 | exact ty23 | exact ty25 | exact ty26 | exact ty28 | exact ty30 | exact ty36 | exact ty38 | exact ty40 | exact ty45 | exact ty66 | exact ty77 | exact ty80 | exact ty100 | exact ty112 | exact ty118 | exact ty126 | exact ty128 | exact ty131 | exact ty132)) rfl rfl rfl (imp_refl (by simp only [D.ren, Cell.ren, ren, List.map_cons, List.map_nil, hbi]; rfl)))
      | trace_state
  · refine .inr ⟨nE, m, es, xs, ys, p3, ⟨e1, e4, by omega, by omega⟩, fun m1 m2 nb => ?_⟩
    have KG := KG0 m1 m2 nb
    have KH := KH0 m1 true nb
    have KO := KO0 m1 nb
    have KD := KD0 m1 nb
    clear KG0 KH0 KO0 KD0 g1 g7
    unfold rdH at *
    refine fnS_of (l := [.cell 4 30]) Try.func50 (by kernel_rfl) rfl Try.ntmps50 rfl rfl ?_; simp only [dEnv, Nat.reduceAdd]
    repeat' (first | (with_reducible first | refine aw_seq ?_ | refine thn_normal ?_ | refine thn_ret ?_ | refine thn_exit ?_ | refine blk_normal ?_ | refine blk_ret ?_ | refine blk_hit ?_ | refine blk_miss rfl ?_ | refine aw_block ?_ | refine aw_ret ?_ | refine aw_skip ?_ | refine aw_exit ?_ | refine w_nil ?_ | refine x_nil (by kernel_rfl) ?_) | refine aw_region ?_ | refine aw_region_draw (by kernel_rfl) ?_ | refine aw_yes rfl ?_ | refine aw_no rfl ?_ | ((with_reducible refine w_seq ?_); first | refine r_q tbOk rfl rfl rfl rfl ?_ | refine r_e tbOk rfl rfl rfl rfl rfl ?_ | refine r_yes tbOk rfl rfl rfl rfl rfl rfl ?_ | refine w_no rfl rfl (lookO_spec rfl) rfl rfl rfl ?_ | refine w_un rfl rfl (lookO_spec rfl) rfl rfl ?_) | ((with_reducible refine w_drw ?_); first | refine rx_q tbOk rfl rfl rfl rfl ?_ | refine rx_e tbOk rfl rfl rfl rfl rfl ?_ | refine rx_yes tbOk rfl rfl rfl rfl rfl rfl ?_ | refine x_no rfl rfl (lookO_spec rfl) rfl rfl rfl ?_ | refine x_un rfl rfl (lookO_spec rfl) rfl rfl ?_) | ((first | refine' w_e rfl ?xa ?xb ?xc ?xe ?_ | refine' v_e rfl ?xa ?xb ?xc ?xe ?_); (case xa => first | exact at_dst 8 rfl (e_callS [] KG rfl ⟨asD_ren (evO_spec rfl), by rw [evO_spec rfl]; exact asD_r rfl, trivial⟩ (by (repeat' (first | exact trivial | refine subHR_cons rfl ?_ ?_ | rfl))) rfl) | exact at_dst 10 rfl (e_callS [] KH rfl ⟨asD_ren (evO_spec rfl), by rw [evO_spec rfl]; exact asD_r rfl, trivial⟩ (by (repeat' (first | exact trivial | refine subHR_cons rfl ?_ ?_ | rfl))) rfl) | exact e_callO KB rfl rfl ⟨asA_agg (evO_spec rfl) ⟨cAr_r, cAr_r, trivial⟩, trivial⟩ | exact at_dst 15 rfl (e_callS [] KO rfl ⟨asD_ren (evO_spec rfl), by rw [evO_spec rfl]; exact asD_r rfl, trivial⟩ (by (repeat' (first | exact trivial | refine subHR_cons rfl ?_ ?_ | rfl))) rfl) | exact at_dst 18 rfl (e_callS [(2000001, 501), (2000002, 502)] KD rfl ⟨asD_ren (evO_spec rfl), by rw [evO_spec rfl]; exact asD_r rfl, trivial⟩ (by (repeat' (first | exact trivial | refine subHR_cons rfl ?_ ?_ | rfl))) rfl)); (case xb => rfl); (case xc => rfl); (case xe => rfl); try dsimp only [P0.d, Res.d, List.map_cons, List.map_nil, List.set_cons_zero, List.set_cons_succ, Nat.reduceAdd]) | ((first | refine aw_ways rfl ?_ ?_ | refine r_split rfl rfl rfl ?_ ?_) <;> intro hg_ <;> fail_if_success (exact Bool.noConfusion hg_)) <;> (try simp only [prn] at hg_) <;> (try first | contradiction | (exfalso; omega)))
    all_goals first
      | exact ret_D [(2000001, 501), (2000002, 502)] rfl (by (repeat' (first | exact trivial | refine subHR_cons rfl ?_ ?_ | rfl))) (retD_cell rfl rfl (by (with_reducible first | exact ty3 | exact ty4 | exact ty5 | exact ty9 | exact ty17 | exact ty19 | exact ty22 | exact ty23 | exact ty25 | exact ty26 | exact ty28 | exact ty30 | exact ty36 | exact ty38 | exact ty40 | exact ty45 | exact ty66 | exact ty77 | exact ty80 | exact ty100 | exact ty112 | exact ty118 | exact ty126 | exact ty128 | exact ty131 | exact ty132)) rfl rfl rfl (imp_refl rfl))
      | trace_state
theorem byte_take3 {bs : List Int} (h : Byte bs) (k : Nat) : Byte (bs.take k) := fun z hz => h z (List.mem_of_mem_take hz)
set_option maxRecDepth 100000 in
set_option maxHeartbeats 8000000 in
theorem f_drawService (nb : Bool) (code : List Int) (hB : Byte code) (hl : code.length ≤ 1048576) :
    ∃ (nE : Bool) (m : Int) (es : List E3) (n1 : Bool) (xs : List Int) (n2 : Bool) (ys : List Int), ((nE = true → es = []) ∧ es.length ≤ 41 ∧ xs.length ≤ 2501 ∧ ys.length ≤ 2501) ∧ Fn Try.prog 11 [.one (row nb 1 (bys code))] (.v (svcP m nE es n1 xs n2 ys)) := by
  have K0 := f_open nb code hl
  have hB2 := byte_take3 hB 2000
  have hl2 : (code.take 2000).length ≤ 2000 := by rw [List.length_take]; omega
  unfold rdH at K0
  rcases f_l20Service (bs := code.take 2000) 0 3 (by omega) (by omega) hB2 hl2 (by omega) (by omega) with ⟨nE, m, es, xs, p', ⟨e1, e2, e3⟩, KA0⟩ | ⟨nE, m, es, xs, ys, p', ⟨e1, e2, e3, e4⟩, KA0⟩
  · have KA := KA0 false true nb
    clear KA0
    have hx := (ints_len xs).symm
    refine ⟨nE, m, es, false, xs, true, [], ⟨e1, e2, e3, by simp⟩, ?_⟩
    unfold rdH at KA
    refine fn_of (l := [.cell 2 30]) Try.func11 (by kernel_rfl) rfl Try.ntmps11 rfl rfl ?_; simp only [argEnv, P0.d, Nat.reduceAdd]
    repeat' (first | (with_reducible first | refine aw_seq ?_ | refine thn_normal ?_ | refine thn_ret ?_ | refine thn_exit ?_ | refine blk_normal ?_ | refine blk_ret ?_ | refine blk_hit ?_ | refine blk_miss rfl ?_ | refine aw_block ?_ | refine aw_ret ?_ | refine aw_skip ?_ | refine aw_exit ?_ | refine w_nil ?_ | refine x_nil (by kernel_rfl) ?_) | refine aw_region ?_ | refine aw_region_draw (by kernel_rfl) ?_ | refine aw_yes rfl ?_ | refine aw_no rfl ?_ | ((with_reducible refine w_seq ?_); first | refine r_q tbOk rfl rfl rfl rfl ?_ | refine r_e tbOk rfl rfl rfl rfl rfl ?_ | refine r_yes tbOk rfl rfl rfl rfl rfl rfl ?_ | refine w_no rfl rfl (lookO_spec rfl) rfl rfl rfl ?_ | refine w_un rfl rfl (lookO_spec rfl) rfl rfl ?_) | ((with_reducible refine w_drw ?_); first | refine rx_q tbOk rfl rfl rfl rfl ?_ | refine rx_e tbOk rfl rfl rfl rfl rfl ?_ | refine rx_yes tbOk rfl rfl rfl rfl rfl rfl ?_ | refine x_no rfl rfl (lookO_spec rfl) rfl rfl rfl ?_ | refine x_un rfl rfl (lookO_spec rfl) rfl rfl ?_) | ((first | refine' w_e rfl ?xa ?xb ?xc ?xe ?_ | refine' v_e rfl ?xa ?xb ?xc ?xe ?_); (case xa => first | exact at_dst 4 rfl (e_callS [(2000001, 501)] K0 rfl ⟨by rw [evO_spec rfl]; exact asD_r rfl, trivial⟩ (by (repeat' (first | exact trivial | refine subHR_cons rfl ?_ ?_ | rfl))) rfl) | exact at_dst 5 rfl (e_callS [(1000000000, 501), (2000001, 502)] KA rfl ⟨asD_ren (evO_spec rfl), by rw [evO_spec rfl]; exact asD_r rfl, trivial⟩ (by (repeat' (first | exact trivial | refine subHR_cons rfl ?_ ?_ | rfl))) rfl)); (case xb => rfl); (case xc => rfl); (case xe => rfl); try dsimp only [P0.d, Res.d, List.map_cons, List.map_nil, List.set_cons_zero, List.set_cons_succ, Nat.reduceAdd]) | ((first | refine aw_ways rfl ?_ ?_ | refine r_split rfl rfl rfl ?_ ?_) <;> intro hg_ <;> fail_if_success (exact Bool.noConfusion hg_)) <;> (try simp only [prn] at hg_) <;> (try first | contradiction | (exfalso; omega)))
    all_goals first
      | exact ret_v (rv_cell rfl rfl (by (with_reducible first | exact ty3 | exact ty4 | exact ty5 | exact ty9 | exact ty17 | exact ty19 | exact ty22 | exact ty23 | exact ty25 | exact ty26 | exact ty28 | exact ty30 | exact ty36 | exact ty38 | exact ty40 | exact ty45 | exact ty66 | exact ty77 | exact ty80 | exact ty100 | exact ty112 | exact ty118 | exact ty126 | exact ty128 | exact ty131 | exact ty132)) rfl rfl rfl (dres_agg (by exact ⟨cres_new, cres_new, cres_own0 (lookHO_spec rfl) hx, cres_nil, trivial⟩)))
      | trace_state
  · have KA := KA0 false true nb
    clear KA0
    have hx := (ints_len xs).symm
    have hy := (ints_len ys).symm
    refine ⟨nE, m, es, false, xs, false, ys, ⟨e1, e2, e3, e4⟩, ?_⟩
    unfold rdH at KA
    refine fn_of (l := [.cell 2 30]) Try.func11 (by kernel_rfl) rfl Try.ntmps11 rfl rfl ?_; simp only [argEnv, P0.d, Nat.reduceAdd]
    repeat' (first | (with_reducible first | refine aw_seq ?_ | refine thn_normal ?_ | refine thn_ret ?_ | refine thn_exit ?_ | refine blk_normal ?_ | refine blk_ret ?_ | refine blk_hit ?_ | refine blk_miss rfl ?_ | refine aw_block ?_ | refine aw_ret ?_ | refine aw_skip ?_ | refine aw_exit ?_ | refine w_nil ?_ | refine x_nil (by kernel_rfl) ?_) | refine aw_region ?_ | refine aw_region_draw (by kernel_rfl) ?_ | refine aw_yes rfl ?_ | refine aw_no rfl ?_ | ((with_reducible refine w_seq ?_); first | refine r_q tbOk rfl rfl rfl rfl ?_ | refine r_e tbOk rfl rfl rfl rfl rfl ?_ | refine r_yes tbOk rfl rfl rfl rfl rfl rfl ?_ | refine w_no rfl rfl (lookO_spec rfl) rfl rfl rfl ?_ | refine w_un rfl rfl (lookO_spec rfl) rfl rfl ?_) | ((with_reducible refine w_drw ?_); first | refine rx_q tbOk rfl rfl rfl rfl ?_ | refine rx_e tbOk rfl rfl rfl rfl rfl ?_ | refine rx_yes tbOk rfl rfl rfl rfl rfl rfl ?_ | refine x_no rfl rfl (lookO_spec rfl) rfl rfl rfl ?_ | refine x_un rfl rfl (lookO_spec rfl) rfl rfl ?_) | ((first | refine' w_e rfl ?xa ?xb ?xc ?xe ?_ | refine' v_e rfl ?xa ?xb ?xc ?xe ?_); (case xa => first | exact at_dst 4 rfl (e_callS [(2000001, 501)] K0 rfl ⟨by rw [evO_spec rfl]; exact asD_r rfl, trivial⟩ (by (repeat' (first | exact trivial | refine subHR_cons rfl ?_ ?_ | rfl))) rfl) | exact at_dst 5 rfl (e_callS [(1000000000, 501), (2000001, 502), (2000002, 503)] KA rfl ⟨asD_ren (evO_spec rfl), by rw [evO_spec rfl]; exact asD_r rfl, trivial⟩ (by (repeat' (first | exact trivial | refine subHR_cons rfl ?_ ?_ | rfl))) rfl)); (case xb => rfl); (case xc => rfl); (case xe => rfl); try dsimp only [P0.d, Res.d, List.map_cons, List.map_nil, List.set_cons_zero, List.set_cons_succ, Nat.reduceAdd]) | ((first | refine aw_ways rfl ?_ ?_ | refine r_split rfl rfl rfl ?_ ?_) <;> intro hg_ <;> fail_if_success (exact Bool.noConfusion hg_)) <;> (try simp only [prn] at hg_) <;> (try first | contradiction | (exfalso; omega)))
    all_goals first
      | exact ret_v (rv_cell rfl rfl (by (with_reducible first | exact ty3 | exact ty4 | exact ty5 | exact ty9 | exact ty17 | exact ty19 | exact ty22 | exact ty23 | exact ty25 | exact ty26 | exact ty28 | exact ty30 | exact ty36 | exact ty38 | exact ty40 | exact ty45 | exact ty66 | exact ty77 | exact ty80 | exact ty100 | exact ty112 | exact ty118 | exact ty126 | exact ty128 | exact ty131 | exact ty132)) rfl rfl rfl (dres_agg (by exact ⟨cres_new, cres_new, cres_own0 (lookHO_spec rfl) hx, cres_own0 (lookHO_spec rfl) hy, trivial⟩)))
      | trace_state
end Go.Proofs.Ytihpchbkodihpaa.Abs
