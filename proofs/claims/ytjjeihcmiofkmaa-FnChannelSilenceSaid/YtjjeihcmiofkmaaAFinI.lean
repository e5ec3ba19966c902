/- Channels by states: ChannelFinish of the program. No statement of the seat is proved here. -/
import Derived.Test.YtjjeihcmiofkmaaTy
import Derived.Lib.Hide
import Derived.Test.YtjjeihcmiofkmaaAChB
set_option linter.unusedSimpArgs false
set_option linter.unusedVariables false
namespace Go.Proofs.Ytjjeihcmiofkmaa.Abs
open Go.RowKit
open R (val row ref)

def m5 (d : Ch) : Ch := (d.step 5).1
def m6 (d : Ch) : Ch := ((m5 d).step 6).1
def m0 (d : Ch) : Ch := ((m6 d).step 0).1
theorem m_round (d : Ch) : Ch.quiet (m0 d) = Ch.round d := rfl
theorem m5_good {d : Ch} (h : Ch.Good d) : Ch.Good (m5 d) := (h.step 5).1
theorem m6_good {d : Ch} (h : Ch.Good d) : Ch.Good (m6 d) := ((m5_good h).step 6).1
theorem m0_good {d : Ch} (h : Ch.Good d) : Ch.Good (m0 d) := ((m6_good h).step 0).1
theorem m5_nils {nV g p r : Bool} {d : Ch} (h : Nils nV g p r d) : Nils nV g p (stR r d 5) (m5 d) := by
  have := st_nils h 5
  rw [stG_ne (by omega), stP_ne (by omega)] at this
  exact this
theorem m6_nils {nV g p r : Bool} {d : Ch} (h : Nils nV g p r d) : Nils nV g p (stR r d 5) (m6 d) := by
  have := st_nils (m5_nils h) 6
  rw [stG_ne (by omega), stP_ne (by omega), stR_ne (by omega)] at this
  exact this
theorem m0_nils {nV g p r : Bool} {d : Ch} (h : Nils nV g p r d) : Nils nV g (stP p (m6 d) 0) (stR r d 5) (m0 d) := by
  have := st_nils (m6_nils h) 0
  rw [stG_ne (by omega), stR_ne (by omega)] at this
  exact this
def rdG (g : Bool) (q : Ch) : Nat → Bool
  | 0 => g
  | k + 1 => quG (rdG g q k) (m0 (Ch.rounds k q))
def rdP (p : Bool) (q : Ch) : Nat → Bool
  | 0 => p
  | k + 1 => stP (rdP p q k) (m6 (Ch.rounds k q)) 0
def rdR (r : Bool) (q : Ch) : Nat → Bool
  | 0 => r
  | k + 1 => stR (rdR r q k) (Ch.rounds k q) 5
def rdK (m : Bool) (q : Ch) : Nat → Bool
  | 0 => m
  | k + 1 => quK (stK (rdK m q k) (m5 (Ch.rounds k q)) 6) (m0 (Ch.rounds k q))
theorem itG_mono {s : Int} {n : Bool} {c : Ch} : ∀ {k : Nat}, itG s n c k = true → n = true
  | 0, h => h
  | k + 1, h => itG_mono (k := k) (stG_mono h)
theorem rd_nils {nV g p r : Bool} {q : Ch} (h : Nils nV g p r q) : ∀ k, Nils nV (rdG g q k) (rdP p q k) (rdR r q k) (Ch.rounds k q)
  | 0 => h
  | k + 1 => qu_nils (m0_nils (rd_nils h k))
set_option maxRecDepth 100000 in
set_option maxHeartbeats 8000000 in
theorem f_implFinish (nV nG nP nR : Bool) (c : Ch) (n : Nat) (hG : Ch.Good c) (hn : Nils nV nG nP nR c) (hn40 : n ≤ 40) (hend : (Ch.rounds n (Ch.quiet c)).kn = (Ch.rounds n (Ch.quiet c)).vs.length) (hbef : ∀ k, k < n → (Ch.rounds k (Ch.quiet c)).kn ≠ (Ch.rounds k (Ch.quiet c)).vs.length) :
    Fn Try.prog 34 [chP nV nG nP nR c] (.tup [chP nV (rdG (quG nG c) (Ch.quiet c) n) (rdP nP (Ch.quiet c) n) (rdR nR (Ch.quiet c) n) (Ch.rounds n (Ch.quiet c)), iP (n : Int)]) := by
  obtain ⟨h1, h2, h3, h4⟩ := hG.lens
  have hok := f_implChOk' nV nG nP nR c h1 h2 h3 h4
  rw [Ch.ok_iff.2 hG] at hok
  have K1 := f_copied' nV nG nP nR c hn h1 h2 h3 h4
  have K2 := f_quiet nV nG nP nR true false c hG hn
  have hq := qu_nils hn
  have hQ := Ch.quiet_facts hG
  refine fn_of (l := [.cell 2 40, .tmp 3]) Try.func34 (by kernel_rfl) rfl Try.ntmps34 rfl rfl ?_; simp only [argEnv, P0.d, Nat.reduceAdd, chP, List.map_cons, List.map_nil]
  clear h1 h2 h3 h4
  refine aw_seq ?_
  repeat' (first | (with_reducible first | refine thn_normal ?_ | refine thn_ret ?_ | refine thn_exit ?_ | refine blk_normal ?_ | refine blk_ret ?_ | refine blk_hit ?_ | refine blk_miss rfl ?_ | refine aw_block ?_ | refine aw_ret ?_ | refine aw_skip ?_ | refine aw_exit ?_ | refine w_nil ?_ | refine x_nil (by kernel_rfl) ?_) | refine aw_region ?_ | refine aw_region_draw (by kernel_rfl) ?_ | refine aw_yes rfl ?_ | refine aw_no rfl ?_ | ((with_reducible refine w_seq ?_); first | refine r_q tbOk rfl rfl rfl rfl ?_ | refine r_e tbOk rfl rfl rfl rfl rfl ?_ | refine r_yes tbOk rfl rfl rfl rfl rfl rfl ?_ | refine w_no rfl rfl (lookO_spec rfl) rfl rfl rfl ?_ | refine w_un rfl rfl (lookO_spec rfl) rfl rfl ?_) | ((with_reducible refine w_drw ?_); first | refine rx_q tbOk rfl rfl rfl rfl ?_ | refine rx_e tbOk rfl rfl rfl rfl rfl ?_ | refine rx_yes tbOk rfl rfl rfl rfl rfl rfl ?_ | refine x_no rfl rfl (lookO_spec rfl) rfl rfl rfl ?_ | refine x_un rfl rfl (lookO_spec rfl) rfl rfl ?_) | ((first | refine aw_ways rfl ?_ ?_ | refine r_split rfl rfl rfl ?_ ?_) <;> intro hg_ <;> fail_if_success (exact Bool.noConfusion hg_)) <;> (try simp only [prn] at hg_) <;> (try first | contradiction | (exfalso; omega)))
  refine aw_seq ?_
  refine aw_seq ?_
  repeat' (first | (with_reducible first | refine thn_normal ?_ | refine thn_ret ?_ | refine thn_exit ?_ | refine blk_normal ?_ | refine blk_ret ?_ | refine blk_hit ?_ | refine blk_miss rfl ?_ | refine aw_block ?_ | refine aw_ret ?_ | refine aw_skip ?_ | refine aw_exit ?_ | refine w_nil ?_ | refine x_nil (by kernel_rfl) ?_) | refine aw_region ?_ | refine aw_region_draw (by kernel_rfl) ?_ | refine aw_yes rfl ?_ | refine aw_no rfl ?_ | ((with_reducible refine w_seq ?_); first | refine r_q tbOk rfl rfl rfl rfl ?_ | refine r_e tbOk rfl rfl rfl rfl rfl ?_ | refine r_yes tbOk rfl rfl rfl rfl rfl rfl ?_ | refine w_no rfl rfl (lookO_spec rfl) rfl rfl rfl ?_ | refine w_un rfl rfl (lookO_spec rfl) rfl rfl ?_) | ((with_reducible refine w_drw ?_); first | refine rx_q tbOk rfl rfl rfl rfl ?_ | refine rx_e tbOk rfl rfl rfl rfl rfl ?_ | refine rx_yes tbOk rfl rfl rfl rfl rfl rfl ?_ | refine x_no rfl rfl (lookO_spec rfl) rfl rfl rfl ?_ | refine x_un rfl rfl (lookO_spec rfl) rfl rfl ?_) | ((first | refine' w_q rfl rfl ?xa rfl ?_ | refine' v_q rfl rfl ?xa rfl ?_ | refine' w_yes rfl rfl (lookO_spec rfl) rfl ?xa rfl ?_ | refine' v_yes rfl rfl (lookO_spec rfl) rfl ?xa rfl ?_); case xa => exact k_call hok rfl ⟨asA_agg (evO_spec rfl) ⟨cAr_r, cAr_r, cAr_r, cAr_r, cAr_r, trivial⟩, trivial⟩) | ((first | refine aw_ways rfl ?_ ?_ | refine r_split rfl rfl rfl ?_ ?_) <;> intro hg_ <;> fail_if_success (exact Bool.noConfusion hg_)) <;> (try simp only [prn] at hg_) <;> (try first | contradiction | (exfalso; omega)))
  refine aw_cut (mkS 23 [(4, .one (.ptr 4 0 0 0)), (2, .one (.ptr 2 0 0 0))] (zeroV 2 :: chH 4 101 102 103 nV nG nP nR true false c)) ?_ ?_
  · unfold zeroV
    clear K2 hq hQ hend hbef hn
    cases nG <;> cases nP <;> cases nR
    all_goals
      dsimp only [chH, chD, chR, rowC, rowO] at K1
      simp only [Bool.false_eq_true, if_false, if_true, List.nil_append, List.append_nil, List.cons_append] at K1
      dsimp only [chH, rowC, rowO]; simp only [Bool.false_eq_true, if_false, if_true, List.nil_append, List.append_nil, List.cons_append, Bool.and_true, Bool.and_false, Bool.true_and, Bool.false_and, Bool.not_false, Bool.not_true]
      repeat' (first | (with_reducible first | refine aw_seq ?_ | refine thn_normal ?_ | refine thn_ret ?_ | refine thn_exit ?_ | refine blk_normal ?_ | refine blk_ret ?_ | refine blk_hit ?_ | refine blk_miss rfl ?_ | refine aw_block ?_ | refine aw_ret ?_ | refine aw_skip ?_ | refine aw_exit ?_ | refine w_nil ?_ | refine x_nil (by kernel_rfl) ?_) | refine aw_region ?_ | refine aw_region_draw (by kernel_rfl) ?_ | refine aw_yes rfl ?_ | refine aw_no rfl ?_ | ((with_reducible refine w_seq ?_); first | refine r_q tbOk rfl rfl rfl rfl ?_ | refine r_e tbOk rfl rfl rfl rfl rfl ?_ | refine r_yes tbOk rfl rfl rfl rfl rfl rfl ?_ | refine w_no rfl rfl (lookO_spec rfl) rfl rfl rfl ?_ | refine w_un rfl rfl (lookO_spec rfl) rfl rfl ?_) | ((with_reducible refine w_drw ?_); first | refine rx_q tbOk rfl rfl rfl rfl ?_ | refine rx_e tbOk rfl rfl rfl rfl rfl ?_ | refine rx_yes tbOk rfl rfl rfl rfl rfl rfl ?_ | refine x_no rfl rfl (lookO_spec rfl) rfl rfl rfl ?_ | refine x_un rfl rfl (lookO_spec rfl) rfl rfl ?_) | ((first | refine' w_e rfl ?xa ?xb ?xc ?xe ?_ | refine' v_e rfl ?xa ?xb ?xc ?xe ?_); (case xa => exact e_callS [(2000001, 101), (2000002, 102), (2000003, 103)] K1 rfl ⟨asD_ren (evO_spec rfl), trivial⟩ trivial rfl); (case xb => rfl); (case xc => rfl); (case xe => rfl); try dsimp only [P0.d, Res.d, List.map_cons, List.map_nil, List.set_cons_zero, List.set_cons_succ, Nat.reduceAdd]) | ((first | refine aw_ways rfl ?_ ?_ | refine r_split rfl rfl rfl ?_ ?_) <;> intro hg_ <;> fail_if_success (exact Bool.noConfusion hg_)) <;> (try simp only [prn] at hg_) <;> (try first | contradiction | (exfalso; omega)))
      all_goals first
        | (refine weak_ren [] rfl ?_ ?_ <;> repeat' (first | exact trivial | refine subR_cons rfl ?_ ?_ | refine subHR_cons rfl ?_ ?_ | rfl | (refine d_int ?_; (first | rfl | omega | (rw [IntWalk.i64_in _ (by omega)] <;> omega) | (simp; done) | (simp; omega))) | (refine d_bool ?_; (first | (simp_all; done) | (rw [Bool.eq_iff_iff]; simp_all; done) | (rw [Bool.eq_iff_iff]; simp_all; omega) | (rw [Bool.eq_iff_iff]; simp; omega)))))
        | trace_state
  clear K1 hok
  obtain ⟨T, hT⟩ : ∃ T : St, T = mkS 23 [(4, .one (.ptr 4 0 0 0)), (2, .one (.ptr 2 0 0 0))] (zeroV 2 :: chH 4 101 102 103 nV (quG nG c) nP nR true (quK false c) (Ch.quiet c)) := ⟨_, rfl⟩
  refine aw_cut T ?_ ?_
  · clear hq hQ hend hbef hn hG
    have hm : quG nG c = true → nG = true := itG_mono
    generalize quG nG c = g at *
    generalize quK false c = m at *
    generalize Ch.quiet c = d at *
    have hfin : ∀ s', Weak s' (mkS 23 [(4, .one (.ptr 4 0 0 0)), (2, .one (.ptr 2 0 0 0))] (zeroV 2 :: chH 4 101 102 103 nV g nP nR true m d)) → Weak s' T := fun s' h => by rw [hT]; exact h
    clear hT
    unfold zeroV at *
    cases nG <;> cases g <;> cases nP <;> cases nR
    all_goals first
      | (exfalso; exact Bool.noConfusion (hm rfl))
      | skip
    all_goals
      dsimp only [chH, rowC, rowO] at K2
      simp only [Bool.false_eq_true, if_false, if_true, List.nil_append, List.append_nil, List.cons_append] at K2
      dsimp only [chH, rowC, rowO]; simp only [Bool.false_eq_true, if_false, if_true, List.nil_append, List.append_nil, List.cons_append, Bool.and_true, Bool.and_false, Bool.true_and, Bool.false_and, Bool.not_false, Bool.not_true]
      repeat' (first | (with_reducible first | refine aw_seq ?_ | refine thn_normal ?_ | refine thn_ret ?_ | refine thn_exit ?_ | refine blk_normal ?_ | refine blk_ret ?_ | refine blk_hit ?_ | refine blk_miss rfl ?_ | refine aw_block ?_ | refine aw_ret ?_ | refine aw_skip ?_ | refine aw_exit ?_ | refine w_nil ?_ | refine x_nil (by kernel_rfl) ?_) | refine aw_region ?_ | refine aw_region_draw (by kernel_rfl) ?_ | refine aw_yes rfl ?_ | refine aw_no rfl ?_ | ((with_reducible refine w_seq ?_); first | refine r_q tbOk rfl rfl rfl rfl ?_ | refine r_e tbOk rfl rfl rfl rfl rfl ?_ | refine r_yes tbOk rfl rfl rfl rfl rfl rfl ?_ | refine w_no rfl rfl (lookO_spec rfl) rfl rfl rfl ?_ | refine w_un rfl rfl (lookO_spec rfl) rfl rfl ?_) | ((with_reducible refine w_drw ?_); first | refine rx_q tbOk rfl rfl rfl rfl ?_ | refine rx_e tbOk rfl rfl rfl rfl rfl ?_ | refine rx_yes tbOk rfl rfl rfl rfl rfl rfl ?_ | refine x_no rfl rfl (lookO_spec rfl) rfl rfl rfl ?_ | refine x_un rfl rfl (lookO_spec rfl) rfl rfl ?_) | ((first | refine' w_e rfl ?xa ?xb ?xc ?xe ?_ | refine' v_e rfl ?xa ?xb ?xc ?xe ?_); (case xa => exact e_callS [(1000000000, 4), (1000001, 101), (1000002, 102), (1000003, 103), (2000001, 201), (2000002, 202), (2000003, 203)] K2 rfl ⟨asD_ren (evO_spec rfl), trivial⟩ (by (repeat' (first | exact trivial | refine subHR_cons rfl ?_ ?_ | rfl))) rfl); (case xb => rfl); (case xc => rfl); (case xe => rfl); try dsimp only [P0.d, Res.d, List.map_cons, List.map_nil, List.set_cons_zero, List.set_cons_succ, Nat.reduceAdd]) | ((first | refine aw_ways rfl ?_ ?_ | refine r_split rfl rfl rfl ?_ ?_) <;> intro hg_ <;> fail_if_success (exact Bool.noConfusion hg_)) <;> (try simp only [prn] at hg_) <;> (try first | contradiction | (exfalso; omega)))
      all_goals first
        | (refine hfin _ ?_
           dsimp only [chH, rowC, rowO]; simp only [Bool.false_eq_true, if_false, if_true, List.nil_append, List.append_nil, List.cons_append, Bool.and_true, Bool.and_false, Bool.true_and, Bool.false_and, Bool.not_false, Bool.not_true]
           (refine weak_ren [(101, 201), (102, 202), (103, 203)] rfl ?_ ?_ <;> repeat' (first | exact trivial | refine subR_cons rfl ?_ ?_ | refine subHR_cons rfl ?_ ?_ | rfl | (refine d_int ?_; (first | rfl | omega | (rw [IntWalk.i64_in _ (by omega)] <;> omega) | (simp; done) | (simp; omega))) | (refine d_bool ?_; (first | (simp_all; done) | (rw [Bool.eq_iff_iff]; simp_all; done) | (rw [Bool.eq_iff_iff]; simp_all; omega) | (rw [Bool.eq_iff_iff]; simp; omega))))))
        | trace_state
  rw [hT]
  clear hT T K2
  have hG2 := hQ.1.good
  have hps := hQ.2.1
  have hrs := hQ.2.2.1
  clear hQ hn hG
  generalize quG nG c = g at *
  generalize quK false c = m at *
  generalize Ch.quiet c = q at *
  obtain ⟨T, hT⟩ : ∃ T : St, T = mkS 23 [(5, .one (.r true (int (n : Int)))), (4, .one (.ptr 4 0 0 0)), (2, .one (.ptr 2 0 0 0))] (zeroV 2 :: chH 4 101 102 103 nV (rdG g q n) (rdP nP q n) (rdR nR q n) true (rdK m q n) (Ch.rounds n q)) := ⟨_, rfl⟩
  refine aw_seq ?_
  repeat' (first | (with_reducible first | refine thn_normal ?_ | refine thn_ret ?_ | refine thn_exit ?_ | refine blk_normal ?_ | refine blk_ret ?_ | refine blk_hit ?_ | refine blk_miss rfl ?_ | refine aw_block ?_ | refine aw_ret ?_ | refine aw_skip ?_ | refine aw_exit ?_ | refine w_nil ?_ | refine x_nil (by kernel_rfl) ?_) | refine aw_region ?_ | refine aw_region_draw (by kernel_rfl) ?_ | refine aw_yes rfl ?_ | refine aw_no rfl ?_ | ((with_reducible refine w_seq ?_); first | refine r_q tbOk rfl rfl rfl rfl ?_ | refine r_e tbOk rfl rfl rfl rfl rfl ?_ | refine r_yes tbOk rfl rfl rfl rfl rfl rfl ?_ | refine w_no rfl rfl (lookO_spec rfl) rfl rfl rfl ?_ | refine w_un rfl rfl (lookO_spec rfl) rfl rfl ?_) | ((with_reducible refine w_drw ?_); first | refine rx_q tbOk rfl rfl rfl rfl ?_ | refine rx_e tbOk rfl rfl rfl rfl rfl ?_ | refine rx_yes tbOk rfl rfl rfl rfl rfl rfl ?_ | refine x_no rfl rfl (lookO_spec rfl) rfl rfl rfl ?_ | refine x_un rfl rfl (lookO_spec rfl) rfl rfl ?_) | ((first | refine aw_ways rfl ?_ ?_ | refine r_split rfl rfl rfl ?_ ?_) <;> intro hg_ <;> fail_if_success (exact Bool.noConfusion hg_)) <;> (try simp only [prn] at hg_) <;> (try first | contradiction | (exfalso; omega)))
  refine aw_cut T ?_ ?_
  · refine aw_block ?_
    obtain ⟨F, hF⟩ : ∃ F : Nat → St, ∀ k : Nat, F k = mkS 23 [(5, .one (.r true (int (k : Int)))), (4, .one (.ptr 4 0 0 0)), (2, .one (.ptr 2 0 0 0))] (zeroV 2 :: chH 4 101 102 103 nV (rdG g q k) (rdP nP q k) (rdR nR q k) true (rdK m q k) (Ch.rounds k q)) := ⟨_, fun _ => rfl⟩
    refine aw_loopI (fun k : Nat => k ≤ n) F (fun k => n - k) 0 (Nat.zero_le _) ?_ ?_
    · rw [hF 0]
      show Weak _ (mkS 23 _ (zeroV 2 :: chH 4 101 102 103 nV g nP nR true m q))
      unfold zeroV
      clear hF hT hend hbef hq hG2 hps hrs
      cases g <;> cases nP <;> cases nR
      all_goals
        dsimp only [chH, rowC, rowO]; simp only [Bool.false_eq_true, if_false, if_true, List.nil_append, List.append_nil, List.cons_append, Bool.and_true, Bool.and_false, Bool.true_and, Bool.false_and, Bool.not_false, Bool.not_true]
        first
          | (refine weak_ren [] rfl ?_ ?_ <;> repeat' (first | exact trivial | refine subR_cons rfl ?_ ?_ | refine subHR_cons rfl ?_ ?_ | rfl | (refine d_int ?_; (first | rfl | omega | (rw [IntWalk.i64_in _ (by omega)] <;> omega) | (simp; done) | (simp; omega))) | (refine d_bool ?_; (first | (simp_all; done) | (rw [Bool.eq_iff_iff]; simp_all; done) | (rw [Bool.eq_iff_iff]; simp_all; omega) | (rw [Bool.eq_iff_iff]; simp; omega)))))
          | trace_state
    · intro k hk
      rw [hF k]
      have hN := rd_nils hq k
      have hg := Ch.rounds_grow hG2 hps hrs k
      have KD := f_doneH nV (rdG g q k) (rdP nP q k) (rdR nR q k) true (rdK m q k) (Ch.rounds k q) hg.1.good.lens.1
      by_cases hlt : k < n
      · rw [decide_eq_false (hbef k hlt)] at KD
        have K5 := f_doG nV (rdG g q k) (rdP nP q k) (rdR nR q k) true (rdK m q k) (Ch.rounds k q) 5 hg.1.good hN
        rw [stG_ne (by omega), stP_ne (by omega), stK_ne (by omega)] at K5
        have K6 := f_doG nV (rdG g q k) (rdP nP q k) (rdR nR q (k + 1)) true (rdK m q k) (m5 (Ch.rounds k q)) 6 (m5_good hg.1.good) (m5_nils hN)
        rw [stG_ne (by omega), stP_ne (by omega), stR_ne (by omega)] at K6
        have K0 := f_doG nV (rdG g q k) (rdP nP q k) (rdR nR q (k + 1)) true (stK (rdK m q k) (m5 (Ch.rounds k q)) 6) (m6 (Ch.rounds k q)) 0 (m6_good hg.1.good) (m6_nils hN)
        rw [stG_ne (by omega), stR_ne (by omega), stK_ne (s := 0) (by omega)] at K0
        have KQ := f_quiet nV (rdG g q k) (rdP nP q (k + 1)) (rdR nR q (k + 1)) true (stK (rdK m q k) (m5 (Ch.rounds k q)) 6) (m0 (Ch.rounds k q)) (m0_good hg.1.good) (m0_nils hN)
        have mG : rdG g q (k + 1) = true → rdG g q k = true := itG_mono
        have mP : rdP nP q (k + 1) = true → rdP nP q k = true := stP_mono
        have mR : rdR nR q (k + 1) = true → rdR nR q k = true := stR_mono
        have hw : IntKind.i64.wrap ((k : Int) + 1) = ((k + 1 : Nat) : Int) := by rw [IntWalk.i64_in _ (by omega)]; omega
        change FnS _ _ _ _ _ (chH _ _ _ _ _ (rdG g q k) (rdP nP q k) (rdR nR q (k + 1)) _ _ (m5 (Ch.rounds k q))) at K5
        change FnS _ _ _ _ _ (chH _ _ _ _ _ _ _ _ _ _ (m6 (Ch.rounds k q))) at K6
        change FnS _ _ _ _ _ (chH _ _ _ _ _ _ (rdP nP q (k + 1)) _ _ _ (m0 (Ch.rounds k q))) at K0
        change FnS _ _ _ _ _ (chH _ _ _ _ _ (rdG g q (k + 1)) _ _ _ (rdK m q (k + 1)) (Ch.rounds (k + 1) q)) at KQ
        have hfin : ∀ s', Weak s' (mkS 23 [(5, .one (.r true (int ((k + 1 : Nat) : Int)))), (4, .one (.ptr 4 0 0 0)), (2, .one (.ptr 2 0 0 0))] (zeroV 2 :: chH 4 101 102 103 nV (rdG g q (k + 1)) (rdP nP q (k + 1)) (rdR nR q (k + 1)) true (rdK m q (k + 1)) (Ch.rounds (k + 1) q))) → ∃ x', x' ≤ n ∧ Weak s' (F x') ∧ n - x' < n - k := fun s' h => ⟨k + 1, hlt, by rw [hF]; exact h, by omega⟩
        clear hN hg hF hT hend hbef hq hG2 hps hrs
        generalize rdG g q (k + 1) = a' at *
        generalize rdG g q k = a at *
        generalize rdP nP q (k + 1) = p' at *
        generalize rdP nP q k = p at *
        generalize rdR nR q (k + 1) = r' at *
        generalize rdR nR q k = r at *
        generalize rdK m q (k + 1) = x3 at *
        generalize stK (rdK m q k) (m5 (Ch.rounds k q)) 6 = x2 at *
        generalize rdK m q k = x1 at *
        generalize (Ch.step (m6 (Ch.rounds k q)) 0).2 = b0 at *
        generalize (Ch.step (m5 (Ch.rounds k q)) 6).2 = b6 at *
        generalize (Ch.step (Ch.rounds k q) 5).2 = b5 at *
        generalize m0 (Ch.rounds k q) = d0 at *
        generalize m6 (Ch.rounds k q) = d6 at *
        generalize m5 (Ch.rounds k q) = d5 at *
        generalize Ch.rounds (k + 1) q = d' at *
        generalize Ch.rounds k q = d at *
        unfold zeroV at *
        cases a <;> cases a' <;> cases p <;> cases p' <;> cases r <;> cases r'
        all_goals first
          | (exfalso; exact Bool.noConfusion (mG rfl))
          | (exfalso; exact Bool.noConfusion (mP rfl))
          | (exfalso; exact Bool.noConfusion (mR rfl))
          | skip
        all_goals
          dsimp only [chH, rowC, rowO] at KD K5 K6 K0 KQ
          simp only [Bool.false_eq_true, if_false, if_true, List.nil_append, List.append_nil, List.cons_append] at KD K5 K6 K0 KQ
          dsimp only [chH, rowC, rowO]; simp only [Bool.false_eq_true, if_false, if_true, List.nil_append, List.append_nil, List.cons_append, Bool.and_true, Bool.and_false, Bool.true_and, Bool.false_and, Bool.not_false, Bool.not_true]
          repeat' (first | (with_reducible first | refine aw_seq ?_ | refine thn_normal ?_ | refine thn_ret ?_ | refine thn_exit ?_ | refine blk_normal ?_ | refine blk_ret ?_ | refine blk_hit ?_ | refine blk_miss rfl ?_ | refine aw_block ?_ | refine aw_ret ?_ | refine aw_skip ?_ | refine aw_exit ?_ | refine w_nil ?_ | refine x_nil (by kernel_rfl) ?_) | refine aw_region ?_ | refine aw_region_draw (by kernel_rfl) ?_ | refine aw_yes rfl ?_ | refine aw_no rfl ?_ | ((with_reducible refine w_seq ?_); first | refine r_q tbOk rfl rfl rfl rfl ?_ | refine r_e tbOk rfl rfl rfl rfl rfl ?_ | refine r_yes tbOk rfl rfl rfl rfl rfl rfl ?_ | refine w_no rfl rfl (lookO_spec rfl) rfl rfl rfl ?_ | refine w_un rfl rfl (lookO_spec rfl) rfl rfl ?_) | ((with_reducible refine w_drw ?_); first | refine rx_q tbOk rfl rfl rfl rfl ?_ | refine rx_e tbOk rfl rfl rfl rfl rfl ?_ | refine rx_yes tbOk rfl rfl rfl rfl rfl rfl ?_ | refine x_no rfl rfl (lookO_spec rfl) rfl rfl rfl ?_ | refine x_un rfl rfl (lookO_spec rfl) rfl rfl ?_) | ((first | refine' w_e rfl ?xa ?xb ?xc ?xe ?_ | refine' v_e rfl ?xa ?xb ?xc ?xe ?_); (case xa => first | exact e_callS [(1000000000, 4), (1000001, 101), (1000002, 102), (1000003, 103), (2000001, 201), (2000002, 202), (2000003, 203)] KD rfl ⟨asD_ren (evO_spec rfl), trivial⟩ (by (repeat' (first | exact trivial | refine subHR_cons rfl ?_ ?_ | rfl))) rfl | exact e_callS [(1000000000, 4), (1000001, 201), (1000002, 202), (1000003, 203), (2000001, 301), (2000002, 302), (2000003, 303)] K5 rfl ⟨asD_ren (evO_spec rfl), by rw [evO_spec rfl]; exact asD_r rfl, trivial⟩ (by (repeat' (first | exact trivial | refine subHR_cons rfl ?_ ?_ | rfl))) rfl | exact e_callS [(1000000000, 4), (1000001, 301), (1000002, 302), (1000003, 303), (2000001, 401), (2000002, 402), (2000003, 403)] K6 rfl ⟨asD_ren (evO_spec rfl), by rw [evO_spec rfl]; exact asD_r rfl, trivial⟩ (by (repeat' (first | exact trivial | refine subHR_cons rfl ?_ ?_ | rfl))) rfl | exact e_callS [(1000000000, 4), (1000001, 401), (1000002, 402), (1000003, 403), (2000001, 501), (2000002, 502), (2000003, 503)] K0 rfl ⟨asD_ren (evO_spec rfl), by rw [evO_spec rfl]; exact asD_r rfl, trivial⟩ (by (repeat' (first | exact trivial | refine subHR_cons rfl ?_ ?_ | rfl))) rfl | exact e_callS [(1000000000, 4), (1000001, 501), (1000002, 502), (1000003, 503), (2000001, 601), (2000002, 602), (2000003, 603)] KQ rfl ⟨asD_ren (evO_spec rfl), trivial⟩ (by (repeat' (first | exact trivial | refine subHR_cons rfl ?_ ?_ | rfl))) rfl); (case xb => rfl); (case xc => rfl); (case xe => rfl); try dsimp only [P0.d, Res.d, List.map_cons, List.map_nil, List.set_cons_zero, List.set_cons_succ, Nat.reduceAdd]) | ((first | refine aw_ways rfl ?_ ?_ | refine r_split rfl rfl rfl ?_ ?_) <;> intro hg_ <;> fail_if_success (exact Bool.noConfusion hg_)) <;> (try simp only [prn] at hg_) <;> (try first | contradiction | (exfalso; omega)))
          all_goals first
            | (refine hfin _ ?_
               dsimp only [chH, rowC, rowO]; simp only [Bool.false_eq_true, if_false, if_true, List.nil_append, List.append_nil, List.cons_append, Bool.and_true, Bool.and_false, Bool.true_and, Bool.false_and, Bool.not_false, Bool.not_true]
               (refine weak_ren [(101, 601), (102, 602), (103, 603)] rfl ?_ ?_ <;> repeat' (first | exact trivial | refine subR_cons rfl ?_ ?_ | refine subHR_cons rfl ?_ ?_ | rfl | (refine d_int ?_; (first | rfl | omega | (rw [IntWalk.i64_in _ (by omega)] <;> omega) | (simp; done) | (simp; omega))) | (refine d_bool ?_; (first | (simp_all; done) | (rw [Bool.eq_iff_iff]; simp_all; done) | (rw [Bool.eq_iff_iff]; simp_all; omega) | (rw [Bool.eq_iff_iff]; simp; omega))) | exact d_int hw)))
            | trace_state
      · obtain rfl : k = n := by omega
        rw [decide_eq_true hend] at KD
        clear hN hg hF hend hbef hq hG2 hps hrs
        generalize rdG g q k = a at *
        generalize rdP nP q k = p at *
        generalize rdR nR q k = r at *
        generalize rdK m q k = x1 at *
        generalize Ch.rounds k q = d at *
        have hfin : ∀ s', Weak s' (mkS 23 [(5, .one (.r true (int (k : Int)))), (4, .one (.ptr 4 0 0 0)), (2, .one (.ptr 2 0 0 0))] (zeroV 2 :: chH 4 101 102 103 nV a p r true x1 d)) → Weak s' T := fun s' h => by rw [hT]; exact h
        clear hT
        unfold zeroV at *
        cases a <;> cases p <;> cases r
        all_goals
          dsimp only [chH, rowC, rowO] at KD
          simp only [Bool.false_eq_true, if_false, if_true, List.nil_append, List.append_nil, List.cons_append] at KD
          dsimp only [chH, rowC, rowO]; simp only [Bool.false_eq_true, if_false, if_true, List.nil_append, List.append_nil, List.cons_append, Bool.and_true, Bool.and_false, Bool.true_and, Bool.false_and, Bool.not_false, Bool.not_true]
          repeat' (first | (with_reducible first | refine aw_seq ?_ | refine thn_normal ?_ | refine thn_ret ?_ | refine thn_exit ?_ | refine blk_normal ?_ | refine blk_ret ?_ | refine blk_hit ?_ | refine blk_miss rfl ?_ | refine aw_block ?_ | refine aw_ret ?_ | refine aw_skip ?_ | refine aw_exit ?_ | refine w_nil ?_ | refine x_nil (by kernel_rfl) ?_) | refine aw_region ?_ | refine aw_region_draw (by kernel_rfl) ?_ | refine aw_yes rfl ?_ | refine aw_no rfl ?_ | ((with_reducible refine w_seq ?_); first | refine r_q tbOk rfl rfl rfl rfl ?_ | refine r_e tbOk rfl rfl rfl rfl rfl ?_ | refine r_yes tbOk rfl rfl rfl rfl rfl rfl ?_ | refine w_no rfl rfl (lookO_spec rfl) rfl rfl rfl ?_ | refine w_un rfl rfl (lookO_spec rfl) rfl rfl ?_) | ((with_reducible refine w_drw ?_); first | refine rx_q tbOk rfl rfl rfl rfl ?_ | refine rx_e tbOk rfl rfl rfl rfl rfl ?_ | refine rx_yes tbOk rfl rfl rfl rfl rfl rfl ?_ | refine x_no rfl rfl (lookO_spec rfl) rfl rfl rfl ?_ | refine x_un rfl rfl (lookO_spec rfl) rfl rfl ?_) | ((first | refine' w_e rfl ?xa ?xb ?xc ?xe ?_ | refine' v_e rfl ?xa ?xb ?xc ?xe ?_); (case xa => exact e_callS [(1000000000, 4), (1000001, 101), (1000002, 102), (1000003, 103), (2000001, 201), (2000002, 202), (2000003, 203)] KD rfl ⟨asD_ren (evO_spec rfl), trivial⟩ (by (repeat' (first | exact trivial | refine subHR_cons rfl ?_ ?_ | rfl))) rfl); (case xb => rfl); (case xc => rfl); (case xe => rfl); try dsimp only [P0.d, Res.d, List.map_cons, List.map_nil, List.set_cons_zero, List.set_cons_succ, Nat.reduceAdd]) | ((first | refine aw_ways rfl ?_ ?_ | refine r_split rfl rfl rfl ?_ ?_) <;> intro hg_ <;> fail_if_success (exact Bool.noConfusion hg_)) <;> (try simp only [prn] at hg_) <;> (try first | contradiction | (exfalso; omega)))
          all_goals first
            | (refine hfin _ ?_
               dsimp only [chH, rowC, rowO]; simp only [Bool.false_eq_true, if_false, if_true, List.nil_append, List.append_nil, List.cons_append, Bool.and_true, Bool.and_false, Bool.true_and, Bool.false_and, Bool.not_false, Bool.not_true]
               (refine weak_ren [(101, 201), (102, 202), (103, 203)] rfl ?_ ?_ <;> repeat' (first | exact trivial | refine subR_cons rfl ?_ ?_ | refine subHR_cons rfl ?_ ?_ | rfl | (refine d_int ?_; (first | rfl | omega | (rw [IntWalk.i64_in _ (by omega)] <;> omega) | (simp; done) | (simp; omega))) | (refine d_bool ?_; (first | (simp_all; done) | (rw [Bool.eq_iff_iff]; simp_all; done) | (rw [Bool.eq_iff_iff]; simp_all; omega) | (rw [Bool.eq_iff_iff]; simp; omega))))))
            | trace_state
  · rw [hT]
    clear hT
    have hN := rd_nils hq n
    clear hend hbef hq hG2 hps hrs
    generalize rdG g q n = a at *
    generalize rdP nP q n = p at *
    generalize rdR nR q n = r at *
    generalize rdK m q n = x1 at *
    generalize Ch.rounds n q = d at *
    obtain ⟨vs', kn', got', ps', rs'⟩ := d
    have q4 := hN.g
    have q5 := hN.p
    have q6 := hN.r
    clear hN
    dsimp only at q4 q5 q6 ⊢
    have l1 := ints_len got'
    have l2 := pks_len ps'
    have l3 := ints_len rs'
    unfold zeroV
    cases a <;> cases p <;> cases r
    all_goals
      (try (have h := q4 rfl; subst h)); (try (have h := q5 rfl; subst h)); (try (have h := q6 rfl; subst h))
      dsimp only [chH, rowC, rowO]; simp only [Bool.false_eq_true, if_false, if_true, List.nil_append, List.append_nil, List.cons_append, Bool.and_true, Bool.and_false, Bool.true_and, Bool.false_and, Bool.not_false, Bool.not_true]
      repeat' (first | (with_reducible first | refine aw_seq ?_ | refine thn_normal ?_ | refine thn_ret ?_ | refine thn_exit ?_ | refine blk_normal ?_ | refine blk_ret ?_ | refine blk_hit ?_ | refine blk_miss rfl ?_ | refine aw_block ?_ | refine aw_ret ?_ | refine aw_skip ?_ | refine aw_exit ?_ | refine w_nil ?_ | refine x_nil (by kernel_rfl) ?_) | refine aw_region ?_ | refine aw_region_draw (by kernel_rfl) ?_ | refine aw_yes rfl ?_ | refine aw_no rfl ?_ | ((with_reducible refine w_seq ?_); first | refine r_q tbOk rfl rfl rfl rfl ?_ | refine r_e tbOk rfl rfl rfl rfl rfl ?_ | refine r_yes tbOk rfl rfl rfl rfl rfl rfl ?_ | refine w_no rfl rfl (lookO_spec rfl) rfl rfl rfl ?_ | refine w_un rfl rfl (lookO_spec rfl) rfl rfl ?_) | ((with_reducible refine w_drw ?_); first | refine rx_q tbOk rfl rfl rfl rfl ?_ | refine rx_e tbOk rfl rfl rfl rfl rfl ?_ | refine rx_yes tbOk rfl rfl rfl rfl rfl rfl ?_ | refine x_no rfl rfl (lookO_spec rfl) rfl rfl rfl ?_ | refine x_un rfl rfl (lookO_spec rfl) rfl rfl ?_) | ((first | refine aw_ways rfl ?_ ?_ | refine r_split rfl rfl rfl ?_ ?_) <;> intro hg_ <;> fail_if_success (exact Bool.noConfusion hg_)) <;> (try simp only [prn] at hg_) <;> (try first | contradiction | (exfalso; omega)))
      all_goals first
        | exact ret_2 (rv_cell rfl rfl (by (with_reducible first | exact ty3 | exact ty4 | exact ty5 | exact ty9 | exact ty17 | exact ty19 | exact ty22 | exact ty23 | exact ty25 | exact ty31 | exact ty38 | exact ty40 | exact ty54 | exact ty71 | exact ty75 | exact ty78 | exact ty82 | exact ty83)) rfl rfl rfl (dres_agg (by refine ⟨?_, cres_val, ?_, ?_, ?_, trivial⟩ <;> first | exact cres_new | exact cres_nil | exact cres_own0 (lookHO_spec rfl) l1.symm | exact cres_own0 (lookHO_spec rfl) l2.symm | exact cres_own0 (lookHO_spec rfl) l3.symm))) (rv_tmp rfl (dres_int rfl))
        | trace_state
end Go.Proofs.Ytjjeihcmiofkmaa.Abs
