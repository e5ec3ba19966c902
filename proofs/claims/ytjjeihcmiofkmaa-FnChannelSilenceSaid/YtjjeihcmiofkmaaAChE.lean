/- Channels by states: quiet channels of the program. No statement of the seat is proved here. -/
import Derived.Test.YtjjeihcmiofkmaaTy
import Derived.Lib.Hide
import Derived.Test.YtjjeihcmiofkmaaAChS
import Derived.Test.YtjjeihcmiofkmaaChR
import Derived.Test.YtjjeihcmiofkmaaAbsW
set_option linter.unusedSimpArgs false
set_option linter.unusedVariables false
namespace Go.Proofs.Ytjjeihcmiofkmaa.Abs
open Go.RowKit
open R (val row ref)

/-- The marks behind k steps of a kind. -/
def itG (s : Int) (nG : Bool) (c : Ch) : Nat → Bool
  | 0 => nG
  | k + 1 => stG (itG s nG c k) (Ch.it s k c) s
def itK (s : Int) (mk : Bool) (c : Ch) : Nat → Bool
  | 0 => mk
  | k + 1 => stK (itK s mk c k) (Ch.it s k c) s
def quG (nG : Bool) (c : Ch) : Bool := itG 1 nG c c.ps.length
def quK (mk : Bool) (c : Ch) : Bool := itK 6 mk (Ch.packetsIn c) (Ch.packetsIn c).rs.length
theorem stP_ne {n : Bool} {c : Ch} {s : Int} (h : s ≠ 0) : stP n c s = n := by simp [stP, h]
theorem stR_ne {n : Bool} {c : Ch} {s : Int} (h : s ≠ 5) : stR n c s = n := by simp [stR, h]
theorem stG_ne {n : Bool} {c : Ch} {s : Int} (h : s ≠ 1) : stG n c s = n := by
  unfold stG pkApp
  cases c.ps <;> simp [h]
theorem stK_ne {n : Bool} {c : Ch} {s : Int} (h : s ≠ 6) : stK n c s = n := by simp [stK, h]
theorem stG_mono {n : Bool} {c : Ch} {s : Int} (h : stG n c s = true) : n = true := by unfold stG at h; rw [Bool.and_eq_true] at h; exact h.1
theorem stP_mono {n : Bool} {c : Ch} {s : Int} (h : stP n c s = true) : n = true := by unfold stP at h; rw [Bool.and_eq_true] at h; exact h.1
theorem stR_mono {n : Bool} {c : Ch} {s : Int} (h : stR n c s = true) : n = true := by unfold stR at h; rw [Bool.and_eq_true] at h; exact h.1
theorem f_doG (nV nG nP nR mV mk : Bool) (c : Ch) (s : Int) (hG : Ch.Good c) (hn : Nils nV nG nP nR c) :
    FnS Try.prog 50 [.one (.ptr 1000000000 0 0 0), .one (.r false (int s))] (chH 1000000000 1000001 1000002 1000003 nV nG nP nR mV mk c) (.one (.r true (bool (Ch.step c s).2))) (chH 1000000000 2000001 2000002 2000003 nV (stG nG c s) (stP nP c s) (stR nR c s) mV (stK mk c s) (Ch.step c s).1) := by
  obtain ⟨vs, kn, got, ps, rs⟩ := c
  exact f_do nV nG nP nR mV mk vs kn got ps rs s hn.g hn.p hn.r hG.psl hG.rsl hG.vsl hG.kn0 (by have := hG.kn1; have := hG.len; dsimp only at *; omega) (by have := hG.len; have := hG.vsl; dsimp only at *; omega)
theorem it1_nils {nV nG nP nR : Bool} {c : Ch} (h : Nils nV nG nP nR c) : ∀ k, Nils nV (itG 1 nG c k) nP nR (Ch.it 1 k c)
  | 0 => h
  | k + 1 => by
    have := st_nils (it1_nils h k) 1
    rw [stP_ne (by omega), stR_ne (by omega)] at this
    exact this
theorem it6_nils {nV nG nP nR : Bool} {c : Ch} (h : Nils nV nG nP nR c) : ∀ k, Nils nV nG nP nR (Ch.it 6 k c)
  | 0 => h
  | k + 1 => by
    have := st_nils (it6_nils h k) 6
    rw [stP_ne (by omega), stR_ne (by omega), stG_ne (by omega)] at this
    exact this
theorem qu_nils {nV nG nP nR : Bool} {c : Ch} (h : Nils nV nG nP nR c) : Nils nV (quG nG c) nP nR (Ch.quiet c) := it6_nils (it1_nils h _) _
set_option maxRecDepth 100000 in
set_option maxHeartbeats 8000000 in
theorem f_quiet (nV nG nP nR mV mk : Bool) (c : Ch) (hG : Ch.Good c) (hn : Nils nV nG nP nR c) :
    FnS Try.prog 55 [.one (.ptr 1000000000 0 0 0)] (chH 1000000000 1000001 1000002 1000003 nV nG nP nR mV mk c) (.tup true []) (chH 1000000000 2000001 2000002 2000003 nV (quG nG c) nP nR mV (quK mk c) (Ch.quiet c)) := by
  have K1 : ∀ k, FnS Try.prog 50 [.one (.ptr 1000000000 0 0 0), .one (.r false (int 1))] (chH 1000000000 1000001 1000002 1000003 nV (itG 1 nG c k) nP nR mV mk (Ch.it 1 k c)) (.one (.r true (bool (Ch.step (Ch.it 1 k c) 1).2))) (chH 1000000000 2000001 2000002 2000003 nV (itG 1 nG c (k + 1)) nP nR mV mk (Ch.it 1 (k + 1) c)) := fun k => by
    have := f_doG nV (itG 1 nG c k) nP nR mV mk (Ch.it 1 k c) 1 (Ch.it_grow hG 1 k).good (it1_nils hn k)
    rw [stP_ne (by omega), stR_ne (by omega), stK_ne (by omega)] at this
    exact this
  have hb1 : ∀ k, (Ch.step (Ch.it 1 k c) 1).2 = decide (k < c.ps.length) := fun k => by
    have h1 := Ch.step_ps (c := Ch.it 1 k c) (s := 1) (.inl rfl)
    rw [h1.2.2.2.1, (Ch.it_ps (s := 1) (.inl rfl) c k).1]
    rw [Bool.eq_iff_iff]; simp
  have g1 : ∀ k, itG 1 nG c (k + 1) = true → itG 1 nG c k = true := fun k h => stG_mono h
  have hG2 : Ch.Good (Ch.packetsIn c) := (Ch.it_grow hG 1 _).good
  have hn2 : Nils nV (quG nG c) nP nR (Ch.packetsIn c) := it1_nils hn _
  have K6 : ∀ k, FnS Try.prog 50 [.one (.ptr 1000000000 0 0 0), .one (.r false (int 6))] (chH 1000000000 1000001 1000002 1000003 nV (quG nG c) nP nR mV (itK 6 mk (Ch.packetsIn c) k) (Ch.it 6 k (Ch.packetsIn c))) (.one (.r true (bool (Ch.step (Ch.it 6 k (Ch.packetsIn c)) 6).2))) (chH 1000000000 2000001 2000002 2000003 nV (quG nG c) nP nR mV (itK 6 mk (Ch.packetsIn c) (k + 1)) (Ch.it 6 (k + 1) (Ch.packetsIn c))) := fun k => by
    have := f_doG nV (quG nG c) nP nR mV (itK 6 mk (Ch.packetsIn c) k) (Ch.it 6 k (Ch.packetsIn c)) 6 (Ch.it_grow hG2 6 k).good (it6_nils hn2 k)
    rw [stP_ne (by omega), stR_ne (by omega), stG_ne (by omega)] at this
    exact this
  have hb6 : ∀ k, (Ch.step (Ch.it 6 k (Ch.packetsIn c)) 6).2 = decide (k < (Ch.packetsIn c).rs.length) := fun k => by
    have h1 := Ch.step_rs (c := Ch.it 6 k (Ch.packetsIn c)) (s := 6) (.inl rfl)
    rw [h1.2.2.2.1, (Ch.it_rs (s := 6) (.inl rfl) (Ch.packetsIn c) k).1]
    rw [Bool.eq_iff_iff]; simp
  refine fnS_of (l := []) Try.func55 (by kernel_rfl) rfl Try.ntmps55 rfl rfl ?_; simp only [dEnv, Nat.reduceAdd]
  obtain ⟨T, hT⟩ : ∃ T : St, T = mkS 6 [(0, .one (.ptr 1000000000 0 0 0))] (chH 1000000000 101 102 103 nV (quG nG c) nP nR mV mk (Ch.packetsIn c)) := ⟨_, rfl⟩
  refine aw_cut T ?_ ?_
  · refine aw_block ?_
    obtain ⟨F, hF⟩ : ∃ F : Nat → St, ∀ k, F k = mkS 6 [(0, .one (.ptr 1000000000 0 0 0))] (chH 1000000000 101 102 103 nV (itG 1 nG c k) nP nR mV mk (Ch.it 1 k c)) := ⟨_, fun _ => rfl⟩
    refine aw_loopI (fun k : Nat => k ≤ c.ps.length) F (fun k => c.ps.length - k) 0 (Nat.zero_le _) ?_ ?_
    · rw [hF 0]
      show Weak _ (mkS 6 _ (chH _ _ _ _ nV nG nP nR mV mk c))
      cases nG <;> cases nP <;> cases nR
      all_goals
        dsimp only [chH, rowC, rowO]; simp only [Bool.false_eq_true, if_false, if_true, List.nil_append, List.append_nil, List.cons_append, Bool.and_true, Bool.and_false, Bool.true_and, Bool.false_and, Bool.not_false, Bool.not_true]
        (refine weak_ren [(101, 1000001), (102, 1000002), (103, 1000003)] rfl ?_ ?_ <;> repeat' (first | exact trivial | refine subR_cons rfl ?_ ?_ | refine subHR_cons rfl ?_ ?_ | rfl | (refine d_int ?_; (first | rfl | omega | (rw [IntWalk.i64_in _ (by omega)] <;> omega) | (simp; done) | (simp; omega))) | (refine d_bool ?_; (first | (simp_all; done) | (rw [Bool.eq_iff_iff]; simp_all; done) | (rw [Bool.eq_iff_iff]; simp_all; omega) | (rw [Bool.eq_iff_iff]; simp; omega)))))
    · intro k hk
      rw [hF k]
      have K := K1 k
      rw [hb1 k] at K
      have hm := g1 k
      clear K1 hb1 g1 K6 hb6 hn hn2
      generalize hg' : itG 1 nG c (k + 1) = g' at *
      generalize hg : itG 1 nG c k = g at *
      generalize hd' : Ch.it 1 (k + 1) c = d' at *
      generalize hd : Ch.it 1 k c = d at *
      by_cases hlt : k < c.ps.length
      · rw [decide_eq_true hlt] at K
        have hfin : ∀ s', Weak s' (mkS 6 [(0, .one (.ptr 1000000000 0 0 0))] (chH 1000000000 101 102 103 nV g' nP nR mV mk d')) → ∃ x', x' ≤ c.ps.length ∧ Weak s' (F x') ∧ c.ps.length - x' < c.ps.length - k := fun s' h => ⟨k + 1, hlt, by rw [hF, hg', hd']; exact h, by omega⟩
        clear hg hg' hd hd' hF hT
        cases g <;> cases g' <;> cases nP <;> cases nR
        all_goals first
          | (exfalso; exact Bool.noConfusion (hm rfl))
          | skip
        all_goals
          dsimp only [chH, rowC, rowO] at K
          simp only [Bool.false_eq_true, if_false, if_true, List.nil_append, List.append_nil, List.cons_append] at K
          dsimp only [chH, rowC, rowO]; simp only [Bool.false_eq_true, if_false, if_true, List.nil_append, List.append_nil, List.cons_append, Bool.and_true, Bool.and_false, Bool.true_and, Bool.false_and, Bool.not_false, Bool.not_true]
          repeat' (first | (with_reducible first | refine aw_seq ?_ | refine thn_normal ?_ | refine thn_ret ?_ | refine thn_exit ?_ | refine blk_normal ?_ | refine blk_ret ?_ | refine blk_hit ?_ | refine blk_miss rfl ?_ | refine aw_block ?_ | refine aw_ret ?_ | refine aw_skip ?_ | refine aw_exit ?_ | refine w_nil ?_ | refine x_nil (by kernel_rfl) ?_) | refine aw_region ?_ | refine aw_region_draw (by kernel_rfl) ?_ | refine aw_yes rfl ?_ | refine aw_no rfl ?_ | ((with_reducible refine w_seq ?_); first | refine r_q tbOk rfl rfl rfl rfl ?_ | refine r_e tbOk rfl rfl rfl rfl rfl ?_ | refine r_yes tbOk rfl rfl rfl rfl rfl rfl ?_ | refine w_no rfl rfl (lookO_spec rfl) rfl rfl rfl ?_ | refine w_un rfl rfl (lookO_spec rfl) rfl rfl ?_) | ((with_reducible refine w_drw ?_); first | refine rx_q tbOk rfl rfl rfl rfl ?_ | refine rx_e tbOk rfl rfl rfl rfl rfl ?_ | refine rx_yes tbOk rfl rfl rfl rfl rfl rfl ?_ | refine x_no rfl rfl (lookO_spec rfl) rfl rfl rfl ?_ | refine x_un rfl rfl (lookO_spec rfl) rfl rfl ?_) | ((first | refine' w_e rfl ?xa ?xb ?xc ?xe ?_ | refine' v_e rfl ?xa ?xb ?xc ?xe ?_); (case xa => exact e_callS [(1000001, 101), (1000002, 102), (1000003, 103), (2000001, 201), (2000002, 202), (2000003, 203)] K rfl ⟨asD_ren (evO_spec rfl), by rw [evO_spec rfl]; exact asD_r rfl, trivial⟩ (by (repeat' (first | exact trivial | refine subHR_cons rfl ?_ ?_ | rfl))) rfl); (case xb => rfl); (case xc => rfl); (case xe => rfl); try dsimp only [P0.d, Res.d, List.map_cons, List.map_nil, List.set_cons_zero, List.set_cons_succ, Nat.reduceAdd]) | ((first | refine aw_ways rfl ?_ ?_ | refine r_split rfl rfl rfl ?_ ?_) <;> intro hg_ <;> fail_if_success (exact Bool.noConfusion hg_)) <;> (try simp only [prn] at hg_) <;> (try first | contradiction | (exfalso; omega)))
          all_goals first
            | (refine hfin _ ?_
               dsimp only [chH, rowC, rowO]; simp only [Bool.false_eq_true, if_false, if_true, List.nil_append, List.append_nil, List.cons_append, Bool.and_true, Bool.and_false, Bool.true_and, Bool.false_and, Bool.not_false, Bool.not_true]
               (refine weak_ren [(101, 201), (102, 202), (103, 203)] rfl ?_ ?_ <;> repeat' (first | exact trivial | refine subR_cons rfl ?_ ?_ | refine subHR_cons rfl ?_ ?_ | rfl | (refine d_int ?_; (first | rfl | omega | (rw [IntWalk.i64_in _ (by omega)] <;> omega) | (simp; done) | (simp; omega))) | (refine d_bool ?_; (first | (simp_all; done) | (rw [Bool.eq_iff_iff]; simp_all; done) | (rw [Bool.eq_iff_iff]; simp_all; omega) | (rw [Bool.eq_iff_iff]; simp; omega))))))
            | trace_state
      · obtain rfl : k = c.ps.length := by omega
        rw [decide_eq_false hlt] at K
        have hg2 : itG 1 nG c c.ps.length = g' := by
          rw [← hg']
          show _ = stG (itG 1 nG c c.ps.length) (Ch.it 1 c.ps.length c) 1
          have := (Ch.it_ps (s := 1) (.inl rfl) c c.ps.length).1
          unfold stG pkApp
          rw [this]; simp
        have hd2 : Ch.it 1 c.ps.length c = d' := by
          rw [← hd']
          have := (Ch.it_ps (s := 1) (.inl rfl) c c.ps.length).1
          exact ((Ch.step_ps (c := Ch.it 1 c.ps.length c) (s := 1) (.inl rfl)).2.2.2.2.1 (by rw [this]; simp)).symm
        have hfin : ∀ s', Weak s' (mkS 6 [(0, .one (.ptr 1000000000 0 0 0))] (chH 1000000000 101 102 103 nV g' nP nR mV mk d')) → Weak s' T := fun s' h => by rw [hT]; unfold quG Ch.packetsIn; rw [hg2, hd2]; exact h
        clear hg hg' hd hd' hg2 hd2 hF hT
        cases g <;> cases g' <;> cases nP <;> cases nR
        all_goals first
          | (exfalso; exact Bool.noConfusion (hm rfl))
          | skip
        all_goals
          dsimp only [chH, rowC, rowO] at K
          simp only [Bool.false_eq_true, if_false, if_true, List.nil_append, List.append_nil, List.cons_append] at K
          dsimp only [chH, rowC, rowO]; simp only [Bool.false_eq_true, if_false, if_true, List.nil_append, List.append_nil, List.cons_append, Bool.and_true, Bool.and_false, Bool.true_and, Bool.false_and, Bool.not_false, Bool.not_true]
          repeat' (first | (with_reducible first | refine aw_seq ?_ | refine thn_normal ?_ | refine thn_ret ?_ | refine thn_exit ?_ | refine blk_normal ?_ | refine blk_ret ?_ | refine blk_hit ?_ | refine blk_miss rfl ?_ | refine aw_block ?_ | refine aw_ret ?_ | refine aw_skip ?_ | refine aw_exit ?_ | refine w_nil ?_ | refine x_nil (by kernel_rfl) ?_) | refine aw_region ?_ | refine aw_region_draw (by kernel_rfl) ?_ | refine aw_yes rfl ?_ | refine aw_no rfl ?_ | ((with_reducible refine w_seq ?_); first | refine r_q tbOk rfl rfl rfl rfl ?_ | refine r_e tbOk rfl rfl rfl rfl rfl ?_ | refine r_yes tbOk rfl rfl rfl rfl rfl rfl ?_ | refine w_no rfl rfl (lookO_spec rfl) rfl rfl rfl ?_ | refine w_un rfl rfl (lookO_spec rfl) rfl rfl ?_) | ((with_reducible refine w_drw ?_); first | refine rx_q tbOk rfl rfl rfl rfl ?_ | refine rx_e tbOk rfl rfl rfl rfl rfl ?_ | refine rx_yes tbOk rfl rfl rfl rfl rfl rfl ?_ | refine x_no rfl rfl (lookO_spec rfl) rfl rfl rfl ?_ | refine x_un rfl rfl (lookO_spec rfl) rfl rfl ?_) | ((first | refine' w_e rfl ?xa ?xb ?xc ?xe ?_ | refine' v_e rfl ?xa ?xb ?xc ?xe ?_); (case xa => exact e_callS [(1000001, 101), (1000002, 102), (1000003, 103), (2000001, 201), (2000002, 202), (2000003, 203)] K rfl ⟨asD_ren (evO_spec rfl), by rw [evO_spec rfl]; exact asD_r rfl, trivial⟩ (by (repeat' (first | exact trivial | refine subHR_cons rfl ?_ ?_ | rfl))) rfl); (case xb => rfl); (case xc => rfl); (case xe => rfl); try dsimp only [P0.d, Res.d, List.map_cons, List.map_nil, List.set_cons_zero, List.set_cons_succ, Nat.reduceAdd]) | ((first | refine aw_ways rfl ?_ ?_ | refine r_split rfl rfl rfl ?_ ?_) <;> intro hg_ <;> fail_if_success (exact Bool.noConfusion hg_)) <;> (try simp only [prn] at hg_) <;> (try first | contradiction | (exfalso; omega)))
          all_goals first
            | (refine hfin _ ?_
               dsimp only [chH, rowC, rowO]; simp only [Bool.false_eq_true, if_false, if_true, List.nil_append, List.append_nil, List.cons_append, Bool.and_true, Bool.and_false, Bool.true_and, Bool.false_and, Bool.not_false, Bool.not_true]
               (refine weak_ren [(101, 201), (102, 202), (103, 203)] rfl ?_ ?_ <;> repeat' (first | exact trivial | refine subR_cons rfl ?_ ?_ | refine subHR_cons rfl ?_ ?_ | rfl | (refine d_int ?_; (first | rfl | omega | (rw [IntWalk.i64_in _ (by omega)] <;> omega) | (simp; done) | (simp; omega))) | (refine d_bool ?_; (first | (simp_all; done) | (rw [Bool.eq_iff_iff]; simp_all; done) | (rw [Bool.eq_iff_iff]; simp_all; omega) | (rw [Bool.eq_iff_iff]; simp; omega))))))
            | trace_state
  · rw [hT]
    clear hT
    unfold quK Ch.quiet Ch.receiptsIn
    clear K1 hb1 g1 hn hn2 hG2 hG
    generalize quG nG c = g at *
    generalize Ch.packetsIn c = e at *
    refine aw_block ?_
    obtain ⟨F, hF⟩ : ∃ F : Nat → St, ∀ k, F k = mkS 6 [(0, .one (.ptr 1000000000 0 0 0))] (chH 1000000000 101 102 103 nV g nP nR mV (itK 6 mk e k) (Ch.it 6 k e)) := ⟨_, fun _ => rfl⟩
    refine aw_loopI (fun k : Nat => k ≤ e.rs.length) F (fun k => e.rs.length - k) 0 (Nat.zero_le _) ?_ ?_
    · rw [hF 0]
      show Weak _ (mkS 6 _ (chH _ _ _ _ nV g nP nR mV mk e))
      exact weak_refl _
    · intro k hk
      rw [hF k]
      have K := K6 k
      rw [hb6 k] at K
      clear K6 hb6
      generalize hg' : itK 6 mk e (k + 1) = g' at *
      generalize hg : itK 6 mk e k = g0 at *
      generalize hd' : Ch.it 6 (k + 1) e = d' at *
      generalize hd : Ch.it 6 k e = d at *
      by_cases hlt : k < e.rs.length
      · rw [decide_eq_true hlt] at K
        have hfin : ∀ s', Weak s' (mkS 6 [(0, .one (.ptr 1000000000 0 0 0))] (chH 1000000000 101 102 103 nV g nP nR mV g' d')) → ∃ x', x' ≤ e.rs.length ∧ Weak s' (F x') ∧ e.rs.length - x' < e.rs.length - k := fun s' h => ⟨k + 1, hlt, by rw [hF, hg', hd']; exact h, by omega⟩
        clear hg hg' hd hd' hF
        cases g <;> cases nP <;> cases nR
        all_goals
          dsimp only [chH, rowC, rowO] at K
          simp only [Bool.false_eq_true, if_false, if_true, List.nil_append, List.append_nil, List.cons_append] at K
          dsimp only [chH, rowC, rowO]; simp only [Bool.false_eq_true, if_false, if_true, List.nil_append, List.append_nil, List.cons_append, Bool.and_true, Bool.and_false, Bool.true_and, Bool.false_and, Bool.not_false, Bool.not_true]
          repeat' (first | (with_reducible first | refine aw_seq ?_ | refine thn_normal ?_ | refine thn_ret ?_ | refine thn_exit ?_ | refine blk_normal ?_ | refine blk_ret ?_ | refine blk_hit ?_ | refine blk_miss rfl ?_ | refine aw_block ?_ | refine aw_ret ?_ | refine aw_skip ?_ | refine aw_exit ?_ | refine w_nil ?_ | refine x_nil (by kernel_rfl) ?_) | refine aw_region ?_ | refine aw_region_draw (by kernel_rfl) ?_ | refine aw_yes rfl ?_ | refine aw_no rfl ?_ | ((with_reducible refine w_seq ?_); first | refine r_q tbOk rfl rfl rfl rfl ?_ | refine r_e tbOk rfl rfl rfl rfl rfl ?_ | refine r_yes tbOk rfl rfl rfl rfl rfl rfl ?_ | refine w_no rfl rfl (lookO_spec rfl) rfl rfl rfl ?_ | refine w_un rfl rfl (lookO_spec rfl) rfl rfl ?_) | ((with_reducible refine w_drw ?_); first | refine rx_q tbOk rfl rfl rfl rfl ?_ | refine rx_e tbOk rfl rfl rfl rfl rfl ?_ | refine rx_yes tbOk rfl rfl rfl rfl rfl rfl ?_ | refine x_no rfl rfl (lookO_spec rfl) rfl rfl rfl ?_ | refine x_un rfl rfl (lookO_spec rfl) rfl rfl ?_) | ((first | refine' w_e rfl ?xa ?xb ?xc ?xe ?_ | refine' v_e rfl ?xa ?xb ?xc ?xe ?_); (case xa => exact e_callS [(1000001, 101), (1000002, 102), (1000003, 103), (2000001, 201), (2000002, 202), (2000003, 203)] K rfl ⟨asD_ren (evO_spec rfl), by rw [evO_spec rfl]; exact asD_r rfl, trivial⟩ (by (repeat' (first | exact trivial | refine subHR_cons rfl ?_ ?_ | rfl))) rfl); (case xb => rfl); (case xc => rfl); (case xe => rfl); try dsimp only [P0.d, Res.d, List.map_cons, List.map_nil, List.set_cons_zero, List.set_cons_succ, Nat.reduceAdd]) | ((first | refine aw_ways rfl ?_ ?_ | refine r_split rfl rfl rfl ?_ ?_) <;> intro hg_ <;> fail_if_success (exact Bool.noConfusion hg_)) <;> (try simp only [prn] at hg_) <;> (try first | contradiction | (exfalso; omega)))
          all_goals first
            | (refine hfin _ ?_
               dsimp only [chH, rowC, rowO]; simp only [Bool.false_eq_true, if_false, if_true, List.nil_append, List.append_nil, List.cons_append, Bool.and_true, Bool.and_false, Bool.true_and, Bool.false_and, Bool.not_false, Bool.not_true]
               (refine weak_ren [(101, 201), (102, 202), (103, 203)] rfl ?_ ?_ <;> repeat' (first | exact trivial | refine subR_cons rfl ?_ ?_ | refine subHR_cons rfl ?_ ?_ | rfl | (refine d_int ?_; (first | rfl | omega | (rw [IntWalk.i64_in _ (by omega)] <;> omega) | (simp; done) | (simp; omega))) | (refine d_bool ?_; (first | (simp_all; done) | (rw [Bool.eq_iff_iff]; simp_all; done) | (rw [Bool.eq_iff_iff]; simp_all; omega) | (rw [Bool.eq_iff_iff]; simp; omega))))))
            | trace_state
      · obtain rfl : k = e.rs.length := by omega
        rw [decide_eq_false hlt] at K
        have hdr : (Ch.it 6 e.rs.length e).rs = [] := by rw [(Ch.it_rs (s := 6) (.inl rfl) e e.rs.length).1]; simp
        have hg2 : itK 6 mk e e.rs.length = g' := by
          rw [← hg']
          show _ = stK (itK 6 mk e e.rs.length) (Ch.it 6 e.rs.length e) 6
          unfold stK
          rw [hdr]; simp
        have hd2 : Ch.it 6 e.rs.length e = d' := by
          rw [← hd']
          exact ((Ch.step_rs (c := Ch.it 6 e.rs.length e) (s := 6) (.inl rfl)).2.2.2.2.1 hdr).symm
        rw [hg2, hd2]
        cases g <;> cases nP <;> cases nR
        all_goals
          dsimp only [chH, rowC, rowO] at K
          simp only [Bool.false_eq_true, if_false, if_true, List.nil_append, List.append_nil, List.cons_append] at K
          dsimp only [chH, rowC, rowO]; simp only [Bool.false_eq_true, if_false, if_true, List.nil_append, List.append_nil, List.cons_append, Bool.and_true, Bool.and_false, Bool.true_and, Bool.false_and, Bool.not_false, Bool.not_true]
          repeat' (first | (with_reducible first | refine aw_seq ?_ | refine thn_normal ?_ | refine thn_ret ?_ | refine thn_exit ?_ | refine blk_normal ?_ | refine blk_ret ?_ | refine blk_hit ?_ | refine blk_miss rfl ?_ | refine aw_block ?_ | refine aw_ret ?_ | refine aw_skip ?_ | refine aw_exit ?_ | refine w_nil ?_ | refine x_nil (by kernel_rfl) ?_) | refine aw_region ?_ | refine aw_region_draw (by kernel_rfl) ?_ | refine aw_yes rfl ?_ | refine aw_no rfl ?_ | ((with_reducible refine w_seq ?_); first | refine r_q tbOk rfl rfl rfl rfl ?_ | refine r_e tbOk rfl rfl rfl rfl rfl ?_ | refine r_yes tbOk rfl rfl rfl rfl rfl rfl ?_ | refine w_no rfl rfl (lookO_spec rfl) rfl rfl rfl ?_ | refine w_un rfl rfl (lookO_spec rfl) rfl rfl ?_) | ((with_reducible refine w_drw ?_); first | refine rx_q tbOk rfl rfl rfl rfl ?_ | refine rx_e tbOk rfl rfl rfl rfl rfl ?_ | refine rx_yes tbOk rfl rfl rfl rfl rfl rfl ?_ | refine x_no rfl rfl (lookO_spec rfl) rfl rfl rfl ?_ | refine x_un rfl rfl (lookO_spec rfl) rfl rfl ?_) | ((first | refine' w_e rfl ?xa ?xb ?xc ?xe ?_ | refine' v_e rfl ?xa ?xb ?xc ?xe ?_); (case xa => exact e_callS [(1000001, 101), (1000002, 102), (1000003, 103), (2000001, 201), (2000002, 202), (2000003, 203)] K rfl ⟨asD_ren (evO_spec rfl), by rw [evO_spec rfl]; exact asD_r rfl, trivial⟩ (by (repeat' (first | exact trivial | refine subHR_cons rfl ?_ ?_ | rfl))) rfl); (case xb => rfl); (case xc => rfl); (case xe => rfl); try dsimp only [P0.d, Res.d, List.map_cons, List.map_nil, List.set_cons_zero, List.set_cons_succ, Nat.reduceAdd]) | ((first | refine aw_ways rfl ?_ ?_ | refine r_split rfl rfl rfl ?_ ?_) <;> intro hg_ <;> fail_if_success (exact Bool.noConfusion hg_)) <;> (try simp only [prn] at hg_) <;> (try first | contradiction | (exfalso; omega)))
          all_goals first
            | exact end_D [(2000001, 201), (2000002, 202), (2000003, 203)] rfl (by (repeat' (first | exact trivial | refine subHR_cons rfl ?_ ?_ | rfl))) ⟨.tup true [], rfl, imp_refl rfl⟩
            | trace_state
end Go.Proofs.Ytjjeihcmiofkmaa.Abs
