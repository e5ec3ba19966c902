/- Channels by states: ChannelRun and ChannelFinish of the program. No statement of the seat is proved here. -/
import Derived.Test.YtjjeihcmiofkmaaTy
import Derived.Lib.Hide
import Derived.Test.YtjjeihcmiofkmaaAChF
set_option linter.unusedSimpArgs false
set_option linter.unusedVariables false
namespace Go.Proofs.Ytjjeihcmiofkmaa.Abs
open Go.RowKit
open R (val row ref)

def ruG (nG : Bool) (c : Ch) (xs : List Int) : Nat → Bool
  | 0 => nG
  | k + 1 => stG (ruG nG c xs k) (Ch.run c (xs.take k)).1 (dV xs k)
def ruP (nP : Bool) (c : Ch) (xs : List Int) : Nat → Bool
  | 0 => nP
  | k + 1 => stP (ruP nP c xs k) (Ch.run c (xs.take k)).1 (dV xs k)
def ruR (nR : Bool) (c : Ch) (xs : List Int) : Nat → Bool
  | 0 => nR
  | k + 1 => stR (ruR nR c xs k) (Ch.run c (xs.take k)).1 (dV xs k)
def ruK (mk : Bool) (c : Ch) (xs : List Int) : Nat → Bool
  | 0 => mk
  | k + 1 => stK (ruK mk c xs k) (Ch.run c (xs.take k)).1 (dV xs k)
theorem run_take {c : Ch} {xs : List Int} {k : Nat} (h : k < xs.length) : Ch.run c (xs.take (k + 1)) = Ch.run1 (Ch.run c (xs.take k)) (dV xs k) := by
  rw [List.take_succ_eq_append_getElem h, Ch.run_snoc]
  unfold dV
  rw [Int.toNat_natCast, List.getD_eq_getElem?_getD, List.getElem?_eq_getElem h]; rfl
theorem ru_nils {nV nG nP nR : Bool} {c : Ch} {xs : List Int} (h : Nils nV nG nP nR c) : ∀ k, k ≤ xs.length → Nils nV (ruG nG c xs k) (ruP nP c xs k) (ruR nR c xs k) (Ch.run c (xs.take k)).1
  | 0, _ => h
  | k + 1, hk => by
    have := st_nils (ru_nils (xs := xs) h k (by omega)) (dV xs k)
    rw [run_take (by omega)]
    exact this
set_option maxRecDepth 100000 in
set_option maxHeartbeats 8000000 in
theorem f_implRun (nV nG nP nR nS : Bool) (c : Ch) (xs : List Int) (hG : Ch.Good c) (hn : Nils nV nG nP nR c) (hx : xs.length ≤ 200) :
    Fn Try.prog 29 [chP nV nG nP nR c, .one (row nS 1 (ints xs))] (.tup [chP nV (ruG nG c xs xs.length) (ruP nP c xs xs.length) (ruR nR c xs xs.length) (Ch.run c xs).1, iP ((Ch.run c xs).2 : Int)]) := by
  obtain ⟨h1, h2, h3, h4⟩ := hG.lens
  have hok := f_implChOk' nV nG nP nR c h1 h2 h3 h4
  rw [Ch.ok_iff.2 hG] at hok
  have hlen := ints_len xs
  have K1 := f_copied' nV nG nP nR c hn h1 h2 h3 h4
  have K2 : ∀ k, k < xs.length → FnS Try.prog 50 [.one (.ptr 1000000000 0 0 0), .one (.r false (int (dV xs k)))] (chH 1000000000 1000001 1000002 1000003 nV (ruG nG c xs k) (ruP nP c xs k) (ruR nR c xs k) true (ruK false c xs k) (Ch.run c (xs.take k)).1) (.one (.r true (bool (Ch.step (Ch.run c (xs.take k)).1 (dV xs k)).2))) (chH 1000000000 2000001 2000002 2000003 nV (ruG nG c xs (k + 1)) (ruP nP c xs (k + 1)) (ruR nR c xs (k + 1)) true (ruK false c xs (k + 1)) (Ch.run c (xs.take (k + 1))).1) := fun k hk => by
    have := f_doG nV (ruG nG c xs k) (ruP nP c xs k) (ruR nR c xs k) true (ruK false c xs k) (Ch.run c (xs.take k)).1 (dV xs k) (Ch.run_grow hG _).1.good (ru_nils (xs := xs) hn k (by omega))
    rw [run_take hk]
    exact this
  have hN : ∀ k, k < xs.length → (Ch.run c (xs.take (k + 1))).2 = if (Ch.step (Ch.run c (xs.take k)).1 (dV xs k)).2 = true then (Ch.run c (xs.take k)).2 + 1 else (Ch.run c (xs.take k)).2 := fun k hk => by rw [run_take hk]; rfl
  have hN0 : ∀ k, k ≤ xs.length → (Ch.run c (xs.take k)).2 ≤ 200 := fun k hk => by
    have := (Ch.run_grow hG (xs.take k)).2
    rw [List.length_take] at this; omega
  have mG : ∀ k, ruG nG c xs (k + 1) = true → ruG nG c xs k = true := fun k h => stG_mono h
  have mP : ∀ k, ruP nP c xs (k + 1) = true → ruP nP c xs k = true := fun k h => stP_mono h
  have mR : ∀ k, ruR nR c xs (k + 1) = true → ruR nR c xs k = true := fun k h => stR_mono h
  have eN : xs.take xs.length = xs := List.take_length
  have e0 : xs.take 0 = [] := rfl
  refine fn_of (l := [.cell 4 40, .tmp 5]) Try.func29 (by kernel_rfl) rfl Try.ntmps29 rfl rfl ?_; simp only [argEnv, P0.d, Nat.reduceAdd, chP, List.map_cons, List.map_nil]
  clear h1 h2 h3 h4
  refine aw_seq ?_
  repeat' (first | (with_reducible first | refine thn_normal ?_ | refine thn_ret ?_ | refine thn_exit ?_ | refine blk_normal ?_ | refine blk_ret ?_ | refine blk_hit ?_ | refine blk_miss rfl ?_ | refine aw_block ?_ | refine aw_ret ?_ | refine aw_skip ?_ | refine aw_exit ?_ | refine w_nil ?_ | refine x_nil (by kernel_rfl) ?_) | refine aw_region ?_ | refine aw_region_draw (by kernel_rfl) ?_ | refine aw_yes rfl ?_ | refine aw_no rfl ?_ | ((with_reducible refine w_seq ?_); first | refine r_q tbOk rfl rfl rfl rfl ?_ | refine r_e tbOk rfl rfl rfl rfl rfl ?_ | refine r_yes tbOk rfl rfl rfl rfl rfl rfl ?_ | refine w_no rfl rfl (lookO_spec rfl) rfl rfl rfl ?_ | refine w_un rfl rfl (lookO_spec rfl) rfl rfl ?_) | ((with_reducible refine w_drw ?_); first | refine rx_q tbOk rfl rfl rfl rfl ?_ | refine rx_e tbOk rfl rfl rfl rfl rfl ?_ | refine rx_yes tbOk rfl rfl rfl rfl rfl rfl ?_ | refine x_no rfl rfl (lookO_spec rfl) rfl rfl rfl ?_ | refine x_un rfl rfl (lookO_spec rfl) rfl rfl ?_) | ((first | refine aw_ways rfl ?_ ?_ | refine r_split rfl rfl rfl ?_ ?_) <;> intro hg_ <;> fail_if_success (exact Bool.noConfusion hg_)) <;> (try simp only [prn] at hg_) <;> (try first | contradiction | (exfalso; omega)))
  refine aw_seq ?_
  refine aw_seq ?_
  repeat' (first | (with_reducible first | refine thn_normal ?_ | refine thn_ret ?_ | refine thn_exit ?_ | refine blk_normal ?_ | refine blk_ret ?_ | refine blk_hit ?_ | refine blk_miss rfl ?_ | refine aw_block ?_ | refine aw_ret ?_ | refine aw_skip ?_ | refine aw_exit ?_ | refine w_nil ?_ | refine x_nil (by kernel_rfl) ?_) | refine aw_region ?_ | refine aw_region_draw (by kernel_rfl) ?_ | refine aw_yes rfl ?_ | refine aw_no rfl ?_ | ((with_reducible refine w_seq ?_); first | refine r_q tbOk rfl rfl rfl rfl ?_ | refine r_e tbOk rfl rfl rfl rfl rfl ?_ | refine r_yes tbOk rfl rfl rfl rfl rfl rfl ?_ | refine w_no rfl rfl (lookO_spec rfl) rfl rfl rfl ?_ | refine w_un rfl rfl (lookO_spec rfl) rfl rfl ?_) | ((with_reducible refine w_drw ?_); first | refine rx_q tbOk rfl rfl rfl rfl ?_ | refine rx_e tbOk rfl rfl rfl rfl rfl ?_ | refine rx_yes tbOk rfl rfl rfl rfl rfl rfl ?_ | refine x_no rfl rfl (lookO_spec rfl) rfl rfl rfl ?_ | refine x_un rfl rfl (lookO_spec rfl) rfl rfl ?_) | ((first | refine' w_q rfl rfl ?xa rfl ?_ | refine' v_q rfl rfl ?xa rfl ?_ | refine' w_yes rfl rfl (lookO_spec rfl) rfl ?xa rfl ?_ | refine' v_yes rfl rfl (lookO_spec rfl) rfl ?xa rfl ?_); case xa => exact k_call hok rfl ⟨asA_agg (evO_spec rfl) ⟨cAr_r, cAr_r, cAr_r, cAr_r, cAr_r, trivial⟩, trivial⟩) | ((first | refine aw_ways rfl ?_ ?_ | refine r_split rfl rfl rfl ?_ ?_) <;> intro hg_ <;> fail_if_success (exact Bool.noConfusion hg_)) <;> (try simp only [prn] at hg_) <;> (try first | contradiction | (exfalso; omega)))
  refine aw_cut (mkS 34 [(6, .one (.ptr 6 0 0 0)), (4, .one (.ptr 4 0 0 0)), (1, .one (.r false (row nS 1 (ints xs))))] (zeroV 4 :: chH 6 101 102 103 nV nG nP nR true false c)) ?_ ?_
  · clear K2 hN hN0 mG mP mR
    unfold zeroV
    cases nG <;> cases nP <;> cases nR
    all_goals
      dsimp only [chH, chD, chR, rowC, rowO] at K1
      simp only [Bool.false_eq_true, if_false, if_true, List.nil_append, List.append_nil, List.cons_append] at K1
      dsimp only [chH, rowC, rowO]; simp only [Bool.false_eq_true, if_false, if_true, List.nil_append, List.append_nil, List.cons_append, Bool.and_true, Bool.and_false, Bool.true_and, Bool.false_and, Bool.not_false, Bool.not_true]
      repeat' (first | (with_reducible first | refine aw_seq ?_ | refine thn_normal ?_ | refine thn_ret ?_ | refine thn_exit ?_ | refine blk_normal ?_ | refine blk_ret ?_ | refine blk_hit ?_ | refine blk_miss rfl ?_ | refine aw_block ?_ | refine aw_ret ?_ | refine aw_skip ?_ | refine aw_exit ?_ | refine w_nil ?_ | refine x_nil (by kernel_rfl) ?_) | refine aw_region ?_ | refine aw_region_draw (by kernel_rfl) ?_ | refine aw_yes rfl ?_ | refine aw_no rfl ?_ | ((with_reducible refine w_seq ?_); first | refine r_q tbOk rfl rfl rfl rfl ?_ | refine r_e tbOk rfl rfl rfl rfl rfl ?_ | refine r_yes tbOk rfl rfl rfl rfl rfl rfl ?_ | refine w_no rfl rfl (lookO_spec rfl) rfl rfl rfl ?_ | refine w_un rfl rfl (lookO_spec rfl) rfl rfl ?_) | ((with_reducible refine w_drw ?_); first | refine rx_q tbOk rfl rfl rfl rfl ?_ | refine rx_e tbOk rfl rfl rfl rfl rfl ?_ | refine rx_yes tbOk rfl rfl rfl rfl rfl rfl ?_ | refine x_no rfl rfl (lookO_spec rfl) rfl rfl rfl ?_ | refine x_un rfl rfl (lookO_spec rfl) rfl rfl ?_) | ((first | refine' w_e rfl ?xa ?xb ?xc ?xe ?_ | refine' v_e rfl ?xa ?xb ?xc ?xe ?_); (case xa => exact e_callS [(2000001, 101), (2000002, 102), (2000003, 103)] K1 rfl ⟨asD_ren (evO_spec rfl), trivial⟩ trivial rfl); (case xb => rfl); (case xc => rfl); (case xe => rfl); try dsimp only [P0.d, Res.d, List.map_cons, List.map_nil, List.set_cons_zero, List.set_cons_succ, Nat.reduceAdd]) | ((first | refine aw_ways rfl ?_ ?_ | refine r_split rfl rfl rfl ?_ ?_) <;> intro hg_ <;> fail_if_success (exact Bool.noConfusion hg_)) <;> (try simp only [prn] at hg_) <;> (try first | contradiction | (exfalso; omega)))
      all_goals first
        | (refine weak_ren [] rfl ?_ ?_ <;> repeat' (first | exact trivial | refine subR_cons rfl ?_ ?_ | refine subHR_cons rfl ?_ ?_ | rfl | (refine d_int ?_; (first | rfl | omega | (rw [IntWalk.i64_in _ (by omega)] <;> omega) | (simp; done) | (simp; omega))) | (refine d_bool ?_; (first | (simp_all; done) | (rw [Bool.eq_iff_iff]; simp_all; done) | (rw [Bool.eq_iff_iff]; simp_all; omega) | (rw [Bool.eq_iff_iff]; simp; omega)))))
        | trace_state
  · clear K1 hok
    refine aw_seq ?_
    repeat' (first | (with_reducible first | refine thn_normal ?_ | refine thn_ret ?_ | refine thn_exit ?_ | refine blk_normal ?_ | refine blk_ret ?_ | refine blk_hit ?_ | refine blk_miss rfl ?_ | refine aw_block ?_ | refine aw_ret ?_ | refine aw_skip ?_ | refine aw_exit ?_ | refine w_nil ?_ | refine x_nil (by kernel_rfl) ?_) | refine aw_region ?_ | refine aw_region_draw (by kernel_rfl) ?_ | refine aw_yes rfl ?_ | refine aw_no rfl ?_ | ((with_reducible refine w_seq ?_); first | refine r_q tbOk rfl rfl rfl rfl ?_ | refine r_e tbOk rfl rfl rfl rfl rfl ?_ | refine r_yes tbOk rfl rfl rfl rfl rfl rfl ?_ | refine w_no rfl rfl (lookO_spec rfl) rfl rfl rfl ?_ | refine w_un rfl rfl (lookO_spec rfl) rfl rfl ?_) | ((with_reducible refine w_drw ?_); first | refine rx_q tbOk rfl rfl rfl rfl ?_ | refine rx_e tbOk rfl rfl rfl rfl rfl ?_ | refine rx_yes tbOk rfl rfl rfl rfl rfl rfl ?_ | refine x_no rfl rfl (lookO_spec rfl) rfl rfl rfl ?_ | refine x_un rfl rfl (lookO_spec rfl) rfl rfl ?_) | ((first | refine aw_ways rfl ?_ ?_ | refine r_split rfl rfl rfl ?_ ?_) <;> intro hg_ <;> fail_if_success (exact Bool.noConfusion hg_)) <;> (try simp only [prn] at hg_) <;> (try first | contradiction | (exfalso; omega)))
    obtain ⟨T, hT⟩ : ∃ T : St, T = mkS 34 [(7, .one (.r true (int ((Ch.run c xs).2 : Int)))), (6, .one (.ptr 6 0 0 0)), (4, .one (.ptr 4 0 0 0))] (zeroV 4 :: chH 6 101 102 103 nV (ruG nG c xs xs.length) (ruP nP c xs xs.length) (ruR nR c xs xs.length) true (ruK false c xs xs.length) (Ch.run c xs).1) := ⟨_, rfl⟩
    refine aw_cut T ?_ ?_
    · refine aw_seq ?_
      repeat' (first | (with_reducible first | refine thn_normal ?_ | refine thn_ret ?_ | refine thn_exit ?_ | refine blk_normal ?_ | refine blk_ret ?_ | refine blk_hit ?_ | refine blk_miss rfl ?_ | refine aw_block ?_ | refine aw_ret ?_ | refine aw_skip ?_ | refine aw_exit ?_ | refine w_nil ?_ | refine x_nil (by kernel_rfl) ?_) | refine aw_region ?_ | refine aw_region_draw (by kernel_rfl) ?_ | refine aw_yes rfl ?_ | refine aw_no rfl ?_ | ((with_reducible refine w_seq ?_); first | refine r_q tbOk rfl rfl rfl rfl ?_ | refine r_e tbOk rfl rfl rfl rfl rfl ?_ | refine r_yes tbOk rfl rfl rfl rfl rfl rfl ?_ | refine w_no rfl rfl (lookO_spec rfl) rfl rfl rfl ?_ | refine w_un rfl rfl (lookO_spec rfl) rfl rfl ?_) | ((with_reducible refine w_drw ?_); first | refine rx_q tbOk rfl rfl rfl rfl ?_ | refine rx_e tbOk rfl rfl rfl rfl rfl ?_ | refine rx_yes tbOk rfl rfl rfl rfl rfl rfl ?_ | refine x_no rfl rfl (lookO_spec rfl) rfl rfl rfl ?_ | refine x_un rfl rfl (lookO_spec rfl) rfl rfl ?_) | ((first | refine aw_ways rfl ?_ ?_ | refine r_split rfl rfl rfl ?_ ?_) <;> intro hg_ <;> fail_if_success (exact Bool.noConfusion hg_)) <;> (try simp only [prn] at hg_) <;> (try first | contradiction | (exfalso; omega)))
      obtain ⟨F, hF⟩ : ∃ F : Nat → St, ∀ k : Nat, F k = mkS 34 [(23, .one (.r true (int k))), (22, .one (.r true (int xs.length))), (21, .one (.r false (row nS 1 (ints xs)))), (7, .one (.r true (int ((Ch.run c (xs.take k)).2 : Int)))), (6, .one (.ptr 6 0 0 0)), (4, .one (.ptr 4 0 0 0))] (zeroV 4 :: chH 6 101 102 103 nV (ruG nG c xs k) (ruP nP c xs k) (ruR nR c xs k) true (ruK false c xs k) (Ch.run c (xs.take k)).1) := ⟨_, fun _ => rfl⟩
      refine aw_loopI (fun k : Nat => k ≤ xs.length) F (fun k => xs.length - k) 0 (Nat.zero_le _) ?_ ?_
      · rw [hF 0]
        show Weak _ (mkS 34 _ (zeroV 4 :: chH 6 101 102 103 nV nG nP nR true false c))
        unfold zeroV
        clear K2 hN hN0 mG mP mR
        cases nG <;> cases nP <;> cases nR
        all_goals
          dsimp only [chH, rowC, rowO]; simp only [Bool.false_eq_true, if_false, if_true, List.nil_append, List.append_nil, List.cons_append, Bool.and_true, Bool.and_false, Bool.true_and, Bool.false_and, Bool.not_false, Bool.not_true]
          first
            | (refine weak_ren [] rfl ?_ ?_ <;> repeat' (first | exact trivial | refine subR_cons rfl ?_ ?_ | refine subHR_cons rfl ?_ ?_ | rfl | (refine d_int ?_; (first | rfl | omega | (rw [IntWalk.i64_in _ (by omega)] <;> omega) | (simp; done) | (simp; omega))) | (refine d_bool ?_; (first | (simp_all; done) | (rw [Bool.eq_iff_iff]; simp_all; done) | (rw [Bool.eq_iff_iff]; simp_all; omega) | (rw [Bool.eq_iff_iff]; simp; omega)))))
            | trace_state
      · intro k hk
        rw [hF k]
        by_cases hlt : k < xs.length
        · have K := K2 k hlt
          have n1 := hN k hlt
          have n0 := hN0 k hk
          have q1 := mG k
          have q2 := mP k
          have q3 := mR k
          have hw : IntKind.i64.wrap ((k : Int) + 1) = ((k + 1 : Nat) : Int) := by rw [IntWalk.i64_in _ (by omega)]; omega
          have hix : (ints xs)[(k : Int).toNat]? = some (iP (dV xs k)) := ints_atD (by omega) (by omega)
          clear K2 hN hN0 mG mP mR hG
          generalize dV xs k = v at *
          generalize (Ch.step (Ch.run c (xs.take k)).1 v).2 = b at *
          generalize ha' : ruG nG c xs (k + 1) = a' at *
          generalize ha : ruG nG c xs k = a at *
          generalize hp' : ruP nP c xs (k + 1) = p' at *
          generalize hp : ruP nP c xs k = p at *
          generalize hr' : ruR nR c xs (k + 1) = r' at *
          generalize hr : ruR nR c xs k = r at *
          generalize hm' : ruK false c xs (k + 1) = m' at *
          generalize hm : ruK false c xs k = m at *
          generalize hd' : Ch.run c (xs.take (k + 1)) = d' at *
          generalize hd : Ch.run c (xs.take k) = d at *
          have hw2 : IntKind.i64.wrap ((d.2 : Int) + 1) = ((d.2 + 1 : Nat) : Int) := by rw [IntWalk.i64_in _ (by omega)]; omega
          have hfin : ∀ s', Weak s' (mkS 34 [(23, .one (.r true (int ((k + 1 : Nat) : Int)))), (22, .one (.r true (int xs.length))), (21, .one (.r false (row nS 1 (ints xs)))), (7, .one (.r true (int (d'.2 : Int)))), (6, .one (.ptr 6 0 0 0)), (4, .one (.ptr 4 0 0 0))] (zeroV 4 :: chH 6 101 102 103 nV a' p' r' true m' d'.1)) → ∃ x', x' ≤ xs.length ∧ Weak s' (F x') ∧ xs.length - x' < xs.length - k := fun s' h => ⟨k + 1, hlt, by rw [hF, ha', hp', hr', hm', hd']; exact h, by omega⟩
          clear ha ha' hp hp' hr hr' hm hm' hd hd' hF hT
          unfold zeroV at *
          cases b <;> cases a <;> cases a' <;> cases p <;> cases p' <;> cases r <;> cases r'
          all_goals first
            | (exfalso; exact Bool.noConfusion (q1 rfl))
            | (exfalso; exact Bool.noConfusion (q2 rfl))
            | (exfalso; exact Bool.noConfusion (q3 rfl))
            | skip
          all_goals
            dsimp only [chH, rowC, rowO] at K
            simp only [Bool.false_eq_true, if_false, if_true, List.nil_append, List.append_nil, List.cons_append] at K n1
            dsimp only [chH, rowC, rowO]; simp only [Bool.false_eq_true, if_false, if_true, List.nil_append, List.append_nil, List.cons_append, Bool.and_true, Bool.and_false, Bool.true_and, Bool.false_and, Bool.not_false, Bool.not_true]
            repeat' (first | (with_reducible first | refine aw_seq ?_ | refine thn_normal ?_ | refine thn_ret ?_ | refine thn_exit ?_ | refine blk_normal ?_ | refine blk_ret ?_ | refine blk_hit ?_ | refine blk_miss rfl ?_ | refine aw_block ?_ | refine aw_ret ?_ | refine aw_skip ?_ | refine aw_exit ?_ | refine w_nil ?_ | refine x_nil (by kernel_rfl) ?_) | refine aw_region ?_ | refine aw_region_draw (by kernel_rfl) ?_ | refine aw_yes rfl ?_ | refine aw_no rfl ?_ | ((with_reducible refine w_seq ?_); first | refine r_q tbOk rfl rfl rfl rfl ?_ | refine r_e tbOk rfl rfl rfl rfl rfl ?_ | refine r_yes tbOk rfl rfl rfl rfl rfl rfl ?_ | refine w_no rfl rfl (lookO_spec rfl) rfl rfl rfl ?_ | refine w_un rfl rfl (lookO_spec rfl) rfl rfl ?_) | ((with_reducible refine w_drw ?_); first | refine rx_q tbOk rfl rfl rfl rfl ?_ | refine rx_e tbOk rfl rfl rfl rfl rfl ?_ | refine rx_yes tbOk rfl rfl rfl rfl rfl rfl ?_ | refine x_no rfl rfl (lookO_spec rfl) rfl rfl rfl ?_ | refine x_un rfl rfl (lookO_spec rfl) rfl rfl ?_) | ((first | refine' w_q rfl rfl ?xa rfl ?_ | refine' v_q rfl rfl ?xa rfl ?_ | refine' w_yes rfl rfl (lookO_spec rfl) rfl ?xa rfl ?_ | refine' v_yes rfl rfl (lookO_spec rfl) rfl ?xa rfl ?_); case xa => exact k_index tbOk rfl rfl rfl rfl (by omega) (by exact hix)) | ((first | refine' w_e rfl ?xa ?xb ?xc ?xe ?_ | refine' v_e rfl ?xa ?xb ?xc ?xe ?_); (case xa => exact e_callS [(1000000000, 6), (1000001, 101), (1000002, 102), (1000003, 103), (2000001, 201), (2000002, 202), (2000003, 203)] K rfl ⟨asD_ren (evO_spec rfl), by rw [evO_spec rfl]; exact asD_r rfl, trivial⟩ (by (repeat' (first | exact trivial | refine subHR_cons rfl ?_ ?_ | rfl))) rfl); (case xb => rfl); (case xc => rfl); (case xe => rfl); try dsimp only [P0.d, Res.d, List.map_cons, List.map_nil, List.set_cons_zero, List.set_cons_succ, Nat.reduceAdd]) | ((first | refine aw_ways rfl ?_ ?_ | refine r_split rfl rfl rfl ?_ ?_) <;> intro hg_ <;> fail_if_success (exact Bool.noConfusion hg_)) <;> (try simp only [prn] at hg_) <;> (try first | contradiction | (exfalso; omega)))
            all_goals first
              | (refine hfin _ ?_
                 dsimp only [chH, rowC, rowO]; simp only [Bool.false_eq_true, if_false, if_true, List.nil_append, List.append_nil, List.cons_append, Bool.and_true, Bool.and_false, Bool.true_and, Bool.false_and, Bool.not_false, Bool.not_true]
                 (refine weak_ren [(101, 201), (102, 202), (103, 203)] rfl ?_ ?_ <;> repeat' (first | exact trivial | refine subR_cons rfl ?_ ?_ | refine subHR_cons rfl ?_ ?_ | rfl | (refine d_int ?_; (first | rfl | omega | (rw [IntWalk.i64_in _ (by omega)] <;> omega) | (simp; done) | (simp; omega))) | (refine d_bool ?_; (first | (simp_all; done) | (rw [Bool.eq_iff_iff]; simp_all; done) | (rw [Bool.eq_iff_iff]; simp_all; omega) | (rw [Bool.eq_iff_iff]; simp; omega))) | exact d_int hw | exact d_int (by rw [n1]; exact hw2) | exact d_int (by rw [n1]))))
              | trace_state
        · obtain rfl : k = xs.length := by omega
          rw [eN]
          clear K2 hN hN0 mG mP mR hF
          generalize ruG nG c xs xs.length = a at *
          generalize ruP nP c xs xs.length = p at *
          generalize ruR nR c xs xs.length = r at *
          generalize ruK false c xs xs.length = m at *
          have hfin : ∀ s', Weak s' (mkS 34 [(7, .one (.r true (int ((Ch.run c xs).2 : Int)))), (6, .one (.ptr 6 0 0 0)), (4, .one (.ptr 4 0 0 0))] (zeroV 4 :: chH 6 101 102 103 nV a p r true m (Ch.run c xs).1)) → Weak s' T := fun s' h => by rw [hT]; exact h
          clear hT
          unfold zeroV at *
          cases a <;> cases p <;> cases r
          all_goals
            dsimp only [chH, rowC, rowO]; simp only [Bool.false_eq_true, if_false, if_true, List.nil_append, List.append_nil, List.cons_append, Bool.and_true, Bool.and_false, Bool.true_and, Bool.false_and, Bool.not_false, Bool.not_true]
            repeat' (first | (with_reducible first | refine aw_seq ?_ | refine thn_normal ?_ | refine thn_ret ?_ | refine thn_exit ?_ | refine blk_normal ?_ | refine blk_ret ?_ | refine blk_hit ?_ | refine blk_miss rfl ?_ | refine aw_block ?_ | refine aw_ret ?_ | refine aw_skip ?_ | refine aw_exit ?_ | refine w_nil ?_ | refine x_nil (by kernel_rfl) ?_) | refine aw_region ?_ | refine aw_region_draw (by kernel_rfl) ?_ | refine aw_yes rfl ?_ | refine aw_no rfl ?_ | ((with_reducible refine w_seq ?_); first | refine r_q tbOk rfl rfl rfl rfl ?_ | refine r_e tbOk rfl rfl rfl rfl rfl ?_ | refine r_yes tbOk rfl rfl rfl rfl rfl rfl ?_ | refine w_no rfl rfl (lookO_spec rfl) rfl rfl rfl ?_ | refine w_un rfl rfl (lookO_spec rfl) rfl rfl ?_) | ((with_reducible refine w_drw ?_); first | refine rx_q tbOk rfl rfl rfl rfl ?_ | refine rx_e tbOk rfl rfl rfl rfl rfl ?_ | refine rx_yes tbOk rfl rfl rfl rfl rfl rfl ?_ | refine x_no rfl rfl (lookO_spec rfl) rfl rfl rfl ?_ | refine x_un rfl rfl (lookO_spec rfl) rfl rfl ?_) | ((first | refine aw_ways rfl ?_ ?_ | refine r_split rfl rfl rfl ?_ ?_) <;> intro hg_ <;> fail_if_success (exact Bool.noConfusion hg_)) <;> (try simp only [prn] at hg_) <;> (try first | contradiction | (exfalso; omega)))
            all_goals first
              | (refine hfin _ ?_
                 dsimp only [chH, rowC, rowO]; simp only [Bool.false_eq_true, if_false, if_true, List.nil_append, List.append_nil, List.cons_append, Bool.and_true, Bool.and_false, Bool.true_and, Bool.false_and, Bool.not_false, Bool.not_true]
                 (refine weak_ren [] rfl ?_ ?_ <;> repeat' (first | exact trivial | refine subR_cons rfl ?_ ?_ | refine subHR_cons rfl ?_ ?_ | rfl | (refine d_int ?_; (first | rfl | omega | (rw [IntWalk.i64_in _ (by omega)] <;> omega) | (simp; done) | (simp; omega))) | (refine d_bool ?_; (first | (simp_all; done) | (rw [Bool.eq_iff_iff]; simp_all; done) | (rw [Bool.eq_iff_iff]; simp_all; omega) | (rw [Bool.eq_iff_iff]; simp; omega))))))
              | trace_state
    · rw [hT]
      clear hT
      have hb := (Ch.run_grow hG xs).2
      have hq := ru_nils hn xs.length (Nat.le_refl _)
      rw [eN] at hq
      clear K2 hN hN0 mG mP mR hn
      generalize ruG nG c xs xs.length = a at *
      generalize ruP nP c xs xs.length = p at *
      generalize ruR nR c xs xs.length = r at *
      generalize ruK false c xs xs.length = m at *
      generalize Ch.run c xs = d at *
      obtain ⟨⟨vs', kn', got', ps', rs'⟩, N⟩ := d
      have q4 := hq.g
      have q5 := hq.p
      have q6 := hq.r
      clear hq
      dsimp only at q4 q5 q6 ⊢
      have l1 := ints_len got'
      have l2 := pks_len ps'
      have l3 := ints_len rs'
      unfold zeroV
      cases a <;> cases p <;> cases r
      all_goals
        (try (have h := q4 rfl; subst h)); (try (have h := q5 rfl; subst h)); (try (have h := q6 rfl; subst h))
        dsimp only [chH, rowC, rowO]; simp only [Bool.false_eq_true, if_false, if_true, List.nil_append, List.append_nil, List.cons_append, Bool.and_true, Bool.and_false, Bool.true_and, Bool.false_and, Bool.not_false, Bool.not_true]
        repeat' (first | (with_reducible first | refine aw_seq ?_ | refine thn_normal ?_ | refine thn_ret ?_ | refine thn_exit ?_ | refine blk_normal ?_ | refine blk_ret ?_ | refine blk_hit ?_ | refine blk_miss rfl ?_ | refine aw_block ?_ | refine aw_ret ?_ | refine aw_skip ?_ | refine aw_exit ?_ | refine w_nil ?_ | refine x_nil (by kernel_rfl) ?_) | refine aw_region ?_ | refine aw_region_draw (by kernel_rfl) ?_ | refine aw_yes rfl ?_ | refine aw_no rfl ?_ | ((with_reducible refine w_seq ?_); first | refine r_q tbOk rfl rfl rfl rfl ?_ | refine r_e tbOk rfl rfl rfl rfl rfl ?_ | refine r_yes tbOk rfl rfl rfl rfl rfl rfl ?_ | refine w_no rfl rfl (lookO_spec rfl) rfl rfl rfl ?_ | refine w_un rfl rfl (lookO_spec rfl) rfl rfl ?_) | ((with_reducible refine w_drw ?_); first | refine rx_q tbOk rfl rfl rfl rfl ?_ | refine rx_e tbOk rfl rfl rfl rfl rfl ?_ | refine rx_yes tbOk rfl rfl rfl rfl rfl rfl ?_ | refine x_no rfl rfl (lookO_spec rfl) rfl rfl rfl ?_ | refine x_un rfl rfl (lookO_spec rfl) rfl rfl ?_) | ((first | refine aw_ways rfl ?_ ?_ | refine r_split rfl rfl rfl ?_ ?_) <;> intro hg_ <;> fail_if_success (exact Bool.noConfusion hg_)) <;> (try simp only [prn] at hg_) <;> (try first | contradiction | (exfalso; omega)))
        all_goals first
          | exact ret_2 (rv_cell rfl rfl (by (with_reducible first | exact ty3 | exact ty4 | exact ty5 | exact ty9 | exact ty17 | exact ty19 | exact ty22 | exact ty23 | exact ty25 | exact ty31 | exact ty38 | exact ty40 | exact ty54 | exact ty71 | exact ty75 | exact ty78 | exact ty82 | exact ty83)) rfl rfl rfl (dres_agg (by refine ⟨?_, cres_val, ?_, ?_, ?_, trivial⟩ <;> first | exact cres_new | exact cres_nil | exact cres_own0 (lookHO_spec rfl) l1.symm | exact cres_own0 (lookHO_spec rfl) l2.symm | exact cres_own0 (lookHO_spec rfl) l3.symm))) (rv_tmp rfl (dres_int rfl))
          | trace_state
end Go.Proofs.Ytjjeihcmiofkmaa.Abs
