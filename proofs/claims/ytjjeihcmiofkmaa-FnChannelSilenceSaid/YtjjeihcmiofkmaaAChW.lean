/- Channels by states: ChannelValid of the program and of the reference. No statement of the seat is proved here. -/
import Derived.Test.YtjjeihcmiofkmaaTy
import Derived.Lib.Hide
import Derived.Test.YtjjeihcmiofkmaaAChV
set_option linter.unusedSimpArgs false
set_option linter.unusedVariables false
namespace Go.Proofs.Ytjjeihcmiofkmaa.Abs
open Go.RowKit
open R (val row ref)

theorem drop_all {α : Type} {p : α → Bool} {xs : List α} {k : Nat} (h : k < xs.length) : (xs.drop k).all p = (p xs[k] && (xs.drop (k + 1)).all p) := by rw [List.drop_eq_getElem_cons h, List.all_cons]
theorem okF {c : Ch} (h : Ch.Good c → False) : false = Ch.ok c := by
  cases ho : Ch.ok c with
  | false => rfl
  | true => exact (h (Ch.ok_iff.1 ho)).elim
theorem getD_at {vs : List Int} {i : Int} : dV vs i = vs.getD i.toNat 0 := rfl
set_option maxRecDepth 100000 in
set_option maxHeartbeats 8000000 in
theorem f_implChOk (n1 n2 n3 n4 : Bool) (vs : List Int) (kn : Int) (got : List Int) (ps : List Pk) (rs : List Int) (h1 : vs.length ≤ 1048576) (h2 : got.length ≤ 1048576) (h3 : ps.length ≤ 1048576) (h4 : rs.length ≤ 1048576) :
    Fn Try.prog 23 [chP n1 n2 n3 n4 ⟨vs, kn, got, ps, rs⟩] (.v (.one (bool (Ch.ok ⟨vs, kn, got, ps, rs⟩)))) := by
  have l1 := ints_len vs
  have l2 := ints_len got
  have l3 := pks_len ps
  have l4 := ints_len rs
  have htk : row n1 1 (((ints vs).drop 0).take ((ints got).length - 0)) = row n1 1 (ints (vs.take got.length)) := by simp [ints, List.map_take]
  refine fn_of (l := [.tmp 2]) Try.func23 (by kernel_rfl) rfl Try.ntmps23 rfl rfl ?_; simp only [argEnv, P0.d, Nat.reduceAdd, chP, List.map_cons, List.map_nil]
  repeat' (first | (with_reducible first | refine aw_seq ?_ | refine thn_normal ?_ | refine thn_ret ?_ | refine thn_exit ?_ | refine blk_normal ?_ | refine blk_ret ?_ | refine blk_hit ?_ | refine blk_miss rfl ?_ | refine aw_block ?_ | refine aw_ret ?_ | refine aw_skip ?_ | refine aw_exit ?_ | refine w_nil ?_ | refine x_nil (by kernel_rfl) ?_) | refine aw_region ?_ | refine aw_region_draw (by kernel_rfl) ?_ | refine aw_yes rfl ?_ | refine aw_no rfl ?_ | ((with_reducible refine w_seq ?_); first | refine r_q tbOk rfl rfl rfl rfl ?_ | refine r_e tbOk rfl rfl rfl rfl rfl ?_ | refine r_yes tbOk rfl rfl rfl rfl rfl rfl ?_ | refine w_no rfl rfl (lookO_spec rfl) rfl rfl rfl ?_ | refine w_un rfl rfl (lookO_spec rfl) rfl rfl ?_) | ((with_reducible refine w_drw ?_); first | refine rx_q tbOk rfl rfl rfl rfl ?_ | refine rx_e tbOk rfl rfl rfl rfl rfl ?_ | refine rx_yes tbOk rfl rfl rfl rfl rfl rfl ?_ | refine x_no rfl rfl (lookO_spec rfl) rfl rfl rfl ?_ | refine x_un rfl rfl (lookO_spec rfl) rfl rfl ?_) | ((first | refine' w_q rfl rfl ?xa rfl ?_ | refine' v_q rfl rfl ?xa rfl ?_ | refine' w_yes rfl rfl (lookO_spec rfl) rfl ?xa rfl ?_ | refine' v_yes rfl rfl (lookO_spec rfl) rfl ?xa rfl ?_); case xa => first | exact k_call (f_valuesFit _ vs (by omega)) rfl ⟨asA_r (evO_spec rfl), trivial⟩ | exact k_slice (a := 0) (b := (ints got).length) tbOk rfl rfl rfl rfl ⟨_, evO_spec rfl⟩ (by omega) (by omega) | exact k_call (f_sliceEqual _ _ got (vs.take got.length) (by omega) (by rw [List.length_take]; omega)) rfl ⟨asA_r (evO_spec rfl), asA_eq (evO_spec rfl) htk, trivial⟩) | ((first | refine aw_ways rfl ?_ ?_ | refine r_split rfl rfl rfl ?_ ?_) <;> intro hg_ <;> fail_if_success (exact Bool.noConfusion hg_)) <;> (try simp only [prn] at hg_) <;> (try first | contradiction | (exfalso; omega)))
  all_goals try first
    | exact ret_tmp rfl (dres_bool (okF fun h => by have q1 := h.len; have q2 := h.kn0; have q3 := h.kn1; have q4 := h.psl; have q5 := h.rsl; dsimp only at q1 q2 q3 q4 q5; omega))
    | exact ret_tmp rfl (dres_bool (okF fun h => by have q1 := h.fits; dsimp only at q1; rw [hg_] at q1; cases q1))
    | exact ret_tmp rfl (dres_bool (okF fun h => hg_ h.pre))
  rename_i g1 g2 g3 g4 g5 g6
  have g7 := hg_
  clear hg_
  have hno : ∀ p ∈ ps, Ch.pkOk vs p = false → false = Ch.ok ⟨vs, kn, got, ps, rs⟩ := fun p hp h => okF fun hG => by
    have := List.all_eq_true.1 hG.ps p hp
    rw [h] at this; cases this
  have hno2 : ∀ r ∈ rs, Ch.rcOk got.length r = false → false = Ch.ok ⟨vs, kn, got, ps, rs⟩ := fun r hr h => okF fun hG => by
    have := List.all_eq_true.1 hG.rs r hr
    rw [h] at this; cases this
  have hyes : ps.all (Ch.pkOk vs) = true → rs.all (Ch.rcOk got.length) = true → true = Ch.ok ⟨vs, kn, got, ps, rs⟩ := fun a b => (Ch.ok_iff.2 ⟨g1, by dsimp only; omega, g3, by dsimp only; omega, by dsimp only; omega, by dsimp only; omega, by dsimp only; omega, a, b⟩).symm
  clear g1 g2 g3 g4 g5
  refine aw_loopI (fun k : Nat => k ≤ ps.length ∧ ps.all (Ch.pkOk vs) = (ps.drop k).all (Ch.pkOk vs)) (fun k => mkS 100 [(56, .one (.r true (int k))), (55, .one (.r true (int ps.length))), (54, .one (.r false (row n3 2 (pks ps)))), (1, .one (.ptr 1 0 0 0))] [(1, .var 40 [.r false (row n1 1 (ints vs)), .r false (int kn), .r false (row n2 1 (ints got)), .r false (row n3 2 (pks ps)), .r false (row n4 1 (ints rs))])]) (fun k => ps.length - k) 0 ⟨Nat.zero_le _, by simp⟩ (by (refine weak_ren [] rfl ?_ ?_ <;> repeat' (first | exact trivial | refine subR_cons rfl ?_ ?_ | refine subHR_cons rfl ?_ ?_ | rfl | (refine d_int ?_; (first | rfl | omega | (rw [IntWalk.i64_in _ (by omega)] <;> omega) | (simp; done) | (simp; omega))) | (refine d_bool ?_; (first | (simp_all; done) | (rw [Bool.eq_iff_iff]; simp_all; done) | (rw [Bool.eq_iff_iff]; simp_all; omega) | (rw [Bool.eq_iff_iff]; simp; omega)))))) ?_
  rintro k ⟨hk, HP⟩
  by_cases hlt : k < ps.length
  · have hix := pks_at hlt
    have hm : ps[k] ∈ ps := List.getElem_mem hlt
    rw [drop_all hlt] at HP
    generalize ps[k] = p at *
    obtain ⟨pn, pv⟩ := p
    repeat' (first | (with_reducible first | refine aw_seq ?_ | refine thn_normal ?_ | refine thn_ret ?_ | refine thn_exit ?_ | refine blk_normal ?_ | refine blk_ret ?_ | refine blk_hit ?_ | refine blk_miss rfl ?_ | refine aw_block ?_ | refine aw_ret ?_ | refine aw_skip ?_ | refine aw_exit ?_ | refine w_nil ?_ | refine x_nil (by kernel_rfl) ?_) | refine aw_region ?_ | refine aw_region_draw (by kernel_rfl) ?_ | refine aw_yes rfl ?_ | refine aw_no rfl ?_ | ((with_reducible refine w_seq ?_); first | refine r_q tbOk rfl rfl rfl rfl ?_ | refine r_e tbOk rfl rfl rfl rfl rfl ?_ | refine r_yes tbOk rfl rfl rfl rfl rfl rfl ?_ | refine w_no rfl rfl (lookO_spec rfl) rfl rfl rfl ?_ | refine w_un rfl rfl (lookO_spec rfl) rfl rfl ?_) | ((with_reducible refine w_drw ?_); first | refine rx_q tbOk rfl rfl rfl rfl ?_ | refine rx_e tbOk rfl rfl rfl rfl rfl ?_ | refine rx_yes tbOk rfl rfl rfl rfl rfl rfl ?_ | refine x_no rfl rfl (lookO_spec rfl) rfl rfl rfl ?_ | refine x_un rfl rfl (lookO_spec rfl) rfl rfl ?_) | ((first | refine' w_q rfl rfl ?xa rfl ?_ | refine' v_q rfl rfl ?xa rfl ?_ | refine' w_yes rfl rfl (lookO_spec rfl) rfl ?xa rfl ?_ | refine' v_yes rfl rfl (lookO_spec rfl) rfl ?xa rfl ?_); case xa => exact k_index tbOk rfl rfl rfl rfl (by omega) (by first | exact hix | exact ints_atD (by omega) (by omega))) | ((first | refine aw_ways rfl ?_ ?_ | refine r_split rfl rfl rfl ?_ ?_) <;> intro hg_ <;> fail_if_success (exact Bool.noConfusion hg_)) <;> (try simp only [prn] at hg_) <;> (try first | contradiction | (exfalso; omega)))
    all_goals first
      | exact ret_tmp rfl (dres_bool (hno _ hm (by unfold Ch.pkOk; dsimp only; rw [decide_eq_false (show ¬ (0 ≤ pn ∧ pn < vs.length) by omega)]; rfl)))
      | exact ret_tmp rfl (dres_bool (hno _ hm (by unfold Ch.pkOk; dsimp only; rw [decide_eq_false (show ¬ pv = vs.getD pn.toNat 0 from hg_)]; simp)))
      | exact ⟨k + 1, ⟨by omega, by rw [HP]; unfold Ch.pkOk; dsimp only; rw [decide_eq_true (show 0 ≤ pn ∧ pn < vs.length by omega), decide_eq_true (show pv = vs.getD pn.toNat 0 from hg_)]; simp⟩, by (refine weak_ren [] rfl ?_ ?_ <;> repeat' (first | exact trivial | refine subR_cons rfl ?_ ?_ | refine subHR_cons rfl ?_ ?_ | rfl | (refine d_int ?_; (first | rfl | omega | (rw [IntWalk.i64_in _ (by omega)] <;> omega) | (simp; done) | (simp; omega))) | (refine d_bool ?_; (first | (simp_all; done) | (rw [Bool.eq_iff_iff]; simp_all; done) | (rw [Bool.eq_iff_iff]; simp_all; omega) | (rw [Bool.eq_iff_iff]; simp; omega))))), by omega⟩
      | trace_state
  · have HA : ps.all (Ch.pkOk vs) = true := by rw [HP, List.drop_of_length_le (by omega)]; rfl
    repeat' (first | (with_reducible first | refine aw_seq ?_ | refine thn_normal ?_ | refine thn_ret ?_ | refine thn_exit ?_ | refine blk_normal ?_ | refine blk_ret ?_ | refine blk_hit ?_ | refine blk_miss rfl ?_ | refine aw_block ?_ | refine aw_ret ?_ | refine aw_skip ?_ | refine aw_exit ?_ | refine w_nil ?_ | refine x_nil (by kernel_rfl) ?_) | refine aw_region ?_ | refine aw_region_draw (by kernel_rfl) ?_ | refine aw_yes rfl ?_ | refine aw_no rfl ?_ | ((with_reducible refine w_seq ?_); first | refine r_q tbOk rfl rfl rfl rfl ?_ | refine r_e tbOk rfl rfl rfl rfl rfl ?_ | refine r_yes tbOk rfl rfl rfl rfl rfl rfl ?_ | refine w_no rfl rfl (lookO_spec rfl) rfl rfl rfl ?_ | refine w_un rfl rfl (lookO_spec rfl) rfl rfl ?_) | ((with_reducible refine w_drw ?_); first | refine rx_q tbOk rfl rfl rfl rfl ?_ | refine rx_e tbOk rfl rfl rfl rfl rfl ?_ | refine rx_yes tbOk rfl rfl rfl rfl rfl rfl ?_ | refine x_no rfl rfl (lookO_spec rfl) rfl rfl rfl ?_ | refine x_un rfl rfl (lookO_spec rfl) rfl rfl ?_) | ((first | refine aw_ways rfl ?_ ?_ | refine r_split rfl rfl rfl ?_ ?_) <;> intro hg_ <;> fail_if_success (exact Bool.noConfusion hg_)) <;> (try simp only [prn] at hg_) <;> (try first | contradiction | (exfalso; omega)))
    clear hg_ HP hlt hk
    refine aw_loopI (fun k : Nat => k ≤ rs.length ∧ rs.all (Ch.rcOk got.length) = (rs.drop k).all (Ch.rcOk got.length)) (fun k => mkS 100 [(86, .one (.r true (int k))), (85, .one (.r true (int rs.length))), (84, .one (.r false (row n4 1 (ints rs)))), (1, .one (.ptr 1 0 0 0))] [(1, .var 40 [.r false (row n1 1 (ints vs)), .r false (int kn), .r false (row n2 1 (ints got)), .r false (row n3 2 (pks ps)), .r false (row n4 1 (ints rs))])]) (fun k => rs.length - k) 0 ⟨Nat.zero_le _, by simp⟩ (by (refine weak_ren [] rfl ?_ ?_ <;> repeat' (first | exact trivial | refine subR_cons rfl ?_ ?_ | refine subHR_cons rfl ?_ ?_ | rfl | (refine d_int ?_; (first | rfl | omega | (rw [IntWalk.i64_in _ (by omega)] <;> omega) | (simp; done) | (simp; omega))) | (refine d_bool ?_; (first | (simp_all; done) | (rw [Bool.eq_iff_iff]; simp_all; done) | (rw [Bool.eq_iff_iff]; simp_all; omega) | (rw [Bool.eq_iff_iff]; simp; omega)))))) ?_
    rintro k ⟨hk, HP⟩
    by_cases hlt : k < rs.length
    · have hix := ints_at hlt
      have hm : rs[k] ∈ rs := List.getElem_mem hlt
      rw [drop_all hlt] at HP
      generalize rs[k] = r at *
      repeat' (first | (with_reducible first | refine aw_seq ?_ | refine thn_normal ?_ | refine thn_ret ?_ | refine thn_exit ?_ | refine blk_normal ?_ | refine blk_ret ?_ | refine blk_hit ?_ | refine blk_miss rfl ?_ | refine aw_block ?_ | refine aw_ret ?_ | refine aw_skip ?_ | refine aw_exit ?_ | refine w_nil ?_ | refine x_nil (by kernel_rfl) ?_) | refine aw_region ?_ | refine aw_region_draw (by kernel_rfl) ?_ | refine aw_yes rfl ?_ | refine aw_no rfl ?_ | ((with_reducible refine w_seq ?_); first | refine r_q tbOk rfl rfl rfl rfl ?_ | refine r_e tbOk rfl rfl rfl rfl rfl ?_ | refine r_yes tbOk rfl rfl rfl rfl rfl rfl ?_ | refine w_no rfl rfl (lookO_spec rfl) rfl rfl rfl ?_ | refine w_un rfl rfl (lookO_spec rfl) rfl rfl ?_) | ((with_reducible refine w_drw ?_); first | refine rx_q tbOk rfl rfl rfl rfl ?_ | refine rx_e tbOk rfl rfl rfl rfl rfl ?_ | refine rx_yes tbOk rfl rfl rfl rfl rfl rfl ?_ | refine x_no rfl rfl (lookO_spec rfl) rfl rfl rfl ?_ | refine x_un rfl rfl (lookO_spec rfl) rfl rfl ?_) | ((first | refine' w_q rfl rfl ?xa rfl ?_ | refine' v_q rfl rfl ?xa rfl ?_ | refine' w_yes rfl rfl (lookO_spec rfl) rfl ?xa rfl ?_ | refine' v_yes rfl rfl (lookO_spec rfl) rfl ?xa rfl ?_); case xa => exact k_index tbOk rfl rfl rfl rfl (by omega) (by exact hix)) | ((first | refine aw_ways rfl ?_ ?_ | refine r_split rfl rfl rfl ?_ ?_) <;> intro hg_ <;> fail_if_success (exact Bool.noConfusion hg_)) <;> (try simp only [prn] at hg_) <;> (try first | contradiction | (exfalso; omega)))
      all_goals first
        | exact ret_tmp rfl (dres_bool (hno2 _ hm (by unfold Ch.rcOk; rw [decide_eq_false (by omega)])))
        | exact ⟨k + 1, ⟨by omega, by rw [HP]; unfold Ch.rcOk; rw [decide_eq_true (by omega), Bool.true_and]⟩, by (refine weak_ren [] rfl ?_ ?_ <;> repeat' (first | exact trivial | refine subR_cons rfl ?_ ?_ | refine subHR_cons rfl ?_ ?_ | rfl | (refine d_int ?_; (first | rfl | omega | (rw [IntWalk.i64_in _ (by omega)] <;> omega) | (simp; done) | (simp; omega))) | (refine d_bool ?_; (first | (simp_all; done) | (rw [Bool.eq_iff_iff]; simp_all; done) | (rw [Bool.eq_iff_iff]; simp_all; omega) | (rw [Bool.eq_iff_iff]; simp; omega))))), by omega⟩
        | trace_state
    · repeat' (first | (with_reducible first | refine aw_seq ?_ | refine thn_normal ?_ | refine thn_ret ?_ | refine thn_exit ?_ | refine blk_normal ?_ | refine blk_ret ?_ | refine blk_hit ?_ | refine blk_miss rfl ?_ | refine aw_block ?_ | refine aw_ret ?_ | refine aw_skip ?_ | refine aw_exit ?_ | refine w_nil ?_ | refine x_nil (by kernel_rfl) ?_) | refine aw_region ?_ | refine aw_region_draw (by kernel_rfl) ?_ | refine aw_yes rfl ?_ | refine aw_no rfl ?_ | ((with_reducible refine w_seq ?_); first | refine r_q tbOk rfl rfl rfl rfl ?_ | refine r_e tbOk rfl rfl rfl rfl rfl ?_ | refine r_yes tbOk rfl rfl rfl rfl rfl rfl ?_ | refine w_no rfl rfl (lookO_spec rfl) rfl rfl rfl ?_ | refine w_un rfl rfl (lookO_spec rfl) rfl rfl ?_) | ((with_reducible refine w_drw ?_); first | refine rx_q tbOk rfl rfl rfl rfl ?_ | refine rx_e tbOk rfl rfl rfl rfl rfl ?_ | refine rx_yes tbOk rfl rfl rfl rfl rfl rfl ?_ | refine x_no rfl rfl (lookO_spec rfl) rfl rfl rfl ?_ | refine x_un rfl rfl (lookO_spec rfl) rfl rfl ?_) | ((first | refine aw_ways rfl ?_ ?_ | refine r_split rfl rfl rfl ?_ ?_) <;> intro hg_ <;> fail_if_success (exact Bool.noConfusion hg_)) <;> (try simp only [prn] at hg_) <;> (try first | contradiction | (exfalso; omega)))
      all_goals exact ret_tmp rfl (dres_bool (hyes HA (by rw [HP, List.drop_of_length_le (by omega)]; rfl)))
end Go.Proofs.Ytjjeihcmiofkmaa.Abs
