/- Reading frames and graphs by states: the reference's ReadFrame, ScanFrames, ReadGraph. No statement of the seat is proved here. -/
import Derived.Lib.Hide
import Derived.Test.YtmkecjamfippfaaRxTy
import Derived.Test.YtmkecjamfippfaaRxASpCD
import Derived.Test.YtmkecjamfippfaaRxAImE
set_option linter.unusedSimpArgs false
set_option linter.unusedVariables false
namespace Go.Proofs.Ytmkecjamfippfaa.Abs
open Go.RowKit
open R (val row ref)
theorem optI_w {l : List (Nat × D)} {x : Operand} {m : Bool} {z : Int} {a d : Nat} (h : evO l x = some (.one (.r m (int z)))) (hz : z = (a : Int)) : optI (evD (look l)) (some x) a d := ⟨m, by rw [evO_spec h, hz]⟩
theorem cres_own0F {H : Nat → Option Ob} {k n sz : Nat} {E : TypeId} {els els' : List P0} (hk : H k = some (.sl E sz true els)) (hn : n = els.length) (he : els = els') : CRes H (.own k 0 n sz) (row false sz els') := he ▸ cres_own0 hk hn
theorem ints_sub (xs : List Int) (a m : Nat) : ((ints xs).drop a).take m = ints ((xs.drop a).take m) := by unfold ints; rw [List.map_take, List.map_drop]
def frRes (xs : List Int) (i : Nat) : Res := match frHd (xs.drop i) with
  | some bd => .tup [.one (row false 1 (ints bd)), iP ((i + bd.length + 2 : Nat) : Int), .one (bool true)]
  | none => .tup [.one (row false 1 []), iP 0, .one (bool false)]
set_option maxRecDepth 100000 in
set_option maxHeartbeats 4000000 in
theorem f_specReadFrame (nil : Bool) (xs : List Int) (i : Nat) (hx : bytesOk xs = true) (hi : i ≤ xs.length) : Fn Try.prog 121 [.one (row nil 1 (ints xs)), iP i] (frRes xs i) := by
  have hl := bytesOk_len hx
  have hlen := ints_len xs
  have K1 := f_specBytesOk nil xs
  rw [hx] at K1
  have K2 := f_l1In (i : Int) 0 (IntKind.i64.wrap (((ints xs).length : Int) - 1))
  by_cases h0 : i < xs.length
  · have hin2 : inR 0 (IntKind.i64.wrap (((ints xs).length : Int) - 1)) (i : Int) = true := by
      rw [hlen, IntWalk.i64_in _ (by omega)]; unfold inR; simp; omega
    rw [hin2] at K2
    have hdr := List.drop_eq_getElem_cons h0
    have hb := bytesOk_get hx i h0
    have hix := ints_at h0
    have hFV : frRes xs i = match frHd (xs[i] :: xs.drop (i + 1)) with
      | some bd => .tup [.one (row false 1 (ints bd)), iP ((i + bd.length + 2 : Nat) : Int), .one (bool true)]
      | none => .tup [.one (row false 1 []), iP 0, .one (bool false)] := by unfold frRes; rw [hdr]
    rw [hFV]
    clear hFV hdr
    generalize xs[i] = z at *
    obtain ⟨N, rfl⟩ := Int.eq_ofNat_of_zero_le hb.1
    have hrl : (xs.drop (i + 1)).length = xs.length - (i + 1) := List.length_drop ..
    have K3 := f_l1In (N : Int) 1 100
    have hw1 : IntKind.i64.wrap ((i : Int) + 1) = ((i + 1 : Nat) : Int) := by rw [IntWalk.i64_in _ (by omega)]; omega
    have hw2 : IntKind.i64.wrap (((i + 1 : Nat) : Int) + (N : Int)) = ((i + 1 + N : Nat) : Int) := by rw [IntWalk.i64_in _ (by omega)]; omega
    have hw3 : IntKind.i64.wrap (((i + 1 + N : Nat) : Int) + 1) = ((i + N + 2 : Nat) : Int) := by rw [IntWalk.i64_in _ (by omega)]; omega
    by_cases h1 : 1 ≤ N ∧ N ≤ 100
    · have hin3 : inR 1 100 (N : Int) = true := by unfold inR; simp; omega
      rw [hin3] at K3
      by_cases h2 : N < xs.length - (i + 1)
      · have hlenS : ((xs.drop (i + 1)).take N).length = N := by rw [List.length_take, hrl]; omega
        have K4 := f_specSum nil ((xs.drop (i + 1)).take N)
        have hg : (xs.drop (i + 1)).getD N 0 = xs.getD (i + 1 + N) 0 := by rw [List.getD_eq_getElem?_getD, List.getD_eq_getElem?_getD, List.getElem?_drop]
        have hix2 : (ints xs)[(((i + 1 + N : Nat) : Int)).toNat]? = some (iP (xs.getD (i + 1 + N) 0)) := ints_atI (by omega) (by omega)
        have hF2 : frHd ((N : Int) :: xs.drop (i + 1)) = if xs.getD (i + 1 + N) 0 = sumOf ((xs.drop (i + 1)).take N) then some ((xs.drop (i + 1)).take N) else none := by
          simp only [frHd, Int.toNat_natCast, hg, hrl]
          by_cases hq : xs.getD (i + 1 + N) 0 = sumOf ((xs.drop (i + 1)).take N)
          · rw [if_pos hq, if_pos ⟨by omega, by omega, by omega, hq⟩]
          · rw [if_neg hq, if_neg (fun h => hq h.2.2.2)]
        rw [hF2]
        have hsub : ((ints xs).drop (i + 1)).take (i + 1 + N - (i + 1)) = ints ((xs.drop (i + 1)).take N) := by rw [ints_sub, Nat.add_sub_cancel_left]
        have hSl : (ints ((xs.drop (i + 1)).take N)).length = N := by rw [ints_len, hlenS]
        clear hF2 hg hrl hin2 hin3
        generalize (xs.drop (i + 1)).take N = bd at *
        generalize xs.getD (i + 1 + N) 0 = y at *
        generalize sumOf bd = s at *
        rw [← hsub] at K4
        by_cases hq : y = s
        · rw [if_pos hq]
          subst hq
          dsimp only
          refine fn_of (l := [.tmp 4, .tmp 5, .tmp 6]) Try.func121 (by kernel_rfl) rfl Try.ntmps121 rfl rfl ?_; simp only [argEnv, P0.d, Nat.reduceAdd]
          repeat' (first|(with_reducible first|refine aw_seq ?_|refine thn_normal ?_|refine thn_ret ?_|refine thn_exit ?_|refine blk_normal ?_|refine blk_ret ?_|refine blk_hit ?_|refine blk_miss rfl ?_|refine aw_block ?_|refine aw_ret ?_|refine aw_skip ?_|refine aw_exit ?_|refine w_nil ?_|refine x_nil (by kernel_rfl) ?_)|refine aw_region ?_|refine aw_region_draw (by kernel_rfl) ?_|refine aw_yes rfl ?_|refine aw_no rfl ?_|((with_reducible refine w_seq ?_);first|refine r_q tbOk rfl rfl rfl rfl ?_|refine r_e tbOk rfl rfl rfl rfl rfl ?_|refine r_yes tbOk rfl rfl rfl rfl rfl rfl ?_|refine w_no rfl rfl (lookO_spec rfl) rfl rfl rfl ?_|refine w_un rfl rfl (lookO_spec rfl) rfl rfl ?_)|((with_reducible refine w_drw ?_);first|refine rx_q tbOk rfl rfl rfl rfl ?_|refine rx_e tbOk rfl rfl rfl rfl rfl ?_|refine rx_yes tbOk rfl rfl rfl rfl rfl rfl ?_|refine x_no rfl rfl (lookO_spec rfl) rfl rfl rfl ?_|refine x_un rfl rfl (lookO_spec rfl) rfl rfl ?_)|((first|refine' w_q rfl rfl ?xa rfl ?_|refine' v_q rfl rfl ?xa rfl ?_|refine' w_yes rfl rfl (lookO_spec rfl) rfl ?xa rfl ?_|refine' v_yes rfl rfl (lookO_spec rfl) rfl ?xa rfl ?_);case xa => first|exact k_call K1 rfl ⟨asA_r (evO_spec rfl), trivial⟩|exact k_call K2 rfl ⟨asA_r (evO_spec rfl), asA_r (evO_spec rfl), asA_r (evO_spec rfl), trivial⟩|exact k_call K3 rfl ⟨asA_r (evO_spec rfl), asA_r (evO_spec rfl), asA_r (evO_spec rfl), trivial⟩|exact k_index tbOk rfl rfl rfl rfl (by omega) (by exact hix)|exact k_index tbOk rfl rfl rfl rfl (by rw [hw1, hw2];omega) (by rw [hw1, hw2];exact hix2)|exact k_slice (a := i + 1) (b := i + 1 + N) tbOk rfl rfl rfl (optI_w rfl hw1) (optI_w rfl (by rw [hw1, hw2])) (by omega) (by omega)|exact k_call K4 rfl ⟨asA_r (evO_spec rfl), trivial⟩)|((first|refine' w_e rfl ?xa ?xb ?xc ?xe ?_|refine' v_e rfl ?xa ?xb ?xc ?xe ?_);(case xa => first|exact e_build [] tlOk rfl rfl rfl rfl rfl rfl (by simp [AllN]) (by simp)|exact e_append tlOk rfl rfl rfl rfl rfl rfl (slD_plain slD_row (by rw [hsub];exact ints_plain _)) rfl (by rw [hsub, List.length_nil, hSl];simp only [maxLen];omega) (by rw [hsub, List.length_nil, hSl];omega));(case xb => rfl);(case xc => rfl);(case xe => rfl);try dsimp only [P0.d, Res.d, List.map_cons, List.map_nil, List.set_cons_zero, List.set_cons_succ, Nat.reduceAdd])|((first|refine aw_ways rfl ?_ ?_|refine r_split rfl rfl rfl ?_ ?_) <;> intro hg_ <;> fail_if_success (exact Bool.noConfusion hg_)) <;> (try simp only [prn] at hg_) <;> (try first|contradiction|(exfalso;omega)))
          all_goals first
            | (exfalso; rw [hw1, hw2] at *; omega)
            | (exfalso; omega)
            | exact ret_3 (rv_tmp rfl (dres_one (cres_own0F (lookHO_spec rfl) (by simp only [List.length_append]) (by rw [List.nil_append, hsub])))) (rv_tmp rfl (dres_int (by rw [hw1, hw2, hw3, hlenS]))) (rv_tmp rfl (dres_bool rfl))
            | trace_state
        · rw [if_neg hq]
          dsimp only
          refine fn_of (l := [.tmp 4, .tmp 5, .tmp 6]) Try.func121 (by kernel_rfl) rfl Try.ntmps121 rfl rfl ?_; simp only [argEnv, P0.d, Nat.reduceAdd]
          repeat' (first|(with_reducible first|refine aw_seq ?_|refine thn_normal ?_|refine thn_ret ?_|refine thn_exit ?_|refine blk_normal ?_|refine blk_ret ?_|refine blk_hit ?_|refine blk_miss rfl ?_|refine aw_block ?_|refine aw_ret ?_|refine aw_skip ?_|refine aw_exit ?_|refine w_nil ?_|refine x_nil (by kernel_rfl) ?_)|refine aw_region ?_|refine aw_region_draw (by kernel_rfl) ?_|refine aw_yes rfl ?_|refine aw_no rfl ?_|((with_reducible refine w_seq ?_);first|refine r_q tbOk rfl rfl rfl rfl ?_|refine r_e tbOk rfl rfl rfl rfl rfl ?_|refine r_yes tbOk rfl rfl rfl rfl rfl rfl ?_|refine w_no rfl rfl (lookO_spec rfl) rfl rfl rfl ?_|refine w_un rfl rfl (lookO_spec rfl) rfl rfl ?_)|((with_reducible refine w_drw ?_);first|refine rx_q tbOk rfl rfl rfl rfl ?_|refine rx_e tbOk rfl rfl rfl rfl rfl ?_|refine rx_yes tbOk rfl rfl rfl rfl rfl rfl ?_|refine x_no rfl rfl (lookO_spec rfl) rfl rfl rfl ?_|refine x_un rfl rfl (lookO_spec rfl) rfl rfl ?_)|((first|refine' w_q rfl rfl ?xa rfl ?_|refine' v_q rfl rfl ?xa rfl ?_|refine' w_yes rfl rfl (lookO_spec rfl) rfl ?xa rfl ?_|refine' v_yes rfl rfl (lookO_spec rfl) rfl ?xa rfl ?_);case xa => first|exact k_call K1 rfl ⟨asA_r (evO_spec rfl), trivial⟩|exact k_call K2 rfl ⟨asA_r (evO_spec rfl), asA_r (evO_spec rfl), asA_r (evO_spec rfl), trivial⟩|exact k_call K3 rfl ⟨asA_r (evO_spec rfl), asA_r (evO_spec rfl), asA_r (evO_spec rfl), trivial⟩|exact k_index tbOk rfl rfl rfl rfl (by omega) (by exact hix)|exact k_index tbOk rfl rfl rfl rfl (by rw [hw1, hw2];omega) (by rw [hw1, hw2];exact hix2)|exact k_slice (a := i + 1) (b := i + 1 + N) tbOk rfl rfl rfl (optI_w rfl hw1) (optI_w rfl (by rw [hw1, hw2])) (by omega) (by omega)|exact k_call K4 rfl ⟨asA_r (evO_spec rfl), trivial⟩)|((first|refine' w_e rfl ?xa ?xb ?xc ?xe ?_|refine' v_e rfl ?xa ?xb ?xc ?xe ?_);(case xa => exact e_build [] tlOk rfl rfl rfl rfl rfl rfl (by simp [AllN]) (by simp));(case xb => rfl);(case xc => rfl);(case xe => rfl);try dsimp only [P0.d, Res.d, List.map_cons, List.map_nil, List.set_cons_zero, List.set_cons_succ, Nat.reduceAdd])|((first|refine aw_ways rfl ?_ ?_|refine r_split rfl rfl rfl ?_ ?_) <;> intro hg_ <;> fail_if_success (exact Bool.noConfusion hg_)) <;> (try simp only [prn] at hg_) <;> (try first|contradiction|(exfalso;omega)))
          all_goals first
            | (exfalso; rw [hw1, hw2] at *; omega)
            | (exfalso; omega)
            | exact ret_3 (rv_tmp rfl (dres_one (cres_own0 (lookHO_spec rfl) rfl))) (rv_tmp rfl (dres_int rfl)) (rv_tmp rfl (dres_bool rfl))
            | trace_state
      · have hF2 : frHd ((N : Int) :: xs.drop (i + 1)) = none := by
          simp only [frHd]; rw [if_neg (fun h => by have := h.2.2.1; rw [hrl] at this; omega)]
        rw [hF2]
        dsimp only
        refine fn_of (l := [.tmp 4, .tmp 5, .tmp 6]) Try.func121 (by kernel_rfl) rfl Try.ntmps121 rfl rfl ?_; simp only [argEnv, P0.d, Nat.reduceAdd]
        repeat' (first|(with_reducible first|refine aw_seq ?_|refine thn_normal ?_|refine thn_ret ?_|refine thn_exit ?_|refine blk_normal ?_|refine blk_ret ?_|refine blk_hit ?_|refine blk_miss rfl ?_|refine aw_block ?_|refine aw_ret ?_|refine aw_skip ?_|refine aw_exit ?_|refine w_nil ?_|refine x_nil (by kernel_rfl) ?_)|refine aw_region ?_|refine aw_region_draw (by kernel_rfl) ?_|refine aw_yes rfl ?_|refine aw_no rfl ?_|((with_reducible refine w_seq ?_);first|refine r_q tbOk rfl rfl rfl rfl ?_|refine r_e tbOk rfl rfl rfl rfl rfl ?_|refine r_yes tbOk rfl rfl rfl rfl rfl rfl ?_|refine w_no rfl rfl (lookO_spec rfl) rfl rfl rfl ?_|refine w_un rfl rfl (lookO_spec rfl) rfl rfl ?_)|((with_reducible refine w_drw ?_);first|refine rx_q tbOk rfl rfl rfl rfl ?_|refine rx_e tbOk rfl rfl rfl rfl rfl ?_|refine rx_yes tbOk rfl rfl rfl rfl rfl rfl ?_|refine x_no rfl rfl (lookO_spec rfl) rfl rfl rfl ?_|refine x_un rfl rfl (lookO_spec rfl) rfl rfl ?_)|((first|refine' w_q rfl rfl ?xa rfl ?_|refine' v_q rfl rfl ?xa rfl ?_|refine' w_yes rfl rfl (lookO_spec rfl) rfl ?xa rfl ?_|refine' v_yes rfl rfl (lookO_spec rfl) rfl ?xa rfl ?_);case xa => first|exact k_call K1 rfl ⟨asA_r (evO_spec rfl), trivial⟩|exact k_call K2 rfl ⟨asA_r (evO_spec rfl), asA_r (evO_spec rfl), asA_r (evO_spec rfl), trivial⟩|exact k_call K3 rfl ⟨asA_r (evO_spec rfl), asA_r (evO_spec rfl), asA_r (evO_spec rfl), trivial⟩|exact k_index tbOk rfl rfl rfl rfl (by omega) (by exact hix))|((first|refine' w_e rfl ?xa ?xb ?xc ?xe ?_|refine' v_e rfl ?xa ?xb ?xc ?xe ?_);(case xa => exact e_build [] tlOk rfl rfl rfl rfl rfl rfl (by simp [AllN]) (by simp));(case xb => rfl);(case xc => rfl);(case xe => rfl);try dsimp only [P0.d, Res.d, List.map_cons, List.map_nil, List.set_cons_zero, List.set_cons_succ, Nat.reduceAdd])|((first|refine aw_ways rfl ?_ ?_|refine r_split rfl rfl rfl ?_ ?_) <;> intro hg_ <;> fail_if_success (exact Bool.noConfusion hg_)) <;> (try simp only [prn] at hg_) <;> (try first|contradiction|(exfalso;omega)))
        all_goals first
          | (exfalso; rw [hw1, hw2] at *; omega)
          | (exfalso; omega)
          | exact ret_3 (rv_tmp rfl (dres_one (cres_own0 (lookHO_spec rfl) rfl))) (rv_tmp rfl (dres_int rfl)) (rv_tmp rfl (dres_bool rfl))
          | trace_state
    · have hF2 : frHd ((N : Int) :: xs.drop (i + 1)) = none := by
        simp only [frHd]; rw [if_neg (fun h => h1 ⟨by omega, by omega⟩)]
      have hin3 : inR 1 100 (N : Int) = false := by unfold inR; simp; omega
      rw [hF2]
      rw [hin3] at K3
      dsimp only
      refine fn_of (l := [.tmp 4, .tmp 5, .tmp 6]) Try.func121 (by kernel_rfl) rfl Try.ntmps121 rfl rfl ?_; simp only [argEnv, P0.d, Nat.reduceAdd]
      repeat' (first|(with_reducible first|refine aw_seq ?_|refine thn_normal ?_|refine thn_ret ?_|refine thn_exit ?_|refine blk_normal ?_|refine blk_ret ?_|refine blk_hit ?_|refine blk_miss rfl ?_|refine aw_block ?_|refine aw_ret ?_|refine aw_skip ?_|refine aw_exit ?_|refine w_nil ?_|refine x_nil (by kernel_rfl) ?_)|refine aw_region ?_|refine aw_region_draw (by kernel_rfl) ?_|refine aw_yes rfl ?_|refine aw_no rfl ?_|((with_reducible refine w_seq ?_);first|refine r_q tbOk rfl rfl rfl rfl ?_|refine r_e tbOk rfl rfl rfl rfl rfl ?_|refine r_yes tbOk rfl rfl rfl rfl rfl rfl ?_|refine w_no rfl rfl (lookO_spec rfl) rfl rfl rfl ?_|refine w_un rfl rfl (lookO_spec rfl) rfl rfl ?_)|((with_reducible refine w_drw ?_);first|refine rx_q tbOk rfl rfl rfl rfl ?_|refine rx_e tbOk rfl rfl rfl rfl rfl ?_|refine rx_yes tbOk rfl rfl rfl rfl rfl rfl ?_|refine x_no rfl rfl (lookO_spec rfl) rfl rfl rfl ?_|refine x_un rfl rfl (lookO_spec rfl) rfl rfl ?_)|((first|refine' w_q rfl rfl ?xa rfl ?_|refine' v_q rfl rfl ?xa rfl ?_|refine' w_yes rfl rfl (lookO_spec rfl) rfl ?xa rfl ?_|refine' v_yes rfl rfl (lookO_spec rfl) rfl ?xa rfl ?_);case xa => first|exact k_call K1 rfl ⟨asA_r (evO_spec rfl), trivial⟩|exact k_call K2 rfl ⟨asA_r (evO_spec rfl), asA_r (evO_spec rfl), asA_r (evO_spec rfl), trivial⟩|exact k_call K3 rfl ⟨asA_r (evO_spec rfl), asA_r (evO_spec rfl), asA_r (evO_spec rfl), trivial⟩|exact k_index tbOk rfl rfl rfl rfl (by omega) (by exact hix))|((first|refine' w_e rfl ?xa ?xb ?xc ?xe ?_|refine' v_e rfl ?xa ?xb ?xc ?xe ?_);(case xa => exact e_build [] tlOk rfl rfl rfl rfl rfl rfl (by simp [AllN]) (by simp));(case xb => rfl);(case xc => rfl);(case xe => rfl);try dsimp only [P0.d, Res.d, List.map_cons, List.map_nil, List.set_cons_zero, List.set_cons_succ, Nat.reduceAdd])|((first|refine aw_ways rfl ?_ ?_|refine r_split rfl rfl rfl ?_ ?_) <;> intro hg_ <;> fail_if_success (exact Bool.noConfusion hg_)) <;> (try simp only [prn] at hg_) <;> (try first|contradiction|(exfalso;omega)))
      all_goals first
        | exact ret_3 (rv_tmp rfl (dres_one (cres_own0 (lookHO_spec rfl) rfl))) (rv_tmp rfl (dres_int rfl)) (rv_tmp rfl (dres_bool rfl))
        | trace_state
  · have hin2 : inR 0 (IntKind.i64.wrap (((ints xs).length : Int) - 1)) (i : Int) = false := by
      rw [hlen, IntWalk.i64_in _ (by omega)]; unfold inR; simp; omega
    rw [hin2] at K2
    have hF : frRes xs i = .tup [.one (row false 1 []), iP 0, .one (bool false)] := by unfold frRes; rw [List.drop_of_length_le (by omega)]; rfl
    rw [hF]
    refine fn_of (l := [.tmp 4, .tmp 5, .tmp 6]) Try.func121 (by kernel_rfl) rfl Try.ntmps121 rfl rfl ?_; simp only [argEnv, P0.d, Nat.reduceAdd]
    repeat' (first|(with_reducible first|refine aw_seq ?_|refine thn_normal ?_|refine thn_ret ?_|refine thn_exit ?_|refine blk_normal ?_|refine blk_ret ?_|refine blk_hit ?_|refine blk_miss rfl ?_|refine aw_block ?_|refine aw_ret ?_|refine aw_skip ?_|refine aw_exit ?_|refine w_nil ?_|refine x_nil (by kernel_rfl) ?_)|refine aw_region ?_|refine aw_region_draw (by kernel_rfl) ?_|refine aw_yes rfl ?_|refine aw_no rfl ?_|((with_reducible refine w_seq ?_);first|refine r_q tbOk rfl rfl rfl rfl ?_|refine r_e tbOk rfl rfl rfl rfl rfl ?_|refine r_yes tbOk rfl rfl rfl rfl rfl rfl ?_|refine w_no rfl rfl (lookO_spec rfl) rfl rfl rfl ?_|refine w_un rfl rfl (lookO_spec rfl) rfl rfl ?_)|((with_reducible refine w_drw ?_);first|refine rx_q tbOk rfl rfl rfl rfl ?_|refine rx_e tbOk rfl rfl rfl rfl rfl ?_|refine rx_yes tbOk rfl rfl rfl rfl rfl rfl ?_|refine x_no rfl rfl (lookO_spec rfl) rfl rfl rfl ?_|refine x_un rfl rfl (lookO_spec rfl) rfl rfl ?_)|((first|refine' w_q rfl rfl ?xa rfl ?_|refine' v_q rfl rfl ?xa rfl ?_|refine' w_yes rfl rfl (lookO_spec rfl) rfl ?xa rfl ?_|refine' v_yes rfl rfl (lookO_spec rfl) rfl ?xa rfl ?_);case xa => first|exact k_call K1 rfl ⟨asA_r (evO_spec rfl), trivial⟩|exact k_call K2 rfl ⟨asA_r (evO_spec rfl), asA_r (evO_spec rfl), asA_r (evO_spec rfl), trivial⟩)|((first|refine' w_e rfl ?xa ?xb ?xc ?xe ?_|refine' v_e rfl ?xa ?xb ?xc ?xe ?_);(case xa => exact e_build [] tlOk rfl rfl rfl rfl rfl rfl (by simp [AllN]) (by simp));(case xb => rfl);(case xc => rfl);(case xe => rfl);try dsimp only [P0.d, Res.d, List.map_cons, List.map_nil, List.set_cons_zero, List.set_cons_succ, Nat.reduceAdd])|((first|refine aw_ways rfl ?_ ?_|refine r_split rfl rfl rfl ?_ ?_) <;> intro hg_ <;> fail_if_success (exact Bool.noConfusion hg_)) <;> (try simp only [prn] at hg_) <;> (try first|contradiction|(exfalso;omega)))
    all_goals first
      | exact ret_3 (rv_tmp rfl (dres_one (cres_own0 (lookHO_spec rfl) rfl))) (rv_tmp rfl (dres_int rfl)) (rv_tmp rfl (dres_bool rfl))
      | trace_state
theorem frHd_len2 {xs bd : List Int} {i : Nat} (hi : i ≤ xs.length) (h : frHd (xs.drop i) = some bd) : i + bd.length + 2 ≤ xs.length := by
  have hl := frHd_len h
  rw [List.length_drop] at hl
  omega
set_option maxRecDepth 100000 in
set_option maxHeartbeats 4000000 in
theorem f_specScanFrames (nil : Bool) (xs : List Int) (hx : bytesOk xs = true) : Fn Try.prog 94 [.one (row nil 1 (ints xs))] (.tup [.one (row false 1 (rowsI (scanF xs).1)), iP ((scanF xs).2 : Nat)]) := by
  have hl := bytesOk_len hx
  have hlen := ints_len xs
  have K := f_specBytesOk nil xs
  rw [hx] at K
  have KR := fun i hi => f_specReadFrame nil xs i hx hi
  refine fn_of (l := [.tmp 2, .tmp 3]) Try.func94 (by kernel_rfl) rfl Try.ntmps94 rfl rfl ?_; simp only [argEnv, P0.d, Nat.reduceAdd]
  repeat' (first|(with_reducible first|refine aw_seq ?_|refine thn_normal ?_|refine thn_ret ?_|refine thn_exit ?_|refine blk_normal ?_|refine blk_ret ?_|refine blk_hit ?_|refine blk_miss rfl ?_|refine aw_block ?_|refine aw_ret ?_|refine aw_skip ?_|refine aw_exit ?_|refine w_nil ?_|refine x_nil (by kernel_rfl) ?_)|refine aw_region ?_|refine aw_region_draw (by kernel_rfl) ?_|refine aw_yes rfl ?_|refine aw_no rfl ?_|((with_reducible refine w_seq ?_);first|refine r_q tbOk rfl rfl rfl rfl ?_|refine r_e tbOk rfl rfl rfl rfl rfl ?_|refine r_yes tbOk rfl rfl rfl rfl rfl rfl ?_|refine w_no rfl rfl (lookO_spec rfl) rfl rfl rfl ?_|refine w_un rfl rfl (lookO_spec rfl) rfl rfl ?_)|((with_reducible refine w_drw ?_);first|refine rx_q tbOk rfl rfl rfl rfl ?_|refine rx_e tbOk rfl rfl rfl rfl rfl ?_|refine rx_yes tbOk rfl rfl rfl rfl rfl rfl ?_|refine x_no rfl rfl (lookO_spec rfl) rfl rfl rfl ?_|refine x_un rfl rfl (lookO_spec rfl) rfl rfl ?_)|((first|refine' w_q rfl rfl ?xa rfl ?_|refine' v_q rfl rfl ?xa rfl ?_|refine' w_yes rfl rfl (lookO_spec rfl) rfl ?xa rfl ?_|refine' v_yes rfl rfl (lookO_spec rfl) rfl ?xa rfl ?_);case xa => exact k_call K rfl ⟨asA_r (evO_spec rfl), trivial⟩)|((first|refine' w_e rfl ?xa ?xb ?xc ?xe ?_|refine' v_e rfl ?xa ?xb ?xc ?xe ?_);(case xa => exact e_build [] tlOk rfl rfl rfl rfl rfl rfl (by simp [AllN]) (by simp));(case xb => rfl);(case xc => rfl);(case xe => rfl);try dsimp only [P0.d, Res.d, List.map_cons, List.map_nil, List.set_cons_zero, List.set_cons_succ, Nat.reduceAdd])|((first|refine aw_ways rfl ?_ ?_|refine r_split rfl rfl rfl ?_ ?_) <;> intro hg_ <;> fail_if_success (exact Bool.noConfusion hg_)) <;> (try simp only [prn] at hg_) <;> (try first|contradiction|(exfalso;omega)))
  refine aw_loopI (fun x : Nat × List (List Int) => x.1 ≤ xs.length ∧ scanF xs = (x.2 ++ (scanF (xs.drop x.1)).1, x.1 + (scanF (xs.drop x.1)).2) ∧ x.2.length ≤ x.1) (fun x => mkS 30 [(5, .one (.r true (int x.1))), (4, .one (.own 100 0 x.2.length 1)), (0, .one (.r false (row nil 1 (ints xs))))] [(100, .sl 24 1 true (rowsI x.2))]) (fun x => xs.length - x.1) (0, []) ⟨Nat.zero_le _, by simp, Nat.le_refl _⟩ (by (refine weak_ren [(100, 9)] rfl ?_ ?_ <;> repeat' (first|exact trivial|refine subR_cons rfl ?_ ?_|refine subHR_cons rfl ?_ ?_|rfl|(refine d_int ?_;(first|rfl|omega|(rw [IntWalk.i64_in _ (by omega)] <;> omega)|(simp;done)|(simp;omega)))|(refine d_bool ?_;(first|(simp_all;done)|(rw [Bool.eq_iff_iff];simp_all;done)|(rw [Bool.eq_iff_iff];simp_all;omega)|(rw [Bool.eq_iff_iff];simp;omega)))))) ?_
  rintro ⟨i, acc⟩ ⟨hi, hE, ha⟩
  dsimp only at hi hE ha ⊢
  have hac := (rowsI_len acc).symm
  have KF := KR i hi
  clear KR K
  unfold frRes at KF
  cases hh : frHd (xs.drop i) with
  | none =>
    rw [hh] at KF
    rw [scanF_none hh, List.append_nil, Nat.add_zero] at hE
    rw [hE]
    dsimp only at KF ⊢
    clear hE hh
    repeat' (first|(with_reducible first|refine aw_seq ?_|refine thn_normal ?_|refine thn_ret ?_|refine thn_exit ?_|refine blk_normal ?_|refine blk_ret ?_|refine blk_hit ?_|refine blk_miss rfl ?_|refine aw_block ?_|refine aw_ret ?_|refine aw_skip ?_|refine aw_exit ?_|refine w_nil ?_|refine x_nil (by kernel_rfl) ?_)|refine aw_region ?_|refine aw_region_draw (by kernel_rfl) ?_|refine aw_yes rfl ?_|refine aw_no rfl ?_|((with_reducible refine w_seq ?_);first|refine r_q tbOk rfl rfl rfl rfl ?_|refine r_e tbOk rfl rfl rfl rfl rfl ?_|refine r_yes tbOk rfl rfl rfl rfl rfl rfl ?_|refine w_no rfl rfl (lookO_spec rfl) rfl rfl rfl ?_|refine w_un rfl rfl (lookO_spec rfl) rfl rfl ?_)|((with_reducible refine w_drw ?_);first|refine rx_q tbOk rfl rfl rfl rfl ?_|refine rx_e tbOk rfl rfl rfl rfl rfl ?_|refine rx_yes tbOk rfl rfl rfl rfl rfl rfl ?_|refine x_no rfl rfl (lookO_spec rfl) rfl rfl rfl ?_|refine x_un rfl rfl (lookO_spec rfl) rfl rfl ?_)|((first|refine' w_q rfl rfl ?xa rfl ?_|refine' v_q rfl rfl ?xa rfl ?_|refine' w_yes rfl rfl (lookO_spec rfl) rfl ?xa rfl ?_|refine' v_yes rfl rfl (lookO_spec rfl) rfl ?xa rfl ?_);case xa => exact k_call KF rfl ⟨asA_r (evO_spec rfl), asA_r (evO_spec rfl), trivial⟩)|((first|refine aw_ways rfl ?_ ?_|refine r_split rfl rfl rfl ?_ ?_) <;> intro hg_ <;> fail_if_success (exact Bool.noConfusion hg_)) <;> (try simp only [prn] at hg_) <;> (try first|contradiction|(exfalso;omega)))
    all_goals first
      | exact ret_2 (rv_tmp rfl (dres_one (cres_own0 (lookHO_spec rfl) hac))) (rv_tmp rfl (dres_int rfl))
      | trace_state
  | some bd =>
    rw [hh] at KF
    have h2 := frHd_len2 hi hh
    rw [scanF_some hh, List.drop_drop, show i + (bd.length + 2) = i + bd.length + 2 by omega] at hE
    dsimp only at KF hE
    have hfin : ∀ s' : St, Weak s' (mkS 30 [(5, .one (.r true (int ((i + bd.length + 2 : Nat) : Int)))), (4, .one (.own 100 0 (acc ++ [bd]).length 1)), (0, .one (.r false (row nil 1 (ints xs))))] [(100, .sl 24 1 true (rowsI (acc ++ [bd])))]) → ∃ x' : Nat × List (List Int), (x'.1 ≤ xs.length ∧ scanF xs = (x'.2 ++ (scanF (xs.drop x'.1)).1, x'.1 + (scanF (xs.drop x'.1)).2) ∧ x'.2.length ≤ x'.1) ∧ Weak s' (mkS 30 [(5, .one (.r true (int x'.1))), (4, .one (.own 100 0 x'.2.length 1)), (0, .one (.r false (row nil 1 (ints xs))))] [(100, .sl 24 1 true (rowsI x'.2))]) ∧ xs.length - x'.1 < xs.length - i := fun s' h => ⟨(i + bd.length + 2, acc ++ [bd]), ⟨h2, by rw [hE]; simp; omega, by simp; omega⟩, h, by dsimp only; omega⟩
    clear hE hh
    repeat' (first|(with_reducible first|refine aw_seq ?_|refine thn_normal ?_|refine thn_ret ?_|refine thn_exit ?_|refine blk_normal ?_|refine blk_ret ?_|refine blk_hit ?_|refine blk_miss rfl ?_|refine aw_block ?_|refine aw_ret ?_|refine aw_skip ?_|refine aw_exit ?_|refine w_nil ?_|refine x_nil (by kernel_rfl) ?_)|refine aw_region ?_|refine aw_region_draw (by kernel_rfl) ?_|refine aw_yes rfl ?_|refine aw_no rfl ?_|((with_reducible refine w_seq ?_);first|refine r_q tbOk rfl rfl rfl rfl ?_|refine r_e tbOk rfl rfl rfl rfl rfl ?_|refine r_yes tbOk rfl rfl rfl rfl rfl rfl ?_|refine w_no rfl rfl (lookO_spec rfl) rfl rfl rfl ?_|refine w_un rfl rfl (lookO_spec rfl) rfl rfl ?_)|((with_reducible refine w_drw ?_);first|refine rx_q tbOk rfl rfl rfl rfl ?_|refine rx_e tbOk rfl rfl rfl rfl rfl ?_|refine rx_yes tbOk rfl rfl rfl rfl rfl rfl ?_|refine x_no rfl rfl (lookO_spec rfl) rfl rfl rfl ?_|refine x_un rfl rfl (lookO_spec rfl) rfl rfl ?_)|((first|refine' w_q rfl rfl ?xa rfl ?_|refine' v_q rfl rfl ?xa rfl ?_|refine' w_yes rfl rfl (lookO_spec rfl) rfl ?xa rfl ?_|refine' v_yes rfl rfl (lookO_spec rfl) rfl ?xa rfl ?_);case xa => exact k_call KF rfl ⟨asA_r (evO_spec rfl), asA_r (evO_spec rfl), trivial⟩)|((first|refine' w_e rfl ?xa ?xb ?xc ?xe ?_|refine' v_e rfl ?xa ?xb ?xc ?xe ?_);(case xa => first|exact e_build [.tmp 26] tlOk rfl rfl rfl rfl rfl rfl (allN_one rfl) (by simp)|exact e_append tlOk rfl rfl rfl rfl rfl rfl (slD_own (lookHO_spec rfl) rfl) hac (by simp only [maxLen, List.length_append, List.length_cons, List.length_nil, rowsI_len];omega) (by simp only [List.length_append, List.length_cons, List.length_nil, rowsI_len];omega));(case xb => rfl);(case xc => rfl);(case xe => rfl);try dsimp only [P0.d, Res.d, List.map_cons, List.map_nil, List.set_cons_zero, List.set_cons_succ, Nat.reduceAdd])|((first|refine aw_ways rfl ?_ ?_|refine r_split rfl rfl rfl ?_ ?_) <;> intro hg_ <;> fail_if_success (exact Bool.noConfusion hg_)) <;> (try simp only [prn] at hg_) <;> (try first|contradiction|(exfalso;omega)))
    all_goals first
      | (refine hfin _ ?_
         (refine weak_ren [(100, 28)] rfl ?_ ?_ <;> repeat' (first|exact trivial|refine subR_cons rfl ?_ ?_|refine subHR_cons rfl ?_ ?_|rfl|(refine d_int ?_;(first|rfl|omega|(rw [IntWalk.i64_in _ (by omega)] <;> omega)|(simp;done)|(simp;omega)))|(refine d_bool ?_;(first|(simp_all;done)|(rw [Bool.eq_iff_iff];simp_all;done)|(rw [Bool.eq_iff_iff];simp_all;omega)|(rw [Bool.eq_iff_iff];simp;omega)))|exact d_own (by simp only [List.length_append, List.length_cons, List.length_nil, rowsI_len])|exact ob_sl rfl (rowsI_app _ _).symm)))
      | trace_state
end Go.Proofs.Ytmkecjamfippfaa.Abs
