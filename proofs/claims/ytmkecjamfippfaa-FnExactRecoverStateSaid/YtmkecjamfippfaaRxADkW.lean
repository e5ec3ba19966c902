/- Writing to disks by states, both texts, and the draw. No statement of the seat is proved here. -/
import Derived.Lib.Hide
import Derived.Test.YtmkecjamfippfaaRxTy
import Derived.Test.YtmkecjamfippfaaRxASvc
import Derived.Test.YtmkecjamfippfaaRxASpCD
import Derived.Test.YtmkecjamfippfaaRxAConc
set_option linter.unusedSimpArgs false
set_option linter.unusedVariables false
namespace Go.Proofs.Ytmkecjamfippfaa.Abs
open Go.RowKit
open R (val row ref)
theorem allN_two {sz : Nat} {a b : P0} (ha : a.n = sz) (hb : b.n = sz) : AllN sz [a, b] := fun i e he => by
  match i, he with
  | 0, he => obtain rfl : a = e := by simpa using he
             exact ha
  | 1, he => obtain rfl : b = e := by simpa using he
             exact hb
  | i + 2, he => simp at he
theorem cres_own0D {H : Nat → Option Ob} {k n sz : Nat} {E : TypeId} {els els' : List P0} (hk : H k = some (.sl E sz true els)) (hn : n = els.length) (he : els = els') : CRes H (.own k 0 n sz) (row false sz els') := he ▸ cres_own0 hk hn
set_option maxRecDepth 100000 in
set_option maxHeartbeats 4000000 in
theorem f_cloneD (nil : Bool) (xs : List Int) (hn : nil = true → xs = []) (hl : xs.length ≤ 1048576) : Fn Try.prog 101 [.one (row nil 1 (ints xs))] (.v (.one (row nil 1 (ints xs)))) := by
  have hlen := ints_len xs
  cases nil with
  | true =>
    have := hn rfl
    subst this
    refine fn_of (l := [.tmp 2]) Try.func101 (by kernel_rfl) rfl Try.ntmps101 rfl rfl ?_; simp only [argEnv, P0.d, Nat.reduceAdd]
    repeat' (first|(with_reducible first|refine aw_seq ?_|refine thn_normal ?_|refine thn_ret ?_|refine thn_exit ?_|refine blk_normal ?_|refine blk_ret ?_|refine blk_hit ?_|refine blk_miss rfl ?_|refine aw_block ?_|refine aw_ret ?_|refine aw_skip ?_|refine aw_exit ?_|refine w_nil ?_|refine x_nil (by kernel_rfl) ?_)|refine aw_region ?_|refine aw_region_draw (by kernel_rfl) ?_|refine aw_yes rfl ?_|refine aw_no rfl ?_|((with_reducible refine w_seq ?_);first|refine r_q tbOk rfl rfl rfl rfl ?_|refine r_e tbOk rfl rfl rfl rfl rfl ?_|refine r_yes tbOk rfl rfl rfl rfl rfl rfl ?_|refine w_no rfl rfl (lookO_spec rfl) rfl rfl rfl ?_|refine w_un rfl rfl (lookO_spec rfl) rfl rfl ?_)|((with_reducible refine w_drw ?_);first|refine rx_q tbOk rfl rfl rfl rfl ?_|refine rx_e tbOk rfl rfl rfl rfl rfl ?_|refine rx_yes tbOk rfl rfl rfl rfl rfl rfl ?_|refine x_no rfl rfl (lookO_spec rfl) rfl rfl rfl ?_|refine x_un rfl rfl (lookO_spec rfl) rfl rfl ?_)|((first|refine' w_q rfl rfl ?xa rfl ?_|refine' v_q rfl rfl ?xa rfl ?_|refine' w_yes rfl rfl (lookO_spec rfl) rfl ?xa rfl ?_|refine' v_yes rfl rfl (lookO_spec rfl) rfl ?xa rfl ?_);case xa => exact k_nil_eq tbOk rfl rfl rfl rfl)|((first|refine aw_ways rfl ?_ ?_|refine r_split rfl rfl rfl ?_ ?_) <;> intro hg_ <;> fail_if_success (exact Bool.noConfusion hg_)) <;> (try simp only [prn] at hg_) <;> (try first|contradiction|(exfalso;omega)))
    exact ret_tmp rfl (dres_one cres_nil)
  | false =>
    refine fn_of (l := [.tmp 2]) Try.func101 (by kernel_rfl) rfl Try.ntmps101 rfl rfl ?_; simp only [argEnv, P0.d, Nat.reduceAdd]
    repeat' (first|(with_reducible first|refine aw_seq ?_|refine thn_normal ?_|refine thn_ret ?_|refine thn_exit ?_|refine blk_normal ?_|refine blk_ret ?_|refine blk_hit ?_|refine blk_miss rfl ?_|refine aw_block ?_|refine aw_ret ?_|refine aw_skip ?_|refine aw_exit ?_|refine w_nil ?_|refine x_nil (by kernel_rfl) ?_)|refine aw_region ?_|refine aw_region_draw (by kernel_rfl) ?_|refine aw_yes rfl ?_|refine aw_no rfl ?_|((with_reducible refine w_seq ?_);first|refine r_q tbOk rfl rfl rfl rfl ?_|refine r_e tbOk rfl rfl rfl rfl rfl ?_|refine r_yes tbOk rfl rfl rfl rfl rfl rfl ?_|refine w_no rfl rfl (lookO_spec rfl) rfl rfl rfl ?_|refine w_un rfl rfl (lookO_spec rfl) rfl rfl ?_)|((with_reducible refine w_drw ?_);first|refine rx_q tbOk rfl rfl rfl rfl ?_|refine rx_e tbOk rfl rfl rfl rfl rfl ?_|refine rx_yes tbOk rfl rfl rfl rfl rfl rfl ?_|refine x_no rfl rfl (lookO_spec rfl) rfl rfl rfl ?_|refine x_un rfl rfl (lookO_spec rfl) rfl rfl ?_)|((first|refine' w_q rfl rfl ?xa rfl ?_|refine' v_q rfl rfl ?xa rfl ?_|refine' w_yes rfl rfl (lookO_spec rfl) rfl ?xa rfl ?_|refine' v_yes rfl rfl (lookO_spec rfl) rfl ?xa rfl ?_);case xa => exact k_nil_eq tbOk rfl rfl rfl rfl)|((first|refine' w_e rfl ?xa ?xb ?xc ?xe ?_|refine' v_e rfl ?xa ?xb ?xc ?xe ?_);(case xa => first|exact e_build [] tlOk rfl rfl rfl rfl rfl rfl (by simp [AllN]) (by simp)|exact e_append tlOk rfl rfl rfl rfl rfl rfl (slD_plain slD_row (ints_plain _)) rfl (by simp only [maxLen, List.length_append, List.length_cons, List.length_nil];omega) (by (try simp only [List.length_append, List.length_cons, List.length_nil]);omega));(case xb => rfl);(case xc => rfl);(case xe => rfl);try dsimp only [P0.d, Res.d, List.map_cons, List.map_nil, List.set_cons_zero, List.set_cons_succ, Nat.reduceAdd])|((first|refine aw_ways rfl ?_ ?_|refine r_split rfl rfl rfl ?_ ?_) <;> intro hg_ <;> fail_if_success (exact Bool.noConfusion hg_)) <;> (try simp only [prn] at hg_) <;> (try first|contradiction|(exfalso;omega)))
    all_goals first
      | exact ret_tmp rfl (dres_one (cres_own0D (lookHO_spec rfl) (by simp only [List.length_append]) (List.nil_append _)))
      | trace_state
end Go.Proofs.Ytmkecjamfippfaa.Abs
