/- The laws' own words on graphs and lists of numbers: copies, sizes, tests. No statement of the seat is proved here. -/
import Derived.Lib.Hide
import Derived.Deep.Slices
import Derived.Test.YtmkecjamfippfaaRows
import Derived.WalkKit
import Derived.ProofKit
import Derived.Lib.SmallJoins
import Derived.Handy
import Derived.Deep.RegionHeld3
import Derived.Deep.RegionLaw
import Derived.WalkSpells
import Derived.WalkLawsBesides
import Derived.BigQuiet
import Derived.Deep.QuietTactic
import Derived.Test.YtmkecjamfippfaaRxB
set_option linter.unusedSimpArgs false
set_option linter.unusedVariables false
namespace Go.Proofs.Ytmkecjamfippfaa.Abs
open Go.RowKit
open R (val row ref)

abbrev edgeP (e : E3) : P0 := .agg [int e.1, int e.2.1, int e.2.2]
def edges (es : List E3) : List P0 := es.map edgeP
abbrev graphP (m : Int) (nil : Bool) (es : List E3) : P0 := .agg [int m, row nil 3 (edges es)]
theorem edges_len (es : List E3) : (edges es).length = es.length := List.length_map ..
theorem edges_get {es : List E3} {k : Nat} (h : k < es.length) : (edges es)[k]? = some (edgeP es[k]) := by
  unfold edges; simp [h]
theorem edges_at {es : List E3} {k : Nat} (h : k < es.length) : (edges es)[(k : Int).toNat]? = some (edgeP es[k]) := by
  unfold edges; simp [h]
def fillP (f : List P0) (z : P0) (k : Nat) : List P0 := f.take k ++ List.replicate (f.length - k) z
theorem fillP_len {f : List P0} {z : P0} {k : Nat} (h : k ≤ f.length) : (fillP f z k).length = f.length := by unfold fillP; simp; omega
theorem fillP_set {f : List P0} {z e : P0} {k : Nat} (h : f[k]? = some e) : (fillP f z k).set k e = fillP f z (k + 1) := by
  have hk : k < f.length := by
    rcases Nat.lt_or_ge k f.length with h' | h'
    · exact h'
    · rw [List.getElem?_eq_none h'] at h; cases h
  have he : f[k] = e := by rw [List.getElem?_eq_getElem hk] at h; injection h
  rw [← he]
  exact fill_step f z k hk
theorem fillP_all {f : List P0} {z : P0} {k : Nat} (h : f.length ≤ k) : fillP f z k = f := fill_all f z k h

set_option maxRecDepth 100000 in
set_option maxHeartbeats 2000000 in
theorem f_toIntS (nil : Bool) (xs : List Int) (hl : xs.length ≤ 1048576) : Fn Try.prog 39 [.one (row nil 1 (ints xs))] (.v (.one (row false 1 (ints xs)))) := by
  have hlen := ints_len xs
  refine fn_of (l := [.tmp 2]) Try.func39 (by kernel_rfl) rfl Try.ntmps39 rfl rfl ?_; simp only [argEnv, P0.d, Nat.reduceAdd, List.map_cons, List.map_nil]
  repeat' (first|(with_reducible first|refine aw_seq ?_|refine thn_normal ?_|refine thn_ret ?_|refine thn_exit ?_|refine blk_normal ?_|refine blk_ret ?_|refine blk_hit ?_|refine blk_miss rfl ?_|refine aw_block ?_|refine aw_ret ?_|refine aw_skip ?_|refine aw_exit ?_|refine w_nil ?_|refine x_nil (by kernel_rfl) ?_)|refine aw_region ?_|refine aw_region_draw (by kernel_rfl) ?_|refine aw_yes rfl ?_|refine aw_no rfl ?_|((with_reducible refine w_seq ?_); first|refine r_q tbOk rfl rfl rfl rfl ?_|refine r_e tbOk rfl rfl rfl rfl rfl ?_|refine r_yes tbOk rfl rfl rfl rfl rfl rfl ?_|refine w_no rfl rfl (lookO_spec rfl) rfl rfl rfl ?_|refine w_un rfl rfl (lookO_spec rfl) rfl rfl ?_)|((with_reducible refine w_drw ?_); first|refine rx_q tbOk rfl rfl rfl rfl ?_|refine rx_e tbOk rfl rfl rfl rfl rfl ?_|refine rx_yes tbOk rfl rfl rfl rfl rfl rfl ?_|refine x_no rfl rfl (lookO_spec rfl) rfl rfl rfl ?_|refine x_un rfl rfl (lookO_spec rfl) rfl rfl ?_)|((first|refine' w_e rfl ?xa ?xb ?xc ?xe ?_|refine' v_e rfl ?xa ?xb ?xc ?xe ?_); (case xa => exact e_make tlOk rfl rfl rfl rfl rfl rfl (c := xs.length) (by rw [hlen]) (by rw [hlen]) (by omega) (by simp only [maxLen]; omega)); (case xb => rfl); (case xc => rfl); (case xe => rfl); try dsimp only [P0.d, Res.d, List.map_cons, List.map_nil, List.set_cons_zero, List.set_cons_succ, Nat.reduceAdd])|((first|refine aw_ways rfl ?_ ?_|refine r_split rfl rfl rfl ?_ ?_) <;> intro hg_ <;> fail_if_success (exact Bool.noConfusion hg_)) <;> (try simp only [prn] at hg_) <;> (try first|contradiction|(exfalso; omega)))
  refine aw_loopI (fun k : Nat => k ≤ xs.length) (fun k => mkS 22 [(4, .one (.r true (int k))), (3, .one (.own 100 0 xs.length 1)), (0, .one (.r false (row nil 1 (ints xs))))] [(100, .sl 3 1 true (fillP (ints xs) (iP 0) k))]) (fun k => xs.length - k) 0 (Nat.zero_le _) (by (refine weak_ren [(100, 7)] rfl ?_ ?_ <;> repeat' (first|exact trivial|refine subR_cons rfl ?_ ?_|refine subHR_cons rfl ?_ ?_|rfl|(refine d_int ?_; (first|rfl|omega|(rw [IntWalk.i64_in _ (by omega)] <;> omega)|(simp; done)|(simp; omega)))|(refine d_bool ?_; (first|(simp_all; done)|(rw [Bool.eq_iff_iff]; simp_all; done)|(rw [Bool.eq_iff_iff]; simp_all; omega)|(rw [Bool.eq_iff_iff]; simp; omega)))|exact ob_sl rfl (by simp [fillP, hlen])))) ?_
  intro k hk
  repeat' (first|(with_reducible first|refine aw_seq ?_|refine thn_normal ?_|refine thn_ret ?_|refine thn_exit ?_|refine blk_normal ?_|refine blk_ret ?_|refine blk_hit ?_|refine blk_miss rfl ?_|refine aw_block ?_|refine aw_ret ?_|refine aw_skip ?_|refine aw_exit ?_|refine w_nil ?_|refine x_nil (by kernel_rfl) ?_)|refine aw_region ?_|refine aw_region_draw (by kernel_rfl) ?_|refine aw_yes rfl ?_|refine aw_no rfl ?_|((with_reducible refine w_seq ?_); first|refine r_q tbOk rfl rfl rfl rfl ?_|refine r_e tbOk rfl rfl rfl rfl rfl ?_|refine r_yes tbOk rfl rfl rfl rfl rfl rfl ?_|refine w_no rfl rfl (lookO_spec rfl) rfl rfl rfl ?_|refine w_un rfl rfl (lookO_spec rfl) rfl rfl ?_)|((with_reducible refine w_drw ?_); first|refine rx_q tbOk rfl rfl rfl rfl ?_|refine rx_e tbOk rfl rfl rfl rfl rfl ?_|refine rx_yes tbOk rfl rfl rfl rfl rfl rfl ?_|refine x_no rfl rfl (lookO_spec rfl) rfl rfl rfl ?_|refine x_un rfl rfl (lookO_spec rfl) rfl rfl ?_)|((first|refine' w_q rfl rfl ?xa rfl ?_|refine' v_q rfl rfl ?xa rfl ?_|refine' w_yes rfl rfl (lookO_spec rfl) rfl ?xa rfl ?_|refine' v_yes rfl rfl (lookO_spec rfl) rfl ?xa rfl ?_); case xa => first|exact k_index tbOk rfl rfl rfl rfl (by omega) (ints_at (by omega))|exact k_indexO tbOk rfl rfl rfl rfl (by omega) (by omega))|((first|refine' w_e rfl ?xa ?xb ?xc ?xe ?_|refine' v_e rfl ?xa ?xb ?xc ?xe ?_); (case xa => exact e_storeS tbOk rfl rfl rfl rfl rfl rfl rfl rfl (by rw [fillP_len (by omega)]; omega)); (case xb => rfl); (case xc => rfl); (case xe => rfl); try dsimp only [P0.d, Res.d, List.map_cons, List.map_nil, List.set_cons_zero, List.set_cons_succ, Nat.reduceAdd])|((first|refine aw_ways rfl ?_ ?_|refine r_split rfl rfl rfl ?_ ?_) <;> intro hg_ <;> fail_if_success (exact Bool.noConfusion hg_)) <;> (try simp only [prn] at hg_) <;> (try first|contradiction|(exfalso; omega)))
  · refine ⟨k + 1, by omega, by (refine weak_ren [] rfl ?_ ?_ <;> repeat' (first|exact trivial|refine subR_cons rfl ?_ ?_|refine subHR_cons rfl ?_ ?_|rfl|(refine d_int ?_; (first|rfl|omega|(rw [IntWalk.i64_in _ (by omega)] <;> omega)|(simp; done)|(simp; omega)))|(refine d_bool ?_; (first|(simp_all; done)|(rw [Bool.eq_iff_iff]; simp_all; done)|(rw [Bool.eq_iff_iff]; simp_all; omega)|(rw [Bool.eq_iff_iff]; simp; omega)))|exact ob_sl rfl (by rw [Nat.zero_add, Int.toNat_natCast]; exact fillP_set (ints_get (by omega))))), by omega⟩
  · have e : fillP (ints xs) (iP 0) k = ints xs := fillP_all (by omega)
    rw [e]
    exact ret_tmp rfl (dres_one (cres_own0 (lookHO_spec rfl) hlen.symm))

set_option maxRecDepth 100000 in
set_option maxHeartbeats 2000000 in
theorem f_toEdge (e : E3) : Fn Try.prog 95 [edgeP e] (.v (edgeP e)) := by
  refine fn_of (l := [.cell 2 98]) Try.func95 (by kernel_rfl) rfl Try.ntmps95 rfl rfl ?_; simp only [argEnv, P0.d, Nat.reduceAdd, edgeP, List.map_cons, List.map_nil]
  repeat' (first|(with_reducible first|refine aw_seq ?_|refine thn_normal ?_|refine thn_ret ?_|refine thn_exit ?_|refine blk_normal ?_|refine blk_ret ?_|refine blk_hit ?_|refine blk_miss rfl ?_|refine aw_block ?_|refine aw_ret ?_|refine aw_skip ?_|refine aw_exit ?_|refine w_nil ?_|refine x_nil (by kernel_rfl) ?_)|refine aw_region ?_|refine aw_region_draw (by kernel_rfl) ?_|refine aw_yes rfl ?_|refine aw_no rfl ?_|((with_reducible refine w_seq ?_); first|refine r_q tbOk rfl rfl rfl rfl ?_|refine r_e tbOk rfl rfl rfl rfl rfl ?_|refine r_yes tbOk rfl rfl rfl rfl rfl rfl ?_|refine w_no rfl rfl (lookO_spec rfl) rfl rfl rfl ?_|refine w_un rfl rfl (lookO_spec rfl) rfl rfl ?_)|((with_reducible refine w_drw ?_); first|refine rx_q tbOk rfl rfl rfl rfl ?_|refine rx_e tbOk rfl rfl rfl rfl rfl ?_|refine rx_yes tbOk rfl rfl rfl rfl rfl rfl ?_|refine x_no rfl rfl (lookO_spec rfl) rfl rfl rfl ?_|refine x_un rfl rfl (lookO_spec rfl) rfl rfl ?_)|((first|refine aw_ways rfl ?_ ?_|refine r_split rfl rfl rfl ?_ ?_) <;> intro hg_ <;> fail_if_success (exact Bool.noConfusion hg_)) <;> (try simp only [prn] at hg_) <;> (try first|contradiction|(exfalso; omega)))
  exact ret_v (rv_cell rfl rfl (by (with_reducible first | exact ty3 | exact ty4 | exact ty5 | exact ty9 | exact ty17 | exact ty19 | exact ty22 | exact ty24 | exact ty25 | exact ty26 | exact ty28 | exact ty36 | exact ty38 | exact ty40 | exact ty44 | exact ty46 | exact ty48 | exact ty55 | exact ty81 | exact ty84 | exact ty89 | exact ty95 | exact ty98 | exact ty105 | exact ty118 | exact ty122 | exact ty132 | exact ty134 | exact ty137 | exact ty143 | exact ty153 | exact ty155 | exact ty156 | exact ty161)) rfl rfl rfl (dres_agg (by (try simp only [List.set_cons_zero, List.set_cons_succ, Nat.reduceAdd, Nat.zero_add]); exact ⟨cres_val, cres_val, cres_val, trivial⟩)))

set_option maxRecDepth 100000 in
set_option maxHeartbeats 2000000 in
theorem f_toEdgeS (nil : Bool) (es : List E3) (hl : es.length ≤ 1048576) : Fn Try.prog 58 [.one (row nil 3 (edges es))] (.v (.one (row false 3 (edges es)))) := by
  have hlen := edges_len es
  refine fn_of (l := [.tmp 2]) Try.func58 (by kernel_rfl) rfl Try.ntmps58 rfl rfl ?_; simp only [argEnv, P0.d, Nat.reduceAdd, List.map_cons, List.map_nil]
  repeat' (first|(with_reducible first|refine aw_seq ?_|refine thn_normal ?_|refine thn_ret ?_|refine thn_exit ?_|refine blk_normal ?_|refine blk_ret ?_|refine blk_hit ?_|refine blk_miss rfl ?_|refine aw_block ?_|refine aw_ret ?_|refine aw_skip ?_|refine aw_exit ?_|refine w_nil ?_|refine x_nil (by kernel_rfl) ?_)|refine aw_region ?_|refine aw_region_draw (by kernel_rfl) ?_|refine aw_yes rfl ?_|refine aw_no rfl ?_|((with_reducible refine w_seq ?_); first|refine r_q tbOk rfl rfl rfl rfl ?_|refine r_e tbOk rfl rfl rfl rfl rfl ?_|refine r_yes tbOk rfl rfl rfl rfl rfl rfl ?_|refine w_no rfl rfl (lookO_spec rfl) rfl rfl rfl ?_|refine w_un rfl rfl (lookO_spec rfl) rfl rfl ?_)|((with_reducible refine w_drw ?_); first|refine rx_q tbOk rfl rfl rfl rfl ?_|refine rx_e tbOk rfl rfl rfl rfl rfl ?_|refine rx_yes tbOk rfl rfl rfl rfl rfl rfl ?_|refine x_no rfl rfl (lookO_spec rfl) rfl rfl rfl ?_|refine x_un rfl rfl (lookO_spec rfl) rfl rfl ?_)|((first|refine' w_e rfl ?xa ?xb ?xc ?xe ?_|refine' v_e rfl ?xa ?xb ?xc ?xe ?_); (case xa => exact e_make tlOk rfl rfl rfl rfl rfl rfl (c := es.length) (by rw [hlen]) (by rw [hlen]) (by omega) (by simp only [maxLen]; omega)); (case xb => rfl); (case xc => rfl); (case xe => rfl); try dsimp only [P0.d, Res.d, List.map_cons, List.map_nil, List.set_cons_zero, List.set_cons_succ, Nat.reduceAdd])|((first|refine aw_ways rfl ?_ ?_|refine r_split rfl rfl rfl ?_ ?_) <;> intro hg_ <;> fail_if_success (exact Bool.noConfusion hg_)) <;> (try simp only [prn] at hg_) <;> (try first|contradiction|(exfalso; omega)))
  refine aw_loopI (fun k : Nat => k ≤ es.length) (fun k => mkS 23 [(4, .one (.r true (int k))), (3, .one (.own 100 0 es.length 3)), (0, .one (.r false (row nil 3 (edges es))))] [(100, .sl 98 3 true (fillP (edges es) (edgeP (0, 0, 0)) k))]) (fun k => es.length - k) 0 (Nat.zero_le _) (by (refine weak_ren [(100, 7)] rfl ?_ ?_ <;> repeat' (first|exact trivial|refine subR_cons rfl ?_ ?_|refine subHR_cons rfl ?_ ?_|rfl|(refine d_int ?_; (first|rfl|omega|(rw [IntWalk.i64_in _ (by omega)] <;> omega)|(simp; done)|(simp; omega)))|(refine d_bool ?_; (first|(simp_all; done)|(rw [Bool.eq_iff_iff]; simp_all; done)|(rw [Bool.eq_iff_iff]; simp_all; omega)|(rw [Bool.eq_iff_iff]; simp; omega)))|exact ob_sl rfl (by simp [fillP, hlen])))) ?_
  intro k hk
  repeat' (first|(with_reducible first|refine aw_seq ?_|refine thn_normal ?_|refine thn_ret ?_|refine thn_exit ?_|refine blk_normal ?_|refine blk_ret ?_|refine blk_hit ?_|refine blk_miss rfl ?_|refine aw_block ?_|refine aw_ret ?_|refine aw_skip ?_|refine aw_exit ?_|refine w_nil ?_|refine x_nil (by kernel_rfl) ?_)|refine aw_region ?_|refine aw_region_draw (by kernel_rfl) ?_|refine aw_yes rfl ?_|refine aw_no rfl ?_|((with_reducible refine w_seq ?_); first|refine r_q tbOk rfl rfl rfl rfl ?_|refine r_e tbOk rfl rfl rfl rfl rfl ?_|refine r_yes tbOk rfl rfl rfl rfl rfl rfl ?_|refine w_no rfl rfl (lookO_spec rfl) rfl rfl rfl ?_|refine w_un rfl rfl (lookO_spec rfl) rfl rfl ?_)|((with_reducible refine w_drw ?_); first|refine rx_q tbOk rfl rfl rfl rfl ?_|refine rx_e tbOk rfl rfl rfl rfl rfl ?_|refine rx_yes tbOk rfl rfl rfl rfl rfl rfl ?_|refine x_no rfl rfl (lookO_spec rfl) rfl rfl rfl ?_|refine x_un rfl rfl (lookO_spec rfl) rfl rfl ?_)|((first|refine' w_q rfl rfl ?xa rfl ?_|refine' v_q rfl rfl ?xa rfl ?_|refine' w_yes rfl rfl (lookO_spec rfl) rfl ?xa rfl ?_|refine' v_yes rfl rfl (lookO_spec rfl) rfl ?xa rfl ?_); case xa => first|exact k_index tbOk rfl rfl rfl rfl (by omega) (edges_at (by omega))|exact k_indexO tbOk rfl rfl rfl rfl (by omega) (by omega)|exact k_call (f_toEdge (_, _, _)) rfl ⟨asA_agg (evO_spec rfl) ⟨cAr_r, cAr_r, cAr_r, trivial⟩, trivial⟩)|((first|refine' w_e rfl ?xa ?xb ?xc ?xe ?_|refine' v_e rfl ?xa ?xb ?xc ?xe ?_); (case xa => exact e_storeS tbOk rfl rfl rfl rfl rfl rfl rfl rfl (by rw [fillP_len (by omega)]; omega)); (case xb => rfl); (case xc => rfl); (case xe => rfl); try dsimp only [P0.d, Res.d, List.map_cons, List.map_nil, List.set_cons_zero, List.set_cons_succ, Nat.reduceAdd])|((first|refine aw_ways rfl ?_ ?_|refine r_split rfl rfl rfl ?_ ?_) <;> intro hg_ <;> fail_if_success (exact Bool.noConfusion hg_)) <;> (try simp only [prn] at hg_) <;> (try first|contradiction|(exfalso; omega)))
  · refine ⟨k + 1, by omega, by (refine weak_ren [] rfl ?_ ?_ <;> repeat' (first|exact trivial|refine subR_cons rfl ?_ ?_|refine subHR_cons rfl ?_ ?_|rfl|(refine d_int ?_; (first|rfl|omega|(rw [IntWalk.i64_in _ (by omega)] <;> omega)|(simp; done)|(simp; omega)))|(refine d_bool ?_; (first|(simp_all; done)|(rw [Bool.eq_iff_iff]; simp_all; done)|(rw [Bool.eq_iff_iff]; simp_all; omega)|(rw [Bool.eq_iff_iff]; simp; omega)))|exact ob_sl rfl (by rw [Nat.zero_add, Int.toNat_natCast]; exact fillP_set (edges_get (by omega))))), by omega⟩
  · have e : fillP (edges es) (edgeP (0, 0, 0)) k = edges es := fillP_all (by omega)
    rw [e]
    exact ret_tmp rfl (dres_one (cres_own0 (lookHO_spec rfl) hlen.symm))

set_option maxRecDepth 100000 in
set_option maxHeartbeats 2000000 in
theorem f_toGraph (m : Int) (nil : Bool) (es : List E3) (hl : es.length ≤ 1048576) : Fn Try.prog 19 [graphP m nil es] (.v (graphP m false es)) := by
  have hlen := edges_len es
  refine fn_of (l := [.cell 2 46]) Try.func19 (by kernel_rfl) rfl Try.ntmps19 rfl rfl ?_; simp only [argEnv, P0.d, Nat.reduceAdd, graphP, List.map_cons, List.map_nil]
  repeat' (first|(with_reducible first|refine aw_seq ?_|refine thn_normal ?_|refine thn_ret ?_|refine thn_exit ?_|refine blk_normal ?_|refine blk_ret ?_|refine blk_hit ?_|refine blk_miss rfl ?_|refine aw_block ?_|refine aw_ret ?_|refine aw_skip ?_|refine aw_exit ?_|refine w_nil ?_|refine x_nil (by kernel_rfl) ?_)|refine aw_region ?_|refine aw_region_draw (by kernel_rfl) ?_|refine aw_yes rfl ?_|refine aw_no rfl ?_|((with_reducible refine w_seq ?_); first|refine r_q tbOk rfl rfl rfl rfl ?_|refine r_e tbOk rfl rfl rfl rfl rfl ?_|refine r_yes tbOk rfl rfl rfl rfl rfl rfl ?_|refine w_no rfl rfl (lookO_spec rfl) rfl rfl rfl ?_|refine w_un rfl rfl (lookO_spec rfl) rfl rfl ?_)|((with_reducible refine w_drw ?_); first|refine rx_q tbOk rfl rfl rfl rfl ?_|refine rx_e tbOk rfl rfl rfl rfl rfl ?_|refine rx_yes tbOk rfl rfl rfl rfl rfl rfl ?_|refine x_no rfl rfl (lookO_spec rfl) rfl rfl rfl ?_|refine x_un rfl rfl (lookO_spec rfl) rfl rfl ?_)|((first|refine' w_q rfl rfl ?xa rfl ?_|refine' v_q rfl rfl ?xa rfl ?_|refine' w_yes rfl rfl (lookO_spec rfl) rfl ?xa rfl ?_|refine' v_yes rfl rfl (lookO_spec rfl) rfl ?xa rfl ?_); case xa => exact k_call (f_toEdgeS _ _ hl) rfl ⟨asA_r (evO_spec rfl), trivial⟩)|((first|refine aw_ways rfl ?_ ?_|refine r_split rfl rfl rfl ?_ ?_) <;> intro hg_ <;> fail_if_success (exact Bool.noConfusion hg_)) <;> (try simp only [prn] at hg_) <;> (try first|contradiction|(exfalso; omega)))
  exact ret_v (rv_cell rfl rfl (by (with_reducible first | exact ty3 | exact ty4 | exact ty5 | exact ty9 | exact ty17 | exact ty19 | exact ty22 | exact ty24 | exact ty25 | exact ty26 | exact ty28 | exact ty36 | exact ty38 | exact ty40 | exact ty44 | exact ty46 | exact ty48 | exact ty55 | exact ty81 | exact ty84 | exact ty89 | exact ty95 | exact ty98 | exact ty105 | exact ty118 | exact ty122 | exact ty132 | exact ty134 | exact ty137 | exact ty143 | exact ty153 | exact ty155 | exact ty156 | exact ty161)) rfl rfl rfl (dres_agg (by (try simp only [List.set_cons_zero, List.set_cons_succ, Nat.reduceAdd, Nat.zero_add]); exact ⟨cres_val, cres_new, trivial⟩)))

set_option maxRecDepth 100000 in
set_option maxHeartbeats 2000000 in
theorem f_szEdgeS (nil : Bool) (es : List E3) (left : Int) (hl : es.length ≤ 9223372036854775807) (h1 : 0 ≤ left) (h2 : left ≤ 1048576) : Fn Try.prog 50 [.one (row nil 3 (edges es)), iP left] (.v (iP (if left < es.length then -1 else left - es.length))) := by
  have hlen := edges_len es
  have hw : IntKind.i64.wrap (left - ((edges es).length : Int)) = left - es.length := by rw [IntWalk.i64_in _ (by omega), hlen]
  refine fn_of (l := [.tmp 4]) Try.func50 (by kernel_rfl) rfl Try.ntmps50 rfl rfl ?_; simp only [argEnv, P0.d, Nat.reduceAdd, List.map_cons, List.map_nil]
  repeat' (first|(with_reducible first|refine aw_seq ?_|refine thn_normal ?_|refine thn_ret ?_|refine thn_exit ?_|refine blk_normal ?_|refine blk_ret ?_|refine blk_hit ?_|refine blk_miss rfl ?_|refine aw_block ?_|refine aw_ret ?_|refine aw_skip ?_|refine aw_exit ?_|refine w_nil ?_|refine x_nil (by kernel_rfl) ?_)|refine aw_region ?_|refine aw_region_draw (by kernel_rfl) ?_|refine aw_yes rfl ?_|refine aw_no rfl ?_|((with_reducible refine w_seq ?_); first|refine r_q tbOk rfl rfl rfl rfl ?_|refine r_e tbOk rfl rfl rfl rfl rfl ?_|refine r_yes tbOk rfl rfl rfl rfl rfl rfl ?_|refine w_no rfl rfl (lookO_spec rfl) rfl rfl rfl ?_|refine w_un rfl rfl (lookO_spec rfl) rfl rfl ?_)|((with_reducible refine w_drw ?_); first|refine rx_q tbOk rfl rfl rfl rfl ?_|refine rx_e tbOk rfl rfl rfl rfl rfl ?_|refine rx_yes tbOk rfl rfl rfl rfl rfl rfl ?_|refine x_no rfl rfl (lookO_spec rfl) rfl rfl rfl ?_|refine x_un rfl rfl (lookO_spec rfl) rfl rfl ?_)|((first|refine aw_ways rfl ?_ ?_|refine r_split rfl rfl rfl ?_ ?_) <;> intro hg_ <;> fail_if_success (exact Bool.noConfusion hg_)) <;> (try simp only [prn] at hg_) <;> (try first|contradiction|(exfalso; omega)))
  · refine ret_tmp rfl (dres_int ?_)
    rw [hw] at *
    rw [if_pos (by omega)]
  · refine ret_tmp rfl (dres_int ?_)
    rw [hw] at *
    rw [if_neg (by omega)]

set_option maxRecDepth 100000 in
set_option maxHeartbeats 2000000 in
theorem f_szGraph (m : Int) (nil : Bool) (es : List E3) (left : Int) (hl : es.length ≤ 9223372036854775807) (h1 : 0 ≤ left) (h2 : left ≤ 1048576) : Fn Try.prog 16 [graphP m nil es, iP left] (.v (iP (if left < es.length then -1 else left - es.length))) := by
  refine fn_of (l := [.tmp 4]) Try.func16 (by kernel_rfl) rfl Try.ntmps16 rfl rfl ?_; simp only [argEnv, P0.d, Nat.reduceAdd, graphP, List.map_cons, List.map_nil]
  repeat' (first|(with_reducible first|refine aw_seq ?_|refine thn_normal ?_|refine thn_ret ?_|refine thn_exit ?_|refine blk_normal ?_|refine blk_ret ?_|refine blk_hit ?_|refine blk_miss rfl ?_|refine aw_block ?_|refine aw_ret ?_|refine aw_skip ?_|refine aw_exit ?_|refine w_nil ?_|refine x_nil (by kernel_rfl) ?_)|refine aw_region ?_|refine aw_region_draw (by kernel_rfl) ?_|refine aw_yes rfl ?_|refine aw_no rfl ?_|((with_reducible refine w_seq ?_); first|refine r_q tbOk rfl rfl rfl rfl ?_|refine r_e tbOk rfl rfl rfl rfl rfl ?_|refine r_yes tbOk rfl rfl rfl rfl rfl rfl ?_|refine w_no rfl rfl (lookO_spec rfl) rfl rfl rfl ?_|refine w_un rfl rfl (lookO_spec rfl) rfl rfl ?_)|((with_reducible refine w_drw ?_); first|refine rx_q tbOk rfl rfl rfl rfl ?_|refine rx_e tbOk rfl rfl rfl rfl rfl ?_|refine rx_yes tbOk rfl rfl rfl rfl rfl rfl ?_|refine x_no rfl rfl (lookO_spec rfl) rfl rfl rfl ?_|refine x_un rfl rfl (lookO_spec rfl) rfl rfl ?_)|((first|refine' w_q rfl rfl ?xa rfl ?_|refine' v_q rfl rfl ?xa rfl ?_|refine' w_yes rfl rfl (lookO_spec rfl) rfl ?xa rfl ?_|refine' v_yes rfl rfl (lookO_spec rfl) rfl ?xa rfl ?_); case xa => exact k_call (f_szEdgeS _ _ left hl h1 h2) rfl ⟨asA_r (evO_spec rfl), asA_r (evO_spec rfl), trivial⟩)|((first|refine aw_ways rfl ?_ ?_|refine r_split rfl rfl rfl ?_ ?_) <;> intro hg_ <;> fail_if_success (exact Bool.noConfusion hg_)) <;> (try simp only [prn] at hg_) <;> (try first|contradiction|(exfalso; omega)))
  · refine ret_tmp rfl (dres_int ?_)
    split at * <;> omega
  · exact ret_tmp rfl (dres_int rfl)

set_option maxRecDepth 100000 in
set_option maxHeartbeats 2000000 in
theorem f_eqEdge (e : E3) : Fn Try.prog 102 [edgeP e, edgeP e] (.v (.one (bool true))) := by
  refine fn_of (l := [.tmp 4]) Try.func102 (by kernel_rfl) rfl Try.ntmps102 rfl rfl ?_; simp only [argEnv, P0.d, Nat.reduceAdd, edgeP, List.map_cons, List.map_nil]
  repeat' (first|(with_reducible first|refine aw_seq ?_|refine thn_normal ?_|refine thn_ret ?_|refine thn_exit ?_|refine blk_normal ?_|refine blk_ret ?_|refine blk_hit ?_|refine blk_miss rfl ?_|refine aw_block ?_|refine aw_ret ?_|refine aw_skip ?_|refine aw_exit ?_|refine w_nil ?_|refine x_nil (by kernel_rfl) ?_)|refine aw_region ?_|refine aw_region_draw (by kernel_rfl) ?_|refine aw_yes rfl ?_|refine aw_no rfl ?_|((with_reducible refine w_seq ?_); first|refine r_q tbOk rfl rfl rfl rfl ?_|refine r_e tbOk rfl rfl rfl rfl rfl ?_|refine r_yes tbOk rfl rfl rfl rfl rfl rfl ?_|refine w_no rfl rfl (lookO_spec rfl) rfl rfl rfl ?_|refine w_un rfl rfl (lookO_spec rfl) rfl rfl ?_)|((with_reducible refine w_drw ?_); first|refine rx_q tbOk rfl rfl rfl rfl ?_|refine rx_e tbOk rfl rfl rfl rfl rfl ?_|refine rx_yes tbOk rfl rfl rfl rfl rfl rfl ?_|refine x_no rfl rfl (lookO_spec rfl) rfl rfl rfl ?_|refine x_un rfl rfl (lookO_spec rfl) rfl rfl ?_)|((first|refine aw_ways rfl ?_ ?_|refine r_split rfl rfl rfl ?_ ?_) <;> intro hg_ <;> fail_if_success (exact Bool.noConfusion hg_)) <;> (try simp only [prn] at hg_) <;> (try first|contradiction|(exfalso; omega)))
  all_goals first
    | exact ret_tmp rfl (dres_bool rfl)
    | (exfalso; simp at *; done)

set_option maxRecDepth 100000 in
set_option maxHeartbeats 2000000 in
theorem f_eqEdgeS (nil nil' : Bool) (es : List E3) (hl : es.length ≤ 1048576) : Fn Try.prog 63 [.one (row nil 3 (edges es)), .one (row nil' 3 (edges es))] (.v (.one (bool true))) := by
  have hlen := edges_len es
  refine fn_of (l := [.tmp 4]) Try.func63 (by kernel_rfl) rfl Try.ntmps63 rfl rfl ?_; simp only [argEnv, P0.d, Nat.reduceAdd, List.map_cons, List.map_nil]
  repeat' (first|(with_reducible first|refine aw_seq ?_|refine thn_normal ?_|refine thn_ret ?_|refine thn_exit ?_|refine blk_normal ?_|refine blk_ret ?_|refine blk_hit ?_|refine blk_miss rfl ?_|refine aw_block ?_|refine aw_ret ?_|refine aw_skip ?_|refine aw_exit ?_|refine w_nil ?_|refine x_nil (by kernel_rfl) ?_)|refine aw_region ?_|refine aw_region_draw (by kernel_rfl) ?_|refine aw_yes rfl ?_|refine aw_no rfl ?_|((with_reducible refine w_seq ?_); first|refine r_q tbOk rfl rfl rfl rfl ?_|refine r_e tbOk rfl rfl rfl rfl rfl ?_|refine r_yes tbOk rfl rfl rfl rfl rfl rfl ?_|refine w_no rfl rfl (lookO_spec rfl) rfl rfl rfl ?_|refine w_un rfl rfl (lookO_spec rfl) rfl rfl ?_)|((with_reducible refine w_drw ?_); first|refine rx_q tbOk rfl rfl rfl rfl ?_|refine rx_e tbOk rfl rfl rfl rfl rfl ?_|refine rx_yes tbOk rfl rfl rfl rfl rfl rfl ?_|refine x_no rfl rfl (lookO_spec rfl) rfl rfl rfl ?_|refine x_un rfl rfl (lookO_spec rfl) rfl rfl ?_)|((first|refine aw_ways rfl ?_ ?_|refine r_split rfl rfl rfl ?_ ?_) <;> intro hg_ <;> fail_if_success (exact Bool.noConfusion hg_)) <;> (try simp only [prn] at hg_) <;> (try first|contradiction|(exfalso; omega)))
  refine aw_loopI (fun k : Nat => k ≤ es.length) (fun k => mkS 27 [(5, .one (.r true (int k))), (0, .one (.r false (row nil 3 (edges es)))), (1, .one (.r false (row nil' 3 (edges es))))] []) (fun k => es.length - k) 0 (Nat.zero_le _) (by (refine weak_ren [] rfl ?_ ?_ <;> repeat' (first|exact trivial|refine subR_cons rfl ?_ ?_|refine subHR_cons rfl ?_ ?_|rfl|(refine d_int ?_; (first|rfl|omega|(rw [IntWalk.i64_in _ (by omega)] <;> omega)|(simp; done)|(simp; omega)))|(refine d_bool ?_; (first|(simp_all; done)|(rw [Bool.eq_iff_iff]; simp_all; done)|(rw [Bool.eq_iff_iff]; simp_all; omega)|(rw [Bool.eq_iff_iff]; simp; omega)))))) ?_
  intro k hk
  repeat' (first|(with_reducible first|refine aw_seq ?_|refine thn_normal ?_|refine thn_ret ?_|refine thn_exit ?_|refine blk_normal ?_|refine blk_ret ?_|refine blk_hit ?_|refine blk_miss rfl ?_|refine aw_block ?_|refine aw_ret ?_|refine aw_skip ?_|refine aw_exit ?_|refine w_nil ?_|refine x_nil (by kernel_rfl) ?_)|refine aw_region ?_|refine aw_region_draw (by kernel_rfl) ?_|refine aw_yes rfl ?_|refine aw_no rfl ?_|((with_reducible refine w_seq ?_); first|refine r_q tbOk rfl rfl rfl rfl ?_|refine r_e tbOk rfl rfl rfl rfl rfl ?_|refine r_yes tbOk rfl rfl rfl rfl rfl rfl ?_|refine w_no rfl rfl (lookO_spec rfl) rfl rfl rfl ?_|refine w_un rfl rfl (lookO_spec rfl) rfl rfl ?_)|((with_reducible refine w_drw ?_); first|refine rx_q tbOk rfl rfl rfl rfl ?_|refine rx_e tbOk rfl rfl rfl rfl rfl ?_|refine rx_yes tbOk rfl rfl rfl rfl rfl rfl ?_|refine x_no rfl rfl (lookO_spec rfl) rfl rfl rfl ?_|refine x_un rfl rfl (lookO_spec rfl) rfl rfl ?_)|((first|refine' w_q rfl rfl ?xa rfl ?_|refine' v_q rfl rfl ?xa rfl ?_|refine' w_yes rfl rfl (lookO_spec rfl) rfl ?xa rfl ?_|refine' v_yes rfl rfl (lookO_spec rfl) rfl ?xa rfl ?_); case xa => first|exact k_index tbOk rfl rfl rfl rfl (by omega) (edges_at (by omega))|exact k_call (f_eqEdge (_, _, _)) rfl ⟨asA_agg (evO_spec rfl) ⟨cAr_r, cAr_r, cAr_r, trivial⟩, asA_agg (evO_spec rfl) ⟨cAr_r, cAr_r, cAr_r, trivial⟩, trivial⟩)|((first|refine aw_ways rfl ?_ ?_|refine r_split rfl rfl rfl ?_ ?_) <;> intro hg_ <;> fail_if_success (exact Bool.noConfusion hg_)) <;> (try simp only [prn] at hg_) <;> (try first|contradiction|(exfalso; omega)))
  · exact ⟨k + 1, by omega, by (refine weak_ren [] rfl ?_ ?_ <;> repeat' (first|exact trivial|refine subR_cons rfl ?_ ?_|refine subHR_cons rfl ?_ ?_|rfl|(refine d_int ?_; (first|rfl|omega|(rw [IntWalk.i64_in _ (by omega)] <;> omega)|(simp; done)|(simp; omega)))|(refine d_bool ?_; (first|(simp_all; done)|(rw [Bool.eq_iff_iff]; simp_all; done)|(rw [Bool.eq_iff_iff]; simp_all; omega)|(rw [Bool.eq_iff_iff]; simp; omega))))), by omega⟩
  · exact ret_tmp rfl (dres_bool rfl)

set_option maxRecDepth 100000 in
set_option maxHeartbeats 2000000 in
theorem f_eqIntS (nil nil' : Bool) (xs : List Int) (hl : xs.length ≤ 1048576) : Fn Try.prog 41 [.one (row nil 1 (ints xs)), .one (row nil' 1 (ints xs))] (.v (.one (bool true))) := by
  have hlen := ints_len xs
  refine fn_of (l := [.tmp 4]) Try.func41 (by kernel_rfl) rfl Try.ntmps41 rfl rfl ?_; simp only [argEnv, P0.d, Nat.reduceAdd, List.map_cons, List.map_nil]
  repeat' (first|(with_reducible first|refine aw_seq ?_|refine thn_normal ?_|refine thn_ret ?_|refine thn_exit ?_|refine blk_normal ?_|refine blk_ret ?_|refine blk_hit ?_|refine blk_miss rfl ?_|refine aw_block ?_|refine aw_ret ?_|refine aw_skip ?_|refine aw_exit ?_|refine w_nil ?_|refine x_nil (by kernel_rfl) ?_)|refine aw_region ?_|refine aw_region_draw (by kernel_rfl) ?_|refine aw_yes rfl ?_|refine aw_no rfl ?_|((with_reducible refine w_seq ?_); first|refine r_q tbOk rfl rfl rfl rfl ?_|refine r_e tbOk rfl rfl rfl rfl rfl ?_|refine r_yes tbOk rfl rfl rfl rfl rfl rfl ?_|refine w_no rfl rfl (lookO_spec rfl) rfl rfl rfl ?_|refine w_un rfl rfl (lookO_spec rfl) rfl rfl ?_)|((with_reducible refine w_drw ?_); first|refine rx_q tbOk rfl rfl rfl rfl ?_|refine rx_e tbOk rfl rfl rfl rfl rfl ?_|refine rx_yes tbOk rfl rfl rfl rfl rfl rfl ?_|refine x_no rfl rfl (lookO_spec rfl) rfl rfl rfl ?_|refine x_un rfl rfl (lookO_spec rfl) rfl rfl ?_)|((first|refine aw_ways rfl ?_ ?_|refine r_split rfl rfl rfl ?_ ?_) <;> intro hg_ <;> fail_if_success (exact Bool.noConfusion hg_)) <;> (try simp only [prn] at hg_) <;> (try first|contradiction|(exfalso; omega)))
  refine aw_loopI (fun k : Nat => k ≤ xs.length) (fun k => mkS 26 [(5, .one (.r true (int k))), (0, .one (.r false (row nil 1 (ints xs)))), (1, .one (.r false (row nil' 1 (ints xs))))] []) (fun k => xs.length - k) 0 (Nat.zero_le _) (by (refine weak_ren [] rfl ?_ ?_ <;> repeat' (first|exact trivial|refine subR_cons rfl ?_ ?_|refine subHR_cons rfl ?_ ?_|rfl|(refine d_int ?_; (first|rfl|omega|(rw [IntWalk.i64_in _ (by omega)] <;> omega)|(simp; done)|(simp; omega)))|(refine d_bool ?_; (first|(simp_all; done)|(rw [Bool.eq_iff_iff]; simp_all; done)|(rw [Bool.eq_iff_iff]; simp_all; omega)|(rw [Bool.eq_iff_iff]; simp; omega)))))) ?_
  intro k hk
  repeat' (first|(with_reducible first|refine aw_seq ?_|refine thn_normal ?_|refine thn_ret ?_|refine thn_exit ?_|refine blk_normal ?_|refine blk_ret ?_|refine blk_hit ?_|refine blk_miss rfl ?_|refine aw_block ?_|refine aw_ret ?_|refine aw_skip ?_|refine aw_exit ?_|refine w_nil ?_|refine x_nil (by kernel_rfl) ?_)|refine aw_region ?_|refine aw_region_draw (by kernel_rfl) ?_|refine aw_yes rfl ?_|refine aw_no rfl ?_|((with_reducible refine w_seq ?_); first|refine r_q tbOk rfl rfl rfl rfl ?_|refine r_e tbOk rfl rfl rfl rfl rfl ?_|refine r_yes tbOk rfl rfl rfl rfl rfl rfl ?_|refine w_no rfl rfl (lookO_spec rfl) rfl rfl rfl ?_|refine w_un rfl rfl (lookO_spec rfl) rfl rfl ?_)|((with_reducible refine w_drw ?_); first|refine rx_q tbOk rfl rfl rfl rfl ?_|refine rx_e tbOk rfl rfl rfl rfl rfl ?_|refine rx_yes tbOk rfl rfl rfl rfl rfl rfl ?_|refine x_no rfl rfl (lookO_spec rfl) rfl rfl rfl ?_|refine x_un rfl rfl (lookO_spec rfl) rfl rfl ?_)|((first|refine' w_q rfl rfl ?xa rfl ?_|refine' v_q rfl rfl ?xa rfl ?_|refine' w_yes rfl rfl (lookO_spec rfl) rfl ?xa rfl ?_|refine' v_yes rfl rfl (lookO_spec rfl) rfl ?xa rfl ?_); case xa => exact k_index tbOk rfl rfl rfl rfl (by omega) (ints_at (by omega)))|((first|refine aw_ways rfl ?_ ?_|refine r_split rfl rfl rfl ?_ ?_) <;> intro hg_ <;> fail_if_success (exact Bool.noConfusion hg_)) <;> (try simp only [prn] at hg_) <;> (try first|contradiction|(exfalso; omega)))
  · exact ⟨k + 1, by omega, by (refine weak_ren [] rfl ?_ ?_ <;> repeat' (first|exact trivial|refine subR_cons rfl ?_ ?_|refine subHR_cons rfl ?_ ?_|rfl|(refine d_int ?_; (first|rfl|omega|(rw [IntWalk.i64_in _ (by omega)] <;> omega)|(simp; done)|(simp; omega)))|(refine d_bool ?_; (first|(simp_all; done)|(rw [Bool.eq_iff_iff]; simp_all; done)|(rw [Bool.eq_iff_iff]; simp_all; omega)|(rw [Bool.eq_iff_iff]; simp; omega))))), by omega⟩
  · exact ret_tmp rfl (dres_bool rfl)

set_option maxRecDepth 100000 in
set_option maxHeartbeats 2000000 in
theorem f_eqGraph (m : Int) (nil nil' : Bool) (es : List E3) (hl : es.length ≤ 1048576) : Fn Try.prog 22 [graphP m nil es, graphP m nil' es] (.v (.one (bool true))) := by
  refine fn_of (l := [.tmp 4]) Try.func22 (by kernel_rfl) rfl Try.ntmps22 rfl rfl ?_; simp only [argEnv, P0.d, Nat.reduceAdd, graphP, List.map_cons, List.map_nil]
  repeat' (first|(with_reducible first|refine aw_seq ?_|refine thn_normal ?_|refine thn_ret ?_|refine thn_exit ?_|refine blk_normal ?_|refine blk_ret ?_|refine blk_hit ?_|refine blk_miss rfl ?_|refine aw_block ?_|refine aw_ret ?_|refine aw_skip ?_|refine aw_exit ?_|refine w_nil ?_|refine x_nil (by kernel_rfl) ?_)|refine aw_region ?_|refine aw_region_draw (by kernel_rfl) ?_|refine aw_yes rfl ?_|refine aw_no rfl ?_|((with_reducible refine w_seq ?_); first|refine r_q tbOk rfl rfl rfl rfl ?_|refine r_e tbOk rfl rfl rfl rfl rfl ?_|refine r_yes tbOk rfl rfl rfl rfl rfl rfl ?_|refine w_no rfl rfl (lookO_spec rfl) rfl rfl rfl ?_|refine w_un rfl rfl (lookO_spec rfl) rfl rfl ?_)|((with_reducible refine w_drw ?_); first|refine rx_q tbOk rfl rfl rfl rfl ?_|refine rx_e tbOk rfl rfl rfl rfl rfl ?_|refine rx_yes tbOk rfl rfl rfl rfl rfl rfl ?_|refine x_no rfl rfl (lookO_spec rfl) rfl rfl rfl ?_|refine x_un rfl rfl (lookO_spec rfl) rfl rfl ?_)|((first|refine' w_q rfl rfl ?xa rfl ?_|refine' v_q rfl rfl ?xa rfl ?_|refine' w_yes rfl rfl (lookO_spec rfl) rfl ?xa rfl ?_|refine' v_yes rfl rfl (lookO_spec rfl) rfl ?xa rfl ?_); case xa => exact k_call (f_eqEdgeS _ _ _ hl) rfl ⟨asA_r (evO_spec rfl), asA_r (evO_spec rfl), trivial⟩)|((first|refine aw_ways rfl ?_ ?_|refine r_split rfl rfl rfl ?_ ?_) <;> intro hg_ <;> fail_if_success (exact Bool.noConfusion hg_)) <;> (try simp only [prn] at hg_) <;> (try first|contradiction|(exfalso; omega)))
  all_goals first
    | exact ret_tmp rfl (dres_bool rfl)
    | (exfalso; simp at *; done)
end Go.Proofs.Ytmkecjamfippfaa.Abs
set_option linter.unusedSimpArgs false
set_option linter.unusedVariables false
namespace Go.Proofs.Ytmkecjamfippfaa.Abs
open Go.RowKit
open R (val row ref)

open Go.ChangeShapes Go.WideShapes Go.ChangeAt
def CsP (W : World) (cs : List Value) (x : P0) : Prop := cs.length = x.rs.length ∧ ∀ (j : Nat) (r : R), x.rs[j]? = some r → ∃ u, cs[j]? = some u ∧ r.p ⟨W, fun _ => False⟩ u
theorem CsP.append {W : World} {cs ds : List Value} {x y : P0} (h : CsP W cs x) (g : CsP W ds y) : CsP W (cs ++ ds) (.agg (x.rs ++ y.rs)) := by
  refine ⟨by simp [P0.rs, h.1, g.1], fun j r hj => ?_⟩
  have hj : (x.rs ++ y.rs)[j]? = some r := hj
  by_cases hl : j < x.rs.length
  · rw [List.getElem?_append_left hl] at hj
    obtain ⟨u, hu, hr⟩ := h.2 j r hj
    exact ⟨u, by rw [List.getElem?_append_left (by rw [h.1]; exact hl)]; exact hu, hr⟩
  · rw [List.getElem?_append_right (by omega)] at hj
    obtain ⟨u, hu, hr⟩ := g.2 _ r hj
    exact ⟨u, by rw [List.getElem?_append_right (by rw [h.1]; omega), h.1]; exact hu, hr⟩
theorem CsP.one {W : World} {v : Value} {r : R} (h : r.p ⟨W, fun _ => False⟩ v) : CsP W [v] (.one r) :=
  ⟨rfl, fun j r' hj => by
    match j, hj with
    | 0, hj => obtain rfl : r = r' := by simpa [P0.rs] using hj
               exact ⟨v, rfl, h⟩⟩
theorem CsP.agg {W : World} {cs : Array Value} {rs : List R} (h : CsP W cs.toList (.agg rs)) : (P0.agg rs).p ⟨W, fun _ => False⟩ (.agg cs) := ⟨cs.toList, by simp, h.1, h.2⟩

theorem block_lt' {w : World} {a : Addr} {v : Value} (h : w.cell? a = some v) : a.block < w.heap.size := by
  unfold World.cell? at h
  cases hb : w.heap[a.block]? with
  | none => simp [hb] at h
  | some _ => exact (Array.getElem?_eq_some_iff.1 hb).1
section
variable {H : Type} (enc : TypeId × Value → H) (W : World) (base : Nat) (spare : Nat → Bool) (held : Bool)
def Rdr (t : TypeId) (α : Type) (g : α → P0) (good : α → Prop) : Prop := ∀ (fuel : Nat) (cs : List Value) (x : DataW H × List MemPlace), DataW.trod enc Try.prog W base spare held fuel t cs = some x → ∃ z : α, good z ∧ CsP W cs (g z)
variable {enc W base spare held}
theorem rdr_int : Rdr enc W base spare held 3 Int iP I64 := fun _ _ _ h => by
  obtain ⟨n, rfl, hn⟩ := rd_int h
  exact ⟨n, hn, .one (val_p.2 ⟨rfl, rfl⟩)⟩
theorem rdr_two {t t0 t1 : TypeId} {f0 f1 : Field} {n0 n1 : Nat} {α β : Type} {g : α → P0} {g' : β → P0} {q : α → Prop} {q' : β → Prop} (r0 : Rdr enc W base spare held t0 α g q) (r1 : Rdr enc W base spare held t1 β g' q')
    (ht : Try.prog.underlying t = some (.struct #[f0, f1])) (h0 : f0.type = t0 ∧ f0.offset = 0) (h1 : f1.type = t1 ∧ f1.offset = n0) (c0 : Try.prog.cellsOf t0 = n0) (c1 : Try.prog.cellsOf t1 = n1)
    (hs : Try.prog.cellsOf t = n0 + n1) : Rdr enc W base spare held t (α × β) (fun z => .agg ((g z.1).rs ++ (g' z.2).rs)) (fun z => q z.1 ∧ q' z.2) := fun _ _ _ h => by
  obtain ⟨cs0, cs1, x0, x1, n, rfl, _, _, e0, e1⟩ := rd_struct2 ht h0 h1 c0 c1 hs h
  obtain ⟨z0, a0, b0⟩ := r0 _ _ _ e0
  obtain ⟨z1, a1, b1⟩ := r1 _ _ _ e1
  exact ⟨(z0, z1), ⟨a0, a1⟩, b0.append b1⟩
theorem rdr_three {t t0 t1 t2 : TypeId} {f0 f1 f2 : Field} {n0 n1 n2 : Nat} {α β γ : Type} {g : α → P0} {g' : β → P0} {g'' : γ → P0} {q : α → Prop} {q' : β → Prop} {q'' : γ → Prop} (r0 : Rdr enc W base spare held t0 α g q) (r1 : Rdr enc W base spare held t1 β g' q') (r2 : Rdr enc W base spare held t2 γ g'' q'')
    (ht : Try.prog.underlying t = some (.struct #[f0, f1, f2])) (h0 : f0.type = t0 ∧ f0.offset = 0) (h1 : f1.type = t1 ∧ f1.offset = n0) (h2 : f2.type = t2 ∧ f2.offset = n0 + n1) (c0 : Try.prog.cellsOf t0 = n0) (c1 : Try.prog.cellsOf t1 = n1) (c2 : Try.prog.cellsOf t2 = n2)
    (hs : Try.prog.cellsOf t = n0 + n1 + n2) : Rdr enc W base spare held t (α × β × γ) (fun z => .agg ((g z.1).rs ++ ((g' z.2.1).rs ++ (g'' z.2.2).rs))) (fun z => q z.1 ∧ q' z.2.1 ∧ q'' z.2.2) := fun _ _ _ h => by
  obtain ⟨cs0, cs1, cs2, x0, x1, x2, n, rfl, _, _, _, e0, e1, e2⟩ := rd_struct3 ht h0 h1 h2 c0 c1 c2 hs h
  obtain ⟨z0, a0, b0⟩ := r0 _ _ _ e0
  obtain ⟨z1, a1, b1⟩ := r1 _ _ _ e1
  obtain ⟨z2, a2, b2⟩ := r2 _ _ _ e2
  exact ⟨(z0, z1, z2), ⟨a0, a1, a2⟩, b0.append (b1.append b2)⟩
theorem rdr_slice {t e : TypeId} {sz : Nat} {α : Type} [Inhabited α] {g : α → P0} {q : α → Prop} (ht : Try.prog.underlying t = some (.slice e)) (ce : Try.prog.cellsOf e = sz) (hz : 0 < sz) (hg : ∀ z, (g z).rs.length = sz) (r0 : Rdr enc W base spare held e α g q) :
    Rdr enc W base spare held t (Bool × List α) (fun z => .one (row z.1 sz (z.2.map g))) (fun z => z.2.length ≤ maxLen ∧ ∀ y ∈ z.2, q y) := fun _ _ _ h => by
  rcases Go.Deep.open_slice ht h with ⟨rfl, _⟩ | ⟨a, len, cap, m, n, D, Pl, rfl, hb, hl, hm, hmm, _, hx⟩
  · exact ⟨(true, []), ⟨by simp, by simp⟩, .one (row_p.2 ⟨none, 0, rfl, ⟨by simp, by simp⟩, by simp, fun _ => rfl, by simp⟩)⟩
  · have hlm : len ≤ m := by rw [hmm]; split <;> omega
    have each : ∀ i, i < len → ∃ z : α, q z ∧ ∀ j r, (g z).rs[j]? = some r → ∃ u, W.cell? (a.add (i * sz + j)) = some u ∧ r.p ⟨W, fun _ => False⟩ u := by
      intro i hi
      obtain ⟨cs', h1, h2⟩ := hx i (by omega)
      rw [ce] at h1
      obtain ⟨_, hlen, hcell⟩ := World.cells?_some h1
      obtain ⟨z, hq, hz⟩ := r0 _ _ _ h2
      refine ⟨z, hq, fun j r hj => ?_⟩
      obtain ⟨u, hu, hr⟩ := hz.2 j r hj
      have hjl : j < sz := by rw [← hg z]; exact (List.getElem?_eq_some_iff.1 hj).1
      have := hcell j (by omega)
      rw [Go.Deep.add_add] at this
      refine ⟨u, ?_, hr⟩
      rw [this]
      exact hu
    obtain ⟨f, hf⟩ := Go.Deep.choose_lt each
    have hes : ((List.range len).map f).length = len := by simp
    have hgl : (((List.range len).map f).map g).length = len := by simp
    refine ⟨(false, (List.range len).map f), ⟨by rw [hes]; omega, fun y hy => ?_⟩, .one (row_p.2 ⟨some a, cap, by rw [hgl], ⟨by rw [hgl]; exact hl, hm⟩, by simp, by simp, fun h0 => ?_⟩)⟩
    · simp only [List.mem_map, List.mem_range] at hy
      obtain ⟨i, hi, rfl⟩ := hy
      exact (hf i hi).1
    · rw [hgl] at h0
      have first : ∃ r, (g (f 0)).rs[0]? = some r := ⟨_, List.getElem?_eq_getElem (by rw [hg]; exact hz)⟩
      obtain ⟨r, hr⟩ := first
      obtain ⟨u, hu, _⟩ := (hf 0 h0).2 0 r hr
      have hae : a = ⟨a.block, a.off, none⟩ := by
        have h4 : a.add (0 * sz + 0) = a := by simp [Addr.add]
        rw [h4] at hu
        exact addr_of_cell hu
      have hin : a.block < W.heap.size := by
        have h4 : a.add (0 * sz + 0) = a := by simp [Addr.add]
        rw [h4] at hu
        exact block_lt' hu
      refine ⟨a.block, a.off, congrArg some hae, hin, id, fun i e he => ?_⟩
      simp only [List.getElem?_map, Option.map_eq_some_iff] at he
      obtain ⟨z, ⟨i', hi', rfl⟩, rfl⟩ := he
      obtain ⟨hil, rfl⟩ : i < len ∧ i = i' := by
        have := List.getElem?_eq_some_iff.1 hi'
        obtain ⟨h5, h6⟩ := this
        simp at h5 h6
        exact ⟨h5, h6⟩
      refine ⟨hg _, fun j r hj => ?_⟩
      obtain ⟨u, hu, hr⟩ := (hf i hil).2 j r hj
      refine ⟨u, ?_, hr⟩
      rw [hae, Addr.add_lit, ← Nat.add_assoc] at hu
      exact hu
theorem Rdr.turn {t : TypeId} {α : Type} {g g' : α → P0} {q q' : α → Prop} (h : Rdr enc W base spare held t α g q) (hg : ∀ z, g z = g' z) (hq : ∀ z, q z → q' z) : Rdr enc W base spare held t α g' q' := fun _ _ _ e => by
  obtain ⟨z, h1, h2⟩ := h _ _ _ e
  exact ⟨z, hq z h1, hg z ▸ h2⟩
theorem rdr_ints : Rdr enc W base spare held 24 (Bool × List Int) (fun z => .one (row z.1 1 (ints z.2))) (fun z => z.2.length ≤ maxLen ∧ ∀ y ∈ z.2, I64 y) :=
  (rdr_slice (sz := 1) Try.underlying24 (by kernel_rfl) (by omega) (fun _ => rfl) rdr_int).turn (fun _ => rfl) (fun _ h => h)
theorem rdr_edge : Rdr enc W base spare held 118 E3 edgeP (fun _ => True) :=
  (rdr_three (n0 := 1) (n1 := 1) (n2 := 1) rdr_int rdr_int rdr_int Try.underlying118 ⟨rfl, rfl⟩ ⟨rfl, rfl⟩ ⟨rfl, rfl⟩ (by kernel_rfl) (by kernel_rfl) (by kernel_rfl) (by kernel_rfl)).turn (fun _ => rfl) (fun _ _ => trivial)
theorem rdr_edges : Rdr enc W base spare held 36 (Bool × List E3) (fun z => .one (row z.1 3 (edges z.2))) (fun z => z.2.length ≤ maxLen) :=
  (rdr_slice (sz := 3) Try.underlying36 (by kernel_rfl) (by omega) (fun _ => rfl) rdr_edge).turn (fun _ => rfl) (fun _ h => h.1)
theorem rdr_graph : Rdr enc W base spare held 38 (Int × Bool × List E3) (fun z => graphP z.1 z.2.1 z.2.2) (fun z => I64 z.1 ∧ z.2.2.length ≤ maxLen) :=
  (rdr_two (n0 := 1) (n1 := 1) rdr_int rdr_edges Try.underlying38 ⟨rfl, rfl⟩ ⟨rfl, rfl⟩ (by kernel_rfl) (by kernel_rfl) (by kernel_rfl)).turn (fun _ => rfl) (fun _ h => h)
end
theorem law_calls {f : FuncId} {args : List P0} (h : Fn Try.prog f args (.v (.one (bool true)))) {W : World} {vs : Array Value} (hG : Glob W.heap.size W) (hA : Args ⟨W, fun _ => False⟩ vs.toList args) :
    Calls Try.prog f vs W fun e w' => e = .returned (.bool true) ∧ Below W.heap.size W w' := by
  refine (h.2 W vs.toList hG hA).mono ?_
  rintro e w' ⟨v, rfl, hv, hb⟩
  exact ⟨by rw [(val_p.1 (show (bool true).p ⟨w', fun b => b < W.heap.size⟩ v from hv)).1], hb⟩
end Go.Proofs.Ytmkecjamfippfaa.Abs
set_option linter.unusedSimpArgs false
set_option linter.unusedVariables false
namespace Go.Proofs.Ytmkecjamfippfaa.Abs
open Go.RowKit
open R (val row ref)

set_option maxRecDepth 100000 in
set_option maxHeartbeats 2000000 in
theorem f_l4Before (a b : E3) : Fn Try.prog 92 [edgeP a, edgeP b] (.v (.one (bool (before a b)))) := by
  refine fn_of (l := [.tmp 4]) Try.func92 (by kernel_rfl) rfl Try.ntmps92 rfl rfl ?_; simp only [argEnv, P0.d, Nat.reduceAdd, edgeP, List.map_cons, List.map_nil]
  repeat' (first|(with_reducible first|refine aw_seq ?_|refine thn_normal ?_|refine thn_ret ?_|refine thn_exit ?_|refine blk_normal ?_|refine blk_ret ?_|refine blk_hit ?_|refine blk_miss rfl ?_|refine aw_block ?_|refine aw_ret ?_|refine aw_skip ?_|refine aw_exit ?_|refine w_nil ?_|refine x_nil (by kernel_rfl) ?_)|refine aw_region ?_|refine aw_region_draw (by kernel_rfl) ?_|refine aw_yes rfl ?_|refine aw_no rfl ?_|((with_reducible refine w_seq ?_); first|refine r_q tbOk rfl rfl rfl rfl ?_|refine r_e tbOk rfl rfl rfl rfl rfl ?_|refine r_yes tbOk rfl rfl rfl rfl rfl rfl ?_|refine w_no rfl rfl (lookO_spec rfl) rfl rfl rfl ?_|refine w_un rfl rfl (lookO_spec rfl) rfl rfl ?_)|((with_reducible refine w_drw ?_); first|refine rx_q tbOk rfl rfl rfl rfl ?_|refine rx_e tbOk rfl rfl rfl rfl rfl ?_|refine rx_yes tbOk rfl rfl rfl rfl rfl rfl ?_|refine x_no rfl rfl (lookO_spec rfl) rfl rfl rfl ?_|refine x_un rfl rfl (lookO_spec rfl) rfl rfl ?_)|((first|refine aw_ways rfl ?_ ?_|refine r_split rfl rfl rfl ?_ ?_) <;> intro hg_ <;> fail_if_success (exact Bool.noConfusion hg_)) <;> (try simp only [prn] at hg_) <;> (try first|contradiction|(exfalso; omega)))
  all_goals exact ret_tmp rfl (dres_bool (by unfold before; (first | (simp_all; done) | (rw [Bool.eq_iff_iff]; simp_all; done) | (rw [Bool.eq_iff_iff]; simp_all; omega) | (rw [Bool.eq_iff_iff]; simp; omega))))

def inU (u v : Int) : Bool := decide (0 ≤ v ∧ v ≤ u)
theorem gOk_spec (m : Int) (es : List E3) : gOk m es = (decide (0 ≤ m ∧ m ≤ 16) && decide (es.length ≤ 40) && chain (inU (IntKind.i64.wrap (m - 1))) none es) := by
  unfold gOk
  by_cases h : 0 ≤ m ∧ m ≤ 16
  · rw [IntWalk.i64_in _ (by omega), chain_congr (P := hasV m) (Q := inU (m - 1)) (fun v => by unfold hasV inU; rw [Bool.eq_iff_iff]; simp; omega)]
  · simp [h]
theorem eOk_in (u : Int) (e : E3) : eOk (inU u) e = (inR 0 u e.1 && inR 0 u e.2.1 && decide (e.1 ≠ e.2.1) && inR 0 20 e.2.2) := rfl
theorem prevE_pos {es : List E3} {k : Nat} (h : 0 < k) (hk : k ≤ es.length) : prevE es k = some (es[k - 1]'(by omega)) := by
  obtain ⟨j, rfl⟩ : ∃ j, k = j + 1 := ⟨k - 1, by omega⟩
  simp [prevE, show j < es.length by omega]
set_option maxRecDepth 100000 in
set_option maxHeartbeats 4000000 in
theorem f_specGraphValid (m : Int) (nil : Bool) (es : List E3) (hl : es.length ≤ maxLen) : Fn Try.prog 53 [graphP m nil es] (.v (.one (bool (gOk m es)))) := by
  have hlen := edges_len es
  have hml : es.length ≤ 9223372036854775807 := hl
  refine fn_of (l := [.tmp 2]) Try.func53 (by kernel_rfl) rfl Try.ntmps53 rfl rfl ?_; simp only [argEnv, P0.d, Nat.reduceAdd, graphP, List.map_cons, List.map_nil]
  repeat' (first|(with_reducible first|refine aw_seq ?_|refine thn_normal ?_|refine thn_ret ?_|refine thn_exit ?_|refine blk_normal ?_|refine blk_ret ?_|refine blk_hit ?_|refine blk_miss rfl ?_|refine aw_block ?_|refine aw_ret ?_|refine aw_skip ?_|refine aw_exit ?_|refine w_nil ?_|refine x_nil (by kernel_rfl) ?_)|refine aw_region ?_|refine aw_region_draw (by kernel_rfl) ?_|refine aw_yes rfl ?_|refine aw_no rfl ?_|((with_reducible refine w_seq ?_); first|refine r_q tbOk rfl rfl rfl rfl ?_|refine r_e tbOk rfl rfl rfl rfl rfl ?_|refine r_yes tbOk rfl rfl rfl rfl rfl rfl ?_|refine w_no rfl rfl (lookO_spec rfl) rfl rfl rfl ?_|refine w_un rfl rfl (lookO_spec rfl) rfl rfl ?_)|((with_reducible refine w_drw ?_); first|refine rx_q tbOk rfl rfl rfl rfl ?_|refine rx_e tbOk rfl rfl rfl rfl rfl ?_|refine rx_yes tbOk rfl rfl rfl rfl rfl rfl ?_|refine x_no rfl rfl (lookO_spec rfl) rfl rfl rfl ?_|refine x_un rfl rfl (lookO_spec rfl) rfl rfl ?_)|((first|refine aw_ways rfl ?_ ?_|refine r_split rfl rfl rfl ?_ ?_) <;> intro hg_ <;> fail_if_success (exact Bool.noConfusion hg_)) <;> (try simp only [prn] at hg_) <;> (try first|contradiction|(exfalso; omega)))
  refine aw_loopI (fun k : Nat => k ≤ es.length ∧ chain (inU (IntKind.i64.wrap (m - 1))) none es = chain (inU (IntKind.i64.wrap (m - 1))) (prevE es k) (es.drop k)) (fun k => mkS 70 [(3, .one (.r true (int k))), (1, .one (.ptr 1 0 0 0))] [(1, .var 46 [.r false (int m), .r false (row nil 3 (edges es))])]) (fun k => es.length - k) 0 ⟨Nat.zero_le _, rfl⟩ (by (refine weak_ren [] rfl ?_ ?_ <;> repeat' (first|exact trivial|refine subR_cons rfl ?_ ?_|refine subHR_cons rfl ?_ ?_|rfl|(refine d_int ?_; (first|rfl|omega|(rw [IntWalk.i64_in _ (by omega)] <;> omega)|(simp; done)|(simp; omega)))|(refine d_bool ?_; (first|(simp_all; done)|(rw [Bool.eq_iff_iff]; simp_all; done)|(rw [Bool.eq_iff_iff]; simp_all; omega)|(rw [Bool.eq_iff_iff]; simp; omega)))))) ?_
  rintro k ⟨hk, HP⟩
  have hixp : ∀ h : 0 < k, k ≤ es.length → (edges es)[(IntKind.i64.wrap ((k : Int) - 1)).toNat]? = some (edgeP (es[k-1]'(by omega))) := fun h h' => by
    rw [IntWalk.i64_in _ (by omega), show ((k : Int) - 1).toNat = k - 1 by omega]; exact edges_get (by omega)
  have hw1 : 0 < k → 0 ≤ IntKind.i64.wrap ((k : Int) - 1) := fun h => by rw [IntWalk.i64_in _ (by omega)]; omega
  repeat' (first|(with_reducible first|refine aw_seq ?_|refine thn_normal ?_|refine thn_ret ?_|refine thn_exit ?_|refine blk_normal ?_|refine blk_ret ?_|refine blk_hit ?_|refine blk_miss rfl ?_|refine aw_block ?_|refine aw_ret ?_|refine aw_skip ?_|refine aw_exit ?_|refine w_nil ?_|refine x_nil (by kernel_rfl) ?_)|refine aw_region ?_|refine aw_region_draw (by kernel_rfl) ?_|refine aw_yes rfl ?_|refine aw_no rfl ?_|((with_reducible refine w_seq ?_); first|refine r_q tbOk rfl rfl rfl rfl ?_|refine r_e tbOk rfl rfl rfl rfl rfl ?_|refine r_yes tbOk rfl rfl rfl rfl rfl rfl ?_|refine w_no rfl rfl (lookO_spec rfl) rfl rfl rfl ?_|refine w_un rfl rfl (lookO_spec rfl) rfl rfl ?_)|((with_reducible refine w_drw ?_); first|refine rx_q tbOk rfl rfl rfl rfl ?_|refine rx_e tbOk rfl rfl rfl rfl rfl ?_|refine rx_yes tbOk rfl rfl rfl rfl rfl rfl ?_|refine x_no rfl rfl (lookO_spec rfl) rfl rfl rfl ?_|refine x_un rfl rfl (lookO_spec rfl) rfl rfl ?_)|((first|refine' w_q rfl rfl ?xa rfl ?_|refine' v_q rfl rfl ?xa rfl ?_|refine' w_yes rfl rfl (lookO_spec rfl) rfl ?xa rfl ?_|refine' v_yes rfl rfl (lookO_spec rfl) rfl ?xa rfl ?_); case xa => first|exact k_index tbOk rfl rfl rfl rfl (by first|omega|exact hw1 (by omega)) (by first|exact edges_at (by omega)|exact hixp (by omega) (by omega))|exact k_call (f_l1In _ _ _) rfl ⟨asA_r (evO_spec rfl), asA_r (evO_spec rfl), asA_r (evO_spec rfl), trivial⟩|exact k_call (f_l4Before (_, _, _) (_, _, _)) rfl ⟨asA_agg (evO_spec rfl) ⟨cAr_r, cAr_r, cAr_r, trivial⟩, asA_agg (evO_spec rfl) ⟨cAr_r, cAr_r, cAr_r, trivial⟩, trivial⟩)|((first|refine aw_ways rfl ?_ ?_|refine r_split rfl rfl rfl ?_ ?_) <;> intro hg_ <;> fail_if_success (exact Bool.noConfusion hg_)) <;> (try simp only [prn] at hg_) <;> (try first|contradiction|(exfalso; omega)))
  · exact ret_tmp rfl (dres_bool (by rw [gOk_spec, HP, chain_step (by omega), eOk_in]; simp_all))
  · exact ret_tmp rfl (dres_bool (by rw [gOk_spec, HP, chain_step (by omega), eOk_in]; simp_all))
  · exact ret_tmp rfl (dres_bool (by rw [gOk_spec, HP, chain_step (by omega), eOk_in]; simp_all))
  · exact ret_tmp rfl (dres_bool (by rw [gOk_spec, HP, chain_step (by omega), eOk_in]; simp_all))
  · exact ret_tmp rfl (dres_bool (by rw [gOk_spec, HP, chain_step (by omega), prevE_pos (by omega) hk]; simp_all [ordOk]))
  · exact ⟨k + 1, ⟨by omega, by rw [HP, chain_step (by omega), eOk_in, prevE_pos (by omega) hk]; simp_all [ordOk]⟩, by (refine weak_ren [] rfl ?_ ?_ <;> repeat' (first|exact trivial|refine subR_cons rfl ?_ ?_|refine subHR_cons rfl ?_ ?_|rfl|(refine d_int ?_; (first|rfl|omega|(rw [IntWalk.i64_in _ (by omega)] <;> omega)|(simp; done)|(simp; omega)))|(refine d_bool ?_; (first|(simp_all; done)|(rw [Bool.eq_iff_iff]; simp_all; done)|(rw [Bool.eq_iff_iff]; simp_all; omega)|(rw [Bool.eq_iff_iff]; simp; omega))))), by omega⟩
  · obtain rfl : k = 0 := by omega
    exact ⟨1, ⟨by omega, by rw [HP, chain_step (by omega), eOk_in]; simp_all [ordOk, prevE]⟩, by (refine weak_ren [] rfl ?_ ?_ <;> repeat' (first|exact trivial|refine subR_cons rfl ?_ ?_|refine subHR_cons rfl ?_ ?_|rfl|(refine d_int ?_; (first|rfl|omega|(rw [IntWalk.i64_in _ (by omega)] <;> omega)|(simp; done)|(simp; omega)))|(refine d_bool ?_; (first|(simp_all; done)|(rw [Bool.eq_iff_iff]; simp_all; done)|(rw [Bool.eq_iff_iff]; simp_all; omega)|(rw [Bool.eq_iff_iff]; simp; omega))))), by omega⟩
  · exact ret_tmp rfl (dres_bool (by rw [gOk_spec, HP, chain_end (by omega)]; unfold inR at *; simp_all; omega))
  · exact ret_tmp rfl (dres_bool (by rw [gOk_spec]; unfold inR at *; simp_all; intros; omega))

theorem flat_ints (xs : List Int) : flat (ints xs) = xs.map int := by
  unfold flat ints
  rw [List.flatMap_map]
  induction xs with
  | nil => rfl
  | cons x xs ih => rw [List.flatMap_cons, ih]; rfl
theorem flat_edges : ∀ es : List E3, flat (edges es) = (ev es).map val
  | [] => rfl
  | e :: es => by
    have := flat_edges es
    unfold flat edges at this ⊢
    rw [List.map_cons, List.flatMap_cons, this]
    rfl
theorem src_of {c : Cx} {v : Value} {nil : Bool} {sz : Nat} {els : List P0} {us : List Value} (h : (row nil sz els).p c v) (hf : flat els = us.map val) (hn : us.length = els.length * sz) : ∃ ao cap, v = .slice ao els.length cap ∧ Src c.w ao els.length sz us ∧ els.length ≤ cap ∧ cap ≤ maxLen ∧ (ao = none → cap = 0) := by
  obtain ⟨ao, cap, h1, h2, h3, h4, h5⟩ := row_p.1 h
  refine ⟨ao, cap, h1, ⟨hn, fun hp => ?_⟩, h2.1, h2.2, h4⟩
  obtain ⟨b, o, e1, e2, e3, e4⟩ := h5 hp
  obtain ⟨f1, f2⟩ := flat_of (q := fun p r => ∃ u, c.w.cell? ⟨b, o + p, none⟩ = some u ∧ r.p c u) (fun i e hi => ⟨(e4 i e hi).1, fun j r hj => by
    obtain ⟨u, hu, hr⟩ := (e4 i e hi).2 j r hj
    exact ⟨u, by rw [← Nat.add_assoc]; exact hu, hr⟩⟩)
  refine ⟨b, o, e1, fun j u hj => ?_⟩
  obtain ⟨u', hu, hr⟩ := f2 j (val u) (by rw [hf]; simp [hj])
  rw [(val_p.1 hr).1] at hu
  exact hu
theorem edges_arg {c : Cx} {v : Value} {nil : Bool} {es : List E3} (h : (row nil 3 (edges es)).p c v) : ∃ ao cap, v = .slice ao es.length cap ∧ Se c.w ao es ∧ es.length ≤ cap ∧ cap ≤ maxLen ∧ (ao = none → cap = 0) := by
  obtain ⟨ao, cap, h1, h2, h3⟩ := src_of (us := ev es) h (flat_edges es) (by rw [ev_len, edges_len])
  rw [edges_len] at h1 h2 h3
  exact ⟨ao, cap, h1, h2, h3⟩
theorem ints_arg {c : Cx} {v : Value} {nil : Bool} {xs : List Int} (h : (row nil 1 (ints xs)).p c v) : ∃ ao cap, v = .slice ao xs.length cap ∧ Sl c.w ao xs ∧ xs.length ≤ cap ∧ cap ≤ maxLen ∧ (ao = none → cap = 0) := by
  obtain ⟨ao, cap, h1, h2, h3⟩ := src_of (us := iv xs) h (by rw [flat_ints]; simp [iv]) (by simp [iv, ints_len])
  rw [ints_len] at h1 h2 h3
  exact ⟨ao, cap, h1, h2, h3⟩
theorem graph_arg {c : Cx} {v : Value} {m : Int} {nil : Bool} {es : List E3} (h : (graphP m nil es).p c v) : ∃ ao cap, v = gr m ao es.length cap ∧ Se c.w ao es := by
  obtain ⟨vs, h1, h2, h3⟩ := h
  obtain ⟨u0, e0, p0⟩ := h3 0 _ rfl
  obtain ⟨u1, e1, p1⟩ := h3 1 _ rfl
  obtain ⟨ao, cap, f1, f2, _⟩ := edges_arg p1
  have hv : vs = [u0, u1] := by
    match vs, h2, e0, e1 with
    | [a, b], _, e0, e1 => simp at e0 e1; rw [e0, e1]
  have hu0 := (val_p.1 p0).1
  subst hv hu0 f1
  exact ⟨ao, cap, h1, f2⟩
theorem bool_res (c : Cx) (b : Bool) : (Res.v (.one (bool b))).p c (.bool b) := (val_p (c := c)).2 ⟨rfl, rfl⟩
theorem f_implGraphValid (m : Int) (nil : Bool) (es : List E3) (hl : es.length ≤ maxLen) : Fn Try.prog 59 [graphP m nil es] (.v (.one (bool (gOk m es)))) := by
  refine ⟨ent_of Try.func59 (by kernel_rfl) rfl, fun w vs _ hA => ?_⟩
  match vs, hA with
  | [v], ⟨h1, _⟩ =>
    obtain ⟨ao, cap, rfl, hs⟩ := graph_arg h1
    refine (implGraphValid m ao cap es w hl hs).mono ?_
    rintro e w' ⟨rfl, hb⟩
    exact ⟨_, rfl, bool_res _ _, hb⟩
end Go.Proofs.Ytmkecjamfippfaa.Abs
set_option linter.unusedSimpArgs false
set_option linter.unusedVariables false
namespace Go.Proofs.Ytmkecjamfippfaa
open Go.RowKit

theorem bvI (ao : Option Addr) (c : Nat) (xs : List Int) (w : World) (hl : xs.length ≤ 1048576) (h : Sl w ao xs) :
    Calls Try.prog 98 #[.slice ao xs.length c] w fun e w' => e = .returned (.bool (bytesOk xs)) ∧ w = w' := by
  obtain ⟨b, o, ha, hi⟩ := h.ints
  exact implBytesValid ao b o c xs w (by simp only [maxLen]; omega) ha hi
theorem bvS (ao : Option Addr) (c : Nat) (xs : List Int) (w : World) (hl : xs.length ≤ 4194304) (h : Sl w ao xs) :
    Calls Try.prog 93 #[.slice ao xs.length c] w fun e w' => e = .returned (.bool (bytesOk xs)) ∧ w = w' := by
  obtain ⟨b, o, ha, hi⟩ := h.ints
  exact specBytesValid ao b o c xs w (by simp only [maxLen]; omega) ha hi

abbrev dk (a1 : Option Addr) (n1 c1 : Nat) (a2 : Option Addr) (n2 c2 : Nat) : Value := .agg #[.slice a1 n1 c1, .slice a2 n2 c2]
def diskOk (xs ys : List Int) : Bool := bytesOk xs && bytesOk ys && decide (xs.length + ys.length ≤ 2000)

set_option maxRecDepth 100000 in
set_option maxHeartbeats 1000000 in
theorem implDiskValid (a1 a2 : Option Addr) (c1 c2 : Nat) (xs ys : List Int) (w : World) (hl1 : xs.length ≤ 1048576) (hl2 : ys.length ≤ 1048576) (h1 : Sl w a1 xs) (h2 : Sl w a2 ys) :
    Calls Try.prog 60 #[dk a1 xs.length c1 a2 ys.length c2] w fun e w' => e = .returned (.bool (diskOk xs ys)) ∧ Below w.heap.size w w' := by
  have B1 := fun o => Lib.hid (bvI a1 c1 xs (w.alloc o) hl1 (h1.alloc o))
  have B2 := fun o => Lib.hid (bvI a2 c2 ys (w.alloc o) hl2 (h2.alloc o))
  cases hx : bytesOk xs
  · rw [hx] at B1
    have HE : Hid (diskOk xs ys = false) := by unfold Hid diskOk; rw [hx]; rfl
    clear hx
    have B1 := Lib.hid B1; have B2 := Lib.hid B2
    go_enter Try.func60, Try.ntmps60
    go_wp2_with (go_at_call 98; refine (B1.out _).out.mono ?_; rintro e w1 ⟨rfl, rfl⟩)
    go_ret
    exact ⟨ret_bool HE.out.symm, (by repeat' (first|(with_reducible exact Below.refl _ _)|(with_reducible assumption)|(with_reducible refine Below.alloc ?_ ?_ _)|(with_reducible refine Below.drew ?_)|(with_reducible refine below_drewN ?_ _)|(with_reducible refine Below.setCell ?_ ?_ _)|(refine bstep (by with_reducible assumption) ?_)|(refine bstep2 (by with_reducible assumption) (by first|omega|(simp; done)|(simp; omega)) ?_)|go_size))⟩
  · cases hy : bytesOk ys
    · rw [hx] at B1
      rw [hy] at B2
      have HE : Hid (diskOk xs ys = false) := by unfold Hid diskOk; rw [hx, hy]; rfl
      clear hx hy
      have C1 := Lib.hid B1; have C2 := Lib.hid B2
      clear B1 B2
      go_enter Try.func60, Try.ntmps60
      go_wp2_with (go_at_call 98; first | ((with_reducible refine (C1.out _).out.mono ?_); rintro e w1 ⟨rfl, rfl⟩) | ((with_reducible refine (C2.out _).out.mono ?_); rintro e w1 ⟨rfl, rfl⟩))
      go_ret
      exact ⟨ret_bool HE.out.symm, (by repeat' (first|(with_reducible exact Below.refl _ _)|(with_reducible assumption)|(with_reducible refine Below.alloc ?_ ?_ _)|(with_reducible refine Below.drew ?_)|(with_reducible refine below_drewN ?_ _)|(with_reducible refine Below.setCell ?_ ?_ _)|(refine bstep (by with_reducible assumption) ?_)|(refine bstep2 (by with_reducible assumption) (by first|omega|(simp; done)|(simp; omega)) ?_)|go_size))⟩
    · rw [hx] at B1
      rw [hy] at B2
      have HE : Hid (diskOk xs ys = decide (((xs.length : Int) + ys.length) ≤ 2000)) := by unfold Hid diskOk; rw [hx, hy]; simp; omega
      clear hx hy
      have C1 := Lib.hid B1; have C2 := Lib.hid B2
      clear B1 B2
      go_enter Try.func60, Try.ntmps60
      go_wp2_with (go_at_call 98; first | ((with_reducible refine (C1.out _).out.mono ?_); rintro e w1 ⟨rfl, rfl⟩) | ((with_reducible refine (C2.out _).out.mono ?_); rintro e w1 ⟨rfl, rfl⟩))
      go_ret
      exact ⟨ret_bool HE.out.symm, (by repeat' (first|(with_reducible exact Below.refl _ _)|(with_reducible assumption)|(with_reducible refine Below.alloc ?_ ?_ _)|(with_reducible refine Below.drew ?_)|(with_reducible refine below_drewN ?_ _)|(with_reducible refine Below.setCell ?_ ?_ _)|(refine bstep (by with_reducible assumption) ?_)|(refine bstep2 (by with_reducible assumption) (by first|omega|(simp; done)|(simp; omega)) ?_)|go_size))⟩

set_option maxRecDepth 100000 in
set_option maxHeartbeats 1000000 in
theorem specDiskValid (a1 a2 : Option Addr) (c1 c2 : Nat) (xs ys : List Int) (w : World) (hl1 : xs.length ≤ 1048576) (hl2 : ys.length ≤ 1048576) (h1 : Sl w a1 xs) (h2 : Sl w a2 ys) :
    Calls Try.prog 54 #[dk a1 xs.length c1 a2 ys.length c2] w fun e w' => e = .returned (.bool (diskOk xs ys)) ∧ Below w.heap.size w w' := by
  by_cases hx : xs.length ≤ 2000
  · by_cases hy : ys.length ≤ 2000
    · have HE : Hid (diskOk xs ys = bytesOk (xs ++ ys)) := by
        unfold Hid diskOk bytesOk
        rw [Bool.eq_iff_iff]
        simp only [Bool.and_eq_true, decide_eq_true_eq, List.length_append, List.all_append]
        constructor
        · rintro ⟨⟨⟨_, h1⟩, ⟨_, h2⟩⟩, h3⟩; exact ⟨h3, h1, h2⟩
        · rintro ⟨h3, h1, h2⟩; exact ⟨⟨⟨hx, h1⟩, ⟨hy, h2⟩⟩, h3⟩
      have d1 : decide ((xs.length : Int) ≤ 2000) = true := by simp; omega
      have d2 : decide ((ys.length : Int) ≤ 2000) = true := by simp; omega
      have H1 := Lib.hid h1
      have H2 := Lib.hid h2
      clear h1 h2
      go_enter Try.func54, Try.ntmps54
      have HB : ∀ (W : World) (ao : Option Addr) (n c : Nat), n = xs.length + ys.length → Src W ao n 1 ([] ++ iv xs ++ iv ys) → Hid (Calls Try.prog 93 #[.slice ao n c] W fun e w' => e = .returned (.bool (diskOk xs ys)) ∧ W = w') := by
        intro W ao n c hn h
        subst hn
        rw [List.nil_append, ← List.map_append] at h
        apply Lib.hid
        rw [HE.out, show xs.length + ys.length = (xs ++ ys).length by simp]
        exact bvS ao c (xs ++ ys) W (by simp; omega) (by rw [show xs.length + ys.length = (xs ++ ys).length by simp] at h; exact h)
      have HB := Lib.hid HB
      go_wp2
      go_region_held3 (fun w' => w'.cell? ⟨w.heap.size, 0, none⟩ = some (.slice a1 xs.length c1) ∧ w'.cell? ⟨w.heap.size, 1, none⟩ = some (.slice a2 ys.length c2)) (go_keep) (first|(go_simp; go_at_call 93; (with_reducible refine (HB.out w4 ao4 (xs.length + ys.length) c4 rfl O4.out.src).out.mono ?_); rintro e w5 ⟨rfl, rfl⟩)|(refine step_appG _ el_int (by simp [go_sem]) (.tmp 14) (.tmp 16) (by rfl) (w.heap.size + 1) (by rfl) (own_new0 (by simp) (by simp)) (by rfl) ((H1.out.alloc _).alloc _) (oneCell_iv _) (by simp only [maxLen]; omega) (by omega) (by simp) ?_; intro ao3 c3 w3 hown3 hg3 hat3 hz3; obtain ⟨hcc3, hff3⟩ := gcell (rb := w.heap.size + 1) hg3; have hb3 : Below w.heap.size w w3 := (by refine below_gb (g := w.heap.size + 1) ?_ hg3 ?_ ?_ <;> first|omega|(simp; done)|(simp; omega)|exact (by repeat' (first|(with_reducible exact Below.refl _ _)|(with_reducible assumption)|(with_reducible refine Below.alloc ?_ ?_ _)|(with_reducible refine Below.drew ?_)|(with_reducible refine below_drewN ?_ _)|(with_reducible refine Below.setCell ?_ ?_ _)|(refine bstep (by with_reducible assumption) ?_)|(refine bstep2 (by with_reducible assumption) (by first|omega|(simp; done)|(simp; omega)) ?_)|go_size))); have hzz3 := hg3.size; (try simp only [World.size_alloc] at hzz3); have hlt3 : w.heap.size < w3.heap.size := (by simp at hzz3; omega); have O3 := Lib.hid hown3; clear hown3 hat3 hz3)|(refine step_appG _ el_int (by simp [go_sem]) (.tmp 17) (.tmp 19) (by rfl) (w.heap.size + 1) (by rfl) O3.out (by rfl) (H2.out.below hb3 (Nat.le_refl _)) (oneCell_iv _) (by simp only [maxLen]; omega) (by omega) (by omega) ?_; intro ao4 c4 w4 hown4 hg4 hat4 hz4; obtain ⟨hcc4, hff4⟩ := O3.out.far hg4; have hb4 : Below w.heap.size w w4 := hb3.grown hg4 hb3.size (fun g hg => by have := (O3.out.lt_ g hg).1; omega); have O4 := Lib.hid (own_len hown4 (show 0 + xs.length + ys.length = xs.length + ys.length by omega) rfl); clear hown4 hat4 hz4))
      go_wp2
      go_ret
      exact ⟨rfl, (by repeat' (first|(with_reducible exact Below.refl _ _)|(with_reducible assumption)|(with_reducible refine Below.alloc ?_ ?_ _)|(with_reducible refine Below.drew ?_)|(with_reducible refine below_drewN ?_ _)|(with_reducible refine Below.setCell ?_ ?_ _)|(refine bstep (by with_reducible assumption) ?_)|(refine bstep2 (by with_reducible assumption) (by first|omega|(simp; done)|(simp; omega)) ?_)|go_size))⟩
    · have d1 : decide ((xs.length : Int) ≤ 2000) = true := by simp; omega
      have d2 : decide ((ys.length : Int) ≤ 2000) = false := by simp; omega
      have HE : Hid (diskOk xs ys = false) := by unfold Hid diskOk; rw [Bool.and_eq_false_iff]; right; simp; omega
      clear h1 h2
      go_enter Try.func54, Try.ntmps54
      go_wp2
      go_quiet (fail)
      go_wp2
      go_ret
      exact ⟨ret_bool HE.out.symm, (by repeat' (first|(with_reducible exact Below.refl _ _)|(with_reducible assumption)|(with_reducible refine Below.alloc ?_ ?_ _)|(with_reducible refine Below.drew ?_)|(with_reducible refine below_drewN ?_ _)|(with_reducible refine Below.setCell ?_ ?_ _)|(refine bstep (by with_reducible assumption) ?_)|(refine bstep2 (by with_reducible assumption) (by first|omega|(simp; done)|(simp; omega)) ?_)|go_size))⟩
  · have d1 : decide ((xs.length : Int) ≤ 2000) = false := by simp; omega
    have HE : Hid (diskOk xs ys = false) := by unfold Hid diskOk; rw [Bool.and_eq_false_iff]; right; simp; omega
    clear h1 h2
    go_enter Try.func54, Try.ntmps54
    go_wp2
    go_quiet (fail)
    go_wp2
    go_ret
    exact ⟨ret_bool HE.out.symm, (by repeat' (first|(with_reducible exact Below.refl _ _)|(with_reducible assumption)|(with_reducible refine Below.alloc ?_ ?_ _)|(with_reducible refine Below.drew ?_)|(with_reducible refine below_drewN ?_ _)|(with_reducible refine Below.setCell ?_ ?_ _)|(refine bstep (by with_reducible assumption) ?_)|(refine bstep2 (by with_reducible assumption) (by first|omega|(simp; done)|(simp; omega)) ?_)|go_size))⟩

end Go.Proofs.Ytmkecjamfippfaa
set_option linter.unusedSimpArgs false
set_option linter.unusedVariables false
namespace Go.Proofs.Ytmkecjamfippfaa.Abs
open Go.RowKit
open R (val row ref)

abbrev diskP (n1 : Bool) (xs : List Int) (n2 : Bool) (ys : List Int) : P0 := .agg [row n1 1 (ints xs), row n2 1 (ints ys)]
def szL (left n : Int) : Int := if left < n then -1 else left - n
def szD (left : Int) (n k : Int) : Int := if left < n then -1 else szL (left - n) k
set_option maxRecDepth 100000 in
set_option maxHeartbeats 2000000 in
theorem f_szIntS (nil : Bool) (xs : List Int) (left : Int) (hl : xs.length ≤ 9223372036854775807) (h1 : 0 ≤ left) (h2 : left ≤ 1048576) : Fn Try.prog 36 [.one (row nil 1 (ints xs)), iP left] (.v (iP (szL left xs.length))) := by
  have hlen := ints_len xs
  have hw : IntKind.i64.wrap (left - ((ints xs).length : Int)) = left - xs.length := by rw [IntWalk.i64_in _ (by omega), hlen]
  unfold szL
  refine fn_of (l := [.tmp 4]) Try.func36 (by kernel_rfl) rfl Try.ntmps36 rfl rfl ?_; simp only [argEnv, P0.d, Nat.reduceAdd, List.map_cons, List.map_nil]
  repeat' (first|(with_reducible first|refine aw_seq ?_|refine thn_normal ?_|refine thn_ret ?_|refine thn_exit ?_|refine blk_normal ?_|refine blk_ret ?_|refine blk_hit ?_|refine blk_miss rfl ?_|refine aw_block ?_|refine aw_ret ?_|refine aw_skip ?_|refine aw_exit ?_|refine w_nil ?_|refine x_nil (by kernel_rfl) ?_)|refine aw_region ?_|refine aw_region_draw (by kernel_rfl) ?_|refine aw_yes rfl ?_|refine aw_no rfl ?_|((with_reducible refine w_seq ?_); first|refine r_q tbOk rfl rfl rfl rfl ?_|refine r_e tbOk rfl rfl rfl rfl rfl ?_|refine r_yes tbOk rfl rfl rfl rfl rfl rfl ?_|refine w_no rfl rfl (lookO_spec rfl) rfl rfl rfl ?_|refine w_un rfl rfl (lookO_spec rfl) rfl rfl ?_)|((with_reducible refine w_drw ?_); first|refine rx_q tbOk rfl rfl rfl rfl ?_|refine rx_e tbOk rfl rfl rfl rfl rfl ?_|refine rx_yes tbOk rfl rfl rfl rfl rfl rfl ?_|refine x_no rfl rfl (lookO_spec rfl) rfl rfl rfl ?_|refine x_un rfl rfl (lookO_spec rfl) rfl rfl ?_)|((first|refine aw_ways rfl ?_ ?_|refine r_split rfl rfl rfl ?_ ?_) <;> intro hg_ <;> fail_if_success (exact Bool.noConfusion hg_)) <;> (try simp only [prn] at hg_) <;> (try first|contradiction|(exfalso; omega)))
  · refine ret_tmp rfl (dres_int ?_)
    rw [hw] at *
    rw [if_pos (by omega)]
  · refine ret_tmp rfl (dres_int ?_)
    rw [hw] at *
    rw [if_neg (by omega)]
set_option maxRecDepth 100000 in
set_option maxHeartbeats 2000000 in
theorem f_szDisk (n1 n2 : Bool) (xs ys : List Int) (left : Int) (hl : xs.length ≤ 9223372036854775807) (hl' : ys.length ≤ 9223372036854775807) (h1 : 0 ≤ left) (h2 : left ≤ 1048576) : Fn Try.prog 17 [diskP n1 xs n2 ys, iP left] (.v (iP (szD left xs.length ys.length))) := by
  by_cases h : left < xs.length
  · have KZ := f_szIntS n1 xs left hl h1 h2
    rw [show szL left xs.length = -1 from if_pos h] at KZ
    rw [show szD left xs.length ys.length = -1 from if_pos h]
    refine fn_of (l := [.tmp 4]) Try.func17 (by kernel_rfl) rfl Try.ntmps17 rfl rfl ?_; simp only [argEnv, P0.d, Nat.reduceAdd, diskP, List.map_cons, List.map_nil]
    repeat' (first|(with_reducible first|refine aw_seq ?_|refine thn_normal ?_|refine thn_ret ?_|refine thn_exit ?_|refine blk_normal ?_|refine blk_ret ?_|refine blk_hit ?_|refine blk_miss rfl ?_|refine aw_block ?_|refine aw_ret ?_|refine aw_skip ?_|refine aw_exit ?_|refine w_nil ?_|refine x_nil (by kernel_rfl) ?_)|refine aw_region ?_|refine aw_region_draw (by kernel_rfl) ?_|refine aw_yes rfl ?_|refine aw_no rfl ?_|((with_reducible refine w_seq ?_); first|refine r_q tbOk rfl rfl rfl rfl ?_|refine r_e tbOk rfl rfl rfl rfl rfl ?_|refine r_yes tbOk rfl rfl rfl rfl rfl rfl ?_|refine w_no rfl rfl (lookO_spec rfl) rfl rfl rfl ?_|refine w_un rfl rfl (lookO_spec rfl) rfl rfl ?_)|((with_reducible refine w_drw ?_); first|refine rx_q tbOk rfl rfl rfl rfl ?_|refine rx_e tbOk rfl rfl rfl rfl rfl ?_|refine rx_yes tbOk rfl rfl rfl rfl rfl rfl ?_|refine x_no rfl rfl (lookO_spec rfl) rfl rfl rfl ?_|refine x_un rfl rfl (lookO_spec rfl) rfl rfl ?_)|((first|refine' w_q rfl rfl ?xa rfl ?_|refine' v_q rfl rfl ?xa rfl ?_|refine' w_yes rfl rfl (lookO_spec rfl) rfl ?xa rfl ?_|refine' v_yes rfl rfl (lookO_spec rfl) rfl ?xa rfl ?_); case xa => exact k_call KZ rfl ⟨asA_r (evO_spec rfl), asA_r (evO_spec rfl), trivial⟩)|((first|refine aw_ways rfl ?_ ?_|refine r_split rfl rfl rfl ?_ ?_) <;> intro hg_ <;> fail_if_success (exact Bool.noConfusion hg_)) <;> (try simp only [prn] at hg_) <;> (try first|contradiction|(exfalso; omega)))
    all_goals first
      | exact ret_tmp rfl (dres_int rfl)
      | trace_state
  · have KZ := f_szIntS n1 xs left hl h1 h2
    rw [show szL left xs.length = left - xs.length from if_neg h] at KZ
    rw [show szD left xs.length ys.length = szL (left - xs.length) ys.length from if_neg h]
    have KY := f_szIntS n2 ys (left - xs.length) hl' (by omega) (by omega)
    refine fn_of (l := [.tmp 4]) Try.func17 (by kernel_rfl) rfl Try.ntmps17 rfl rfl ?_; simp only [argEnv, P0.d, Nat.reduceAdd, diskP, List.map_cons, List.map_nil]
    repeat' (first|(with_reducible first|refine aw_seq ?_|refine thn_normal ?_|refine thn_ret ?_|refine thn_exit ?_|refine blk_normal ?_|refine blk_ret ?_|refine blk_hit ?_|refine blk_miss rfl ?_|refine aw_block ?_|refine aw_ret ?_|refine aw_skip ?_|refine aw_exit ?_|refine w_nil ?_|refine x_nil (by kernel_rfl) ?_)|refine aw_region ?_|refine aw_region_draw (by kernel_rfl) ?_|refine aw_yes rfl ?_|refine aw_no rfl ?_|((with_reducible refine w_seq ?_); first|refine r_q tbOk rfl rfl rfl rfl ?_|refine r_e tbOk rfl rfl rfl rfl rfl ?_|refine r_yes tbOk rfl rfl rfl rfl rfl rfl ?_|refine w_no rfl rfl (lookO_spec rfl) rfl rfl rfl ?_|refine w_un rfl rfl (lookO_spec rfl) rfl rfl ?_)|((with_reducible refine w_drw ?_); first|refine rx_q tbOk rfl rfl rfl rfl ?_|refine rx_e tbOk rfl rfl rfl rfl rfl ?_|refine rx_yes tbOk rfl rfl rfl rfl rfl rfl ?_|refine x_no rfl rfl (lookO_spec rfl) rfl rfl rfl ?_|refine x_un rfl rfl (lookO_spec rfl) rfl rfl ?_)|((first|refine' w_q rfl rfl ?xa rfl ?_|refine' v_q rfl rfl ?xa rfl ?_|refine' w_yes rfl rfl (lookO_spec rfl) rfl ?xa rfl ?_|refine' v_yes rfl rfl (lookO_spec rfl) rfl ?xa rfl ?_); case xa => first|exact k_call KZ rfl ⟨asA_r (evO_spec rfl), asA_r (evO_spec rfl), trivial⟩|exact k_call KY rfl ⟨asA_r (evO_spec rfl), asA_r (evO_spec rfl), trivial⟩)|((first|refine aw_ways rfl ?_ ?_|refine r_split rfl rfl rfl ?_ ?_) <;> intro hg_ <;> fail_if_success (exact Bool.noConfusion hg_)) <;> (try simp only [prn] at hg_) <;> (try first|contradiction|(exfalso; omega)))
    all_goals first
      | exact ret_tmp rfl (dres_int rfl)
      | exact ret_tmp rfl (dres_int (by unfold szL at *; split at * <;> omega))
      | (exfalso; omega)
      | trace_state
set_option maxRecDepth 100000 in
set_option maxHeartbeats 2000000 in
theorem f_toDisk (n1 n2 : Bool) (xs ys : List Int) (hl : xs.length ≤ 1048576) (hl' : ys.length ≤ 1048576) : Fn Try.prog 20 [diskP n1 xs n2 ys] (.v (diskP false xs false ys)) := by
  refine fn_of (l := [.cell 2 48]) Try.func20 (by kernel_rfl) rfl Try.ntmps20 rfl rfl ?_; simp only [argEnv, P0.d, Nat.reduceAdd, diskP, List.map_cons, List.map_nil]
  repeat' (first|(with_reducible first|refine aw_seq ?_|refine thn_normal ?_|refine thn_ret ?_|refine thn_exit ?_|refine blk_normal ?_|refine blk_ret ?_|refine blk_hit ?_|refine blk_miss rfl ?_|refine aw_block ?_|refine aw_ret ?_|refine aw_skip ?_|refine aw_exit ?_|refine w_nil ?_|refine x_nil (by kernel_rfl) ?_)|refine aw_region ?_|refine aw_region_draw (by kernel_rfl) ?_|refine aw_yes rfl ?_|refine aw_no rfl ?_|((with_reducible refine w_seq ?_); first|refine r_q tbOk rfl rfl rfl rfl ?_|refine r_e tbOk rfl rfl rfl rfl rfl ?_|refine r_yes tbOk rfl rfl rfl rfl rfl rfl ?_|refine w_no rfl rfl (lookO_spec rfl) rfl rfl rfl ?_|refine w_un rfl rfl (lookO_spec rfl) rfl rfl ?_)|((with_reducible refine w_drw ?_); first|refine rx_q tbOk rfl rfl rfl rfl ?_|refine rx_e tbOk rfl rfl rfl rfl rfl ?_|refine rx_yes tbOk rfl rfl rfl rfl rfl rfl ?_|refine x_no rfl rfl (lookO_spec rfl) rfl rfl rfl ?_|refine x_un rfl rfl (lookO_spec rfl) rfl rfl ?_)|((first|refine' w_q rfl rfl ?xa rfl ?_|refine' v_q rfl rfl ?xa rfl ?_|refine' w_yes rfl rfl (lookO_spec rfl) rfl ?xa rfl ?_|refine' v_yes rfl rfl (lookO_spec rfl) rfl ?xa rfl ?_); case xa => first|exact k_call (f_toIntS _ xs hl) rfl ⟨asA_r (evO_spec rfl), trivial⟩|exact k_call (f_toIntS _ ys hl') rfl ⟨asA_r (evO_spec rfl), trivial⟩)|((first|refine aw_ways rfl ?_ ?_|refine r_split rfl rfl rfl ?_ ?_) <;> intro hg_ <;> fail_if_success (exact Bool.noConfusion hg_)) <;> (try simp only [prn] at hg_) <;> (try first|contradiction|(exfalso; omega)))
  exact ret_v (rv_cell rfl rfl (by (with_reducible first | exact ty3 | exact ty4 | exact ty5 | exact ty9 | exact ty17 | exact ty19 | exact ty22 | exact ty24 | exact ty25 | exact ty26 | exact ty28 | exact ty36 | exact ty38 | exact ty40 | exact ty44 | exact ty46 | exact ty48 | exact ty55 | exact ty81 | exact ty84 | exact ty89 | exact ty95 | exact ty98 | exact ty105 | exact ty118 | exact ty122 | exact ty132 | exact ty134 | exact ty137 | exact ty143 | exact ty153 | exact ty155 | exact ty156 | exact ty161)) rfl rfl rfl (dres_agg (by (try simp only [List.set_cons_zero, List.set_cons_succ, Nat.reduceAdd, Nat.zero_add]); exact ⟨cres_new, cres_new, trivial⟩)))
set_option maxRecDepth 100000 in
set_option maxHeartbeats 2000000 in
theorem f_eqDisk (n1 n2 n3 n4 : Bool) (xs ys : List Int) (hl : xs.length ≤ 1048576) (hl' : ys.length ≤ 1048576) : Fn Try.prog 23 [diskP n1 xs n2 ys, diskP n3 xs n4 ys] (.v (.one (bool true))) := by
  refine fn_of (l := [.tmp 4]) Try.func23 (by kernel_rfl) rfl Try.ntmps23 rfl rfl ?_; simp only [argEnv, P0.d, Nat.reduceAdd, diskP, List.map_cons, List.map_nil]
  repeat' (first|(with_reducible first|refine aw_seq ?_|refine thn_normal ?_|refine thn_ret ?_|refine thn_exit ?_|refine blk_normal ?_|refine blk_ret ?_|refine blk_hit ?_|refine blk_miss rfl ?_|refine aw_block ?_|refine aw_ret ?_|refine aw_skip ?_|refine aw_exit ?_|refine w_nil ?_|refine x_nil (by kernel_rfl) ?_)|refine aw_region ?_|refine aw_region_draw (by kernel_rfl) ?_|refine aw_yes rfl ?_|refine aw_no rfl ?_|((with_reducible refine w_seq ?_); first|refine r_q tbOk rfl rfl rfl rfl ?_|refine r_e tbOk rfl rfl rfl rfl rfl ?_|refine r_yes tbOk rfl rfl rfl rfl rfl rfl ?_|refine w_no rfl rfl (lookO_spec rfl) rfl rfl rfl ?_|refine w_un rfl rfl (lookO_spec rfl) rfl rfl ?_)|((with_reducible refine w_drw ?_); first|refine rx_q tbOk rfl rfl rfl rfl ?_|refine rx_e tbOk rfl rfl rfl rfl rfl ?_|refine rx_yes tbOk rfl rfl rfl rfl rfl rfl ?_|refine x_no rfl rfl (lookO_spec rfl) rfl rfl rfl ?_|refine x_un rfl rfl (lookO_spec rfl) rfl rfl ?_)|((first|refine' w_q rfl rfl ?xa rfl ?_|refine' v_q rfl rfl ?xa rfl ?_|refine' w_yes rfl rfl (lookO_spec rfl) rfl ?xa rfl ?_|refine' v_yes rfl rfl (lookO_spec rfl) rfl ?xa rfl ?_); case xa => first|exact k_call (f_eqIntS _ _ xs hl) rfl ⟨asA_r (evO_spec rfl), asA_r (evO_spec rfl), trivial⟩|exact k_call (f_eqIntS _ _ ys hl') rfl ⟨asA_r (evO_spec rfl), asA_r (evO_spec rfl), trivial⟩)|((first|refine aw_ways rfl ?_ ?_|refine r_split rfl rfl rfl ?_ ?_) <;> intro hg_ <;> fail_if_success (exact Bool.noConfusion hg_)) <;> (try simp only [prn] at hg_) <;> (try first|contradiction|(exfalso; omega)))
  all_goals first
    | exact ret_tmp rfl (dres_bool rfl)
    | (exfalso; simp at *; done)
theorem disk_arg {c : Cx} {v : Value} {n1 n2 : Bool} {xs ys : List Int} (h : (diskP n1 xs n2 ys).p c v) : ∃ a1 c1 a2 c2, v = .agg #[.slice a1 xs.length c1, .slice a2 ys.length c2] ∧ Sl c.w a1 xs ∧ Sl c.w a2 ys := by
  obtain ⟨vs, h1, h2, h3⟩ := h
  obtain ⟨u0, e0, p0⟩ := h3 0 _ rfl
  obtain ⟨u1, e1, p1⟩ := h3 1 _ rfl
  obtain ⟨a1, c1, f1, g1, _⟩ := ints_arg p0
  obtain ⟨a2, c2, f2, g2, _⟩ := ints_arg p1
  have hv : vs = [u0, u1] := by
    match vs, h2, e0, e1 with
    | [a, b], _, e0, e1 => simp at e0 e1; rw [e0, e1]
  subst hv f1 f2
  exact ⟨a1, c1, a2, c2, h1, g1, g2⟩
theorem f_implDiskValid (n1 n2 : Bool) (xs ys : List Int) (hl : xs.length ≤ 1048576) (hl' : ys.length ≤ 1048576) : Fn Try.prog 60 [diskP n1 xs n2 ys] (.v (.one (bool (diskOk xs ys)))) := by
  refine ⟨ent_of Try.func60 (by kernel_rfl) rfl, fun w vs _ hA => ?_⟩
  match vs, hA with
  | [v], ⟨h1, _⟩ =>
    obtain ⟨a1, c1, a2, c2, rfl, g1, g2⟩ := disk_arg h1
    refine (implDiskValid a1 a2 c1 c2 xs ys w hl hl' g1 g2).mono ?_
    rintro e w' ⟨rfl, hb⟩
    exact ⟨_, rfl, bool_res _ _, hb⟩
theorem f_specDiskValid (n1 n2 : Bool) (xs ys : List Int) (hl : xs.length ≤ 1048576) (hl' : ys.length ≤ 1048576) : Fn Try.prog 54 [diskP n1 xs n2 ys] (.v (.one (bool (diskOk xs ys)))) := by
  refine ⟨ent_of Try.func54 (by kernel_rfl) rfl, fun w vs _ hA => ?_⟩
  match vs, hA with
  | [v], ⟨h1, _⟩ =>
    obtain ⟨a1, c1, a2, c2, rfl, g1, g2⟩ := disk_arg h1
    refine (specDiskValid a1 a2 c1 c2 xs ys w hl hl' g1 g2).mono ?_
    rintro e w' ⟨rfl, hb⟩
    exact ⟨_, rfl, bool_res _ _, hb⟩
end Go.Proofs.Ytmkecjamfippfaa.Abs
set_option linter.unusedSimpArgs false
set_option linter.unusedVariables false
namespace Go.Proofs.Ytmkecjamfippfaa.Abs
open Go.RowKit
open R (val row ref)

open Go.ChangeShapes Go.WideShapes Go.ChangeAt
section
variable {H : Type} {enc : TypeId × Value → H} {W : World} {base : Nat} {spare : Nat → Bool} {held : Bool}
theorem rdr_disk : Rdr enc W base spare held 40 ((Bool × List Int) × (Bool × List Int)) (fun z => diskP z.1.1 z.1.2 z.2.1 z.2.2) (fun z => z.1.2.length ≤ maxLen ∧ z.2.2.length ≤ maxLen) :=
  (rdr_two (n0 := 1) (n1 := 1) rdr_ints rdr_ints Try.underlying40 ⟨rfl, rfl⟩ ⟨rfl, rfl⟩ (by kernel_rfl) (by kernel_rfl) (by kernel_rfl)).turn (fun _ => rfl) (fun _ h => ⟨h.1.1, h.2.1⟩)
end
end Go.Proofs.Ytmkecjamfippfaa.Abs
set_option linter.unusedSimpArgs false
set_option linter.unusedVariables false
namespace Go.Proofs.Ytmkecjamfippfaa.Abs
open Go.RowKit
open R (val row ref)
def newC : Cell → Bool
  | .r _ (.val _) => true
  | .r m _ => m
  | _ => true
def newT : List (Bool × List Cell) → Bool
  | [] => true
  | x :: xs => x.2.all newC && newT xs
def newD : D → Bool
  | .one x => newC x
  | .agg xs => xs.all newC
  | .tup n _ => n
  | .any => true
  | .tups xs => newT xs
def newOb : Ob → Bool
  | .var _ cs => cs.all newC
  | .sl _ _ n _ => n
def newH : List (Nat × Ob) → Bool
  | [] => true
  | (_, ob) :: h => newOb ob && newH h
section
variable {ι : Nat → Nat × Nat} {base base0 : Nat} {w : World} {own own' : Nat → Prop}
theorem newC_p (ho : ∀ b, own b → b < base0) (hb : base ≤ base0) {v : Value} : ∀ {x : Cell}, newC x = true → x.p ι base0 ⟨w, own'⟩ v → x.p ι base ⟨w, fun b => own b ∨ own' b⟩ v
  | .r m (.val u), _, h => val_p.2 (val_p.1 h)
  | .r true r, _, h => R.mono r (Cx.Ext.sub (c := Cx.young ⟨w, own'⟩ base0 true) (c' := Cx.young ⟨w, fun b => own b ∨ own' b⟩ base true) rfl (fun b hb' => by
      rcases hb' with (h1 | h1) | h1
      · exact .inr (ho b h1)
      · exact .inl h1
      · exact .inr (Nat.lt_of_lt_of_le h1 hb))) h
  | .r false (.row ..), h, _ => by cases h
  | .r false (.ref _), h, _ => by cases h
  | .own .., _, h => h
  | .ptr .., _, h => h
  | .any, _, h => h
  | .clo .., _, h => h
theorem newT_all : ∀ {xs : List (Bool × List Cell)}, newT xs = true → ∀ x ∈ xs, ∀ y ∈ x.2, newC y = true
  | x :: xs, h, z, hz, y, hy => by
    simp only [newT, Bool.and_eq_true, List.all_eq_true] at h
    simp only [List.mem_cons] at hz
    rcases hz with rfl | hz
    · exact h.1 y hy
    · exact newT_all h.2 z hz y hy
theorem newD_p (ho : ∀ b, own b → b < base0) (hb : base ≤ base0) {v : Value} : ∀ {d : D}, newD d = true → d.p ι base0 ⟨w, own'⟩ v → d.p ι base ⟨w, fun b => own b ∨ own' b⟩ v
  | .one x, h, hp => newC_p ho hb h hp
  | .agg xs, h, ⟨vs, h1, h2, h3⟩ => ⟨vs, h1, h2, fun j x hj => by
      obtain ⟨u, hu, hx⟩ := h3 j x hj
      exact ⟨u, hu, newC_p ho hb (List.all_eq_true.1 h x (List.mem_of_getElem? hj)) hx⟩⟩
  | .tup true xs, _, ⟨vs, h1, h2, h3⟩ => ⟨vs, h1, h2, fun j x hj => by
      obtain ⟨u, hu, hx⟩ := h3 j x hj
      exact ⟨u, hu, P0.mono (Cx.Ext.sub (c := Cx.young ⟨w, own'⟩ base0 true) (c' := Cx.young ⟨w, fun b => own b ∨ own' b⟩ base true) rfl (fun b hb' => by
        rcases hb' with (h1 | h1) | h1
        · exact .inr (ho b h1)
        · exact .inl h1
        · exact .inr (Nat.lt_of_lt_of_le h1 hb))) hx⟩⟩
  | .any, _, _ => trivial
  | .tups xs, h, hp => D.tups_imp (fun x hx y hy _ h1 => newC_p ho hb (newT_all h x hx y hy) h1) hp
theorem newOb_p (ho : ∀ b, own b → b < base0) (hb : base ≤ base0) {b : Nat × Nat} : ∀ {ob : Ob}, newOb ob = true → ob.p ι base0 ⟨w, own'⟩ b → ob.p ι base ⟨w, fun b => own b ∨ own' b⟩ b
  | .var E cs, h, ⟨arr, h1, h2, h3⟩ => ⟨arr, h1, h2, fun j x hj => by
      obtain ⟨u, hu, hx⟩ := h3 j x hj
      exact ⟨u, hu, newC_p ho hb (List.all_eq_true.1 h x (List.mem_of_getElem? hj)) hx⟩⟩
  | .sl E sz true els, _, ⟨arr, h1, h2, h3⟩ => ⟨arr, h1, h2, fun i e hi => ⟨(h3 i e hi).1, fun j r hj => by
      obtain ⟨u, hu, hx⟩ := (h3 i e hi).2 j r hj
      exact ⟨u, hu, R.mono r (Cx.Ext.sub (c := Cx.young ⟨w, own'⟩ base0 true) (c' := Cx.young ⟨w, fun b => own b ∨ own' b⟩ base true) rfl (fun b hb' => by
        rcases hb' with (h1 | h1) | h1
        · exact .inr (ho b h1)
        · exact .inl h1
        · exact .inr (Nat.lt_of_lt_of_le h1 hb))) hx⟩⟩⟩
end
theorem newH_get : ∀ {h : List (Nat × Ob)}, newH h = true → ∀ k ob, lookH h k = some ob → newOb ob = true
  | (k0, ob0) :: h, hn, k, ob, hk => by
    simp only [newH, Bool.and_eq_true] at hn
    unfold lookH at hk
    rcases Classical.em (k = k0) with e | e
    · rw [e, upd_same] at hk
      injection hk with hk; subst hk; exact hn.1
    · rw [upd_ne _ _ e] at hk
      exact newH_get hn.2 k ob hk
theorem dargs0 {ι : Nat → Nat × Nat} {base : Nat} {c : Cx} : ∀ {vs : List Value} {ys : List P0}, Args c vs ys → DArgs ι base c vs (ys.map (P0.d false))
  | [], [], _ => trivial
  | v :: vs, y :: ys, ⟨h1, h2⟩ => ⟨P0.d_p.2 h1, dargs0 h2⟩
  | [], _ :: _, h => h.elim
  | _ :: _, [], h => h.elim
theorem e_callS0 {P : Program} {H : Nat → Option Ob} {ev : Operand → D} {o : Oper} {f : FuncId} {args : List D} {ys : List P0} {d : D} {h' : List (Nat × Ob)} {xs : List Operand} {tys : Array TypeId} (ρ : List (Nat × Nat)) (hf : FnS P f args [] d h') (hy : args = ys.map (P0.d false)) (ho : o.op = .call { callee := .value (.func f), args := xs.toArray, argTypes := tys })
    (ha : AsArgs H ev xs ys) (hok : okS ρ d [] h' = true) (hnew : (newD d && newH h') = true) : Eff P H ev o (d.ren ρ) [] (mapN ρ (lowN (keys h'))) (someU ρ h') := by
  subst hy
  simp only [Bool.and_eq_true] at hnew
  obtain ⟨hnD, hnH⟩ := hnew
  unfold okS at hok
  simp only [Bool.and_eq_true, List.all_eq_true, Bool.or_eq_true, memB_spec, Nat.blt_eq] at hok
  obtain ⟨⟨⟨⟨hinj, hnd⟩, hcl⟩, hpn⟩, hdn⟩ := hok
  have hρ : ∀ a ∈ keys h', ∀ b ∈ keys h', ren ρ a = ren ρ b → a = b := fun a ha b hb e => by
    unfold injN at hinj
    have := List.all_eq_true.1 (List.all_eq_true.1 hinj a (List.mem_append_right _ ha)) b (List.mem_append_right _ hb)
    rw [e] at this
    simpa using this
  intro base a w ι own hown hbase hev hH hHi K Q hK
  have hm : ∀ x ∈ xs, (ev x).p ι base ⟨w, own⟩ (a.eval x) := fun x hx => hev x (by rw [ho]; simp [Op.operands, Call.operands, hx])
  have hrun : (execOp a.eval o).run P w = .ok (.enter f (xs.map a.eval).toArray) w := by
    unfold execOp
    rw [ho]
    simp [resolve, Act.eval, Deferred.ofValue, invoke, hf.1 _ _]
  unfold Oper.wp
  rw [hrun, Oper.upon_enter]
  refine (hf.2 w.heap.size w (fun k => ι (ren ρ k)) (fun _ => False) _ (fun b h => h.elim) ⟨Nat.le_refl _, hbase.2.mono hbase.1⟩ (fun k ob hk => by cases hk) (fun k k' ob ob' hk => by cases hk) (dargs0 (args_of hH xs ys hm ha))).mono ?_
  rintro e w' ⟨v, ιc, own', rfl, hc⟩
  have ho' : ∀ b, own b → b < w.heap.size := fun b hb => (hown b hb).2
  let ι' : Nat → Nat × Nat := fun k => match invN ρ (lowN (keys h')) k with | some m => ιc m | none => ι k
  have hι : ∀ m ∈ keys h', ι' (ren ρ m) = ιc m := fun m hm => by
    show (match invN ρ (lowN (keys h')) (ren ρ m) with | some m => ιc m | none => ι (ren ρ m)) = ιc m
    cases hi : invN ρ (lowN (keys h')) (ren ρ m) with
    | some m' =>
      obtain ⟨h1, h2⟩ := invN_some hi
      rw [hρ m' (mem_lowN.1 h1).1 m hm h2]
    | none =>
      have hge : pinned ≤ m := by
        rcases Nat.lt_or_ge m pinned with hlt | hge
        · exact absurd rfl (invN_none hi m (mem_lowN.2 ⟨hm, hlt⟩))
        · exact hge
      rcases hpn m hm with h1 | h1
      · omega
      · cases h1
  refine hK v w' ι' (fun b => own b ∨ own' b) ⟨hc.os, hc.tape, hc.output, hc.size, fun b hb _ => hc.block b hb (fun k hk => by cases hk), hc.sized, fun b hb _ => .inl hb, fun b hb => ?_, fun b hb => ?_, fun k hk => ?_, ?_, fun k ob hU => ?_, fun k ob k' ob' hU hU' e => ?_⟩
  · rcases hb with hb | hb
    · exact .inl hb
    · rcases hc.own2 b hb with h1 | h1
      · exact h1.elim
      · exact .inr h1
  · rcases hb with hb | hb
    · exact Nat.lt_of_lt_of_le (hown b hb).2 hc.size
    · exact (hc.own3 b hb).2
  · show (match invN ρ (lowN (keys h')) k with | some m => ιc m | none => ι k) = ι k
    cases hi : invN ρ (lowN (keys h')) k with
    | some m => obtain ⟨h1, h2⟩ := invN_some hi; exact absurd (mem_mapN.2 ⟨m, h1, h2⟩) hk
    | none => rfl
  · exact D.p_ren (D.p_on (fun u hu => hι u (hdn u (d_names hu))) (newD_p ho' hbase.1 hnD hc.val))
  · obtain ⟨m, om, h1, rfl, rfl⟩ := mem_someU hU
    have hl := lookH_mem hnd h1
    obtain ⟨q1, q2, q3⟩ := hc.named m om hl
    have hmk := lookH_keys hl
    rw [hι m hmk]
    refine ⟨.inr q1, Ob.p_ren (Ob.p_on (fun u hu => hι u (closedB_spec hcl m om h1 u hu)) (newOb_p ho' hbase.1 (newH_get hnH m om hl) q2)), ?_⟩
    rcases q3 with q3 | ⟨k0, hk0, q3⟩
    · exact .inl q3
    · cases hk0
  · obtain ⟨m, om, h1, rfl, rfl⟩ := mem_someU hU
    obtain ⟨m', om', h1', rfl, rfl⟩ := mem_someU hU'
    have hl := lookH_mem hnd h1
    have hl' := lookH_mem hnd h1'
    rw [hι m (lookH_keys hl), hι m' (lookH_keys hl')] at e
    rw [hc.inj m m' om om' hl hl' e]
section
variable (k sz : Nat) (new : Bool) (els : List P0)
def frC : Cell → Cell
  | .own a j n s => bif Nat.beq a k then (bif Nat.beq s sz && Nat.ble (j + n) els.length then .r new (row false sz ((els.drop j).take n)) else .any) else .own a j n s
  | .ptr a i s off => bif Nat.beq a k then .any else .ptr a i s off
  | .clo f ps => bif ps.any (fun p => Nat.beq p.1 k) then .any else .clo f ps
  | x => x
end
theorem sub_ext {w : World} {own own' : Nat → Prop} (hsub : ∀ b, own' b → own b) : Cx.Ext ⟨w, own⟩ ⟨w, own'⟩ := Cx.Ext.sub (c := ⟨w, own⟩) (c' := ⟨w, own'⟩) rfl hsub
theorem sub_young {w : World} {own own' : Nat → Prop} (hsub : ∀ b, own' b → own b) (base : Nat) (n : Bool) : Cx.Ext (Cx.young ⟨w, own⟩ base n) (Cx.young ⟨w, own'⟩ base n) := Cx.Ext.young (sub_ext hsub) base n
section
variable {k sz : Nat} {new : Bool} {els : List P0} {E : TypeId} {ι : Nat → Nat × Nat} {base : Nat} {w : World} {own own' : Nat → Prop}
theorem frC_p (ho : own (ι k).1 → base ≤ (ι k).1) (hk : own (ι k).1 ∧ (Ob.sl E sz new els).p ι base ⟨w, own⟩ (ι k)) (hsub : ∀ b, own' b → own b) (hno : ¬ own' (ι k).1) {v : Value} : ∀ {x : Cell}, x.p ι base ⟨w, own⟩ v → (frC k sz new els x).p ι base ⟨w, own'⟩ v
  | .r n x, h => x.mono (sub_young hsub base n) h
  | .own a j n s, h => by
    simp only [frC]
    cases ha : Nat.beq a k with
    | true =>
      have : a = k := by simpa using ha
      subst this
      simp only [cond_true]
      cases hb : Nat.beq s sz && Nat.ble (j + n) els.length with
      | false => exact Cell.one (x := .own a j n s) h
      | true =>
        simp only [Bool.and_eq_true, Nat.ble_eq, Nat.beq_eq] at hb
        obtain ⟨rfl, h1⟩ := hb
        have hy : Cx.Ext (Cx.young ⟨w, own⟩ base new) (Cx.young ⟨w, own'⟩ base new) := sub_young hsub base new
        have hno2 : ¬ (Cx.young ⟨w, own'⟩ base new).own (ι a).1 := by
          cases new with
          | false => exact hno
          | true =>
            intro h2
            rcases h2 with h2 | h2
            · exact hno h2
            · exact absurd (ho hk.1) (Nat.not_le.2 h2)
        have hw : (Cx.young ⟨w, own'⟩ base new) = ⟨w, (Cx.young ⟨w, own'⟩ base new).own⟩ := by cases new <;> rfl
        show (row false s ((els.drop j).take n)).p (Cx.young ⟨w, own'⟩ base new) v
        rw [hw] at hy ⊢
        exact row_of_own hk h1 h hno2 hy
    | false =>
      simp only [cond_false]
      exact Cell.mono (c := ⟨w, own⟩) (c' := ⟨w, own'⟩) (Cx.Ext.sub rfl hsub) (fun b arr E h => ⟨arr, h, rfl⟩) (x := .own a j n s) h
  | .ptr a i s off, h => by
    simp only [frC]
    cases ha : Nat.beq a k with
    | true => exact Cell.one (x := .ptr a i s off) h
    | false => exact h
  | .any, h => h
  | .clo f ps, h => by
    simp only [frC]
    cases ha : ps.any (fun p => Nat.beq p.1 k) with
    | true => exact h.2
    | false => exact h
end
theorem at_dst {P : Program} {H : Nat → Option Ob} {ev : Operand → D} {o : Oper} {d : D} {τ nw : List Nat} {U : List (Nat × Option Ob)} (t : Nat) (hd : o.dst = some t) (h : Eff P H ev o d τ nw U) : Eff P H ev o d τ nw U := h
end Go.Proofs.Ytmkecjamfippfaa.Abs
set_option linter.unusedSimpArgs false
set_option linter.unusedVariables false
namespace Go.Proofs.Ytmkecjamfippfaa.Abs
open Go.RowKit
open R (val row ref)

def setF (e : P0) (off : Nat) (r : R) : P0 := match e with
  | .agg rs => .agg (rs.set off r)
  | .one _ => .one r
theorem setF_rs {e : P0} {off : Nat} {r : R} (h : off < e.n) : (setF e off r).rs = e.rs.set off r := by
  cases e with
  | one x =>
    have : off = 0 := by simp [P0.n, P0.rs] at h; exact h
    subst this; rfl
  | agg rs => rfl
theorem setF_n {e : P0} {off : Nat} {r : R} (h : off < e.n) : (setF e off r).n = e.n := by unfold P0.n; rw [setF_rs h, List.length_set]
theorem eff_storeF {P : Program} {H : Nat → Option Ob} {ev : Operand → D} {o : Oper} {k sz i off : Nat} {ag : Bool} {d : D} {E : TypeId} {new m : Bool} {els : List P0} {e : P0} {r0 : R} (t : TypeId) (x y : Operand) (ho : o.op = .store t x y) (hd : o.dst = none) (hx : ev x = .one (.ptr k i sz off)) (hk : H k = some (.sl E sz new els)) (hT : tyOf P t = some (ag, 1)) (hi : els[i]? = some e) (hy : ev y = d) (he : dP d = some (m, .one r0)) (hoff : off < sz) :
    Eff P H ev o .any [k] [] [(k, some (.sl E sz (new && m) (els.set i (setF e off r0))))] := by
  intro base a w ι own hown hbase hev hH _ K Q hK
  have hil : i < els.length := (List.getElem?_eq_some_iff.1 hi).1
  have hx1 := hev x (by rw [ho]; simp [Op.operands])
  rw [hx] at hx1
  have hx2 : a.eval x = .pointer (some ⟨(ι k).1, (ι k).2 + (i * sz + off), none⟩) := hx1
  have hv := hev y (by rw [ho]; simp [Op.operands])
  rw [hy] at hv
  obtain ⟨g1, g2⟩ := dP_ok he hv
  obtain ⟨hko, arr, e1, e2, e3⟩ := hH k _ hk
  have hle : (ι k).2 + (i * sz + off) + 1 ≤ arr.size := by
    have : (i + 1) * sz ≤ els.length * sz := Nat.mul_le_mul_right _ hil
    rw [Nat.add_mul] at this
    omega
  have g1' : (a.eval y).cells.size = 1 := g1
  obtain ⟨u0, hu0, hr0⟩ := g2 0 r0 rfl
  obtain ⟨w', arr', f1, f2, f3, f4, f5, f6⟩ := storeVar_run (P := P) (o := (ι k).2 + (i * sz + off)) hT w arr g1' (fun j u hj => by
    have hj0 : j = 0 := by
      rcases Nat.lt_or_ge j (a.eval y).cells.size with h | h
      · omega
      · rw [Array.getElem?_eq_none h] at hj; cases hj
    subst hj0
    rw [hu0] at hj; injection hj with hj; subst hj; exact R.one _ hr0) e1 hle
  have hrun : (execOp a.eval o).run P w = .ok .skip w' := by
    unfold execOp
    rw [ho]
    simp [hx2, Instr.storeAt, Instr.sureAddr, f1]
  unfold Oper.wp
  rw [hrun, Oper.upon_skip, hd]
  have hsz : Sized w w' := fun b ar T hb => by
    by_cases hbk : b = (ι k).1
    · subst hbk
      have e1' : w.heap[(ι k).1]? = some (.cells arr E (0, 0)) := e1
      rw [e1'] at hb
      injection hb with hb
      injection hb with hb1 hb2
      subst hb1 hb2
      exact ⟨arr', f2, f3⟩
    · exact ⟨ar, by rw [f5.block b (lt_of_heap hb) (fun e => by injection e with e; exact hbk e)]; exact hb, rfl⟩
  have hK' := hK undef
  rw [hd] at hK'
  have hxx := ext_write (own := own) hko f5 f6
  refine hK' _ _ _ (Chg.write hown hko f5 f6 hsz ⟨arr', f2, by rw [f3, List.length_set]; exact e2, fun q ee hq => ?_⟩)
  rw [List.getElem?_set] at hq
  by_cases hiq : i = q
  · subst hiq
    rw [if_pos rfl, if_pos hil] at hq
    injection hq with hq
    subst hq
    obtain ⟨p1, p2⟩ := e3 i e hi
    refine ⟨by rw [setF_n (by rw [p1]; exact hoff)]; exact p1, fun j r hj => ?_⟩
    rw [setF_rs (by rw [p1]; exact hoff), List.getElem?_set] at hj
    by_cases hjo : off = j
    · subst hjo
      rw [if_pos rfl, if_pos (by have := p1; unfold P0.n at this; omega)] at hj
      injection hj with hj
      subst hj
      refine ⟨u0, by rw [f4, if_pos ⟨by omega, by omega⟩, show (ι k).2 + (i * sz + off) - ((ι k).2 + (i * sz + off)) = 0 by omega]; exact hu0, ?_⟩
      exact r0.mono ((young_le (fun e => by simp at e; exact e.2)).trans (hxx.young _ _)) hr0
    · rw [if_neg hjo] at hj
      obtain ⟨u, hu, hr⟩ := p2 j r hj
      refine ⟨u, ?_, r.mono ((young_le (fun e => by simp at e; exact e.1)).trans (hxx.young _ _)) hr⟩
      rw [f4, if_neg (by omega)]
      exact hu
  · rw [if_neg hiq] at hq
    obtain ⟨p1, p2⟩ := e3 q ee hq
    refine ⟨p1, fun j r hj => ?_⟩
    obtain ⟨u, hu, hr⟩ := p2 j r hj
    have hjs : j < sz := by
      rw [← p1]
      rcases Nat.lt_or_ge j ee.rs.length with h | h
      · exact h
      · rw [List.getElem?_eq_none h] at hj; cases hj
    refine ⟨u, ?_, r.mono ((young_le (fun e => by simp at e; exact e.1)).trans (hxx.young _ _)) hr⟩
    rw [f4, if_neg ?_]
    · exact hu
    · intro hh
      rcases Nat.lt_or_ge q i with h | h
      · have : (q + 1) * sz ≤ i * sz := Nat.mul_le_mul_right _ h
        rw [Nat.add_mul] at this
        omega
      · have : (i + 1) * sz ≤ q * sz := Nat.mul_le_mul_right _ (by omega)
        rw [Nat.add_mul] at this
        omega
theorem e_storeF {P : Program} {tb : TB} {l : List (Nat × D)} {h : List (Nat × Ob)} {o : Oper} {k sz i off : Nat} {ag : Bool} {d : D} {E : TypeId} {T : TypeId} {x y : Operand} {new m : Bool} {els : List P0} {e : P0} {r0 : R} (hT : TbOk P tb) (ho : o.op = .store T x y) (hd : o.dst = none) (hx : evO l x = some (.one (.ptr k i sz off))) (hk : lookHO h k = some (.sl E sz new els)) (hty : tyL tb.tys T = some (ag, 1)) (hi : els[i]? = some e) (hy : evO l y = some d) (he : dP d = some (m, .one r0)) (hoff : off < sz) :
    Eff P (lookH h) (evD (look l)) o .any [k] [] [(k, some (.sl E sz (new && m) (els.set i (setF e off r0))))] := eff_storeF T x y ho hd (evO_spec hx) (lookHO_spec hk) (tyL_ok hT.ty hty) hi (evO_spec hy) he hoff
end Go.Proofs.Ytmkecjamfippfaa.Abs
set_option linter.unusedSimpArgs false
set_option linter.unusedVariables false
namespace Go.Proofs.Ytmkecjamfippfaa.Abs
open Go.RowKit
open R (val row ref)

theorem k_rem {P : Program} {l : List (Nat × D)} {h : List (Nat × Ob)} {o : Oper} {n n' : Bool} {k : IntKind} {p q : Int} {t t' : TypeId} {x y : Operand} (ho : o.op = .binOp .rem t x y t') (hx : evO l x = some (.one (.r n (R.val (.int k p))))) (hy : evO l y = some (.one (.r n' (R.val (.int k q))))) (hq : q ≠ 0) : Loc P (lookH h) (evD (look l)) o (.one (.r true (R.val (.int k (p.tmod q))))) :=
  loc_rem t t' x y ho (evO_spec hx) (evO_spec hy) hq
theorem k_div {P : Program} {l : List (Nat × D)} {h : List (Nat × Ob)} {o : Oper} {n n' : Bool} {k : IntKind} {p q : Int} {t t' : TypeId} {x y : Operand} (ho : o.op = .binOp .quo t x y t') (hx : evO l x = some (.one (.r n (R.val (.int k p))))) (hy : evO l y = some (.one (.r n' (R.val (.int k q))))) (hq : q ≠ 0) : Loc P (lookH h) (evD (look l)) o (.one (.r true (R.val (.int k (k.wrap (p.tdiv q)))))) :=
  loc_div t t' x y ho (evO_spec hx) (evO_spec hy) hq
open Classical in
theorem var2 {E : TypeId} {a b a' b' : Cell} (h1 : a = a') (h2 : b = b') : Ob.var E [a, b] = .var E [a', b'] := by rw [h1, h2]
theorem cAr_own0 {H : Nat → Option Ob} {k n sz : Nat} {E : TypeId} {els : List P0} {new : Bool} (hk : H k = some (.sl E sz new els)) (hn : n = els.length) : CAr H (.own k 0 n sz) (row false sz els) := by
  have := cAr_own (H := H) (j := 0) (n := n) hk (by omega)
  rwa [List.drop_zero, List.take_of_length_le (by omega)] at this
theorem cell_int {m : Bool} {k : IntKind} {a b : Int} (h : a = b) : Cell.r m (.val (.int k a)) = .r m (.val (.int k b)) := by rw [h]
end Go.Proofs.Ytmkecjamfippfaa.Abs
set_option linter.unusedSimpArgs false
set_option linter.unusedVariables false
namespace Go.Proofs.Ytmkecjamfippfaa.Abs
open Go.RowKit
open R (val row ref)

def upF (k : Int) (n : Nat) : List Int := (List.range n).map (fun i : Nat => k + (i : Int))
theorem upF_len (k : Int) (n : Nat) : (upF k n).length = n := by unfold upF; simp
theorem upF_get {k : Int} {n i : Nat} (h : i < n) : (upF k n)[i]? = some (k + (i : Int)) := by unfold upF; simp [h]
def mixF (k : Int) (xs : List Int) (j : Nat) : List Int := upF k j ++ xs.drop j
theorem mixF_len {k : Int} {xs : List Int} {j : Nat} (h : j ≤ xs.length) : (mixF k xs j).length = xs.length := by unfold mixF; rw [List.length_append, upF_len, List.length_drop]; omega
theorem mixF_set {k : Int} {xs : List Int} {j : Nat} (h : j < xs.length) : (mixF k xs j).set j (k + (j : Int)) = mixF k xs (j + 1) := by
  unfold mixF
  rw [List.set_append_right _ _ (by rw [upF_len]; omega), upF_len, Nat.sub_self, List.drop_eq_getElem_cons h, List.set_cons_zero]
  unfold upF
  rw [List.range_succ, List.map_append, List.append_assoc]; rfl
theorem mixF_all {k : Int} {xs : List Int} : mixF k xs xs.length = upF k xs.length := by unfold mixF; rw [List.drop_length, List.append_nil]
theorem ints_setN (xs : List Int) (i : Nat) (x : Int) : (ints xs).set i (iP x) = ints (xs.set i x) := by unfold ints; rw [List.map_set]
theorem imp_plain {m m' : Bool} {u : Value} : DImp (.one (.r m (val u))) (.one (.r m' (val u))) := fun ι base c v h => (val_p (c := Cx.young c base m')).2 ((val_p (c := Cx.young c base m)).1 h)
set_option maxRecDepth 100000 in
set_option maxHeartbeats 4000000 in
theorem f_markIntS (xs : List Int) (k : Int) (h0 : 0 ≤ k) (hk : k ≤ 100000000) (hl : xs.length ≤ 1048576) :
    FnS Try.prog 44 [.one (.own 1000000000 0 xs.length 1), .one (.r false (int k))] [(1000000000, .sl 3 1 true (ints xs))] (.one (.r true (int (k + xs.length)))) [(1000000000, .sl 3 1 true (ints (upF k xs.length)))] := by
  refine fnS_of (l := [.tmp 4]) Try.func44 (by kernel_rfl) rfl Try.ntmps44 rfl rfl ?_; simp only [dEnv, Nat.reduceAdd]
  repeat' (first|(with_reducible first|refine aw_seq ?_|refine thn_normal ?_|refine thn_ret ?_|refine thn_exit ?_|refine blk_normal ?_|refine blk_ret ?_|refine blk_hit ?_|refine blk_miss rfl ?_|refine aw_block ?_|refine aw_ret ?_|refine aw_skip ?_|refine aw_exit ?_|refine w_nil ?_|refine x_nil (by kernel_rfl) ?_)|refine aw_region ?_|refine aw_region_draw (by kernel_rfl) ?_|refine aw_yes rfl ?_|refine aw_no rfl ?_|((with_reducible refine w_seq ?_); first|refine r_q tbOk rfl rfl rfl rfl ?_|refine r_e tbOk rfl rfl rfl rfl rfl ?_|refine r_yes tbOk rfl rfl rfl rfl rfl rfl ?_|refine w_no rfl rfl (lookO_spec rfl) rfl rfl rfl ?_|refine w_un rfl rfl (lookO_spec rfl) rfl rfl ?_)|((with_reducible refine w_drw ?_); first|refine rx_q tbOk rfl rfl rfl rfl ?_|refine rx_e tbOk rfl rfl rfl rfl rfl ?_|refine rx_yes tbOk rfl rfl rfl rfl rfl rfl ?_|refine x_no rfl rfl (lookO_spec rfl) rfl rfl rfl ?_|refine x_un rfl rfl (lookO_spec rfl) rfl rfl ?_)|((first|refine aw_ways rfl ?_ ?_|refine r_split rfl rfl rfl ?_ ?_) <;> intro hg_ <;> fail_if_success (exact Bool.noConfusion hg_)) <;> (try simp only [prn] at hg_) <;> (try first|contradiction|(exfalso; omega)))
  refine aw_loopI (fun j : Nat => j ≤ xs.length) (fun j => mkS 19 [(5, .one (.r true (int j))), (1, .one (.r (decide (0 < j)) (int (k + j)))), (0, .one (.own 1000000000 0 xs.length 1))] [(1000000000, .sl 3 1 true (ints (mixF k xs j)))]) (fun j => xs.length - j) 0 (Nat.zero_le _) (by (refine weak_ren [] rfl ?_ ?_ <;> repeat' (first|exact trivial|refine subR_cons rfl ?_ ?_|refine subHR_cons rfl ?_ ?_|rfl|(refine d_int ?_; (first|rfl|omega|(rw [IntWalk.i64_in _ (by omega)] <;> omega)|(simp; done)|(simp; omega)))|(refine d_bool ?_; (first|(simp_all; done)|(rw [Bool.eq_iff_iff]; simp_all; done)|(rw [Bool.eq_iff_iff]; simp_all; omega)|(rw [Bool.eq_iff_iff]; simp; omega)))|exact d_int (by omega)))) ?_
  intro j hj
  have hlen : (ints (mixF k xs j)).length = xs.length := by rw [ints_len, mixF_len hj]
  by_cases hlt : j < xs.length
  · have hS : (ints (mixF k xs j)).set (0 + ((j : Nat) : Int).toNat) (iP (k + j)) = ints (mixF k xs (j + 1)) := by rw [Nat.zero_add, Int.toNat_natCast, ints_setN, mixF_set hlt]
    have hw : IntKind.i64.wrap ((j : Int) + 1) = ((j + 1 : Nat) : Int) := by rw [IntWalk.i64_in _ (by omega)]; omega
    have hw2 : IntKind.i64.wrap (k + (j : Int) + 1) = k + ((j + 1 : Nat) : Int) := by rw [IntWalk.i64_in _ (by omega)]; omega
    repeat' (first|(with_reducible first|refine aw_seq ?_|refine thn_normal ?_|refine thn_ret ?_|refine thn_exit ?_|refine blk_normal ?_|refine blk_ret ?_|refine blk_hit ?_|refine blk_miss rfl ?_|refine aw_block ?_|refine aw_ret ?_|refine aw_skip ?_|refine aw_exit ?_|refine w_nil ?_|refine x_nil (by kernel_rfl) ?_)|refine aw_region ?_|refine aw_region_draw (by kernel_rfl) ?_|refine aw_yes rfl ?_|refine aw_no rfl ?_|((with_reducible refine w_seq ?_); first|refine r_q tbOk rfl rfl rfl rfl ?_|refine r_e tbOk rfl rfl rfl rfl rfl ?_|refine r_yes tbOk rfl rfl rfl rfl rfl rfl ?_|refine w_no rfl rfl (lookO_spec rfl) rfl rfl rfl ?_|refine w_un rfl rfl (lookO_spec rfl) rfl rfl ?_)|((with_reducible refine w_drw ?_); first|refine rx_q tbOk rfl rfl rfl rfl ?_|refine rx_e tbOk rfl rfl rfl rfl rfl ?_|refine rx_yes tbOk rfl rfl rfl rfl rfl rfl ?_|refine x_no rfl rfl (lookO_spec rfl) rfl rfl rfl ?_|refine x_un rfl rfl (lookO_spec rfl) rfl rfl ?_)|((first|refine' w_q rfl rfl ?xa rfl ?_|refine' v_q rfl rfl ?xa rfl ?_|refine' w_yes rfl rfl (lookO_spec rfl) rfl ?xa rfl ?_|refine' v_yes rfl rfl (lookO_spec rfl) rfl ?xa rfl ?_); case xa => exact k_indexO tbOk rfl rfl rfl rfl (by omega) (by omega))|((first|refine' w_e rfl ?xa ?xb ?xc ?xe ?_|refine' v_e rfl ?xa ?xb ?xc ?xe ?_); (case xa => exact e_storeS tbOk rfl rfl rfl rfl rfl rfl rfl rfl (by omega)); (case xb => rfl); (case xc => rfl); (case xe => rfl); try dsimp only [P0.d, Res.d, List.map_cons, List.map_nil, List.set_cons_zero, List.set_cons_succ, Nat.reduceAdd])|((first|refine aw_ways rfl ?_ ?_|refine r_split rfl rfl rfl ?_ ?_) <;> intro hg_ <;> fail_if_success (exact Bool.noConfusion hg_)) <;> (try simp only [prn] at hg_) <;> (try first|contradiction|(exfalso; omega)))
    all_goals first
     |exact ⟨j + 1, by omega, by (refine weak_ren [] rfl ?_ ?_ <;> repeat' (first|exact trivial|refine subR_cons rfl ?_ ?_|refine subHR_cons rfl ?_ ?_|rfl|(refine d_int ?_; (first|rfl|omega|(rw [IntWalk.i64_in _ (by omega)] <;> omega)|(simp; done)|(simp; omega)))|(refine d_bool ?_; (first|(simp_all; done)|(rw [Bool.eq_iff_iff]; simp_all; done)|(rw [Bool.eq_iff_iff]; simp_all; omega)|(rw [Bool.eq_iff_iff]; simp; omega)))|exact d_int hw|exact d_int hw2|exact ob_sl rfl hS)), by omega⟩
      | trace_state
  · obtain rfl : j = xs.length := by omega
    rw [mixF_all]
    repeat' (first|(with_reducible first|refine aw_seq ?_|refine thn_normal ?_|refine thn_ret ?_|refine thn_exit ?_|refine blk_normal ?_|refine blk_ret ?_|refine blk_hit ?_|refine blk_miss rfl ?_|refine aw_block ?_|refine aw_ret ?_|refine aw_skip ?_|refine aw_exit ?_|refine w_nil ?_|refine x_nil (by kernel_rfl) ?_)|refine aw_region ?_|refine aw_region_draw (by kernel_rfl) ?_|refine aw_yes rfl ?_|refine aw_no rfl ?_|((with_reducible refine w_seq ?_); first|refine r_q tbOk rfl rfl rfl rfl ?_|refine r_e tbOk rfl rfl rfl rfl rfl ?_|refine r_yes tbOk rfl rfl rfl rfl rfl rfl ?_|refine w_no rfl rfl (lookO_spec rfl) rfl rfl rfl ?_|refine w_un rfl rfl (lookO_spec rfl) rfl rfl ?_)|((with_reducible refine w_drw ?_); first|refine rx_q tbOk rfl rfl rfl rfl ?_|refine rx_e tbOk rfl rfl rfl rfl rfl ?_|refine rx_yes tbOk rfl rfl rfl rfl rfl rfl ?_|refine x_no rfl rfl (lookO_spec rfl) rfl rfl rfl ?_|refine x_un rfl rfl (lookO_spec rfl) rfl rfl ?_)|((first|refine aw_ways rfl ?_ ?_|refine r_split rfl rfl rfl ?_ ?_) <;> intro hg_ <;> fail_if_success (exact Bool.noConfusion hg_)) <;> (try simp only [prn] at hg_) <;> (try first|contradiction|(exfalso; omega)))
    all_goals first
     |exact ret_D [] rfl (by (repeat' (first|exact trivial|refine subHR_cons rfl ?_ ?_|rfl))) (retD_tmp rfl imp_plain)
      | trace_state
set_option maxRecDepth 100000 in
set_option maxHeartbeats 4000000 in
theorem f_heldIntS (nil : Bool) (k : Int) (n : Nat) (h0 : 0 ≤ k) (hk : k ≤ 100000000) (hl : n ≤ 1048576) :
    Fn Try.prog 47 [.one (row nil 1 (ints (upF k n))), iP k] (.v (iP (k + n))) := by
  have hlen : (ints (upF k n)).length = n := by rw [ints_len, upF_len]
  refine fn_of (l := [.tmp 4]) Try.func47 (by kernel_rfl) rfl Try.ntmps47 rfl rfl ?_; simp only [argEnv, P0.d, Nat.reduceAdd]
  repeat' (first|(with_reducible first|refine aw_seq ?_|refine thn_normal ?_|refine thn_ret ?_|refine thn_exit ?_|refine blk_normal ?_|refine blk_ret ?_|refine blk_hit ?_|refine blk_miss rfl ?_|refine aw_block ?_|refine aw_ret ?_|refine aw_skip ?_|refine aw_exit ?_|refine w_nil ?_|refine x_nil (by kernel_rfl) ?_)|refine aw_region ?_|refine aw_region_draw (by kernel_rfl) ?_|refine aw_yes rfl ?_|refine aw_no rfl ?_|((with_reducible refine w_seq ?_); first|refine r_q tbOk rfl rfl rfl rfl ?_|refine r_e tbOk rfl rfl rfl rfl rfl ?_|refine r_yes tbOk rfl rfl rfl rfl rfl rfl ?_|refine w_no rfl rfl (lookO_spec rfl) rfl rfl rfl ?_|refine w_un rfl rfl (lookO_spec rfl) rfl rfl ?_)|((with_reducible refine w_drw ?_); first|refine rx_q tbOk rfl rfl rfl rfl ?_|refine rx_e tbOk rfl rfl rfl rfl rfl ?_|refine rx_yes tbOk rfl rfl rfl rfl rfl rfl ?_|refine x_no rfl rfl (lookO_spec rfl) rfl rfl rfl ?_|refine x_un rfl rfl (lookO_spec rfl) rfl rfl ?_)|((first|refine aw_ways rfl ?_ ?_|refine r_split rfl rfl rfl ?_ ?_) <;> intro hg_ <;> fail_if_success (exact Bool.noConfusion hg_)) <;> (try simp only [prn] at hg_) <;> (try first|contradiction|(exfalso; omega)))
  refine aw_loopI (fun j : Nat => j ≤ n) (fun j => mkS 21 [(5, .one (.r true (int j))), (1, .one (.r (decide (0 < j)) (int (k + j)))), (0, .one (.r false (row nil 1 (ints (upF k n)))))] []) (fun j => n - j) 0 (Nat.zero_le _) (by (refine weak_ren [] rfl ?_ ?_ <;> repeat' (first|exact trivial|refine subR_cons rfl ?_ ?_|refine subHR_cons rfl ?_ ?_|rfl|(refine d_int ?_; (first|rfl|omega|(rw [IntWalk.i64_in _ (by omega)] <;> omega)|(simp; done)|(simp; omega)))|(refine d_bool ?_; (first|(simp_all; done)|(rw [Bool.eq_iff_iff]; simp_all; done)|(rw [Bool.eq_iff_iff]; simp_all; omega)|(rw [Bool.eq_iff_iff]; simp; omega)))|exact d_int (by omega)))) ?_
  intro j hj
  by_cases hlt : j < n
  · have hix : (ints (upF k n))[((j : Nat) : Int).toNat]? = some (iP (k + j)) := by
      unfold ints
      rw [Int.toNat_natCast, List.getElem?_map, upF_get hlt]; rfl
    have hw : IntKind.i64.wrap ((j : Int) + 1) = ((j + 1 : Nat) : Int) := by rw [IntWalk.i64_in _ (by omega)]; omega
    have hw2 : IntKind.i64.wrap (k + (j : Int) + 1) = k + ((j + 1 : Nat) : Int) := by rw [IntWalk.i64_in _ (by omega)]; omega
    repeat' (first|(with_reducible first|refine aw_seq ?_|refine thn_normal ?_|refine thn_ret ?_|refine thn_exit ?_|refine blk_normal ?_|refine blk_ret ?_|refine blk_hit ?_|refine blk_miss rfl ?_|refine aw_block ?_|refine aw_ret ?_|refine aw_skip ?_|refine aw_exit ?_|refine w_nil ?_|refine x_nil (by kernel_rfl) ?_)|refine aw_region ?_|refine aw_region_draw (by kernel_rfl) ?_|refine aw_yes rfl ?_|refine aw_no rfl ?_|((with_reducible refine w_seq ?_); first|refine r_q tbOk rfl rfl rfl rfl ?_|refine r_e tbOk rfl rfl rfl rfl rfl ?_|refine r_yes tbOk rfl rfl rfl rfl rfl rfl ?_|refine w_no rfl rfl (lookO_spec rfl) rfl rfl rfl ?_|refine w_un rfl rfl (lookO_spec rfl) rfl rfl ?_)|((with_reducible refine w_drw ?_); first|refine rx_q tbOk rfl rfl rfl rfl ?_|refine rx_e tbOk rfl rfl rfl rfl rfl ?_|refine rx_yes tbOk rfl rfl rfl rfl rfl rfl ?_|refine x_no rfl rfl (lookO_spec rfl) rfl rfl rfl ?_|refine x_un rfl rfl (lookO_spec rfl) rfl rfl ?_)|((first|refine' w_q rfl rfl ?xa rfl ?_|refine' v_q rfl rfl ?xa rfl ?_|refine' w_yes rfl rfl (lookO_spec rfl) rfl ?xa rfl ?_|refine' v_yes rfl rfl (lookO_spec rfl) rfl ?xa rfl ?_); case xa => exact k_index tbOk rfl rfl rfl rfl (by omega) (by exact hix))|((first|refine aw_ways rfl ?_ ?_|refine r_split rfl rfl rfl ?_ ?_) <;> intro hg_ <;> fail_if_success (exact Bool.noConfusion hg_)) <;> (try simp only [prn] at hg_) <;> (try first|contradiction|(exfalso; omega)))
    all_goals first
      | (exfalso; omega)
     |exact ⟨j + 1, by omega, by (refine weak_ren [] rfl ?_ ?_ <;> repeat' (first|exact trivial|refine subR_cons rfl ?_ ?_|refine subHR_cons rfl ?_ ?_|rfl|(refine d_int ?_; (first|rfl|omega|(rw [IntWalk.i64_in _ (by omega)] <;> omega)|(simp; done)|(simp; omega)))|(refine d_bool ?_; (first|(simp_all; done)|(rw [Bool.eq_iff_iff]; simp_all; done)|(rw [Bool.eq_iff_iff]; simp_all; omega)|(rw [Bool.eq_iff_iff]; simp; omega)))|exact d_int hw|exact d_int hw2)), by omega⟩
      | trace_state
  · obtain rfl : j = n := by omega
    repeat' (first|(with_reducible first|refine aw_seq ?_|refine thn_normal ?_|refine thn_ret ?_|refine thn_exit ?_|refine blk_normal ?_|refine blk_ret ?_|refine blk_hit ?_|refine blk_miss rfl ?_|refine aw_block ?_|refine aw_ret ?_|refine aw_skip ?_|refine aw_exit ?_|refine w_nil ?_|refine x_nil (by kernel_rfl) ?_)|refine aw_region ?_|refine aw_region_draw (by kernel_rfl) ?_|refine aw_yes rfl ?_|refine aw_no rfl ?_|((with_reducible refine w_seq ?_); first|refine r_q tbOk rfl rfl rfl rfl ?_|refine r_e tbOk rfl rfl rfl rfl rfl ?_|refine r_yes tbOk rfl rfl rfl rfl rfl rfl ?_|refine w_no rfl rfl (lookO_spec rfl) rfl rfl rfl ?_|refine w_un rfl rfl (lookO_spec rfl) rfl rfl ?_)|((with_reducible refine w_drw ?_); first|refine rx_q tbOk rfl rfl rfl rfl ?_|refine rx_e tbOk rfl rfl rfl rfl rfl ?_|refine rx_yes tbOk rfl rfl rfl rfl rfl rfl ?_|refine x_no rfl rfl (lookO_spec rfl) rfl rfl rfl ?_|refine x_un rfl rfl (lookO_spec rfl) rfl rfl ?_)|((first|refine aw_ways rfl ?_ ?_|refine r_split rfl rfl rfl ?_ ?_) <;> intro hg_ <;> fail_if_success (exact Bool.noConfusion hg_)) <;> (try simp only [prn] at hg_) <;> (try first|contradiction|(exfalso; omega)))
    all_goals first
      | exact ret_tmp rfl (dres_int rfl)
      | trace_state
def mkE3 (k : Int) (i : Nat) : E3 := (k + 3 * (i : Int), k + 3 * (i : Int) + 1, k + 3 * (i : Int) + 2)
def mixE (k : Int) (es : List E3) (j : Nat) : List E3 := (List.range j).map (mkE3 k) ++ es.drop j
theorem mixE_len {k : Int} {es : List E3} {j : Nat} (h : j ≤ es.length) : (mixE k es j).length = es.length := by unfold mixE; rw [List.length_append, List.length_map, List.length_range, List.length_drop]; omega
theorem mixE_get {k : Int} {es : List E3} {j : Nat} (h : j < es.length) : (mixE k es j)[j]? = some es[j] := by
  unfold mixE
  rw [List.getElem?_append_right (by simp), List.length_map, List.length_range, Nat.sub_self, List.getElem?_drop, Nat.add_zero, List.getElem?_eq_getElem h]
theorem mixE_set {k : Int} {es : List E3} {j : Nat} (h : j < es.length) : (mixE k es j).set j (mkE3 k j) = mixE k es (j + 1) := by
  unfold mixE
  rw [List.set_append_right _ _ (by simp), List.length_map, List.length_range, Nat.sub_self, List.drop_eq_getElem_cons h, List.set_cons_zero, List.range_succ, List.map_append, List.append_assoc]; rfl
theorem edges_setN (es : List E3) (i : Nat) (e : E3) : (edges es).set i (edgeP e) = edges (es.set i e) := by unfold edges; rw [List.map_set]
set_option maxRecDepth 100000 in
set_option maxHeartbeats 4000000 in
theorem f_markEdgeS (es : List E3) (k : Int) (h0 : 0 ≤ k) (hk : k ≤ 100000000) (hl : es.length ≤ 1048576) :
    FnS Try.prog 64 [.one (.own 1000000000 0 es.length 3), .one (.r false (int k))] [(1000000000, .sl 98 3 true (edges es))] (.one (.r true (int (k + 3 * es.length)))) [(1000000000, .sl 98 3 true (edges (mixE k es es.length)))] := by
  refine fnS_of (l := [.tmp 4]) Try.func64 (by kernel_rfl) rfl Try.ntmps64 rfl rfl ?_; simp only [dEnv, Nat.reduceAdd]
  repeat' (first|(with_reducible first|refine aw_seq ?_|refine thn_normal ?_|refine thn_ret ?_|refine thn_exit ?_|refine blk_normal ?_|refine blk_ret ?_|refine blk_hit ?_|refine blk_miss rfl ?_|refine aw_block ?_|refine aw_ret ?_|refine aw_skip ?_|refine aw_exit ?_|refine w_nil ?_|refine x_nil (by kernel_rfl) ?_)|refine aw_region ?_|refine aw_region_draw (by kernel_rfl) ?_|refine aw_yes rfl ?_|refine aw_no rfl ?_|((with_reducible refine w_seq ?_); first|refine r_q tbOk rfl rfl rfl rfl ?_|refine r_e tbOk rfl rfl rfl rfl rfl ?_|refine r_yes tbOk rfl rfl rfl rfl rfl rfl ?_|refine w_no rfl rfl (lookO_spec rfl) rfl rfl rfl ?_|refine w_un rfl rfl (lookO_spec rfl) rfl rfl ?_)|((with_reducible refine w_drw ?_); first|refine rx_q tbOk rfl rfl rfl rfl ?_|refine rx_e tbOk rfl rfl rfl rfl rfl ?_|refine rx_yes tbOk rfl rfl rfl rfl rfl rfl ?_|refine x_no rfl rfl (lookO_spec rfl) rfl rfl rfl ?_|refine x_un rfl rfl (lookO_spec rfl) rfl rfl ?_)|((first|refine aw_ways rfl ?_ ?_|refine r_split rfl rfl rfl ?_ ?_) <;> intro hg_ <;> fail_if_success (exact Bool.noConfusion hg_)) <;> (try simp only [prn] at hg_) <;> (try first|contradiction|(exfalso; omega)))
  refine aw_loopI (fun j : Nat => j ≤ es.length) (fun j => mkS 34 [(5, .one (.r true (int j))), (1, .one (.r (decide (0 < j)) (int (k + 3 * j)))), (0, .one (.own 1000000000 0 es.length 3))] [(1000000000, .sl 98 3 true (edges (mixE k es j)))]) (fun j => es.length - j) 0 (Nat.zero_le _) (by (refine weak_ren [] rfl ?_ ?_ <;> repeat' (first|exact trivial|refine subR_cons rfl ?_ ?_|refine subHR_cons rfl ?_ ?_|rfl|(refine d_int ?_; (first|rfl|omega|(rw [IntWalk.i64_in _ (by omega)] <;> omega)|(simp; done)|(simp; omega)))|(refine d_bool ?_; (first|(simp_all; done)|(rw [Bool.eq_iff_iff]; simp_all; done)|(rw [Bool.eq_iff_iff]; simp_all; omega)|(rw [Bool.eq_iff_iff]; simp; omega)))|exact d_int (by omega)))) ?_
  intro j hj
  have hlen : (edges (mixE k es j)).length = es.length := by rw [edges_len, mixE_len hj]
  by_cases hlt : j < es.length
  · have hw : IntKind.i64.wrap ((j : Int) + 1) = ((j + 1 : Nat) : Int) := by rw [IntWalk.i64_in _ (by omega)]; omega
    have hw1 : IntKind.i64.wrap (k + 3 * (j : Int) + 1) = k + 3 * (j : Int) + 1 := IntWalk.i64_in _ (by omega)
    have hw2 : IntKind.i64.wrap (IntKind.i64.wrap (k + 3 * (j : Int) + 1) + 1) = k + 3 * (j : Int) + 2 := by rw [hw1, IntWalk.i64_in _ (by omega)]; omega
    have hw3 : IntKind.i64.wrap (IntKind.i64.wrap (IntKind.i64.wrap (k + 3 * (j : Int) + 1) + 1) + 1) = k + 3 * ((j + 1 : Nat) : Int) := by rw [hw2, IntWalk.i64_in _ (by omega)]; omega
    have hj0 : 0 + ((j : Nat) : Int).toNat = j := by rw [Nat.zero_add, Int.toNat_natCast]
    have hg0 : (edges (mixE k es j))[0 + ((j : Nat) : Int).toNat]? = some (edgeP es[j]) := by
      rw [hj0]; unfold edges; rw [List.getElem?_map, mixE_get hlt]; rfl
    generalize es[j] = e at *
    have hg1 : ((edges (mixE k es j)).set (0 + ((j : Nat) : Int).toNat) (setF (edgeP e) 0 (int (k + 3 * j))))[0 + ((j : Nat) : Int).toNat]? = some (setF (edgeP e) 0 (int (k + 3 * j))) := by
      rw [List.getElem?_set_self (by omega)]
    have hg2 : (((edges (mixE k es j)).set (0 + ((j : Nat) : Int).toNat) (setF (edgeP e) 0 (int (k + 3 * j)))).set (0 + ((j : Nat) : Int).toNat) (setF (setF (edgeP e) 0 (int (k + 3 * j))) 1 (int (IntKind.i64.wrap (k + 3 * j + 1)))))[0 + ((j : Nat) : Int).toNat]? = some (setF (setF (edgeP e) 0 (int (k + 3 * j))) 1 (int (IntKind.i64.wrap (k + 3 * j + 1)))) := by
      rw [List.getElem?_set_self (by rw [List.length_set]; omega)]
    have hS : (((edges (mixE k es j)).set (0 + ((j : Nat) : Int).toNat) (setF (edgeP e) 0 (int (k + 3 * j)))).set (0 + ((j : Nat) : Int).toNat) (setF (setF (edgeP e) 0 (int (k + 3 * j))) 1 (int (IntKind.i64.wrap (k + 3 * j + 1))))).set (0 + ((j : Nat) : Int).toNat) (setF (setF (setF (edgeP e) 0 (int (k + 3 * j))) 1 (int (IntKind.i64.wrap (k + 3 * j + 1)))) 2 (int (IntKind.i64.wrap (IntKind.i64.wrap (k + 3 * j + 1) + 1)))) = edges (mixE k es (j + 1)) := by
      rw [List.set_set, List.set_set, hj0, hw2, hw1, ← mixE_set hlt, ← edges_setN]; rfl
    repeat' (first|(with_reducible first|refine aw_seq ?_|refine thn_normal ?_|refine thn_ret ?_|refine thn_exit ?_|refine blk_normal ?_|refine blk_ret ?_|refine blk_hit ?_|refine blk_miss rfl ?_|refine aw_block ?_|refine aw_ret ?_|refine aw_skip ?_|refine aw_exit ?_|refine w_nil ?_|refine x_nil (by kernel_rfl) ?_)|refine aw_region ?_|refine aw_region_draw (by kernel_rfl) ?_|refine aw_yes rfl ?_|refine aw_no rfl ?_|((with_reducible refine w_seq ?_); first|refine r_q tbOk rfl rfl rfl rfl ?_|refine r_e tbOk rfl rfl rfl rfl rfl ?_|refine r_yes tbOk rfl rfl rfl rfl rfl rfl ?_|refine w_no rfl rfl (lookO_spec rfl) rfl rfl rfl ?_|refine w_un rfl rfl (lookO_spec rfl) rfl rfl ?_)|((with_reducible refine w_drw ?_); first|refine rx_q tbOk rfl rfl rfl rfl ?_|refine rx_e tbOk rfl rfl rfl rfl rfl ?_|refine rx_yes tbOk rfl rfl rfl rfl rfl rfl ?_|refine x_no rfl rfl (lookO_spec rfl) rfl rfl rfl ?_|refine x_un rfl rfl (lookO_spec rfl) rfl rfl ?_)|((first|refine' w_q rfl rfl ?xa rfl ?_|refine' v_q rfl rfl ?xa rfl ?_|refine' w_yes rfl rfl (lookO_spec rfl) rfl ?xa rfl ?_|refine' v_yes rfl rfl (lookO_spec rfl) rfl ?xa rfl ?_); case xa => exact k_indexO tbOk rfl rfl rfl rfl (by omega) (by omega))|((first|refine' w_e rfl ?xa ?xb ?xc ?xe ?_|refine' v_e rfl ?xa ?xb ?xc ?xe ?_); (case xa => first|exact e_storeF tbOk rfl rfl rfl rfl rfl hg0 rfl rfl (by omega)|exact e_storeF tbOk rfl rfl rfl rfl rfl hg1 rfl rfl (by omega)|exact e_storeF tbOk rfl rfl rfl rfl rfl hg2 rfl rfl (by omega)); (case xb => rfl); (case xc => rfl); (case xe => rfl); try dsimp only [P0.d, Res.d, List.map_cons, List.map_nil, List.set_cons_zero, List.set_cons_succ, Nat.reduceAdd])|((first|refine aw_ways rfl ?_ ?_|refine r_split rfl rfl rfl ?_ ?_) <;> intro hg_ <;> fail_if_success (exact Bool.noConfusion hg_)) <;> (try simp only [prn] at hg_) <;> (try first|contradiction|(exfalso; omega)))
    all_goals first
     |exact ⟨j + 1, by omega, by (refine weak_ren [] rfl ?_ ?_ <;> repeat' (first|exact trivial|refine subR_cons rfl ?_ ?_|refine subHR_cons rfl ?_ ?_|rfl|(refine d_int ?_; (first|rfl|omega|(rw [IntWalk.i64_in _ (by omega)] <;> omega)|(simp; done)|(simp; omega)))|(refine d_bool ?_; (first|(simp_all; done)|(rw [Bool.eq_iff_iff]; simp_all; done)|(rw [Bool.eq_iff_iff]; simp_all; omega)|(rw [Bool.eq_iff_iff]; simp; omega)))|exact d_int hw|exact d_int hw3|exact ob_sl rfl hS)), by omega⟩
      | trace_state
  · obtain rfl : j = es.length := by omega
    repeat' (first|(with_reducible first|refine aw_seq ?_|refine thn_normal ?_|refine thn_ret ?_|refine thn_exit ?_|refine blk_normal ?_|refine blk_ret ?_|refine blk_hit ?_|refine blk_miss rfl ?_|refine aw_block ?_|refine aw_ret ?_|refine aw_skip ?_|refine aw_exit ?_|refine w_nil ?_|refine x_nil (by kernel_rfl) ?_)|refine aw_region ?_|refine aw_region_draw (by kernel_rfl) ?_|refine aw_yes rfl ?_|refine aw_no rfl ?_|((with_reducible refine w_seq ?_); first|refine r_q tbOk rfl rfl rfl rfl ?_|refine r_e tbOk rfl rfl rfl rfl rfl ?_|refine r_yes tbOk rfl rfl rfl rfl rfl rfl ?_|refine w_no rfl rfl (lookO_spec rfl) rfl rfl rfl ?_|refine w_un rfl rfl (lookO_spec rfl) rfl rfl ?_)|((with_reducible refine w_drw ?_); first|refine rx_q tbOk rfl rfl rfl rfl ?_|refine rx_e tbOk rfl rfl rfl rfl rfl ?_|refine rx_yes tbOk rfl rfl rfl rfl rfl rfl ?_|refine x_no rfl rfl (lookO_spec rfl) rfl rfl rfl ?_|refine x_un rfl rfl (lookO_spec rfl) rfl rfl ?_)|((first|refine aw_ways rfl ?_ ?_|refine r_split rfl rfl rfl ?_ ?_) <;> intro hg_ <;> fail_if_success (exact Bool.noConfusion hg_)) <;> (try simp only [prn] at hg_) <;> (try first|contradiction|(exfalso; omega)))
    all_goals first
     |exact ret_D [] rfl (by (repeat' (first|exact trivial|refine subHR_cons rfl ?_ ?_|rfl))) (retD_tmp rfl imp_plain)
      | trace_state
set_option maxRecDepth 100000 in
set_option maxHeartbeats 4000000 in
theorem f_markGraph (mk : Bool) (m : Int) (es : List E3) (k : Int) (h0 : 0 ≤ k) (hk : k ≤ 100000000) (hl : es.length ≤ 1048576) :
    FnS Try.prog 24 [.agg [.r mk (int m), .own 1000000000 0 es.length 3], .one (.r false (int k))] [(1000000000, .sl 98 3 true (edges es))] (.one (.r true (int (k + 3 * es.length)))) [(1000000000, .sl 98 3 true (edges (mixE k es es.length)))] := by
  have K := f_markEdgeS es k h0 hk hl
  refine fnS_of (l := [.tmp 4]) Try.func24 (by kernel_rfl) rfl Try.ntmps24 rfl rfl ?_; simp only [dEnv, Nat.reduceAdd]
  repeat' (first|(with_reducible first|refine aw_seq ?_|refine thn_normal ?_|refine thn_ret ?_|refine thn_exit ?_|refine blk_normal ?_|refine blk_ret ?_|refine blk_hit ?_|refine blk_miss rfl ?_|refine aw_block ?_|refine aw_ret ?_|refine aw_skip ?_|refine aw_exit ?_|refine w_nil ?_|refine x_nil (by kernel_rfl) ?_)|refine aw_region ?_|refine aw_region_draw (by kernel_rfl) ?_|refine aw_yes rfl ?_|refine aw_no rfl ?_|((with_reducible refine w_seq ?_); first|refine r_q tbOk rfl rfl rfl rfl ?_|refine r_e tbOk rfl rfl rfl rfl rfl ?_|refine r_yes tbOk rfl rfl rfl rfl rfl rfl ?_|refine w_no rfl rfl (lookO_spec rfl) rfl rfl rfl ?_|refine w_un rfl rfl (lookO_spec rfl) rfl rfl ?_)|((with_reducible refine w_drw ?_); first|refine rx_q tbOk rfl rfl rfl rfl ?_|refine rx_e tbOk rfl rfl rfl rfl rfl ?_|refine rx_yes tbOk rfl rfl rfl rfl rfl rfl ?_|refine x_no rfl rfl (lookO_spec rfl) rfl rfl rfl ?_|refine x_un rfl rfl (lookO_spec rfl) rfl rfl ?_)|((first|refine' w_e rfl ?xa ?xb ?xc ?xe ?_|refine' v_e rfl ?xa ?xb ?xc ?xe ?_); (case xa => exact e_callS [] K rfl ⟨asD_ren (evO_spec rfl), by rw [evO_spec rfl]; exact asD_r rfl, trivial⟩ (by (repeat' (first|exact trivial|refine subHR_cons rfl ?_ ?_|rfl))) rfl); (case xb => rfl); (case xc => rfl); (case xe => rfl); try dsimp only [P0.d, Res.d, List.map_cons, List.map_nil, List.set_cons_zero, List.set_cons_succ, Nat.reduceAdd])|((first|refine aw_ways rfl ?_ ?_|refine r_split rfl rfl rfl ?_ ?_) <;> intro hg_ <;> fail_if_success (exact Bool.noConfusion hg_)) <;> (try simp only [prn] at hg_) <;> (try first|contradiction|(exfalso; omega)))
  all_goals first
   |exact ret_D [] rfl (by (repeat' (first|exact trivial|refine subHR_cons rfl ?_ ?_|rfl))) (retD_tmp rfl imp_plain)
    | trace_state
set_option maxRecDepth 100000 in
set_option maxHeartbeats 4000000 in
theorem f_toEdgeSO (nil : Bool) (es : List E3) (hl : es.length ≤ 1048576) : FnO Try.prog 58 [.one (row nil 3 (edges es))] 98 3 (edges es) := by
  have hlen := edges_len es
  refine fn_ofO Try.func58 (by kernel_rfl) rfl Try.ntmps58 rfl rfl ?_
  simp only [argEnv, P0.d, Nat.reduceAdd, List.map_cons, List.map_nil]
  repeat' (first|(with_reducible first|refine aw_seq ?_|refine thn_normal ?_|refine thn_ret ?_|refine thn_exit ?_|refine blk_normal ?_|refine blk_ret ?_|refine blk_hit ?_|refine blk_miss rfl ?_|refine aw_block ?_|refine aw_ret ?_|refine aw_skip ?_|refine aw_exit ?_|refine w_nil ?_|refine x_nil (by kernel_rfl) ?_)|refine aw_region ?_|refine aw_region_draw (by kernel_rfl) ?_|refine aw_yes rfl ?_|refine aw_no rfl ?_|((with_reducible refine w_seq ?_); first|refine r_q tbOk rfl rfl rfl rfl ?_|refine r_e tbOk rfl rfl rfl rfl rfl ?_|refine r_yes tbOk rfl rfl rfl rfl rfl rfl ?_|refine w_no rfl rfl (lookO_spec rfl) rfl rfl rfl ?_|refine w_un rfl rfl (lookO_spec rfl) rfl rfl ?_)|((with_reducible refine w_drw ?_); first|refine rx_q tbOk rfl rfl rfl rfl ?_|refine rx_e tbOk rfl rfl rfl rfl rfl ?_|refine rx_yes tbOk rfl rfl rfl rfl rfl rfl ?_|refine x_no rfl rfl (lookO_spec rfl) rfl rfl rfl ?_|refine x_un rfl rfl (lookO_spec rfl) rfl rfl ?_)|((first|refine' w_e rfl ?xa ?xb ?xc ?xe ?_|refine' v_e rfl ?xa ?xb ?xc ?xe ?_); (case xa => exact e_make tlOk rfl rfl rfl rfl rfl rfl (c := es.length) (by rw [hlen]) (by rw [hlen]) (by omega) (by simp only [maxLen]; omega)); (case xb => rfl); (case xc => rfl); (case xe => rfl); try dsimp only [P0.d, Res.d, List.map_cons, List.map_nil, List.set_cons_zero, List.set_cons_succ, Nat.reduceAdd])|((first|refine aw_ways rfl ?_ ?_|refine r_split rfl rfl rfl ?_ ?_) <;> intro hg_ <;> fail_if_success (exact Bool.noConfusion hg_)) <;> (try simp only [prn] at hg_) <;> (try first|contradiction|(exfalso; omega)))
  refine aw_loopI (fun k : Nat => k ≤ es.length) (fun k => mkS 23 [(4, .one (.r true (int k))), (3, .one (.own 100 0 es.length 3)), (0, .one (.r false (row nil 3 (edges es))))] [(100, .sl 98 3 true (fillP (edges es) (edgeP (0, 0, 0)) k))]) (fun k => es.length - k) 0 (Nat.zero_le _) (by (refine weak_ren [(100, 7)] rfl ?_ ?_ <;> repeat' (first|exact trivial|refine subR_cons rfl ?_ ?_|refine subHR_cons rfl ?_ ?_|rfl|(refine d_int ?_; (first|rfl|omega|(rw [IntWalk.i64_in _ (by omega)] <;> omega)|(simp; done)|(simp; omega)))|(refine d_bool ?_; (first|(simp_all; done)|(rw [Bool.eq_iff_iff]; simp_all; done)|(rw [Bool.eq_iff_iff]; simp_all; omega)|(rw [Bool.eq_iff_iff]; simp; omega)))|exact ob_sl rfl (by unfold fillP; simp [hlen])))) ?_
  intro k hk
  by_cases hlt : k < es.length
  · have hix := edges_at hlt
    have hg := edges_get hlt
    have KT := f_toEdge es[k]
    generalize es[k] = e at *
    have hfl : (fillP (edges es) (edgeP (0, 0, 0)) k).length = es.length := by rw [fillP_len (by omega)]; exact hlen
    repeat' (first|(with_reducible first|refine aw_seq ?_|refine thn_normal ?_|refine thn_ret ?_|refine thn_exit ?_|refine blk_normal ?_|refine blk_ret ?_|refine blk_hit ?_|refine blk_miss rfl ?_|refine aw_block ?_|refine aw_ret ?_|refine aw_skip ?_|refine aw_exit ?_|refine w_nil ?_|refine x_nil (by kernel_rfl) ?_)|refine aw_region ?_|refine aw_region_draw (by kernel_rfl) ?_|refine aw_yes rfl ?_|refine aw_no rfl ?_|((with_reducible refine w_seq ?_); first|refine r_q tbOk rfl rfl rfl rfl ?_|refine r_e tbOk rfl rfl rfl rfl rfl ?_|refine r_yes tbOk rfl rfl rfl rfl rfl rfl ?_|refine w_no rfl rfl (lookO_spec rfl) rfl rfl rfl ?_|refine w_un rfl rfl (lookO_spec rfl) rfl rfl ?_)|((with_reducible refine w_drw ?_); first|refine rx_q tbOk rfl rfl rfl rfl ?_|refine rx_e tbOk rfl rfl rfl rfl rfl ?_|refine rx_yes tbOk rfl rfl rfl rfl rfl rfl ?_|refine x_no rfl rfl (lookO_spec rfl) rfl rfl rfl ?_|refine x_un rfl rfl (lookO_spec rfl) rfl rfl ?_)|((first|refine' w_q rfl rfl ?xa rfl ?_|refine' v_q rfl rfl ?xa rfl ?_|refine' w_yes rfl rfl (lookO_spec rfl) rfl ?xa rfl ?_|refine' v_yes rfl rfl (lookO_spec rfl) rfl ?xa rfl ?_); case xa => first|exact k_index tbOk rfl rfl rfl rfl (by omega) (by exact hix)|exact k_call KT rfl ⟨asA_agg (evO_spec rfl) ⟨cAr_r, cAr_r, cAr_r, trivial⟩, trivial⟩|exact k_indexO tbOk rfl rfl rfl rfl (by omega) (by omega))|((first|refine' w_e rfl ?xa ?xb ?xc ?xe ?_|refine' v_e rfl ?xa ?xb ?xc ?xe ?_); (case xa => exact e_storeS tbOk rfl rfl rfl rfl rfl rfl rfl rfl (by rw [hfl]; omega)); (case xb => rfl); (case xc => rfl); (case xe => rfl); try dsimp only [P0.d, Res.d, List.map_cons, List.map_nil, List.set_cons_zero, List.set_cons_succ, Nat.reduceAdd])|((first|refine aw_ways rfl ?_ ?_|refine r_split rfl rfl rfl ?_ ?_) <;> intro hg_ <;> fail_if_success (exact Bool.noConfusion hg_)) <;> (try simp only [prn] at hg_) <;> (try first|contradiction|(exfalso; omega)))
    all_goals first
     |exact ⟨k + 1, by omega, by (refine weak_ren [] rfl ?_ ?_ <;> repeat' (first|exact trivial|refine subR_cons rfl ?_ ?_|refine subHR_cons rfl ?_ ?_|rfl|(refine d_int ?_; (first|rfl|omega|(rw [IntWalk.i64_in _ (by omega)] <;> omega)|(simp; done)|(simp; omega)))|(refine d_bool ?_; (first|(simp_all; done)|(rw [Bool.eq_iff_iff]; simp_all; done)|(rw [Bool.eq_iff_iff]; simp_all; omega)|(rw [Bool.eq_iff_iff]; simp; omega)))|exact ob_sl rfl (by rw [Nat.zero_add, Int.toNat_natCast]; exact fillP_set hg))), by omega⟩
      | trace_state
  · have e : fillP (edges es) (edgeP (0, 0, 0)) k = edges es := fillP_all (by omega)
    rw [e]
    repeat' (first|(with_reducible first|refine aw_seq ?_|refine thn_normal ?_|refine thn_ret ?_|refine thn_exit ?_|refine blk_normal ?_|refine blk_ret ?_|refine blk_hit ?_|refine blk_miss rfl ?_|refine aw_block ?_|refine aw_ret ?_|refine aw_skip ?_|refine aw_exit ?_|refine w_nil ?_|refine x_nil (by kernel_rfl) ?_)|refine aw_region ?_|refine aw_region_draw (by kernel_rfl) ?_|refine aw_yes rfl ?_|refine aw_no rfl ?_|((with_reducible refine w_seq ?_); first|refine r_q tbOk rfl rfl rfl rfl ?_|refine r_e tbOk rfl rfl rfl rfl rfl ?_|refine r_yes tbOk rfl rfl rfl rfl rfl rfl ?_|refine w_no rfl rfl (lookO_spec rfl) rfl rfl rfl ?_|refine w_un rfl rfl (lookO_spec rfl) rfl rfl ?_)|((with_reducible refine w_drw ?_); first|refine rx_q tbOk rfl rfl rfl rfl ?_|refine rx_e tbOk rfl rfl rfl rfl rfl ?_|refine rx_yes tbOk rfl rfl rfl rfl rfl rfl ?_|refine x_no rfl rfl (lookO_spec rfl) rfl rfl rfl ?_|refine x_un rfl rfl (lookO_spec rfl) rfl rfl ?_)|((first|refine aw_ways rfl ?_ ?_|refine r_split rfl rfl rfl ?_ ?_) <;> intro hg_ <;> fail_if_success (exact Bool.noConfusion hg_)) <;> (try simp only [prn] at hg_) <;> (try first|contradiction|(exfalso; omega)))
    all_goals first
      | exact ret_own rfl rfl hlen.symm
      | trace_state
theorem imp_g {m m' : Bool} {u : Value} {y y' : Cell} (h : y = y') : DImp (.agg [.r m (val u), y]) (.agg [.r m' (val u), y']) := fun ι base c v ⟨vs, h1, h2, h3⟩ => ⟨vs, h1, h2, fun j x hj => by
  match j, hj with
  | 0, hj =>
    obtain rfl : Cell.r m' (val u) = x := by simpa using hj
    obtain ⟨w, hw, hp⟩ := h3 0 _ rfl
    exact ⟨w, hw, imp_plain ι base c w hp⟩
  | 1, hj =>
    obtain rfl : y' = x := by simpa using hj
    subst h
    exact h3 1 _ rfl
  | j + 2, hj => simp at hj⟩
set_option maxRecDepth 100000 in
set_option maxHeartbeats 4000000 in
theorem f_toGraphO (m : Int) (nil : Bool) (es : List E3) (hl : es.length ≤ 1048576) :
    FnS Try.prog 19 [.agg [.r false (int m), .r false (row nil 3 (edges es))]] [] (.agg [.r true (int m), .own 2000001 0 es.length 3]) [(2000001, .sl 98 3 true (edges es))] := by
  have K := f_toEdgeSO nil es hl
  have hlen := edges_len es
  refine fnS_of (l := [.cell 2 46]) Try.func19 (by kernel_rfl) rfl Try.ntmps19 rfl rfl ?_; simp only [dEnv, Nat.reduceAdd]
  repeat' (first|(with_reducible first|refine aw_seq ?_|refine thn_normal ?_|refine thn_ret ?_|refine thn_exit ?_|refine blk_normal ?_|refine blk_ret ?_|refine blk_hit ?_|refine blk_miss rfl ?_|refine aw_block ?_|refine aw_ret ?_|refine aw_skip ?_|refine aw_exit ?_|refine w_nil ?_|refine x_nil (by kernel_rfl) ?_)|refine aw_region ?_|refine aw_region_draw (by kernel_rfl) ?_|refine aw_yes rfl ?_|refine aw_no rfl ?_|((with_reducible refine w_seq ?_); first|refine r_q tbOk rfl rfl rfl rfl ?_|refine r_e tbOk rfl rfl rfl rfl rfl ?_|refine r_yes tbOk rfl rfl rfl rfl rfl rfl ?_|refine w_no rfl rfl (lookO_spec rfl) rfl rfl rfl ?_|refine w_un rfl rfl (lookO_spec rfl) rfl rfl ?_)|((with_reducible refine w_drw ?_); first|refine rx_q tbOk rfl rfl rfl rfl ?_|refine rx_e tbOk rfl rfl rfl rfl rfl ?_|refine rx_yes tbOk rfl rfl rfl rfl rfl rfl ?_|refine x_no rfl rfl (lookO_spec rfl) rfl rfl rfl ?_|refine x_un rfl rfl (lookO_spec rfl) rfl rfl ?_)|((first|refine' w_e rfl ?xa ?xb ?xc ?xe ?_|refine' v_e rfl ?xa ?xb ?xc ?xe ?_); (case xa => exact e_callO K rfl rfl ⟨asA_r (evO_spec rfl), trivial⟩); (case xb => rfl); (case xc => rfl); (case xe => rfl); try dsimp only [P0.d, Res.d, List.map_cons, List.map_nil, List.set_cons_zero, List.set_cons_succ, Nat.reduceAdd])|((first|refine aw_ways rfl ?_ ?_|refine r_split rfl rfl rfl ?_ ?_) <;> intro hg_ <;> fail_if_success (exact Bool.noConfusion hg_)) <;> (try simp only [prn] at hg_) <;> (try first|contradiction|(exfalso; omega)))
  all_goals first
   |exact ret_D [(2000001, 9)] rfl (by (repeat' (first|exact trivial|refine subHR_cons rfl ?_ ?_|rfl))) (retD_cell rfl rfl (by (with_reducible first|exact ty3|exact ty4|exact ty5|exact ty9|exact ty17|exact ty19|exact ty22|exact ty24|exact ty25|exact ty26|exact ty28|exact ty36|exact ty38|exact ty40|exact ty44|exact ty46|exact ty48|exact ty55|exact ty81|exact ty84|exact ty89|exact ty95|exact ty98|exact ty105|exact ty118|exact ty122|exact ty132|exact ty134|exact ty137|exact ty143|exact ty153|exact ty155|exact ty156|exact ty161)) rfl rfl rfl (imp_g (by rw [hlen]; rfl)))
    | trace_state
theorem k_at {P : Program} {H : Nat → Option Ob} {ev : Operand → D} {o : Oper} {d : D} (t : Nat) (hd : o.dst = some t) (h : Loc P H ev o d) : Loc P H ev o d := h
set_option maxRecDepth 100000 in
set_option maxHeartbeats 2000000 in
theorem f_markInt0 (nil : Bool) (k : Int) : Fn Try.prog 44 [.one (row nil 1 []), iP k] (.v (iP k)) := by
  refine fn_of (l := [.tmp 4]) Try.func44 (by kernel_rfl) rfl Try.ntmps44 rfl rfl ?_; simp only [argEnv, P0.d, Nat.reduceAdd]
  repeat' (first|(with_reducible first|refine aw_seq ?_|refine thn_normal ?_|refine thn_ret ?_|refine thn_exit ?_|refine blk_normal ?_|refine blk_ret ?_|refine blk_hit ?_|refine blk_miss rfl ?_|refine aw_block ?_|refine aw_ret ?_|refine aw_skip ?_|refine aw_exit ?_|refine w_nil ?_|refine x_nil (by kernel_rfl) ?_)|refine aw_region ?_|refine aw_region_draw (by kernel_rfl) ?_|refine aw_yes rfl ?_|refine aw_no rfl ?_|((with_reducible refine w_seq ?_); first|refine r_q tbOk rfl rfl rfl rfl ?_|refine r_e tbOk rfl rfl rfl rfl rfl ?_|refine r_yes tbOk rfl rfl rfl rfl rfl rfl ?_|refine w_no rfl rfl (lookO_spec rfl) rfl rfl rfl ?_|refine w_un rfl rfl (lookO_spec rfl) rfl rfl ?_)|((with_reducible refine w_drw ?_); first|refine rx_q tbOk rfl rfl rfl rfl ?_|refine rx_e tbOk rfl rfl rfl rfl rfl ?_|refine rx_yes tbOk rfl rfl rfl rfl rfl rfl ?_|refine x_no rfl rfl (lookO_spec rfl) rfl rfl rfl ?_|refine x_un rfl rfl (lookO_spec rfl) rfl rfl ?_)|((first|refine aw_ways rfl ?_ ?_|refine r_split rfl rfl rfl ?_ ?_) <;> intro hg_ <;> fail_if_success (exact Bool.noConfusion hg_)) <;> (try simp only [prn] at hg_) <;> (try first|contradiction|(exfalso; omega)))
  refine aw_loopI (fun _ : Nat => True) (fun _ => mkS 19 [(5, .one (.r true (int 0))), (1, .one (.r false (int k))), (0, .one (.r false (row nil 1 [])))] []) (fun _ => 0) 0 trivial (by (refine weak_ren [] rfl ?_ ?_ <;> repeat' (first|exact trivial|refine subR_cons rfl ?_ ?_|refine subHR_cons rfl ?_ ?_|rfl|(refine d_int ?_; (first|rfl|omega|(rw [IntWalk.i64_in _ (by omega)] <;> omega)|(simp; done)|(simp; omega)))|(refine d_bool ?_; (first|(simp_all; done)|(rw [Bool.eq_iff_iff]; simp_all; done)|(rw [Bool.eq_iff_iff]; simp_all; omega)|(rw [Bool.eq_iff_iff]; simp; omega)))))) ?_
  rintro _ _
  repeat' (first|(with_reducible first|refine aw_seq ?_|refine thn_normal ?_|refine thn_ret ?_|refine thn_exit ?_|refine blk_normal ?_|refine blk_ret ?_|refine blk_hit ?_|refine blk_miss rfl ?_|refine aw_block ?_|refine aw_ret ?_|refine aw_skip ?_|refine aw_exit ?_|refine w_nil ?_|refine x_nil (by kernel_rfl) ?_)|refine aw_region ?_|refine aw_region_draw (by kernel_rfl) ?_|refine aw_yes rfl ?_|refine aw_no rfl ?_|((with_reducible refine w_seq ?_); first|refine r_q tbOk rfl rfl rfl rfl ?_|refine r_e tbOk rfl rfl rfl rfl rfl ?_|refine r_yes tbOk rfl rfl rfl rfl rfl rfl ?_|refine w_no rfl rfl (lookO_spec rfl) rfl rfl rfl ?_|refine w_un rfl rfl (lookO_spec rfl) rfl rfl ?_)|((with_reducible refine w_drw ?_); first|refine rx_q tbOk rfl rfl rfl rfl ?_|refine rx_e tbOk rfl rfl rfl rfl rfl ?_|refine rx_yes tbOk rfl rfl rfl rfl rfl rfl ?_|refine x_no rfl rfl (lookO_spec rfl) rfl rfl rfl ?_|refine x_un rfl rfl (lookO_spec rfl) rfl rfl ?_)|((first|refine aw_ways rfl ?_ ?_|refine r_split rfl rfl rfl ?_ ?_) <;> intro hg_ <;> fail_if_success (exact Bool.noConfusion hg_)) <;> (try simp only [prn] at hg_) <;> (try first|contradiction|(exfalso; omega)))
  all_goals first
    | exact ret_tmp rfl (dres_int rfl)
    | (exfalso; simp at *; done)
    | trace_state
set_option maxRecDepth 100000 in
set_option maxHeartbeats 4000000 in
theorem f_toIntSO (nil : Bool) (xs : List Int) (hl : xs.length ≤ 1048576) : FnO Try.prog 39 [.one (row nil 1 (ints xs))] 3 1 (ints xs) := by
  have hlen := ints_len xs
  refine fn_ofO Try.func39 (by kernel_rfl) rfl Try.ntmps39 rfl rfl ?_; simp only [argEnv, P0.d, Nat.reduceAdd, List.map_cons, List.map_nil]
  repeat' (first|(with_reducible first|refine aw_seq ?_|refine thn_normal ?_|refine thn_ret ?_|refine thn_exit ?_|refine blk_normal ?_|refine blk_ret ?_|refine blk_hit ?_|refine blk_miss rfl ?_|refine aw_block ?_|refine aw_ret ?_|refine aw_skip ?_|refine aw_exit ?_|refine w_nil ?_|refine x_nil (by kernel_rfl) ?_)|refine aw_region ?_|refine aw_region_draw (by kernel_rfl) ?_|refine aw_yes rfl ?_|refine aw_no rfl ?_|((with_reducible refine w_seq ?_); first|refine r_q tbOk rfl rfl rfl rfl ?_|refine r_e tbOk rfl rfl rfl rfl rfl ?_|refine r_yes tbOk rfl rfl rfl rfl rfl rfl ?_|refine w_no rfl rfl (lookO_spec rfl) rfl rfl rfl ?_|refine w_un rfl rfl (lookO_spec rfl) rfl rfl ?_)|((with_reducible refine w_drw ?_); first|refine rx_q tbOk rfl rfl rfl rfl ?_|refine rx_e tbOk rfl rfl rfl rfl rfl ?_|refine rx_yes tbOk rfl rfl rfl rfl rfl rfl ?_|refine x_no rfl rfl (lookO_spec rfl) rfl rfl rfl ?_|refine x_un rfl rfl (lookO_spec rfl) rfl rfl ?_)|((first|refine' w_e rfl ?xa ?xb ?xc ?xe ?_|refine' v_e rfl ?xa ?xb ?xc ?xe ?_); (case xa => exact e_make tlOk rfl rfl rfl rfl rfl rfl (c := xs.length) (by rw [hlen]) (by rw [hlen]) (by omega) (by simp only [maxLen]; omega)); (case xb => rfl); (case xc => rfl); (case xe => rfl); try dsimp only [P0.d, Res.d, List.map_cons, List.map_nil, List.set_cons_zero, List.set_cons_succ, Nat.reduceAdd])|((first|refine aw_ways rfl ?_ ?_|refine r_split rfl rfl rfl ?_ ?_) <;> intro hg_ <;> fail_if_success (exact Bool.noConfusion hg_)) <;> (try simp only [prn] at hg_) <;> (try first|contradiction|(exfalso; omega)))
  refine aw_loopI (fun k : Nat => k ≤ xs.length) (fun k => mkS 22 [(4, .one (.r true (int k))), (3, .one (.own 100 0 xs.length 1)), (0, .one (.r false (row nil 1 (ints xs))))] [(100, .sl 3 1 true (fillP (ints xs) (iP 0) k))]) (fun k => xs.length - k) 0 (Nat.zero_le _) (by (refine weak_ren [(100, 7)] rfl ?_ ?_ <;> repeat' (first|exact trivial|refine subR_cons rfl ?_ ?_|refine subHR_cons rfl ?_ ?_|rfl|(refine d_int ?_; (first|rfl|omega|(rw [IntWalk.i64_in _ (by omega)] <;> omega)|(simp; done)|(simp; omega)))|(refine d_bool ?_; (first|(simp_all; done)|(rw [Bool.eq_iff_iff]; simp_all; done)|(rw [Bool.eq_iff_iff]; simp_all; omega)|(rw [Bool.eq_iff_iff]; simp; omega)))|exact ob_sl rfl (by unfold fillP; simp [hlen])))) ?_
  intro k hk
  by_cases hlt : k < xs.length
  · have hix := ints_at hlt
    have hg : (ints xs)[k]? = some (iP xs[k]) := by have := ints_at hlt; rwa [Int.toNat_natCast] at this
    generalize xs[k] = e at *
    have hfl : (fillP (ints xs) (iP 0) k).length = xs.length := by rw [fillP_len (by omega)]; exact hlen
    have hw : IntKind.i64.wrap ((k : Int) + 1) = ((k + 1 : Nat) : Int) := by rw [IntWalk.i64_in _ (by omega)]; omega
    repeat' (first|(with_reducible first|refine aw_seq ?_|refine thn_normal ?_|refine thn_ret ?_|refine thn_exit ?_|refine blk_normal ?_|refine blk_ret ?_|refine blk_hit ?_|refine blk_miss rfl ?_|refine aw_block ?_|refine aw_ret ?_|refine aw_skip ?_|refine aw_exit ?_|refine w_nil ?_|refine x_nil (by kernel_rfl) ?_)|refine aw_region ?_|refine aw_region_draw (by kernel_rfl) ?_|refine aw_yes rfl ?_|refine aw_no rfl ?_|((with_reducible refine w_seq ?_); first|refine r_q tbOk rfl rfl rfl rfl ?_|refine r_e tbOk rfl rfl rfl rfl rfl ?_|refine r_yes tbOk rfl rfl rfl rfl rfl rfl ?_|refine w_no rfl rfl (lookO_spec rfl) rfl rfl rfl ?_|refine w_un rfl rfl (lookO_spec rfl) rfl rfl ?_)|((with_reducible refine w_drw ?_); first|refine rx_q tbOk rfl rfl rfl rfl ?_|refine rx_e tbOk rfl rfl rfl rfl rfl ?_|refine rx_yes tbOk rfl rfl rfl rfl rfl rfl ?_|refine x_no rfl rfl (lookO_spec rfl) rfl rfl rfl ?_|refine x_un rfl rfl (lookO_spec rfl) rfl rfl ?_)|((first|refine' w_q rfl rfl ?xa rfl ?_|refine' v_q rfl rfl ?xa rfl ?_|refine' w_yes rfl rfl (lookO_spec rfl) rfl ?xa rfl ?_|refine' v_yes rfl rfl (lookO_spec rfl) rfl ?xa rfl ?_); case xa => first|exact k_index tbOk rfl rfl rfl rfl (by omega) (by exact hix)|exact k_indexO tbOk rfl rfl rfl rfl (by omega) (by omega))|((first|refine' w_e rfl ?xa ?xb ?xc ?xe ?_|refine' v_e rfl ?xa ?xb ?xc ?xe ?_); (case xa => exact e_storeS tbOk rfl rfl rfl rfl rfl rfl rfl rfl (by rw [hfl]; omega)); (case xb => rfl); (case xc => rfl); (case xe => rfl); try dsimp only [P0.d, Res.d, List.map_cons, List.map_nil, List.set_cons_zero, List.set_cons_succ, Nat.reduceAdd])|((first|refine aw_ways rfl ?_ ?_|refine r_split rfl rfl rfl ?_ ?_) <;> intro hg_ <;> fail_if_success (exact Bool.noConfusion hg_)) <;> (try simp only [prn] at hg_) <;> (try first|contradiction|(exfalso; omega)))
    all_goals first
     |exact ⟨k + 1, by omega, by (refine weak_ren [] rfl ?_ ?_ <;> repeat' (first|exact trivial|refine subR_cons rfl ?_ ?_|refine subHR_cons rfl ?_ ?_|rfl|(refine d_int ?_; (first|rfl|omega|(rw [IntWalk.i64_in _ (by omega)] <;> omega)|(simp; done)|(simp; omega)))|(refine d_bool ?_; (first|(simp_all; done)|(rw [Bool.eq_iff_iff]; simp_all; done)|(rw [Bool.eq_iff_iff]; simp_all; omega)|(rw [Bool.eq_iff_iff]; simp; omega)))|exact d_int hw|exact ob_sl rfl (by rw [Nat.zero_add, Int.toNat_natCast]; exact fillP_set hg))), by omega⟩
      | trace_state
  · have e : fillP (ints xs) (iP 0) k = ints xs := fillP_all (by omega)
    rw [e]
    repeat' (first|(with_reducible first|refine aw_seq ?_|refine thn_normal ?_|refine thn_ret ?_|refine thn_exit ?_|refine blk_normal ?_|refine blk_ret ?_|refine blk_hit ?_|refine blk_miss rfl ?_|refine aw_block ?_|refine aw_ret ?_|refine aw_skip ?_|refine aw_exit ?_|refine w_nil ?_|refine x_nil (by kernel_rfl) ?_)|refine aw_region ?_|refine aw_region_draw (by kernel_rfl) ?_|refine aw_yes rfl ?_|refine aw_no rfl ?_|((with_reducible refine w_seq ?_); first|refine r_q tbOk rfl rfl rfl rfl ?_|refine r_e tbOk rfl rfl rfl rfl rfl ?_|refine r_yes tbOk rfl rfl rfl rfl rfl rfl ?_|refine w_no rfl rfl (lookO_spec rfl) rfl rfl rfl ?_|refine w_un rfl rfl (lookO_spec rfl) rfl rfl ?_)|((with_reducible refine w_drw ?_); first|refine rx_q tbOk rfl rfl rfl rfl ?_|refine rx_e tbOk rfl rfl rfl rfl rfl ?_|refine rx_yes tbOk rfl rfl rfl rfl rfl rfl ?_|refine x_no rfl rfl (lookO_spec rfl) rfl rfl rfl ?_|refine x_un rfl rfl (lookO_spec rfl) rfl rfl ?_)|((first|refine aw_ways rfl ?_ ?_|refine r_split rfl rfl rfl ?_ ?_) <;> intro hg_ <;> fail_if_success (exact Bool.noConfusion hg_)) <;> (try simp only [prn] at hg_) <;> (try first|contradiction|(exfalso; omega)))
    all_goals first
      | exact ret_own rfl rfl hlen.symm
      | trace_state
def upE (k : Int) (n : Nat) : List E3 := (List.range n).map (mkE3 k)
theorem upE_len (k : Int) (n : Nat) : (upE k n).length = n := by unfold upE; simp
theorem upE_get {k : Int} {n i : Nat} (h : i < n) : (upE k n)[i]? = some (mkE3 k i) := by unfold upE; simp [h]
theorem mixE_all {k : Int} {es : List E3} : mixE k es es.length = upE k es.length := by unfold mixE upE; rw [List.drop_length, List.append_nil]
end Go.Proofs.Ytmkecjamfippfaa.Abs
set_option linter.unusedSimpArgs false
set_option linter.unusedVariables false
namespace Go.Proofs.Ytmkecjamfippfaa
open Go.RowKit

end Go.Proofs.Ytmkecjamfippfaa
set_option linter.unusedSimpArgs false
set_option linter.unusedVariables false
namespace Go.Proofs.Ytmkecjamfippfaa
theorem gOk_len {m : Int} {es : List E3} (h : gOk m es = true) : es.length ≤ 40 := by
  unfold gOk at h
  simp only [Bool.and_eq_true, decide_eq_true_eq] at h
  exact h.1.2
end Go.Proofs.Ytmkecjamfippfaa
set_option linter.unusedSimpArgs false
set_option linter.unusedVariables false
namespace Go.Proofs.Ytmkecjamfippfaa
open Go.RowKit

def readE (xs : List Int) : Option (Int × Int × Int) :=
  match decAt xs 0 with
  | some (a, i) => match decAt xs i with
    | some (b, j) => match decAt xs j with
      | some (c, e) => if e = (xs.length : Int) then some (a, b, c) else none
      | none => none
    | none => none
  | none => none
def edgeVal : Option (Int × Int × Int) → Value
  | some (a, b, c) => .tuple #[.agg #[.int .i64 a, .int .i64 b, .int .i64 c], .bool true]
  | none => .tuple #[.agg #[.int .i64 0, .int .i64 0, .int .i64 0], .bool false]

def EdgePost (w : World) (r : Option (Int × Int × Int)) (e : Ending) (w' : World) : Prop := e = .returned (edgeVal r) ∧ Below w.heap.size w w'

set_option maxRecDepth 100000 in
set_option maxHeartbeats 2000000 in
theorem specReadEdge (ao : Option Addr) (c b o : Nat) (xs : List Int) (w : World) (hl : xs.length ≤ maxLen) (ha : At ao b o xs.length) (hin : Ints w b o xs) :
    Calls Try.prog 86 #[.slice ao xs.length c] w (EdgePost w (readE xs)) := by
  have HS : Hid (∀ (i : Int) (r : Option (Int × Int)), decAt xs i = r → Calls Try.prog 85 #[.slice ao xs.length c, .int .i64 i] (w.alloc (.cells #[.int .i64 0, .int .i64 0, .int .i64 0] 98)) fun e w' => e = .returned (decVal r) ∧ (w.alloc (.cells #[.int .i64 0, .int .i64 0, .int .i64 0] 98)) = w') := by
    intro i r hr
    rw [← hr]
    exact specDecodeNumber ao c b o xs i _ hl ha (hin.keep (keeps_alloc _ _))
  have hl' := hl
  unfold maxLen at hl'
  have fin : ∀ r, readE xs = r → ∀ e w', EdgePost w r e w' → EdgePost w (readE xs) e w' := fun r hr e w' h => by rw [hr]; exact h
  have FIN := Lib.hid fin
  clear fin
  rcases h1 : decAt xs 0 with _ | ⟨a1, i1⟩
  all_goals
    have H1 := Lib.hid h1
    clear h1
  · have HR : Hid (readE xs = none) := by unfold Hid readE; rw [H1.out]
    (go_enter Try.func86, Try.ntmps86); (go_wp2_with (first|(go_at_call 85; first|((with_reducible refine (HS.out _ _ H1.out).mono ?_); unfold decVal; rintro e w1 ⟨rfl, rfl⟩)))); exact bodyPost_ret (v := edgeVal none) (by simp [results, Try.results86, go_sem, edgeVal]) rfl (FIN.out _ HR.out _ _ ⟨rfl, (by repeat' (first|(with_reducible exact Below.refl _ _)|(with_reducible assumption)|(with_reducible refine Below.alloc ?_ ?_ _)|(with_reducible refine Below.drew ?_)|(with_reducible refine below_drewN ?_ _)|(with_reducible refine Below.setCell ?_ ?_ _)|(refine bstep (by with_reducible assumption) ?_)|(refine bstep2 (by with_reducible assumption) (by first|omega|(simp; done)|(simp; omega)) ?_)|go_size))⟩)
  · rcases h2 : decAt xs i1 with _ | ⟨a2, i2⟩
    all_goals
      have H2 := Lib.hid h2
      clear h2
    · have HR : Hid (readE xs = none) := by unfold Hid readE; rw [H1.out]; simp only []; rw [H2.out]
      (go_enter Try.func86, Try.ntmps86); (go_wp2_with (first|(go_at_call 85; first|((with_reducible refine (HS.out _ _ H1.out).mono ?_); unfold decVal; rintro e w1 ⟨rfl, rfl⟩)|((with_reducible refine (HS.out _ _ H2.out).mono ?_); unfold decVal; rintro e w1 ⟨rfl, rfl⟩)))); exact bodyPost_ret (v := edgeVal none) (by simp [results, Try.results86, go_sem, edgeVal]) rfl (FIN.out _ HR.out _ _ ⟨rfl, (by repeat' (first|(with_reducible exact Below.refl _ _)|(with_reducible assumption)|(with_reducible refine Below.alloc ?_ ?_ _)|(with_reducible refine Below.drew ?_)|(with_reducible refine below_drewN ?_ _)|(with_reducible refine Below.setCell ?_ ?_ _)|(refine bstep (by with_reducible assumption) ?_)|(refine bstep2 (by with_reducible assumption) (by first|omega|(simp; done)|(simp; omega)) ?_)|go_size))⟩)
    · rcases h3 : decAt xs i2 with _ | ⟨a3, i3⟩
      all_goals
        have H3 := Lib.hid h3
        clear h3
      · have HR : Hid (readE xs = none) := by unfold Hid readE; rw [H1.out]; simp only []; rw [H2.out]; simp only []; rw [H3.out]
        (go_enter Try.func86, Try.ntmps86); (go_wp2_with (first|(go_at_call 85; first|((with_reducible refine (HS.out _ _ H1.out).mono ?_); unfold decVal; rintro e w1 ⟨rfl, rfl⟩)|((with_reducible refine (HS.out _ _ H2.out).mono ?_); unfold decVal; rintro e w1 ⟨rfl, rfl⟩)|((with_reducible refine (HS.out _ _ H3.out).mono ?_); unfold decVal; rintro e w1 ⟨rfl, rfl⟩)))); exact bodyPost_ret (v := edgeVal none) (by simp [results, Try.results86, go_sem, edgeVal]) rfl (FIN.out _ HR.out _ _ ⟨rfl, (by repeat' (first|(with_reducible exact Below.refl _ _)|(with_reducible assumption)|(with_reducible refine Below.alloc ?_ ?_ _)|(with_reducible refine Below.drew ?_)|(with_reducible refine below_drewN ?_ _)|(with_reducible refine Below.setCell ?_ ?_ _)|(refine bstep (by with_reducible assumption) ?_)|(refine bstep2 (by with_reducible assumption) (by first|omega|(simp; done)|(simp; omega)) ?_)|go_size))⟩)
      · by_cases he : i3 = (xs.length : Int)
        · have HR : Hid (readE xs = some (a1, a2, a3)) := by unfold Hid readE; rw [H1.out]; simp only []; rw [H2.out]; simp only []; rw [H3.out]; simp only []; rw [if_pos he]
          have hne : (i3 != (xs.length : Int)) = false := by simp [he]
          clear he
          (go_enter Try.func86, Try.ntmps86); (go_wp2_with (first|(go_at_call 85; first|((with_reducible refine (HS.out _ _ H1.out).mono ?_); unfold decVal; rintro e w1 ⟨rfl, rfl⟩)|((with_reducible refine (HS.out _ _ H2.out).mono ?_); unfold decVal; rintro e w1 ⟨rfl, rfl⟩)|((with_reducible refine (HS.out _ _ H3.out).mono ?_); unfold decVal; rintro e w1 ⟨rfl, rfl⟩)))); exact bodyPost_ret (v := edgeVal (some (a1, a2, a3))) (by simp [results, Try.results86, go_sem, edgeVal]) rfl (FIN.out _ HR.out _ _ ⟨rfl, (by repeat' (first|(with_reducible exact Below.refl _ _)|(with_reducible assumption)|(with_reducible refine Below.alloc ?_ ?_ _)|(with_reducible refine Below.drew ?_)|(with_reducible refine below_drewN ?_ _)|(with_reducible refine Below.setCell ?_ ?_ _)|(refine bstep (by with_reducible assumption) ?_)|(refine bstep2 (by with_reducible assumption) (by first|omega|(simp; done)|(simp; omega)) ?_)|go_size))⟩)
        · have HR : Hid (readE xs = none) := by unfold Hid readE; rw [H1.out]; simp only []; rw [H2.out]; simp only []; rw [H3.out]; simp only []; rw [if_neg he]
          have hne : (i3 != (xs.length : Int)) = true := by simp [he]
          clear he
          (go_enter Try.func86, Try.ntmps86); (go_wp2_with (first|(go_at_call 85; first|((with_reducible refine (HS.out _ _ H1.out).mono ?_); unfold decVal; rintro e w1 ⟨rfl, rfl⟩)|((with_reducible refine (HS.out _ _ H2.out).mono ?_); unfold decVal; rintro e w1 ⟨rfl, rfl⟩)|((with_reducible refine (HS.out _ _ H3.out).mono ?_); unfold decVal; rintro e w1 ⟨rfl, rfl⟩)))); exact bodyPost_ret (v := edgeVal none) (by simp [results, Try.results86, go_sem, edgeVal]) rfl (FIN.out _ HR.out _ _ ⟨rfl, (by repeat' (first|(with_reducible exact Below.refl _ _)|(with_reducible assumption)|(with_reducible refine Below.alloc ?_ ?_ _)|(with_reducible refine Below.drew ?_)|(with_reducible refine below_drewN ?_ _)|(with_reducible refine Below.setCell ?_ ?_ _)|(refine bstep (by with_reducible assumption) ?_)|(refine bstep2 (by with_reducible assumption) (by first|omega|(simp; done)|(simp; omega)) ?_)|go_size))⟩)

end Go.Proofs.Ytmkecjamfippfaa
set_option linter.unusedSimpArgs false
set_option linter.unusedVariables false
namespace Go.Proofs.Ytmkecjamfippfaa.Abs
open Go.RowKit
open R (val row ref)

theorem dec_enc {n : Int} (h0 : 0 ≤ n) (h1 : n ≤ 1000000) (r : List Int) : dec (enc n ++ r) = some (n, (enc n).length) := by
  unfold enc dec
  rw [if_neg (by omega)]
  split
  · simp [decF]
    rw [if_neg (by omega), if_pos h1]
  · split
    · simp only [List.cons_append, List.nil_append, decF]
      rw [if_pos (by omega), if_neg (by omega), if_neg (by omega), if_pos (by omega)]
      simp; omega
    · simp only [List.cons_append, List.nil_append, decF]
      rw [if_pos (by omega), if_pos (by omega), if_neg (by omega), if_neg (by omega), if_pos (by omega)]
      simp; omega
theorem enc_bytes (n : Int) : ∀ z ∈ enc n, 0 ≤ z ∧ z ≤ 255 := by
  unfold enc
  split
  · simp
  · split
    · intro z hz; simp at hz; omega
    · split
      · intro z hz; simp at hz; omega
      · intro z hz; simp at hz; omega
theorem bytesOk_of {l : List Int} (h : ∀ z ∈ l, 0 ≤ z ∧ z ≤ 255) (hl : l.length ≤ 2000) : bytesOk l = true := by
  simp [bytesOk, hl, byteOk]
  intro z hz
  exact h z hz
theorem enc1 {n a : Int} (h : n = a) (h0 : 0 ≤ a) (h1 : a < 128) : enc n = [a] := by
  subst h
  unfold enc
  rw [if_neg (by omega), if_pos (by omega)]
theorem enc2 {n a b : Int} (h : n = a - 128 + b * 128) (h0 : 128 ≤ a) (h1 : a ≤ 255) (h2 : 0 < b) (h3 : b < 128) : enc n = [a, b] := by
  unfold enc
  rw [if_neg (by omega), if_neg (by omega), if_pos (by omega), show n % 128 + 128 = a by omega, show n / 128 = b by omega]
theorem enc3 {n a b c : Int} (h : n = a - 128 + (b - 128) * 128 + c * 16384) (h0 : 128 ≤ a) (h1 : a ≤ 255) (h2 : 128 ≤ b) (h3 : b ≤ 255) (h4 : 0 < c) (h5 : n ≤ 1000000) : enc n = [a, b, c] := by
  unfold enc
  rw [if_neg (by omega), if_neg (by omega), if_neg (by omega), show n % 128 + 128 = a by omega, show n / 128 % 128 + 128 = b by omega, show n / 128 / 128 = c by omega]
theorem dec_canon {l : List Int} {n : Int} {k : Nat} (hb : ∀ z ∈ l, 0 ≤ z ∧ z ≤ 255) (h : dec l = some (n, k)) : l.take k = enc n ∧ k ≤ l.length ∧ 0 < k ∧ 0 ≤ n ∧ n ≤ 1000000 := by
  unfold dec at h
  rcases l with _ | ⟨a, l⟩
  · simp [decF] at h
  have ha := hb a (by simp)
  simp only [decF] at h
  by_cases h1 : 128 ≤ a
  · rw [if_pos h1] at h
    rcases l with _ | ⟨b, l⟩
    · simp [decF] at h
    have hb' := hb b (by simp)
    simp only [decF] at h
    by_cases h2 : 128 ≤ b
    · rw [if_pos h2] at h
      rcases l with _ | ⟨c, l⟩
      · simp [decF] at h
      have hc := hb c (by simp)
      simp only [decF] at h
      by_cases h3 : 128 ≤ c
      · rw [if_pos h3] at h; cases h
      rw [if_neg h3] at h
      split at h
      · cases h
      · split at h
        · injection h with h
          injection h with h4 h5
          subst h5
          rename_i hz hle
          refine ⟨?_, by simp, by omega, by omega, by omega⟩
          rw [enc3 (a := a) (b := b) (c := c) (by omega) h1 (by omega) h2 (by omega) (by omega) (by omega)]
          simp
        · cases h
    · rw [if_neg h2] at h
      split at h
      · cases h
      · split at h
        · injection h with h
          injection h with h4 h5
          subst h5
          rename_i hz hle
          refine ⟨?_, by simp, by omega, by omega, by omega⟩
          rw [enc2 (a := a) (b := b) (by omega) h1 (by omega) (by omega) (by omega)]
          simp
        · cases h
  · rw [if_neg h1] at h
    split at h
    · cases h
    · split at h
      · injection h with h
        injection h with h4 h5
        subst h5
        refine ⟨?_, by simp, by omega, by omega, by omega⟩
        rw [enc1 (a := a) (by omega) (by omega) (by omega)]
        simp
      · cases h
theorem decAt_canon {xs : List Int} {i n j : Int} (h : decAt xs i = some (n, j)) : 0 ≤ i ∧ i < j ∧ j ≤ xs.length ∧ (xs.drop i.toNat).take (j.toNat - i.toNat) = enc n := by
  unfold decAt at h
  split at h
  · rename_i hc
    obtain ⟨h1, h2, h3⟩ := hc
    cases hd : dec (xs.drop i.toNat) with
    | none => rw [hd] at h; cases h
    | some p =>
      obtain ⟨m, k⟩ := p
      rw [hd] at h
      simp at h
      obtain ⟨rfl, rfl⟩ := h
      have hb : ∀ z ∈ xs.drop i.toNat, 0 ≤ z ∧ z ≤ 255 := fun z hz => by
        obtain ⟨q, hq, rfl⟩ := List.getElem_of_mem (List.mem_of_mem_drop hz)
        exact bytesOk_get h1 q hq
      obtain ⟨c1, c2, c3, c4, c5⟩ := dec_canon hb hd
      rw [List.length_drop] at c2
      refine ⟨h2, by omega, by omega, ?_⟩
      rw [show (i + (k : Int)).toNat - i.toNat = k by omega]
      exact c1
  · cases h
def fits (n : Int) : Bool := decide (0 ≤ n ∧ n ≤ 1000000)
def edgeB (a b c : Int) : List Int := if fits a && fits b && fits c then enc a ++ enc b ++ enc c else []
theorem decAt_canon2 {xs : List Int} {i n j : Int} (h : decAt xs i = some (n, j)) : 0 ≤ i ∧ i < j ∧ j ≤ xs.length ∧ (xs.drop i.toNat).take (j.toNat - i.toNat) = enc n ∧ fits n = true := by
  obtain ⟨h1, h2, h3, h4⟩ := decAt_canon h
  refine ⟨h1, h2, h3, h4, ?_⟩
  by_cases hf : 0 ≤ n ∧ n ≤ 1000000
  · simp [fits, hf]
  · exfalso
    rw [enc_no (by omega)] at h4
    have := congrArg List.length h4
    simp at this
    omega
theorem enc_one {n : Int} (h0 : 0 ≤ n) (h1 : n ≤ 1000000) {l r : List Int} (hb : bytesOk (l ++ (enc n ++ r)) = true) : decAt (l ++ (enc n ++ r)) (l.length : Int) = some (n, ((l.length + (enc n).length : Nat) : Int)) := by
  have hp := enc_pos h0 h1
  rw [decAt_yes hb (by simp; omega), List.drop_left, dec_enc h0 h1 r]
  simp
theorem readE_edgeB {a b c : Int} (ha : fits a = true) (hb : fits b = true) (hc : fits c = true) : readE (enc a ++ enc b ++ enc c) = some (a, b, c) := by
  simp only [fits, decide_eq_true_eq] at ha hb hc
  have h1 := enc_len a
  have h2 := enc_len b
  have h3 := enc_len c
  have hok : bytesOk (enc a ++ enc b ++ enc c) = true := bytesOk_of (fun z hz => by
    simp only [List.mem_append] at hz
    rcases hz with (hz | hz) | hz
    · exact enc_bytes a z hz
    · exact enc_bytes b z hz
    · exact enc_bytes c z hz) (by simp; omega)
  have d1 := enc_one (l := []) (r := enc b ++ enc c) ha.1 ha.2 (by simpa using hok)
  have d2 := enc_one (l := enc a) (r := enc c) hb.1 hb.2 (by simpa using hok)
  have d3 := enc_one (l := enc a ++ enc b) (r := []) hc.1 hc.2 (by simpa using hok)
  simp only [List.nil_append, List.append_nil, List.length_nil, List.append_assoc, Nat.zero_add, List.length_append] at d1 d2 d3
  unfold readE
  rw [List.append_assoc, show (0 : Int) = ((0 : Nat) : Int) from rfl, d1]
  simp only []
  rw [d2]
  simp only []
  rw [d3]
  simp only []
  rw [if_pos (by simp; omega)]
theorem edgeB_len (a b c : Int) : (edgeB a b c).length ≤ 9 := by
  have h1 := enc_len a
  have h2 := enc_len b
  have h3 := enc_len c
  unfold edgeB
  split <;> simp <;> omega
theorem bytesOk_sub {xs ys : List Int} (h : bytesOk xs = true) (hs : ∀ z ∈ ys, z ∈ xs) (hl : ys.length ≤ xs.length) : bytesOk ys = true := by
  have h1 := bytesOk_len h
  refine bytesOk_of (fun z hz => ?_) (by omega)
  obtain ⟨k, hk, rfl⟩ := List.getElem_of_mem (hs z hz)
  exact bytesOk_get h k hk
theorem bytesOk_mem {xs : List Int} (h : bytesOk xs = true) {z : Int} (hz : z ∈ xs) : 0 ≤ z ∧ z ≤ 255 := by
  obtain ⟨k, hk, rfl⟩ := List.getElem_of_mem hz
  exact bytesOk_get h k hk
theorem frame_eq {b : List Int} (h : bodyOk b = true) : frameOf b = (b.length : Int) :: b ++ [sumOf b] := by
  unfold frameOf; rw [if_pos h]
def frHd : List Int → Option (List Int)
  | [] => none
  | n :: r => if 1 ≤ n ∧ n ≤ 100 ∧ n < (r.length : Int) ∧ r.getD n.toNat 0 = sumOf (r.take n.toNat) then some (r.take n.toNat) else none
theorem frHd_some {xs b : List Int} (hx : bytesOk xs = true) (h : frHd xs = some b) : bodyOk b = true ∧ ∃ r, xs = frameOf b ++ r := by
  cases xs with
  | nil => cases h
  | cons n r =>
    simp only [frHd] at h
    split at h
    · rename_i hc
      obtain ⟨h1, h2, h3, h4⟩ := hc
      injection h with h
      subst h
      obtain ⟨N, rfl⟩ := Int.eq_ofNat_of_zero_le (show 0 ≤ n by omega)
      simp only [Int.toNat_natCast] at h4 ⊢
      have hN : N < r.length := by omega
      have hl : (r.take N).length = N := by rw [List.length_take]; omega
      have hb : bytesOk (r.take N) = true := bytesOk_sub hx (fun z hz => List.mem_cons_of_mem _ (List.mem_of_mem_take hz)) (by rw [hl, List.length_cons]; omega)
      have ho : bodyOk (r.take N) = true := by unfold bodyOk; rw [hb, hl]; simp; omega
      refine ⟨ho, r.drop (N + 1), ?_⟩
      rw [frame_eq ho, hl, ← h4]
      rw [List.getD_eq_getElem?_getD, List.getElem?_eq_getElem hN, Option.getD_some]
      simp only [List.cons_append, List.append_assoc, List.nil_append, List.cons.injEq, true_and]
      rw [← List.drop_eq_getElem_cons hN, List.take_append_drop]
    · cases h
def scan : Nat → List Int → List (List Int) × Nat
  | 0, _ => ([], 0)
  | f + 1, xs => match frHd xs with
    | none => ([], 0)
    | some b => (b :: (scan f (xs.drop (b.length + 2))).1, b.length + 2 + (scan f (xs.drop (b.length + 2))).2)
def scanF (xs : List Int) : List (List Int) × Nat := scan (xs.length + 1) xs
theorem scan_fuel : ∀ (f : Nat) (xs : List Int), xs.length < f → scan f xs = scan (xs.length + 1) xs
  | 0, xs, h => by omega
  | f + 1, xs, h => by
    simp only [scan]
    cases hh : frHd xs with
    | none => rfl
    | some b =>
      simp only
      have hd : (xs.drop (b.length + 2)).length < xs.length := by
        cases xs with
        | nil => cases hh
        | cons n r => simp; omega
      rw [scan_fuel f _ (by omega), scan_fuel xs.length _ hd]
theorem scanF_none {xs : List Int} (h : frHd xs = none) : scanF xs = ([], 0) := by unfold scanF; simp only [scan, h]
theorem scanF_some {xs b : List Int} (h : frHd xs = some b) : scanF xs = (b :: (scanF (xs.drop (b.length + 2))).1, b.length + 2 + (scanF (xs.drop (b.length + 2))).2) := by
  have hd : (xs.drop (b.length + 2)).length < xs.length := by
    cases xs with
    | nil => cases h
    | cons n r => simp; omega
  have e := scan_fuel xs.length _ hd
  unfold scanF
  rw [← e]
  simp only [scan, h]
def joined (bs : List (List Int)) : List Int := bs.flatMap frameOf
theorem scanF_inv : ∀ (n : Nat) (xs : List Int), xs.length ≤ n → bytesOk xs = true → (∀ b ∈ (scanF xs).1, bodyOk b = true) ∧ (scanF xs).2 = (joined (scanF xs).1).length ∧ ∃ r, xs = joined (scanF xs).1 ++ r ∧ frHd r = none
  | n, xs, hn, hx => by
    cases hh : frHd xs with
    | none => rw [scanF_none hh]; exact ⟨by simp, rfl, xs, rfl, hh⟩
    | some b =>
      obtain ⟨hb, r, hr⟩ := frHd_some hx hh
      have hf := frame_pos hb
      have hd : xs.drop (b.length + 2) = r := by rw [hr, ← hf, List.drop_left]
      have hlen : xs.length = b.length + 2 + r.length := by rw [hr, List.length_append, hf]
      cases n with
      | zero => omega
      | succ n =>
        obtain ⟨i1, i2, r', i3, i4⟩ := scanF_inv n r (by omega) (bytesOk_sub hx (fun z hz => by rw [hr]; simp [hz]) (by omega))
        rw [scanF_some hh, hd]
        refine ⟨?_, ?_, r', ?_, i4⟩
        · intro z hz
          simp only [List.mem_cons] at hz
          rcases hz with rfl | hz
          · exact hb
          · exact i1 z hz
        · simp only [joined_cons, List.length_append, hf, i2]
        · conv => lhs; rw [hr]
          simp only [joined_cons, List.append_assoc]
          rw [← i3]
theorem scanF_le {xs : List Int} (hx : bytesOk xs = true) : (scanF xs).2 ≤ xs.length := by
  obtain ⟨h1, h2, r, h3, h4⟩ := scanF_inv xs.length xs (Nat.le_refl _) hx
  have h5 := congrArg List.length h3
  rw [List.length_append] at h5
  omega
theorem gOk_mC {m : Int} {es : List E3} (h : gOk m es = true) : 0 ≤ m ∧ m ≤ 16 ∧ es.length ≤ 40 := by
  unfold gOk at h; simp at h; omega
end Go.Proofs.Ytmkecjamfippfaa.Abs
set_option linter.unusedSimpArgs false
set_option linter.unusedVariables false
namespace Go.Proofs.Ytmkecjamfippfaa.Abs
open Go.RowKit
open R (val row ref)

def bef (a b : E3) : Bool := if a.1 ≠ b.1 then decide (a.1 < b.1) else if a.2.1 ≠ b.2.1 then decide (a.2.1 < b.2.1) else decide (a.2.2 < b.2.2)
def cmpI (a b : Int) : Int := if a < b then -1 else if b < a then 1 else 0
def orI : List Int → Int
  | [] => 0
  | x :: xs => if x ≠ 0 then x else orI xs
def cmpM (a b : E3) : Int := orI [cmpI a.1 b.1, cmpI a.2.1 b.2.1, cmpI a.2.2 b.2.2]
theorem cmpI_zero (a b : Int) : cmpI a b = 0 ↔ a = b := by unfold cmpI; split <;> (try split) <;> omega
theorem cmpI_neg (a b : Int) : cmpI a b < 0 ↔ a < b := by unfold cmpI; split <;> (try split) <;> omega
theorem cmpM_neg (a b : E3) : decide (cmpM a b < 0) = bef a b := by
  have z1 := cmpI_zero a.1 b.1
  have z2 := cmpI_zero a.2.1 b.2.1
  have n1 := cmpI_neg a.1 b.1
  have n2 := cmpI_neg a.2.1 b.2.1
  have n3 := cmpI_neg a.2.2 b.2.2
  unfold cmpM bef
  simp only [orI]
  generalize cmpI a.1 b.1 = x at *
  generalize cmpI a.2.1 b.2.1 = y at *
  generalize cmpI a.2.2 b.2.2 = z at *
  simp only [ne_eq, ← z1, ← z2, ← n1, ← n2, ← n3]
  by_cases h1 : x = 0 <;> by_cases h2 : y = 0 <;> by_cases h3 : z = 0 <;> simp [h1, h2, h3]
def valIn (v : Int) : Bool := inR (-1) 999999 v
def msgIn (u : Int) (m : E3) : Bool := inR 0 u m.1 && inR 0 u m.2.2 && inR 0 999999 m.2.1
def befP (m : E3) : Option E3 → Bool
  | none => true
  | some q => !bef m q
def msOk (u : Int) : Option E3 → List E3 → Bool
  | _, [] => true
  | p, m :: ms => msgIn u m && befP m p && msOk u (some m) ms
def srt : List E3 → Bool
  | [] => true
  | [_] => true
  | a :: b :: r => !bef b a && srt (b :: r)
theorem srt_iff : ∀ (ms : List E3), srt ms = true ↔ ∀ j (h : j + 1 < ms.length), bef ms[j + 1] ms[j] = false
  | [] => by simp [srt]
  | [a] => by simp [srt]
  | a :: b :: r => by
    have ih := srt_iff (b :: r)
    simp only [srt, Bool.and_eq_true, ih, Bool.not_eq_true']
    constructor
    · rintro ⟨h1, h2⟩ j h
      cases j with
      | zero => exact h1
      | succ j => exact h2 j (by simpa using h)
    · intro h
      exact ⟨h 0 (by simp), fun j hj => h (j + 1) (by simpa using hj)⟩
theorem msOk_some (u : Int) : ∀ (p : E3) (ms : List E3), msOk u (some p) ms = (srt (p :: ms) && ms.all (msgIn u))
  | _, [] => by simp [msOk, srt]
  | p, m :: ms => by
    simp only [msOk, msOk_some u m ms, srt, List.all_cons, befP]
    cases msgIn u m <;> cases bef m p <;> simp
theorem msOk_none (u : Int) (ms : List E3) : msOk u none ms = (srt ms && ms.all (msgIn u)) := by
  cases ms with
  | nil => simp [msOk, srt]
  | cons m ms =>
    simp only [msOk, msOk_some, List.all_cons, befP]
    cases msgIn u m <;> simp
theorem msOk_step {u : Int} {ms : List E3} {k : Nat} (h : k < ms.length) : msOk u (prevE ms k) (ms.drop k) = (msgIn u ms[k] && befP ms[k] (prevE ms k) && msOk u (prevE ms (k + 1)) (ms.drop (k + 1))) := by
  rw [List.drop_eq_getElem_cons h, msOk]
  simp [prevE, h]
def stOk (many r : Int) (vs : List Int) (gl : Nat) (ms : List E3) : Bool := inR 0 16 many && inR 0 100 r && decide ((vs.length : Int) = many) && decide ((gl : Int) = many) && decide (ms.length ≤ 2000) && vs.all valIn && msOk (many - 1) none ms
theorem all_step {α : Type} {f : α → Bool} {xs : List α} {k : Nat} (h : k < xs.length) : (xs.drop k).all f = (f xs[k] && (xs.drop (k + 1)).all f) := by
  rw [List.drop_eq_getElem_cons h, List.all_cons]
theorem stOk_spec (many r : Int) (vs : List Int) (gl : Nat) (ms : List E3) : stOk many r vs gl ms = (vs.all valIn && msOk (IntKind.i64.wrap (many - 1)) none ms && (inR 0 16 many && inR 0 100 r && decide ((vs.length : Int) = many) && decide ((gl : Int) = many) && decide (ms.length ≤ 2000))) := by
  unfold stOk
  by_cases h : inR 0 16 many = true
  · rw [IntWalk.i64_in _ (by unfold inR at h; simp at h; omega)]
    cases vs.all valIn <;> cases msOk (many - 1) none ms <;> simp
  · rw [Bool.not_eq_true] at h
    simp [h]
def bools (gs : List Bool) : List P0 := gs.map fun b => .one (bool b)
theorem bools_len (gs : List Bool) : (bools gs).length = gs.length := List.length_map ..
theorem bools_at {gs : List Bool} {k : Nat} (h : k < gs.length) : (bools gs)[(k : Int).toNat]? = some (.one (bool gs[k])) := by
  unfold bools; simp [h]
abbrev stateP (r : Int) (nv : Bool) (vs : List Int) (ng : Bool) (gs : List Bool) (nm : Bool) (ms : List E3) : P0 := .agg [int r, row nv 1 (ints vs), row ng 1 (bools gs), row nm 3 (edges ms)]
structure Sta where
  r : Int
  vs : List Int
  gs : List Bool
  ms : List E3
def b01 (g : Bool) : Int := if g then 1 else 0
def Sta.ok (s : Sta) : Bool := stOk s.vs.length s.r s.vs s.gs.length s.ms
def rcV (v : Int) (g : Bool) : List Int := 2 :: (enc (v + 1) ++ [b01 g])
def rcM (m : E3) : List Int := 3 :: edgeB m.1 m.2.1 m.2.2
def rcH (s : Sta) : List Int := 1 :: (enc s.r ++ (enc s.vs.length ++ enc s.ms.length))
def ckB (s : Sta) : List (List Int) := rcH s :: (List.zipWith rcV s.vs s.gs ++ (s.ms.map rcM ++ [[4]]))
def Ck (L : List (List Int)) (s : Sta) : Prop := s.ok = true ∧ ckB s <+: L
structure OkF (s : Sta) : Prop where
  many : s.vs.length ≤ 16
  r0 : 0 ≤ s.r
  r1 : s.r ≤ 100
  gl : s.gs.length = s.vs.length
  ml : s.ms.length ≤ 2000
  vin : ∀ v ∈ s.vs, -1 ≤ v ∧ v ≤ 999999
  min : ∀ m ∈ s.ms, 0 ≤ m.1 ∧ m.1 < s.vs.length ∧ 0 ≤ m.2.1 ∧ m.2.1 ≤ 999999 ∧ 0 ≤ m.2.2 ∧ m.2.2 < s.vs.length
theorem Sta.okF {s : Sta} (h : s.ok = true) : OkF s := by
  unfold Sta.ok stOk at h
  rw [msOk_none] at h
  simp only [Bool.and_eq_true, decide_eq_true_eq, List.all_eq_true] at h
  obtain ⟨⟨⟨⟨⟨⟨h1, h2⟩, h3⟩, h4⟩, h5⟩, h6⟩, h7, h8⟩ := h
  unfold inR at h1 h2
  rw [decide_eq_true_eq] at h1 h2
  refine ⟨by omega, h2.1, h2.2, by omega, h5, fun v hv => ?_, fun m hm => ?_⟩
  · have := h6 v hv
    unfold valIn inR at this
    simpa using this
  · have := h8 m hm
    unfold msgIn inR at this
    simp only [Bool.and_eq_true, decide_eq_true_eq] at this
    omega
def rcdH (b : List Int) : Option (Int × Int × Int) :=
  if b.head? = some 1 then
    match decAt b 1 with
    | some (r, i) => match decAt b i with
      | some (m, j) => match decAt b j with
        | some (w, _) => some (r, m, w)
        | none => none
      | none => none
    | none => none
  else none
def rcdV (b : List Int) : Option (Int × Bool) :=
  match decAt b 1 with
  | some (n, j) => if j = (b.length : Int) - 1 then some (n - 1, b.getD j.toNat 0 == 1) else none
  | none => none
theorem rcdH_rcH {s : Sta} (h : OkF s) : rcdH (rcH s) = some (s.r, (s.vs.length : Int), (s.ms.length : Int)) := by
  have h1 := enc_len s.r
  have h2 := enc_len s.vs.length
  have h3 := enc_len s.ms.length
  have hm := h.many
  have hml := h.ml
  have hr0 := h.r0
  have hr1 := h.r1
  have hok : bytesOk (1 :: (enc s.r ++ (enc s.vs.length ++ enc s.ms.length))) = true := bytesOk_of (fun z hz => by
    simp only [List.mem_cons, List.mem_append] at hz
    rcases hz with hz | hz | hz | hz
    · omega
    · exact enc_bytes _ z hz
    · exact enc_bytes _ z hz
    · exact enc_bytes _ z hz) (by simp; omega)
  have d1 := enc_one (l := [1]) (r := enc s.vs.length ++ enc s.ms.length) hr0 (by omega : s.r ≤ 1000000) (by simpa using hok)
  have d2 := enc_one (l := 1 :: enc s.r) (r := enc s.ms.length) (n := (s.vs.length : Int)) (by omega) (by omega) (by simpa using hok)
  have d3 := enc_one (l := 1 :: (enc s.r ++ enc s.vs.length)) (r := []) (n := (s.ms.length : Int)) (by omega) (by omega) (by simpa using hok)
  simp only [List.cons_append, List.nil_append, List.append_nil, List.length_nil, List.length_cons, List.append_assoc, Nat.zero_add, List.length_append] at d1 d2 d3
  unfold rcdH rcH
  rw [show ((1 : Nat) : Int) = 1 from rfl] at d1
  rw [List.head?_cons, if_pos rfl, d1]
  simp only []
  rw [Nat.add_comm 1, d2]
  simp only []
  rw [show (enc s.r).length + 1 + (enc s.vs.length).length = (enc s.r).length + (enc s.vs.length).length + 1 by omega, d3]
theorem rcdV_rcV {v : Int} {g : Bool} (h0 : -1 ≤ v) (h1 : v ≤ 999999) : rcdV (rcV v g) = some (v, g) := by
  have hl := enc_len (v + 1)
  have hok : bytesOk (2 :: (enc (v + 1) ++ [b01 g])) = true := bytesOk_of (fun z hz => by
    simp only [List.mem_cons, List.mem_append, List.not_mem_nil, or_false] at hz
    rcases hz with hz | hz | hz
    · omega
    · exact enc_bytes _ z hz
    · subst hz; unfold b01; split <;> omega) (by simp; omega)
  have d1 := enc_one (l := [2]) (r := [b01 g]) (n := v + 1) (by omega) (by omega) (by simpa using hok)
  simp only [List.cons_append, List.nil_append, List.length_nil, List.length_cons, Nat.zero_add] at d1
  unfold rcdV rcV
  rw [show ((1 : Nat) : Int) = 1 from rfl] at d1
  rw [d1]
  simp only []
  rw [if_pos (by simp; omega)]
  have e : (2 :: (enc (v + 1) ++ [b01 g])).getD (((1 + (enc (v + 1)).length : Nat) : Int).toNat) 0 = b01 g := by
    rw [Int.toNat_natCast, Nat.add_comm 1, List.getD_cons_succ, List.getD_eq_getElem?_getD, List.getElem?_append_right (by omega)]
    simp
  rw [e]
  cases g <;> simp [b01] <;> omega
theorem rdM_rcM {m : E3} (h1 : 0 ≤ m.1 ∧ m.1 ≤ 1000000) (h2 : 0 ≤ m.2.1 ∧ m.2.1 ≤ 1000000) (h3 : 0 ≤ m.2.2 ∧ m.2.2 ≤ 1000000) : readE ((rcM m).drop 1) = some m := by
  obtain ⟨a, b, c⟩ := m
  dsimp only at h1 h2 h3
  have f1 : fits a = true := by simp [fits, h1]
  have f2 : fits b = true := by simp [fits, h2]
  have f3 : fits c = true := by simp [fits, h3]
  unfold rcM edgeB
  rw [if_pos (by simp [f1, f2, f3]), List.drop_one, List.tail_cons]
  exact readE_edgeB f1 f2 f3
theorem ckB_len {s : Sta} (h : OkF s) : (ckB s).length = s.vs.length + s.ms.length + 2 := by
  unfold ckB
  have := h.gl
  simp; omega
theorem Ck.len {L : List (List Int)} {s : Sta} (h : Ck L s) : s.vs.length + s.ms.length + 2 ≤ L.length := by
  rw [← ckB_len (Sta.okF h.1)]
  exact h.2.length_le
theorem Ck.get {L : List (List Int)} {s : Sta} (h : Ck L s) {i : Nat} {b : List Int} (hb : (ckB s)[i]? = some b) : L[i]? = some b := by
  obtain ⟨t, rfl⟩ := h.2
  rw [List.getElem?_append_left]
  · exact hb
  · rcases Nat.lt_or_ge i (ckB s).length with h' | h'
    · exact h'
    · rw [List.getElem?_eq_none h'] at hb; cases hb
theorem Ck.head {L : List (List Int)} {s : Sta} (h : Ck L s) : ∃ b, L[0]? = some b ∧ rcdH b = some (s.r, (s.vs.length : Int), (s.ms.length : Int)) :=
  ⟨rcH s, h.get rfl, rcdH_rcH (Sta.okF h.1)⟩
theorem Ck.val {L : List (List Int)} {s : Sta} (h : Ck L s) {j : Nat} (hj : j < s.vs.length) : ∃ b g, L[1 + j]? = some b ∧ s.gs[j]? = some g ∧ rcdV b = some (s.vs[j], g) := by
  have hF := Sta.okF h.1
  have hg : j < s.gs.length := by rw [hF.gl]; exact hj
  refine ⟨rcV s.vs[j] s.gs[j], s.gs[j], h.get ?_, List.getElem?_eq_getElem hg, ?_⟩
  · unfold ckB
    rw [Nat.add_comm 1, List.getElem?_cons_succ, List.getElem?_append_left (by simp; omega), List.getElem?_eq_getElem (by simp; omega), List.getElem_zipWith]
  · have := hF.vin s.vs[j] (List.getElem_mem hj)
    exact rcdV_rcV this.1 this.2
theorem Ck.msg {L : List (List Int)} {s : Sta} (h : Ck L s) {j : Nat} (hj : j < s.ms.length) : ∃ b, L[1 + s.vs.length + j]? = some b ∧ readE (b.drop 1) = some s.ms[j] := by
  have hF := Sta.okF h.1
  refine ⟨rcM s.ms[j], h.get ?_, ?_⟩
  · unfold ckB
    have e : (List.zipWith rcV s.vs s.gs).length = s.vs.length := by have := hF.gl; simp; omega
    rw [show 1 + s.vs.length + j = (s.vs.length + j) + 1 by omega, List.getElem?_cons_succ, List.getElem?_append_right (by omega), e, show s.vs.length + j - s.vs.length = j by omega, List.getElem?_append_left (by simpa using hj)]
    simp [hj]
  · have := hF.min s.ms[j] (List.getElem_mem hj)
    have := hF.many
    exact rdM_rcM (by omega) (by omega) (by omega)
theorem Ck.uniq {L : List (List Int)} {s t : Sta} (h : Ck L s) (h' : Ck L t) : s = t := by
  obtain ⟨b, e1, e2⟩ := h.head
  obtain ⟨b', e1', e2'⟩ := h'.head
  rw [e1] at e1'
  injection e1' with e; subst e
  rw [e2] at e2'
  injection e2' with e
  injection e with er e
  injection e with ev em
  have hv : s.vs.length = t.vs.length := by omega
  have hm : s.ms.length = t.ms.length := by omega
  have hgs := (Sta.okF h.1).gl
  have hgt := (Sta.okF h'.1).gl
  have key : ∀ j (hj : j < s.vs.length) (hj' : j < t.vs.length), s.vs[j] = t.vs[j] ∧ s.gs[j]? = t.gs[j]? := fun j hj hj' => by
    obtain ⟨b, g, f1, f2, f3⟩ := h.val hj
    obtain ⟨b', g', f1', f2', f3'⟩ := h'.val hj'
    rw [f1] at f1'
    injection f1' with e; subst e
    rw [f3] at f3'
    injection f3' with e
    injection e with e1 e2
    rw [f2, f2', e2]
    exact ⟨e1, rfl⟩
  have kv : s.vs = t.vs := List.ext_getElem hv fun j hj hj' => (key j hj hj').1
  have kg : s.gs = t.gs := List.ext_getElem? fun j => by
    by_cases hj : j < s.vs.length
    · exact (key j hj (by omega)).2
    · rw [List.getElem?_eq_none (by omega), List.getElem?_eq_none (by omega)]
  have km : s.ms = t.ms := List.ext_getElem hm fun j hj hj' => by
    obtain ⟨b, f1, f2⟩ := h.msg hj
    obtain ⟨b', f1', f2'⟩ := h'.msg hj'
    rw [hv] at f1
    rw [f1] at f1'
    injection f1' with e; subst e
    rw [f2] at f2'
    injection f2'
  obtain ⟨r, vs, gs, ms⟩ := s
  obtain ⟨r', vs', gs', ms'⟩ := t
  dsimp only at er kv kg km
  rw [er, kv, kg, km]
open Classical in
noncomputable def ckAt (L : List (List Int)) : Option Sta := if h : ∃ s, Ck L s then some h.choose else none
theorem ckAt_some {L : List (List Int)} {s : Sta} (h : Ck L s) : ckAt L = some s := by
  unfold ckAt
  have hx : ∃ s, Ck L s := ⟨s, h⟩
  rw [dif_pos hx]
  exact congrArg some (hx.choose_spec.uniq h)
theorem ckAt_none {L : List (List Int)} (h : ∀ s, ¬ Ck L s) : ckAt L = none := by
  unfold ckAt
  rw [dif_neg (fun ⟨s, hs⟩ => h s hs)]
theorem ckAt_ck {L : List (List Int)} {s : Sta} (h : ckAt L = some s) : Ck L s := by
  unfold ckAt at h
  split at h
  · rename_i hx
    injection h with h
    rw [← h]; exact hx.choose_spec
  · cases h
noncomputable def lastFrom (L : List (List Int)) : Nat → Option Sta
  | 0 => none
  | n + 1 => match ckAt (L.drop n) with
    | some s => some s
    | none => lastFrom L n
noncomputable def lastCk (L : List (List Int)) : Option Sta := if L.length ≤ 2000 then lastFrom L L.length else none
theorem lastFrom_ok {L : List (List Int)} {s : Sta} : ∀ n, lastFrom L n = some s → s.ok = true
  | 0, h => by cases h
  | n + 1, h => by
    unfold lastFrom at h
    split at h
    · rename_i x hx
      injection h with h
      rw [← h]; exact (ckAt_ck hx).1
    · exact lastFrom_ok n h
theorem lastCk_ok {L : List (List Int)} {s : Sta} (h : lastCk L = some s) : s.ok = true := by
  unfold lastCk at h
  split at h
  · exact lastFrom_ok _ h
  · cases h
end Go.Proofs.Ytmkecjamfippfaa.Abs
