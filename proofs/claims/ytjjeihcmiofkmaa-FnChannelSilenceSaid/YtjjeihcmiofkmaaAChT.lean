/- Channels by states: the copy of the reference. No statement of the seat is proved here. -/
import Derived.Test.YtjjeihcmiofkmaaTy
import Derived.Lib.Hide
import Derived.Test.YtjjeihcmiofkmaaAChC
set_option linter.unusedSimpArgs false
set_option linter.unusedVariables false
namespace Go.Proofs.Ytjjeihcmiofkmaa.Abs
open Go.RowKit
open R (val row ref)

/-- A channel whose four rows are the caller's own. -/
def chO (k1 k2 k3 k4 : Nat) (c : Ch) : D := .agg [.own k1 0 c.vs.length 1, .r false (int c.kn), .own k2 0 c.got.length 1, .own k3 0 c.ps.length 2, .own k4 0 c.rs.length 1]
def chQ (k1 k2 k3 k4 : Nat) (c : Ch) : List (Nat × Ob) := [(k1, .sl 3 1 true (ints c.vs)), (k2, .sl 3 1 true (ints c.got)), (k3, .sl 71 2 true (pks c.ps)), (k4, .sl 3 1 true (ints c.rs))]
set_option maxRecDepth 100000 in
set_option maxHeartbeats 4000000 in
theorem f_l16 (nV nG nP nR : Bool) (vs : List Int) (kn : Int) (got : List Int) (ps : List Pk) (rs : List Int) (h1 : vs.length ≤ 1048576) (h2 : got.length ≤ 1048576) (h3 : ps.length ≤ 1048576) (h4 : rs.length ≤ 1048576) :
    FnS Try.prog 51 [.agg [.r false (row nV 1 (ints vs)), .r false (int kn), .r false (row nG 1 (ints got)), .r false (row nP 2 (pks ps)), .r false (row nR 1 (ints rs))]] [] (chO 2000001 2000002 2000003 2000004 ⟨vs, kn, got, ps, rs⟩) (chQ 2000001 2000002 2000003 2000004 ⟨vs, kn, got, ps, rs⟩) := by
  have l1 := ints_len vs
  have l2 := ints_len got
  have l3 := pks_len ps
  have l4 := ints_len rs
  have e1 : ([] : List P0).length + (ints vs).length = vs.length := (Nat.zero_add _).trans l1
  have e2 : ([] : List P0).length + (ints got).length = got.length := (Nat.zero_add _).trans l2
  have e3 : ([] : List P0).length + (pks ps).length = ps.length := (Nat.zero_add _).trans l3
  have e4 : ([] : List P0).length + (ints rs).length = rs.length := (Nat.zero_add _).trans l4
  dsimp only [chO, chQ]
  refine fnS_of (l := [.cell 2 40]) Try.func51 (by kernel_rfl) rfl Try.ntmps51 rfl rfl ?_; simp only [dEnv, Nat.reduceAdd]
  repeat' (first | (with_reducible first | refine aw_seq ?_ | refine thn_normal ?_ | refine thn_ret ?_ | refine thn_exit ?_ | refine blk_normal ?_ | refine blk_ret ?_ | refine blk_hit ?_ | refine blk_miss rfl ?_ | refine aw_block ?_ | refine aw_ret ?_ | refine aw_skip ?_ | refine aw_exit ?_ | refine w_nil ?_ | refine x_nil (by kernel_rfl) ?_) | refine aw_region ?_ | refine aw_region_draw (by kernel_rfl) ?_ | refine aw_yes rfl ?_ | refine aw_no rfl ?_ | ((with_reducible refine w_seq ?_); first | refine r_q tbOk rfl rfl rfl rfl ?_ | refine r_e tbOk rfl rfl rfl rfl rfl ?_ | refine r_yes tbOk rfl rfl rfl rfl rfl rfl ?_ | refine w_no rfl rfl (lookO_spec rfl) rfl rfl rfl ?_ | refine w_un rfl rfl (lookO_spec rfl) rfl rfl ?_) | ((with_reducible refine w_drw ?_); first | refine rx_q tbOk rfl rfl rfl rfl ?_ | refine rx_e tbOk rfl rfl rfl rfl rfl ?_ | refine rx_yes tbOk rfl rfl rfl rfl rfl rfl ?_ | refine x_no rfl rfl (lookO_spec rfl) rfl rfl rfl ?_ | refine x_un rfl rfl (lookO_spec rfl) rfl rfl ?_) | ((first | refine' w_e rfl ?xa ?xb ?xc ?xe ?_ | refine' v_e rfl ?xa ?xb ?xc ?xe ?_); (case xa => first | exact e_build [] tlOk rfl rfl rfl rfl rfl rfl (by simp [AllN]) (by simp) | exact e_append tlOk rfl rfl rfl rfl rfl rfl (slD_plain slD_row (by first | exact ints_plain _ | exact pks_plain _)) rfl (by simp only [maxLen, List.length_nil]; omega) (by simp only [List.length_nil]; omega)); (case xb => rfl); (case xc => rfl); (case xe => rfl); try dsimp only [P0.d, Res.d, List.map_cons, List.map_nil, List.set_cons_zero, List.set_cons_succ, Nat.reduceAdd]) | ((first | refine aw_ways rfl ?_ ?_ | refine r_split rfl rfl rfl ?_ ?_) <;> intro hg_ <;> fail_if_success (exact Bool.noConfusion hg_)) <;> (try simp only [prn] at hg_) <;> (try first | contradiction | (exfalso; omega)))
  rw [e1, e2, e3, e4]
  exact ret_D [(2000001, 6), (2000002, 12), (2000003, 16), (2000004, 20)] rfl (by (repeat' (first | exact trivial | refine subHR_cons rfl ?_ ?_ | rfl))) (retD_cell rfl rfl (by (with_reducible first | exact ty3 | exact ty4 | exact ty5 | exact ty9 | exact ty17 | exact ty19 | exact ty22 | exact ty23 | exact ty25 | exact ty31 | exact ty38 | exact ty40 | exact ty54 | exact ty71 | exact ty75 | exact ty78 | exact ty82 | exact ty83)) rfl rfl rfl (imp_refl rfl))
end Go.Proofs.Ytjjeihcmiofkmaa.Abs
