/- Channels by states: the methods that turn a channel behind a pointer. No statement of the seat is proved here. -/
import Derived.Test.YtjjeihcmiofkmaaTy
import Derived.Lib.Hide
import Derived.Test.YtjjeihcmiofkmaaAChV
set_option linter.unusedSimpArgs false
set_option linter.unusedVariables false
namespace Go.Proofs.Ytjjeihcmiofkmaa.Abs
open Go.RowKit
open R (val row ref)

def rowC (nil : Bool) (k n sz : Nat) : Cell := if nil then .r true (row true sz []) else .own k 0 n sz
def rowO (nil : Bool) (k E sz : Nat) (els : List P0) : List (Nat × Ob) := if nil then [] else [(k, .sl E sz true els)]
/-- A channel in a variable (name k0), its rows under the names k1, k2, k3 where they are not nil. -/
def chH (k0 k1 k2 k3 : Nat) (nV nG nP nR mV mk : Bool) (c : Ch) : List (Nat × Ob) :=
  (k0, .var 40 [.r mV (row nV 1 (ints c.vs)), .r mk (int c.kn), rowC nG k1 c.got.length 1, rowC nP k2 c.ps.length 2, rowC nR k3 c.rs.length 1]) :: (rowO nG k1 3 1 (ints c.got) ++ (rowO nP k2 71 2 (pks c.ps) ++ rowO nR k3 3 1 (ints c.rs)))
theorem d_own' {k n n' sz : Nat} (h : n = n') : Cell.own k 0 n sz = .own k 0 n' sz := by rw [h]
theorem var_eq {E : TypeId} {a b c d e a' b' c' d' e' : Cell} (h1 : a = a') (h2 : b = b') (h3 : c = c') (h4 : d = d') (h5 : e = e') : Ob.var E [a, b, c, d, e] = .var E [a', b', c', d', e'] := by rw [h1, h2, h3, h4, h5]
theorem c_int {m : Bool} {k : IntKind} {a b : Int} (h : a = b) : Cell.r m (.val (.int k a)) = .r m (.val (.int k b)) := by rw [h]
set_option maxRecDepth 100000 in
set_option maxHeartbeats 4000000 in
theorem f_receipt (nV nG nP nR mV mk : Bool) (vs : List Int) (kn : Int) (got : List Int) (ps : List Pk) (rs : List Int) (hG : nG = true → got = []) (hP : nP = true → ps = []) (hR : nR = true → rs = []) (hl : rs.length ≤ 100) :
    FnS Try.prog 71 [.one (.ptr 1000000000 0 0 0)] (chH 1000000000 1000001 1000002 1000003 nV nG nP nR mV mk ⟨vs, kn, got, ps, rs⟩) (.one (.r true (bool (Ch.receipt ⟨vs, kn, got, ps, rs⟩).2))) (chH 1000000000 2000001 2000002 2000003 nV nG nP (nR && !(Ch.receipt ⟨vs, kn, got, ps, rs⟩).2) mV mk (Ch.receipt ⟨vs, kn, got, ps, rs⟩).1) := by
  by_cases hlt : rs.length ≥ 100
  · have e : Ch.receipt ⟨vs, kn, got, ps, rs⟩ = (⟨vs, kn, got, ps, rs⟩, false) := if_pos hlt
    rw [e]
    have l4 := ints_len rs
    cases nG <;> cases nP <;> cases nR
    all_goals
      (try (have h := hG rfl; subst h)); (try (have h := hP rfl; subst h)); (try (have h := hR rfl; subst h; simp at hlt; done))
      try (
        dsimp only [chH, rowC, rowO]; simp only [Bool.false_eq_true, if_false, if_true, List.nil_append, List.append_nil, List.cons_append, Bool.and_true, Bool.and_false, Bool.true_and, Bool.false_and, Bool.not_false, Bool.not_true]
        refine fnS_of (l := [.tmp 2]) Try.func71 (by kernel_rfl) rfl Try.ntmps71 rfl rfl ?_; simp only [dEnv, Nat.reduceAdd]
        repeat' (first | (with_reducible first | refine aw_seq ?_ | refine thn_normal ?_ | refine thn_ret ?_ | refine thn_exit ?_ | refine blk_normal ?_ | refine blk_ret ?_ | refine blk_hit ?_ | refine blk_miss rfl ?_ | refine aw_block ?_ | refine aw_ret ?_ | refine aw_skip ?_ | refine aw_exit ?_ | refine w_nil ?_ | refine x_nil (by kernel_rfl) ?_) | refine aw_region ?_ | refine aw_region_draw (by kernel_rfl) ?_ | refine aw_yes rfl ?_ | refine aw_no rfl ?_ | ((with_reducible refine w_seq ?_); first | refine r_q tbOk rfl rfl rfl rfl ?_ | refine r_e tbOk rfl rfl rfl rfl rfl ?_ | refine r_yes tbOk rfl rfl rfl rfl rfl rfl ?_ | refine w_no rfl rfl (lookO_spec rfl) rfl rfl rfl ?_ | refine w_un rfl rfl (lookO_spec rfl) rfl rfl ?_) | ((with_reducible refine w_drw ?_); first | refine rx_q tbOk rfl rfl rfl rfl ?_ | refine rx_e tbOk rfl rfl rfl rfl rfl ?_ | refine rx_yes tbOk rfl rfl rfl rfl rfl rfl ?_ | refine x_no rfl rfl (lookO_spec rfl) rfl rfl rfl ?_ | refine x_un rfl rfl (lookO_spec rfl) rfl rfl ?_) | ((first | refine aw_ways rfl ?_ ?_ | refine r_split rfl rfl rfl ?_ ?_) <;> intro hg_ <;> fail_if_success (exact Bool.noConfusion hg_)) <;> (try simp only [prn] at hg_) <;> (try first | contradiction | (exfalso; omega)))
        exact ret_D [(2000001, 1000001), (2000002, 1000002), (2000003, 1000003)] rfl (by (repeat' (first | exact trivial | refine subHR_cons rfl ?_ ?_ | rfl))) (retD_bool rfl rfl rfl))
  · have e : Ch.receipt ⟨vs, kn, got, ps, rs⟩ = (⟨vs, kn, got, ps, rs ++ [(got.length : Int)]⟩, true) := if_neg hlt
    rw [e]
    have l4 := ints_len rs
    have hL : (rs ++ [(got.length : Int)]).length = rs.length + 1 := by simp
    have hI : ints (rs ++ [(got.length : Int)]) = ints rs ++ [iP got.length] := ints_app _ _
    dsimp only
    generalize rs ++ [(got.length : Int)] = rs' at *
    cases nG <;> cases nP <;> cases nR
    all_goals
      (try (have h := hG rfl; subst h)); (try (have h := hP rfl; subst h)); (try (have h := hR rfl; subst h))
      dsimp only [chH, rowC, rowO]; simp only [Bool.false_eq_true, if_false, if_true, List.nil_append, List.append_nil, List.cons_append, Bool.and_true, Bool.and_false, Bool.true_and, Bool.false_and, Bool.not_false, Bool.not_true]
      refine fnS_of (l := [.tmp 2]) Try.func71 (by kernel_rfl) rfl Try.ntmps71 rfl rfl ?_; simp only [dEnv, Nat.reduceAdd]
      repeat' (first | (with_reducible first | refine aw_seq ?_ | refine thn_normal ?_ | refine thn_ret ?_ | refine thn_exit ?_ | refine blk_normal ?_ | refine blk_ret ?_ | refine blk_hit ?_ | refine blk_miss rfl ?_ | refine aw_block ?_ | refine aw_ret ?_ | refine aw_skip ?_ | refine aw_exit ?_ | refine w_nil ?_ | refine x_nil (by kernel_rfl) ?_) | refine aw_region ?_ | refine aw_region_draw (by kernel_rfl) ?_ | refine aw_yes rfl ?_ | refine aw_no rfl ?_ | ((with_reducible refine w_seq ?_); first | refine r_q tbOk rfl rfl rfl rfl ?_ | refine r_e tbOk rfl rfl rfl rfl rfl ?_ | refine r_yes tbOk rfl rfl rfl rfl rfl rfl ?_ | refine w_no rfl rfl (lookO_spec rfl) rfl rfl rfl ?_ | refine w_un rfl rfl (lookO_spec rfl) rfl rfl ?_) | ((with_reducible refine w_drw ?_); first | refine rx_q tbOk rfl rfl rfl rfl ?_ | refine rx_e tbOk rfl rfl rfl rfl rfl ?_ | refine rx_yes tbOk rfl rfl rfl rfl rfl rfl ?_ | refine x_no rfl rfl (lookO_spec rfl) rfl rfl rfl ?_ | refine x_un rfl rfl (lookO_spec rfl) rfl rfl ?_) | ((first | refine' w_e rfl ?xa ?xb ?xc ?xe ?_ | refine' v_e rfl ?xa ?xb ?xc ?xe ?_); (case xa => first | exact e_build [.tmp 18] tlOk rfl rfl rfl rfl rfl rfl (allN_one rfl) (by simp) | exact e_append_nil tlOk rfl rfl rfl rfl rfl (slD_own (lookHO_spec rfl) rfl) (by simp) (by simp only [maxLen, List.length_cons, List.length_nil]; omega) (by simp only [List.length_cons, List.length_nil]; omega) | exact e_append tlOk rfl rfl rfl rfl rfl rfl (slD_own (lookHO_spec rfl) rfl) l4.symm (by simp only [maxLen, List.length_cons, List.length_nil]; omega) (by simp only [List.length_cons, List.length_nil]; omega)); (case xb => rfl); (case xc => rfl); (case xe => rfl); try dsimp only [P0.d, Res.d, List.map_cons, List.map_nil, List.set_cons_zero, List.set_cons_succ, Nat.reduceAdd]) | ((first | refine aw_ways rfl ?_ ?_ | refine r_split rfl rfl rfl ?_ ?_) <;> intro hg_ <;> fail_if_success (exact Bool.noConfusion hg_)) <;> (try simp only [prn] at hg_) <;> (try first | contradiction | (exfalso; omega)))
      first
        | exact ret_D [(2000001, 1000001), (2000002, 1000002), (2000003, 20)] rfl (by (repeat' (first | exact trivial | refine subHR_cons rfl ?_ ?_ | rfl | exact var_eq rfl rfl rfl rfl (d_own' (by simp only [hL, l4, List.length_cons, List.length_nil])) | exact ob_sl rfl (by rw [hI] <;> rfl)))) (retD_bool rfl rfl rfl)
        | trace_state
set_option maxRecDepth 100000 in
set_option maxHeartbeats 4000000 in
theorem f_receiptStep (nV nG nP nR mV mk : Bool) (vs : List Int) (kn : Int) (got : List Int) (ps : List Pk) (rs : List Int) (step : Int) (hG : nG = true → got = []) (hP : nP = true → ps = []) (hR : nR = true → rs = []) (hl : rs.length ≤ 100) :
    FnS Try.prog 72 [.one (.ptr 1000000000 0 0 0), .one (.r false (int step))] (chH 1000000000 1000001 1000002 1000003 nV nG nP nR mV mk ⟨vs, kn, got, ps, rs⟩) (.one (.r true (bool (Ch.receiptStep ⟨vs, kn, got, ps, rs⟩ step).2))) (chH 1000000000 2000001 2000002 2000003 nV nG nP nR mV (mk || (!rs.isEmpty && decide (step = 6))) (Ch.receiptStep ⟨vs, kn, got, ps, rs⟩ step).1) := by
  cases rs with
  | nil =>
    have e : Ch.receiptStep ⟨vs, kn, got, ps, []⟩ step = (⟨vs, kn, got, ps, []⟩, false) := rfl
    rw [e]
    simp only [List.isEmpty_nil, Bool.not_true, Bool.false_and, Bool.or_false]
    cases nG <;> cases nP <;> cases nR
    all_goals
      (try (have h := hG rfl; subst h)); (try (have h := hP rfl; subst h))
      dsimp only [chH, rowC, rowO]; simp only [Bool.false_eq_true, if_false, if_true, List.nil_append, List.append_nil, List.cons_append, Bool.and_true, Bool.and_false, Bool.true_and, Bool.false_and, Bool.not_false, Bool.not_true]
      refine fnS_of (l := [.tmp 4]) Try.func72 (by kernel_rfl) rfl Try.ntmps72 rfl rfl ?_; simp only [dEnv, Nat.reduceAdd]
      repeat' (first | (with_reducible first | refine aw_seq ?_ | refine thn_normal ?_ | refine thn_ret ?_ | refine thn_exit ?_ | refine blk_normal ?_ | refine blk_ret ?_ | refine blk_hit ?_ | refine blk_miss rfl ?_ | refine aw_block ?_ | refine aw_ret ?_ | refine aw_skip ?_ | refine aw_exit ?_ | refine w_nil ?_ | refine x_nil (by kernel_rfl) ?_) | refine aw_region ?_ | refine aw_region_draw (by kernel_rfl) ?_ | refine aw_yes rfl ?_ | refine aw_no rfl ?_ | ((with_reducible refine w_seq ?_); first | refine r_q tbOk rfl rfl rfl rfl ?_ | refine r_e tbOk rfl rfl rfl rfl rfl ?_ | refine r_yes tbOk rfl rfl rfl rfl rfl rfl ?_ | refine w_no rfl rfl (lookO_spec rfl) rfl rfl rfl ?_ | refine w_un rfl rfl (lookO_spec rfl) rfl rfl ?_) | ((with_reducible refine w_drw ?_); first | refine rx_q tbOk rfl rfl rfl rfl ?_ | refine rx_e tbOk rfl rfl rfl rfl rfl ?_ | refine rx_yes tbOk rfl rfl rfl rfl rfl rfl ?_ | refine x_no rfl rfl (lookO_spec rfl) rfl rfl rfl ?_ | refine x_un rfl rfl (lookO_spec rfl) rfl rfl ?_) | ((first | refine aw_ways rfl ?_ ?_ | refine r_split rfl rfl rfl ?_ ?_) <;> intro hg_ <;> fail_if_success (exact Bool.noConfusion hg_)) <;> (try simp only [prn] at hg_) <;> (try first | contradiction | (exfalso; omega)))
      first
        | exact ret_D [(2000001, 1000001), (2000002, 1000002), (2000003, 1000003)] rfl (by (repeat' (first | exact trivial | refine subHR_cons rfl ?_ ?_ | rfl))) (retD_bool rfl rfl rfl)
        | trace_state
  | cons r t =>
    have hn : nR = false := by
      cases nR with
      | false => rfl
      | true => have := hR rfl; cases this
    subst hn
    simp only [List.isEmpty_cons, Bool.not_false, Bool.true_and]
    have l4 := ints_len (r :: t)
    simp only [List.length_cons] at hl l4
    by_cases h6 : step = 6
    · have e : Ch.receiptStep ⟨vs, kn, got, ps, r :: t⟩ step = (⟨vs, if kn < r then r else kn, got, ps, t⟩, true) := by unfold Ch.receiptStep; rw [h6]; rfl
      rw [e, decide_eq_true h6, Bool.or_true]
      dsimp only
      cases nG <;> cases nP
      all_goals
        (try (have h := hG rfl; subst h)); (try (have h := hP rfl; subst h))
        dsimp only [chH, rowC, rowO]; simp only [Bool.false_eq_true, if_false, if_true, List.nil_append, List.append_nil, List.cons_append, Bool.and_true, Bool.and_false, Bool.true_and, Bool.false_and, Bool.not_false, Bool.not_true]
        refine fnS_of (l := [.tmp 4]) Try.func72 (by kernel_rfl) rfl Try.ntmps72 rfl rfl ?_; simp only [dEnv, Nat.reduceAdd]
        repeat' (first | (with_reducible first | refine aw_seq ?_ | refine thn_normal ?_ | refine thn_ret ?_ | refine thn_exit ?_ | refine blk_normal ?_ | refine blk_ret ?_ | refine blk_hit ?_ | refine blk_miss rfl ?_ | refine aw_block ?_ | refine aw_ret ?_ | refine aw_skip ?_ | refine aw_exit ?_ | refine w_nil ?_ | refine x_nil (by kernel_rfl) ?_) | refine aw_region ?_ | refine aw_region_draw (by kernel_rfl) ?_ | refine aw_yes rfl ?_ | refine aw_no rfl ?_ | ((with_reducible refine w_seq ?_); first | refine r_q tbOk rfl rfl rfl rfl ?_ | refine r_e tbOk rfl rfl rfl rfl rfl ?_ | refine r_yes tbOk rfl rfl rfl rfl rfl rfl ?_ | refine w_no rfl rfl (lookO_spec rfl) rfl rfl rfl ?_ | refine w_un rfl rfl (lookO_spec rfl) rfl rfl ?_) | ((with_reducible refine w_drw ?_); first | refine rx_q tbOk rfl rfl rfl rfl ?_ | refine rx_e tbOk rfl rfl rfl rfl rfl ?_ | refine rx_yes tbOk rfl rfl rfl rfl rfl rfl ?_ | refine x_no rfl rfl (lookO_spec rfl) rfl rfl rfl ?_ | refine x_un rfl rfl (lookO_spec rfl) rfl rfl ?_) | ((first | refine' w_q rfl rfl ?xa rfl ?_ | refine' v_q rfl rfl ?xa rfl ?_ | refine' w_yes rfl rfl (lookO_spec rfl) rfl ?xa rfl ?_ | refine' v_yes rfl rfl (lookO_spec rfl) rfl ?xa rfl ?_); case xa => first | exact k_indexO tbOk rfl rfl rfl rfl (by omega) (by simp only [List.length_cons]; omega) | exact k_loadI tbOk rfl rfl rfl rfl (by simp) | exact k_sliceO (a := 1) (b := (r :: t).length) tbOk rfl rfl rfl ⟨_, evO_spec rfl⟩ rfl (by simp) (Nat.le_refl _)) | ((first | refine aw_ways rfl ?_ ?_ | refine r_split rfl rfl rfl ?_ ?_) <;> intro hg_ <;> fail_if_success (exact Bool.noConfusion hg_)) <;> (try simp only [prn] at hg_) <;> (try first | contradiction | (exfalso; omega)))
        first
          | exact ret_W (weak_shift 1000003 2000003 1 rfl (by simp [ints]) rfl) (ret_D [(2000001, 1000001), (2000002, 1000002)] rfl (by (repeat' (first | exact trivial | refine subHR_cons rfl ?_ ?_ | rfl))) (retD_bool rfl rfl rfl))
          | trace_state
    · have e : Ch.receiptStep ⟨vs, kn, got, ps, r :: t⟩ step = (⟨vs, kn, got, ps, t⟩, true) := by simp [Ch.receiptStep, h6]
      rw [e, decide_eq_false h6, Bool.or_false]
      dsimp only
      cases nG <;> cases nP
      all_goals
        (try (have h := hG rfl; subst h)); (try (have h := hP rfl; subst h))
        dsimp only [chH, rowC, rowO]; simp only [Bool.false_eq_true, if_false, if_true, List.nil_append, List.append_nil, List.cons_append, Bool.and_true, Bool.and_false, Bool.true_and, Bool.false_and, Bool.not_false, Bool.not_true]
        refine fnS_of (l := [.tmp 4]) Try.func72 (by kernel_rfl) rfl Try.ntmps72 rfl rfl ?_; simp only [dEnv, Nat.reduceAdd]
        repeat' (first | (with_reducible first | refine aw_seq ?_ | refine thn_normal ?_ | refine thn_ret ?_ | refine thn_exit ?_ | refine blk_normal ?_ | refine blk_ret ?_ | refine blk_hit ?_ | refine blk_miss rfl ?_ | refine aw_block ?_ | refine aw_ret ?_ | refine aw_skip ?_ | refine aw_exit ?_ | refine w_nil ?_ | refine x_nil (by kernel_rfl) ?_) | refine aw_region ?_ | refine aw_region_draw (by kernel_rfl) ?_ | refine aw_yes rfl ?_ | refine aw_no rfl ?_ | ((with_reducible refine w_seq ?_); first | refine r_q tbOk rfl rfl rfl rfl ?_ | refine r_e tbOk rfl rfl rfl rfl rfl ?_ | refine r_yes tbOk rfl rfl rfl rfl rfl rfl ?_ | refine w_no rfl rfl (lookO_spec rfl) rfl rfl rfl ?_ | refine w_un rfl rfl (lookO_spec rfl) rfl rfl ?_) | ((with_reducible refine w_drw ?_); first | refine rx_q tbOk rfl rfl rfl rfl ?_ | refine rx_e tbOk rfl rfl rfl rfl rfl ?_ | refine rx_yes tbOk rfl rfl rfl rfl rfl rfl ?_ | refine x_no rfl rfl (lookO_spec rfl) rfl rfl rfl ?_ | refine x_un rfl rfl (lookO_spec rfl) rfl rfl ?_) | ((first | refine' w_q rfl rfl ?xa rfl ?_ | refine' v_q rfl rfl ?xa rfl ?_ | refine' w_yes rfl rfl (lookO_spec rfl) rfl ?xa rfl ?_ | refine' v_yes rfl rfl (lookO_spec rfl) rfl ?xa rfl ?_); case xa => first | exact k_indexO tbOk rfl rfl rfl rfl (by omega) (by simp only [List.length_cons]; omega) | exact k_loadI tbOk rfl rfl rfl rfl (by simp) | exact k_sliceO (a := 1) (b := (r :: t).length) tbOk rfl rfl rfl ⟨_, evO_spec rfl⟩ rfl (by simp) (Nat.le_refl _)) | ((first | refine aw_ways rfl ?_ ?_ | refine r_split rfl rfl rfl ?_ ?_) <;> intro hg_ <;> fail_if_success (exact Bool.noConfusion hg_)) <;> (try simp only [prn] at hg_) <;> (try first | contradiction | (exfalso; omega)))
        first
          | exact ret_W (weak_shift 1000003 2000003 1 rfl (by simp [ints]) rfl) (ret_D [(2000001, 1000001), (2000002, 1000002)] rfl (by (repeat' (first | exact trivial | refine subHR_cons rfl ?_ ?_ | rfl))) (retD_bool rfl rfl rfl))
          | trace_state
def pkApp (ps : List Pk) (got : List Int) (step : Int) : Bool := match ps with | [] => false | p :: _ => decide (step = 1) && decide (p.1 = (got.length : Int))
set_option maxRecDepth 100000 in
set_option maxHeartbeats 8000000 in
theorem f_packetStep (nV nG nP nR mV mk : Bool) (vs : List Int) (kn : Int) (got : List Int) (ps : List Pk) (rs : List Int) (step : Int) (hG : nG = true → got = []) (hP : nP = true → ps = []) (hR : nR = true → rs = []) (hl : ps.length ≤ 100) (hlg : got.length ≤ 1048576) :
    FnS Try.prog 70 [.one (.ptr 1000000000 0 0 0), .one (.r false (int step))] (chH 1000000000 1000001 1000002 1000003 nV nG nP nR mV mk ⟨vs, kn, got, ps, rs⟩) (.one (.r true (bool (Ch.packet ⟨vs, kn, got, ps, rs⟩ step).2))) (chH 1000000000 2000001 2000002 2000003 nV (nG && !pkApp ps got step) nP nR mV mk (Ch.packet ⟨vs, kn, got, ps, rs⟩ step).1) := by
  have l2 := ints_len got
  cases ps with
  | nil =>
    have e : Ch.packet ⟨vs, kn, got, [], rs⟩ step = (⟨vs, kn, got, [], rs⟩, false) := rfl
    rw [e, show pkApp [] got step = false from rfl, Bool.not_false, Bool.and_true]
    cases nG <;> cases nP <;> cases nR
    all_goals
      (try (have h := hG rfl; subst h)); (try (have h := hR rfl; subst h))
      dsimp only [chH, rowC, rowO]; simp only [Bool.false_eq_true, if_false, if_true, List.nil_append, List.append_nil, List.cons_append, Bool.and_true, Bool.and_false, Bool.true_and, Bool.false_and, Bool.not_false, Bool.not_true]
      refine fnS_of (l := [.tmp 4]) Try.func70 (by kernel_rfl) rfl Try.ntmps70 rfl rfl ?_; simp only [dEnv, Nat.reduceAdd]
      repeat' (first | (with_reducible first | refine aw_seq ?_ | refine thn_normal ?_ | refine thn_ret ?_ | refine thn_exit ?_ | refine blk_normal ?_ | refine blk_ret ?_ | refine blk_hit ?_ | refine blk_miss rfl ?_ | refine aw_block ?_ | refine aw_ret ?_ | refine aw_skip ?_ | refine aw_exit ?_ | refine w_nil ?_ | refine x_nil (by kernel_rfl) ?_) | refine aw_region ?_ | refine aw_region_draw (by kernel_rfl) ?_ | refine aw_yes rfl ?_ | refine aw_no rfl ?_ | ((with_reducible refine w_seq ?_); first | refine r_q tbOk rfl rfl rfl rfl ?_ | refine r_e tbOk rfl rfl rfl rfl rfl ?_ | refine r_yes tbOk rfl rfl rfl rfl rfl rfl ?_ | refine w_no rfl rfl (lookO_spec rfl) rfl rfl rfl ?_ | refine w_un rfl rfl (lookO_spec rfl) rfl rfl ?_) | ((with_reducible refine w_drw ?_); first | refine rx_q tbOk rfl rfl rfl rfl ?_ | refine rx_e tbOk rfl rfl rfl rfl rfl ?_ | refine rx_yes tbOk rfl rfl rfl rfl rfl rfl ?_ | refine x_no rfl rfl (lookO_spec rfl) rfl rfl rfl ?_ | refine x_un rfl rfl (lookO_spec rfl) rfl rfl ?_) | ((first | refine aw_ways rfl ?_ ?_ | refine r_split rfl rfl rfl ?_ ?_) <;> intro hg_ <;> fail_if_success (exact Bool.noConfusion hg_)) <;> (try simp only [prn] at hg_) <;> (try first | contradiction | (exfalso; omega)))
      first
        | exact ret_D [(2000001, 1000001), (2000002, 1000002), (2000003, 1000003)] rfl (by (repeat' (first | exact trivial | refine subHR_cons rfl ?_ ?_ | rfl))) (retD_bool rfl rfl rfl)
        | trace_state
  | cons p t =>
    obtain ⟨pn, pv⟩ := p
    have hn : nP = false := by
      cases nP with
      | false => rfl
      | true => have := hP rfl; cases this
    subst hn
    have l3 := pks_len ((pn, pv) :: t)
    simp only [List.length_cons] at hl l3
    have happ : pkApp ((pn, pv) :: t) got step = (decide (step = 1) && decide (pn = (got.length : Int))) := rfl
    rw [happ]
    by_cases h1 : step = 1
    · subst h1
      by_cases hp : pn = (got.length : Int)
      · have e : Ch.packet ⟨vs, kn, got, (pn, pv) :: t, rs⟩ 1 = (⟨vs, kn, got ++ [pv], t, rs⟩, true) := by simp [Ch.packet, hp]
        have hI : ints (got ++ [pv]) = ints got ++ [iP pv] := ints_app _ _
        have hL : (got ++ [pv]).length = got.length + 1 := by simp
        rw [e, decide_eq_true hp]
        dsimp only
        generalize got ++ [pv] = got' at *
        simp only [decide_true, Bool.and_self, Bool.not_true, Bool.and_false]
        cases nG <;> cases nR
        all_goals
          (try (have h := hG rfl; subst h)); (try (have h := hR rfl; subst h))
          dsimp only [chH, rowC, rowO]; simp only [Bool.false_eq_true, if_false, if_true, List.nil_append, List.append_nil, List.cons_append, Bool.and_true, Bool.and_false, Bool.true_and, Bool.false_and, Bool.not_false, Bool.not_true]
          refine fnS_of (l := [.tmp 4]) Try.func70 (by kernel_rfl) rfl Try.ntmps70 rfl rfl ?_; simp only [dEnv, Nat.reduceAdd]
          repeat' (first | (with_reducible first | refine aw_seq ?_ | refine thn_normal ?_ | refine thn_ret ?_ | refine thn_exit ?_ | refine blk_normal ?_ | refine blk_ret ?_ | refine blk_hit ?_ | refine blk_miss rfl ?_ | refine aw_block ?_ | refine aw_ret ?_ | refine aw_skip ?_ | refine aw_exit ?_ | refine w_nil ?_ | refine x_nil (by kernel_rfl) ?_) | refine aw_region ?_ | refine aw_region_draw (by kernel_rfl) ?_ | refine aw_yes rfl ?_ | refine aw_no rfl ?_ | ((with_reducible refine w_seq ?_); first | refine r_q tbOk rfl rfl rfl rfl ?_ | refine r_e tbOk rfl rfl rfl rfl rfl ?_ | refine r_yes tbOk rfl rfl rfl rfl rfl rfl ?_ | refine w_no rfl rfl (lookO_spec rfl) rfl rfl rfl ?_ | refine w_un rfl rfl (lookO_spec rfl) rfl rfl ?_) | ((with_reducible refine w_drw ?_); first | refine rx_q tbOk rfl rfl rfl rfl ?_ | refine rx_e tbOk rfl rfl rfl rfl rfl ?_ | refine rx_yes tbOk rfl rfl rfl rfl rfl rfl ?_ | refine x_no rfl rfl (lookO_spec rfl) rfl rfl rfl ?_ | refine x_un rfl rfl (lookO_spec rfl) rfl rfl ?_) | ((first | refine' w_q rfl rfl ?xa rfl ?_ | refine' v_q rfl rfl ?xa rfl ?_ | refine' w_yes rfl rfl (lookO_spec rfl) rfl ?xa rfl ?_ | refine' v_yes rfl rfl (lookO_spec rfl) rfl ?xa rfl ?_); case xa => first | exact k_indexO tbOk rfl rfl rfl rfl (by omega) (by simp only [List.length_cons]; omega) | exact k_loadPk' tbOk rfl rfl rfl rfl rfl | exact k_sliceO (a := 1) (b := ((pn, pv) :: t).length) tbOk rfl rfl rfl ⟨_, evO_spec rfl⟩ rfl (by simp) (Nat.le_refl _)) | ((first | refine' w_e rfl ?xa ?xb ?xc ?xe ?_ | refine' v_e rfl ?xa ?xb ?xc ?xe ?_); (case xa => first | exact e_build [.tmp 41] tlOk rfl rfl rfl rfl rfl rfl (allN_one rfl) (by simp) | exact e_build [.tmp 69] tlOk rfl rfl rfl rfl rfl rfl (allN_one rfl) (by simp) | exact e_build [.tmp 78] tlOk rfl rfl rfl rfl rfl rfl (allN_one rfl) (by simp) | exact e_append_nil tlOk rfl rfl rfl rfl rfl (slD_own (lookHO_spec rfl) rfl) (by simp) (by simp only [maxLen, List.length_cons, List.length_nil]; omega) (by simp only [List.length_cons, List.length_nil]; omega) | exact e_append tlOk rfl rfl rfl rfl rfl rfl (slD_own (lookHO_spec rfl) rfl) l2.symm (by simp only [maxLen, List.length_cons, List.length_nil]; omega) (by simp only [List.length_cons, List.length_nil]; omega)); (case xb => rfl); (case xc => rfl); (case xe => rfl); try dsimp only [P0.d, Res.d, List.map_cons, List.map_nil, List.set_cons_zero, List.set_cons_succ, Nat.reduceAdd]) | ((first | refine aw_ways rfl ?_ ?_ | refine r_split rfl rfl rfl ?_ ?_) <;> intro hg_ <;> fail_if_success (exact Bool.noConfusion hg_)) <;> (try simp only [prn] at hg_) <;> (try first | contradiction | (exfalso; omega)))
          first
            | exact ret_W (weak_shift 1000002 2000002 1 rfl (by simp [pks]) rfl) (ret_D [(2000001, 43), (2000003, 1000003)] rfl (by (repeat' (first | exact trivial | refine subHR_cons rfl ?_ ?_ | rfl | exact var_eq rfl rfl (d_own' (by simp only [hL, l2, List.length_cons, List.length_nil])) rfl rfl | exact ob_sl rfl (by rw [hI] <;> rfl)))) (retD_bool rfl rfl rfl))
            | trace_state
      · have e : Ch.packet ⟨vs, kn, got, (pn, pv) :: t, rs⟩ 1 = (⟨vs, kn, got, t, rs⟩, true) := by simp [Ch.packet, hp]
        rw [e, decide_eq_false hp, Bool.and_false, Bool.not_false, Bool.and_true]
        dsimp only
        cases nG <;> cases nR
        all_goals
          (try (have h := hG rfl; subst h)); (try (have h := hR rfl; subst h))
          dsimp only [chH, rowC, rowO]; simp only [Bool.false_eq_true, if_false, if_true, List.nil_append, List.append_nil, List.cons_append, Bool.and_true, Bool.and_false, Bool.true_and, Bool.false_and, Bool.not_false, Bool.not_true]
          refine fnS_of (l := [.tmp 4]) Try.func70 (by kernel_rfl) rfl Try.ntmps70 rfl rfl ?_; simp only [dEnv, Nat.reduceAdd]
          repeat' (first | (with_reducible first | refine aw_seq ?_ | refine thn_normal ?_ | refine thn_ret ?_ | refine thn_exit ?_ | refine blk_normal ?_ | refine blk_ret ?_ | refine blk_hit ?_ | refine blk_miss rfl ?_ | refine aw_block ?_ | refine aw_ret ?_ | refine aw_skip ?_ | refine aw_exit ?_ | refine w_nil ?_ | refine x_nil (by kernel_rfl) ?_) | refine aw_region ?_ | refine aw_region_draw (by kernel_rfl) ?_ | refine aw_yes rfl ?_ | refine aw_no rfl ?_ | ((with_reducible refine w_seq ?_); first | refine r_q tbOk rfl rfl rfl rfl ?_ | refine r_e tbOk rfl rfl rfl rfl rfl ?_ | refine r_yes tbOk rfl rfl rfl rfl rfl rfl ?_ | refine w_no rfl rfl (lookO_spec rfl) rfl rfl rfl ?_ | refine w_un rfl rfl (lookO_spec rfl) rfl rfl ?_) | ((with_reducible refine w_drw ?_); first | refine rx_q tbOk rfl rfl rfl rfl ?_ | refine rx_e tbOk rfl rfl rfl rfl rfl ?_ | refine rx_yes tbOk rfl rfl rfl rfl rfl rfl ?_ | refine x_no rfl rfl (lookO_spec rfl) rfl rfl rfl ?_ | refine x_un rfl rfl (lookO_spec rfl) rfl rfl ?_) | ((first | refine' w_q rfl rfl ?xa rfl ?_ | refine' v_q rfl rfl ?xa rfl ?_ | refine' w_yes rfl rfl (lookO_spec rfl) rfl ?xa rfl ?_ | refine' v_yes rfl rfl (lookO_spec rfl) rfl ?xa rfl ?_); case xa => first | exact k_indexO tbOk rfl rfl rfl rfl (by omega) (by simp only [List.length_cons]; omega) | exact k_loadPk' tbOk rfl rfl rfl rfl rfl | exact k_sliceO (a := 1) (b := ((pn, pv) :: t).length) tbOk rfl rfl rfl ⟨_, evO_spec rfl⟩ rfl (by simp) (Nat.le_refl _)) | ((first | refine aw_ways rfl ?_ ?_ | refine r_split rfl rfl rfl ?_ ?_) <;> intro hg_ <;> fail_if_success (exact Bool.noConfusion hg_)) <;> (try simp only [prn] at hg_) <;> (try first | contradiction | (exfalso; omega)))
          first
            | exact ret_W (weak_shift 1000002 2000002 1 rfl (by simp [pks]) rfl) (ret_D [(2000001, 1000001), (2000003, 1000003)] rfl (by (repeat' (first | exact trivial | refine subHR_cons rfl ?_ ?_ | rfl))) (retD_bool rfl rfl rfl))
            | trace_state
    · rw [decide_eq_false h1, Bool.false_and, Bool.not_false, Bool.and_true]
      by_cases h2 : step = 2
      · subst h2
        have e : Ch.packet ⟨vs, kn, got, (pn, pv) :: t, rs⟩ 2 = (⟨vs, kn, got, t, rs⟩, true) := by simp [Ch.packet]
        rw [e]
        dsimp only
        cases nG <;> cases nR
        all_goals
          (try (have h := hG rfl; subst h)); (try (have h := hR rfl; subst h))
          dsimp only [chH, rowC, rowO]; simp only [Bool.false_eq_true, if_false, if_true, List.nil_append, List.append_nil, List.cons_append, Bool.and_true, Bool.and_false, Bool.true_and, Bool.false_and, Bool.not_false, Bool.not_true]
          refine fnS_of (l := [.tmp 4]) Try.func70 (by kernel_rfl) rfl Try.ntmps70 rfl rfl ?_; simp only [dEnv, Nat.reduceAdd]
          repeat' (first | (with_reducible first | refine aw_seq ?_ | refine thn_normal ?_ | refine thn_ret ?_ | refine thn_exit ?_ | refine blk_normal ?_ | refine blk_ret ?_ | refine blk_hit ?_ | refine blk_miss rfl ?_ | refine aw_block ?_ | refine aw_ret ?_ | refine aw_skip ?_ | refine aw_exit ?_ | refine w_nil ?_ | refine x_nil (by kernel_rfl) ?_) | refine aw_region ?_ | refine aw_region_draw (by kernel_rfl) ?_ | refine aw_yes rfl ?_ | refine aw_no rfl ?_ | ((with_reducible refine w_seq ?_); first | refine r_q tbOk rfl rfl rfl rfl ?_ | refine r_e tbOk rfl rfl rfl rfl rfl ?_ | refine r_yes tbOk rfl rfl rfl rfl rfl rfl ?_ | refine w_no rfl rfl (lookO_spec rfl) rfl rfl rfl ?_ | refine w_un rfl rfl (lookO_spec rfl) rfl rfl ?_) | ((with_reducible refine w_drw ?_); first | refine rx_q tbOk rfl rfl rfl rfl ?_ | refine rx_e tbOk rfl rfl rfl rfl rfl ?_ | refine rx_yes tbOk rfl rfl rfl rfl rfl rfl ?_ | refine x_no rfl rfl (lookO_spec rfl) rfl rfl rfl ?_ | refine x_un rfl rfl (lookO_spec rfl) rfl rfl ?_) | ((first | refine' w_q rfl rfl ?xa rfl ?_ | refine' v_q rfl rfl ?xa rfl ?_ | refine' w_yes rfl rfl (lookO_spec rfl) rfl ?xa rfl ?_ | refine' v_yes rfl rfl (lookO_spec rfl) rfl ?xa rfl ?_); case xa => first | exact k_indexO tbOk rfl rfl rfl rfl (by omega) (by simp only [List.length_cons]; omega) | exact k_loadPk' tbOk rfl rfl rfl rfl rfl | exact k_sliceO (a := 1) (b := ((pn, pv) :: t).length) tbOk rfl rfl rfl ⟨_, evO_spec rfl⟩ rfl (by simp) (Nat.le_refl _)) | ((first | refine aw_ways rfl ?_ ?_ | refine r_split rfl rfl rfl ?_ ?_) <;> intro hg_ <;> fail_if_success (exact Bool.noConfusion hg_)) <;> (try simp only [prn] at hg_) <;> (try first | contradiction | (exfalso; omega)))
          first
            | exact ret_W (weak_shift 1000002 2000002 1 rfl (by simp [pks]) rfl) (ret_D [(2000001, 1000001), (2000003, 1000003)] rfl (by (repeat' (first | exact trivial | refine subHR_cons rfl ?_ ?_ | rfl))) (retD_bool rfl rfl rfl))
            | trace_state
      · by_cases h3 : step = 3
        · subst h3
          by_cases hf : t.length + 1 ≥ 100
          · have e : Ch.packet ⟨vs, kn, got, (pn, pv) :: t, rs⟩ 3 = (⟨vs, kn, got, (pn, pv) :: t, rs⟩, false) := by simp [Ch.packet]; omega
            rw [e]
            dsimp only
            cases nG <;> cases nR
            all_goals
              (try (have h := hG rfl; subst h)); (try (have h := hR rfl; subst h))
              dsimp only [chH, rowC, rowO]; simp only [Bool.false_eq_true, if_false, if_true, List.nil_append, List.append_nil, List.cons_append, Bool.and_true, Bool.and_false, Bool.true_and, Bool.false_and, Bool.not_false, Bool.not_true]
              refine fnS_of (l := [.tmp 4]) Try.func70 (by kernel_rfl) rfl Try.ntmps70 rfl rfl ?_; simp only [dEnv, Nat.reduceAdd]
              repeat' (first | (with_reducible first | refine aw_seq ?_ | refine thn_normal ?_ | refine thn_ret ?_ | refine thn_exit ?_ | refine blk_normal ?_ | refine blk_ret ?_ | refine blk_hit ?_ | refine blk_miss rfl ?_ | refine aw_block ?_ | refine aw_ret ?_ | refine aw_skip ?_ | refine aw_exit ?_ | refine w_nil ?_ | refine x_nil (by kernel_rfl) ?_) | refine aw_region ?_ | refine aw_region_draw (by kernel_rfl) ?_ | refine aw_yes rfl ?_ | refine aw_no rfl ?_ | ((with_reducible refine w_seq ?_); first | refine r_q tbOk rfl rfl rfl rfl ?_ | refine r_e tbOk rfl rfl rfl rfl rfl ?_ | refine r_yes tbOk rfl rfl rfl rfl rfl rfl ?_ | refine w_no rfl rfl (lookO_spec rfl) rfl rfl rfl ?_ | refine w_un rfl rfl (lookO_spec rfl) rfl rfl ?_) | ((with_reducible refine w_drw ?_); first | refine rx_q tbOk rfl rfl rfl rfl ?_ | refine rx_e tbOk rfl rfl rfl rfl rfl ?_ | refine rx_yes tbOk rfl rfl rfl rfl rfl rfl ?_ | refine x_no rfl rfl (lookO_spec rfl) rfl rfl rfl ?_ | refine x_un rfl rfl (lookO_spec rfl) rfl rfl ?_) | ((first | refine' w_q rfl rfl ?xa rfl ?_ | refine' v_q rfl rfl ?xa rfl ?_ | refine' w_yes rfl rfl (lookO_spec rfl) rfl ?xa rfl ?_ | refine' v_yes rfl rfl (lookO_spec rfl) rfl ?xa rfl ?_); case xa => first | exact k_indexO tbOk rfl rfl rfl rfl (by omega) (by simp only [List.length_cons]; omega) | exact k_loadPk' tbOk rfl rfl rfl rfl rfl | exact k_sliceO (a := 1) (b := ((pn, pv) :: t).length) tbOk rfl rfl rfl ⟨_, evO_spec rfl⟩ rfl (by simp) (Nat.le_refl _)) | ((first | refine aw_ways rfl ?_ ?_ | refine r_split rfl rfl rfl ?_ ?_) <;> intro hg_ <;> fail_if_success (exact Bool.noConfusion hg_)) <;> (try simp only [prn] at hg_) <;> (try first | contradiction | (exfalso; omega)))
              all_goals first
                | exact ret_D [(2000001, 1000001), (2000002, 1000002), (2000003, 1000003)] rfl (by (repeat' (first | exact trivial | refine subHR_cons rfl ?_ ?_ | rfl))) (retD_bool rfl rfl rfl)
                | (exfalso; simp only [List.length_cons] at hg_; omega)
                | trace_state
          · have e : Ch.packet ⟨vs, kn, got, (pn, pv) :: t, rs⟩ 3 = (⟨vs, kn, got, (pn, pv) :: t ++ [(pn, pv)], rs⟩, true) := by simp [Ch.packet]; omega
            have hI : pks ((pn, pv) :: t ++ [(pn, pv)]) = pks ((pn, pv) :: t) ++ [pkP (pn, pv)] := pks_app _ _
            have hL : ((pn, pv) :: t ++ [(pn, pv)]).length = t.length + 1 + 1 := by simp
            rw [e]
            dsimp only
            generalize (pn, pv) :: t ++ [(pn, pv)] = ps' at *
            cases nG <;> cases nR
            all_goals
              (try (have h := hG rfl; subst h)); (try (have h := hR rfl; subst h))
              dsimp only [chH, rowC, rowO]; simp only [Bool.false_eq_true, if_false, if_true, List.nil_append, List.append_nil, List.cons_append, Bool.and_true, Bool.and_false, Bool.true_and, Bool.false_and, Bool.not_false, Bool.not_true]
              refine fnS_of (l := [.tmp 4]) Try.func70 (by kernel_rfl) rfl Try.ntmps70 rfl rfl ?_; simp only [dEnv, Nat.reduceAdd]
              repeat' (first | (with_reducible first | refine aw_seq ?_ | refine thn_normal ?_ | refine thn_ret ?_ | refine thn_exit ?_ | refine blk_normal ?_ | refine blk_ret ?_ | refine blk_hit ?_ | refine blk_miss rfl ?_ | refine aw_block ?_ | refine aw_ret ?_ | refine aw_skip ?_ | refine aw_exit ?_ | refine w_nil ?_ | refine x_nil (by kernel_rfl) ?_) | refine aw_region ?_ | refine aw_region_draw (by kernel_rfl) ?_ | refine aw_yes rfl ?_ | refine aw_no rfl ?_ | ((with_reducible refine w_seq ?_); first | refine r_q tbOk rfl rfl rfl rfl ?_ | refine r_e tbOk rfl rfl rfl rfl rfl ?_ | refine r_yes tbOk rfl rfl rfl rfl rfl rfl ?_ | refine w_no rfl rfl (lookO_spec rfl) rfl rfl rfl ?_ | refine w_un rfl rfl (lookO_spec rfl) rfl rfl ?_) | ((with_reducible refine w_drw ?_); first | refine rx_q tbOk rfl rfl rfl rfl ?_ | refine rx_e tbOk rfl rfl rfl rfl rfl ?_ | refine rx_yes tbOk rfl rfl rfl rfl rfl rfl ?_ | refine x_no rfl rfl (lookO_spec rfl) rfl rfl rfl ?_ | refine x_un rfl rfl (lookO_spec rfl) rfl rfl ?_) | ((first | refine' w_q rfl rfl ?xa rfl ?_ | refine' v_q rfl rfl ?xa rfl ?_ | refine' w_yes rfl rfl (lookO_spec rfl) rfl ?xa rfl ?_ | refine' v_yes rfl rfl (lookO_spec rfl) rfl ?xa rfl ?_); case xa => first | exact k_indexO tbOk rfl rfl rfl rfl (by omega) (by simp only [List.length_cons]; omega) | exact k_loadPk' tbOk rfl rfl rfl rfl rfl | exact k_sliceO (a := 1) (b := ((pn, pv) :: t).length) tbOk rfl rfl rfl ⟨_, evO_spec rfl⟩ rfl (by simp) (Nat.le_refl _)) | ((first | refine' w_e rfl ?xa ?xb ?xc ?xe ?_ | refine' v_e rfl ?xa ?xb ?xc ?xe ?_); (case xa => first | exact e_build [.tmp 41] tlOk rfl rfl rfl rfl rfl rfl (allN_one rfl) (by simp) | exact e_build [.tmp 69] tlOk rfl rfl rfl rfl rfl rfl (allN_one rfl) (by simp) | exact e_build [.tmp 78] tlOk rfl rfl rfl rfl rfl rfl (allN_one rfl) (by simp) | exact e_append_nil tlOk rfl rfl rfl rfl rfl (slD_own (lookHO_spec rfl) rfl) (by simp) (by simp only [maxLen, List.length_cons, List.length_nil]; omega) (by simp only [List.length_cons, List.length_nil]; omega) | exact e_append tlOk rfl rfl rfl rfl rfl rfl (slD_own (lookHO_spec rfl) rfl) (by simp only [l3, List.length_cons]) (by simp only [maxLen, List.length_cons, List.length_nil]; omega) (by simp only [List.length_cons, List.length_nil]; omega)); (case xb => rfl); (case xc => rfl); (case xe => rfl); try dsimp only [P0.d, Res.d, List.map_cons, List.map_nil, List.set_cons_zero, List.set_cons_succ, Nat.reduceAdd]) | ((first | refine aw_ways rfl ?_ ?_ | refine r_split rfl rfl rfl ?_ ?_) <;> intro hg_ <;> fail_if_success (exact Bool.noConfusion hg_)) <;> (try simp only [prn] at hg_) <;> (try first | contradiction | (exfalso; omega)))
              all_goals first
                | (exfalso; simp only [List.length_cons] at hg_; omega)
                | exact ret_D [(2000001, 1000001), (2000002, 71), (2000003, 1000003)] rfl (by (repeat' (first | exact trivial | refine subHR_cons rfl ?_ ?_ | rfl | exact var_eq rfl rfl rfl (d_own' (by simp only [hL, l3, List.length_cons, List.length_nil])) rfl | exact ob_sl rfl (by rw [hI] <;> rfl)))) (retD_bool rfl rfl rfl)
                | trace_state
        · by_cases h4 : step = 4
          · subst h4
            have e : Ch.packet ⟨vs, kn, got, (pn, pv) :: t, rs⟩ 4 = (⟨vs, kn, got, t ++ [(pn, pv)], rs⟩, true) := by simp [Ch.packet]
            have hI : pks (t ++ [(pn, pv)]) = pks t ++ [pkP (pn, pv)] := pks_app _ _
            have hL : (t ++ [(pn, pv)]).length = t.length + 1 := by simp
            rw [e]
            dsimp only
            generalize t ++ [(pn, pv)] = ps' at *
            cases nG <;> cases nR
            all_goals
              (try (have h := hG rfl; subst h)); (try (have h := hR rfl; subst h))
              dsimp only [chH, rowC, rowO]; simp only [Bool.false_eq_true, if_false, if_true, List.nil_append, List.append_nil, List.cons_append, Bool.and_true, Bool.and_false, Bool.true_and, Bool.false_and, Bool.not_false, Bool.not_true]
              refine fnS_of (l := [.tmp 4]) Try.func70 (by kernel_rfl) rfl Try.ntmps70 rfl rfl ?_; simp only [dEnv, Nat.reduceAdd]
              repeat' (first | (with_reducible first | refine aw_seq ?_ | refine thn_normal ?_ | refine thn_ret ?_ | refine thn_exit ?_ | refine blk_normal ?_ | refine blk_ret ?_ | refine blk_hit ?_ | refine blk_miss rfl ?_ | refine aw_block ?_ | refine aw_ret ?_ | refine aw_skip ?_ | refine aw_exit ?_ | refine w_nil ?_ | refine x_nil (by kernel_rfl) ?_) | refine aw_region ?_ | refine aw_region_draw (by kernel_rfl) ?_ | refine aw_yes rfl ?_ | refine aw_no rfl ?_ | ((with_reducible refine w_seq ?_); first | refine r_q tbOk rfl rfl rfl rfl ?_ | refine r_e tbOk rfl rfl rfl rfl rfl ?_ | refine r_yes tbOk rfl rfl rfl rfl rfl rfl ?_ | refine w_no rfl rfl (lookO_spec rfl) rfl rfl rfl ?_ | refine w_un rfl rfl (lookO_spec rfl) rfl rfl ?_) | ((with_reducible refine w_drw ?_); first | refine rx_q tbOk rfl rfl rfl rfl ?_ | refine rx_e tbOk rfl rfl rfl rfl rfl ?_ | refine rx_yes tbOk rfl rfl rfl rfl rfl rfl ?_ | refine x_no rfl rfl (lookO_spec rfl) rfl rfl rfl ?_ | refine x_un rfl rfl (lookO_spec rfl) rfl rfl ?_) | ((first | refine' w_q rfl rfl ?xa rfl ?_ | refine' v_q rfl rfl ?xa rfl ?_ | refine' w_yes rfl rfl (lookO_spec rfl) rfl ?xa rfl ?_ | refine' v_yes rfl rfl (lookO_spec rfl) rfl ?xa rfl ?_); case xa => first | exact k_indexO tbOk rfl rfl rfl rfl (by omega) (by simp only [List.length_cons]; omega) | exact k_loadPk' tbOk rfl rfl rfl rfl rfl | exact k_sliceO (a := 1) (b := ((pn, pv) :: t).length) tbOk rfl rfl rfl ⟨_, evO_spec rfl⟩ rfl (by simp) (Nat.le_refl _)) | ((first | refine' w_e rfl ?xa ?xb ?xc ?xe ?_ | refine' v_e rfl ?xa ?xb ?xc ?xe ?_); (case xa => first | exact e_build [.tmp 41] tlOk rfl rfl rfl rfl rfl rfl (allN_one rfl) (by simp) | exact e_build [.tmp 69] tlOk rfl rfl rfl rfl rfl rfl (allN_one rfl) (by simp) | exact e_build [.tmp 78] tlOk rfl rfl rfl rfl rfl rfl (allN_one rfl) (by simp) | exact e_append_nil tlOk rfl rfl rfl rfl rfl (slD_own (lookHO_spec rfl) rfl) (by simp) (by simp only [maxLen, List.length_cons, List.length_nil]; omega) (by simp only [List.length_cons, List.length_nil]; omega) | exact e_appendJ tlOk rfl rfl rfl rfl rfl rfl (slD_own (lookHO_spec rfl) rfl) (by simp only [l3, List.length_cons]; omega) (by simp only [maxLen, List.length_cons, List.length_nil]; omega) (by simp only [List.length_cons, List.length_nil]; omega)); (case xb => rfl); (case xc => rfl); (case xe => rfl); try dsimp only [P0.d, Res.d, List.map_cons, List.map_nil, List.set_cons_zero, List.set_cons_succ, Nat.reduceAdd]) | ((first | refine aw_ways rfl ?_ ?_ | refine r_split rfl rfl rfl ?_ ?_) <;> intro hg_ <;> fail_if_success (exact Bool.noConfusion hg_)) <;> (try simp only [prn] at hg_) <;> (try first | contradiction | (exfalso; omega)))
              all_goals first
                | exact ret_D [(2000001, 1000001), (2000002, 80), (2000003, 1000003)] rfl (by (repeat' (first | exact trivial | refine subHR_cons rfl ?_ ?_ | rfl | exact var_eq rfl rfl rfl (d_own' (by simp only [hL, List.length_cons, List.length_nil]; omega)) rfl | exact ob_sl rfl (by rw [hI] <;> rfl)))) (retD_bool rfl rfl rfl)
                | trace_state
          · have e : Ch.packet ⟨vs, kn, got, (pn, pv) :: t, rs⟩ step = (⟨vs, kn, got, (pn, pv) :: t, rs⟩, true) := by simp [Ch.packet, h1, h2, h3, h4]
            rw [e]
            dsimp only
            cases nG <;> cases nR
            all_goals
              (try (have h := hG rfl; subst h)); (try (have h := hR rfl; subst h))
              dsimp only [chH, rowC, rowO]; simp only [Bool.false_eq_true, if_false, if_true, List.nil_append, List.append_nil, List.cons_append, Bool.and_true, Bool.and_false, Bool.true_and, Bool.false_and, Bool.not_false, Bool.not_true]
              refine fnS_of (l := [.tmp 4]) Try.func70 (by kernel_rfl) rfl Try.ntmps70 rfl rfl ?_; simp only [dEnv, Nat.reduceAdd]
              repeat' (first | (with_reducible first | refine aw_seq ?_ | refine thn_normal ?_ | refine thn_ret ?_ | refine thn_exit ?_ | refine blk_normal ?_ | refine blk_ret ?_ | refine blk_hit ?_ | refine blk_miss rfl ?_ | refine aw_block ?_ | refine aw_ret ?_ | refine aw_skip ?_ | refine aw_exit ?_ | refine w_nil ?_ | refine x_nil (by kernel_rfl) ?_) | refine aw_region ?_ | refine aw_region_draw (by kernel_rfl) ?_ | refine aw_yes rfl ?_ | refine aw_no rfl ?_ | ((with_reducible refine w_seq ?_); first | refine r_q tbOk rfl rfl rfl rfl ?_ | refine r_e tbOk rfl rfl rfl rfl rfl ?_ | refine r_yes tbOk rfl rfl rfl rfl rfl rfl ?_ | refine w_no rfl rfl (lookO_spec rfl) rfl rfl rfl ?_ | refine w_un rfl rfl (lookO_spec rfl) rfl rfl ?_) | ((with_reducible refine w_drw ?_); first | refine rx_q tbOk rfl rfl rfl rfl ?_ | refine rx_e tbOk rfl rfl rfl rfl rfl ?_ | refine rx_yes tbOk rfl rfl rfl rfl rfl rfl ?_ | refine x_no rfl rfl (lookO_spec rfl) rfl rfl rfl ?_ | refine x_un rfl rfl (lookO_spec rfl) rfl rfl ?_) | ((first | refine' w_q rfl rfl ?xa rfl ?_ | refine' v_q rfl rfl ?xa rfl ?_ | refine' w_yes rfl rfl (lookO_spec rfl) rfl ?xa rfl ?_ | refine' v_yes rfl rfl (lookO_spec rfl) rfl ?xa rfl ?_); case xa => first | exact k_indexO tbOk rfl rfl rfl rfl (by omega) (by simp only [List.length_cons]; omega) | exact k_loadPk' tbOk rfl rfl rfl rfl rfl | exact k_sliceO (a := 1) (b := ((pn, pv) :: t).length) tbOk rfl rfl rfl ⟨_, evO_spec rfl⟩ rfl (by simp) (Nat.le_refl _)) | ((first | refine aw_ways rfl ?_ ?_ | refine r_split rfl rfl rfl ?_ ?_) <;> intro hg_ <;> fail_if_success (exact Bool.noConfusion hg_)) <;> (try simp only [prn] at hg_) <;> (try first | contradiction | (exfalso; omega)))
              all_goals first
                | exact ret_D [(2000001, 1000001), (2000002, 1000002), (2000003, 1000003)] rfl (by (repeat' (first | exact trivial | refine subHR_cons rfl ?_ ?_ | rfl))) (retD_bool rfl rfl rfl)
                | trace_state
end Go.Proofs.Ytjjeihcmiofkmaa.Abs
