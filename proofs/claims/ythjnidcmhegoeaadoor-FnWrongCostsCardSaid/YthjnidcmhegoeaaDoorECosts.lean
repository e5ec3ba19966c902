/- Weights and CostsRight by states. No statement of the seat is proved here. -/
import Derived.Test.YthjnidcmhegoeaaDoorTy
import Derived.Lib.Hide
import Derived.Test.YthjnidcmhegoeaaDoorAHops
import Derived.Test.YthjnidcmhegoeaaDoorPCosts
set_option linter.unusedSimpArgs false
set_option linter.unusedVariables false
namespace Go.Proofs.YthjnidcmhegoeaaDoor.Abs
open Go.RowKit
open R (val row ref)

/-! ## BCosts -/
def isE (a b : Int) (e : E3) : Bool := decide (e.1 = a) && decide (e.2.1 = b)
def wE (es : List E3) (a b : Int) : Int := match es.find? (isE a b) with | some e => e.2.2 | none => -1
def wOf (m : Int) (es : List E3) (a b : Int) : Int := if gOk m es then wE es a b else -1
theorem wE_drop {es : List E3} {k : Nat} (hk : k < es.length) (a b : Int) : wE (es.drop k) a b = if isE a b es[k] then es[k].2.2 else wE (es.drop (k + 1)) a b := by
  rw [List.drop_eq_getElem_cons hk]
  unfold wE
  rw [List.find?_cons]
  cases isE a b es[k] <;> rfl
theorem wE_end {es : List E3} {k : Nat} (hk : es.length ≤ k) (a b : Int) : wE (es.drop k) a b = -1 := by
  rw [List.drop_of_length_le hk]; rfl
set_option maxRecDepth 100000 in
set_option maxHeartbeats 4000000 in
theorem f_specWeightOf (m : Int) (nil : Bool) (es : List E3) (a b : Int) (hl : es.length ≤ maxLen) : Fn Tryd.prog 78 [graphP m nil es, iP a, iP b] (.v (iP (wOf m es a b))) := by
  have hlen := edges_len es
  have hml : es.length ≤ 9223372036854775807 := hl
  refine fn_of (l := [.tmp 6]) Tryd.func78 (by kernel_rfl) rfl Tryd.ntmps78 rfl rfl ?_; simp only [argEnv, P0.d, Nat.reduceAdd, graphP, List.map_cons, List.map_nil]
  repeat' (first | (with_reducible first | refine aw_seq ?_ | refine thn_normal ?_ | refine thn_ret ?_ | refine thn_exit ?_ | refine blk_normal ?_ | refine blk_ret ?_ | refine blk_hit ?_ | refine blk_miss rfl ?_ | refine aw_block ?_ | refine aw_ret ?_ | refine aw_skip ?_ | refine aw_exit ?_ | refine w_nil ?_ | refine x_nil (by kernel_rfl) ?_) | refine aw_region ?_ | refine aw_region_draw (by kernel_rfl) ?_ | refine aw_yes rfl ?_ | refine aw_no rfl ?_ | ((with_reducible refine w_seq ?_); first | refine r_q tbOk rfl rfl rfl rfl ?_ | refine r_e tbOk rfl rfl rfl rfl rfl ?_ | refine r_yes tbOk rfl rfl rfl rfl rfl rfl ?_ | refine w_no rfl rfl (lookO_spec rfl) rfl rfl rfl ?_ | refine w_un rfl rfl (lookO_spec rfl) rfl rfl ?_) | ((with_reducible refine w_drw ?_); first | refine rx_q tbOk rfl rfl rfl rfl ?_ | refine rx_e tbOk rfl rfl rfl rfl rfl ?_ | refine rx_yes tbOk rfl rfl rfl rfl rfl rfl ?_ | refine x_no rfl rfl (lookO_spec rfl) rfl rfl rfl ?_ | refine x_un rfl rfl (lookO_spec rfl) rfl rfl ?_) | ((first | refine aw_ways rfl ?_ ?_ | refine r_split rfl rfl rfl ?_ ?_) <;> intro hg_ <;> fail_if_success (exact Bool.noConfusion hg_)) <;> (try simp only [prn] at hg_) <;> (try first | contradiction | (exfalso; omega)))
  refine aw_loopI (fun k : Nat => k ≤ es.length ∧ wE es a b = wE (es.drop k) a b) (fun k => mkS 43 [(7, .one (.r true (int k))), (1, .one (.r false (int a))), (2, .one (.r false (int b))), (3, .one (.ptr 3 0 0 0))] [(3, .var 48 [.r false (int m), .r false (row nil 3 (edges es))])]) (fun k => es.length - k) 0 ⟨Nat.zero_le _, by simp⟩ (by (refine weak_ren [] rfl ?_ ?_ <;> repeat' (first | exact trivial | refine subR_cons rfl ?_ ?_ | refine subHR_cons rfl ?_ ?_ | rfl | (refine d_int ?_; (first | rfl | omega | (rw [IntWalk.i64_in _ (by omega)] <;> omega) | (simp; done) | (simp; omega))) | (refine d_bool ?_; (first | (simp_all; done) | (rw [Bool.eq_iff_iff]; simp_all; done) | (rw [Bool.eq_iff_iff]; simp_all; omega) | (rw [Bool.eq_iff_iff]; simp; omega)))))) ?_
  rintro k ⟨hk, HP⟩
  repeat' (first | (with_reducible first | refine aw_seq ?_ | refine thn_normal ?_ | refine thn_ret ?_ | refine thn_exit ?_ | refine blk_normal ?_ | refine blk_ret ?_ | refine blk_hit ?_ | refine blk_miss rfl ?_ | refine aw_block ?_ | refine aw_ret ?_ | refine aw_skip ?_ | refine aw_exit ?_ | refine w_nil ?_ | refine x_nil (by kernel_rfl) ?_) | refine aw_region ?_ | refine aw_region_draw (by kernel_rfl) ?_ | refine aw_yes rfl ?_ | refine aw_no rfl ?_ | ((with_reducible refine w_seq ?_); first | refine r_q tbOk rfl rfl rfl rfl ?_ | refine r_e tbOk rfl rfl rfl rfl rfl ?_ | refine r_yes tbOk rfl rfl rfl rfl rfl rfl ?_ | refine w_no rfl rfl (lookO_spec rfl) rfl rfl rfl ?_ | refine w_un rfl rfl (lookO_spec rfl) rfl rfl ?_) | ((with_reducible refine w_drw ?_); first | refine rx_q tbOk rfl rfl rfl rfl ?_ | refine rx_e tbOk rfl rfl rfl rfl rfl ?_ | refine rx_yes tbOk rfl rfl rfl rfl rfl rfl ?_ | refine x_no rfl rfl (lookO_spec rfl) rfl rfl rfl ?_ | refine x_un rfl rfl (lookO_spec rfl) rfl rfl ?_) | ((first | refine' w_q rfl rfl ?xa rfl ?_ | refine' v_q rfl rfl ?xa rfl ?_ | refine' w_yes rfl rfl (lookO_spec rfl) rfl ?xa rfl ?_ | refine' v_yes rfl rfl (lookO_spec rfl) rfl ?xa rfl ?_); case xa => first | exact k_index tbOk rfl rfl rfl rfl (by omega) (by exact edges_at (by omega)) | exact k_call (f_specGraphValid _ _ es hl) rfl ⟨asA_agg (evO_spec rfl) ⟨cAr_r, cAr_r, trivial⟩, trivial⟩) | ((first | refine aw_ways rfl ?_ ?_ | refine r_split rfl rfl rfl ?_ ?_) <;> intro hg_ <;> fail_if_success (exact Bool.noConfusion hg_)) <;> (try simp only [prn] at hg_) <;> (try first | contradiction | (exfalso; omega)))
  all_goals first
    | exact ret_tmp rfl (dres_int (by unfold wOf; rw [HP, wE_drop (by omega)]; unfold isE; simp_all))
    | exact ret_tmp rfl (dres_int (by unfold wOf; rw [HP, wE_end (by omega)]; simp_all))
    | exact ret_tmp rfl (dres_int (by unfold wOf; simp_all))
    | exact ⟨k + 1, ⟨by omega, by rw [HP, wE_drop (by omega)]; unfold isE; simp_all⟩, by (refine weak_ren [] rfl ?_ ?_ <;> repeat' (first | exact trivial | refine subR_cons rfl ?_ ?_ | refine subHR_cons rfl ?_ ?_ | rfl | (refine d_int ?_; (first | rfl | omega | (rw [IntWalk.i64_in _ (by omega)] <;> omega) | (simp; done) | (simp; omega))) | (refine d_bool ?_; (first | (simp_all; done) | (rw [Bool.eq_iff_iff]; simp_all; done) | (rw [Bool.eq_iff_iff]; simp_all; omega) | (rw [Bool.eq_iff_iff]; simp; omega))))), by omega⟩
    | trace_state
set_option maxRecDepth 100000 in
set_option maxHeartbeats 4000000 in
theorem f_implWeightOf (m : Int) (nil : Bool) (es : List E3) (a b : Int) (hl : es.length ≤ maxLen) : Fn Tryd.prog 33 [graphP m nil es, iP a, iP b] (.v (iP (wOf m es a b))) := by
  have hlen := edges_len es
  have hml : es.length ≤ 9223372036854775807 := hl
  refine fn_of (l := [.tmp 6]) Tryd.func33 (by kernel_rfl) rfl Tryd.ntmps33 rfl rfl ?_; simp only [argEnv, P0.d, Nat.reduceAdd, graphP, List.map_cons, List.map_nil]
  repeat' (first | (with_reducible first | refine aw_seq ?_ | refine thn_normal ?_ | refine thn_ret ?_ | refine thn_exit ?_ | refine blk_normal ?_ | refine blk_ret ?_ | refine blk_hit ?_ | refine blk_miss rfl ?_ | refine aw_block ?_ | refine aw_ret ?_ | refine aw_skip ?_ | refine aw_exit ?_ | refine w_nil ?_ | refine x_nil (by kernel_rfl) ?_) | refine aw_region ?_ | refine aw_region_draw (by kernel_rfl) ?_ | refine aw_yes rfl ?_ | refine aw_no rfl ?_ | ((with_reducible refine w_seq ?_); first | refine r_q tbOk rfl rfl rfl rfl ?_ | refine r_e tbOk rfl rfl rfl rfl rfl ?_ | refine r_yes tbOk rfl rfl rfl rfl rfl rfl ?_ | refine w_no rfl rfl (lookO_spec rfl) rfl rfl rfl ?_ | refine w_un rfl rfl (lookO_spec rfl) rfl rfl ?_) | ((with_reducible refine w_drw ?_); first | refine rx_q tbOk rfl rfl rfl rfl ?_ | refine rx_e tbOk rfl rfl rfl rfl rfl ?_ | refine rx_yes tbOk rfl rfl rfl rfl rfl rfl ?_ | refine x_no rfl rfl (lookO_spec rfl) rfl rfl rfl ?_ | refine x_un rfl rfl (lookO_spec rfl) rfl rfl ?_) | ((first | refine' w_q rfl rfl ?xa rfl ?_ | refine' v_q rfl rfl ?xa rfl ?_ | refine' w_yes rfl rfl (lookO_spec rfl) rfl ?xa rfl ?_ | refine' v_yes rfl rfl (lookO_spec rfl) rfl ?xa rfl ?_); case xa => exact k_call (f_implGraphValid _ _ es hl) rfl ⟨asA_agg (evO_spec rfl) ⟨cAr_r, cAr_r, trivial⟩, trivial⟩) | ((first | refine aw_ways rfl ?_ ?_ | refine r_split rfl rfl rfl ?_ ?_) <;> intro hg_ <;> fail_if_success (exact Bool.noConfusion hg_)) <;> (try simp only [prn] at hg_) <;> (try first | contradiction | (exfalso; omega)))
  · exact ret_tmp rfl (dres_int (by unfold wOf; simp_all))
  have hg := hg_
  clear hg_
  refine aw_loopI (fun k : Nat => k ≤ es.length ∧ wE es a b = wE (es.drop k) a b) (fun k => mkS 32 [(15, .one (.r true (int k))), (14, .one (.r true (int (edges es).length))), (13, .one (.r false (row nil 3 (edges es)))), (1, .one (.r false (int a))), (2, .one (.r false (int b))), (3, .one (.ptr 3 0 0 0))] [(3, .var 48 [.r false (int m), .r false (row nil 3 (edges es))])]) (fun k => es.length - k) 0 ⟨Nat.zero_le _, by simp⟩ (by (refine weak_ren [] rfl ?_ ?_ <;> repeat' (first | exact trivial | refine subR_cons rfl ?_ ?_ | refine subHR_cons rfl ?_ ?_ | rfl | (refine d_int ?_; (first | rfl | omega | (rw [IntWalk.i64_in _ (by omega)] <;> omega) | (simp; done) | (simp; omega))) | (refine d_bool ?_; (first | (simp_all; done) | (rw [Bool.eq_iff_iff]; simp_all; done) | (rw [Bool.eq_iff_iff]; simp_all; omega) | (rw [Bool.eq_iff_iff]; simp; omega)))))) ?_
  rintro k ⟨hk, HP⟩
  repeat' (first | (with_reducible first | refine aw_seq ?_ | refine thn_normal ?_ | refine thn_ret ?_ | refine thn_exit ?_ | refine blk_normal ?_ | refine blk_ret ?_ | refine blk_hit ?_ | refine blk_miss rfl ?_ | refine aw_block ?_ | refine aw_ret ?_ | refine aw_skip ?_ | refine aw_exit ?_ | refine w_nil ?_ | refine x_nil (by kernel_rfl) ?_) | refine aw_region ?_ | refine aw_region_draw (by kernel_rfl) ?_ | refine aw_yes rfl ?_ | refine aw_no rfl ?_ | ((with_reducible refine w_seq ?_); first | refine r_q tbOk rfl rfl rfl rfl ?_ | refine r_e tbOk rfl rfl rfl rfl rfl ?_ | refine r_yes tbOk rfl rfl rfl rfl rfl rfl ?_ | refine w_no rfl rfl (lookO_spec rfl) rfl rfl rfl ?_ | refine w_un rfl rfl (lookO_spec rfl) rfl rfl ?_) | ((with_reducible refine w_drw ?_); first | refine rx_q tbOk rfl rfl rfl rfl ?_ | refine rx_e tbOk rfl rfl rfl rfl rfl ?_ | refine rx_yes tbOk rfl rfl rfl rfl rfl rfl ?_ | refine x_no rfl rfl (lookO_spec rfl) rfl rfl rfl ?_ | refine x_un rfl rfl (lookO_spec rfl) rfl rfl ?_) | ((first | refine' w_q rfl rfl ?xa rfl ?_ | refine' v_q rfl rfl ?xa rfl ?_ | refine' w_yes rfl rfl (lookO_spec rfl) rfl ?xa rfl ?_ | refine' v_yes rfl rfl (lookO_spec rfl) rfl ?xa rfl ?_); case xa => exact k_index tbOk rfl rfl rfl rfl (by omega) (by exact edges_at (by omega))) | ((first | refine aw_ways rfl ?_ ?_ | refine r_split rfl rfl rfl ?_ ?_) <;> intro hg_ <;> fail_if_success (exact Bool.noConfusion hg_)) <;> (try simp only [prn] at hg_) <;> (try first | contradiction | (exfalso; omega)))
  all_goals first
    | exact ret_tmp rfl (dres_int (by unfold wOf; rw [HP, wE_drop (by omega)]; unfold isE; simp_all))
    | exact ret_tmp rfl (dres_int (by unfold wOf; rw [HP, wE_end (by omega)]; simp_all))
    | exact ⟨k + 1, ⟨by omega, by rw [HP, wE_drop (by omega)]; unfold isE; simp_all⟩, by (refine weak_ren [] rfl ?_ ?_ <;> repeat' (first | exact trivial | refine subR_cons rfl ?_ ?_ | refine subHR_cons rfl ?_ ?_ | rfl | (refine d_int ?_; (first | rfl | omega | (rw [IntWalk.i64_in _ (by omega)] <;> omega) | (simp; done) | (simp; omega))) | (refine d_bool ?_; (first | (simp_all; done) | (rw [Bool.eq_iff_iff]; simp_all; done) | (rw [Bool.eq_iff_iff]; simp_all; omega) | (rw [Bool.eq_iff_iff]; simp; omega))))), by omega⟩
    | trace_state
/-- A call of a function value that lies in a slot. -/
theorem k_callV {P : Program} {l : List (Nat × D)} {h : List (Nat × Ob)} {o : Oper} {f : FuncId} {res : Res} {x : Operand} {xs : List Operand} {ys : List P0} {tys : Array TypeId} {nn : Bool} (hf : Fn P f ys res) (ho : o.op = .call { callee := .value x, args := xs.toArray, argTypes := tys }) (hx : evO l x = some (.one (.r nn (R.val (Value.func (.func f) #[] #[])))))
    (ha : AsArgs (lookH h) (evD (look l)) xs ys) : Loc P (lookH h) (evD (look l)) o res.d := by
  intro base a w ι own hown hbase hev hH _ K Q hK
  have hm : ∀ y ∈ xs, (evD (look l) y).p ι base ⟨w, own⟩ (a.eval y) := fun y hy => hev y (by rw [ho]; simp [Op.operands, Call.operands, hy])
  have hfx : a.eval x = .func (.func f) #[] #[] := by
    have := hev x (by rw [ho]; simp [Op.operands, Call.operands])
    rw [evO_spec hx] at this
    exact ((val_p (c := Cx.young ⟨w, own⟩ base nn)).1 this).1
  have hA := args_of hH xs ys hm ha
  have hrun : (execOp a.eval o).run P w = .ok (.enter f (xs.map a.eval).toArray) w := by
    unfold execOp
    rw [ho]
    simp [resolve, hfx, Deferred.ofValue, invoke, hf.1 _ _]
  unfold Oper.wp
  rw [hrun, Oper.upon_enter]
  refine (hf.2 w _ (hbase.2.mono hbase.1) hA).mono ?_
  rintro e w' ⟨v, rfl, hp, hb⟩
  have hx : Cx.Ext ⟨w', fun b => b < w.heap.size⟩ (Cx.young ⟨w', own⟩ base true) := Cx.Ext.sub rfl (by
    intro b hb'
    rcases hb' with h | h
    · exact (hown b h).2
    · exact Nat.lt_of_lt_of_le h hbase.1)
  exact hK v w' ι own (Chg.quiet hown hb (Res.d_p (Res.mono hx hp)))
set_option maxRecDepth 100000 in
set_option maxHeartbeats 2000000 in
theorem f_costW (e : E3) : Fn Tryd.prog 75 [edgeP e] (.v (iP e.2.2)) := by
  refine fn_of (l := [.tmp 2]) Tryd.func75 (by kernel_rfl) rfl Tryd.ntmps75 rfl rfl ?_; simp only [argEnv, P0.d, Nat.reduceAdd, edgeP, List.map_cons, List.map_nil]
  repeat' (first | (with_reducible first | refine aw_seq ?_ | refine thn_normal ?_ | refine thn_ret ?_ | refine thn_exit ?_ | refine blk_normal ?_ | refine blk_ret ?_ | refine blk_hit ?_ | refine blk_miss rfl ?_ | refine aw_block ?_ | refine aw_ret ?_ | refine aw_skip ?_ | refine aw_exit ?_ | refine w_nil ?_ | refine x_nil (by kernel_rfl) ?_) | refine aw_region ?_ | refine aw_region_draw (by kernel_rfl) ?_ | refine aw_yes rfl ?_ | refine aw_no rfl ?_ | ((with_reducible refine w_seq ?_); first | refine r_q tbOk rfl rfl rfl rfl ?_ | refine r_e tbOk rfl rfl rfl rfl rfl ?_ | refine r_yes tbOk rfl rfl rfl rfl rfl rfl ?_ | refine w_no rfl rfl (lookO_spec rfl) rfl rfl rfl ?_ | refine w_un rfl rfl (lookO_spec rfl) rfl rfl ?_) | ((with_reducible refine w_drw ?_); first | refine rx_q tbOk rfl rfl rfl rfl ?_ | refine rx_e tbOk rfl rfl rfl rfl rfl ?_ | refine rx_yes tbOk rfl rfl rfl rfl rfl rfl ?_ | refine x_no rfl rfl (lookO_spec rfl) rfl rfl rfl ?_ | refine x_un rfl rfl (lookO_spec rfl) rfl rfl ?_) | ((first | refine aw_ways rfl ?_ ?_ | refine r_split rfl rfl rfl ?_ ?_) <;> intro hg_ <;> fail_if_success (exact Bool.noConfusion hg_)) <;> (try simp only [prn] at hg_) <;> (try first | contradiction | (exfalso; omega)))
  exact ret_tmp rfl (dres_int rfl)
set_option maxRecDepth 100000 in
set_option maxHeartbeats 2000000 in
theorem f_implHas (m : Int) (nil : Bool) (es : List E3) (v : Int) : Fn Tryd.prog 61 [graphP m nil es, iP v] (.v (.one (bool (hasV m v)))) := by
  refine fn_of (l := [.tmp 4]) Tryd.func61 (by kernel_rfl) rfl Tryd.ntmps61 rfl rfl ?_; simp only [argEnv, P0.d, Nat.reduceAdd, graphP, List.map_cons, List.map_nil]
  repeat' (first | (with_reducible first | refine aw_seq ?_ | refine thn_normal ?_ | refine thn_ret ?_ | refine thn_exit ?_ | refine blk_normal ?_ | refine blk_ret ?_ | refine blk_hit ?_ | refine blk_miss rfl ?_ | refine aw_block ?_ | refine aw_ret ?_ | refine aw_skip ?_ | refine aw_exit ?_ | refine w_nil ?_ | refine x_nil (by kernel_rfl) ?_) | refine aw_region ?_ | refine aw_region_draw (by kernel_rfl) ?_ | refine aw_yes rfl ?_ | refine aw_no rfl ?_ | ((with_reducible refine w_seq ?_); first | refine r_q tbOk rfl rfl rfl rfl ?_ | refine r_e tbOk rfl rfl rfl rfl rfl ?_ | refine r_yes tbOk rfl rfl rfl rfl rfl rfl ?_ | refine w_no rfl rfl (lookO_spec rfl) rfl rfl rfl ?_ | refine w_un rfl rfl (lookO_spec rfl) rfl rfl ?_) | ((with_reducible refine w_drw ?_); first | refine rx_q tbOk rfl rfl rfl rfl ?_ | refine rx_e tbOk rfl rfl rfl rfl rfl ?_ | refine rx_yes tbOk rfl rfl rfl rfl rfl rfl ?_ | refine x_no rfl rfl (lookO_spec rfl) rfl rfl rfl ?_ | refine x_un rfl rfl (lookO_spec rfl) rfl rfl ?_) | ((first | refine aw_ways rfl ?_ ?_ | refine r_split rfl rfl rfl ?_ ?_) <;> intro hg_ <;> fail_if_success (exact Bool.noConfusion hg_)) <;> (try simp only [prn] at hg_) <;> (try first | contradiction | (exfalso; omega)))
  all_goals exact ret_tmp rfl (dres_bool (by unfold hasV; (first | (simp_all; done) | (rw [Bool.eq_iff_iff]; simp_all; done) | (rw [Bool.eq_iff_iff]; simp_all; omega) | (rw [Bool.eq_iff_iff]; simp; omega))))
theorem climb_s (M : Nat) (s : Int) (f : Int → Int) (n : Nat) (v : Int) : Costs.climb M s f (n + 1) v = (decide (v = s) || (!(decide (v < 0) || decide (v ≥ (M : Int))) && Costs.climb M s f n (f v))) := rfl
theorem climb_z (M : Nat) (s : Int) (f : Int → Int) (v : Int) : Costs.climb M s f 0 v = decide (v = s) := rfl
set_option maxRecDepth 100000 in
set_option maxHeartbeats 4000000 in
theorem f_edgesKeepC (m : Int) (nil nil' : Bool) (es : List E3) (vs : List Int) (hl : es.length ≤ 1048576) (hlv : vs.length ≤ 1048576) (hg : ∀ e ∈ es, (0 ≤ e.1 ∧ e.1 < (vs.length : Int)) ∧ (0 ≤ e.2.1 ∧ e.2.1 < (vs.length : Int))) :
    Fn Tryd.prog 74 [graphP m nil es, .one (row nil' 1 (ints vs)), .one (R.val (Value.func (.func 75) #[] #[]))] (.v (.one (bool (es.all (Costs.eI (dV vs)))))) := by
  have hlen := edges_len es
  have hlen2 := ints_len vs
  refine fn_of (l := [.tmp 6]) Tryd.func74 (by kernel_rfl) rfl Tryd.ntmps74 rfl rfl ?_; simp only [argEnv, P0.d, Nat.reduceAdd, graphP, List.map_cons, List.map_nil]
  repeat' (first | (with_reducible first | refine aw_seq ?_ | refine thn_normal ?_ | refine thn_ret ?_ | refine thn_exit ?_ | refine blk_normal ?_ | refine blk_ret ?_ | refine blk_hit ?_ | refine blk_miss rfl ?_ | refine aw_block ?_ | refine aw_ret ?_ | refine aw_skip ?_ | refine aw_exit ?_ | refine w_nil ?_ | refine x_nil (by kernel_rfl) ?_) | refine aw_region ?_ | refine aw_region_draw (by kernel_rfl) ?_ | refine aw_yes rfl ?_ | refine aw_no rfl ?_ | ((with_reducible refine w_seq ?_); first | refine r_q tbOk rfl rfl rfl rfl ?_ | refine r_e tbOk rfl rfl rfl rfl rfl ?_ | refine r_yes tbOk rfl rfl rfl rfl rfl rfl ?_ | refine w_no rfl rfl (lookO_spec rfl) rfl rfl rfl ?_ | refine w_un rfl rfl (lookO_spec rfl) rfl rfl ?_) | ((with_reducible refine w_drw ?_); first | refine rx_q tbOk rfl rfl rfl rfl ?_ | refine rx_e tbOk rfl rfl rfl rfl rfl ?_ | refine rx_yes tbOk rfl rfl rfl rfl rfl rfl ?_ | refine x_no rfl rfl (lookO_spec rfl) rfl rfl rfl ?_ | refine x_un rfl rfl (lookO_spec rfl) rfl rfl ?_) | ((first | refine aw_ways rfl ?_ ?_ | refine r_split rfl rfl rfl ?_ ?_) <;> intro hg_ <;> fail_if_success (exact Bool.noConfusion hg_)) <;> (try simp only [prn] at hg_) <;> (try first | contradiction | (exfalso; omega)))
  refine aw_loopI (fun k : Nat => k ≤ es.length ∧ es.all (Costs.eI (dV vs)) = (es.drop k).all (Costs.eI (dV vs))) (fun k => mkS 44 [(14, .one (.r true (int k))), (13, .one (.r true (int (edges es).length))), (12, .one (.r false (row nil 3 (edges es)))), (1, .one (.r false (row nil' 1 (ints vs)))), (2, .one (.r false (R.val (Value.func (.func 75) #[] #[])))), (3, .one (.ptr 3 0 0 0))] [(3, .var 48 [.r false (int m), .r false (row nil 3 (edges es))])]) (fun k => es.length - k) 0 ⟨Nat.zero_le _, by simp⟩ (by (refine weak_ren [] rfl ?_ ?_ <;> repeat' (first | exact trivial | refine subR_cons rfl ?_ ?_ | refine subHR_cons rfl ?_ ?_ | rfl | (refine d_int ?_; (first | rfl | omega | (rw [IntWalk.i64_in _ (by omega)] <;> omega) | (simp; done) | (simp; omega))) | (refine d_bool ?_; (first | (simp_all; done) | (rw [Bool.eq_iff_iff]; simp_all; done) | (rw [Bool.eq_iff_iff]; simp_all; omega) | (rw [Bool.eq_iff_iff]; simp; omega)))))) ?_
  rintro k ⟨hk, HP⟩
  by_cases hlt : k < es.length
  · have hix := edges_at hlt
    obtain ⟨⟨f0, f1⟩, ⟨t0, t1⟩⟩ := hg es[k] (List.getElem_mem hlt)
    have HD : (es.drop k).all (Costs.eI (dV vs)) = (Costs.eI (dV vs) es[k] && (es.drop (k + 1)).all (Costs.eI (dV vs))) := by rw [List.drop_eq_getElem_cons hlt, List.all_cons]
    rw [HD] at HP
    clear HD
    generalize es[k] = e at *
    repeat' (first | (with_reducible first | refine aw_seq ?_ | refine thn_normal ?_ | refine thn_ret ?_ | refine thn_exit ?_ | refine blk_normal ?_ | refine blk_ret ?_ | refine blk_hit ?_ | refine blk_miss rfl ?_ | refine aw_block ?_ | refine aw_ret ?_ | refine aw_skip ?_ | refine aw_exit ?_ | refine w_nil ?_ | refine x_nil (by kernel_rfl) ?_) | refine aw_region ?_ | refine aw_region_draw (by kernel_rfl) ?_ | refine aw_yes rfl ?_ | refine aw_no rfl ?_ | ((with_reducible refine w_seq ?_); first | refine r_q tbOk rfl rfl rfl rfl ?_ | refine r_e tbOk rfl rfl rfl rfl rfl ?_ | refine r_yes tbOk rfl rfl rfl rfl rfl rfl ?_ | refine w_no rfl rfl (lookO_spec rfl) rfl rfl rfl ?_ | refine w_un rfl rfl (lookO_spec rfl) rfl rfl ?_) | ((with_reducible refine w_drw ?_); first | refine rx_q tbOk rfl rfl rfl rfl ?_ | refine rx_e tbOk rfl rfl rfl rfl rfl ?_ | refine rx_yes tbOk rfl rfl rfl rfl rfl rfl ?_ | refine x_no rfl rfl (lookO_spec rfl) rfl rfl rfl ?_ | refine x_un rfl rfl (lookO_spec rfl) rfl rfl ?_) | ((first | refine' w_q rfl rfl ?xa rfl ?_ | refine' v_q rfl rfl ?xa rfl ?_ | refine' w_yes rfl rfl (lookO_spec rfl) rfl ?xa rfl ?_ | refine' v_yes rfl rfl (lookO_spec rfl) rfl ?xa rfl ?_); case xa => first | exact k_index tbOk rfl rfl rfl rfl (by omega) (by first | exact hix | exact ints_atI (by omega) (by omega)) | exact k_callV (f_costW e) rfl rfl ⟨asA_agg (evO_spec rfl) ⟨cAr_r, cAr_r, cAr_r, trivial⟩, trivial⟩) | ((first | refine aw_ways rfl ?_ ?_ | refine r_split rfl rfl rfl ?_ ?_) <;> intro hg_ <;> fail_if_success (exact Bool.noConfusion hg_)) <;> (try simp only [prn] at hg_) <;> (try first | contradiction | (exfalso; omega)))
    all_goals first
      | exact ret_tmp rfl (dres_bool (by rw [HP]; unfold Costs.eI dV; simp_all))
      | exact ⟨k + 1, ⟨by omega, by rw [HP]; unfold Costs.eI dV; simp_all⟩, by (refine weak_ren [] rfl ?_ ?_ <;> repeat' (first | exact trivial | refine subR_cons rfl ?_ ?_ | refine subHR_cons rfl ?_ ?_ | rfl | (refine d_int ?_; (first | rfl | omega | (rw [IntWalk.i64_in _ (by omega)] <;> omega) | (simp; done) | (simp; omega))) | (refine d_bool ?_; (first | (simp_all; done) | (rw [Bool.eq_iff_iff]; simp_all; done) | (rw [Bool.eq_iff_iff]; simp_all; omega) | (rw [Bool.eq_iff_iff]; simp; omega))))), by omega⟩
      | trace_state
  · repeat' (first | (with_reducible first | refine aw_seq ?_ | refine thn_normal ?_ | refine thn_ret ?_ | refine thn_exit ?_ | refine blk_normal ?_ | refine blk_ret ?_ | refine blk_hit ?_ | refine blk_miss rfl ?_ | refine aw_block ?_ | refine aw_ret ?_ | refine aw_skip ?_ | refine aw_exit ?_ | refine w_nil ?_ | refine x_nil (by kernel_rfl) ?_) | refine aw_region ?_ | refine aw_region_draw (by kernel_rfl) ?_ | refine aw_yes rfl ?_ | refine aw_no rfl ?_ | ((with_reducible refine w_seq ?_); first | refine r_q tbOk rfl rfl rfl rfl ?_ | refine r_e tbOk rfl rfl rfl rfl rfl ?_ | refine r_yes tbOk rfl rfl rfl rfl rfl rfl ?_ | refine w_no rfl rfl (lookO_spec rfl) rfl rfl rfl ?_ | refine w_un rfl rfl (lookO_spec rfl) rfl rfl ?_) | ((with_reducible refine w_drw ?_); first | refine rx_q tbOk rfl rfl rfl rfl ?_ | refine rx_e tbOk rfl rfl rfl rfl rfl ?_ | refine rx_yes tbOk rfl rfl rfl rfl rfl rfl ?_ | refine x_no rfl rfl (lookO_spec rfl) rfl rfl rfl ?_ | refine x_un rfl rfl (lookO_spec rfl) rfl rfl ?_) | ((first | refine aw_ways rfl ?_ ?_ | refine r_split rfl rfl rfl ?_ ?_) <;> intro hg_ <;> fail_if_success (exact Bool.noConfusion hg_)) <;> (try simp only [prn] at hg_) <;> (try first | contradiction | (exfalso; omega)))
    rw [List.drop_of_length_le (by omega)] at HP
    exact ret_tmp rfl (dres_bool (by rw [HP]; rfl))
set_option maxRecDepth 100000 in
set_option maxHeartbeats 4000000 in
theorem f_climbs (nil : Bool) (fs : List Int) (a s : Int) (hl : fs.length ≤ 1048576) : Fn Tryd.prog 73 [.one (row nil 1 (ints fs)), iP a, iP s] (.v (.one (bool (Costs.climb fs.length s (dV fs) fs.length a)))) := by
  have hlen2 := ints_len fs
  refine fn_of (l := [.tmp 6]) Tryd.func73 (by kernel_rfl) rfl Tryd.ntmps73 rfl rfl ?_; simp only [argEnv, P0.d, Nat.reduceAdd]
  repeat' (first | (with_reducible first | refine aw_seq ?_ | refine thn_normal ?_ | refine thn_ret ?_ | refine thn_exit ?_ | refine blk_normal ?_ | refine blk_ret ?_ | refine blk_hit ?_ | refine blk_miss rfl ?_ | refine aw_block ?_ | refine aw_ret ?_ | refine aw_skip ?_ | refine aw_exit ?_ | refine w_nil ?_ | refine x_nil (by kernel_rfl) ?_) | refine aw_region ?_ | refine aw_region_draw (by kernel_rfl) ?_ | refine aw_yes rfl ?_ | refine aw_no rfl ?_ | ((with_reducible refine w_seq ?_); first | refine r_q tbOk rfl rfl rfl rfl ?_ | refine r_e tbOk rfl rfl rfl rfl rfl ?_ | refine r_yes tbOk rfl rfl rfl rfl rfl rfl ?_ | refine w_no rfl rfl (lookO_spec rfl) rfl rfl rfl ?_ | refine w_un rfl rfl (lookO_spec rfl) rfl rfl ?_) | ((with_reducible refine w_drw ?_); first | refine rx_q tbOk rfl rfl rfl rfl ?_ | refine rx_e tbOk rfl rfl rfl rfl rfl ?_ | refine rx_yes tbOk rfl rfl rfl rfl rfl rfl ?_ | refine x_no rfl rfl (lookO_spec rfl) rfl rfl rfl ?_ | refine x_un rfl rfl (lookO_spec rfl) rfl rfl ?_) | ((first | refine aw_ways rfl ?_ ?_ | refine r_split rfl rfl rfl ?_ ?_) <;> intro hg_ <;> fail_if_success (exact Bool.noConfusion hg_)) <;> (try simp only [prn] at hg_) <;> (try first | contradiction | (exfalso; omega)))
  refine aw_loopI (fun x : Nat × Int => x.1 ≤ fs.length ∧ Costs.climb fs.length s (dV fs) fs.length a = Costs.climb fs.length s (dV fs) (fs.length - x.1) x.2) (fun x => mkS 32 [(11, .one (.r true (int x.1))), (10, .one (.r true (int (ints fs).length))), (7, .one (.r false (int x.2))), (0, .one (.r false (row nil 1 (ints fs)))), (2, .one (.r false (int s)))] []) (fun x => fs.length - x.1) (0, a) ⟨Nat.zero_le _, rfl⟩ (by (refine weak_ren [] rfl ?_ ?_ <;> repeat' (first | exact trivial | refine subR_cons rfl ?_ ?_ | refine subHR_cons rfl ?_ ?_ | rfl | (refine d_int ?_; (first | rfl | omega | (rw [IntWalk.i64_in _ (by omega)] <;> omega) | (simp; done) | (simp; omega))) | (refine d_bool ?_; (first | (simp_all; done) | (rw [Bool.eq_iff_iff]; simp_all; done) | (rw [Bool.eq_iff_iff]; simp_all; omega) | (rw [Bool.eq_iff_iff]; simp; omega)))))) ?_
  rintro ⟨k, v⟩ ⟨hk, HP⟩
  by_cases hlt : k < fs.length
  · obtain ⟨n, hn⟩ : ∃ n, fs.length - k = n + 1 := ⟨fs.length - k - 1, by omega⟩
    have hn' : fs.length - (k + 1) = n := by omega
    rw [hn] at HP
    repeat' (first | (with_reducible first | refine aw_seq ?_ | refine thn_normal ?_ | refine thn_ret ?_ | refine thn_exit ?_ | refine blk_normal ?_ | refine blk_ret ?_ | refine blk_hit ?_ | refine blk_miss rfl ?_ | refine aw_block ?_ | refine aw_ret ?_ | refine aw_skip ?_ | refine aw_exit ?_ | refine w_nil ?_ | refine x_nil (by kernel_rfl) ?_) | refine aw_region ?_ | refine aw_region_draw (by kernel_rfl) ?_ | refine aw_yes rfl ?_ | refine aw_no rfl ?_ | ((with_reducible refine w_seq ?_); first | refine r_q tbOk rfl rfl rfl rfl ?_ | refine r_e tbOk rfl rfl rfl rfl rfl ?_ | refine r_yes tbOk rfl rfl rfl rfl rfl rfl ?_ | refine w_no rfl rfl (lookO_spec rfl) rfl rfl rfl ?_ | refine w_un rfl rfl (lookO_spec rfl) rfl rfl ?_) | ((with_reducible refine w_drw ?_); first | refine rx_q tbOk rfl rfl rfl rfl ?_ | refine rx_e tbOk rfl rfl rfl rfl rfl ?_ | refine rx_yes tbOk rfl rfl rfl rfl rfl rfl ?_ | refine x_no rfl rfl (lookO_spec rfl) rfl rfl rfl ?_ | refine x_un rfl rfl (lookO_spec rfl) rfl rfl ?_) | ((first | refine' w_q rfl rfl ?xa rfl ?_ | refine' v_q rfl rfl ?xa rfl ?_ | refine' w_yes rfl rfl (lookO_spec rfl) rfl ?xa rfl ?_ | refine' v_yes rfl rfl (lookO_spec rfl) rfl ?xa rfl ?_); case xa => exact k_index tbOk rfl rfl rfl rfl (by omega) (by exact ints_atI (by omega) (by omega))) | ((first | refine aw_ways rfl ?_ ?_ | refine r_split rfl rfl rfl ?_ ?_) <;> intro hg_ <;> fail_if_success (exact Bool.noConfusion hg_)) <;> (try simp only [prn] at hg_) <;> (try first | contradiction | (exfalso; omega)))
    all_goals first
      | exact ret_tmp rfl (dres_bool (by rw [HP, climb_s]; simp_all))
      | exact ⟨(k + 1, fs.getD v.toNat 0), ⟨by omega, by rw [HP, hn', climb_s]; unfold dV; simp_all⟩, by (refine weak_ren [] rfl ?_ ?_ <;> repeat' (first | exact trivial | refine subR_cons rfl ?_ ?_ | refine subHR_cons rfl ?_ ?_ | rfl | (refine d_int ?_; (first | rfl | omega | (rw [IntWalk.i64_in _ (by omega)] <;> omega) | (simp; done) | (simp; omega))) | (refine d_bool ?_; (first | (simp_all; done) | (rw [Bool.eq_iff_iff]; simp_all; done) | (rw [Bool.eq_iff_iff]; simp_all; omega) | (rw [Bool.eq_iff_iff]; simp; omega))))), by omega⟩
      | trace_state
  · repeat' (first | (with_reducible first | refine aw_seq ?_ | refine thn_normal ?_ | refine thn_ret ?_ | refine thn_exit ?_ | refine blk_normal ?_ | refine blk_ret ?_ | refine blk_hit ?_ | refine blk_miss rfl ?_ | refine aw_block ?_ | refine aw_ret ?_ | refine aw_skip ?_ | refine aw_exit ?_ | refine w_nil ?_ | refine x_nil (by kernel_rfl) ?_) | refine aw_region ?_ | refine aw_region_draw (by kernel_rfl) ?_ | refine aw_yes rfl ?_ | refine aw_no rfl ?_ | ((with_reducible refine w_seq ?_); first | refine r_q tbOk rfl rfl rfl rfl ?_ | refine r_e tbOk rfl rfl rfl rfl rfl ?_ | refine r_yes tbOk rfl rfl rfl rfl rfl rfl ?_ | refine w_no rfl rfl (lookO_spec rfl) rfl rfl rfl ?_ | refine w_un rfl rfl (lookO_spec rfl) rfl rfl ?_) | ((with_reducible refine w_drw ?_); first | refine rx_q tbOk rfl rfl rfl rfl ?_ | refine rx_e tbOk rfl rfl rfl rfl rfl ?_ | refine rx_yes tbOk rfl rfl rfl rfl rfl rfl ?_ | refine x_no rfl rfl (lookO_spec rfl) rfl rfl rfl ?_ | refine x_un rfl rfl (lookO_spec rfl) rfl rfl ?_) | ((first | refine aw_ways rfl ?_ ?_ | refine r_split rfl rfl rfl ?_ ?_) <;> intro hg_ <;> fail_if_success (exact Bool.noConfusion hg_)) <;> (try simp only [prn] at hg_) <;> (try first | contradiction | (exfalso; omega)))
    all_goals first
      | exact ret_tmp rfl (dres_bool (by rw [HP, show fs.length - k = 0 by omega, climb_z]; (first | (simp_all; done) | (rw [Bool.eq_iff_iff]; simp_all; done) | (rw [Bool.eq_iff_iff]; simp_all; omega) | (rw [Bool.eq_iff_iff]; simp; omega))))
      | trace_state
/-! ## BCosts -/
def cI (m : Int) (es : List E3) (s : Int) (vs fs : List Int) : Bool := (List.range vs.length).all (fun v : Nat => Costs.vI vs.length s (dV vs) (dV fs) (wOf m es) v) && es.all (Costs.eI (dV vs))
def costsOk (m : Int) (es : List E3) (s : Int) (vs fs : List Int) : Bool :=
  gOk m es && hasV m s && decide ((vs.length : Int) = m) && decide ((fs.length : Int) = m) && decide (dV vs s = 0) && decide (dV fs s = -1) && cI m es s vs fs
theorem wOf_in {m : Int} {es : List E3} {a b : Int} (h : 0 ≤ wOf m es a b) : (0 ≤ a ∧ a < m) ∧ wOf m es a b ≤ 20 := by
  unfold wOf at h ⊢
  cases hg : gOk m es
  · simp [hg] at h
  · simp only [hg, if_true] at h ⊢
    unfold wE at h ⊢
    cases hf : es.find? (isE a b) with
    | none => simp [hf] at h
    | some e =>
      have hm := List.mem_of_find?_eq_some hf
      have hp := List.find?_some hf
      have := gOk_edges hg e hm
      unfold isE at hp
      simp only [Bool.and_eq_true, decide_eq_true_eq] at hp
      simp only [hf] at h ⊢
      omega
theorem dV_I {xs : List Int} (hI : ∀ z ∈ xs, I64 z) (v : Int) : I64 (dV xs v) := by
  unfold dV
  rw [List.getD_eq_getElem?_getD]
  by_cases h : v.toNat < xs.length
  · rw [List.getElem?_eq_getElem h]; exact hI _ (List.getElem_mem _)
  · rw [List.getElem?_eq_none (by omega)]; simp [I64]
set_option maxRecDepth 100000 in
set_option maxHeartbeats 8000000 in
theorem f_implCostsRight (m : Int) (nil nil1 nil2 : Bool) (es : List E3) (s : Int) (vs fs : List Int) (hl : es.length ≤ 1048576) (hlv : vs.length ≤ 1048576) (hlf : fs.length ≤ 1048576) :
    Fn Tryd.prog 37 [graphP m nil es, iP s, .one (row nil1 1 (ints vs)), .one (row nil2 1 (ints fs))] (.v (.one (bool (costsOk m es s vs fs)))) := by
  have hlen := edges_len es
  have hlen2 := ints_len vs
  have hlen3 := ints_len fs
  have hlm : es.length ≤ maxLen := by simp only [maxLen]; omega
  have hsv : hasV m s = true → 0 ≤ s ∧ s < m := fun h => by unfold hasV at h; simp at h; exact h
  refine fn_of (l := [.tmp 8]) Tryd.func37 (by kernel_rfl) rfl Tryd.ntmps37 rfl rfl ?_; simp only [argEnv, P0.d, Nat.reduceAdd, graphP, List.map_cons, List.map_nil]
  repeat' (first | (with_reducible first | refine aw_seq ?_ | refine thn_normal ?_ | refine thn_ret ?_ | refine thn_exit ?_ | refine blk_normal ?_ | refine blk_ret ?_ | refine blk_hit ?_ | refine blk_miss rfl ?_ | refine aw_block ?_ | refine aw_ret ?_ | refine aw_skip ?_ | refine aw_exit ?_ | refine w_nil ?_ | refine x_nil (by kernel_rfl) ?_) | refine aw_region ?_ | refine aw_region_draw (by kernel_rfl) ?_ | refine aw_yes rfl ?_ | refine aw_no rfl ?_ | ((with_reducible refine w_seq ?_); first | refine r_q tbOk rfl rfl rfl rfl ?_ | refine r_e tbOk rfl rfl rfl rfl rfl ?_ | refine r_yes tbOk rfl rfl rfl rfl rfl rfl ?_ | refine w_no rfl rfl (lookO_spec rfl) rfl rfl rfl ?_ | refine w_un rfl rfl (lookO_spec rfl) rfl rfl ?_) | ((with_reducible refine w_drw ?_); first | refine rx_q tbOk rfl rfl rfl rfl ?_ | refine rx_e tbOk rfl rfl rfl rfl rfl ?_ | refine rx_yes tbOk rfl rfl rfl rfl rfl rfl ?_ | refine x_no rfl rfl (lookO_spec rfl) rfl rfl rfl ?_ | refine x_un rfl rfl (lookO_spec rfl) rfl rfl ?_) | ((first | refine' w_q rfl rfl ?xa rfl ?_ | refine' v_q rfl rfl ?xa rfl ?_ | refine' w_yes rfl rfl (lookO_spec rfl) rfl ?xa rfl ?_ | refine' v_yes rfl rfl (lookO_spec rfl) rfl ?xa rfl ?_); case xa => first | exact k_call (f_implGraphValid _ _ es hlm) rfl ⟨asA_agg (evO_spec rfl) ⟨cAr_r, cAr_r, trivial⟩, trivial⟩ | exact k_call (f_implHas m _ es s) rfl ⟨asA_agg (evO_spec rfl) ⟨cAr_r, cAr_r, trivial⟩, asA_r (evO_spec rfl), trivial⟩ | exact k_index tbOk rfl rfl rfl rfl (by exact (hsv (by assumption)).1) (by exact ints_atD (hsv (by assumption)).1 (by have := (hsv (by assumption)).2; omega))) | ((first | refine aw_ways rfl ?_ ?_ | refine r_split rfl rfl rfl ?_ ?_) <;> intro hg_ <;> fail_if_success (exact Bool.noConfusion hg_)) <;> (try simp only [prn] at hg_) <;> (try first | contradiction | (exfalso; omega)))
  all_goals try exact ret_tmp rfl (dres_bool (by unfold costsOk; simp_all))
  rename_i h1 h2 h3 h4 h5
  have h6 := hg_
  clear hg_
  have hm := gOk_m h1
  have hmn : m = (vs.length : Int) := by omega
  have hmf : m = (fs.length : Int) := by omega
  have hs := hsv h2
  have hge := gOk_edges h1
  have hR : costsOk m es s vs fs = cI m es s vs fs := by
    unfold costsOk
    rw [h1, h2, decide_eq_true hmn.symm, decide_eq_true hmf.symm, decide_eq_true h5, decide_eq_true h6]; simp
  rw [hR]
  have hno : ∀ v : Nat, v < vs.length → Costs.vI vs.length s (dV vs) (dV fs) (wOf m es) v = false → cI m es s vs fs = false := fun v hv h => by
    unfold cI
    have : (List.range vs.length).all (fun v : Nat => Costs.vI vs.length s (dV vs) (dV fs) (wOf m es) v) = false := by
      rw [List.all_eq_false]; exact ⟨v, by simp [hv], by simp [h]⟩
    rw [this]; rfl
  have hyes : (∀ v : Nat, v < vs.length → Costs.vI vs.length s (dV vs) (dV fs) (wOf m es) v = true) → cI m es s vs fs = es.all (Costs.eI (dV vs)) := fun h => by
    unfold cI
    have : (List.range vs.length).all (fun v : Nat => Costs.vI vs.length s (dV vs) (dV fs) (wOf m es) v) = true := by
      rw [List.all_eq_true]; intro v hv; exact h v (by simpa using hv)
    rw [this]; rfl
  have hek : ∀ e ∈ es, (0 ≤ e.1 ∧ e.1 < (vs.length : Int)) ∧ (0 ≤ e.2.1 ∧ e.2.1 < (vs.length : Int)) := fun e he => by have := hge e he; omega
  have KC : ∀ a, Fn Tryd.prog 73 [.one (row nil2 1 (ints fs)), iP a, iP s] (.v (.one (bool (Costs.climb vs.length s (dV fs) vs.length a)))) := fun a => by
    have := f_climbs nil2 fs a s hlf
    rwa [show fs.length = vs.length by omega] at this
  clear h1 h2 h3 h4 h5 h6 hR hsv hge
  refine aw_loopI (fun k : Nat => k ≤ vs.length ∧ ∀ u : Nat, u < k → Costs.vI vs.length s (dV vs) (dV fs) (wOf m es) u = true) (fun k => mkS 102 [(49, .one (.r true (int k))), (48, .one (.r true (int (ints vs).length))), (47, .one (.r false (row nil1 1 (ints vs)))), (1, .one (.r false (int s))), (2, .one (.r false (row nil1 1 (ints vs)))), (3, .one (.r false (row nil2 1 (ints fs)))), (4, .one (.ptr 4 0 0 0))] [(4, .var 48 [.r false (int m), .r false (row nil 3 (edges es))])]) (fun k => vs.length - k) 0 ⟨Nat.zero_le _, fun u hu => by omega⟩ (by (refine weak_ren [] rfl ?_ ?_ <;> repeat' (first | exact trivial | refine subR_cons rfl ?_ ?_ | refine subHR_cons rfl ?_ ?_ | rfl | (refine d_int ?_; (first | rfl | omega | (rw [IntWalk.i64_in _ (by omega)] <;> omega) | (simp; done) | (simp; omega))) | (refine d_bool ?_; (first | (simp_all; done) | (rw [Bool.eq_iff_iff]; simp_all; done) | (rw [Bool.eq_iff_iff]; simp_all; omega) | (rw [Bool.eq_iff_iff]; simp; omega)))))) ?_
  rintro k ⟨hk, HP⟩
  have hW : wOf m es (dV fs k) k < 0 ∨ (0 ≤ dV fs k ∧ dV fs k < vs.length) := by
    by_cases h : wOf m es (dV fs k) k < 0
    · exact .inl h
    · exact .inr (by have := (wOf_in (m := m) (es := es) (a := dV fs k) (b := k) (by omega)).1; omega)
  have hnext : Costs.vI vs.length s (dV vs) (dV fs) (wOf m es) k = true → ∀ u : Nat, u < k + 1 → Costs.vI vs.length s (dV vs) (dV fs) (wOf m es) u = true := fun h u hu => by
    rcases Nat.lt_succ_iff_lt_or_eq.1 hu with hu | rfl
    · exact HP u hu
    · exact h
  repeat' (first | (with_reducible first | refine aw_seq ?_ | refine thn_normal ?_ | refine thn_ret ?_ | refine thn_exit ?_ | refine blk_normal ?_ | refine blk_ret ?_ | refine blk_hit ?_ | refine blk_miss rfl ?_ | refine aw_block ?_ | refine aw_ret ?_ | refine aw_skip ?_ | refine aw_exit ?_ | refine w_nil ?_ | refine x_nil (by kernel_rfl) ?_) | refine aw_region ?_ | refine aw_region_draw (by kernel_rfl) ?_ | refine aw_yes rfl ?_ | refine aw_no rfl ?_ | ((with_reducible refine w_seq ?_); first | refine r_q tbOk rfl rfl rfl rfl ?_ | refine r_e tbOk rfl rfl rfl rfl rfl ?_ | refine r_yes tbOk rfl rfl rfl rfl rfl rfl ?_ | refine w_no rfl rfl (lookO_spec rfl) rfl rfl rfl ?_ | refine w_un rfl rfl (lookO_spec rfl) rfl rfl ?_) | ((with_reducible refine w_drw ?_); first | refine rx_q tbOk rfl rfl rfl rfl ?_ | refine rx_e tbOk rfl rfl rfl rfl rfl ?_ | refine rx_yes tbOk rfl rfl rfl rfl rfl rfl ?_ | refine x_no rfl rfl (lookO_spec rfl) rfl rfl rfl ?_ | refine x_un rfl rfl (lookO_spec rfl) rfl rfl ?_) | ((first | refine' w_q rfl rfl ?xa rfl ?_ | refine' v_q rfl rfl ?xa rfl ?_ | refine' w_yes rfl rfl (lookO_spec rfl) rfl ?xa rfl ?_ | refine' v_yes rfl rfl (lookO_spec rfl) rfl ?xa rfl ?_); case xa => first | exact k_index tbOk rfl rfl rfl rfl (by omega) (by exact ints_atD (by omega) (by omega)) | exact k_call (f_implWeightOf m _ es _ _ hlm) rfl ⟨asA_agg (evO_spec rfl) ⟨cAr_r, cAr_r, trivial⟩, asA_r (evO_spec rfl), asA_r (evO_spec rfl), trivial⟩ | exact k_call (KC _) rfl ⟨asA_r (evO_spec rfl), asA_r (evO_spec rfl), asA_r (evO_spec rfl), trivial⟩ | exact k_call (f_edgesKeepC m _ _ es vs hl hlv hek) rfl ⟨asA_agg (evO_spec rfl) ⟨cAr_r, cAr_r, trivial⟩, asA_r (evO_spec rfl), asA_r (evO_spec rfl), trivial⟩) | ((first | refine aw_ways rfl ?_ ?_ | refine r_split rfl rfl rfl ?_ ?_) <;> intro hg_ <;> fail_if_success (exact Bool.noConfusion hg_)) <;> (try simp only [prn] at hg_) <;> (try first | contradiction | (exfalso; omega)))
  all_goals clear hW
  all_goals first
    | exact ret_tmp rfl (dres_bool (hyes fun v hv => HP v (by omega)).symm)
    | exact ret_tmp rfl (dres_bool (hno k (by omega) (by unfold Costs.vI; simp_all)).symm)
    | exact ⟨k + 1, ⟨by omega, hnext (by unfold Costs.vI; simp_all)⟩, by (refine weak_ren [] rfl ?_ ?_ <;> repeat' (first | exact trivial | refine subR_cons rfl ?_ ?_ | refine subHR_cons rfl ?_ ?_ | rfl | (refine d_int ?_; (first | rfl | omega | (rw [IntWalk.i64_in _ (by omega)] <;> omega) | (simp; done) | (simp; omega))) | (refine d_bool ?_; (first | (simp_all; done) | (rw [Bool.eq_iff_iff]; simp_all; done) | (rw [Bool.eq_iff_iff]; simp_all; omega) | (rw [Bool.eq_iff_iff]; simp; omega))))), by omega⟩
    | trace_state
def cSp (m : Int) (es : List E3) (s : Int) (vs fs : List Int) : Bool := es.all (Costs.eS (dV vs)) && (List.range vs.length).all (fun v : Nat => Costs.vS vs.length s (dV vs) (dV fs) (wOf m es) v)
theorem allR (n : Nat) (p : Int → Bool) : (List.range n).all (fun v : Nat => p v) = true ↔ ∀ v : Int, 0 ≤ v → v < (n : Int) → p v = true := by
  rw [List.all_eq_true]
  constructor
  · intro h v h0 h1
    have := h v.toNat (by simp; omega)
    rwa [show ((v.toNat : Nat) : Int) = v by omega] at this
  · intro h v hv
    exact h v (by omega) (by simp at hv; omega)
theorem cSp_cI {m : Int} {es : List E3} {s : Int} {vs fs : List Int} (hg : gOk m es = true) (hs : 0 ≤ s ∧ s < m) (hmn : (vs.length : Int) = m) (hI : ∀ z ∈ vs, I64 z) (h5 : dV vs s = 0) (h6 : dV fs s = -1) : cSp m es s vs fs = cI m es s vs fs := by
  have hm := gOk_m hg
  have hge := gOk_edges hg
  have g : Costs.Good vs.length s (dV vs) (dV fs) (wOf m es) := ⟨by omega, hs.1, by omega, h5, h6, fun v => by have := dV_I hI v; unfold I64 at this; omega, fun p v h => by have := wOf_in h; omega⟩
  have := Costs.same g es (fun e he => by have := hge e he; omega)
  unfold cSp cI
  rw [Bool.eq_iff_iff, Bool.and_eq_true, Bool.and_eq_true, allR vs.length (Costs.vS vs.length s (dV vs) (dV fs) (wOf m es)), allR vs.length (Costs.vI vs.length s (dV vs) (dV fs) (wOf m es)), List.all_eq_true, List.all_eq_true]
  exact this
theorem run_s (M : Nat) (s : Int) (d f : Int → Int) (w : Int → Int → Int) (n : Nat) (v : Int) : Costs.runS M s d f w (n + 1) v = (decide (v = s) || (Costs.stepS M d w v (f v) && Costs.runS M s d f w n (f v))) := rfl
theorem run_z (M : Nat) (s : Int) (d f : Int → Int) (w : Int → Int → Int) (v : Int) : Costs.runS M s d f w 0 v = decide (v = s) := rfl
theorem run_at (M : Nat) (s : Int) (d f : Int → Int) (w : Int → Int → Int) (n : Nat) : Costs.runS M s d f w n s = true := by cases n <;> simp [run_s, run_z]
/-! ## CCosts -/
set_option maxRecDepth 100000 in
set_option maxHeartbeats 8000000 in
theorem f_specCostsRight (m : Int) (nil nil1 nil2 : Bool) (es : List E3) (s : Int) (vs fs : List Int) (hl : es.length ≤ 1048576) (hlv : vs.length ≤ 1048576) (hlf : fs.length ≤ 1048576) (hI : ∀ z ∈ vs, I64 z) :
    Fn Tryd.prog 39 [graphP m nil es, iP s, .one (row nil1 1 (ints vs)), .one (row nil2 1 (ints fs))] (.v (.one (bool (costsOk m es s vs fs)))) := by
  have hlen := edges_len es
  have hlen2 := ints_len vs
  have hlen3 := ints_len fs
  have hlm : es.length ≤ maxLen := by simp only [maxLen]; omega
  have hin : gOk m es = true → inR 0 (IntKind.i64.wrap (m - 1)) s = hasV m s := fun h => by
    have := gOk_m h
    rw [IntWalk.i64_in _ (by omega)]
    unfold inR hasV
    rw [Bool.eq_iff_iff]; simp; omega
  have hsv : gOk m es = true → inR 0 (IntKind.i64.wrap (m - 1)) s = true → 0 ≤ s ∧ s < m := fun h h' => by rw [hin h] at h'; unfold hasV at h'; simp at h'; exact h'
  refine fn_of (l := [.tmp 8]) Tryd.func39 (by kernel_rfl) rfl Tryd.ntmps39 rfl rfl ?_; simp only [argEnv, P0.d, Nat.reduceAdd, graphP, List.map_cons, List.map_nil]
  repeat' (first | (with_reducible first | refine aw_seq ?_ | refine thn_normal ?_ | refine thn_ret ?_ | refine thn_exit ?_ | refine blk_normal ?_ | refine blk_ret ?_ | refine blk_hit ?_ | refine blk_miss rfl ?_ | refine aw_block ?_ | refine aw_ret ?_ | refine aw_skip ?_ | refine aw_exit ?_ | refine w_nil ?_ | refine x_nil (by kernel_rfl) ?_) | refine aw_region ?_ | refine aw_region_draw (by kernel_rfl) ?_ | refine aw_yes rfl ?_ | refine aw_no rfl ?_ | ((with_reducible refine w_seq ?_); first | refine r_q tbOk rfl rfl rfl rfl ?_ | refine r_e tbOk rfl rfl rfl rfl rfl ?_ | refine r_yes tbOk rfl rfl rfl rfl rfl rfl ?_ | refine w_no rfl rfl (lookO_spec rfl) rfl rfl rfl ?_ | refine w_un rfl rfl (lookO_spec rfl) rfl rfl ?_) | ((with_reducible refine w_drw ?_); first | refine rx_q tbOk rfl rfl rfl rfl ?_ | refine rx_e tbOk rfl rfl rfl rfl rfl ?_ | refine rx_yes tbOk rfl rfl rfl rfl rfl rfl ?_ | refine x_no rfl rfl (lookO_spec rfl) rfl rfl rfl ?_ | refine x_un rfl rfl (lookO_spec rfl) rfl rfl ?_) | ((first | refine' w_q rfl rfl ?xa rfl ?_ | refine' v_q rfl rfl ?xa rfl ?_ | refine' w_yes rfl rfl (lookO_spec rfl) rfl ?xa rfl ?_ | refine' v_yes rfl rfl (lookO_spec rfl) rfl ?xa rfl ?_); case xa => first | exact k_call (f_specGraphValid _ _ es hlm) rfl ⟨asA_agg (evO_spec rfl) ⟨cAr_r, cAr_r, trivial⟩, trivial⟩ | exact k_call (f_l1In _ _ _) rfl ⟨asA_r (evO_spec rfl), asA_r (evO_spec rfl), asA_r (evO_spec rfl), trivial⟩ | exact k_index tbOk rfl rfl rfl rfl (by exact (hsv (by assumption) (by assumption)).1) (by exact ints_atD (hsv (by assumption) (by assumption)).1 (by have := (hsv (by assumption) (by assumption)).2; omega))) | ((first | refine aw_ways rfl ?_ ?_ | refine r_split rfl rfl rfl ?_ ?_) <;> intro hg_ <;> fail_if_success (exact Bool.noConfusion hg_)) <;> (try simp only [prn] at hg_) <;> (try first | contradiction | (exfalso; omega)))
  all_goals try exact ret_tmp rfl (dres_bool (by unfold costsOk; simp_all))
  rename_i h1 h2 h3 h4 h5
  have h6 := hg_
  clear hg_
  have hs := hsv h1 h2
  rw [hin h1] at h2
  have hm := gOk_m h1
  have hmn : m = (vs.length : Int) := by omega
  have hmf : m = (fs.length : Int) := by omega
  have hge := gOk_edges h1
  have hR : costsOk m es s vs fs = cSp m es s vs fs := by
    rw [cSp_cI h1 hs hmn.symm hI h5 h6]
    unfold costsOk
    rw [h1, h2, decide_eq_true hmn.symm, decide_eq_true hmf.symm, decide_eq_true h5, decide_eq_true h6]; simp
  rw [hR]
  have hnoE : ∀ e ∈ es, Costs.eS (dV vs) e = false → cSp m es s vs fs = false := fun e he h => by
    unfold cSp
    have : es.all (Costs.eS (dV vs)) = false := by rw [List.all_eq_false]; exact ⟨e, he, by simp [h]⟩
    rw [this]; rfl
  have hnoV : ∀ v : Nat, v < vs.length → Costs.vS vs.length s (dV vs) (dV fs) (wOf m es) v = false → cSp m es s vs fs = false := fun v hv h => by
    unfold cSp
    have : (List.range vs.length).all (fun v : Nat => Costs.vS vs.length s (dV vs) (dV fs) (wOf m es) v) = false := by
      rw [List.all_eq_false]; exact ⟨v, by simp [hv], by simp [h]⟩
    rw [this]; simp
  have hyes : (∀ e ∈ es, Costs.eS (dV vs) e = true) → (∀ v : Nat, v < vs.length → Costs.vS vs.length s (dV vs) (dV fs) (wOf m es) v = true) → cSp m es s vs fs = true := fun h h' => by
    unfold cSp
    rw [Bool.and_eq_true, List.all_eq_true, List.all_eq_true]
    exact ⟨h, fun v hv => h' v (by simpa using hv)⟩
  clear h1 h2 h3 h4 h5 h6 hR hsv hin
  refine aw_loopI (fun k : Nat => k ≤ es.length ∧ ∀ e ∈ es.take k, Costs.eS (dV vs) e = true) (fun k => mkS 180 [(9, .one (.r true (int k))), (1, .one (.r false (int s))), (2, .one (.r false (row nil1 1 (ints vs)))), (3, .one (.r false (row nil2 1 (ints fs)))), (4, .one (.ptr 4 0 0 0))] [(4, .var 48 [.r false (int m), .r false (row nil 3 (edges es))])]) (fun k => es.length - k) 0 ⟨Nat.zero_le _, by simp⟩ (by (refine weak_ren [] rfl ?_ ?_ <;> repeat' (first | exact trivial | refine subR_cons rfl ?_ ?_ | refine subHR_cons rfl ?_ ?_ | rfl | (refine d_int ?_; (first | rfl | omega | (rw [IntWalk.i64_in _ (by omega)] <;> omega) | (simp; done) | (simp; omega))) | (refine d_bool ?_; (first | (simp_all; done) | (rw [Bool.eq_iff_iff]; simp_all; done) | (rw [Bool.eq_iff_iff]; simp_all; omega) | (rw [Bool.eq_iff_iff]; simp; omega)))))) ?_
  rintro k ⟨hk, HE⟩
  by_cases hlt : k < es.length
  · have hix := edges_at hlt
    have hgk := hge es[k] (List.getElem_mem hlt)
    have hem : es[k] ∈ es := List.getElem_mem hlt
    have hnext : Costs.eS (dV vs) es[k] = true → ∀ e ∈ es.take (k + 1), Costs.eS (dV vs) e = true := fun h e he => by
      rw [List.take_succ_eq_append_getElem hlt, List.mem_append] at he
      rcases he with he | he
      · exact HE e he
      · obtain rfl : e = es[k] := by simpa using he
        exact h
    generalize es[k] = e at *
    have hg0 := hgk.1.1
    have hg1 := hgk.1.2
    have hg2 := hgk.2.1.1
    have hg3 := hgk.2.1.2
    repeat' (first | (with_reducible first | refine aw_seq ?_ | refine thn_normal ?_ | refine thn_ret ?_ | refine thn_exit ?_ | refine blk_normal ?_ | refine blk_ret ?_ | refine blk_hit ?_ | refine blk_miss rfl ?_ | refine aw_block ?_ | refine aw_ret ?_ | refine aw_skip ?_ | refine aw_exit ?_ | refine w_nil ?_ | refine x_nil (by kernel_rfl) ?_) | refine aw_region ?_ | refine aw_region_draw (by kernel_rfl) ?_ | refine aw_yes rfl ?_ | refine aw_no rfl ?_ | ((with_reducible refine w_seq ?_); first | refine r_q tbOk rfl rfl rfl rfl ?_ | refine r_e tbOk rfl rfl rfl rfl rfl ?_ | refine r_yes tbOk rfl rfl rfl rfl rfl rfl ?_ | refine w_no rfl rfl (lookO_spec rfl) rfl rfl rfl ?_ | refine w_un rfl rfl (lookO_spec rfl) rfl rfl ?_) | ((with_reducible refine w_drw ?_); first | refine rx_q tbOk rfl rfl rfl rfl ?_ | refine rx_e tbOk rfl rfl rfl rfl rfl ?_ | refine rx_yes tbOk rfl rfl rfl rfl rfl rfl ?_ | refine x_no rfl rfl (lookO_spec rfl) rfl rfl rfl ?_ | refine x_un rfl rfl (lookO_spec rfl) rfl rfl ?_) | ((first | refine' w_q rfl rfl ?xa rfl ?_ | refine' v_q rfl rfl ?xa rfl ?_ | refine' w_yes rfl rfl (lookO_spec rfl) rfl ?xa rfl ?_ | refine' v_yes rfl rfl (lookO_spec rfl) rfl ?xa rfl ?_); case xa => first | exact k_index tbOk rfl rfl rfl rfl (by omega) (by first | exact hix | exact ints_atD (by omega) (by omega)) | exact k_call (f_l1In _ _ _) rfl ⟨asA_r (evO_spec rfl), asA_r (evO_spec rfl), asA_r (evO_spec rfl), trivial⟩) | ((first | refine aw_ways rfl ?_ ?_ | refine r_split rfl rfl rfl ?_ ?_) <;> intro hg_ <;> fail_if_success (exact Bool.noConfusion hg_)) <;> (try simp only [prn] at hg_) <;> (try first | contradiction | (exfalso; omega)))
    all_goals clear hyes hnoV hge
    all_goals first
      | exact ret_tmp rfl (dres_bool (hnoE e hem (by unfold Costs.eS Costs.inn; (try unfold inR at *); simp_all)).symm)
      | exact ⟨k + 1, ⟨by omega, hnext (by clear hnext HE hnoE; unfold Costs.eS Costs.inn; (try unfold inR at *); simp_all; try omega)⟩, by (refine weak_ren [] rfl ?_ ?_ <;> repeat' (first | exact trivial | refine subR_cons rfl ?_ ?_ | refine subHR_cons rfl ?_ ?_ | rfl | (refine d_int ?_; (first | rfl | omega | (rw [IntWalk.i64_in _ (by omega)] <;> omega) | (simp; done) | (simp; omega))) | (refine d_bool ?_; (first | (simp_all; done) | (rw [Bool.eq_iff_iff]; simp_all; done) | (rw [Bool.eq_iff_iff]; simp_all; omega) | (rw [Bool.eq_iff_iff]; simp; omega))))), by omega⟩
      | trace_state
  · have HE : ∀ e ∈ es, Costs.eS (dV vs) e = true := by rwa [List.take_of_length_le (by omega)] at HE
    repeat' (first | (with_reducible first | refine aw_seq ?_ | refine thn_normal ?_ | refine thn_ret ?_ | refine thn_exit ?_ | refine blk_normal ?_ | refine blk_ret ?_ | refine blk_hit ?_ | refine blk_miss rfl ?_ | refine aw_block ?_ | refine aw_ret ?_ | refine aw_skip ?_ | refine aw_exit ?_ | refine w_nil ?_ | refine x_nil (by kernel_rfl) ?_) | refine aw_region ?_ | refine aw_region_draw (by kernel_rfl) ?_ | refine aw_yes rfl ?_ | refine aw_no rfl ?_ | ((with_reducible refine w_seq ?_); first | refine r_q tbOk rfl rfl rfl rfl ?_ | refine r_e tbOk rfl rfl rfl rfl rfl ?_ | refine r_yes tbOk rfl rfl rfl rfl rfl rfl ?_ | refine w_no rfl rfl (lookO_spec rfl) rfl rfl rfl ?_ | refine w_un rfl rfl (lookO_spec rfl) rfl rfl ?_) | ((with_reducible refine w_drw ?_); first | refine rx_q tbOk rfl rfl rfl rfl ?_ | refine rx_e tbOk rfl rfl rfl rfl rfl ?_ | refine rx_yes tbOk rfl rfl rfl rfl rfl rfl ?_ | refine x_no rfl rfl (lookO_spec rfl) rfl rfl rfl ?_ | refine x_un rfl rfl (lookO_spec rfl) rfl rfl ?_) | ((first | refine aw_ways rfl ?_ ?_ | refine r_split rfl rfl rfl ?_ ?_) <;> intro hg_ <;> fail_if_success (exact Bool.noConfusion hg_)) <;> (try simp only [prn] at hg_) <;> (try first | contradiction | (exfalso; omega)))
    clear hg_ hlt hk hge hnoE
    refine aw_loopI (fun v : Nat => v ≤ vs.length ∧ ∀ u : Nat, u < v → Costs.vS vs.length s (dV vs) (dV fs) (wOf m es) u = true) (fun v => mkS 180 [(11, .one (.r true (int v))), (1, .one (.r false (int s))), (2, .one (.r false (row nil1 1 (ints vs)))), (3, .one (.r false (row nil2 1 (ints fs)))), (4, .one (.ptr 4 0 0 0))] [(4, .var 48 [.r false (int m), .r false (row nil 3 (edges es))])]) (fun v => vs.length - v) 0 ⟨Nat.zero_le _, fun u hu => by omega⟩ (by (refine weak_ren [] rfl ?_ ?_ <;> repeat' (first | exact trivial | refine subR_cons rfl ?_ ?_ | refine subHR_cons rfl ?_ ?_ | rfl | (refine d_int ?_; (first | rfl | omega | (rw [IntWalk.i64_in _ (by omega)] <;> omega) | (simp; done) | (simp; omega))) | (refine d_bool ?_; (first | (simp_all; done) | (rw [Bool.eq_iff_iff]; simp_all; done) | (rw [Bool.eq_iff_iff]; simp_all; omega) | (rw [Bool.eq_iff_iff]; simp; omega)))))) ?_
    rintro v ⟨hv, HV⟩
    have hnext : Costs.vS vs.length s (dV vs) (dV fs) (wOf m es) v = true → ∀ u : Nat, u < v + 1 → Costs.vS vs.length s (dV vs) (dV fs) (wOf m es) u = true := fun h u hu => by
      rcases Nat.lt_succ_iff_lt_or_eq.1 hu with hu | rfl
      · exact HV u hu
      · exact h
    repeat' (first | (with_reducible first | refine aw_seq ?_ | refine thn_normal ?_ | refine thn_ret ?_ | refine thn_exit ?_ | refine blk_normal ?_ | refine blk_ret ?_ | refine blk_hit ?_ | refine blk_miss rfl ?_ | refine aw_block ?_ | refine aw_ret ?_ | refine aw_skip ?_ | refine aw_exit ?_ | refine w_nil ?_ | refine x_nil (by kernel_rfl) ?_) | refine aw_region ?_ | refine aw_region_draw (by kernel_rfl) ?_ | refine aw_yes rfl ?_ | refine aw_no rfl ?_ | ((with_reducible refine w_seq ?_); first | refine r_q tbOk rfl rfl rfl rfl ?_ | refine r_e tbOk rfl rfl rfl rfl rfl ?_ | refine r_yes tbOk rfl rfl rfl rfl rfl rfl ?_ | refine w_no rfl rfl (lookO_spec rfl) rfl rfl rfl ?_ | refine w_un rfl rfl (lookO_spec rfl) rfl rfl ?_) | ((with_reducible refine w_drw ?_); first | refine rx_q tbOk rfl rfl rfl rfl ?_ | refine rx_e tbOk rfl rfl rfl rfl rfl ?_ | refine rx_yes tbOk rfl rfl rfl rfl rfl rfl ?_ | refine x_no rfl rfl (lookO_spec rfl) rfl rfl rfl ?_ | refine x_un rfl rfl (lookO_spec rfl) rfl rfl ?_) | ((first | refine' w_q rfl rfl ?xa rfl ?_ | refine' v_q rfl rfl ?xa rfl ?_ | refine' w_yes rfl rfl (lookO_spec rfl) rfl ?xa rfl ?_ | refine' v_yes rfl rfl (lookO_spec rfl) rfl ?xa rfl ?_); case xa => exact k_index tbOk rfl rfl rfl rfl (by omega) (by exact ints_atD (by omega) (by omega))) | ((first | refine aw_ways rfl ?_ ?_ | refine r_split rfl rfl rfl ?_ ?_) <;> intro hg_ <;> fail_if_success (exact Bool.noConfusion hg_)) <;> (try simp only [prn] at hg_) <;> (try first | contradiction | (exfalso; omega)))
    all_goals try first
      | exact ret_tmp rfl (dres_bool (hyes HE fun v hv => HV v (by omega)).symm)
      | exact ret_tmp rfl (dres_bool (hnoV v (by omega) (by clear hnext HE HV hyes hnoV; unfold Costs.vS; simp_all)).symm)
      | exact ⟨v + 1, ⟨by omega, hnext (by clear hnext HE HV hyes hnoV; unfold Costs.vS; simp_all; try omega)⟩, by (refine weak_ren [] rfl ?_ ?_ <;> repeat' (first | exact trivial | refine subR_cons rfl ?_ ?_ | refine subHR_cons rfl ?_ ?_ | rfl | (refine d_int ?_; (first | rfl | omega | (rw [IntWalk.i64_in _ (by omega)] <;> omega) | (simp; done) | (simp; omega))) | (refine d_bool ?_; (first | (simp_all; done) | (rw [Bool.eq_iff_iff]; simp_all; done) | (rw [Bool.eq_iff_iff]; simp_all; omega) | (rw [Bool.eq_iff_iff]; simp; omega))))), by omega⟩
    have hvS : Costs.vS vs.length s (dV vs) (dV fs) (wOf m es) v = Costs.runS vs.length s (dV vs) (dV fs) (wOf m es) (vs.length + 1) v := by
      clear hnext HE HV hyes hnoV; unfold Costs.vS; simp_all
    have hvl : v < vs.length := by omega
    clear hg_
    refine aw_loopI (fun x : Bool × Nat × Int => x.2.1 ≤ vs.length + 1 ∧ (0 ≤ x.2.2 ∧ x.2.2 < m) ∧ Costs.vS vs.length s (dV vs) (dV fs) (wOf m es) v = Costs.runS vs.length s (dV vs) (dV fs) (wOf m es) (vs.length + 1 - x.2.1) x.2.2) (fun x => mkS 180 [(13, .one (.r true (int x.2.1))), (12, .one (.r x.1 (int x.2.2))), (11, .one (.r true (int v))), (1, .one (.r false (int s))), (2, .one (.r false (row nil1 1 (ints vs)))), (3, .one (.r false (row nil2 1 (ints fs)))), (4, .one (.ptr 4 0 0 0))] [(4, .var 48 [.r false (int m), .r false (row nil 3 (edges es))])]) (fun x => vs.length + 1 - x.2.1) (true, 0, (v : Int)) ⟨Nat.zero_le _, ⟨by show (0 : Int) ≤ v; omega, by show (v : Int) < m; omega⟩, hvS⟩ (by (refine weak_ren [] rfl ?_ ?_ <;> repeat' (first | exact trivial | refine subR_cons rfl ?_ ?_ | refine subHR_cons rfl ?_ ?_ | rfl | (refine d_int ?_; (first | rfl | omega | (rw [IntWalk.i64_in _ (by omega)] <;> omega) | (simp; done) | (simp; omega))) | (refine d_bool ?_; (first | (simp_all; done) | (rw [Bool.eq_iff_iff]; simp_all; done) | (rw [Bool.eq_iff_iff]; simp_all; omega) | (rw [Bool.eq_iff_iff]; simp; omega)))))) ?_
    rintro x ⟨hj, ⟨ha0, ha1⟩, HR⟩
    clear hvS
    by_cases hlt2 : x.2.1 ≤ vs.length ∧ x.2.2 ≠ s
    · obtain ⟨hj1, has⟩ := hlt2
      obtain ⟨n, hn⟩ : ∃ n, vs.length + 1 - x.2.1 = n + 1 := ⟨vs.length - x.2.1, by omega⟩
      have hn' : vs.length + 1 - (x.2.1 + 1) = n := by omega
      have hin2 : Costs.inn 0 ((vs.length : Int) - 1) (dV fs x.2.2) = inR 0 (IntKind.i64.wrap (m - 1)) (dV fs x.2.2) := by
        rw [IntWalk.i64_in _ (by omega), hmn]; rfl
      have hp : inR 0 (IntKind.i64.wrap (m - 1)) (dV fs x.2.2) = true → 0 ≤ dV fs x.2.2 ∧ dV fs x.2.2 < m := fun h => by
        rw [← hin2] at h; unfold Costs.inn at h; simp at h; omega
      simp only [hn, run_s, decide_eq_false has, Bool.false_or] at HR
      repeat' (first | (with_reducible first | refine aw_seq ?_ | refine thn_normal ?_ | refine thn_ret ?_ | refine thn_exit ?_ | refine blk_normal ?_ | refine blk_ret ?_ | refine blk_hit ?_ | refine blk_miss rfl ?_ | refine aw_block ?_ | refine aw_ret ?_ | refine aw_skip ?_ | refine aw_exit ?_ | refine w_nil ?_ | refine x_nil (by kernel_rfl) ?_) | refine aw_region ?_ | refine aw_region_draw (by kernel_rfl) ?_ | refine aw_yes rfl ?_ | refine aw_no rfl ?_ | ((with_reducible refine w_seq ?_); first | refine r_q tbOk rfl rfl rfl rfl ?_ | refine r_e tbOk rfl rfl rfl rfl rfl ?_ | refine r_yes tbOk rfl rfl rfl rfl rfl rfl ?_ | refine w_no rfl rfl (lookO_spec rfl) rfl rfl rfl ?_ | refine w_un rfl rfl (lookO_spec rfl) rfl rfl ?_) | ((with_reducible refine w_drw ?_); first | refine rx_q tbOk rfl rfl rfl rfl ?_ | refine rx_e tbOk rfl rfl rfl rfl rfl ?_ | refine rx_yes tbOk rfl rfl rfl rfl rfl rfl ?_ | refine x_no rfl rfl (lookO_spec rfl) rfl rfl rfl ?_ | refine x_un rfl rfl (lookO_spec rfl) rfl rfl ?_) | ((first | refine' w_q rfl rfl ?xa rfl ?_ | refine' v_q rfl rfl ?xa rfl ?_ | refine' w_yes rfl rfl (lookO_spec rfl) rfl ?xa rfl ?_ | refine' v_yes rfl rfl (lookO_spec rfl) rfl ?xa rfl ?_); case xa => first | exact k_index tbOk rfl rfl rfl rfl (by first | omega | exact (hp (by assumption)).1) (by first | exact ints_atD (by omega) (by omega) | exact ints_atD (hp (by assumption)).1 (by have := (hp (by assumption)).2; omega)) | exact k_call (f_l1In _ _ _) rfl ⟨asA_r (evO_spec rfl), asA_r (evO_spec rfl), asA_r (evO_spec rfl), trivial⟩ | exact k_call (f_specWeightOf m _ es _ _ hlm) rfl ⟨asA_agg (evO_spec rfl) ⟨cAr_r, cAr_r, trivial⟩, asA_r (evO_spec rfl), asA_r (evO_spec rfl), trivial⟩) | ((first | refine aw_ways rfl ?_ ?_ | refine r_split rfl rfl rfl ?_ ?_) <;> intro hg_ <;> fail_if_success (exact Bool.noConfusion hg_)) <;> (try simp only [prn] at hg_) <;> (try first | contradiction | (exfalso; omega)))
      all_goals first
        | exact ret_tmp rfl (dres_bool (hnoV v hvl (by rw [HR]; clear hnext HE HV hyes hnoV HR; unfold Costs.stepS; rw [hin2]; simp_all)).symm)
        | exact ⟨(false, x.2.1 + 1, dV fs x.2.2), ⟨by simp only; omega, hp (by assumption), by rw [HR]; simp only [hn']; clear hnext HE HV hyes hnoV HR; unfold Costs.stepS; rw [hin2]; simp_all⟩, by (refine weak_ren [] rfl ?_ ?_ <;> repeat' (first | exact trivial | refine subR_cons rfl ?_ ?_ | refine subHR_cons rfl ?_ ?_ | rfl | (refine d_int ?_; (first | rfl | omega | (rw [IntWalk.i64_in _ (by omega)] <;> omega) | (simp; done) | (simp; omega))) | (refine d_bool ?_; (first | (simp_all; done) | (rw [Bool.eq_iff_iff]; simp_all; done) | (rw [Bool.eq_iff_iff]; simp_all; omega) | (rw [Bool.eq_iff_iff]; simp; omega))) | exact d_int (by simp only; rw [IntWalk.i64_in _ (by omega)]; omega))), by simp only; omega⟩
        | trace_state
    · repeat' (first | (with_reducible first | refine aw_seq ?_ | refine thn_normal ?_ | refine thn_ret ?_ | refine thn_exit ?_ | refine blk_normal ?_ | refine blk_ret ?_ | refine blk_hit ?_ | refine blk_miss rfl ?_ | refine aw_block ?_ | refine aw_ret ?_ | refine aw_skip ?_ | refine aw_exit ?_ | refine w_nil ?_ | refine x_nil (by kernel_rfl) ?_) | refine aw_region ?_ | refine aw_region_draw (by kernel_rfl) ?_ | refine aw_yes rfl ?_ | refine aw_no rfl ?_ | ((with_reducible refine w_seq ?_); first | refine r_q tbOk rfl rfl rfl rfl ?_ | refine r_e tbOk rfl rfl rfl rfl rfl ?_ | refine r_yes tbOk rfl rfl rfl rfl rfl rfl ?_ | refine w_no rfl rfl (lookO_spec rfl) rfl rfl rfl ?_ | refine w_un rfl rfl (lookO_spec rfl) rfl rfl ?_) | ((with_reducible refine w_drw ?_); first | refine rx_q tbOk rfl rfl rfl rfl ?_ | refine rx_e tbOk rfl rfl rfl rfl rfl ?_ | refine rx_yes tbOk rfl rfl rfl rfl rfl rfl ?_ | refine x_no rfl rfl (lookO_spec rfl) rfl rfl rfl ?_ | refine x_un rfl rfl (lookO_spec rfl) rfl rfl ?_) | ((first | refine aw_ways rfl ?_ ?_ | refine r_split rfl rfl rfl ?_ ?_) <;> intro hg_ <;> fail_if_success (exact Bool.noConfusion hg_)) <;> (try simp only [prn] at hg_) <;> (try first | contradiction | (exfalso; omega)))
      all_goals first
        | exact ret_tmp rfl (dres_bool (hnoV v hvl (by rw [HR, show vs.length + 1 - x.2.1 = 0 by omega, run_z]; simpa using hg_)).symm)
        | exact ⟨v + 1, ⟨by omega, hnext (by rw [HR, show x.2.2 = s from by assumption]; exact run_at _ _ _ _ _ _)⟩, by (refine weak_ren [] rfl ?_ ?_ <;> repeat' (first | exact trivial | refine subR_cons rfl ?_ ?_ | refine subHR_cons rfl ?_ ?_ | rfl | (refine d_int ?_; (first | rfl | omega | (rw [IntWalk.i64_in _ (by omega)] <;> omega) | (simp; done) | (simp; omega))) | (refine d_bool ?_; (first | (simp_all; done) | (rw [Bool.eq_iff_iff]; simp_all; done) | (rw [Bool.eq_iff_iff]; simp_all; omega) | (rw [Bool.eq_iff_iff]; simp; omega))))), by omega⟩
        | trace_state
end Go.Proofs.YthjnidcmhegoeaaDoor.Abs
