/- Weights and CostsRight by states. No statement of the seat is proved here. -/
import Derived.Test.YthjnidcmhegoeaaTy
import Derived.Lib.Hide
import Derived.Test.YthjnidcmhegoeaaAHops
import Derived.Test.YthjnidcmhegoeaaPCosts
set_option linter.unusedSimpArgs false
set_option linter.unusedVariables false
namespace Go.Proofs.Ythjnidcmhegoeaa.Abs
open Go.RowKit
open R (val row ref)

/-! ## ACosts -/
def isE (a b : Int) (e : E3) : Bool := decide (e.1 = a) && decide (e.2.1 = b)
def wE (es : List E3) (a b : Int) : Int := match es.find? (isE a b) with | some e => e.2.2 | none => -1
def wOf (m : Int) (es : List E3) (a b : Int) : Int := if gOk m es then wE es a b else -1
theorem wE_drop {es : List E3} {k : Nat} (hk : k < es.length) (a b : Int) : wE (es.drop k) a b = if isE a b es[k] then es[k].2.2 else wE (es.drop (k + 1)) a b := by
  rw [List.drop_eq_getElem_cons hk]
  unfold wE
  rw [List.find?_cons]
  cases isE a b es[k] <;> rfl
theorem wE_end {es : List E3} {k : Nat} (hk : es.length ≤ k) (a b : Int) : wE (es.drop k) a b = -1 := by
  rw [List.drop_of_length_le hk]; rfl
set_option maxRecDepth 100000 in
set_option maxHeartbeats 4000000 in
theorem f_implWeightOf (m : Int) (nil : Bool) (es : List E3) (a b : Int) (hl : es.length ≤ maxLen) : Fn Try.prog 19 [graphP m nil es, iP a, iP b] (.v (iP (wOf m es a b))) := by
  have hlen := edges_len es
  have hml : es.length ≤ 9223372036854775807 := hl
  refine fn_of (l := [.tmp 6]) Try.func19 (by kernel_rfl) rfl Try.ntmps19 rfl rfl ?_; simp only [argEnv, P0.d, Nat.reduceAdd, graphP, List.map_cons, List.map_nil]
  repeat' (first | (with_reducible first | refine aw_seq ?_ | refine thn_normal ?_ | refine thn_ret ?_ | refine thn_exit ?_ | refine blk_normal ?_ | refine blk_ret ?_ | refine blk_hit ?_ | refine blk_miss rfl ?_ | refine aw_block ?_ | refine aw_ret ?_ | refine aw_skip ?_ | refine aw_exit ?_ | refine w_nil ?_ | refine x_nil (by kernel_rfl) ?_) | refine aw_region ?_ | refine aw_region_draw (by kernel_rfl) ?_ | refine aw_yes rfl ?_ | refine aw_no rfl ?_ | ((with_reducible refine w_seq ?_); first | refine r_q tbOk rfl rfl rfl rfl ?_ | refine r_e tbOk rfl rfl rfl rfl rfl ?_ | refine r_yes tbOk rfl rfl rfl rfl rfl rfl ?_ | refine w_no rfl rfl (lookO_spec rfl) rfl rfl rfl ?_ | refine w_un rfl rfl (lookO_spec rfl) rfl rfl ?_) | ((with_reducible refine w_drw ?_); first | refine rx_q tbOk rfl rfl rfl rfl ?_ | refine rx_e tbOk rfl rfl rfl rfl rfl ?_ | refine rx_yes tbOk rfl rfl rfl rfl rfl rfl ?_ | refine x_no rfl rfl (lookO_spec rfl) rfl rfl rfl ?_ | refine x_un rfl rfl (lookO_spec rfl) rfl rfl ?_) | ((first | refine' w_q rfl rfl ?xa rfl ?_ | refine' v_q rfl rfl ?xa rfl ?_ | refine' w_yes rfl rfl (lookO_spec rfl) rfl ?xa rfl ?_ | refine' v_yes rfl rfl (lookO_spec rfl) rfl ?xa rfl ?_); case xa => exact k_call (f_implGraphValid _ _ es hl) rfl ⟨asA_agg (evO_spec rfl) ⟨cAr_r, cAr_r, trivial⟩, trivial⟩) | ((first | refine aw_ways rfl ?_ ?_ | refine r_split rfl rfl rfl ?_ ?_) <;> intro hg_ <;> fail_if_success (exact Bool.noConfusion hg_)) <;> (try simp only [prn] at hg_) <;> (try first | contradiction | (exfalso; omega)))
  · exact ret_tmp rfl (dres_int (by unfold wOf; simp_all))
  have hg := hg_
  clear hg_
  refine aw_loopI (fun k : Nat => k ≤ es.length ∧ wE es a b = wE (es.drop k) a b) (fun k => mkS 32 [(15, .one (.r true (int k))), (14, .one (.r true (int (edges es).length))), (13, .one (.r false (row nil 3 (edges es)))), (1, .one (.r false (int a))), (2, .one (.r false (int b))), (3, .one (.ptr 3 0 0 0))] [(3, .var 30 [.r false (int m), .r false (row nil 3 (edges es))])]) (fun k => es.length - k) 0 ⟨Nat.zero_le _, by simp⟩ (by (refine weak_ren [] rfl ?_ ?_ <;> repeat' (first | exact trivial | refine subR_cons rfl ?_ ?_ | refine subHR_cons rfl ?_ ?_ | rfl | (refine d_int ?_; (first | rfl | omega | (rw [IntWalk.i64_in _ (by omega)] <;> omega) | (simp; done) | (simp; omega))) | (refine d_bool ?_; (first | (simp_all; done) | (rw [Bool.eq_iff_iff]; simp_all; done) | (rw [Bool.eq_iff_iff]; simp_all; omega) | (rw [Bool.eq_iff_iff]; simp; omega)))))) ?_
  rintro k ⟨hk, HP⟩
  repeat' (first | (with_reducible first | refine aw_seq ?_ | refine thn_normal ?_ | refine thn_ret ?_ | refine thn_exit ?_ | refine blk_normal ?_ | refine blk_ret ?_ | refine blk_hit ?_ | refine blk_miss rfl ?_ | refine aw_block ?_ | refine aw_ret ?_ | refine aw_skip ?_ | refine aw_exit ?_ | refine w_nil ?_ | refine x_nil (by kernel_rfl) ?_) | refine aw_region ?_ | refine aw_region_draw (by kernel_rfl) ?_ | refine aw_yes rfl ?_ | refine aw_no rfl ?_ | ((with_reducible refine w_seq ?_); first | refine r_q tbOk rfl rfl rfl rfl ?_ | refine r_e tbOk rfl rfl rfl rfl rfl ?_ | refine r_yes tbOk rfl rfl rfl rfl rfl rfl ?_ | refine w_no rfl rfl (lookO_spec rfl) rfl rfl rfl ?_ | refine w_un rfl rfl (lookO_spec rfl) rfl rfl ?_) | ((with_reducible refine w_drw ?_); first | refine rx_q tbOk rfl rfl rfl rfl ?_ | refine rx_e tbOk rfl rfl rfl rfl rfl ?_ | refine rx_yes tbOk rfl rfl rfl rfl rfl rfl ?_ | refine x_no rfl rfl (lookO_spec rfl) rfl rfl rfl ?_ | refine x_un rfl rfl (lookO_spec rfl) rfl rfl ?_) | ((first | refine' w_q rfl rfl ?xa rfl ?_ | refine' v_q rfl rfl ?xa rfl ?_ | refine' w_yes rfl rfl (lookO_spec rfl) rfl ?xa rfl ?_ | refine' v_yes rfl rfl (lookO_spec rfl) rfl ?xa rfl ?_); case xa => exact k_index tbOk rfl rfl rfl rfl (by omega) (by exact edges_at (by omega))) | ((first | refine aw_ways rfl ?_ ?_ | refine r_split rfl rfl rfl ?_ ?_) <;> intro hg_ <;> fail_if_success (exact Bool.noConfusion hg_)) <;> (try simp only [prn] at hg_) <;> (try first | contradiction | (exfalso; omega)))
  all_goals first
    | exact ret_tmp rfl (dres_int (by unfold wOf; rw [HP, wE_drop (by omega)]; unfold isE; simp_all))
    | exact ret_tmp rfl (dres_int (by unfold wOf; rw [HP, wE_end (by omega)]; simp_all))
    | exact ⟨k + 1, ⟨by omega, by rw [HP, wE_drop (by omega)]; unfold isE; simp_all⟩, by (refine weak_ren [] rfl ?_ ?_ <;> repeat' (first | exact trivial | refine subR_cons rfl ?_ ?_ | refine subHR_cons rfl ?_ ?_ | rfl | (refine d_int ?_; (first | rfl | omega | (rw [IntWalk.i64_in _ (by omega)] <;> omega) | (simp; done) | (simp; omega))) | (refine d_bool ?_; (first | (simp_all; done) | (rw [Bool.eq_iff_iff]; simp_all; done) | (rw [Bool.eq_iff_iff]; simp_all; omega) | (rw [Bool.eq_iff_iff]; simp; omega))))), by omega⟩
    | trace_state
/-- A call of a function value that lies in a slot. -/
theorem k_callV {P : Program} {l : List (Nat × D)} {h : List (Nat × Ob)} {o : Oper} {f : FuncId} {res : Res} {x : Operand} {xs : List Operand} {ys : List P0} {tys : Array TypeId} {nn : Bool} (hf : Fn P f ys res) (ho : o.op = .call { callee := .value x, args := xs.toArray, argTypes := tys }) (hx : evO l x = some (.one (.r nn (R.val (Value.func (.func f) #[] #[])))))
    (ha : AsArgs (lookH h) (evD (look l)) xs ys) : Loc P (lookH h) (evD (look l)) o res.d := by
  intro base a w ι own hown hbase hev hH _ K Q hK
  have hm : ∀ y ∈ xs, (evD (look l) y).p ι base ⟨w, own⟩ (a.eval y) := fun y hy => hev y (by rw [ho]; simp [Op.operands, Call.operands, hy])
  have hfx : a.eval x = .func (.func f) #[] #[] := by
    have := hev x (by rw [ho]; simp [Op.operands, Call.operands])
    rw [evO_spec hx] at this
    exact ((val_p (c := Cx.young ⟨w, own⟩ base nn)).1 this).1
  have hA := args_of hH xs ys hm ha
  have hrun : (execOp a.eval o).run P w = .ok (.enter f (xs.map a.eval).toArray) w := by
    unfold execOp
    rw [ho]
    simp [resolve, hfx, Deferred.ofValue, invoke, hf.1 _ _]
  unfold Oper.wp
  rw [hrun, Oper.upon_enter]
  refine (hf.2 w _ (hbase.2.mono hbase.1) hA).mono ?_
  rintro e w' ⟨v, rfl, hp, hb⟩
  have hx : Cx.Ext ⟨w', fun b => b < w.heap.size⟩ (Cx.young ⟨w', own⟩ base true) := Cx.Ext.sub rfl (by
    intro b hb'
    rcases hb' with h | h
    · exact (hown b h).2
    · exact Nat.lt_of_lt_of_le h hbase.1)
  exact hK v w' ι own (Chg.quiet hown hb (Res.d_p (Res.mono hx hp)))
set_option maxRecDepth 100000 in
set_option maxHeartbeats 2000000 in
theorem f_implHas (m : Int) (nil : Bool) (es : List E3) (v : Int) : Fn Try.prog 57 [graphP m nil es, iP v] (.v (.one (bool (hasV m v)))) := by
  refine fn_of (l := [.tmp 4]) Try.func57 (by kernel_rfl) rfl Try.ntmps57 rfl rfl ?_; simp only [argEnv, P0.d, Nat.reduceAdd, graphP, List.map_cons, List.map_nil]
  repeat' (first | (with_reducible first | refine aw_seq ?_ | refine thn_normal ?_ | refine thn_ret ?_ | refine thn_exit ?_ | refine blk_normal ?_ | refine blk_ret ?_ | refine blk_hit ?_ | refine blk_miss rfl ?_ | refine aw_block ?_ | refine aw_ret ?_ | refine aw_skip ?_ | refine aw_exit ?_ | refine w_nil ?_ | refine x_nil (by kernel_rfl) ?_) | refine aw_region ?_ | refine aw_region_draw (by kernel_rfl) ?_ | refine aw_yes rfl ?_ | refine aw_no rfl ?_ | ((with_reducible refine w_seq ?_); first | refine r_q tbOk rfl rfl rfl rfl ?_ | refine r_e tbOk rfl rfl rfl rfl rfl ?_ | refine r_yes tbOk rfl rfl rfl rfl rfl rfl ?_ | refine w_no rfl rfl (lookO_spec rfl) rfl rfl rfl ?_ | refine w_un rfl rfl (lookO_spec rfl) rfl rfl ?_) | ((with_reducible refine w_drw ?_); first | refine rx_q tbOk rfl rfl rfl rfl ?_ | refine rx_e tbOk rfl rfl rfl rfl rfl ?_ | refine rx_yes tbOk rfl rfl rfl rfl rfl rfl ?_ | refine x_no rfl rfl (lookO_spec rfl) rfl rfl rfl ?_ | refine x_un rfl rfl (lookO_spec rfl) rfl rfl ?_) | ((first | refine aw_ways rfl ?_ ?_ | refine r_split rfl rfl rfl ?_ ?_) <;> intro hg_ <;> fail_if_success (exact Bool.noConfusion hg_)) <;> (try simp only [prn] at hg_) <;> (try first | contradiction | (exfalso; omega)))
  all_goals exact ret_tmp rfl (dres_bool (by unfold hasV; (first | (simp_all; done) | (rw [Bool.eq_iff_iff]; simp_all; done) | (rw [Bool.eq_iff_iff]; simp_all; omega) | (rw [Bool.eq_iff_iff]; simp; omega))))
theorem climb_s (M : Nat) (s : Int) (f : Int → Int) (n : Nat) (v : Int) : Costs.climb M s f (n + 1) v = (decide (v = s) || (!(decide (v < 0) || decide (v ≥ (M : Int))) && Costs.climb M s f n (f v))) := rfl
theorem climb_z (M : Nat) (s : Int) (f : Int → Int) (v : Int) : Costs.climb M s f 0 v = decide (v = s) := rfl
/-! ## BCosts -/
def cI (m : Int) (es : List E3) (s : Int) (vs fs : List Int) : Bool := (List.range vs.length).all (fun v : Nat => Costs.vI vs.length s (dV vs) (dV fs) (wOf m es) v) && es.all (Costs.eI (dV vs))
def costsOk (m : Int) (es : List E3) (s : Int) (vs fs : List Int) : Bool :=
  gOk m es && hasV m s && decide ((vs.length : Int) = m) && decide ((fs.length : Int) = m) && decide (dV vs s = 0) && decide (dV fs s = -1) && cI m es s vs fs
theorem wOf_in {m : Int} {es : List E3} {a b : Int} (h : 0 ≤ wOf m es a b) : (0 ≤ a ∧ a < m) ∧ wOf m es a b ≤ 20 := by
  unfold wOf at h ⊢
  cases hg : gOk m es
  · simp [hg] at h
  · simp only [hg, if_true] at h ⊢
    unfold wE at h ⊢
    cases hf : es.find? (isE a b) with
    | none => simp [hf] at h
    | some e =>
      have hm := List.mem_of_find?_eq_some hf
      have hp := List.find?_some hf
      have := gOk_edges hg e hm
      unfold isE at hp
      simp only [Bool.and_eq_true, decide_eq_true_eq] at hp
      simp only [hf] at h ⊢
      omega
theorem dV_I {xs : List Int} (hI : ∀ z ∈ xs, I64 z) (v : Int) : I64 (dV xs v) := by
  unfold dV
  rw [List.getD_eq_getElem?_getD]
  by_cases h : v.toNat < xs.length
  · rw [List.getElem?_eq_getElem h]; exact hI _ (List.getElem_mem _)
  · rw [List.getElem?_eq_none (by omega)]; simp [I64]
def cSp (m : Int) (es : List E3) (s : Int) (vs fs : List Int) : Bool := es.all (Costs.eS (dV vs)) && (List.range vs.length).all (fun v : Nat => Costs.vS vs.length s (dV vs) (dV fs) (wOf m es) v)
theorem allR (n : Nat) (p : Int → Bool) : (List.range n).all (fun v : Nat => p v) = true ↔ ∀ v : Int, 0 ≤ v → v < (n : Int) → p v = true := by
  rw [List.all_eq_true]
  constructor
  · intro h v h0 h1
    have := h v.toNat (by simp; omega)
    rwa [show ((v.toNat : Nat) : Int) = v by omega] at this
  · intro h v hv
    exact h v (by omega) (by simp at hv; omega)
theorem cSp_cI {m : Int} {es : List E3} {s : Int} {vs fs : List Int} (hg : gOk m es = true) (hs : 0 ≤ s ∧ s < m) (hmn : (vs.length : Int) = m) (hI : ∀ z ∈ vs, I64 z) (h5 : dV vs s = 0) (h6 : dV fs s = -1) : cSp m es s vs fs = cI m es s vs fs := by
  have hm := gOk_m hg
  have hge := gOk_edges hg
  have g : Costs.Good vs.length s (dV vs) (dV fs) (wOf m es) := ⟨by omega, hs.1, by omega, h5, h6, fun v => by have := dV_I hI v; unfold I64 at this; omega, fun p v h => by have := wOf_in h; omega⟩
  have := Costs.same g es (fun e he => by have := hge e he; omega)
  unfold cSp cI
  rw [Bool.eq_iff_iff, Bool.and_eq_true, Bool.and_eq_true, allR vs.length (Costs.vS vs.length s (dV vs) (dV fs) (wOf m es)), allR vs.length (Costs.vI vs.length s (dV vs) (dV fs) (wOf m es)), List.all_eq_true, List.all_eq_true]
  exact this
theorem run_s (M : Nat) (s : Int) (d f : Int → Int) (w : Int → Int → Int) (n : Nat) (v : Int) : Costs.runS M s d f w (n + 1) v = (decide (v = s) || (Costs.stepS M d w v (f v) && Costs.runS M s d f w n (f v))) := rfl
theorem run_z (M : Nat) (s : Int) (d f : Int → Int) (w : Int → Int → Int) (v : Int) : Costs.runS M s d f w 0 v = decide (v = s) := rfl
theorem run_at (M : Nat) (s : Int) (d f : Int → Int) (w : Int → Int → Int) (n : Nat) : Costs.runS M s d f w n s = true := by cases n <;> simp [run_s, run_z]
end Go.Proofs.Ythjnidcmhegoeaa.Abs
