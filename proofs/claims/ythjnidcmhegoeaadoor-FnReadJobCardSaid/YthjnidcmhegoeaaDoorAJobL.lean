/- The laws of texts of jobs by states. No statement of the seat is proved here. -/
import Derived.Laws.StructEq
import Derived.Test.YthjnidcmhegoeaaDoorTy
import Derived.Lib.Hide
import Derived.Test.YthjnidcmhegoeaaDoorAStrK
import Derived.Test.YthjnidcmhegoeaaDoorJText
import Derived.Test.YthjnidcmhegoeaaDoorAJobD
set_option linter.unusedSimpArgs false
set_option linter.unusedVariables false
namespace Go.Proofs.YthjnidcmhegoeaaDoor.Abs
open Go.RowKit
open R (val row ref)

open Go.Lib (decDigits decDigits_one hasPrefix)
/-! ### alive -/
theorem byte_takeJ {xs : List Int} (h : Byte xs) (n : Nat) : Byte (xs.take n) := fun z hz => h z (List.mem_of_mem_take hz)
theorem f_bytesValidJ : Fn Tryd.prog 83 [.one (row false 1 [])] (.v (.one (bool true))) := by
  refine fn_of (l := [.tmp 2]) Tryd.func83 (by kernel_rfl) rfl Tryd.ntmps83 rfl rfl ?_; simp only [argEnv, P0.d, Nat.reduceAdd]
  repeat' (first | (with_reducible first | refine aw_seq ?_ | refine thn_normal ?_ | refine thn_ret ?_ | refine thn_exit ?_ | refine blk_normal ?_ | refine blk_ret ?_ | refine blk_hit ?_ | refine blk_miss rfl ?_ | refine aw_block ?_ | refine aw_ret ?_ | refine aw_skip ?_ | refine aw_exit ?_ | refine w_nil ?_ | refine x_nil (by kernel_rfl) ?_) | refine aw_region ?_ | refine aw_region_draw (by kernel_rfl) ?_ | refine aw_yes rfl ?_ | refine aw_no rfl ?_ | ((with_reducible refine w_seq ?_); first | refine r_q tbOk rfl rfl rfl rfl ?_ | refine r_e tbOk rfl rfl rfl rfl rfl ?_ | refine r_yes tbOk rfl rfl rfl rfl rfl rfl ?_ | refine w_no rfl rfl (lookO_spec rfl) rfl rfl rfl ?_ | refine w_un rfl rfl (lookO_spec rfl) rfl rfl ?_) | ((with_reducible refine w_drw ?_); first | refine rx_q tbOk rfl rfl rfl rfl ?_ | refine rx_e tbOk rfl rfl rfl rfl rfl ?_ | refine rx_yes tbOk rfl rfl rfl rfl rfl rfl ?_ | refine x_no rfl rfl (lookO_spec rfl) rfl rfl rfl ?_ | refine x_un rfl rfl (lookO_spec rfl) rfl rfl ?_) | ((first | refine aw_ways rfl ?_ ?_ | refine r_split rfl rfl rfl ?_ ?_) <;> intro hg_ <;> fail_if_success (exact Bool.noConfusion hg_)) <;> (try simp only [prn] at hg_) <;> (try first | contradiction | (exfalso; omega)))
  refine aw_loopI (fun _ : Nat => True) (fun _ => mkS 21 [(10, .one (.r true (int 0))), (9, .one (.r true (int 0)))] []) (fun _ => 0) 0 trivial (by (refine weak_ren [] rfl ?_ ?_ <;> repeat' (first | exact trivial | refine subR_cons rfl ?_ ?_ | refine subHR_cons rfl ?_ ?_ | rfl | (refine d_int ?_; (first | rfl | omega | (rw [IntWalk.i64_in _ (by omega)] <;> omega) | (simp; done) | (simp; omega))) | (refine d_bool ?_; (first | (simp_all; done) | (rw [Bool.eq_iff_iff]; simp_all; done) | (rw [Bool.eq_iff_iff]; simp_all; omega) | (rw [Bool.eq_iff_iff]; simp; omega)))))) ?_
  rintro _ _
  repeat' (first | (with_reducible first | refine aw_seq ?_ | refine thn_normal ?_ | refine thn_ret ?_ | refine thn_exit ?_ | refine blk_normal ?_ | refine blk_ret ?_ | refine blk_hit ?_ | refine blk_miss rfl ?_ | refine aw_block ?_ | refine aw_ret ?_ | refine aw_skip ?_ | refine aw_exit ?_ | refine w_nil ?_ | refine x_nil (by kernel_rfl) ?_) | refine aw_region ?_ | refine aw_region_draw (by kernel_rfl) ?_ | refine aw_yes rfl ?_ | refine aw_no rfl ?_ | ((with_reducible refine w_seq ?_); first | refine r_q tbOk rfl rfl rfl rfl ?_ | refine r_e tbOk rfl rfl rfl rfl rfl ?_ | refine r_yes tbOk rfl rfl rfl rfl rfl rfl ?_ | refine w_no rfl rfl (lookO_spec rfl) rfl rfl rfl ?_ | refine w_un rfl rfl (lookO_spec rfl) rfl rfl ?_) | ((with_reducible refine w_drw ?_); first | refine rx_q tbOk rfl rfl rfl rfl ?_ | refine rx_e tbOk rfl rfl rfl rfl rfl ?_ | refine rx_yes tbOk rfl rfl rfl rfl rfl rfl ?_ | refine x_no rfl rfl (lookO_spec rfl) rfl rfl rfl ?_ | refine x_un rfl rfl (lookO_spec rfl) rfl rfl ?_) | ((first | refine aw_ways rfl ?_ ?_ | refine r_split rfl rfl rfl ?_ ?_) <;> intro hg_ <;> fail_if_success (exact Bool.noConfusion hg_)) <;> (try simp only [prn] at hg_) <;> (try first | contradiction | (exfalso; omega)))
  all_goals first
    | exact ret_tmp rfl (dres_bool rfl)
    | (exfalso; simp at *; done)
    | trace_state
set_option maxRecDepth 100000 in
set_option maxHeartbeats 2000000 in
theorem f_checkSumJ : Fn Tryd.prog 52 [.one (row false 1 [])] (.v (iP 7)) := by
  refine fn_of (l := [.tmp 2]) Tryd.func52 (by kernel_rfl) rfl Tryd.ntmps52 rfl rfl ?_; simp only [argEnv, P0.d, Nat.reduceAdd]
  repeat' (first | (with_reducible first | refine aw_seq ?_ | refine thn_normal ?_ | refine thn_ret ?_ | refine thn_exit ?_ | refine blk_normal ?_ | refine blk_ret ?_ | refine blk_hit ?_ | refine blk_miss rfl ?_ | refine aw_block ?_ | refine aw_ret ?_ | refine aw_skip ?_ | refine aw_exit ?_ | refine w_nil ?_ | refine x_nil (by kernel_rfl) ?_) | refine aw_region ?_ | refine aw_region_draw (by kernel_rfl) ?_ | refine aw_yes rfl ?_ | refine aw_no rfl ?_ | ((with_reducible refine w_seq ?_); first | refine r_q tbOk rfl rfl rfl rfl ?_ | refine r_e tbOk rfl rfl rfl rfl rfl ?_ | refine r_yes tbOk rfl rfl rfl rfl rfl rfl ?_ | refine w_no rfl rfl (lookO_spec rfl) rfl rfl rfl ?_ | refine w_un rfl rfl (lookO_spec rfl) rfl rfl ?_) | ((with_reducible refine w_drw ?_); first | refine rx_q tbOk rfl rfl rfl rfl ?_ | refine rx_e tbOk rfl rfl rfl rfl rfl ?_ | refine rx_yes tbOk rfl rfl rfl rfl rfl rfl ?_ | refine x_no rfl rfl (lookO_spec rfl) rfl rfl rfl ?_ | refine x_un rfl rfl (lookO_spec rfl) rfl rfl ?_) | ((first | refine' w_q rfl rfl ?xa rfl ?_ | refine' v_q rfl rfl ?xa rfl ?_ | refine' w_yes rfl rfl (lookO_spec rfl) rfl ?xa rfl ?_ | refine' v_yes rfl rfl (lookO_spec rfl) rfl ?xa rfl ?_); case xa => exact k_call f_bytesValidJ rfl ⟨asA_r (evO_spec rfl), trivial⟩) | ((first | refine aw_ways rfl ?_ ?_ | refine r_split rfl rfl rfl ?_ ?_) <;> intro hg_ <;> fail_if_success (exact Bool.noConfusion hg_)) <;> (try simp only [prn] at hg_) <;> (try first | contradiction | (exfalso; omega)))
  refine aw_loopI (fun _ : Nat => True) (fun _ => mkS 23 [(11, .one (.r true (int 0))), (10, .one (.r true (int 0))), (3, .one (.r true (int 7)))] []) (fun _ => 0) 0 trivial (by (refine weak_ren [] rfl ?_ ?_ <;> repeat' (first | exact trivial | refine subR_cons rfl ?_ ?_ | refine subHR_cons rfl ?_ ?_ | rfl | (refine d_int ?_; (first | rfl | omega | (rw [IntWalk.i64_in _ (by omega)] <;> omega) | (simp; done) | (simp; omega))) | (refine d_bool ?_; (first | (simp_all; done) | (rw [Bool.eq_iff_iff]; simp_all; done) | (rw [Bool.eq_iff_iff]; simp_all; omega) | (rw [Bool.eq_iff_iff]; simp; omega)))))) ?_
  rintro _ _
  repeat' (first | (with_reducible first | refine aw_seq ?_ | refine thn_normal ?_ | refine thn_ret ?_ | refine thn_exit ?_ | refine blk_normal ?_ | refine blk_ret ?_ | refine blk_hit ?_ | refine blk_miss rfl ?_ | refine aw_block ?_ | refine aw_ret ?_ | refine aw_skip ?_ | refine aw_exit ?_ | refine w_nil ?_ | refine x_nil (by kernel_rfl) ?_) | refine aw_region ?_ | refine aw_region_draw (by kernel_rfl) ?_ | refine aw_yes rfl ?_ | refine aw_no rfl ?_ | ((with_reducible refine w_seq ?_); first | refine r_q tbOk rfl rfl rfl rfl ?_ | refine r_e tbOk rfl rfl rfl rfl rfl ?_ | refine r_yes tbOk rfl rfl rfl rfl rfl rfl ?_ | refine w_no rfl rfl (lookO_spec rfl) rfl rfl rfl ?_ | refine w_un rfl rfl (lookO_spec rfl) rfl rfl ?_) | ((with_reducible refine w_drw ?_); first | refine rx_q tbOk rfl rfl rfl rfl ?_ | refine rx_e tbOk rfl rfl rfl rfl rfl ?_ | refine rx_yes tbOk rfl rfl rfl rfl rfl rfl ?_ | refine x_no rfl rfl (lookO_spec rfl) rfl rfl rfl ?_ | refine x_un rfl rfl (lookO_spec rfl) rfl rfl ?_) | ((first | refine aw_ways rfl ?_ ?_ | refine r_split rfl rfl rfl ?_ ?_) <;> intro hg_ <;> fail_if_success (exact Bool.noConfusion hg_)) <;> (try simp only [prn] at hg_) <;> (try first | contradiction | (exfalso; omega)))
  all_goals first
    | exact ret_tmp rfl (dres_int rfl)
    | (exfalso; simp at *; done)
    | trace_state
set_option maxRecDepth 100000 in
set_option maxHeartbeats 2000000 in
theorem f_aliveJ : Fn Tryd.prog 16 [] (.v (.one (bool true))) := by
  refine fn_of (l := [.tmp 0]) Tryd.func16 (by kernel_rfl) rfl Tryd.ntmps16 rfl rfl ?_; simp only [argEnv, P0.d, Nat.reduceAdd]
  repeat' (first | (with_reducible first | refine aw_seq ?_ | refine thn_normal ?_ | refine thn_ret ?_ | refine thn_exit ?_ | refine blk_normal ?_ | refine blk_ret ?_ | refine blk_hit ?_ | refine blk_miss rfl ?_ | refine aw_block ?_ | refine aw_ret ?_ | refine aw_skip ?_ | refine aw_exit ?_ | refine w_nil ?_ | refine x_nil (by kernel_rfl) ?_) | refine aw_region ?_ | refine aw_region_draw (by kernel_rfl) ?_ | refine aw_yes rfl ?_ | refine aw_no rfl ?_ | ((with_reducible refine w_seq ?_); first | refine r_q tbOk rfl rfl rfl rfl ?_ | refine r_e tbOk rfl rfl rfl rfl rfl ?_ | refine r_yes tbOk rfl rfl rfl rfl rfl rfl ?_ | refine w_no rfl rfl (lookO_spec rfl) rfl rfl rfl ?_ | refine w_un rfl rfl (lookO_spec rfl) rfl rfl ?_) | ((with_reducible refine w_drw ?_); first | refine rx_q tbOk rfl rfl rfl rfl ?_ | refine rx_e tbOk rfl rfl rfl rfl rfl ?_ | refine rx_yes tbOk rfl rfl rfl rfl rfl rfl ?_ | refine x_no rfl rfl (lookO_spec rfl) rfl rfl rfl ?_ | refine x_un rfl rfl (lookO_spec rfl) rfl rfl ?_) | ((first | refine' w_q rfl rfl ?xa rfl ?_ | refine' v_q rfl rfl ?xa rfl ?_ | refine' w_yes rfl rfl (lookO_spec rfl) rfl ?xa rfl ?_ | refine' v_yes rfl rfl (lookO_spec rfl) rfl ?xa rfl ?_); case xa => exact k_call f_checkSumJ rfl ⟨by rw [evO_spec rfl]; exact cAr_own0 (lookHO_spec rfl) rfl, trivial⟩) | ((first | refine' w_e rfl ?xa ?xb ?xc ?xe ?_ | refine' v_e rfl ?xa ?xb ?xc ?xe ?_); (case xa => exact e_build [] tlOk rfl rfl rfl rfl rfl rfl (by simp [AllN]) (by simp)); (case xb => rfl); (case xc => rfl); (case xe => rfl); try dsimp only [P0.d, Res.d, List.map_cons, List.map_nil, List.set_cons_zero, List.set_cons_succ, Nat.reduceAdd]) | ((first | refine aw_ways rfl ?_ ?_ | refine r_split rfl rfl rfl ?_ ?_) <;> intro hg_ <;> fail_if_success (exact Bool.noConfusion hg_)) <;> (try simp only [prn] at hg_) <;> (try first | contradiction | (exfalso; omega)))
  all_goals first
    | exact ret_tmp rfl (dres_bool rfl)
    | trace_state
/-! ### equal jobs -/
theorem eqPrS (d : Nat) (a b c : Int) (w : World) : (Op.equalIn (d + 2) 27 (.agg #[.int .i64 a, .int .i64 b, .int .i64 c]) (.agg #[.int .i64 a, .int .i64 b, .int .i64 c])).run Tryd.prog w = .ok true w := by
  have u3 := Tryd.underlying3
  have a3 := Tryd.isAgg3
  have z3 := Tryd.sizeOf3
  have hS : Tryd.prog.underlying 27 = some (.struct (Tryd.prog.fieldsOf 27)) := by kernel_rfl
  have hp : Tryd.prog.stoodInHeld 27 = false := by kernel_rfl
  rw [run_equalIn_agg w (d + 1) 27 _ _ hS hp]
  simp only [Program.fieldsOf, Tryd.underlying27]
  go_simp
theorem eqJobS (a b c n : Int) (w : World) : (Op.equalIn 10000 29 (.agg #[.int .i64 a, .int .i64 b, .int .i64 c, .int .i64 n]) (.agg #[.int .i64 a, .int .i64 b, .int .i64 c, .int .i64 n])).run Tryd.prog w = .ok true w := by
  have u3 := Tryd.underlying3
  have a3 := Tryd.isAgg3
  have z3 := Tryd.sizeOf3
  have a4 := Tryd.isAgg27
  have z4 := Tryd.sizeOf27
  have hS : Tryd.prog.underlying 29 = some (.struct (Tryd.prog.fieldsOf 29)) := by kernel_rfl
  have hp : Tryd.prog.stoodInHeld 29 = false := by kernel_rfl
  have hP := fun w => eqPrS 9997 a b c w
  rw [show (10000 : Nat) = 9999 + 1 from rfl, run_equalIn_agg w 9999 29 _ _ hS hp]
  simp only [Program.fieldsOf, Tryd.underlying29]
  go_simp
theorem agg4 {vs : List Value} {a b c d : Value} (n : vs.length = 4) (h0 : vs[0]? = some a) (h1 : vs[1]? = some b) (h2 : vs[2]? = some c) (h3 : vs[3]? = some d) : vs = [a, b, c, d] := by
  match vs, n with
  | [p, q, r, s], _ => simp at h0 h1 h2 h3; rw [h0, h1, h2, h3]
theorem job_ev {ι : Nat → Nat × Nat} {base : Nat} {c : Cx} {v : Value} {m1 m2 m3 m4 : Bool} {a b d n : Int} (h : (D.agg [.r m1 (int a), .r m2 (int b), .r m3 (int d), .r m4 (int n)]).p ι base c v) : v = .agg #[.int .i64 a, .int .i64 b, .int .i64 d, .int .i64 n] := by
  obtain ⟨vs, e1, n1, g1⟩ := h
  obtain ⟨v0, q0, r0⟩ := g1 0 _ rfl
  obtain ⟨v1, q1, r1⟩ := g1 1 _ rfl
  obtain ⟨v2, q2, r2⟩ := g1 2 _ rfl
  obtain ⟨v3, q3, r3⟩ := g1 3 _ rfl
  have s0 := (val_p.1 r0).1
  have s1 := (val_p.1 r1).1
  have s2 := (val_p.1 r2).1
  have s3 := (val_p.1 r3).1
  rw [e1, agg4 n1 q0 q1 q2 q3, s0, s1, s2, s3]
section
variable {l : List (Nat × D)} {h : List (Nat × Ob)} {o : Oper} {m1 m2 m3 m4 m5 m6 m7 m8 : Bool} {a b c n : Int} {t' : TypeId} {x y : Operand}
theorem k_jobEq (ho : o.op = .binOp .eql 29 x y t') (hx : evO l x = some (.agg [.r m1 (int a), .r m2 (int b), .r m3 (int c), .r m4 (int n)])) (hy : evO l y = some (.agg [.r m5 (int a), .r m6 (int b), .r m7 (int c), .r m8 (int n)])) : Loc Tryd.prog (lookH h) (evD (look l)) o (.one (.r true (bool true))) :=
  loc_run fun base ac w ι own hw he hH => by
    have h1 := he x (by rw [ho]; simp [Op.operands])
    have h2 := he y (by rw [ho]; simp [Op.operands])
    rw [evO_spec hx] at h1
    rw [evO_spec hy] at h2
    have e1 := job_ev h1
    have e2 := job_ev h2
    have hm : Tryd.prog.eqGuardType Tryd.prog.depth 29 = false := by kernel_rfl
    refine ⟨.bool true, ?_, rfl, rfl⟩
    unfold execOp
    rw [ho]
    simp only [e1, e2, eqGuard, binOp]
    simp [hm, Op.equal, Op.maxDepth, eqJobS]
theorem k_jobNe (ho : o.op = .binOp .neq 29 x y t') (hx : evO l x = some (.agg [.r m1 (int a), .r m2 (int b), .r m3 (int c), .r m4 (int n)])) (hy : evO l y = some (.agg [.r m5 (int a), .r m6 (int b), .r m7 (int c), .r m8 (int n)])) : Loc Tryd.prog (lookH h) (evD (look l)) o (.one (.r true (bool false))) :=
  loc_run fun base ac w ι own hw he hH => by
    have h1 := he x (by rw [ho]; simp [Op.operands])
    have h2 := he y (by rw [ho]; simp [Op.operands])
    rw [evO_spec hx] at h1
    rw [evO_spec hy] at h2
    have e1 := job_ev h1
    have e2 := job_ev h2
    have hm : Tryd.prog.eqGuardType Tryd.prog.depth 29 = false := by kernel_rfl
    refine ⟨.bool false, ?_, rfl, rfl⟩
    unfold execOp
    rw [ho]
    simp only [e1, e2, eqGuard, binOp]
    simp [hm, Op.equal, Op.maxDepth, eqJobS]
theorem k_loadStr {P : Program} {tb : TB} {T E : TypeId} {k i : Nat} {new : Bool} {xs : List (List UInt8)} (hT : TbOk P tb) (ho : o.op = .load T x) (hx : evO l x = some (.one (.ptr k i 1 0))) (hk : lookHO h k = some (.sl E 1 new (xs.map strP))) (hty : tyL tb.tys T = some (false, 1)) (hi : i < xs.length) :
    Loc P (lookH h) (evD (look l)) o (.one (.r new (val (strV (xs.getD i []))))) := k_loadS (y := strP (xs.getD i [])) (e := strP (xs.getD i [])) hT ho hx hk hty (by rw [List.getElem?_map, List.getElem?_eq_getElem hi, List.getD_eq_getElem?_getD, List.getElem?_eq_getElem hi]; rfl) rfl (Nat.le_refl 1) (.inr rfl)
end
theorem strs_allN (xs : List (List UInt8)) : AllN 1 (xs.map strP) := fun i e he => by
  obtain ⟨x, _, rfl⟩ := List.mem_map.1 (List.mem_of_getElem? he)
  rfl
theorem k_strAddE {P : Program} {l : List (Nat × D)} {h : List (Nat × Ob)} {o : Oper} {m m' : Bool} {p q z : List UInt8} {T t' : TypeId} {x y : Operand} (hz : p ++ q = z) (ho : o.op = .binOp .add T x y t') (hx : evO l x = some (.one (.r m (val (strV p))))) (hy : evO l y = some (.one (.r m' (val (strV q))))) (hp : p.length ≤ 8388608) (hq : q.length ≤ 8388608) : Loc P (lookH h) (evD (look l)) o (.one (.r true (val (strV z)))) := hz ▸ k_strAdd ho hx hy hp hq
/-! ### texts -/
/-- The text of a job; none for other jobs. -/
def txJ (k s r n : Int) : List UInt8 := if jobOk k s r n = true then jobB k s r n else []
theorem txJ_len (k s r n : Int) : (txJ k s r n).length ≤ 60 := by
  unfold txJ
  split
  · rename_i h
    obtain ⟨_, hn, m, h0, h1, hs, hr, _⟩ := kinds h
    have hk := kindB_len k
    have h5 := dig_bd (n := n.toNat) (by omega)
    have hsN : s.toNat ≤ 100000 := by rw [hs]; split <;> omega
    have hrN : r.toNat ≤ 100000 := by rw [hr]; split <;> omega
    have h6 := dig_bd hsN
    have h7 := dig_bd hrN
    have hm : (midB k s r).length ≤ 9 := by
      unfold midB
      split
      · simp only [List.length_cons]; omega
      · split
        · simp only [List.length_cons]; omega
        · simp
    unfold jobB withB
    simp only [List.length_append, List.length_cons, List.length_nil]
    omega
  · simp
theorem f_specText (k s r n : Int) : Fn Tryd.prog 11 [jobP k s r n] (.v (strP (txJ k s r n))) := by
  unfold txJ
  cases hj : jobOk k s r n with
  | true => rw [if_pos rfl]; exact f_specTextY k s r n hj
  | false => rw [if_neg (by simp)]; exact f_specTextN k s r n hj
theorem job_arg {w : World} {own : Nat → Prop} {v : Value} {k s r n : Int} (h : (jobP k s r n).p ⟨w, own⟩ v) : v = .agg #[.int .i64 k, .int .i64 s, .int .i64 r, .int .i64 n] := by
  obtain ⟨vs, e1, n1, g1⟩ := h
  obtain ⟨v0, q0, r0⟩ := g1 0 _ rfl
  obtain ⟨v1, q1, r1⟩ := g1 1 _ rfl
  obtain ⟨v2, q2, r2⟩ := g1 2 _ rfl
  obtain ⟨v3, q3, r3⟩ := g1 3 _ rfl
  have s0 := (val_p.1 r0).1
  have s1 := (val_p.1 r1).1
  have s2 := (val_p.1 r2).1
  have s3 := (val_p.1 r3).1
  rw [e1, agg4 n1 q0 q1 q2 q3, s0, s1, s2, s3]
theorem jText (k s r n : Int) (w : World) : Calls Tryd.prog 13 #[.agg #[.int .i64 k, .int .i64 s, .int .i64 r, .int .i64 n]] w fun e w' => e = .returned (.string ⟨(txJ k s r n).toArray⟩) ∧ Below w.heap.size w w' := by
  unfold txJ
  cases hj : jobOk k s r n with
  | false => rw [if_neg (by simp)]; exact jTextN k s r n w hj
  | true =>
    rw [if_pos rfl]
    have hk := jobOk_kind hj
    have : k = 1 ∨ k = 2 ∨ k = 3 ∨ k = 4 ∨ k = 5 ∨ k = 6 := by omega
    rcases this with rfl | rfl | rfl | rfl | rfl | rfl
    · exact jText1 s r n w hj
    · exact jText2 s r n w hj
    · exact jText3 s r n w hj
    · exact jText4 s r n w hj
    · exact jText5 s r n w hj
    · exact jText6 s r n w hj
theorem f_implText (k s r n : Int) : Fn Tryd.prog 13 [jobP k s r n] (.v (strP (txJ k s r n))) := by
  refine ⟨ent_of Tryd.func13 (by kernel_rfl) rfl, fun w vs _ hA => ?_⟩
  match vs, hA with
  | [v], ⟨h1, _⟩ =>
    obtain rfl := job_arg h1
    refine (jText k s r n w).mono ?_
    rintro e w' ⟨rfl, hb⟩
    exact ⟨_, rfl, (val_p (c := ⟨w', fun b => b < w.heap.size⟩)).2 ⟨rfl, rfl⟩, hb⟩
/-! ### draws -/
set_option maxRecDepth 100000 in
set_option maxHeartbeats 8000000 in
theorem l20JobText_ex (bs : List Int) (p : Int) (hB : Byte bs) (hl : bs.length ≤ 2000) (hp0 : 0 ≤ p) (hp : p ≤ 700000) : ∃ (X : List UInt8) (p' : Int), X.length ≤ 100 ∧ ∀ m1 m2 nb, FnS Tryd.prog 54 [.one (.ptr 1000000000 0 0 0)] (rdH 1000000000 m1 m2 nb bs p) (.one (.r true (val (strV X)))) (rdH 1000000000 m1 true nb bs p') := by
  obtain ⟨k, s, r, w, q, hq, K1⟩ := l20Job_ex bs p 0 hB hl hp0 hp (by omega) (by omega)
  have KT := f_specText k s r w
  have hT := txJ_len k s r w
  have KO := fun m1 nb => f_odd (bs := bs) q 4 (by omega) (by omega) hB hl (by omega) (by omega) m1 true nb
  have KP := fun m1 nb => f_pick (bs := bs) (q + 1) 12 hB hl (by omega) (by omega) m1 true nb
  have hv := pickV_in bs (q + 1) 12
  generalize txJ k s r w = T at *
  generalize oddV bs q 4 = od at *
  generalize pickV bs (q + 1) 12 = v at *
  cases od with
  | false =>
    refine ⟨T, q + 1, by omega, fun m1 m2 nb => ?_⟩
    have K1 := K1 m1 m2 nb
    have KO := KO m1 nb
    clear KP
    unfold rdH at *
    refine fnS_of (l := [.tmp 2]) Tryd.func54 (by kernel_rfl) rfl Tryd.ntmps54 rfl rfl ?_; simp only [dEnv, Nat.reduceAdd]
    repeat' (first | (with_reducible first | refine aw_seq ?_ | refine thn_normal ?_ | refine thn_ret ?_ | refine thn_exit ?_ | refine blk_normal ?_ | refine blk_ret ?_ | refine blk_hit ?_ | refine blk_miss rfl ?_ | refine aw_block ?_ | refine aw_ret ?_ | refine aw_skip ?_ | refine aw_exit ?_ | refine w_nil ?_ | refine x_nil (by kernel_rfl) ?_) | refine aw_region ?_ | refine aw_region_draw (by kernel_rfl) ?_ | refine aw_yes rfl ?_ | refine aw_no rfl ?_ | ((with_reducible refine w_seq ?_); first | refine r_q tbOk rfl rfl rfl rfl ?_ | refine r_e tbOk rfl rfl rfl rfl rfl ?_ | refine r_yes tbOk rfl rfl rfl rfl rfl rfl ?_ | refine w_no rfl rfl (lookO_spec rfl) rfl rfl rfl ?_ | refine w_un rfl rfl (lookO_spec rfl) rfl rfl ?_) | ((with_reducible refine w_drw ?_); first | refine rx_q tbOk rfl rfl rfl rfl ?_ | refine rx_e tbOk rfl rfl rfl rfl rfl ?_ | refine rx_yes tbOk rfl rfl rfl rfl rfl rfl ?_ | refine x_no rfl rfl (lookO_spec rfl) rfl rfl rfl ?_ | refine x_un rfl rfl (lookO_spec rfl) rfl rfl ?_) | ((first | refine' w_q rfl rfl ?xa rfl ?_ | refine' v_q rfl rfl ?xa rfl ?_ | refine' w_yes rfl rfl (lookO_spec rfl) rfl ?xa rfl ?_ | refine' v_yes rfl rfl (lookO_spec rfl) rfl ?xa rfl ?_); case xa => exact k_call KT rfl ⟨asA_agg (evO_spec rfl) ⟨cAr_r, cAr_r, cAr_r, cAr_r, trivial⟩, trivial⟩) | ((first | refine' w_e rfl ?xa ?xb ?xc ?xe ?_ | refine' v_e rfl ?xa ?xb ?xc ?xe ?_); (case xa => first | exact at_dst 5 rfl (e_callS [] K1 rfl ⟨asD_ren (evO_spec rfl), by rw [evO_spec rfl]; exact asD_r rfl, trivial⟩ (by (repeat' (first | exact trivial | refine subHR_cons rfl ?_ ?_ | rfl))) rfl) | exact at_dst 8 rfl (e_callS [] KO rfl ⟨asD_ren (evO_spec rfl), by rw [evO_spec rfl]; exact asD_r rfl, trivial⟩ (by (repeat' (first | exact trivial | refine subHR_cons rfl ?_ ?_ | rfl))) rfl)); (case xb => rfl); (case xc => rfl); (case xe => rfl); try dsimp only [P0.d, Res.d, List.map_cons, List.map_nil, List.set_cons_zero, List.set_cons_succ, Nat.reduceAdd]) | ((first | refine aw_ways rfl ?_ ?_ | refine r_split rfl rfl rfl ?_ ?_) <;> intro hg_ <;> fail_if_success (exact Bool.noConfusion hg_)) <;> (try simp only [prn] at hg_) <;> (try first | contradiction | (exfalso; omega)))
    all_goals first
      | exact ret_D [] rfl (by (repeat' (first | exact trivial | refine subHR_cons rfl ?_ ?_ | rfl))) (retD_tmp rfl (imp_refl rfl))
      | trace_state
  | true =>
    obtain ⟨L, hL⟩ : ∃ L : List (List UInt8), L = [[], [104, 111, 112, 115, 32, 119, 105, 116, 104, 32, 49], [104, 111, 112, 115, 32, 48, 51, 32, 119, 105, 116, 104, 32, 49], [112, 97, 114, 116, 115, 32, 49, 32, 119, 105, 116, 104, 32, 49], [108, 97, 98, 101, 108, 115, 32, 48, 32, 119, 105, 116, 104, 32, 49], [99, 111, 114, 101, 115, 32, 50, 49, 32, 119, 105, 116, 104, 32, 50], T ++ [32], [32] ++ T, [104, 111, 112, 115, 32, 49, 54, 32, 119, 105, 116, 104, 32, 49], [104, 111, 112, 115, 32, 49, 32, 119, 105, 116, 104, 32, 48], [112, 97, 114, 116, 115, 32, 119, 105, 116, 104, 32, 55], [104, 111, 112, 115, 32, 49]] := ⟨_, rfl⟩
    have hLl : ∀ x ∈ L, x.length ≤ 100 := fun x hx => by
      rw [hL] at hx
      simp only [List.mem_cons, List.not_mem_nil, or_false] at hx
      rcases hx with rfl | rfl | rfl | rfl | rfl | rfl | rfl | rfl | rfl | rfl | rfl | rfl <;> simp only [List.length_append, List.length_cons, List.length_nil] <;> omega
    have hL12 : L.length = 12 := by rw [hL]; rfl
    refine ⟨L.getD v.toNat [], q + 1 + 1, ?_, fun m1 m2 nb => ?_⟩
    · rw [List.getD_eq_getElem?_getD, List.getElem?_eq_getElem (show v.toNat < L.length by omega)]
      exact hLl _ (List.getElem_mem _)
    have K1 := K1 m1 m2 nb
    have KO := KO m1 nb
    have KP := KP m1 nb
    have hA := strs_allN L
    clear hLl
    unfold rdH at *
    subst hL
    refine fnS_of (l := [.tmp 2]) Tryd.func54 (by kernel_rfl) rfl Tryd.ntmps54 rfl rfl ?_; simp only [dEnv, Nat.reduceAdd]
    repeat' (first | (with_reducible first | refine aw_seq ?_ | refine thn_normal ?_ | refine thn_ret ?_ | refine thn_exit ?_ | refine blk_normal ?_ | refine blk_ret ?_ | refine blk_hit ?_ | refine blk_miss rfl ?_ | refine aw_block ?_ | refine aw_ret ?_ | refine aw_skip ?_ | refine aw_exit ?_ | refine w_nil ?_ | refine x_nil (by kernel_rfl) ?_) | refine aw_region ?_ | refine aw_region_draw (by kernel_rfl) ?_ | refine aw_yes rfl ?_ | refine aw_no rfl ?_ | ((with_reducible refine w_seq ?_); first | refine r_q tbOk rfl rfl rfl rfl ?_ | refine r_e tbOk rfl rfl rfl rfl rfl ?_ | refine r_yes tbOk rfl rfl rfl rfl rfl rfl ?_ | refine w_no rfl rfl (lookO_spec rfl) rfl rfl rfl ?_ | refine w_un rfl rfl (lookO_spec rfl) rfl rfl ?_) | ((with_reducible refine w_drw ?_); first | refine rx_q tbOk rfl rfl rfl rfl ?_ | refine rx_e tbOk rfl rfl rfl rfl rfl ?_ | refine rx_yes tbOk rfl rfl rfl rfl rfl rfl ?_ | refine x_no rfl rfl (lookO_spec rfl) rfl rfl rfl ?_ | refine x_un rfl rfl (lookO_spec rfl) rfl rfl ?_) | ((first | refine' w_q rfl rfl ?xa rfl ?_ | refine' v_q rfl rfl ?xa rfl ?_ | refine' w_yes rfl rfl (lookO_spec rfl) rfl ?xa rfl ?_ | refine' v_yes rfl rfl (lookO_spec rfl) rfl ?xa rfl ?_); case xa => first | exact k_call KT rfl ⟨asA_agg (evO_spec rfl) ⟨cAr_r, cAr_r, cAr_r, cAr_r, trivial⟩, trivial⟩ | exact k_strAdd rfl rfl rfl (by (try simp only [List.length_append, List.length_cons, List.length_nil]); omega) (by (try simp only [List.length_append, List.length_cons, List.length_nil]); omega) | exact k_indexO tbOk rfl rfl rfl rfl (by omega) (by simp only [List.length_cons, List.length_nil]; omega) | exact k_loadStr (xs := [[], [104, 111, 112, 115, 32, 119, 105, 116, 104, 32, 49], [104, 111, 112, 115, 32, 48, 51, 32, 119, 105, 116, 104, 32, 49], [112, 97, 114, 116, 115, 32, 49, 32, 119, 105, 116, 104, 32, 49], [108, 97, 98, 101, 108, 115, 32, 48, 32, 119, 105, 116, 104, 32, 49], [99, 111, 114, 101, 115, 32, 50, 49, 32, 119, 105, 116, 104, 32, 50], T ++ [32], [32] ++ T, [104, 111, 112, 115, 32, 49, 54, 32, 119, 105, 116, 104, 32, 49], [104, 111, 112, 115, 32, 49, 32, 119, 105, 116, 104, 32, 48], [112, 97, 114, 116, 115, 32, 119, 105, 116, 104, 32, 55], [104, 111, 112, 115, 32, 49]]) tbOk rfl rfl rfl rfl (by simp only [List.length_cons, List.length_nil]; omega)) | ((first | refine' w_e rfl ?xa ?xb ?xc ?xe ?_ | refine' v_e rfl ?xa ?xb ?xc ?xe ?_); (case xa => first | exact at_dst 5 rfl (e_callS [] K1 rfl ⟨asD_ren (evO_spec rfl), by rw [evO_spec rfl]; exact asD_r rfl, trivial⟩ (by (repeat' (first | exact trivial | refine subHR_cons rfl ?_ ?_ | rfl))) rfl) | exact at_dst 8 rfl (e_callS [] KO rfl ⟨asD_ren (evO_spec rfl), by rw [evO_spec rfl]; exact asD_r rfl, trivial⟩ (by (repeat' (first | exact trivial | refine subHR_cons rfl ?_ ?_ | rfl))) rfl) | exact at_dst 15 rfl (e_callS [] KP rfl ⟨asD_ren (evO_spec rfl), by rw [evO_spec rfl]; exact asD_r rfl, trivial⟩ (by (repeat' (first | exact trivial | refine subHR_cons rfl ?_ ?_ | rfl))) rfl) | exact e_build [.const (.string ⟨#[]⟩), .const (.string ⟨#[104, 111, 112, 115, 32, 119, 105, 116, 104, 32, 49]⟩), .const (.string ⟨#[104, 111, 112, 115, 32, 48, 51, 32, 119, 105, 116, 104, 32, 49]⟩), .const (.string ⟨#[112, 97, 114, 116, 115, 32, 49, 32, 119, 105, 116, 104, 32, 49]⟩), .const (.string ⟨#[108, 97, 98, 101, 108, 115, 32, 48, 32, 119, 105, 116, 104, 32, 49]⟩), .const (.string ⟨#[99, 111, 114, 101, 115, 32, 50, 49, 32, 119, 105, 116, 104, 32, 50]⟩), .tmp 10, .tmp 12, .const (.string ⟨#[104, 111, 112, 115, 32, 49, 54, 32, 119, 105, 116, 104, 32, 49]⟩), .const (.string ⟨#[104, 111, 112, 115, 32, 49, 32, 119, 105, 116, 104, 32, 48]⟩), .const (.string ⟨#[112, 97, 114, 116, 115, 32, 119, 105, 116, 104, 32, 55]⟩), .const (.string ⟨#[104, 111, 112, 115, 32, 49]⟩)] tlOk rfl rfl rfl rfl rfl rfl hA (by simp)); (case xb => rfl); (case xc => rfl); (case xe => rfl); try dsimp only [P0.d, Res.d, List.map_cons, List.map_nil, List.set_cons_zero, List.set_cons_succ, Nat.reduceAdd]) | ((first | refine aw_ways rfl ?_ ?_ | refine r_split rfl rfl rfl ?_ ?_) <;> intro hg_ <;> fail_if_success (exact Bool.noConfusion hg_)) <;> (try simp only [prn] at hg_) <;> (try first | contradiction | (exfalso; omega)))
    all_goals first
      | exact ret_D [] rfl (by (repeat' (first | exact trivial | refine subHR_cons rfl ?_ ?_ | rfl))) (retD_tmp rfl (imp_refl (by simp only [Nat.zero_add]; rfl)))
      | trace_state
set_option maxRecDepth 100000 in
set_option maxHeartbeats 2000000 in
theorem f_drawJobText (nb : Bool) (code : List Int) (hB : Byte code) (hl : code.length ≤ 1048576) : ∃ k s r n : Int, Fn Tryd.prog 14 [.one (row nb 1 (bys code))] (.v (jobP k s r n)) := by
  have K0 := f_open nb code hl
  have hB2 := byte_takeJ hB 2000
  have hl2 : (code.take 2000).length ≤ 2000 := by rw [List.length_take]; omega
  obtain ⟨k, s, r, n, p', _, KG⟩ := l20Job_ex (code.take 2000) 0 6 hB2 hl2 (by omega) (by omega) (by omega) (by omega)
  refine ⟨k, s, r, n, ?_⟩
  have KG := KG false true nb
  generalize code.take 2000 = bs at *
  unfold rdH at *
  refine fn_of (l := [.cell 2 29]) Tryd.func14 (by kernel_rfl) rfl Tryd.ntmps14 rfl rfl ?_; simp only [argEnv, P0.d, Nat.reduceAdd]
  repeat' (first | (with_reducible first | refine aw_seq ?_ | refine thn_normal ?_ | refine thn_ret ?_ | refine thn_exit ?_ | refine blk_normal ?_ | refine blk_ret ?_ | refine blk_hit ?_ | refine blk_miss rfl ?_ | refine aw_block ?_ | refine aw_ret ?_ | refine aw_skip ?_ | refine aw_exit ?_ | refine w_nil ?_ | refine x_nil (by kernel_rfl) ?_) | refine aw_region ?_ | refine aw_region_draw (by kernel_rfl) ?_ | refine aw_yes rfl ?_ | refine aw_no rfl ?_ | ((with_reducible refine w_seq ?_); first | refine r_q tbOk rfl rfl rfl rfl ?_ | refine r_e tbOk rfl rfl rfl rfl rfl ?_ | refine r_yes tbOk rfl rfl rfl rfl rfl rfl ?_ | refine w_no rfl rfl (lookO_spec rfl) rfl rfl rfl ?_ | refine w_un rfl rfl (lookO_spec rfl) rfl rfl ?_) | ((with_reducible refine w_drw ?_); first | refine rx_q tbOk rfl rfl rfl rfl ?_ | refine rx_e tbOk rfl rfl rfl rfl rfl ?_ | refine rx_yes tbOk rfl rfl rfl rfl rfl rfl ?_ | refine x_no rfl rfl (lookO_spec rfl) rfl rfl rfl ?_ | refine x_un rfl rfl (lookO_spec rfl) rfl rfl ?_) | ((first | refine' w_e rfl ?xa ?xb ?xc ?xe ?_ | refine' v_e rfl ?xa ?xb ?xc ?xe ?_); (case xa => first | exact e_callS [(2000001, 600)] K0 rfl ⟨by rw [evO_spec rfl]; exact asD_r rfl, trivial⟩ trivial rfl | exact at_dst 5 rfl (e_callS [(1000000000, 600)] KG rfl ⟨asD_ren (evO_spec rfl), by rw [evO_spec rfl]; exact asD_r rfl, trivial⟩ (by (repeat' (first | exact trivial | refine subHR_cons rfl ?_ ?_ | rfl))) rfl)); (case xb => rfl); (case xc => rfl); (case xe => rfl); try dsimp only [P0.d, Res.d, List.map_cons, List.map_nil, List.set_cons_zero, List.set_cons_succ, Nat.reduceAdd]) | ((first | refine aw_ways rfl ?_ ?_ | refine r_split rfl rfl rfl ?_ ?_) <;> intro hg_ <;> fail_if_success (exact Bool.noConfusion hg_)) <;> (try simp only [prn] at hg_) <;> (try first | contradiction | (exfalso; omega)))
  all_goals first
    | exact ret_v (rv_cell rfl rfl (by (with_reducible first | exact ty2 | exact ty3 | exact ty4 | exact ty5 | exact ty9 | exact ty17 | exact ty19 | exact ty20 | exact ty23 | exact ty25 | exact ty27 | exact ty29 | exact ty32 | exact ty40 | exact ty42 | exact ty44 | exact ty46 | exact ty48 | exact ty63 | exact ty65 | exact ty67 | exact ty70 | exact ty74 | exact ty85 | exact ty89 | exact ty91 | exact ty92 | exact ty93 | exact ty104 | exact ty106 | exact ty107 | exact ty108 | exact ty112 | exact ty115 | exact ty120 | exact ty122 | exact ty124 | exact ty126 | exact ty131 | exact ty134 | exact ty137 | exact ty144 | exact ty154 | exact ty155 | exact ty161 | exact ty164 | exact ty165 | exact ty168)) rfl rfl rfl (dres_agg (by exact ⟨cres_val, cres_val, cres_val, cres_val, trivial⟩)))
    | trace_state
set_option maxRecDepth 100000 in
set_option maxHeartbeats 2000000 in
theorem f_drawReadJob (nb : Bool) (code : List Int) (hB : Byte code) (hl : code.length ≤ 1048576) : ∃ X : List UInt8, X.length ≤ 100 ∧ Fn Tryd.prog 18 [.one (row nb 1 (bys code))] (.v (strP X)) := by
  have K0 := f_open nb code hl
  have hB2 := byte_takeJ hB 2000
  have hl2 : (code.take 2000).length ≤ 2000 := by rw [List.length_take]; omega
  obtain ⟨X, p', hX, KG⟩ := l20JobText_ex (code.take 2000) 0 hB2 hl2 (by omega) (by omega)
  refine ⟨X, hX, ?_⟩
  have KG := KG false true nb
  generalize code.take 2000 = bs at *
  unfold rdH at *
  refine fn_of (l := [.tmp 2]) Tryd.func18 (by kernel_rfl) rfl Tryd.ntmps18 rfl rfl ?_; simp only [argEnv, P0.d, Nat.reduceAdd]
  repeat' (first | (with_reducible first | refine aw_seq ?_ | refine thn_normal ?_ | refine thn_ret ?_ | refine thn_exit ?_ | refine blk_normal ?_ | refine blk_ret ?_ | refine blk_hit ?_ | refine blk_miss rfl ?_ | refine aw_block ?_ | refine aw_ret ?_ | refine aw_skip ?_ | refine aw_exit ?_ | refine w_nil ?_ | refine x_nil (by kernel_rfl) ?_) | refine aw_region ?_ | refine aw_region_draw (by kernel_rfl) ?_ | refine aw_yes rfl ?_ | refine aw_no rfl ?_ | ((with_reducible refine w_seq ?_); first | refine r_q tbOk rfl rfl rfl rfl ?_ | refine r_e tbOk rfl rfl rfl rfl rfl ?_ | refine r_yes tbOk rfl rfl rfl rfl rfl rfl ?_ | refine w_no rfl rfl (lookO_spec rfl) rfl rfl rfl ?_ | refine w_un rfl rfl (lookO_spec rfl) rfl rfl ?_) | ((with_reducible refine w_drw ?_); first | refine rx_q tbOk rfl rfl rfl rfl ?_ | refine rx_e tbOk rfl rfl rfl rfl rfl ?_ | refine rx_yes tbOk rfl rfl rfl rfl rfl rfl ?_ | refine x_no rfl rfl (lookO_spec rfl) rfl rfl rfl ?_ | refine x_un rfl rfl (lookO_spec rfl) rfl rfl ?_) | ((first | refine' w_e rfl ?xa ?xb ?xc ?xe ?_ | refine' v_e rfl ?xa ?xb ?xc ?xe ?_); (case xa => first | exact e_callS [(2000001, 600)] K0 rfl ⟨by rw [evO_spec rfl]; exact asD_r rfl, trivial⟩ trivial rfl | exact at_dst 5 rfl (e_callS [(1000000000, 600)] KG rfl ⟨asD_ren (evO_spec rfl), trivial⟩ (by (repeat' (first | exact trivial | refine subHR_cons rfl ?_ ?_ | rfl))) rfl)); (case xb => rfl); (case xc => rfl); (case xe => rfl); try dsimp only [P0.d, Res.d, List.map_cons, List.map_nil, List.set_cons_zero, List.set_cons_succ, Nat.reduceAdd]) | ((first | refine aw_ways rfl ?_ ?_ | refine r_split rfl rfl rfl ?_ ?_) <;> intro hg_ <;> fail_if_success (exact Bool.noConfusion hg_)) <;> (try simp only [prn] at hg_) <;> (try first | contradiction | (exfalso; omega)))
  all_goals first
    | exact ret_tmp rfl (dres_strE rfl)
    | trace_state
end Go.Proofs.YthjnidcmhegoeaaDoor.Abs
