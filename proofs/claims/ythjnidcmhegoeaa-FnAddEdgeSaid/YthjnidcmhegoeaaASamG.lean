/- sameGraph by states. No statement of the seat is proved here. -/
import Derived.Laws.StructEq
import Derived.Test.YthjnidcmhegoeaaTy
import Derived.Lib.Hide
import Derived.Test.YthjnidcmhegoeaaAGrH
import Derived.Test.YthjnidcmhegoeaaALawG
set_option linter.unusedSimpArgs false
set_option linter.unusedVariables false
namespace Go.Proofs.Ythjnidcmhegoeaa.Abs
open Go.RowKit
open R (val row ref)

theorem eqEd (a b c a' b' c' : Int) (w : World) : (Op.equalIn 10000 34 (.agg #[.int .i64 a, .int .i64 b, .int .i64 c]) (.agg #[.int .i64 a', .int .i64 b', .int .i64 c'])).run Try.prog w = .ok (a == a' && b == b' && c == c') w := by
  have u3 := Try.underlying3
  have a3 := Try.isAgg3
  have z3 := Try.sizeOf3
  have hS : Try.prog.underlying 34 = some (.struct (Try.prog.fieldsOf 34)) := by kernel_rfl
  have hp : Try.prog.stoodInHeld 34 = false := by kernel_rfl
  rw [show (10000 : Nat) = 9999 + 1 from rfl, run_equalIn_agg w 9999 34 _ _ hS hp]
  simp only [Program.fieldsOf, Try.underlying34]
  go_simp
  by_cases h1 : a = a' <;> by_cases h2 : b = b' <;> by_cases h3 : c = c' <;> simp [h1, h2, h3]
theorem k_neEd {l : List (Nat × D)} {h : List (Nat × Ob)} {o : Oper} {m1 m2 m3 m4 m5 m6 : Bool} {a b c a' b' c' : Int} {t' : TypeId} {x y : Operand} (ho : o.op = .binOp .neq 34 x y t') (hx : evO l x = some (.agg [.r m1 (int a), .r m2 (int b), .r m3 (int c)])) (hy : evO l y = some (.agg [.r m4 (int a'), .r m5 (int b'), .r m6 (int c')])) :
    Loc Try.prog (lookH h) (evD (look l)) o (.one (.r true (bool (!(a == a' && b == b' && c == c'))))) :=
  loc_run fun base ac w ι own hw he hH => by
    have h1 := he x (by rw [ho]; simp [Op.operands])
    have h2 := he y (by rw [ho]; simp [Op.operands])
    rw [evO_spec hx] at h1
    rw [evO_spec hy] at h2
    obtain ⟨vs, e1, n1, g1⟩ := h1
    obtain ⟨us, e2, n2, g2⟩ := h2
    obtain ⟨v0, q0, r0⟩ := g1 0 _ rfl
    obtain ⟨v1, q1, r1⟩ := g1 1 _ rfl
    obtain ⟨v2, q4, r4⟩ := g1 2 _ rfl
    obtain ⟨u0, q2, r2⟩ := g2 0 _ rfl
    obtain ⟨u1, q3, r3⟩ := g2 1 _ rfl
    obtain ⟨u2, q5, r5⟩ := g2 2 _ rfl
    have s0 : v0 = .int .i64 a := (val_p.1 r0).1
    have s1 : v1 = .int .i64 b := (val_p.1 r1).1
    have s4 : v2 = .int .i64 c := (val_p.1 r4).1
    have s2 : u0 = .int .i64 a' := (val_p.1 r2).1
    have s3 : u1 = .int .i64 b' := (val_p.1 r3).1
    have s5 : u2 = .int .i64 c' := (val_p.1 r5).1
    have hv : vs = [.int .i64 a, .int .i64 b, .int .i64 c] := by
      match vs, n1 with
      | [p, q, r], _ => simp at q0 q1 q4; rw [q0, q1, q4, s0, s1, s4]
    have hu : us = [.int .i64 a', .int .i64 b', .int .i64 c'] := by
      match us, n2 with
      | [p, q, r], _ => simp at q2 q3 q5; rw [q2, q3, q5, s2, s3, s5]
    subst hv hu
    have hm : Try.prog.eqGuardType Try.prog.depth 34 = false := by kernel_rfl
    refine ⟨.bool (!(a == a' && b == b' && c == c')), ?_, rfl, rfl⟩
    unfold execOp
    rw [ho]
    simp only [e1, e2]
    simp [run_eqGuard_agg w .neq 34 _ _ _ _ hm, run_neq_struct, eqEd]
set_option maxRecDepth 100000 in
set_option maxHeartbeats 4000000 in
theorem f_sameGraphG (m m' : Int) (n1 n2 : Bool) (es fs : List E3) (hl : es.length ≤ 1048576) (hl2 : fs.length ≤ 1048576) : Fn Try.prog 17 [graphP m n1 es, graphP m' n2 fs] (.v (.one (bool (decide (m = m' ∧ es = fs))))) := by
  have hlen := edges_len es
  have hlen2 := edges_len fs
  obtain ⟨R0, hR0⟩ : ∃ R0 : Bool, decide (m = m' ∧ es = fs) = R0 := ⟨_, rfl⟩
  rw [hR0]
  by_cases hn : m = m' ∧ es.length = fs.length
  · obtain ⟨rfl, hn⟩ := hn
    refine fn_of (l := [.tmp 4]) Try.func17 (by kernel_rfl) rfl Try.ntmps17 rfl rfl ?_; simp only [argEnv, P0.d, Nat.reduceAdd, graphP, List.map_cons, List.map_nil]
    repeat' (first | (with_reducible first | refine aw_seq ?_ | refine thn_normal ?_ | refine thn_ret ?_ | refine thn_exit ?_ | refine blk_normal ?_ | refine blk_ret ?_ | refine blk_hit ?_ | refine blk_miss rfl ?_ | refine aw_block ?_ | refine aw_ret ?_ | refine aw_skip ?_ | refine aw_exit ?_ | refine w_nil ?_ | refine x_nil (by kernel_rfl) ?_) | refine aw_region ?_ | refine aw_region_draw (by kernel_rfl) ?_ | refine aw_yes rfl ?_ | refine aw_no rfl ?_ | ((with_reducible refine w_seq ?_); first | refine r_q tbOk rfl rfl rfl rfl ?_ | refine r_e tbOk rfl rfl rfl rfl rfl ?_ | refine r_yes tbOk rfl rfl rfl rfl rfl rfl ?_ | refine w_no rfl rfl (lookO_spec rfl) rfl rfl rfl ?_ | refine w_un rfl rfl (lookO_spec rfl) rfl rfl ?_) | ((with_reducible refine w_drw ?_); first | refine rx_q tbOk rfl rfl rfl rfl ?_ | refine rx_e tbOk rfl rfl rfl rfl rfl ?_ | refine rx_yes tbOk rfl rfl rfl rfl rfl rfl ?_ | refine x_no rfl rfl (lookO_spec rfl) rfl rfl rfl ?_ | refine x_un rfl rfl (lookO_spec rfl) rfl rfl ?_) | ((first | refine aw_ways rfl ?_ ?_ | refine r_split rfl rfl rfl ?_ ?_) <;> intro hg_ <;> fail_if_success (exact Bool.noConfusion hg_)) <;> (try simp only [prn] at hg_) <;> (try first | contradiction | (exfalso; omega)))
    all_goals (try (exfalso; first | omega | (simp at *; omega)))
    refine aw_loopI (fun k : Nat => k ≤ es.length ∧ es.take k = fs.take k) (fun k => mkS 38 [(5, .one (.r true (int k))), (3, .one (.ptr 3 0 0 0)), (2, .one (.ptr 2 0 0 0))] [(3, .var 30 [.r false (int m), .r false (row n2 3 (edges fs))]), (2, .var 30 [.r false (int m), .r false (row n1 3 (edges es))])]) (fun k => es.length - k) 0 ⟨Nat.zero_le _, rfl⟩ (by (refine weak_ren [] rfl ?_ ?_ <;> repeat' (first | exact trivial | refine subR_cons rfl ?_ ?_ | refine subHR_cons rfl ?_ ?_ | rfl | (refine d_int ?_; (first | rfl | omega | (rw [IntWalk.i64_in _ (by omega)] <;> omega) | (simp; done) | (simp; omega))) | (refine d_bool ?_; (first | (simp_all; done) | (rw [Bool.eq_iff_iff]; simp_all; done) | (rw [Bool.eq_iff_iff]; simp_all; omega) | (rw [Bool.eq_iff_iff]; simp; omega)))))) ?_
    rintro k ⟨hk, hT⟩
    by_cases hlt : k < es.length
    · have hix := edges_at (es := es) hlt
      have hlt2 : k < fs.length := by omega
      have hix2 := edges_at (es := fs) hlt2
      have h1 : es[k] = fs[k] → es.take (k + 1) = fs.take (k + 1) := fun h => by
        rw [List.take_succ_eq_append_getElem hlt, List.take_succ_eq_append_getElem hlt2, hT, h]
      have h2 : es[k] ≠ fs[k] → R0 = false := fun h => by rw [← hR0]; exact decide_eq_false (fun e => h (by cases e.2; rfl))
      generalize es[k] = v at *
      generalize fs[k] = u at *
      obtain ⟨v1, v2, v3⟩ := v
      obtain ⟨u1, u2, u3⟩ := u
      have hw : IntKind.i64.wrap ((k : Int) + 1) = ((k + 1 : Nat) : Int) := by rw [IntWalk.i64_in _ (by omega)]; omega
      repeat' (first | (with_reducible first | refine aw_seq ?_ | refine thn_normal ?_ | refine thn_ret ?_ | refine thn_exit ?_ | refine blk_normal ?_ | refine blk_ret ?_ | refine blk_hit ?_ | refine blk_miss rfl ?_ | refine aw_block ?_ | refine aw_ret ?_ | refine aw_skip ?_ | refine aw_exit ?_ | refine w_nil ?_ | refine x_nil (by kernel_rfl) ?_) | refine aw_region ?_ | refine aw_region_draw (by kernel_rfl) ?_ | refine aw_yes rfl ?_ | refine aw_no rfl ?_ | ((with_reducible refine w_seq ?_); first | refine r_q tbOk rfl rfl rfl rfl ?_ | refine r_e tbOk rfl rfl rfl rfl rfl ?_ | refine r_yes tbOk rfl rfl rfl rfl rfl rfl ?_ | refine w_no rfl rfl (lookO_spec rfl) rfl rfl rfl ?_ | refine w_un rfl rfl (lookO_spec rfl) rfl rfl ?_) | ((with_reducible refine w_drw ?_); first | refine rx_q tbOk rfl rfl rfl rfl ?_ | refine rx_e tbOk rfl rfl rfl rfl rfl ?_ | refine rx_yes tbOk rfl rfl rfl rfl rfl rfl ?_ | refine x_no rfl rfl (lookO_spec rfl) rfl rfl rfl ?_ | refine x_un rfl rfl (lookO_spec rfl) rfl rfl ?_) | ((first | refine' w_q rfl rfl ?xa rfl ?_ | refine' v_q rfl rfl ?xa rfl ?_ | refine' w_yes rfl rfl (lookO_spec rfl) rfl ?xa rfl ?_ | refine' v_yes rfl rfl (lookO_spec rfl) rfl ?xa rfl ?_); case xa => first | exact k_index tbOk rfl rfl rfl rfl (by omega) (by first | exact hix | exact hix2) | exact k_neEd rfl rfl rfl) | ((first | refine aw_ways rfl ?_ ?_ | refine r_split rfl rfl rfl ?_ ?_) <;> intro hg_ <;> fail_if_success (exact Bool.noConfusion hg_)) <;> (try simp only [prn] at hg_) <;> (try first | contradiction | (exfalso; omega)))
      all_goals first
        | exact ⟨k + 1, ⟨by omega, h1 (by simp at hg_ ⊢; omega)⟩, by (refine weak_ren [] rfl ?_ ?_ <;> repeat' (first | exact trivial | refine subR_cons rfl ?_ ?_ | refine subHR_cons rfl ?_ ?_ | rfl | (refine d_int ?_; (first | rfl | omega | (rw [IntWalk.i64_in _ (by omega)] <;> omega) | (simp; done) | (simp; omega))) | (refine d_bool ?_; (first | (simp_all; done) | (rw [Bool.eq_iff_iff]; simp_all; done) | (rw [Bool.eq_iff_iff]; simp_all; omega) | (rw [Bool.eq_iff_iff]; simp; omega))) | exact d_int hw)), by omega⟩
        | (refine ret_tmp rfl (dres_bool ?_); rw [h2 (by simp at hg_ ⊢; omega)]; done)
        | trace_state
    · have hE : R0 = true := by
        rw [← hR0]
        refine decide_eq_true ⟨rfl, ?_⟩
        rw [List.take_of_length_le (by omega), List.take_of_length_le (by omega)] at hT; exact hT
      rw [hE]
      repeat' (first | (with_reducible first | refine aw_seq ?_ | refine thn_normal ?_ | refine thn_ret ?_ | refine thn_exit ?_ | refine blk_normal ?_ | refine blk_ret ?_ | refine blk_hit ?_ | refine blk_miss rfl ?_ | refine aw_block ?_ | refine aw_ret ?_ | refine aw_skip ?_ | refine aw_exit ?_ | refine w_nil ?_ | refine x_nil (by kernel_rfl) ?_) | refine aw_region ?_ | refine aw_region_draw (by kernel_rfl) ?_ | refine aw_yes rfl ?_ | refine aw_no rfl ?_ | ((with_reducible refine w_seq ?_); first | refine r_q tbOk rfl rfl rfl rfl ?_ | refine r_e tbOk rfl rfl rfl rfl rfl ?_ | refine r_yes tbOk rfl rfl rfl rfl rfl rfl ?_ | refine w_no rfl rfl (lookO_spec rfl) rfl rfl rfl ?_ | refine w_un rfl rfl (lookO_spec rfl) rfl rfl ?_) | ((with_reducible refine w_drw ?_); first | refine rx_q tbOk rfl rfl rfl rfl ?_ | refine rx_e tbOk rfl rfl rfl rfl rfl ?_ | refine rx_yes tbOk rfl rfl rfl rfl rfl rfl ?_ | refine x_no rfl rfl (lookO_spec rfl) rfl rfl rfl ?_ | refine x_un rfl rfl (lookO_spec rfl) rfl rfl ?_) | ((first | refine aw_ways rfl ?_ ?_ | refine r_split rfl rfl rfl ?_ ?_) <;> intro hg_ <;> fail_if_success (exact Bool.noConfusion hg_)) <;> (try simp only [prn] at hg_) <;> (try first | contradiction | (exfalso; omega)))
      all_goals first
        | exact ret_tmp rfl (dres_bool rfl)
        | trace_state
  · have hE : R0 = false := by rw [← hR0]; exact decide_eq_false (fun e => hn ⟨e.1, by rw [e.2]⟩)
    rw [hE]
    by_cases hm : m = m'
    · subst hm
      refine fn_of (l := [.tmp 4]) Try.func17 (by kernel_rfl) rfl Try.ntmps17 rfl rfl ?_; simp only [argEnv, P0.d, Nat.reduceAdd, graphP, List.map_cons, List.map_nil]
      repeat' (first | (with_reducible first | refine aw_seq ?_ | refine thn_normal ?_ | refine thn_ret ?_ | refine thn_exit ?_ | refine blk_normal ?_ | refine blk_ret ?_ | refine blk_hit ?_ | refine blk_miss rfl ?_ | refine aw_block ?_ | refine aw_ret ?_ | refine aw_skip ?_ | refine aw_exit ?_ | refine w_nil ?_ | refine x_nil (by kernel_rfl) ?_) | refine aw_region ?_ | refine aw_region_draw (by kernel_rfl) ?_ | refine aw_yes rfl ?_ | refine aw_no rfl ?_ | ((with_reducible refine w_seq ?_); first | refine r_q tbOk rfl rfl rfl rfl ?_ | refine r_e tbOk rfl rfl rfl rfl rfl ?_ | refine r_yes tbOk rfl rfl rfl rfl rfl rfl ?_ | refine w_no rfl rfl (lookO_spec rfl) rfl rfl rfl ?_ | refine w_un rfl rfl (lookO_spec rfl) rfl rfl ?_) | ((with_reducible refine w_drw ?_); first | refine rx_q tbOk rfl rfl rfl rfl ?_ | refine rx_e tbOk rfl rfl rfl rfl rfl ?_ | refine rx_yes tbOk rfl rfl rfl rfl rfl rfl ?_ | refine x_no rfl rfl (lookO_spec rfl) rfl rfl rfl ?_ | refine x_un rfl rfl (lookO_spec rfl) rfl rfl ?_) | ((first | refine aw_ways rfl ?_ ?_ | refine r_split rfl rfl rfl ?_ ?_) <;> intro hg_ <;> fail_if_success (exact Bool.noConfusion hg_)) <;> (try simp only [prn] at hg_) <;> (try first | contradiction | (exfalso; omega)))
      all_goals first
        | exact ret_tmp rfl (dres_bool rfl)
        | (exfalso; simp at *; omega)
        | trace_state
    · refine fn_of (l := [.tmp 4]) Try.func17 (by kernel_rfl) rfl Try.ntmps17 rfl rfl ?_; simp only [argEnv, P0.d, Nat.reduceAdd, graphP, List.map_cons, List.map_nil]
      repeat' (first | (with_reducible first | refine aw_seq ?_ | refine thn_normal ?_ | refine thn_ret ?_ | refine thn_exit ?_ | refine blk_normal ?_ | refine blk_ret ?_ | refine blk_hit ?_ | refine blk_miss rfl ?_ | refine aw_block ?_ | refine aw_ret ?_ | refine aw_skip ?_ | refine aw_exit ?_ | refine w_nil ?_ | refine x_nil (by kernel_rfl) ?_) | refine aw_region ?_ | refine aw_region_draw (by kernel_rfl) ?_ | refine aw_yes rfl ?_ | refine aw_no rfl ?_ | ((with_reducible refine w_seq ?_); first | refine r_q tbOk rfl rfl rfl rfl ?_ | refine r_e tbOk rfl rfl rfl rfl rfl ?_ | refine r_yes tbOk rfl rfl rfl rfl rfl rfl ?_ | refine w_no rfl rfl (lookO_spec rfl) rfl rfl rfl ?_ | refine w_un rfl rfl (lookO_spec rfl) rfl rfl ?_) | ((with_reducible refine w_drw ?_); first | refine rx_q tbOk rfl rfl rfl rfl ?_ | refine rx_e tbOk rfl rfl rfl rfl rfl ?_ | refine rx_yes tbOk rfl rfl rfl rfl rfl rfl ?_ | refine x_no rfl rfl (lookO_spec rfl) rfl rfl rfl ?_ | refine x_un rfl rfl (lookO_spec rfl) rfl rfl ?_) | ((first | refine aw_ways rfl ?_ ?_ | refine r_split rfl rfl rfl ?_ ?_) <;> intro hg_ <;> fail_if_success (exact Bool.noConfusion hg_)) <;> (try simp only [prn] at hg_) <;> (try first | contradiction | (exfalso; omega)))
      all_goals first
        | exact ret_tmp rfl (dres_bool rfl)
        | (exfalso; simp at *; omega)
        | trace_state
theorem f_sameGraphR (m : Int) (n1 n2 : Bool) (es : List E3) (hl : es.length ≤ 1048576) : Fn Try.prog 17 [graphP m n1 es, graphP m n2 es] (.v (.one (bool true))) := by
  have h := f_sameGraphG m m n1 n2 es es hl hl
  rwa [show decide (m = m ∧ es = es) = true from decide_eq_true ⟨rfl, rfl⟩] at h
end Go.Proofs.Ythjnidcmhegoeaa.Abs
