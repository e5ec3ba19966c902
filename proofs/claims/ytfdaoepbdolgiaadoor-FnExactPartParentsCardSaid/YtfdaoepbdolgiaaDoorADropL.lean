/- Graphs by states: DropVertex of both texts, copies, sameGraph. No statement of the seat is proved here. -/
import Derived.Laws.StructEq
import Derived.Test.YtfdaoepbdolgiaaDoorTy
import Derived.Lib.Hide
import Derived.Test.YtfdaoepbdolgiaaDoorAGrH
import Derived.Test.YtfdaoepbdolgiaaDoorAHopJ
import Derived.Test.YtfdaoepbdolgiaaDoorALawG
import Derived.Test.YtfdaoepbdolgiaaDoorGNear
set_option linter.unusedSimpArgs false
set_option linter.unusedVariables false
namespace Go.Proofs.YtfdaoepbdolgiaaDoor.Abs
open Go.RowKit
open R (val row ref)

/-! ## ADrop -/
theorem eqEd (a b c a' b' c' : Int) (w : World) : (Op.equalIn 10000 33 (.agg #[.int .i64 a, .int .i64 b, .int .i64 c]) (.agg #[.int .i64 a', .int .i64 b', .int .i64 c'])).run Tryd.prog w = .ok (a == a' && b == b' && c == c') w := by
  have u3 := Tryd.underlying3
  have a3 := Tryd.isAgg3
  have z3 := Tryd.sizeOf3
  have hS : Tryd.prog.underlying 33 = some (.struct (Tryd.prog.fieldsOf 33)) := by kernel_rfl
  have hp : Tryd.prog.stoodInHeld 33 = false := by kernel_rfl
  rw [show (10000 : Nat) = 9999 + 1 from rfl, run_equalIn_agg w 9999 33 _ _ hS hp]
  simp only [Program.fieldsOf, Tryd.underlying33]
  go_simp
  by_cases h1 : a = a' <;> by_cases h2 : b = b' <;> by_cases h3 : c = c' <;> simp [h1, h2, h3]
theorem k_neEd {l : List (Nat × D)} {h : List (Nat × Ob)} {o : Oper} {m1 m2 m3 m4 m5 m6 : Bool} {a b c a' b' c' : Int} {t' : TypeId} {x y : Operand} (ho : o.op = .binOp .neq 33 x y t') (hx : evO l x = some (.agg [.r m1 (int a), .r m2 (int b), .r m3 (int c)])) (hy : evO l y = some (.agg [.r m4 (int a'), .r m5 (int b'), .r m6 (int c')])) :
    Loc Tryd.prog (lookH h) (evD (look l)) o (.one (.r true (bool (!(a == a' && b == b' && c == c'))))) :=
  loc_run fun base ac w ι own hw he hH => by
    have h1 := he x (by rw [ho]; simp [Op.operands])
    have h2 := he y (by rw [ho]; simp [Op.operands])
    rw [evO_spec hx] at h1
    rw [evO_spec hy] at h2
    obtain ⟨vs, e1, n1, g1⟩ := h1
    obtain ⟨us, e2, n2, g2⟩ := h2
    obtain ⟨v0, q0, r0⟩ := g1 0 _ rfl
    obtain ⟨v1, q1, r1⟩ := g1 1 _ rfl
    obtain ⟨v2, q4, r4⟩ := g1 2 _ rfl
    obtain ⟨u0, q2, r2⟩ := g2 0 _ rfl
    obtain ⟨u1, q3, r3⟩ := g2 1 _ rfl
    obtain ⟨u2, q5, r5⟩ := g2 2 _ rfl
    have s0 : v0 = .int .i64 a := (val_p.1 r0).1
    have s1 : v1 = .int .i64 b := (val_p.1 r1).1
    have s4 : v2 = .int .i64 c := (val_p.1 r4).1
    have s2 : u0 = .int .i64 a' := (val_p.1 r2).1
    have s3 : u1 = .int .i64 b' := (val_p.1 r3).1
    have s5 : u2 = .int .i64 c' := (val_p.1 r5).1
    have hv : vs = [.int .i64 a, .int .i64 b, .int .i64 c] := by
      match vs, n1 with
      | [p, q, r], _ => simp at q0 q1 q4; rw [q0, q1, q4, s0, s1, s4]
    have hu : us = [.int .i64 a', .int .i64 b', .int .i64 c'] := by
      match us, n2 with
      | [p, q, r], _ => simp at q2 q3 q5; rw [q2, q3, q5, s2, s3, s5]
    subst hv hu
    have hm : Tryd.prog.eqGuardType Tryd.prog.depth 33 = false := by kernel_rfl
    refine ⟨.bool (!(a == a' && b == b' && c == c')), ?_, rfl, rfl⟩
    unfold execOp
    rw [ho]
    simp only [e1, e2]
    simp [run_eqGuard_agg w .neq 33 _ _ _ _ hm, run_neq_struct, eqEd]
set_option maxRecDepth 100000 in
set_option maxHeartbeats 4000000 in
theorem f_sameGraphG (m m' : Int) (n1 n2 : Bool) (es fs : List E3) (hl : es.length ≤ 1048576) (hl2 : fs.length ≤ 1048576) : Fn Tryd.prog 22 [graphP m n1 es, graphP m' n2 fs] (.v (.one (bool (decide (m = m' ∧ es = fs))))) := by
  have hlen := edges_len es
  have hlen2 := edges_len fs
  obtain ⟨R0, hR0⟩ : ∃ R0 : Bool, decide (m = m' ∧ es = fs) = R0 := ⟨_, rfl⟩
  rw [hR0]
  by_cases hn : m = m' ∧ es.length = fs.length
  · obtain ⟨rfl, hn⟩ := hn
    refine fn_of (l := [.tmp 4]) Tryd.func22 (by kernel_rfl) rfl Tryd.ntmps22 rfl rfl ?_; simp only [argEnv, P0.d, Nat.reduceAdd, graphP, List.map_cons, List.map_nil]
    repeat' (first | (with_reducible first | refine aw_seq ?_ | refine thn_normal ?_ | refine thn_ret ?_ | refine thn_exit ?_ | refine blk_normal ?_ | refine blk_ret ?_ | refine blk_hit ?_ | refine blk_miss rfl ?_ | refine aw_block ?_ | refine aw_ret ?_ | refine aw_skip ?_ | refine aw_exit ?_ | refine w_nil ?_ | refine x_nil (by kernel_rfl) ?_) | refine aw_region ?_ | refine aw_region_draw (by kernel_rfl) ?_ | refine aw_yes rfl ?_ | refine aw_no rfl ?_ | ((with_reducible refine w_seq ?_); first | refine r_q tbOk rfl rfl rfl rfl ?_ | refine r_e tbOk rfl rfl rfl rfl rfl ?_ | refine r_yes tbOk rfl rfl rfl rfl rfl rfl ?_ | refine w_no rfl rfl (lookO_spec rfl) rfl rfl rfl ?_ | refine w_un rfl rfl (lookO_spec rfl) rfl rfl ?_) | ((with_reducible refine w_drw ?_); first | refine rx_q tbOk rfl rfl rfl rfl ?_ | refine rx_e tbOk rfl rfl rfl rfl rfl ?_ | refine rx_yes tbOk rfl rfl rfl rfl rfl rfl ?_ | refine x_no rfl rfl (lookO_spec rfl) rfl rfl rfl ?_ | refine x_un rfl rfl (lookO_spec rfl) rfl rfl ?_) | ((first | refine aw_ways rfl ?_ ?_ | refine r_split rfl rfl rfl ?_ ?_) <;> intro hg_ <;> fail_if_success (exact Bool.noConfusion hg_)) <;> (try simp only [prn] at hg_) <;> (try first | contradiction | (exfalso; omega)))
    all_goals (try (exfalso; first | omega | (simp at *; omega)))
    refine aw_loopI (fun k : Nat => k ≤ es.length ∧ es.take k = fs.take k) (fun k => mkS 38 [(5, .one (.r true (int k))), (3, .one (.ptr 3 0 0 0)), (2, .one (.ptr 2 0 0 0))] [(3, .var 25 [.r false (int m), .r false (row n2 3 (edges fs))]), (2, .var 25 [.r false (int m), .r false (row n1 3 (edges es))])]) (fun k => es.length - k) 0 ⟨Nat.zero_le _, rfl⟩ (by (refine weak_ren [] rfl ?_ ?_ <;> repeat' (first | exact trivial | refine subR_cons rfl ?_ ?_ | refine subHR_cons rfl ?_ ?_ | rfl | (refine d_int ?_; (first | rfl | omega | (rw [IntWalk.i64_in _ (by omega)] <;> omega) | (simp; done) | (simp; omega))) | (refine d_bool ?_; (first | (simp_all; done) | (rw [Bool.eq_iff_iff]; simp_all; done) | (rw [Bool.eq_iff_iff]; simp_all; omega) | (rw [Bool.eq_iff_iff]; simp; omega)))))) ?_
    rintro k ⟨hk, hT⟩
    by_cases hlt : k < es.length
    · have hix := edges_at (es := es) hlt
      have hlt2 : k < fs.length := by omega
      have hix2 := edges_at (es := fs) hlt2
      have h1 : es[k] = fs[k] → es.take (k + 1) = fs.take (k + 1) := fun h => by
        rw [List.take_succ_eq_append_getElem hlt, List.take_succ_eq_append_getElem hlt2, hT, h]
      have h2 : es[k] ≠ fs[k] → R0 = false := fun h => by rw [← hR0]; exact decide_eq_false (fun e => h (by cases e.2; rfl))
      generalize es[k] = v at *
      generalize fs[k] = u at *
      obtain ⟨v1, v2, v3⟩ := v
      obtain ⟨u1, u2, u3⟩ := u
      have hw : IntKind.i64.wrap ((k : Int) + 1) = ((k + 1 : Nat) : Int) := by rw [IntWalk.i64_in _ (by omega)]; omega
      repeat' (first | (with_reducible first | refine aw_seq ?_ | refine thn_normal ?_ | refine thn_ret ?_ | refine thn_exit ?_ | refine blk_normal ?_ | refine blk_ret ?_ | refine blk_hit ?_ | refine blk_miss rfl ?_ | refine aw_block ?_ | refine aw_ret ?_ | refine aw_skip ?_ | refine aw_exit ?_ | refine w_nil ?_ | refine x_nil (by kernel_rfl) ?_) | refine aw_region ?_ | refine aw_region_draw (by kernel_rfl) ?_ | refine aw_yes rfl ?_ | refine aw_no rfl ?_ | ((with_reducible refine w_seq ?_); first | refine r_q tbOk rfl rfl rfl rfl ?_ | refine r_e tbOk rfl rfl rfl rfl rfl ?_ | refine r_yes tbOk rfl rfl rfl rfl rfl rfl ?_ | refine w_no rfl rfl (lookO_spec rfl) rfl rfl rfl ?_ | refine w_un rfl rfl (lookO_spec rfl) rfl rfl ?_) | ((with_reducible refine w_drw ?_); first | refine rx_q tbOk rfl rfl rfl rfl ?_ | refine rx_e tbOk rfl rfl rfl rfl rfl ?_ | refine rx_yes tbOk rfl rfl rfl rfl rfl rfl ?_ | refine x_no rfl rfl (lookO_spec rfl) rfl rfl rfl ?_ | refine x_un rfl rfl (lookO_spec rfl) rfl rfl ?_) | ((first | refine' w_q rfl rfl ?xa rfl ?_ | refine' v_q rfl rfl ?xa rfl ?_ | refine' w_yes rfl rfl (lookO_spec rfl) rfl ?xa rfl ?_ | refine' v_yes rfl rfl (lookO_spec rfl) rfl ?xa rfl ?_); case xa => first | exact k_index tbOk rfl rfl rfl rfl (by omega) (by first | exact hix | exact hix2) | exact k_neEd rfl rfl rfl) | ((first | refine aw_ways rfl ?_ ?_ | refine r_split rfl rfl rfl ?_ ?_) <;> intro hg_ <;> fail_if_success (exact Bool.noConfusion hg_)) <;> (try simp only [prn] at hg_) <;> (try first | contradiction | (exfalso; omega)))
      all_goals first
        | exact ⟨k + 1, ⟨by omega, h1 (by simp at hg_ ⊢; omega)⟩, by (refine weak_ren [] rfl ?_ ?_ <;> repeat' (first | exact trivial | refine subR_cons rfl ?_ ?_ | refine subHR_cons rfl ?_ ?_ | rfl | (refine d_int ?_; (first | rfl | omega | (rw [IntWalk.i64_in _ (by omega)] <;> omega) | (simp; done) | (simp; omega))) | (refine d_bool ?_; (first | (simp_all; done) | (rw [Bool.eq_iff_iff]; simp_all; done) | (rw [Bool.eq_iff_iff]; simp_all; omega) | (rw [Bool.eq_iff_iff]; simp; omega))) | exact d_int hw)), by omega⟩
        | (refine ret_tmp rfl (dres_bool ?_); rw [h2 (by simp at hg_ ⊢; omega)]; done)
        | trace_state
    · have hE : R0 = true := by
        rw [← hR0]
        refine decide_eq_true ⟨rfl, ?_⟩
        rw [List.take_of_length_le (by omega), List.take_of_length_le (by omega)] at hT; exact hT
      rw [hE]
      repeat' (first | (with_reducible first | refine aw_seq ?_ | refine thn_normal ?_ | refine thn_ret ?_ | refine thn_exit ?_ | refine blk_normal ?_ | refine blk_ret ?_ | refine blk_hit ?_ | refine blk_miss rfl ?_ | refine aw_block ?_ | refine aw_ret ?_ | refine aw_skip ?_ | refine aw_exit ?_ | refine w_nil ?_ | refine x_nil (by kernel_rfl) ?_) | refine aw_region ?_ | refine aw_region_draw (by kernel_rfl) ?_ | refine aw_yes rfl ?_ | refine aw_no rfl ?_ | ((with_reducible refine w_seq ?_); first | refine r_q tbOk rfl rfl rfl rfl ?_ | refine r_e tbOk rfl rfl rfl rfl rfl ?_ | refine r_yes tbOk rfl rfl rfl rfl rfl rfl ?_ | refine w_no rfl rfl (lookO_spec rfl) rfl rfl rfl ?_ | refine w_un rfl rfl (lookO_spec rfl) rfl rfl ?_) | ((with_reducible refine w_drw ?_); first | refine rx_q tbOk rfl rfl rfl rfl ?_ | refine rx_e tbOk rfl rfl rfl rfl rfl ?_ | refine rx_yes tbOk rfl rfl rfl rfl rfl rfl ?_ | refine x_no rfl rfl (lookO_spec rfl) rfl rfl rfl ?_ | refine x_un rfl rfl (lookO_spec rfl) rfl rfl ?_) | ((first | refine aw_ways rfl ?_ ?_ | refine r_split rfl rfl rfl ?_ ?_) <;> intro hg_ <;> fail_if_success (exact Bool.noConfusion hg_)) <;> (try simp only [prn] at hg_) <;> (try first | contradiction | (exfalso; omega)))
      all_goals first
        | exact ret_tmp rfl (dres_bool rfl)
        | trace_state
  · have hE : R0 = false := by rw [← hR0]; exact decide_eq_false (fun e => hn ⟨e.1, by rw [e.2]⟩)
    rw [hE]
    by_cases hm : m = m'
    · subst hm
      refine fn_of (l := [.tmp 4]) Tryd.func22 (by kernel_rfl) rfl Tryd.ntmps22 rfl rfl ?_; simp only [argEnv, P0.d, Nat.reduceAdd, graphP, List.map_cons, List.map_nil]
      repeat' (first | (with_reducible first | refine aw_seq ?_ | refine thn_normal ?_ | refine thn_ret ?_ | refine thn_exit ?_ | refine blk_normal ?_ | refine blk_ret ?_ | refine blk_hit ?_ | refine blk_miss rfl ?_ | refine aw_block ?_ | refine aw_ret ?_ | refine aw_skip ?_ | refine aw_exit ?_ | refine w_nil ?_ | refine x_nil (by kernel_rfl) ?_) | refine aw_region ?_ | refine aw_region_draw (by kernel_rfl) ?_ | refine aw_yes rfl ?_ | refine aw_no rfl ?_ | ((with_reducible refine w_seq ?_); first | refine r_q tbOk rfl rfl rfl rfl ?_ | refine r_e tbOk rfl rfl rfl rfl rfl ?_ | refine r_yes tbOk rfl rfl rfl rfl rfl rfl ?_ | refine w_no rfl rfl (lookO_spec rfl) rfl rfl rfl ?_ | refine w_un rfl rfl (lookO_spec rfl) rfl rfl ?_) | ((with_reducible refine w_drw ?_); first | refine rx_q tbOk rfl rfl rfl rfl ?_ | refine rx_e tbOk rfl rfl rfl rfl rfl ?_ | refine rx_yes tbOk rfl rfl rfl rfl rfl rfl ?_ | refine x_no rfl rfl (lookO_spec rfl) rfl rfl rfl ?_ | refine x_un rfl rfl (lookO_spec rfl) rfl rfl ?_) | ((first | refine aw_ways rfl ?_ ?_ | refine r_split rfl rfl rfl ?_ ?_) <;> intro hg_ <;> fail_if_success (exact Bool.noConfusion hg_)) <;> (try simp only [prn] at hg_) <;> (try first | contradiction | (exfalso; omega)))
      all_goals first
        | exact ret_tmp rfl (dres_bool rfl)
        | (exfalso; simp at *; omega)
        | trace_state
    · refine fn_of (l := [.tmp 4]) Tryd.func22 (by kernel_rfl) rfl Tryd.ntmps22 rfl rfl ?_; simp only [argEnv, P0.d, Nat.reduceAdd, graphP, List.map_cons, List.map_nil]
      repeat' (first | (with_reducible first | refine aw_seq ?_ | refine thn_normal ?_ | refine thn_ret ?_ | refine thn_exit ?_ | refine blk_normal ?_ | refine blk_ret ?_ | refine blk_hit ?_ | refine blk_miss rfl ?_ | refine aw_block ?_ | refine aw_ret ?_ | refine aw_skip ?_ | refine aw_exit ?_ | refine w_nil ?_ | refine x_nil (by kernel_rfl) ?_) | refine aw_region ?_ | refine aw_region_draw (by kernel_rfl) ?_ | refine aw_yes rfl ?_ | refine aw_no rfl ?_ | ((with_reducible refine w_seq ?_); first | refine r_q tbOk rfl rfl rfl rfl ?_ | refine r_e tbOk rfl rfl rfl rfl rfl ?_ | refine r_yes tbOk rfl rfl rfl rfl rfl rfl ?_ | refine w_no rfl rfl (lookO_spec rfl) rfl rfl rfl ?_ | refine w_un rfl rfl (lookO_spec rfl) rfl rfl ?_) | ((with_reducible refine w_drw ?_); first | refine rx_q tbOk rfl rfl rfl rfl ?_ | refine rx_e tbOk rfl rfl rfl rfl rfl ?_ | refine rx_yes tbOk rfl rfl rfl rfl rfl rfl ?_ | refine x_no rfl rfl (lookO_spec rfl) rfl rfl rfl ?_ | refine x_un rfl rfl (lookO_spec rfl) rfl rfl ?_) | ((first | refine aw_ways rfl ?_ ?_ | refine r_split rfl rfl rfl ?_ ?_) <;> intro hg_ <;> fail_if_success (exact Bool.noConfusion hg_)) <;> (try simp only [prn] at hg_) <;> (try first | contradiction | (exfalso; omega)))
      all_goals first
        | exact ret_tmp rfl (dres_bool rfl)
        | (exfalso; simp at *; omega)
        | trace_state
theorem f_sameGraphR (m : Int) (n1 n2 : Bool) (es : List E3) (hl : es.length ≤ 1048576) : Fn Tryd.prog 22 [graphP m n1 es, graphP m n2 es] (.v (.one (bool true))) := by
  have h := f_sameGraphG m m n1 n2 es es hl hl
  rwa [show decide (m = m ∧ es = es) = true from decide_eq_true ⟨rfl, rfl⟩] at h
set_option maxRecDepth 100000 in
set_option maxHeartbeats 2000000 in
theorem f_cloneR_E (nil : Bool) (es : List E3) (hn : nil = true → es = []) (hl : es.length ≤ 1048576) : Fn Tryd.prog 74 [.one (row nil 3 (edges es))] (.v (.one (row nil 3 (edges es)))) := by
  have hlen := edges_len es
  cases nil with
  | true =>
    have := hn rfl
    subst this
    refine fn_of (l := [.tmp 2]) Tryd.func74 (by kernel_rfl) rfl Tryd.ntmps74 rfl rfl ?_; simp only [argEnv, P0.d, Nat.reduceAdd]
    repeat' (first | (with_reducible first | refine aw_seq ?_ | refine thn_normal ?_ | refine thn_ret ?_ | refine thn_exit ?_ | refine blk_normal ?_ | refine blk_ret ?_ | refine blk_hit ?_ | refine blk_miss rfl ?_ | refine aw_block ?_ | refine aw_ret ?_ | refine aw_skip ?_ | refine aw_exit ?_ | refine w_nil ?_ | refine x_nil (by kernel_rfl) ?_) | refine aw_region ?_ | refine aw_region_draw (by kernel_rfl) ?_ | refine aw_yes rfl ?_ | refine aw_no rfl ?_ | ((with_reducible refine w_seq ?_); first | refine r_q tbOk rfl rfl rfl rfl ?_ | refine r_e tbOk rfl rfl rfl rfl rfl ?_ | refine r_yes tbOk rfl rfl rfl rfl rfl rfl ?_ | refine w_no rfl rfl (lookO_spec rfl) rfl rfl rfl ?_ | refine w_un rfl rfl (lookO_spec rfl) rfl rfl ?_) | ((with_reducible refine w_drw ?_); first | refine rx_q tbOk rfl rfl rfl rfl ?_ | refine rx_e tbOk rfl rfl rfl rfl rfl ?_ | refine rx_yes tbOk rfl rfl rfl rfl rfl rfl ?_ | refine x_no rfl rfl (lookO_spec rfl) rfl rfl rfl ?_ | refine x_un rfl rfl (lookO_spec rfl) rfl rfl ?_) | ((first | refine' w_q rfl rfl ?xa rfl ?_ | refine' v_q rfl rfl ?xa rfl ?_ | refine' w_yes rfl rfl (lookO_spec rfl) rfl ?xa rfl ?_ | refine' v_yes rfl rfl (lookO_spec rfl) rfl ?xa rfl ?_); case xa => exact k_nil_eq tbOk rfl rfl rfl rfl) | ((first | refine aw_ways rfl ?_ ?_ | refine r_split rfl rfl rfl ?_ ?_) <;> intro hg_ <;> fail_if_success (exact Bool.noConfusion hg_)) <;> (try simp only [prn] at hg_) <;> (try first | contradiction | (exfalso; omega)))
    exact ret_tmp rfl (dres_one cres_nil)
  | false =>
    refine fn_of (l := [.tmp 2]) Tryd.func74 (by kernel_rfl) rfl Tryd.ntmps74 rfl rfl ?_; simp only [argEnv, P0.d, Nat.reduceAdd]
    repeat' (first | (with_reducible first | refine aw_seq ?_ | refine thn_normal ?_ | refine thn_ret ?_ | refine thn_exit ?_ | refine blk_normal ?_ | refine blk_ret ?_ | refine blk_hit ?_ | refine blk_miss rfl ?_ | refine aw_block ?_ | refine aw_ret ?_ | refine aw_skip ?_ | refine aw_exit ?_ | refine w_nil ?_ | refine x_nil (by kernel_rfl) ?_) | refine aw_region ?_ | refine aw_region_draw (by kernel_rfl) ?_ | refine aw_yes rfl ?_ | refine aw_no rfl ?_ | ((with_reducible refine w_seq ?_); first | refine r_q tbOk rfl rfl rfl rfl ?_ | refine r_e tbOk rfl rfl rfl rfl rfl ?_ | refine r_yes tbOk rfl rfl rfl rfl rfl rfl ?_ | refine w_no rfl rfl (lookO_spec rfl) rfl rfl rfl ?_ | refine w_un rfl rfl (lookO_spec rfl) rfl rfl ?_) | ((with_reducible refine w_drw ?_); first | refine rx_q tbOk rfl rfl rfl rfl ?_ | refine rx_e tbOk rfl rfl rfl rfl rfl ?_ | refine rx_yes tbOk rfl rfl rfl rfl rfl rfl ?_ | refine x_no rfl rfl (lookO_spec rfl) rfl rfl rfl ?_ | refine x_un rfl rfl (lookO_spec rfl) rfl rfl ?_) | ((first | refine' w_q rfl rfl ?xa rfl ?_ | refine' v_q rfl rfl ?xa rfl ?_ | refine' w_yes rfl rfl (lookO_spec rfl) rfl ?xa rfl ?_ | refine' v_yes rfl rfl (lookO_spec rfl) rfl ?xa rfl ?_); case xa => exact k_nil_eq tbOk rfl rfl rfl rfl) | ((first | refine' w_e rfl ?xa ?xb ?xc ?xe ?_ | refine' v_e rfl ?xa ?xb ?xc ?xe ?_); (case xa => first | exact e_build [] tlOk rfl rfl rfl rfl rfl rfl (by simp [AllN]) (by simp) | exact e_append tlOk rfl rfl rfl rfl rfl rfl (slD_plain slD_row (edges_plain es)) rfl (by simp only [maxLen, List.length_nil]; omega) (by simp only [List.length_nil]; omega)); (case xb => rfl); (case xc => rfl); (case xe => rfl); try dsimp only [P0.d, Res.d, List.map_cons, List.map_nil, List.set_cons_zero, List.set_cons_succ, Nat.reduceAdd]) | ((first | refine aw_ways rfl ?_ ?_ | refine r_split rfl rfl rfl ?_ ?_) <;> intro hg_ <;> fail_if_success (exact Bool.noConfusion hg_)) <;> (try simp only [prn] at hg_) <;> (try first | contradiction | (exfalso; omega)))
    have e : ([] : List P0).length + (edges es).length = (edges es).length := Nat.zero_add _
    rw [e]
    exact ret_tmp rfl (dres_one (cres_own0 (lookHO_spec rfl) rfl))
set_option maxRecDepth 100000 in
set_option maxHeartbeats 2000000 in
theorem f_copiedG (m : Int) (nil : Bool) (es : List E3) (hn : nil = true → es = []) (hl : es.length ≤ 1048576) : Fn Tryd.prog 56 [graphP m nil es] (.v (graphP m nil es)) := by
  have K := f_cloneR_E nil es hn hl
  refine fn_of (l := [.cell 2 25]) Tryd.func56 (by kernel_rfl) rfl Tryd.ntmps56 rfl rfl ?_; simp only [argEnv, P0.d, Nat.reduceAdd, graphP, List.map_cons, List.map_nil]
  repeat' (first | (with_reducible first | refine aw_seq ?_ | refine thn_normal ?_ | refine thn_ret ?_ | refine thn_exit ?_ | refine blk_normal ?_ | refine blk_ret ?_ | refine blk_hit ?_ | refine blk_miss rfl ?_ | refine aw_block ?_ | refine aw_ret ?_ | refine aw_skip ?_ | refine aw_exit ?_ | refine w_nil ?_ | refine x_nil (by kernel_rfl) ?_) | refine aw_region ?_ | refine aw_region_draw (by kernel_rfl) ?_ | refine aw_yes rfl ?_ | refine aw_no rfl ?_ | ((with_reducible refine w_seq ?_); first | refine r_q tbOk rfl rfl rfl rfl ?_ | refine r_e tbOk rfl rfl rfl rfl rfl ?_ | refine r_yes tbOk rfl rfl rfl rfl rfl rfl ?_ | refine w_no rfl rfl (lookO_spec rfl) rfl rfl rfl ?_ | refine w_un rfl rfl (lookO_spec rfl) rfl rfl ?_) | ((with_reducible refine w_drw ?_); first | refine rx_q tbOk rfl rfl rfl rfl ?_ | refine rx_e tbOk rfl rfl rfl rfl rfl ?_ | refine rx_yes tbOk rfl rfl rfl rfl rfl rfl ?_ | refine x_no rfl rfl (lookO_spec rfl) rfl rfl rfl ?_ | refine x_un rfl rfl (lookO_spec rfl) rfl rfl ?_) | ((first | refine' w_q rfl rfl ?xa rfl ?_ | refine' v_q rfl rfl ?xa rfl ?_ | refine' w_yes rfl rfl (lookO_spec rfl) rfl ?xa rfl ?_ | refine' v_yes rfl rfl (lookO_spec rfl) rfl ?xa rfl ?_); case xa => exact k_call K rfl ⟨asA_r (evO_spec rfl), trivial⟩) | ((first | refine aw_ways rfl ?_ ?_ | refine r_split rfl rfl rfl ?_ ?_) <;> intro hg_ <;> fail_if_success (exact Bool.noConfusion hg_)) <;> (try simp only [prn] at hg_) <;> (try first | contradiction | (exfalso; omega)))
  all_goals first
    | exact ret_v (rv_cell rfl rfl (by (with_reducible first | exact ty3 | exact ty4 | exact ty5 | exact ty9 | exact ty17 | exact ty19 | exact ty22 | exact ty23 | exact ty25 | exact ty28 | exact ty33 | exact ty48 | exact ty50 | exact ty57 | exact ty61 | exact ty67 | exact ty68 | exact ty69 | exact ty85 | exact ty95 | exact ty97)) rfl rfl rfl (dres_agg (by exact ⟨cres_val, cres_new, trivial⟩)))
    | trace_state
/-- The edges that stay; all of them, if there is no such vertex. -/
def keepV (b : Bool) (v : Int) (e : E3) : Bool := (decide (e.1 ≠ v) && decide (e.2.1 ≠ v)) || !b
def dropE (b : Bool) (v : Int) (es : List E3) : List E3 := es.filter (keepV b v)
theorem dropE_step (b : Bool) (v : Int) {es : List E3} {k : Nat} (h : k < es.length) : dropE b v (es.take (k + 1)) = dropE b v (es.take k) ++ (if keepV b v es[k] = true then [es[k]] else []) := by
  unfold dropE
  rw [List.take_succ_eq_append_getElem h, List.filter_append]
  congr 1
  by_cases hk : keepV b v es[k] = true
  · rw [if_pos hk]; simp [hk]
  · rw [if_neg hk]; simp [hk]
theorem dropE_len (b : Bool) (v : Int) (es : List E3) : (dropE b v es).length ≤ es.length := List.length_filter_le _ _
theorem dropE_no (v : Int) (es : List E3) : dropE false v es = es := by
  unfold dropE
  rw [List.filter_eq_self]
  intro e _; unfold keepV; simp
set_option maxRecDepth 100000 in
set_option maxHeartbeats 8000000 in
theorem f_implDropYes (m : Int) (nil : Bool) (es : List E3) (v : Int) (hg : gOk m es = true) (hv : hasV m v = true) : Fn Tryd.prog 20 [graphP m nil es, iP v] (.tup [graphP m (decide (dropE true v es = [])) (dropE true v es), .one (bool true)]) := by
  have hl40 := gOk_len hg
  have KG := f_implGraphValid m nil es (by simp only [maxLen]; omega)
  have KH := f_implHasH m nil es v
  rw [hg] at KG
  rw [hv] at KH
  have hlen := edges_len es
  clear hg hv
  refine fn_of (l := [.cell 4 25, .tmp 5]) Tryd.func20 (by kernel_rfl) rfl Tryd.ntmps20 rfl rfl ?_; simp only [argEnv, P0.d, Nat.reduceAdd, graphP, List.map_cons, List.map_nil]
  repeat' (first | (with_reducible first | refine aw_seq ?_ | refine thn_normal ?_ | refine thn_ret ?_ | refine thn_exit ?_ | refine blk_normal ?_ | refine blk_ret ?_ | refine blk_hit ?_ | refine blk_miss rfl ?_ | refine aw_block ?_ | refine aw_ret ?_ | refine aw_skip ?_ | refine aw_exit ?_ | refine w_nil ?_ | refine x_nil (by kernel_rfl) ?_) | refine aw_region ?_ | refine aw_region_draw (by kernel_rfl) ?_ | refine aw_yes rfl ?_ | refine aw_no rfl ?_ | ((with_reducible refine w_seq ?_); first | refine r_q tbOk rfl rfl rfl rfl ?_ | refine r_e tbOk rfl rfl rfl rfl rfl ?_ | refine r_yes tbOk rfl rfl rfl rfl rfl rfl ?_ | refine w_no rfl rfl (lookO_spec rfl) rfl rfl rfl ?_ | refine w_un rfl rfl (lookO_spec rfl) rfl rfl ?_) | ((with_reducible refine w_drw ?_); first | refine rx_q tbOk rfl rfl rfl rfl ?_ | refine rx_e tbOk rfl rfl rfl rfl rfl ?_ | refine rx_yes tbOk rfl rfl rfl rfl rfl rfl ?_ | refine x_no rfl rfl (lookO_spec rfl) rfl rfl rfl ?_ | refine x_un rfl rfl (lookO_spec rfl) rfl rfl ?_) | ((first | refine' w_q rfl rfl ?xa rfl ?_ | refine' v_q rfl rfl ?xa rfl ?_ | refine' w_yes rfl rfl (lookO_spec rfl) rfl ?xa rfl ?_ | refine' v_yes rfl rfl (lookO_spec rfl) rfl ?xa rfl ?_); case xa => first | exact k_call KG rfl ⟨asA_agg (evO_spec rfl) ⟨cAr_r, cAr_r, trivial⟩, trivial⟩ | exact k_call KH rfl ⟨asA_agg (evO_spec rfl) ⟨cAr_r, cAr_r, trivial⟩, asA_r (evO_spec rfl), trivial⟩) | ((first | refine aw_ways rfl ?_ ?_ | refine r_split rfl rfl rfl ?_ ?_) <;> intro hg_ <;> fail_if_success (exact Bool.noConfusion hg_)) <;> (try simp only [prn] at hg_) <;> (try first | contradiction | (exfalso; omega)))
  obtain ⟨S0, hS0⟩ : ∃ S0 : Nat → St, ∀ k : Nat, S0 k = mkS 47 [(25, .one (.r true (int k))), (24, .one (.r true (int (edges es).length))), (23, .one (.r false (row nil 3 (edges es)))), (6, .one (.ptr 6 0 0 0)), (4, .one (.ptr 4 0 0 0)), (1, .one (.r false (int v)))] [(6, .var 25 [.r false (int m), .r true (row true 0 [])]), (4, .var 25 [.r true (int 0), .r true (row true 0 [])])] := ⟨_, fun _ => rfl⟩
  obtain ⟨S1, hS1⟩ : ∃ S1 : Nat → List E3 → St, ∀ (k : Nat) (K : List E3), S1 k K = mkS 47 [(25, .one (.r true (int k))), (24, .one (.r true (int (edges es).length))), (23, .one (.r false (row nil 3 (edges es)))), (6, .one (.ptr 6 0 0 0)), (4, .one (.ptr 4 0 0 0)), (1, .one (.r false (int v)))] [(6, .var 25 [.r false (int m), .own 100 0 K.length 3]), (100, .sl 33 3 true (edges K)), (4, .var 25 [.r true (int 0), .r true (row true 0 [])])] := ⟨_, fun _ _ => rfl⟩
  obtain ⟨F, hF⟩ : ∃ F : Nat → St, ∀ k : Nat, F k = if dropE true v (es.take k) = [] then S0 k else S1 k (dropE true v (es.take k)) := ⟨_, fun _ => rfl⟩
  refine aw_loopI (fun k : Nat => k ≤ es.length) F (fun k => es.length - k) 0 (Nat.zero_le _) ?_ ?_
  · rw [hF, if_pos (by rw [List.take_zero]; rfl), hS0]
    (refine weak_ren [] rfl ?_ ?_ <;> repeat' (first | exact trivial | refine subR_cons rfl ?_ ?_ | refine subHR_cons rfl ?_ ?_ | rfl | (refine d_int ?_; (first | rfl | omega | (rw [IntWalk.i64_in _ (by omega)] <;> omega) | (simp; done) | (simp; omega))) | (refine d_bool ?_; (first | (simp_all; done) | (rw [Bool.eq_iff_iff]; simp_all; done) | (rw [Bool.eq_iff_iff]; simp_all; omega) | (rw [Bool.eq_iff_iff]; simp; omega)))))
  · intro k hk
    by_cases hlt : k < es.length
    · have hix := edges_at hlt
      have hst := dropE_step true v hlt
      have hll := dropE_len true v (es.take k)
      rw [List.length_take] at hll
      have hfin : ∀ s' : St, Weak s' (F (k + 1)) → ∃ x', x' ≤ es.length ∧ Weak s' (F x') ∧ es.length - x' < es.length - k := fun s' h => ⟨k + 1, by omega, h, by omega⟩
      rw [hF (k + 1), hst] at hfin
      rw [hF k]
      have hw : IntKind.i64.wrap ((k : Int) + 1) = ((k + 1 : Nat) : Int) := by rw [IntWalk.i64_in _ (by omega)]; omega
      clear hst
      generalize es[k] = e at *
      obtain ⟨a, b, c⟩ := e
      generalize dropE true v (es.take k) = K at *
      have hlK := edges_len K
      clear hF
      by_cases hK : K = []
      · subst hK
        rw [if_pos rfl, hS0]
        by_cases hq : keepV true v (a, b, c) = true
        · rw [if_pos hq, if_neg (by simp), hS1] at hfin
          clear hS0 hS1
          repeat' (first | (with_reducible first | refine aw_seq ?_ | refine thn_normal ?_ | refine thn_ret ?_ | refine thn_exit ?_ | refine blk_normal ?_ | refine blk_ret ?_ | refine blk_hit ?_ | refine blk_miss rfl ?_ | refine aw_block ?_ | refine aw_ret ?_ | refine aw_skip ?_ | refine aw_exit ?_ | refine w_nil ?_ | refine x_nil (by kernel_rfl) ?_) | refine aw_region ?_ | refine aw_region_draw (by kernel_rfl) ?_ | refine aw_yes rfl ?_ | refine aw_no rfl ?_ | ((with_reducible refine w_seq ?_); first | refine r_q tbOk rfl rfl rfl rfl ?_ | refine r_e tbOk rfl rfl rfl rfl rfl ?_ | refine r_yes tbOk rfl rfl rfl rfl rfl rfl ?_ | refine w_no rfl rfl (lookO_spec rfl) rfl rfl rfl ?_ | refine w_un rfl rfl (lookO_spec rfl) rfl rfl ?_) | ((with_reducible refine w_drw ?_); first | refine rx_q tbOk rfl rfl rfl rfl ?_ | refine rx_e tbOk rfl rfl rfl rfl rfl ?_ | refine rx_yes tbOk rfl rfl rfl rfl rfl rfl ?_ | refine x_no rfl rfl (lookO_spec rfl) rfl rfl rfl ?_ | refine x_un rfl rfl (lookO_spec rfl) rfl rfl ?_) | ((first | refine' w_q rfl rfl ?xa rfl ?_ | refine' v_q rfl rfl ?xa rfl ?_ | refine' w_yes rfl rfl (lookO_spec rfl) rfl ?xa rfl ?_ | refine' v_yes rfl rfl (lookO_spec rfl) rfl ?xa rfl ?_); case xa => exact k_index tbOk rfl rfl rfl rfl (by omega) (by exact hix)) | ((first | refine' w_e rfl ?xa ?xb ?xc ?xe ?_ | refine' v_e rfl ?xa ?xb ?xc ?xe ?_); (case xa => first | exact e_build [.tmp 41] tlOk rfl rfl rfl rfl rfl rfl (allN_one rfl) (by simp) | exact e_append_nil tlOk rfl rfl rfl rfl rfl (slD_plain (slD_own (lookHO_spec rfl) rfl) (edge1_plain _ _ _)) (by simp) (by simp only [maxLen, List.length_cons, List.length_nil]; omega) (by simp only [List.length_cons, List.length_nil]; omega)); (case xb => rfl); (case xc => rfl); (case xe => rfl); try dsimp only [P0.d, Res.d, List.map_cons, List.map_nil, List.set_cons_zero, List.set_cons_succ, Nat.reduceAdd]) | ((first | refine aw_ways rfl ?_ ?_ | refine r_split rfl rfl rfl ?_ ?_) <;> intro hg_ <;> fail_if_success (exact Bool.noConfusion hg_)) <;> (try simp only [prn] at hg_) <;> (try first | contradiction | (exfalso; omega)))
          all_goals first
            | (refine hfin _ ?_
               (refine weak_ren [(100, 43)] rfl ?_ ?_ <;> repeat' (first | exact trivial | refine subR_cons rfl ?_ ?_ | refine subHR_cons rfl ?_ ?_ | rfl | (refine d_int ?_; (first | rfl | omega | (rw [IntWalk.i64_in _ (by omega)] <;> omega) | (simp; done) | (simp; omega))) | (refine d_bool ?_; (first | (simp_all; done) | (rw [Bool.eq_iff_iff]; simp_all; done) | (rw [Bool.eq_iff_iff]; simp_all; omega) | (rw [Bool.eq_iff_iff]; simp; omega))) | exact d_int hw | exact ob_sl rfl rfl)); done)
            | (exfalso; simp [keepV] at *; omega)
            | trace_state
        · rw [if_neg hq, if_pos (by simp), hS0] at hfin
          clear hS0 hS1
          repeat' (first | (with_reducible first | refine aw_seq ?_ | refine thn_normal ?_ | refine thn_ret ?_ | refine thn_exit ?_ | refine blk_normal ?_ | refine blk_ret ?_ | refine blk_hit ?_ | refine blk_miss rfl ?_ | refine aw_block ?_ | refine aw_ret ?_ | refine aw_skip ?_ | refine aw_exit ?_ | refine w_nil ?_ | refine x_nil (by kernel_rfl) ?_) | refine aw_region ?_ | refine aw_region_draw (by kernel_rfl) ?_ | refine aw_yes rfl ?_ | refine aw_no rfl ?_ | ((with_reducible refine w_seq ?_); first | refine r_q tbOk rfl rfl rfl rfl ?_ | refine r_e tbOk rfl rfl rfl rfl rfl ?_ | refine r_yes tbOk rfl rfl rfl rfl rfl rfl ?_ | refine w_no rfl rfl (lookO_spec rfl) rfl rfl rfl ?_ | refine w_un rfl rfl (lookO_spec rfl) rfl rfl ?_) | ((with_reducible refine w_drw ?_); first | refine rx_q tbOk rfl rfl rfl rfl ?_ | refine rx_e tbOk rfl rfl rfl rfl rfl ?_ | refine rx_yes tbOk rfl rfl rfl rfl rfl rfl ?_ | refine x_no rfl rfl (lookO_spec rfl) rfl rfl rfl ?_ | refine x_un rfl rfl (lookO_spec rfl) rfl rfl ?_) | ((first | refine' w_q rfl rfl ?xa rfl ?_ | refine' v_q rfl rfl ?xa rfl ?_ | refine' w_yes rfl rfl (lookO_spec rfl) rfl ?xa rfl ?_ | refine' v_yes rfl rfl (lookO_spec rfl) rfl ?xa rfl ?_); case xa => exact k_index tbOk rfl rfl rfl rfl (by omega) (by exact hix)) | ((first | refine' w_e rfl ?xa ?xb ?xc ?xe ?_ | refine' v_e rfl ?xa ?xb ?xc ?xe ?_); (case xa => first | exact e_build [.tmp 41] tlOk rfl rfl rfl rfl rfl rfl (allN_one rfl) (by simp) | exact e_append_nil tlOk rfl rfl rfl rfl rfl (slD_plain (slD_own (lookHO_spec rfl) rfl) (edge1_plain _ _ _)) (by simp) (by simp only [maxLen, List.length_cons, List.length_nil]; omega) (by simp only [List.length_cons, List.length_nil]; omega)); (case xb => rfl); (case xc => rfl); (case xe => rfl); try dsimp only [P0.d, Res.d, List.map_cons, List.map_nil, List.set_cons_zero, List.set_cons_succ, Nat.reduceAdd]) | ((first | refine aw_ways rfl ?_ ?_ | refine r_split rfl rfl rfl ?_ ?_) <;> intro hg_ <;> fail_if_success (exact Bool.noConfusion hg_)) <;> (try simp only [prn] at hg_) <;> (try first | contradiction | (exfalso; omega)))
          all_goals first
            | (refine hfin _ ?_
               (refine weak_ren [] rfl ?_ ?_ <;> repeat' (first | exact trivial | refine subR_cons rfl ?_ ?_ | refine subHR_cons rfl ?_ ?_ | rfl | (refine d_int ?_; (first | rfl | omega | (rw [IntWalk.i64_in _ (by omega)] <;> omega) | (simp; done) | (simp; omega))) | (refine d_bool ?_; (first | (simp_all; done) | (rw [Bool.eq_iff_iff]; simp_all; done) | (rw [Bool.eq_iff_iff]; simp_all; omega) | (rw [Bool.eq_iff_iff]; simp; omega))) | exact d_int hw)); done)
            | (exfalso; simp [keepV] at *; omega)
            | trace_state
      · rw [if_neg hK, hS1]
        by_cases hq : keepV true v (a, b, c) = true
        · rw [if_pos hq, if_neg (by simp), hS1] at hfin
          clear hS0 hS1
          repeat' (first | (with_reducible first | refine aw_seq ?_ | refine thn_normal ?_ | refine thn_ret ?_ | refine thn_exit ?_ | refine blk_normal ?_ | refine blk_ret ?_ | refine blk_hit ?_ | refine blk_miss rfl ?_ | refine aw_block ?_ | refine aw_ret ?_ | refine aw_skip ?_ | refine aw_exit ?_ | refine w_nil ?_ | refine x_nil (by kernel_rfl) ?_) | refine aw_region ?_ | refine aw_region_draw (by kernel_rfl) ?_ | refine aw_yes rfl ?_ | refine aw_no rfl ?_ | ((with_reducible refine w_seq ?_); first | refine r_q tbOk rfl rfl rfl rfl ?_ | refine r_e tbOk rfl rfl rfl rfl rfl ?_ | refine r_yes tbOk rfl rfl rfl rfl rfl rfl ?_ | refine w_no rfl rfl (lookO_spec rfl) rfl rfl rfl ?_ | refine w_un rfl rfl (lookO_spec rfl) rfl rfl ?_) | ((with_reducible refine w_drw ?_); first | refine rx_q tbOk rfl rfl rfl rfl ?_ | refine rx_e tbOk rfl rfl rfl rfl rfl ?_ | refine rx_yes tbOk rfl rfl rfl rfl rfl rfl ?_ | refine x_no rfl rfl (lookO_spec rfl) rfl rfl rfl ?_ | refine x_un rfl rfl (lookO_spec rfl) rfl rfl ?_) | ((first | refine' w_q rfl rfl ?xa rfl ?_ | refine' v_q rfl rfl ?xa rfl ?_ | refine' w_yes rfl rfl (lookO_spec rfl) rfl ?xa rfl ?_ | refine' v_yes rfl rfl (lookO_spec rfl) rfl ?xa rfl ?_); case xa => exact k_index tbOk rfl rfl rfl rfl (by omega) (by exact hix)) | ((first | refine' w_e rfl ?xa ?xb ?xc ?xe ?_ | refine' v_e rfl ?xa ?xb ?xc ?xe ?_); (case xa => first | exact e_build [.tmp 41] tlOk rfl rfl rfl rfl rfl rfl (allN_one rfl) (by simp) | exact e_append tlOk rfl rfl rfl rfl rfl rfl (slD_plain (slD_own (lookHO_spec rfl) rfl) (edge1_plain _ _ _)) hlK.symm (by simp only [maxLen, List.length_cons, List.length_nil]; omega) (by simp only [List.length_cons, List.length_nil]; omega)); (case xb => rfl); (case xc => rfl); (case xe => rfl); try dsimp only [P0.d, Res.d, List.map_cons, List.map_nil, List.set_cons_zero, List.set_cons_succ, Nat.reduceAdd]) | ((first | refine aw_ways rfl ?_ ?_ | refine r_split rfl rfl rfl ?_ ?_) <;> intro hg_ <;> fail_if_success (exact Bool.noConfusion hg_)) <;> (try simp only [prn] at hg_) <;> (try first | contradiction | (exfalso; omega)))
          all_goals first
            | (refine hfin _ ?_
               (refine weak_ren [(100, 43)] rfl ?_ ?_ <;> repeat' (first | exact trivial | refine subR_cons rfl ?_ ?_ | refine subHR_cons rfl ?_ ?_ | rfl | (refine d_int ?_; (first | rfl | omega | (rw [IntWalk.i64_in _ (by omega)] <;> omega) | (simp; done) | (simp; omega))) | (refine d_bool ?_; (first | (simp_all; done) | (rw [Bool.eq_iff_iff]; simp_all; done) | (rw [Bool.eq_iff_iff]; simp_all; omega) | (rw [Bool.eq_iff_iff]; simp; omega))) | exact d_int hw | exact ob_sl rfl (edges_app K (a, b, c)).symm | exact gvar2 rfl (cell_own (by simp [hlK])))); done)
            | (exfalso; simp [keepV] at *; omega)
            | trace_state
        · rw [if_neg hq, List.append_nil, if_neg hK, hS1] at hfin
          clear hS0 hS1
          repeat' (first | (with_reducible first | refine aw_seq ?_ | refine thn_normal ?_ | refine thn_ret ?_ | refine thn_exit ?_ | refine blk_normal ?_ | refine blk_ret ?_ | refine blk_hit ?_ | refine blk_miss rfl ?_ | refine aw_block ?_ | refine aw_ret ?_ | refine aw_skip ?_ | refine aw_exit ?_ | refine w_nil ?_ | refine x_nil (by kernel_rfl) ?_) | refine aw_region ?_ | refine aw_region_draw (by kernel_rfl) ?_ | refine aw_yes rfl ?_ | refine aw_no rfl ?_ | ((with_reducible refine w_seq ?_); first | refine r_q tbOk rfl rfl rfl rfl ?_ | refine r_e tbOk rfl rfl rfl rfl rfl ?_ | refine r_yes tbOk rfl rfl rfl rfl rfl rfl ?_ | refine w_no rfl rfl (lookO_spec rfl) rfl rfl rfl ?_ | refine w_un rfl rfl (lookO_spec rfl) rfl rfl ?_) | ((with_reducible refine w_drw ?_); first | refine rx_q tbOk rfl rfl rfl rfl ?_ | refine rx_e tbOk rfl rfl rfl rfl rfl ?_ | refine rx_yes tbOk rfl rfl rfl rfl rfl rfl ?_ | refine x_no rfl rfl (lookO_spec rfl) rfl rfl rfl ?_ | refine x_un rfl rfl (lookO_spec rfl) rfl rfl ?_) | ((first | refine' w_q rfl rfl ?xa rfl ?_ | refine' v_q rfl rfl ?xa rfl ?_ | refine' w_yes rfl rfl (lookO_spec rfl) rfl ?xa rfl ?_ | refine' v_yes rfl rfl (lookO_spec rfl) rfl ?xa rfl ?_); case xa => exact k_index tbOk rfl rfl rfl rfl (by omega) (by exact hix)) | ((first | refine' w_e rfl ?xa ?xb ?xc ?xe ?_ | refine' v_e rfl ?xa ?xb ?xc ?xe ?_); (case xa => first | exact e_build [.tmp 41] tlOk rfl rfl rfl rfl rfl rfl (allN_one rfl) (by simp) | exact e_append tlOk rfl rfl rfl rfl rfl rfl (slD_plain (slD_own (lookHO_spec rfl) rfl) (edge1_plain _ _ _)) hlK.symm (by simp only [maxLen, List.length_cons, List.length_nil]; omega) (by simp only [List.length_cons, List.length_nil]; omega)); (case xb => rfl); (case xc => rfl); (case xe => rfl); try dsimp only [P0.d, Res.d, List.map_cons, List.map_nil, List.set_cons_zero, List.set_cons_succ, Nat.reduceAdd]) | ((first | refine aw_ways rfl ?_ ?_ | refine r_split rfl rfl rfl ?_ ?_) <;> intro hg_ <;> fail_if_success (exact Bool.noConfusion hg_)) <;> (try simp only [prn] at hg_) <;> (try first | contradiction | (exfalso; omega)))
          all_goals first
            | (refine hfin _ ?_
               (refine weak_ren [(100, 100)] rfl ?_ ?_ <;> repeat' (first | exact trivial | refine subR_cons rfl ?_ ?_ | refine subHR_cons rfl ?_ ?_ | rfl | (refine d_int ?_; (first | rfl | omega | (rw [IntWalk.i64_in _ (by omega)] <;> omega) | (simp; done) | (simp; omega))) | (refine d_bool ?_; (first | (simp_all; done) | (rw [Bool.eq_iff_iff]; simp_all; done) | (rw [Bool.eq_iff_iff]; simp_all; omega) | (rw [Bool.eq_iff_iff]; simp; omega))) | exact d_int hw)); done)
            | (exfalso; simp [keepV] at *; omega)
            | trace_state
    · rw [hF k, List.take_of_length_le (by omega)]
      clear hF
      generalize dropE true v es = K at *
      have hlK := edges_len K
      by_cases hK : K = []
      · subst hK
        rw [if_pos rfl, hS0]
        clear hS0 hS1
        repeat' (first | (with_reducible first | refine aw_seq ?_ | refine thn_normal ?_ | refine thn_ret ?_ | refine thn_exit ?_ | refine blk_normal ?_ | refine blk_ret ?_ | refine blk_hit ?_ | refine blk_miss rfl ?_ | refine aw_block ?_ | refine aw_ret ?_ | refine aw_skip ?_ | refine aw_exit ?_ | refine w_nil ?_ | refine x_nil (by kernel_rfl) ?_) | refine aw_region ?_ | refine aw_region_draw (by kernel_rfl) ?_ | refine aw_yes rfl ?_ | refine aw_no rfl ?_ | ((with_reducible refine w_seq ?_); first | refine r_q tbOk rfl rfl rfl rfl ?_ | refine r_e tbOk rfl rfl rfl rfl rfl ?_ | refine r_yes tbOk rfl rfl rfl rfl rfl rfl ?_ | refine w_no rfl rfl (lookO_spec rfl) rfl rfl rfl ?_ | refine w_un rfl rfl (lookO_spec rfl) rfl rfl ?_) | ((with_reducible refine w_drw ?_); first | refine rx_q tbOk rfl rfl rfl rfl ?_ | refine rx_e tbOk rfl rfl rfl rfl rfl ?_ | refine rx_yes tbOk rfl rfl rfl rfl rfl rfl ?_ | refine x_no rfl rfl (lookO_spec rfl) rfl rfl rfl ?_ | refine x_un rfl rfl (lookO_spec rfl) rfl rfl ?_) | ((first | refine aw_ways rfl ?_ ?_ | refine r_split rfl rfl rfl ?_ ?_) <;> intro hg_ <;> fail_if_success (exact Bool.noConfusion hg_)) <;> (try simp only [prn] at hg_) <;> (try first | contradiction | (exfalso; omega)))
        all_goals first
          | exact ret_2 (rv_cell rfl rfl (by (with_reducible first | exact ty3 | exact ty4 | exact ty5 | exact ty9 | exact ty17 | exact ty19 | exact ty22 | exact ty23 | exact ty25 | exact ty28 | exact ty33 | exact ty48 | exact ty50 | exact ty57 | exact ty61 | exact ty67 | exact ty68 | exact ty69 | exact ty85 | exact ty95 | exact ty97)) rfl rfl rfl (dres_agg (by exact ⟨cres_val, cres_nil, trivial⟩))) (rv_tmp rfl (dres_bool rfl))
          | trace_state
      · rw [if_neg hK, hS1]
        rw [decide_eq_false hK]
        clear hS0 hS1
        repeat' (first | (with_reducible first | refine aw_seq ?_ | refine thn_normal ?_ | refine thn_ret ?_ | refine thn_exit ?_ | refine blk_normal ?_ | refine blk_ret ?_ | refine blk_hit ?_ | refine blk_miss rfl ?_ | refine aw_block ?_ | refine aw_ret ?_ | refine aw_skip ?_ | refine aw_exit ?_ | refine w_nil ?_ | refine x_nil (by kernel_rfl) ?_) | refine aw_region ?_ | refine aw_region_draw (by kernel_rfl) ?_ | refine aw_yes rfl ?_ | refine aw_no rfl ?_ | ((with_reducible refine w_seq ?_); first | refine r_q tbOk rfl rfl rfl rfl ?_ | refine r_e tbOk rfl rfl rfl rfl rfl ?_ | refine r_yes tbOk rfl rfl rfl rfl rfl rfl ?_ | refine w_no rfl rfl (lookO_spec rfl) rfl rfl rfl ?_ | refine w_un rfl rfl (lookO_spec rfl) rfl rfl ?_) | ((with_reducible refine w_drw ?_); first | refine rx_q tbOk rfl rfl rfl rfl ?_ | refine rx_e tbOk rfl rfl rfl rfl rfl ?_ | refine rx_yes tbOk rfl rfl rfl rfl rfl rfl ?_ | refine x_no rfl rfl (lookO_spec rfl) rfl rfl rfl ?_ | refine x_un rfl rfl (lookO_spec rfl) rfl rfl ?_) | ((first | refine aw_ways rfl ?_ ?_ | refine r_split rfl rfl rfl ?_ ?_) <;> intro hg_ <;> fail_if_success (exact Bool.noConfusion hg_)) <;> (try simp only [prn] at hg_) <;> (try first | contradiction | (exfalso; omega)))
        all_goals first
          | exact ret_2 (rv_cell rfl rfl (by (with_reducible first | exact ty3 | exact ty4 | exact ty5 | exact ty9 | exact ty17 | exact ty19 | exact ty22 | exact ty23 | exact ty25 | exact ty28 | exact ty33 | exact ty48 | exact ty50 | exact ty57 | exact ty61 | exact ty67 | exact ty68 | exact ty69 | exact ty85 | exact ty95 | exact ty97)) rfl rfl rfl (dres_agg (by exact ⟨cres_val, cres_own0 (lookHO_spec rfl) hlK.symm, trivial⟩))) (rv_tmp rfl (dres_bool rfl))
          | trace_state
set_option maxRecDepth 100000 in
set_option maxHeartbeats 4000000 in
theorem f_implDropNo (m : Int) (nil : Bool) (es : List E3) (v : Int) (hn : nil = true → es = []) (hg : gOk m es = true) (hv : hasV m v = false) : Fn Tryd.prog 20 [graphP m nil es, iP v] (.tup [graphP m nil es, .one (bool false)]) := by
  have hl40 := gOk_len hg
  have KG := f_implGraphValid m nil es (by simp only [maxLen]; omega)
  have KH := f_implHasH m nil es v
  have KC := f_copiedG m nil es hn (by omega)
  rw [hg] at KG
  rw [hv] at KH
  refine fn_of (l := [.cell 4 25, .tmp 5]) Tryd.func20 (by kernel_rfl) rfl Tryd.ntmps20 rfl rfl ?_; simp only [argEnv, P0.d, Nat.reduceAdd, graphP, List.map_cons, List.map_nil]
  repeat' (first | (with_reducible first | refine aw_seq ?_ | refine thn_normal ?_ | refine thn_ret ?_ | refine thn_exit ?_ | refine blk_normal ?_ | refine blk_ret ?_ | refine blk_hit ?_ | refine blk_miss rfl ?_ | refine aw_block ?_ | refine aw_ret ?_ | refine aw_skip ?_ | refine aw_exit ?_ | refine w_nil ?_ | refine x_nil (by kernel_rfl) ?_) | refine aw_region ?_ | refine aw_region_draw (by kernel_rfl) ?_ | refine aw_yes rfl ?_ | refine aw_no rfl ?_ | ((with_reducible refine w_seq ?_); first | refine r_q tbOk rfl rfl rfl rfl ?_ | refine r_e tbOk rfl rfl rfl rfl rfl ?_ | refine r_yes tbOk rfl rfl rfl rfl rfl rfl ?_ | refine w_no rfl rfl (lookO_spec rfl) rfl rfl rfl ?_ | refine w_un rfl rfl (lookO_spec rfl) rfl rfl ?_) | ((with_reducible refine w_drw ?_); first | refine rx_q tbOk rfl rfl rfl rfl ?_ | refine rx_e tbOk rfl rfl rfl rfl rfl ?_ | refine rx_yes tbOk rfl rfl rfl rfl rfl rfl ?_ | refine x_no rfl rfl (lookO_spec rfl) rfl rfl rfl ?_ | refine x_un rfl rfl (lookO_spec rfl) rfl rfl ?_) | ((first | refine' w_q rfl rfl ?xa rfl ?_ | refine' v_q rfl rfl ?xa rfl ?_ | refine' w_yes rfl rfl (lookO_spec rfl) rfl ?xa rfl ?_ | refine' v_yes rfl rfl (lookO_spec rfl) rfl ?xa rfl ?_); case xa => first | exact k_call KG rfl ⟨asA_agg (evO_spec rfl) ⟨cAr_r, cAr_r, trivial⟩, trivial⟩ | exact k_call KH rfl ⟨asA_agg (evO_spec rfl) ⟨cAr_r, cAr_r, trivial⟩, asA_r (evO_spec rfl), trivial⟩ | exact k_call KC rfl ⟨asA_agg (evO_spec rfl) ⟨cAr_r, cAr_r, trivial⟩, trivial⟩) | ((first | refine aw_ways rfl ?_ ?_ | refine r_split rfl rfl rfl ?_ ?_) <;> intro hg_ <;> fail_if_success (exact Bool.noConfusion hg_)) <;> (try simp only [prn] at hg_) <;> (try first | contradiction | (exfalso; omega)))
  all_goals first
    | exact ret_2 (rv_cell rfl rfl (by (with_reducible first | exact ty3 | exact ty4 | exact ty5 | exact ty9 | exact ty17 | exact ty19 | exact ty22 | exact ty23 | exact ty25 | exact ty28 | exact ty33 | exact ty48 | exact ty50 | exact ty57 | exact ty61 | exact ty67 | exact ty68 | exact ty69 | exact ty85 | exact ty95 | exact ty97)) rfl rfl rfl (dres_agg (by exact ⟨cres_val, cres_new, trivial⟩))) (rv_tmp rfl (dres_bool rfl))
    | trace_state
set_option maxRecDepth 100000 in
set_option maxHeartbeats 4000000 in
theorem f_implDropBad (m : Int) (nil : Bool) (es : List E3) (v : Int) (hl : es.length ≤ 1048576) (hg : gOk m es = false) : Fn Tryd.prog 20 [graphP m nil es, iP v] (.tup [graphP 0 true [], .one (bool false)]) := by
  have KG := f_implGraphValid m nil es (by simp only [maxLen]; omega)
  rw [hg] at KG
  refine fn_of (l := [.cell 4 25, .tmp 5]) Tryd.func20 (by kernel_rfl) rfl Tryd.ntmps20 rfl rfl ?_; simp only [argEnv, P0.d, Nat.reduceAdd, graphP, List.map_cons, List.map_nil]
  repeat' (first | (with_reducible first | refine aw_seq ?_ | refine thn_normal ?_ | refine thn_ret ?_ | refine thn_exit ?_ | refine blk_normal ?_ | refine blk_ret ?_ | refine blk_hit ?_ | refine blk_miss rfl ?_ | refine aw_block ?_ | refine aw_ret ?_ | refine aw_skip ?_ | refine aw_exit ?_ | refine w_nil ?_ | refine x_nil (by kernel_rfl) ?_) | refine aw_region ?_ | refine aw_region_draw (by kernel_rfl) ?_ | refine aw_yes rfl ?_ | refine aw_no rfl ?_ | ((with_reducible refine w_seq ?_); first | refine r_q tbOk rfl rfl rfl rfl ?_ | refine r_e tbOk rfl rfl rfl rfl rfl ?_ | refine r_yes tbOk rfl rfl rfl rfl rfl rfl ?_ | refine w_no rfl rfl (lookO_spec rfl) rfl rfl rfl ?_ | refine w_un rfl rfl (lookO_spec rfl) rfl rfl ?_) | ((with_reducible refine w_drw ?_); first | refine rx_q tbOk rfl rfl rfl rfl ?_ | refine rx_e tbOk rfl rfl rfl rfl rfl ?_ | refine rx_yes tbOk rfl rfl rfl rfl rfl rfl ?_ | refine x_no rfl rfl (lookO_spec rfl) rfl rfl rfl ?_ | refine x_un rfl rfl (lookO_spec rfl) rfl rfl ?_) | ((first | refine' w_q rfl rfl ?xa rfl ?_ | refine' v_q rfl rfl ?xa rfl ?_ | refine' w_yes rfl rfl (lookO_spec rfl) rfl ?xa rfl ?_ | refine' v_yes rfl rfl (lookO_spec rfl) rfl ?xa rfl ?_); case xa => exact k_call KG rfl ⟨asA_agg (evO_spec rfl) ⟨cAr_r, cAr_r, trivial⟩, trivial⟩) | ((first | refine aw_ways rfl ?_ ?_ | refine r_split rfl rfl rfl ?_ ?_) <;> intro hg_ <;> fail_if_success (exact Bool.noConfusion hg_)) <;> (try simp only [prn] at hg_) <;> (try first | contradiction | (exfalso; omega)))
  all_goals first
    | exact ret_2 (rv_cell rfl rfl (by (with_reducible first | exact ty3 | exact ty4 | exact ty5 | exact ty9 | exact ty17 | exact ty19 | exact ty22 | exact ty23 | exact ty25 | exact ty28 | exact ty33 | exact ty48 | exact ty50 | exact ty57 | exact ty61 | exact ty67 | exact ty68 | exact ty69 | exact ty85 | exact ty95 | exact ty97)) rfl rfl rfl (dres_agg (by exact ⟨cres_val, cres_nil, trivial⟩))) (rv_tmp rfl (dres_bool rfl))
    | trace_state
set_option maxRecDepth 100000 in
set_option maxHeartbeats 8000000 in
theorem f_specDropOk (m : Int) (nil : Bool) (es : List E3) (v : Int) (hg : gOk m es = true) : Fn Tryd.prog 21 [graphP m nil es, iP v] (.tup [graphP m (decide (dropE (inR 0 (m - 1) v) v es = [])) (dropE (inR 0 (m - 1) v) v es), .one (bool (inR 0 (m - 1) v))]) := by
  have hl40 := gOk_len hg
  have hgm := gOk_m hg
  have KO := f_ownGraph m nil es (by omega)
  have KG := f_specGraphValid m false es (by simp only [maxLen]; omega)
  have hwm : IntKind.i64.wrap (m - 1) = m - 1 := IntWalk.i64_in _ (by omega)
  have KL := f_l1In v 0 (m - 1)
  rw [hg] at KG
  have hlen := edges_len es
  clear hg
  generalize inR 0 (m - 1) v = B at *
  refine fn_of (l := [.cell 4 25, .tmp 5]) Tryd.func21 (by kernel_rfl) rfl Tryd.ntmps21 rfl rfl ?_; simp only [argEnv, P0.d, Nat.reduceAdd, graphP, List.map_cons, List.map_nil]
  repeat' (first | (with_reducible first | refine aw_seq ?_ | refine thn_normal ?_ | refine thn_ret ?_ | refine thn_exit ?_ | refine blk_normal ?_ | refine blk_ret ?_ | refine blk_hit ?_ | refine blk_miss rfl ?_ | refine aw_block ?_ | refine aw_ret ?_ | refine aw_skip ?_ | refine aw_exit ?_ | refine w_nil ?_ | refine x_nil (by kernel_rfl) ?_) | refine aw_region ?_ | refine aw_region_draw (by kernel_rfl) ?_ | refine aw_yes rfl ?_ | refine aw_no rfl ?_ | ((with_reducible refine w_seq ?_); first | refine r_q tbOk rfl rfl rfl rfl ?_ | refine r_e tbOk rfl rfl rfl rfl rfl ?_ | refine r_yes tbOk rfl rfl rfl rfl rfl rfl ?_ | refine w_no rfl rfl (lookO_spec rfl) rfl rfl rfl ?_ | refine w_un rfl rfl (lookO_spec rfl) rfl rfl ?_) | ((with_reducible refine w_drw ?_); first | refine rx_q tbOk rfl rfl rfl rfl ?_ | refine rx_e tbOk rfl rfl rfl rfl rfl ?_ | refine rx_yes tbOk rfl rfl rfl rfl rfl rfl ?_ | refine x_no rfl rfl (lookO_spec rfl) rfl rfl rfl ?_ | refine x_un rfl rfl (lookO_spec rfl) rfl rfl ?_) | ((first | refine' w_q rfl rfl ?xa rfl ?_ | refine' v_q rfl rfl ?xa rfl ?_ | refine' w_yes rfl rfl (lookO_spec rfl) rfl ?xa rfl ?_ | refine' v_yes rfl rfl (lookO_spec rfl) rfl ?xa rfl ?_); case xa => first | exact k_call KO rfl ⟨asA_agg (evO_spec rfl) ⟨cAr_r, cAr_r, trivial⟩, trivial⟩ | exact k_call KG rfl ⟨asA_agg (evO_spec rfl) ⟨cAr_r, cAr_r, trivial⟩, trivial⟩) | ((first | refine aw_ways rfl ?_ ?_ | refine r_split rfl rfl rfl ?_ ?_) <;> intro hg_ <;> fail_if_success (exact Bool.noConfusion hg_)) <;> (try simp only [prn] at hg_) <;> (try first | contradiction | (exfalso; omega)))
  obtain ⟨S0, hS0⟩ : ∃ S0 : Nat → St, ∀ k : Nat, S0 k = mkS 66 [(7, .one (.r true (int k))), (6, .one (.ptr 6 0 0 0)), (4, .one (.ptr 4 0 0 0)), (2, .one (.ptr 2 0 0 0)), (1, .one (.r false (int v)))] [(6, .var 25 [.r true (int m), .r true (row true 0 [])]), (4, .var 25 [.r true (int 0), .r true (row true 0 [])]), (2, .var 25 [.r true (int m), .r true (row false 3 (edges es))])] := ⟨_, fun _ => rfl⟩
  obtain ⟨S1, hS1⟩ : ∃ S1 : Nat → List E3 → St, ∀ (k : Nat) (K : List E3), S1 k K = mkS 66 [(7, .one (.r true (int k))), (6, .one (.ptr 6 0 0 0)), (4, .one (.ptr 4 0 0 0)), (2, .one (.ptr 2 0 0 0)), (1, .one (.r false (int v)))] [(6, .var 25 [.r true (int m), .own 100 0 K.length 3]), (100, .sl 33 3 true (edges K)), (4, .var 25 [.r true (int 0), .r true (row true 0 [])]), (2, .var 25 [.r true (int m), .r true (row false 3 (edges es))])] := ⟨_, fun _ _ => rfl⟩
  obtain ⟨F, hF⟩ : ∃ F : Nat → St, ∀ k : Nat, F k = if dropE B v (es.take k) = [] then S0 k else S1 k (dropE B v (es.take k)) := ⟨_, fun _ => rfl⟩
  refine aw_loopI (fun k : Nat => k ≤ es.length) F (fun k => es.length - k) 0 (Nat.zero_le _) ?_ ?_
  · rw [hF, if_pos (by rw [List.take_zero]; rfl), hS0]
    (refine weak_ren [] rfl ?_ ?_ <;> repeat' (first | exact trivial | refine subR_cons rfl ?_ ?_ | refine subHR_cons rfl ?_ ?_ | rfl | (refine d_int ?_; (first | rfl | omega | (rw [IntWalk.i64_in _ (by omega)] <;> omega) | (simp; done) | (simp; omega))) | (refine d_bool ?_; (first | (simp_all; done) | (rw [Bool.eq_iff_iff]; simp_all; done) | (rw [Bool.eq_iff_iff]; simp_all; omega) | (rw [Bool.eq_iff_iff]; simp; omega)))))
  · intro k hk
    by_cases hlt : k < es.length
    · have hix := edges_at hlt
      have hst := dropE_step B v hlt
      have hll := dropE_len B v (es.take k)
      rw [List.length_take] at hll
      have hfin : ∀ s' : St, Weak s' (F (k + 1)) → ∃ x', x' ≤ es.length ∧ Weak s' (F x') ∧ es.length - x' < es.length - k := fun s' h => ⟨k + 1, by omega, h, by omega⟩
      rw [hF (k + 1), hst] at hfin
      rw [hF k]
      have hw : IntKind.i64.wrap ((k : Int) + 1) = ((k + 1 : Nat) : Int) := by rw [IntWalk.i64_in _ (by omega)]; omega
      clear hst
      generalize es[k] = e at *
      obtain ⟨a, b, c⟩ := e
      generalize dropE B v (es.take k) = K at *
      have hlK := edges_len K
      clear hF
      by_cases hK : K = []
      · subst hK
        rw [if_pos rfl, hS0]
        by_cases hq : keepV B v (a, b, c) = true
        · rw [if_pos hq, if_neg (by simp), hS1] at hfin
          clear hS0 hS1
          repeat' (first | (with_reducible first | refine aw_seq ?_ | refine thn_normal ?_ | refine thn_ret ?_ | refine thn_exit ?_ | refine blk_normal ?_ | refine blk_ret ?_ | refine blk_hit ?_ | refine blk_miss rfl ?_ | refine aw_block ?_ | refine aw_ret ?_ | refine aw_skip ?_ | refine aw_exit ?_ | refine w_nil ?_ | refine x_nil (by kernel_rfl) ?_) | refine aw_region ?_ | refine aw_region_draw (by kernel_rfl) ?_ | refine aw_yes rfl ?_ | refine aw_no rfl ?_ | ((with_reducible refine w_seq ?_); first | refine r_q tbOk rfl rfl rfl rfl ?_ | refine r_e tbOk rfl rfl rfl rfl rfl ?_ | refine r_yes tbOk rfl rfl rfl rfl rfl rfl ?_ | refine w_no rfl rfl (lookO_spec rfl) rfl rfl rfl ?_ | refine w_un rfl rfl (lookO_spec rfl) rfl rfl ?_) | ((with_reducible refine w_drw ?_); first | refine rx_q tbOk rfl rfl rfl rfl ?_ | refine rx_e tbOk rfl rfl rfl rfl rfl ?_ | refine rx_yes tbOk rfl rfl rfl rfl rfl rfl ?_ | refine x_no rfl rfl (lookO_spec rfl) rfl rfl rfl ?_ | refine x_un rfl rfl (lookO_spec rfl) rfl rfl ?_) | ((first | refine' w_q rfl rfl ?xa rfl ?_ | refine' v_q rfl rfl ?xa rfl ?_ | refine' w_yes rfl rfl (lookO_spec rfl) rfl ?xa rfl ?_ | refine' v_yes rfl rfl (lookO_spec rfl) rfl ?xa rfl ?_); case xa => first | exact k_index tbOk rfl rfl rfl rfl (by omega) (by exact hix) | exact k_call KL rfl ⟨asA_r (evO_spec rfl), asA_r (evO_spec rfl), by rw [evO_spec rfl, hwm]; exact asArg_r, trivial⟩) | ((first | refine' w_e rfl ?xa ?xb ?xc ?xe ?_ | refine' v_e rfl ?xa ?xb ?xc ?xe ?_); (case xa => first | exact e_build [.tmp 56] tlOk rfl rfl rfl rfl rfl rfl (allN_one rfl) (by simp) | exact e_append_nil tlOk rfl rfl rfl rfl rfl (slD_plain (slD_own (lookHO_spec rfl) rfl) (edge1_plain _ _ _)) (by simp) (by simp only [maxLen, List.length_cons, List.length_nil]; omega) (by simp only [List.length_cons, List.length_nil]; omega)); (case xb => rfl); (case xc => rfl); (case xe => rfl); try dsimp only [P0.d, Res.d, List.map_cons, List.map_nil, List.set_cons_zero, List.set_cons_succ, Nat.reduceAdd]) | ((first | refine aw_ways rfl ?_ ?_ | refine r_split rfl rfl rfl ?_ ?_) <;> intro hg_ <;> fail_if_success (exact Bool.noConfusion hg_)) <;> (try simp only [prn] at hg_) <;> (try first | contradiction | (exfalso; omega)))
          all_goals first
            | (refine hfin _ ?_
               (refine weak_ren [(100, 58)] rfl ?_ ?_ <;> repeat' (first | exact trivial | refine subR_cons rfl ?_ ?_ | refine subHR_cons rfl ?_ ?_ | rfl | (refine d_int ?_; (first | rfl | omega | (rw [IntWalk.i64_in _ (by omega)] <;> omega) | (simp; done) | (simp; omega))) | (refine d_bool ?_; (first | (simp_all; done) | (rw [Bool.eq_iff_iff]; simp_all; done) | (rw [Bool.eq_iff_iff]; simp_all; omega) | (rw [Bool.eq_iff_iff]; simp; omega))) | exact d_int hw | exact ob_sl rfl rfl)); done)
            | (exfalso; clear hfin; cases B <;> simp [keepV] at * <;> omega)
            | trace_state
        · rw [if_neg hq, if_pos (by simp), hS0] at hfin
          clear hS0 hS1
          repeat' (first | (with_reducible first | refine aw_seq ?_ | refine thn_normal ?_ | refine thn_ret ?_ | refine thn_exit ?_ | refine blk_normal ?_ | refine blk_ret ?_ | refine blk_hit ?_ | refine blk_miss rfl ?_ | refine aw_block ?_ | refine aw_ret ?_ | refine aw_skip ?_ | refine aw_exit ?_ | refine w_nil ?_ | refine x_nil (by kernel_rfl) ?_) | refine aw_region ?_ | refine aw_region_draw (by kernel_rfl) ?_ | refine aw_yes rfl ?_ | refine aw_no rfl ?_ | ((with_reducible refine w_seq ?_); first | refine r_q tbOk rfl rfl rfl rfl ?_ | refine r_e tbOk rfl rfl rfl rfl rfl ?_ | refine r_yes tbOk rfl rfl rfl rfl rfl rfl ?_ | refine w_no rfl rfl (lookO_spec rfl) rfl rfl rfl ?_ | refine w_un rfl rfl (lookO_spec rfl) rfl rfl ?_) | ((with_reducible refine w_drw ?_); first | refine rx_q tbOk rfl rfl rfl rfl ?_ | refine rx_e tbOk rfl rfl rfl rfl rfl ?_ | refine rx_yes tbOk rfl rfl rfl rfl rfl rfl ?_ | refine x_no rfl rfl (lookO_spec rfl) rfl rfl rfl ?_ | refine x_un rfl rfl (lookO_spec rfl) rfl rfl ?_) | ((first | refine' w_q rfl rfl ?xa rfl ?_ | refine' v_q rfl rfl ?xa rfl ?_ | refine' w_yes rfl rfl (lookO_spec rfl) rfl ?xa rfl ?_ | refine' v_yes rfl rfl (lookO_spec rfl) rfl ?xa rfl ?_); case xa => first | exact k_index tbOk rfl rfl rfl rfl (by omega) (by exact hix) | exact k_call KL rfl ⟨asA_r (evO_spec rfl), asA_r (evO_spec rfl), by rw [evO_spec rfl, hwm]; exact asArg_r, trivial⟩) | ((first | refine' w_e rfl ?xa ?xb ?xc ?xe ?_ | refine' v_e rfl ?xa ?xb ?xc ?xe ?_); (case xa => first | exact e_build [.tmp 56] tlOk rfl rfl rfl rfl rfl rfl (allN_one rfl) (by simp) | exact e_append_nil tlOk rfl rfl rfl rfl rfl (slD_plain (slD_own (lookHO_spec rfl) rfl) (edge1_plain _ _ _)) (by simp) (by simp only [maxLen, List.length_cons, List.length_nil]; omega) (by simp only [List.length_cons, List.length_nil]; omega)); (case xb => rfl); (case xc => rfl); (case xe => rfl); try dsimp only [P0.d, Res.d, List.map_cons, List.map_nil, List.set_cons_zero, List.set_cons_succ, Nat.reduceAdd]) | ((first | refine aw_ways rfl ?_ ?_ | refine r_split rfl rfl rfl ?_ ?_) <;> intro hg_ <;> fail_if_success (exact Bool.noConfusion hg_)) <;> (try simp only [prn] at hg_) <;> (try first | contradiction | (exfalso; omega)))
          all_goals first
            | (refine hfin _ ?_
               (refine weak_ren [] rfl ?_ ?_ <;> repeat' (first | exact trivial | refine subR_cons rfl ?_ ?_ | refine subHR_cons rfl ?_ ?_ | rfl | (refine d_int ?_; (first | rfl | omega | (rw [IntWalk.i64_in _ (by omega)] <;> omega) | (simp; done) | (simp; omega))) | (refine d_bool ?_; (first | (simp_all; done) | (rw [Bool.eq_iff_iff]; simp_all; done) | (rw [Bool.eq_iff_iff]; simp_all; omega) | (rw [Bool.eq_iff_iff]; simp; omega))) | exact d_int hw)); done)
            | (exfalso; clear hfin; cases B <;> simp [keepV] at * <;> omega)
            | trace_state
      · rw [if_neg hK, hS1]
        by_cases hq : keepV B v (a, b, c) = true
        · rw [if_pos hq, if_neg (by simp), hS1] at hfin
          clear hS0 hS1
          repeat' (first | (with_reducible first | refine aw_seq ?_ | refine thn_normal ?_ | refine thn_ret ?_ | refine thn_exit ?_ | refine blk_normal ?_ | refine blk_ret ?_ | refine blk_hit ?_ | refine blk_miss rfl ?_ | refine aw_block ?_ | refine aw_ret ?_ | refine aw_skip ?_ | refine aw_exit ?_ | refine w_nil ?_ | refine x_nil (by kernel_rfl) ?_) | refine aw_region ?_ | refine aw_region_draw (by kernel_rfl) ?_ | refine aw_yes rfl ?_ | refine aw_no rfl ?_ | ((with_reducible refine w_seq ?_); first | refine r_q tbOk rfl rfl rfl rfl ?_ | refine r_e tbOk rfl rfl rfl rfl rfl ?_ | refine r_yes tbOk rfl rfl rfl rfl rfl rfl ?_ | refine w_no rfl rfl (lookO_spec rfl) rfl rfl rfl ?_ | refine w_un rfl rfl (lookO_spec rfl) rfl rfl ?_) | ((with_reducible refine w_drw ?_); first | refine rx_q tbOk rfl rfl rfl rfl ?_ | refine rx_e tbOk rfl rfl rfl rfl rfl ?_ | refine rx_yes tbOk rfl rfl rfl rfl rfl rfl ?_ | refine x_no rfl rfl (lookO_spec rfl) rfl rfl rfl ?_ | refine x_un rfl rfl (lookO_spec rfl) rfl rfl ?_) | ((first | refine' w_q rfl rfl ?xa rfl ?_ | refine' v_q rfl rfl ?xa rfl ?_ | refine' w_yes rfl rfl (lookO_spec rfl) rfl ?xa rfl ?_ | refine' v_yes rfl rfl (lookO_spec rfl) rfl ?xa rfl ?_); case xa => first | exact k_index tbOk rfl rfl rfl rfl (by omega) (by exact hix) | exact k_call KL rfl ⟨asA_r (evO_spec rfl), asA_r (evO_spec rfl), by rw [evO_spec rfl, hwm]; exact asArg_r, trivial⟩) | ((first | refine' w_e rfl ?xa ?xb ?xc ?xe ?_ | refine' v_e rfl ?xa ?xb ?xc ?xe ?_); (case xa => first | exact e_build [.tmp 56] tlOk rfl rfl rfl rfl rfl rfl (allN_one rfl) (by simp) | exact e_append tlOk rfl rfl rfl rfl rfl rfl (slD_plain (slD_own (lookHO_spec rfl) rfl) (edge1_plain _ _ _)) hlK.symm (by simp only [maxLen, List.length_cons, List.length_nil]; omega) (by simp only [List.length_cons, List.length_nil]; omega)); (case xb => rfl); (case xc => rfl); (case xe => rfl); try dsimp only [P0.d, Res.d, List.map_cons, List.map_nil, List.set_cons_zero, List.set_cons_succ, Nat.reduceAdd]) | ((first | refine aw_ways rfl ?_ ?_ | refine r_split rfl rfl rfl ?_ ?_) <;> intro hg_ <;> fail_if_success (exact Bool.noConfusion hg_)) <;> (try simp only [prn] at hg_) <;> (try first | contradiction | (exfalso; omega)))
          all_goals first
            | (refine hfin _ ?_
               (refine weak_ren [(100, 58)] rfl ?_ ?_ <;> repeat' (first | exact trivial | refine subR_cons rfl ?_ ?_ | refine subHR_cons rfl ?_ ?_ | rfl | (refine d_int ?_; (first | rfl | omega | (rw [IntWalk.i64_in _ (by omega)] <;> omega) | (simp; done) | (simp; omega))) | (refine d_bool ?_; (first | (simp_all; done) | (rw [Bool.eq_iff_iff]; simp_all; done) | (rw [Bool.eq_iff_iff]; simp_all; omega) | (rw [Bool.eq_iff_iff]; simp; omega))) | exact d_int hw | exact ob_sl rfl (edges_app K (a, b, c)).symm | exact gvar2 rfl (cell_own (by simp [hlK])))); done)
            | (exfalso; clear hfin; cases B <;> simp [keepV] at * <;> omega)
            | trace_state
        · rw [if_neg hq, List.append_nil, if_neg hK, hS1] at hfin
          clear hS0 hS1
          repeat' (first | (with_reducible first | refine aw_seq ?_ | refine thn_normal ?_ | refine thn_ret ?_ | refine thn_exit ?_ | refine blk_normal ?_ | refine blk_ret ?_ | refine blk_hit ?_ | refine blk_miss rfl ?_ | refine aw_block ?_ | refine aw_ret ?_ | refine aw_skip ?_ | refine aw_exit ?_ | refine w_nil ?_ | refine x_nil (by kernel_rfl) ?_) | refine aw_region ?_ | refine aw_region_draw (by kernel_rfl) ?_ | refine aw_yes rfl ?_ | refine aw_no rfl ?_ | ((with_reducible refine w_seq ?_); first | refine r_q tbOk rfl rfl rfl rfl ?_ | refine r_e tbOk rfl rfl rfl rfl rfl ?_ | refine r_yes tbOk rfl rfl rfl rfl rfl rfl ?_ | refine w_no rfl rfl (lookO_spec rfl) rfl rfl rfl ?_ | refine w_un rfl rfl (lookO_spec rfl) rfl rfl ?_) | ((with_reducible refine w_drw ?_); first | refine rx_q tbOk rfl rfl rfl rfl ?_ | refine rx_e tbOk rfl rfl rfl rfl rfl ?_ | refine rx_yes tbOk rfl rfl rfl rfl rfl rfl ?_ | refine x_no rfl rfl (lookO_spec rfl) rfl rfl rfl ?_ | refine x_un rfl rfl (lookO_spec rfl) rfl rfl ?_) | ((first | refine' w_q rfl rfl ?xa rfl ?_ | refine' v_q rfl rfl ?xa rfl ?_ | refine' w_yes rfl rfl (lookO_spec rfl) rfl ?xa rfl ?_ | refine' v_yes rfl rfl (lookO_spec rfl) rfl ?xa rfl ?_); case xa => first | exact k_index tbOk rfl rfl rfl rfl (by omega) (by exact hix) | exact k_call KL rfl ⟨asA_r (evO_spec rfl), asA_r (evO_spec rfl), by rw [evO_spec rfl, hwm]; exact asArg_r, trivial⟩) | ((first | refine' w_e rfl ?xa ?xb ?xc ?xe ?_ | refine' v_e rfl ?xa ?xb ?xc ?xe ?_); (case xa => first | exact e_build [.tmp 56] tlOk rfl rfl rfl rfl rfl rfl (allN_one rfl) (by simp) | exact e_append tlOk rfl rfl rfl rfl rfl rfl (slD_plain (slD_own (lookHO_spec rfl) rfl) (edge1_plain _ _ _)) hlK.symm (by simp only [maxLen, List.length_cons, List.length_nil]; omega) (by simp only [List.length_cons, List.length_nil]; omega)); (case xb => rfl); (case xc => rfl); (case xe => rfl); try dsimp only [P0.d, Res.d, List.map_cons, List.map_nil, List.set_cons_zero, List.set_cons_succ, Nat.reduceAdd]) | ((first | refine aw_ways rfl ?_ ?_ | refine r_split rfl rfl rfl ?_ ?_) <;> intro hg_ <;> fail_if_success (exact Bool.noConfusion hg_)) <;> (try simp only [prn] at hg_) <;> (try first | contradiction | (exfalso; omega)))
          all_goals first
            | (refine hfin _ ?_
               (refine weak_ren [(100, 100)] rfl ?_ ?_ <;> repeat' (first | exact trivial | refine subR_cons rfl ?_ ?_ | refine subHR_cons rfl ?_ ?_ | rfl | (refine d_int ?_; (first | rfl | omega | (rw [IntWalk.i64_in _ (by omega)] <;> omega) | (simp; done) | (simp; omega))) | (refine d_bool ?_; (first | (simp_all; done) | (rw [Bool.eq_iff_iff]; simp_all; done) | (rw [Bool.eq_iff_iff]; simp_all; omega) | (rw [Bool.eq_iff_iff]; simp; omega))) | exact d_int hw)); done)
            | (exfalso; clear hfin; cases B <;> simp [keepV] at * <;> omega)
            | trace_state
    · rw [hF k, List.take_of_length_le (by omega)]
      clear hF
      generalize dropE B v es = K at *
      have hlK := edges_len K
      by_cases hK : K = []
      · subst hK
        rw [if_pos rfl, hS0]
        clear hS0 hS1
        repeat' (first | (with_reducible first | refine aw_seq ?_ | refine thn_normal ?_ | refine thn_ret ?_ | refine thn_exit ?_ | refine blk_normal ?_ | refine blk_ret ?_ | refine blk_hit ?_ | refine blk_miss rfl ?_ | refine aw_block ?_ | refine aw_ret ?_ | refine aw_skip ?_ | refine aw_exit ?_ | refine w_nil ?_ | refine x_nil (by kernel_rfl) ?_) | refine aw_region ?_ | refine aw_region_draw (by kernel_rfl) ?_ | refine aw_yes rfl ?_ | refine aw_no rfl ?_ | ((with_reducible refine w_seq ?_); first | refine r_q tbOk rfl rfl rfl rfl ?_ | refine r_e tbOk rfl rfl rfl rfl rfl ?_ | refine r_yes tbOk rfl rfl rfl rfl rfl rfl ?_ | refine w_no rfl rfl (lookO_spec rfl) rfl rfl rfl ?_ | refine w_un rfl rfl (lookO_spec rfl) rfl rfl ?_) | ((with_reducible refine w_drw ?_); first | refine rx_q tbOk rfl rfl rfl rfl ?_ | refine rx_e tbOk rfl rfl rfl rfl rfl ?_ | refine rx_yes tbOk rfl rfl rfl rfl rfl rfl ?_ | refine x_no rfl rfl (lookO_spec rfl) rfl rfl rfl ?_ | refine x_un rfl rfl (lookO_spec rfl) rfl rfl ?_) | ((first | refine' w_q rfl rfl ?xa rfl ?_ | refine' v_q rfl rfl ?xa rfl ?_ | refine' w_yes rfl rfl (lookO_spec rfl) rfl ?xa rfl ?_ | refine' v_yes rfl rfl (lookO_spec rfl) rfl ?xa rfl ?_); case xa => exact k_call KL rfl ⟨asA_r (evO_spec rfl), asA_r (evO_spec rfl), by rw [evO_spec rfl, hwm]; exact asArg_r, trivial⟩) | ((first | refine aw_ways rfl ?_ ?_ | refine r_split rfl rfl rfl ?_ ?_) <;> intro hg_ <;> fail_if_success (exact Bool.noConfusion hg_)) <;> (try simp only [prn] at hg_) <;> (try first | contradiction | (exfalso; omega)))
        all_goals first
          | exact ret_2 (rv_cell rfl rfl (by (with_reducible first | exact ty3 | exact ty4 | exact ty5 | exact ty9 | exact ty17 | exact ty19 | exact ty22 | exact ty23 | exact ty25 | exact ty28 | exact ty33 | exact ty48 | exact ty50 | exact ty57 | exact ty61 | exact ty67 | exact ty68 | exact ty69 | exact ty85 | exact ty95 | exact ty97)) rfl rfl rfl (dres_agg (by exact ⟨cres_val, cres_nil, trivial⟩))) (rv_tmp rfl (dres_bool rfl))
          | trace_state
      · rw [if_neg hK, hS1]
        rw [decide_eq_false hK]
        clear hS0 hS1
        repeat' (first | (with_reducible first | refine aw_seq ?_ | refine thn_normal ?_ | refine thn_ret ?_ | refine thn_exit ?_ | refine blk_normal ?_ | refine blk_ret ?_ | refine blk_hit ?_ | refine blk_miss rfl ?_ | refine aw_block ?_ | refine aw_ret ?_ | refine aw_skip ?_ | refine aw_exit ?_ | refine w_nil ?_ | refine x_nil (by kernel_rfl) ?_) | refine aw_region ?_ | refine aw_region_draw (by kernel_rfl) ?_ | refine aw_yes rfl ?_ | refine aw_no rfl ?_ | ((with_reducible refine w_seq ?_); first | refine r_q tbOk rfl rfl rfl rfl ?_ | refine r_e tbOk rfl rfl rfl rfl rfl ?_ | refine r_yes tbOk rfl rfl rfl rfl rfl rfl ?_ | refine w_no rfl rfl (lookO_spec rfl) rfl rfl rfl ?_ | refine w_un rfl rfl (lookO_spec rfl) rfl rfl ?_) | ((with_reducible refine w_drw ?_); first | refine rx_q tbOk rfl rfl rfl rfl ?_ | refine rx_e tbOk rfl rfl rfl rfl rfl ?_ | refine rx_yes tbOk rfl rfl rfl rfl rfl rfl ?_ | refine x_no rfl rfl (lookO_spec rfl) rfl rfl rfl ?_ | refine x_un rfl rfl (lookO_spec rfl) rfl rfl ?_) | ((first | refine' w_q rfl rfl ?xa rfl ?_ | refine' v_q rfl rfl ?xa rfl ?_ | refine' w_yes rfl rfl (lookO_spec rfl) rfl ?xa rfl ?_ | refine' v_yes rfl rfl (lookO_spec rfl) rfl ?xa rfl ?_); case xa => exact k_call KL rfl ⟨asA_r (evO_spec rfl), asA_r (evO_spec rfl), by rw [evO_spec rfl, hwm]; exact asArg_r, trivial⟩) | ((first | refine aw_ways rfl ?_ ?_ | refine r_split rfl rfl rfl ?_ ?_) <;> intro hg_ <;> fail_if_success (exact Bool.noConfusion hg_)) <;> (try simp only [prn] at hg_) <;> (try first | contradiction | (exfalso; omega)))
        all_goals first
          | exact ret_2 (rv_cell rfl rfl (by (with_reducible first | exact ty3 | exact ty4 | exact ty5 | exact ty9 | exact ty17 | exact ty19 | exact ty22 | exact ty23 | exact ty25 | exact ty28 | exact ty33 | exact ty48 | exact ty50 | exact ty57 | exact ty61 | exact ty67 | exact ty68 | exact ty69 | exact ty85 | exact ty95 | exact ty97)) rfl rfl rfl (dres_agg (by exact ⟨cres_val, cres_own0 (lookHO_spec rfl) hlK.symm, trivial⟩))) (rv_tmp rfl (dres_bool rfl))
          | trace_state
set_option maxRecDepth 100000 in
set_option maxHeartbeats 4000000 in
theorem f_specDropBad (m : Int) (nil : Bool) (es : List E3) (v : Int) (hl : es.length ≤ 1048576) (hg : gOk m es = false) : Fn Tryd.prog 21 [graphP m nil es, iP v] (.tup [graphP 0 true [], .one (bool false)]) := by
  have KO := f_ownGraph m nil es (by omega)
  have KG := f_specGraphValid m false es (by simp only [maxLen]; omega)
  rw [hg] at KG
  refine fn_of (l := [.cell 4 25, .tmp 5]) Tryd.func21 (by kernel_rfl) rfl Tryd.ntmps21 rfl rfl ?_; simp only [argEnv, P0.d, Nat.reduceAdd, graphP, List.map_cons, List.map_nil]
  repeat' (first | (with_reducible first | refine aw_seq ?_ | refine thn_normal ?_ | refine thn_ret ?_ | refine thn_exit ?_ | refine blk_normal ?_ | refine blk_ret ?_ | refine blk_hit ?_ | refine blk_miss rfl ?_ | refine aw_block ?_ | refine aw_ret ?_ | refine aw_skip ?_ | refine aw_exit ?_ | refine w_nil ?_ | refine x_nil (by kernel_rfl) ?_) | refine aw_region ?_ | refine aw_region_draw (by kernel_rfl) ?_ | refine aw_yes rfl ?_ | refine aw_no rfl ?_ | ((with_reducible refine w_seq ?_); first | refine r_q tbOk rfl rfl rfl rfl ?_ | refine r_e tbOk rfl rfl rfl rfl rfl ?_ | refine r_yes tbOk rfl rfl rfl rfl rfl rfl ?_ | refine w_no rfl rfl (lookO_spec rfl) rfl rfl rfl ?_ | refine w_un rfl rfl (lookO_spec rfl) rfl rfl ?_) | ((with_reducible refine w_drw ?_); first | refine rx_q tbOk rfl rfl rfl rfl ?_ | refine rx_e tbOk rfl rfl rfl rfl rfl ?_ | refine rx_yes tbOk rfl rfl rfl rfl rfl rfl ?_ | refine x_no rfl rfl (lookO_spec rfl) rfl rfl rfl ?_ | refine x_un rfl rfl (lookO_spec rfl) rfl rfl ?_) | ((first | refine' w_q rfl rfl ?xa rfl ?_ | refine' v_q rfl rfl ?xa rfl ?_ | refine' w_yes rfl rfl (lookO_spec rfl) rfl ?xa rfl ?_ | refine' v_yes rfl rfl (lookO_spec rfl) rfl ?xa rfl ?_); case xa => first | exact k_call KO rfl ⟨asA_agg (evO_spec rfl) ⟨cAr_r, cAr_r, trivial⟩, trivial⟩ | exact k_call KG rfl ⟨asA_agg (evO_spec rfl) ⟨cAr_r, cAr_r, trivial⟩, trivial⟩) | ((first | refine aw_ways rfl ?_ ?_ | refine r_split rfl rfl rfl ?_ ?_) <;> intro hg_ <;> fail_if_success (exact Bool.noConfusion hg_)) <;> (try simp only [prn] at hg_) <;> (try first | contradiction | (exfalso; omega)))
  all_goals first
    | exact ret_2 (rv_cell rfl rfl (by (with_reducible first | exact ty3 | exact ty4 | exact ty5 | exact ty9 | exact ty17 | exact ty19 | exact ty22 | exact ty23 | exact ty25 | exact ty28 | exact ty33 | exact ty48 | exact ty50 | exact ty57 | exact ty61 | exact ty67 | exact ty68 | exact ty69 | exact ty85 | exact ty95 | exact ty97)) rfl rfl rfl (dres_agg (by exact ⟨cres_val, cres_nil, trivial⟩))) (rv_tmp rfl (dres_bool rfl))
    | trace_state
/-! ## ADropL -/
theorem before_trans {a b c : E3} (h : before a b = true) (g : before b c = true) : before a c = true := by
  unfold before at *
  simp at *
  omega
theorem chain_weak {P : Int → Bool} {p : Option E3} {o : E3} : ∀ {es : List E3}, chain P (some o) es = true → (∀ q, p = some q → before q o = true) → chain P p es = true
  | [], _, _ => rfl
  | e :: es, h, hp => by
    unfold chain at h ⊢
    rw [Bool.and_eq_true, Bool.and_eq_true] at h ⊢
    refine ⟨⟨h.1.1, ?_⟩, h.2⟩
    cases p with
    | none => rfl
    | some q => exact before_trans (hp q rfl) h.1.2
theorem chain_filter {P : Int → Bool} (f : E3 → Bool) : ∀ {es : List E3} {p : Option E3}, chain P p es = true → chain P p (es.filter f) = true
  | [], _, h => h
  | e :: es, p, h => by
    have h0 := h
    unfold chain at h
    rw [Bool.and_eq_true, Bool.and_eq_true] at h
    by_cases hf : f e = true
    · rw [List.filter_cons_of_pos hf]
      unfold chain
      rw [h.1.1, h.1.2, chain_filter f h.2]; rfl
    · rw [List.filter_cons_of_neg hf]
      refine chain_filter f (chain_weak h.2 (fun q hq => ?_))
      subst hq
      exact h.1.2
theorem gOk_drop {m : Int} {es : List E3} (h : gOk m es = true) (b : Bool) (v : Int) : gOk m (dropE b v es) = true := by
  have hl := dropE_len b v es
  unfold gOk at *
  rw [Bool.and_eq_true, Bool.and_eq_true, decide_eq_true_eq, decide_eq_true_eq] at *
  exact ⟨⟨h.1.1, by omega⟩, chain_filter _ h.2⟩
theorem near_drop {M : Nat} {es : List E3} (h : gOk (M : Int) es = true) {v : Int} (h0 : 0 ≤ v) : (nearM M (dropE true v es)).getD v.toNat 0 = 0 := by
  have hg := gOk_drop h true v
  have hm := gOk_m hg
  have hI := gOk_edges hg
  refine Nat.eq_of_testBit_eq (fun p => ?_)
  rw [nearM_bit (by omega) (fun e he => ⟨(hI e he).1, (hI e he).2.1⟩), Nat.zero_testBit]
  unfold adj
  rw [List.any_eq_false]
  intro e he hE
  unfold dropE at he
  have hk := (List.mem_filter.1 he).2
  unfold keepV at hk
  unfold adjE at hE
  simp at hk hE
  omega
set_option maxRecDepth 100000 in
set_option maxHeartbeats 4000000 in
theorem f_implNearOf (m : Int) (nil : Bool) (es : List E3) (v : Int) (hg : gOk m es = true) (hv : hasV m v = true) : Fn Tryd.prog 24 [graphP m nil es, iP v] (.v (.one (row (decide ((nearM m.toNat es).getD v.toNat 0 = 0)) 1 (ints (bitsR ((nearM m.toNat es).getD v.toNat 0)))))) := by
  have hl40 := gOk_len hg
  have KG := f_implGraphValid m nil es (by simp only [maxLen]; omega)
  have KH := f_implHasH m nil es v
  have hm := gOk_m hg
  have hI := gOk_edges hg
  have hvv : 0 ≤ v ∧ v < m := by unfold hasV at hv; simp at hv; omega
  rw [hg] at KG
  rw [hv] at KH
  obtain ⟨M, rfl⟩ : ∃ M : Nat, m = (M : Int) := ⟨m.toNat, by omega⟩
  rw [Int.toNat_natCast]
  have hgn : ∀ e ∈ es, (0 ≤ e.1 ∧ e.1 < (M : Int)) ∧ (0 ≤ e.2.1 ∧ e.2.1 < (M : Int)) := fun e he => ⟨(hI e he).1, (hI e he).2.1⟩
  have KN := f_nearMasks M nil es (by omega) (by omega) hgn
  have hne := nextM_ok (m := M) (by omega) hgn
  have hnm := near_ok M (by omega) es hgn (nextM M es) hne.1 hne.2
  obtain ⟨hnl, hsm⟩ : (nearM M es).length = M ∧ Sm (nearM M es) := hnm
  have KL := f_list ((nearM M es).getD v.toNat 0) (hsm _)
  generalize nearM M es = NM at *
  have hnlm : (NM.map mP).length = M := by rw [List.length_map]; exact hnl
  have hx : 0 + v.toNat = v.toNat := Nat.zero_add _
  clear hgn hne hI hg hv
  refine fn_of (l := [.tmp 4]) Tryd.func24 (by kernel_rfl) rfl Tryd.ntmps24 rfl rfl ?_; simp only [argEnv, P0.d, Nat.reduceAdd, graphP, List.map_cons, List.map_nil]
  repeat' (first | (with_reducible first | refine aw_seq ?_ | refine thn_normal ?_ | refine thn_ret ?_ | refine thn_exit ?_ | refine blk_normal ?_ | refine blk_ret ?_ | refine blk_hit ?_ | refine blk_miss rfl ?_ | refine aw_block ?_ | refine aw_ret ?_ | refine aw_skip ?_ | refine aw_exit ?_ | refine w_nil ?_ | refine x_nil (by kernel_rfl) ?_) | refine aw_region ?_ | refine aw_region_draw (by kernel_rfl) ?_ | refine aw_yes rfl ?_ | refine aw_no rfl ?_ | ((with_reducible refine w_seq ?_); first | refine r_q tbOk rfl rfl rfl rfl ?_ | refine r_e tbOk rfl rfl rfl rfl rfl ?_ | refine r_yes tbOk rfl rfl rfl rfl rfl rfl ?_ | refine w_no rfl rfl (lookO_spec rfl) rfl rfl rfl ?_ | refine w_un rfl rfl (lookO_spec rfl) rfl rfl ?_) | ((with_reducible refine w_drw ?_); first | refine rx_q tbOk rfl rfl rfl rfl ?_ | refine rx_e tbOk rfl rfl rfl rfl rfl ?_ | refine rx_yes tbOk rfl rfl rfl rfl rfl rfl ?_ | refine x_no rfl rfl (lookO_spec rfl) rfl rfl rfl ?_ | refine x_un rfl rfl (lookO_spec rfl) rfl rfl ?_) | ((first | refine' w_q rfl rfl ?xa rfl ?_ | refine' v_q rfl rfl ?xa rfl ?_ | refine' w_yes rfl rfl (lookO_spec rfl) rfl ?xa rfl ?_ | refine' v_yes rfl rfl (lookO_spec rfl) rfl ?xa rfl ?_); case xa => first | exact k_call KG rfl ⟨asA_agg (evO_spec rfl) ⟨cAr_r, cAr_r, trivial⟩, trivial⟩ | exact k_call KH rfl ⟨asA_agg (evO_spec rfl) ⟨cAr_r, cAr_r, trivial⟩, asA_r (evO_spec rfl), trivial⟩ | exact k_indexO tbOk rfl rfl rfl rfl (by omega) (by omega) | exact k_loadM tbOk rfl rfl rfl rfl (by omega) | exact k_call KL rfl ⟨by rw [evO_spec rfl, hx]; exact asArg_r, trivial⟩) | ((first | refine' w_e rfl ?xa ?xb ?xc ?xe ?_ | refine' v_e rfl ?xa ?xb ?xc ?xe ?_); (case xa => exact e_callO KN rfl rfl ⟨asA_agg (evO_spec rfl) ⟨cAr_r, cAr_r, trivial⟩, trivial⟩); (case xb => rfl); (case xc => rfl); (case xe => rfl); try dsimp only [P0.d, Res.d, List.map_cons, List.map_nil, List.set_cons_zero, List.set_cons_succ, Nat.reduceAdd]) | ((first | refine aw_ways rfl ?_ ?_ | refine r_split rfl rfl rfl ?_ ?_) <;> intro hg_ <;> fail_if_success (exact Bool.noConfusion hg_)) <;> (try simp only [prn] at hg_) <;> (try first | contradiction | (exfalso; omega)))
  all_goals first
    | exact ret_tmp rfl (dres_one cres_new)
    | trace_state
end Go.Proofs.YtfdaoepbdolgiaaDoor.Abs
