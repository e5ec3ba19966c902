/- Adding an edge by states: the program. No statement of the seat is proved here. -/
import Derived.Test.YthjnidcmhegoeaaTy
import Derived.Lib.Hide
import Derived.Test.YthjnidcmhegoeaaAInsE
import Derived.Test.YthjnidcmhegoeaaGIns
import Derived.Test.YthjnidcmhegoeaaACallV
set_option linter.unusedSimpArgs false
set_option linter.unusedVariables false
namespace Go.Proofs.Ythjnidcmhegoeaa.Abs
open Go.RowKit
open R (val row ref)

theorem edge_argA {w : World} {own : Nat → Prop} {v : Value} {e : E3} (h : (edgeP e).p ⟨w, own⟩ v) : v = ed e := by
  obtain ⟨a, b, c⟩ := e
  obtain ⟨vs, e1, n1, g1⟩ := h
  obtain ⟨v0, q0, r0⟩ := g1 0 _ rfl
  obtain ⟨v1, q1, r1⟩ := g1 1 _ rfl
  obtain ⟨v2, q2, r2⟩ := g1 2 _ rfl
  have s0 := (val_p.1 r0).1
  have s1 := (val_p.1 r1).1
  have s2 := (val_p.1 r2).1
  have hv : vs = [v0, v1, v2] := by
    match vs, n1 with
    | [p, q, r], _ => simp at q0 q1 q2; rw [q0, q1, q2]
  rw [e1, hv, s0, s1, s2]
theorem f_compareEnds (a b : E3) : Fn Try.prog 45 [edgeP a, edgeP b] (.v (iP (cmpE a b))) := by
  refine ⟨ent_of Try.func45 (by kernel_rfl) rfl, fun w vs _ hA => ?_⟩
  match vs, hA with
  | [v, u], ⟨h1, h2, _⟩ =>
    obtain rfl := edge_argA h1
    obtain rfl := edge_argA h2
    refine (implCompareEnds a b w).mono ?_
    rintro e w' ⟨rfl, hb⟩
    exact ⟨_, rfl, (val_p (c := ⟨w', fun b => b < w.heap.size⟩)).2 ⟨rfl, rfl⟩, hb⟩
theorem k_shr1 {P : Program} {l : List (Nat × D)} {h : List (Nat × Ob)} {o : Oper} {n n' : Bool} {p : Int} {t t' : TypeId} {x y : Operand} (ho : o.op = .binOp .shr t x y t') (hx : evO l x = some (.one (.r n (R.val (.int .u64 p))))) (hy : evO l y = some (.one (.r n' (R.val (.int .u64 1))))) : Loc P (lookH h) (evD (look l)) o (.one (.r true (R.val (.int .u64 (p / 2))))) :=
  loc_run fun base a w ι own hw he hH => by
    have h1 := he x (by rw [ho]; simp [Op.operands])
    have h2 := he y (by rw [ho]; simp [Op.operands])
    rw [evO_spec hx] at h1
    rw [evO_spec hy] at h2
    have e1 : a.eval x = .int .u64 p := ((val_p (c := Cx.young ⟨w, own⟩ base n)).1 h1).1
    have e2 : a.eval y = .int .u64 1 := ((val_p (c := Cx.young ⟨w, own⟩ base n')).1 h2).1
    refine ⟨.int .u64 (p / 2), ?_, rfl, rfl⟩
    unfold execOp
    rw [ho]
    simp only [e1, e2]
    simp [eqGuard, binOp, shift_shr .u64 .u64 p 1 (by decide) (by decide)]
theorem u_u64 : Try.prog.underlying 113 = some (.int .u64) := by kernel_rfl
theorem edge_at0 {es : List E3} {k : Nat} (h : k < es.length) : (edges es)[(k : Int).toNat]? = some (edgeP es[k]) := by
  unfold edges; rw [List.getElem?_map, Int.toNat_natCast, List.getElem?_eq_getElem h]; rfl
set_option maxRecDepth 100000 in
set_option maxHeartbeats 4000000 in
theorem f_search (nil : Bool) (m : Int) (es : List E3) (e : E3) (hg : gOk m es = true) : Fn Try.prog 44 [.one (row nil 3 (edges es)), edgeP e, .one (R.val (Value.func (.func 45) #[] #[]))] (.tup [iP (posE e es), .one (bool (fndE e es))]) := by
  have hl40 := gOk_len hg
  have hple := posE_le e es
  have hlen := edges_len es
  have KC := fun a b => f_compareEnds a b
  have hB := pos_iff hg e
  have hfn : ∀ h : posE e es < es.length, fndE e es = decide (cmpE es[posE e es] e = 0) := fun h => by unfold fndE; rw [List.getElem?_eq_getElem h]
  have hfn2 : ¬ posE e es < es.length → fndE e es = false := fun h => by unfold fndE; rw [List.getElem?_eq_none (by omega)]
  generalize posE e es = p at *
  generalize fndE e es = fd at *
  obtain ⟨e1, e2, e3⟩ := e
  refine fn_of (l := [.tmp 6, .tmp 7]) Try.func44 (by kernel_rfl) rfl Try.ntmps44 rfl rfl ?_; simp only [argEnv, P0.d, Nat.reduceAdd, edgeP]
  repeat' (first | (with_reducible first | refine aw_seq ?_ | refine thn_normal ?_ | refine thn_ret ?_ | refine thn_exit ?_ | refine blk_normal ?_ | refine blk_ret ?_ | refine blk_hit ?_ | refine blk_miss rfl ?_ | refine aw_block ?_ | refine aw_ret ?_ | refine aw_skip ?_ | refine aw_exit ?_ | refine w_nil ?_ | refine x_nil (by kernel_rfl) ?_) | refine aw_region ?_ | refine aw_region_draw (by kernel_rfl) ?_ | refine aw_yes rfl ?_ | refine aw_no rfl ?_ | ((with_reducible refine w_seq ?_); first | refine r_q tbOk rfl rfl rfl rfl ?_ | refine r_e tbOk rfl rfl rfl rfl rfl ?_ | refine r_yes tbOk rfl rfl rfl rfl rfl rfl ?_ | refine w_no rfl rfl (lookO_spec rfl) rfl rfl rfl ?_ | refine w_un rfl rfl (lookO_spec rfl) rfl rfl ?_) | ((with_reducible refine w_drw ?_); first | refine rx_q tbOk rfl rfl rfl rfl ?_ | refine rx_e tbOk rfl rfl rfl rfl rfl ?_ | refine rx_yes tbOk rfl rfl rfl rfl rfl rfl ?_ | refine x_no rfl rfl (lookO_spec rfl) rfl rfl rfl ?_ | refine x_un rfl rfl (lookO_spec rfl) rfl rfl ?_) | ((first | refine aw_ways rfl ?_ ?_ | refine r_split rfl rfl rfl ?_ ?_) <;> intro hg_ <;> fail_if_success (exact Bool.noConfusion hg_)) <;> (try simp only [prn] at hg_) <;> (try first | contradiction | (exfalso; omega)))
  obtain ⟨F, hF⟩ : ∃ F : Nat × Nat → St, ∀ x, F x = mkS 49 [(10, .one (.r true (int (x.2 : Int)))), (9, .one (.r true (int (x.1 : Int)))), (8, .one (.r true (int (es.length : Int)))), (4, .one (.ptr 4 0 0 0)), (2, .one (.r false (R.val (Value.func (.func 45) #[] #[])))), (0, .one (.r false (row nil 3 (edges es))))] [(4, .var 34 [.r false (int e1), .r false (int e2), .r false (int e3)])] := ⟨_, fun _ => rfl⟩
  refine aw_loopI (fun x : Nat × Nat => x.1 ≤ p ∧ p ≤ x.2 ∧ x.2 ≤ es.length) F (fun x => x.2 - x.1) (0, es.length) ⟨Nat.zero_le _, hple, Nat.le_refl _⟩ (by rw [hF]; (refine weak_ren [] rfl ?_ ?_ <;> repeat' (first | exact trivial | refine subR_cons rfl ?_ ?_ | refine subHR_cons rfl ?_ ?_ | rfl | (refine d_int ?_; (first | rfl | omega | (rw [IntWalk.i64_in _ (by omega)] <;> omega) | (simp; done) | (simp; omega))) | (refine d_bool ?_; (first | (simp_all; done) | (rw [Bool.eq_iff_iff]; simp_all; done) | (rw [Bool.eq_iff_iff]; simp_all; omega) | (rw [Bool.eq_iff_iff]; simp; omega))) | exact d_int (by rw [hlen])))) ?_
  rintro ⟨i, j⟩ ⟨hi, hj, hjn⟩
  dsimp only at hi hj hjn
  rw [hF]
  dsimp only
  by_cases hlt : i < j
  · obtain ⟨h, hh⟩ : ∃ h : Nat, h = (i + j) / 2 := ⟨_, rfl⟩
    have hhi : i ≤ h ∧ h < j := by omega
    have hw0 : IntKind.i64.wrap ((i : Int) + (j : Int)) = (i : Int) + (j : Int) := IntWalk.i64_in _ (by omega)
    have hw1 : IntKind.u64.wrap ((i : Int) + (j : Int)) = (i : Int) + (j : Int) := by unfold IntKind.wrap; simp [IntKind.bits, IntKind.signed]; omega
    have hw2 : IntKind.i64.wrap (((i : Int) + (j : Int)) / 2) = (h : Int) := by rw [IntWalk.i64_in _ (by omega)]; omega
    have hw : IntKind.i64.wrap (IntKind.u64.wrap (IntKind.i64.wrap ((i : Int) + (j : Int))) / 2) = (h : Int) := by rw [hw0, hw1, hw2]
    have hat := edge_at0 (es := es) (k := h) (by omega)
    rw [← hw] at hat
    have h0w : 0 ≤ IntKind.i64.wrap (IntKind.u64.wrap (IntKind.i64.wrap ((i : Int) + (j : Int))) / 2) := by rw [hw]; omega
    have hBh := hB h (by omega)
    have KCh := KC es[h] (e1, e2, e3)
    have hneg := cmpE_neg es[h] (e1, e2, e3)
    rw [hBh] at hneg
    have hfinA : ∀ s' : St, Weak s' (F (h + 1, j)) → h < p → ∃ x' : Nat × Nat, (x'.1 ≤ p ∧ p ≤ x'.2 ∧ x'.2 ≤ es.length) ∧ Weak s' (F x') ∧ x'.2 - x'.1 < j - i := fun s' hs hp => ⟨(h + 1, j), ⟨hp, hj, hjn⟩, hs, by dsimp only; omega⟩
    have hfinB : ∀ s' : St, Weak s' (F (i, h)) → ¬ h < p → ∃ x' : Nat × Nat, (x'.1 ≤ p ∧ p ≤ x'.2 ∧ x'.2 ≤ es.length) ∧ Weak s' (F x') ∧ x'.2 - x'.1 < j - i := fun s' hs hp => ⟨(i, h), ⟨hi, by dsimp only; omega, by dsimp only; omega⟩, hs, by dsimp only; omega⟩
    rw [hF] at hfinA hfinB
    have hw3 : IntKind.i64.wrap ((h : Int) + 1) = ((h + 1 : Nat) : Int) := by rw [IntWalk.i64_in _ (by omega)]; omega
    have hw4 : IntKind.i64.wrap (IntKind.i64.wrap (IntKind.u64.wrap (IntKind.i64.wrap ((i : Int) + (j : Int))) / 2) + 1) = ((h + 1 : Nat) : Int) := by rw [hw, hw3]
    clear hF hBh KC hfn hfn2 hB
    generalize es[h] = q at *
    clear hw0 hw1 hw2
    obtain ⟨q1, q2, q3⟩ := q
    by_cases hp : h < p
    · have hc : cmpE (q1, q2, q3) (e1, e2, e3) < 0 := by rw [hneg, decide_eq_true hp]
      generalize cmpE (q1, q2, q3) (e1, e2, e3) = c at *
      clear hfinB hneg
      repeat' (first | (with_reducible first | refine aw_seq ?_ | refine thn_normal ?_ | refine thn_ret ?_ | refine thn_exit ?_ | refine blk_normal ?_ | refine blk_ret ?_ | refine blk_hit ?_ | refine blk_miss rfl ?_ | refine aw_block ?_ | refine aw_ret ?_ | refine aw_skip ?_ | refine aw_exit ?_ | refine w_nil ?_ | refine x_nil (by kernel_rfl) ?_) | refine aw_region ?_ | refine aw_region_draw (by kernel_rfl) ?_ | refine aw_yes rfl ?_ | refine aw_no rfl ?_ | ((with_reducible refine w_seq ?_); first | refine r_q tbOk rfl rfl rfl rfl ?_ | refine r_e tbOk rfl rfl rfl rfl rfl ?_ | refine r_yes tbOk rfl rfl rfl rfl rfl rfl ?_ | refine w_no rfl rfl (lookO_spec rfl) rfl rfl rfl ?_ | refine w_un rfl rfl (lookO_spec rfl) rfl rfl ?_) | ((with_reducible refine w_drw ?_); first | refine rx_q tbOk rfl rfl rfl rfl ?_ | refine rx_e tbOk rfl rfl rfl rfl rfl ?_ | refine rx_yes tbOk rfl rfl rfl rfl rfl rfl ?_ | refine x_no rfl rfl (lookO_spec rfl) rfl rfl rfl ?_ | refine x_un rfl rfl (lookO_spec rfl) rfl rfl ?_) | ((first | refine' w_q rfl rfl ?xa rfl ?_ | refine' v_q rfl rfl ?xa rfl ?_ | refine' w_yes rfl rfl (lookO_spec rfl) rfl ?xa rfl ?_ | refine' v_yes rfl rfl (lookO_spec rfl) rfl ?xa rfl ?_); case xa => first | exact k_conv u_i64 u_u64 rfl rfl | exact k_shr1 rfl rfl rfl | exact k_conv u_u64 u_i64 rfl rfl | exact k_index tbOk rfl rfl rfl rfl h0w hat | exact k_callV KCh rfl rfl ⟨asA_agg (evO_spec rfl) ⟨cAr_r, cAr_r, cAr_r, trivial⟩, asA_agg (evO_spec rfl) ⟨cAr_r, cAr_r, cAr_r, trivial⟩, trivial⟩) | ((first | refine aw_ways rfl ?_ ?_ | refine r_split rfl rfl rfl ?_ ?_) <;> intro hg_ <;> fail_if_success (exact Bool.noConfusion hg_)) <;> (try simp only [prn] at hg_) <;> (try first | contradiction | (exfalso; omega)))
      all_goals first
        | (exfalso; omega)
        | (refine hfinA _ ?_ hp
           (refine weak_ren [] rfl ?_ ?_ <;> repeat' (first | exact trivial | refine subR_cons rfl ?_ ?_ | refine subHR_cons rfl ?_ ?_ | rfl | (refine d_int ?_; (first | rfl | omega | (rw [IntWalk.i64_in _ (by omega)] <;> omega) | (simp; done) | (simp; omega))) | (refine d_bool ?_; (first | (simp_all; done) | (rw [Bool.eq_iff_iff]; simp_all; done) | (rw [Bool.eq_iff_iff]; simp_all; omega) | (rw [Bool.eq_iff_iff]; simp; omega))) | exact d_int hw4)))
        | trace_state
    · have hc : ¬ cmpE (q1, q2, q3) (e1, e2, e3) < 0 := by rw [hneg, decide_eq_false hp]; simp
      generalize cmpE (q1, q2, q3) (e1, e2, e3) = c at *
      clear hfinA hneg
      repeat' (first | (with_reducible first | refine aw_seq ?_ | refine thn_normal ?_ | refine thn_ret ?_ | refine thn_exit ?_ | refine blk_normal ?_ | refine blk_ret ?_ | refine blk_hit ?_ | refine blk_miss rfl ?_ | refine aw_block ?_ | refine aw_ret ?_ | refine aw_skip ?_ | refine aw_exit ?_ | refine w_nil ?_ | refine x_nil (by kernel_rfl) ?_) | refine aw_region ?_ | refine aw_region_draw (by kernel_rfl) ?_ | refine aw_yes rfl ?_ | refine aw_no rfl ?_ | ((with_reducible refine w_seq ?_); first | refine r_q tbOk rfl rfl rfl rfl ?_ | refine r_e tbOk rfl rfl rfl rfl rfl ?_ | refine r_yes tbOk rfl rfl rfl rfl rfl rfl ?_ | refine w_no rfl rfl (lookO_spec rfl) rfl rfl rfl ?_ | refine w_un rfl rfl (lookO_spec rfl) rfl rfl ?_) | ((with_reducible refine w_drw ?_); first | refine rx_q tbOk rfl rfl rfl rfl ?_ | refine rx_e tbOk rfl rfl rfl rfl rfl ?_ | refine rx_yes tbOk rfl rfl rfl rfl rfl rfl ?_ | refine x_no rfl rfl (lookO_spec rfl) rfl rfl rfl ?_ | refine x_un rfl rfl (lookO_spec rfl) rfl rfl ?_) | ((first | refine' w_q rfl rfl ?xa rfl ?_ | refine' v_q rfl rfl ?xa rfl ?_ | refine' w_yes rfl rfl (lookO_spec rfl) rfl ?xa rfl ?_ | refine' v_yes rfl rfl (lookO_spec rfl) rfl ?xa rfl ?_); case xa => first | exact k_conv u_i64 u_u64 rfl rfl | exact k_shr1 rfl rfl rfl | exact k_conv u_u64 u_i64 rfl rfl | exact k_index tbOk rfl rfl rfl rfl h0w hat | exact k_callV KCh rfl rfl ⟨asA_agg (evO_spec rfl) ⟨cAr_r, cAr_r, cAr_r, trivial⟩, asA_agg (evO_spec rfl) ⟨cAr_r, cAr_r, cAr_r, trivial⟩, trivial⟩) | ((first | refine aw_ways rfl ?_ ?_ | refine r_split rfl rfl rfl ?_ ?_) <;> intro hg_ <;> fail_if_success (exact Bool.noConfusion hg_)) <;> (try simp only [prn] at hg_) <;> (try first | contradiction | (exfalso; omega)))
      all_goals first
        | (exfalso; omega)
        | (refine hfinB _ ?_ hp
           (refine weak_ren [] rfl ?_ ?_ <;> repeat' (first | exact trivial | refine subR_cons rfl ?_ ?_ | refine subHR_cons rfl ?_ ?_ | rfl | (refine d_int ?_; (first | rfl | omega | (rw [IntWalk.i64_in _ (by omega)] <;> omega) | (simp; done) | (simp; omega))) | (refine d_bool ?_; (first | (simp_all; done) | (rw [Bool.eq_iff_iff]; simp_all; done) | (rw [Bool.eq_iff_iff]; simp_all; omega) | (rw [Bool.eq_iff_iff]; simp; omega))) | exact d_int hw)))
        | trace_state
  · have hip : i = p := by omega
    subst hip
    clear hF hB
    by_cases hl : i < es.length
    · have hat := edge_at0 (es := es) (k := i) hl
      have KCh := KC es[i] (e1, e2, e3)
      rw [hfn hl]
      clear hfn hfn2 KC
      generalize es[i] = q at *
      obtain ⟨q1, q2, q3⟩ := q
      generalize cmpE (q1, q2, q3) (e1, e2, e3) = c at *
      repeat' (first | (with_reducible first | refine aw_seq ?_ | refine thn_normal ?_ | refine thn_ret ?_ | refine thn_exit ?_ | refine blk_normal ?_ | refine blk_ret ?_ | refine blk_hit ?_ | refine blk_miss rfl ?_ | refine aw_block ?_ | refine aw_ret ?_ | refine aw_skip ?_ | refine aw_exit ?_ | refine w_nil ?_ | refine x_nil (by kernel_rfl) ?_) | refine aw_region ?_ | refine aw_region_draw (by kernel_rfl) ?_ | refine aw_yes rfl ?_ | refine aw_no rfl ?_ | ((with_reducible refine w_seq ?_); first | refine r_q tbOk rfl rfl rfl rfl ?_ | refine r_e tbOk rfl rfl rfl rfl rfl ?_ | refine r_yes tbOk rfl rfl rfl rfl rfl rfl ?_ | refine w_no rfl rfl (lookO_spec rfl) rfl rfl rfl ?_ | refine w_un rfl rfl (lookO_spec rfl) rfl rfl ?_) | ((with_reducible refine w_drw ?_); first | refine rx_q tbOk rfl rfl rfl rfl ?_ | refine rx_e tbOk rfl rfl rfl rfl rfl ?_ | refine rx_yes tbOk rfl rfl rfl rfl rfl rfl ?_ | refine x_no rfl rfl (lookO_spec rfl) rfl rfl rfl ?_ | refine x_un rfl rfl (lookO_spec rfl) rfl rfl ?_) | ((first | refine' w_q rfl rfl ?xa rfl ?_ | refine' v_q rfl rfl ?xa rfl ?_ | refine' w_yes rfl rfl (lookO_spec rfl) rfl ?xa rfl ?_ | refine' v_yes rfl rfl (lookO_spec rfl) rfl ?xa rfl ?_); case xa => first | exact k_index tbOk rfl rfl rfl rfl (by omega) hat | exact k_callV KCh rfl rfl ⟨asA_agg (evO_spec rfl) ⟨cAr_r, cAr_r, cAr_r, trivial⟩, asA_agg (evO_spec rfl) ⟨cAr_r, cAr_r, cAr_r, trivial⟩, trivial⟩) | ((first | refine aw_ways rfl ?_ ?_ | refine r_split rfl rfl rfl ?_ ?_) <;> intro hg_ <;> fail_if_success (exact Bool.noConfusion hg_)) <;> (try simp only [prn] at hg_) <;> (try first | contradiction | (exfalso; omega)))
      all_goals first
        | (exfalso; omega)
        | exact ret_2 (rv_tmp rfl (dres_int rfl)) (rv_tmp rfl (dres_bool (by rw [Bool.eq_iff_iff]; simp)))
        | trace_state
    · rw [hfn2 hl]
      clear hfn hfn2 KC
      repeat' (first | (with_reducible first | refine aw_seq ?_ | refine thn_normal ?_ | refine thn_ret ?_ | refine thn_exit ?_ | refine blk_normal ?_ | refine blk_ret ?_ | refine blk_hit ?_ | refine blk_miss rfl ?_ | refine aw_block ?_ | refine aw_ret ?_ | refine aw_skip ?_ | refine aw_exit ?_ | refine w_nil ?_ | refine x_nil (by kernel_rfl) ?_) | refine aw_region ?_ | refine aw_region_draw (by kernel_rfl) ?_ | refine aw_yes rfl ?_ | refine aw_no rfl ?_ | ((with_reducible refine w_seq ?_); first | refine r_q tbOk rfl rfl rfl rfl ?_ | refine r_e tbOk rfl rfl rfl rfl rfl ?_ | refine r_yes tbOk rfl rfl rfl rfl rfl rfl ?_ | refine w_no rfl rfl (lookO_spec rfl) rfl rfl rfl ?_ | refine w_un rfl rfl (lookO_spec rfl) rfl rfl ?_) | ((with_reducible refine w_drw ?_); first | refine rx_q tbOk rfl rfl rfl rfl ?_ | refine rx_e tbOk rfl rfl rfl rfl rfl ?_ | refine rx_yes tbOk rfl rfl rfl rfl rfl rfl ?_ | refine x_no rfl rfl (lookO_spec rfl) rfl rfl rfl ?_ | refine x_un rfl rfl (lookO_spec rfl) rfl rfl ?_) | ((first | refine aw_ways rfl ?_ ?_ | refine r_split rfl rfl rfl ?_ ?_) <;> intro hg_ <;> fail_if_success (exact Bool.noConfusion hg_)) <;> (try simp only [prn] at hg_) <;> (try first | contradiction | (exfalso; omega)))
      all_goals first
        | (exfalso; omega)
        | exact ret_2 (rv_tmp rfl (dres_int rfl)) (rv_tmp rfl (dres_bool rfl))
        | trace_state
end Go.Proofs.Ythjnidcmhegoeaa.Abs
