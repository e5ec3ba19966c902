/- Texts of jobs by states: the program's reader of jobs. No statement of the seat is proved here. -/
import Derived.Test.YthjnidcmhegoeaaDoorTy
import Derived.Lib.Hide
import Derived.Test.YthjnidcmhegoeaaDoorAStrC
set_option linter.unusedSimpArgs false
set_option linter.unusedVariables false
namespace Go.Proofs.YthjnidcmhegoeaaDoor.Abs
open Go.RowKit
open R (val row ref)

open Go.Lib (decDigits decDigits_one hasPrefix)
section
variable {P : Program} {l : List (Nat × D)} {h : List (Nat × Ob)} {o : Oper} {m m' : Bool} {t t' : TypeId} {x y : Operand}
/-- A pointer to a variable is not nil. -/
theorem k_ptrNe {k i sz off : Nat} (hT : P.underlying t = some (.pointer (P.pointee t))) (ho : o.op = .binOp .neq t x y t') (hx : evO l x = some (.one (.ptr k i sz off))) (hy : evO l y = some (.one (.r m' (val (.pointer none))))) : Loc P (lookH h) (evD (look l)) o (.one (.r true (bool true))) :=
  loc_run fun base a w ι own hw he hH => by
    have h1 : (evD (look l) x).p ι base ⟨w, own⟩ (a.eval x) := he x (by rw [ho]; simp [Op.operands])
    have h2 : (evD (look l) y).p ι base ⟨w, own⟩ (a.eval y) := he y (by rw [ho]; simp [Op.operands])
    rw [evO_spec hx] at h1
    rw [evO_spec hy] at h2
    have e1 : a.eval x = .pointer (some ⟨(ι k).1, (ι k).2 + (i * sz + off), none⟩) := h1
    refine ⟨.bool true, ?_, rfl, rfl⟩
    unfold execOp
    rw [ho]
    simp only [h2.1, e1]
    simp [eqGuard, binOp, run_equal_pointer_nil w t _ hT, go_sem]
theorem k_nilNe (hT : P.underlying t = some (.pointer (P.pointee t))) (ho : o.op = .binOp .neq t x y t') (hx : evO l x = some (.one (.r m (val (.pointer none))))) (hy : evO l y = some (.one (.r m' (val (.pointer none))))) : Loc P (lookH h) (evD (look l)) o (.one (.r true (bool false))) :=
  loc_run fun base a w ι own hw he hH => by
    have h1 : (evD (look l) x).p ι base ⟨w, own⟩ (a.eval x) := he x (by rw [ho]; simp [Op.operands])
    have h2 : (evD (look l) y).p ι base ⟨w, own⟩ (a.eval y) := he y (by rw [ho]; simp [Op.operands])
    rw [evO_spec hx] at h1
    rw [evO_spec hy] at h2
    refine ⟨.bool false, ?_, rfl, rfl⟩
    unfold execOp
    rw [ho]
    simp only [h2.1, h1.1]
    simp [eqGuard, binOp, run_equal_pointer_nil w t _ hT, go_sem]
end
abbrev jobP (k s r n : Int) : P0 := .agg [int k, int s, int r, int n]
abbrev prgP (k s r : Int) : P0 := .agg [int k, int s, int r]
/-! ### numbers -/
theorem isDg_iff (b : UInt8) : isDg b = true ↔ 48 ≤ b.toNat ∧ b.toNat ≤ 57 := by unfold isDg; rw [decide_eq_true_eq]
theorem valD_lt : ∀ (l : List UInt8), (∀ b ∈ l, isDg b = true) → valD l < 10 ^ l.length := by
  refine snocInd (fun _ => by decide) ?_
  intro u b ih hd
  rw [valD_snoc, List.length_append, List.length_singleton, Nat.pow_succ]
  have h1 := ih (fun b hb => hd b (by simp [hb]))
  have h2 := (isDg_iff b).1 (hd b (by simp))
  omega
theorem take_snoc {u : List UInt8} {i : Nat} {b : UInt8} (h : u[i]? = some b) : u.take (i + 1) = u.take i ++ [b] := by
  obtain ⟨h1, h2⟩ := List.getElem?_eq_some_iff.1 h
  rw [List.take_succ_eq_append_getElem h1, h2]
theorem pow6 {k : Nat} (h : k ≤ 6) : 10 ^ k ≤ 1000000 := by
  have : 10 ^ k ≤ 10 ^ 6 := Nat.pow_le_pow_right (by omega) h
  omega
set_option maxRecDepth 100000 in
set_option maxHeartbeats 4000000 in
theorem f_plainY (u : List UInt8) (hd : ∀ b ∈ u, isDg b = true) (h1 : 1 ≤ u.length) (h6 : u.length ≤ 6) (h0 : ¬ (1 < u.length ∧ u.head? = some 48)) : Fn Tryd.prog 98 [strP u] (.tup [iP (valD u), .one (bool true)]) := by
  obtain ⟨a, ha⟩ : ∃ a, u[0]? = some a := ⟨u[0], by rw [List.getElem?_eq_getElem (by omega)]⟩
  have ha0 : 1 < u.length → a.toNat ≠ 48 := fun h he => h0 ⟨h, by rw [List.head?_eq_getElem?, ha, show a = 48 from UInt8.toNat_inj.1 he]⟩
  have hlen6 : (u.length : Int) ≤ 6 := by omega
  clear h0
  by_cases hl1 : u.length = 1
  all_goals
    first
      | have ha1 := ha0 (by omega)
      | have ha1 := hl1
    clear ha0
    refine fn_of (l := [.tmp 2, .tmp 3]) Tryd.func98 (by kernel_rfl) rfl Tryd.ntmps98 rfl rfl ?_; simp only [argEnv, P0.d, Nat.reduceAdd]
    repeat' (first | (with_reducible first | refine aw_seq ?_ | refine thn_normal ?_ | refine thn_ret ?_ | refine thn_exit ?_ | refine blk_normal ?_ | refine blk_ret ?_ | refine blk_hit ?_ | refine blk_miss rfl ?_ | refine aw_block ?_ | refine aw_ret ?_ | refine aw_skip ?_ | refine aw_exit ?_ | refine w_nil ?_ | refine x_nil (by kernel_rfl) ?_) | refine aw_region ?_ | refine aw_region_draw (by kernel_rfl) ?_ | refine aw_yes rfl ?_ | refine aw_no rfl ?_ | ((with_reducible refine w_seq ?_); first | refine r_q tbOk rfl rfl rfl rfl ?_ | refine r_e tbOk rfl rfl rfl rfl rfl ?_ | refine r_yes tbOk rfl rfl rfl rfl rfl rfl ?_ | refine w_no rfl rfl (lookO_spec rfl) rfl rfl rfl ?_ | refine w_un rfl rfl (lookO_spec rfl) rfl rfl ?_) | ((with_reducible refine w_drw ?_); first | refine rx_q tbOk rfl rfl rfl rfl ?_ | refine rx_e tbOk rfl rfl rfl rfl rfl ?_ | refine rx_yes tbOk rfl rfl rfl rfl rfl rfl ?_ | refine x_no rfl rfl (lookO_spec rfl) rfl rfl rfl ?_ | refine x_un rfl rfl (lookO_spec rfl) rfl rfl ?_) | ((first | refine' w_q rfl rfl ?xa rfl ?_ | refine' v_q rfl rfl ?xa rfl ?_ | refine' w_yes rfl rfl (lookO_spec rfl) rfl ?xa rfl ?_ | refine' v_yes rfl rfl (lookO_spec rfl) rfl ?xa rfl ?_); case xa => first | exact k_strLen u_str rfl rfl | exact k_strAt (i := 0) ha u_str rfl rfl rfl) | ((first | refine aw_ways rfl ?_ ?_ | refine r_split rfl rfl rfl ?_ ?_) <;> intro hg_ <;> fail_if_success (exact Bool.noConfusion hg_)) <;> (try simp only [prn] at hg_) <;> (try first | contradiction | (exfalso; omega)))
    all_goals first
      | (exfalso; omega)
      | skip
    obtain ⟨F, hF⟩ : ∃ F : Nat → St, ∀ i : Nat, F i = mkS 49 [(26, .one (.r true (int (i : Int)))), (25, .one (.r true (int (u.length : Int)))), (4, .one (.r true (int (valD (u.take i) : Int)))), (0, .one (.r false (val (strV u))))] [] := ⟨_, fun _ => rfl⟩
    refine aw_loopI (fun i : Nat => i ≤ u.length) F (fun i => u.length - i) 0 (Nat.zero_le _) (by rw [hF]; (refine weak_ren [] rfl ?_ ?_ <;> repeat' (first | exact trivial | refine subR_cons rfl ?_ ?_ | refine subHR_cons rfl ?_ ?_ | rfl | (refine d_int ?_; (first | rfl | omega | (rw [IntWalk.i64_in _ (by omega)] <;> omega) | (simp; done) | (simp; omega))) | (refine d_bool ?_; (first | (simp_all; done) | (rw [Bool.eq_iff_iff]; simp_all; done) | (rw [Bool.eq_iff_iff]; simp_all; omega) | (rw [Bool.eq_iff_iff]; simp; omega)))))) ?_
    rintro i hi
    rw [hF]
    by_cases hlt : i < u.length
    · obtain ⟨b, hb⟩ : ∃ b, u[i]? = some b := ⟨u[i], by rw [List.getElem?_eq_getElem hlt]⟩
      have hdb := (isDg_iff b).1 (hd b (List.mem_of_getElem? hb))
      have hv := valD_lt (u.take i) (fun b hb => hd b (List.mem_of_mem_take hb))
      have hp := pow6 (k := (u.take i).length) (by rw [List.length_take]; omega)
      have hfin : ∀ s' : St, Weak s' (F (i + 1)) → ∃ x' : Nat, x' ≤ u.length ∧ Weak s' (F x') ∧ u.length - x' < u.length - i := fun s' h => ⟨i + 1, hlt, h, by omega⟩
      rw [hF (i + 1), take_snoc hb, valD_snoc] at hfin
      generalize valD (u.take i) = v at *
      have hw : IntKind.i64.wrap (IntKind.i64.wrap (10 * (v : Int)) + IntKind.i64.wrap (IntKind.u8.wrap ((b.toNat : Int) - 48))) = ((10 * v + (b.toNat - 48) : Nat) : Int) := by
        rw [IntWalk.i64_in (10 * (v : Int)) (by omega)]
        have : IntKind.u8.wrap ((b.toNat : Int) - 48) = (b.toNat : Int) - 48 := by
          unfold IntKind.wrap; simp [IntKind.bits, IntKind.signed]; omega
        rw [this, IntWalk.i64_in ((b.toNat : Int) - 48) (by omega), IntWalk.i64_in _ (by omega)]
        omega
      have hw1 : IntKind.i64.wrap ((i : Int) + 1) = ((i + 1 : Nat) : Int) := by rw [IntWalk.i64_in _ (by omega)]; omega
      clear hF hd hv hp ha ha1
      repeat' (first | (with_reducible first | refine aw_seq ?_ | refine thn_normal ?_ | refine thn_ret ?_ | refine thn_exit ?_ | refine blk_normal ?_ | refine blk_ret ?_ | refine blk_hit ?_ | refine blk_miss rfl ?_ | refine aw_block ?_ | refine aw_ret ?_ | refine aw_skip ?_ | refine aw_exit ?_ | refine w_nil ?_ | refine x_nil (by kernel_rfl) ?_) | refine aw_region ?_ | refine aw_region_draw (by kernel_rfl) ?_ | refine aw_yes rfl ?_ | refine aw_no rfl ?_ | ((with_reducible refine w_seq ?_); first | refine r_q tbOk rfl rfl rfl rfl ?_ | refine r_e tbOk rfl rfl rfl rfl rfl ?_ | refine r_yes tbOk rfl rfl rfl rfl rfl rfl ?_ | refine w_no rfl rfl (lookO_spec rfl) rfl rfl rfl ?_ | refine w_un rfl rfl (lookO_spec rfl) rfl rfl ?_) | ((with_reducible refine w_drw ?_); first | refine rx_q tbOk rfl rfl rfl rfl ?_ | refine rx_e tbOk rfl rfl rfl rfl rfl ?_ | refine rx_yes tbOk rfl rfl rfl rfl rfl rfl ?_ | refine x_no rfl rfl (lookO_spec rfl) rfl rfl rfl ?_ | refine x_un rfl rfl (lookO_spec rfl) rfl rfl ?_) | ((first | refine' w_q rfl rfl ?xa rfl ?_ | refine' v_q rfl rfl ?xa rfl ?_ | refine' w_yes rfl rfl (lookO_spec rfl) rfl ?xa rfl ?_ | refine' v_yes rfl rfl (lookO_spec rfl) rfl ?xa rfl ?_); case xa => first | exact k_strAt hb u_str rfl rfl rfl | exact k_conv u_u8 u_i64 rfl rfl) | ((first | refine aw_ways rfl ?_ ?_ | refine r_split rfl rfl rfl ?_ ?_) <;> intro hg_ <;> fail_if_success (exact Bool.noConfusion hg_)) <;> (try simp only [prn] at hg_) <;> (try first | contradiction | (exfalso; omega)))
      all_goals first
        | (exfalso; omega)
        | (refine hfin _ ?_
           (refine weak_ren [] rfl ?_ ?_ <;> repeat' (first | exact trivial | refine subR_cons rfl ?_ ?_ | refine subHR_cons rfl ?_ ?_ | rfl | (refine d_int ?_; (first | rfl | omega | (rw [IntWalk.i64_in _ (by omega)] <;> omega) | (simp; done) | (simp; omega))) | (refine d_bool ?_; (first | (simp_all; done) | (rw [Bool.eq_iff_iff]; simp_all; done) | (rw [Bool.eq_iff_iff]; simp_all; omega) | (rw [Bool.eq_iff_iff]; simp; omega))) | exact d_int hw | exact d_int hw1)))
        | trace_state
    · have hiu : i = u.length := by omega
      subst hiu
      have htk : u.take u.length = u := List.take_of_length_le (Nat.le_refl _)
      rw [htk]
      repeat' (first | (with_reducible first | refine aw_seq ?_ | refine thn_normal ?_ | refine thn_ret ?_ | refine thn_exit ?_ | refine blk_normal ?_ | refine blk_ret ?_ | refine blk_hit ?_ | refine blk_miss rfl ?_ | refine aw_block ?_ | refine aw_ret ?_ | refine aw_skip ?_ | refine aw_exit ?_ | refine w_nil ?_ | refine x_nil (by kernel_rfl) ?_) | refine aw_region ?_ | refine aw_region_draw (by kernel_rfl) ?_ | refine aw_yes rfl ?_ | refine aw_no rfl ?_ | ((with_reducible refine w_seq ?_); first | refine r_q tbOk rfl rfl rfl rfl ?_ | refine r_e tbOk rfl rfl rfl rfl rfl ?_ | refine r_yes tbOk rfl rfl rfl rfl rfl rfl ?_ | refine w_no rfl rfl (lookO_spec rfl) rfl rfl rfl ?_ | refine w_un rfl rfl (lookO_spec rfl) rfl rfl ?_) | ((with_reducible refine w_drw ?_); first | refine rx_q tbOk rfl rfl rfl rfl ?_ | refine rx_e tbOk rfl rfl rfl rfl rfl ?_ | refine rx_yes tbOk rfl rfl rfl rfl rfl rfl ?_ | refine x_no rfl rfl (lookO_spec rfl) rfl rfl rfl ?_ | refine x_un rfl rfl (lookO_spec rfl) rfl rfl ?_) | ((first | refine aw_ways rfl ?_ ?_ | refine r_split rfl rfl rfl ?_ ?_) <;> intro hg_ <;> fail_if_success (exact Bool.noConfusion hg_)) <;> (try simp only [prn] at hg_) <;> (try first | contradiction | (exfalso; omega)))
      all_goals first
        | exact ret_2 (rv_tmp rfl (dres_int rfl)) (rv_tmp rfl (dres_bool rfl))
        | (exfalso; omega)
        | trace_state
set_option maxRecDepth 100000 in
set_option maxHeartbeats 4000000 in
theorem f_plainN (u : List UInt8) (h : ¬ (1 ≤ u.length ∧ u.length ≤ 6 ∧ ¬ (1 < u.length ∧ u.head? = some 48))) : Fn Tryd.prog 98 [strP u] (.tup [iP 0, .one (bool false)]) := by
  by_cases h1 : 1 ≤ u.length ∧ u.length ≤ 6
  · have h2 : 1 < u.length ∧ u.head? = some 48 := Classical.byContradiction fun hn => h ⟨h1.1, h1.2, hn⟩
    obtain ⟨h3, h4⟩ := h2
    rw [List.head?_eq_getElem?] at h4
    have h48 : ((48 : UInt8).toNat : Int) = 48 := rfl
    clear h
    refine fn_of (l := [.tmp 2, .tmp 3]) Tryd.func98 (by kernel_rfl) rfl Tryd.ntmps98 rfl rfl ?_; simp only [argEnv, P0.d, Nat.reduceAdd]
    repeat' (first | (with_reducible first | refine aw_seq ?_ | refine thn_normal ?_ | refine thn_ret ?_ | refine thn_exit ?_ | refine blk_normal ?_ | refine blk_ret ?_ | refine blk_hit ?_ | refine blk_miss rfl ?_ | refine aw_block ?_ | refine aw_ret ?_ | refine aw_skip ?_ | refine aw_exit ?_ | refine w_nil ?_ | refine x_nil (by kernel_rfl) ?_) | refine aw_region ?_ | refine aw_region_draw (by kernel_rfl) ?_ | refine aw_yes rfl ?_ | refine aw_no rfl ?_ | ((with_reducible refine w_seq ?_); first | refine r_q tbOk rfl rfl rfl rfl ?_ | refine r_e tbOk rfl rfl rfl rfl rfl ?_ | refine r_yes tbOk rfl rfl rfl rfl rfl rfl ?_ | refine w_no rfl rfl (lookO_spec rfl) rfl rfl rfl ?_ | refine w_un rfl rfl (lookO_spec rfl) rfl rfl ?_) | ((with_reducible refine w_drw ?_); first | refine rx_q tbOk rfl rfl rfl rfl ?_ | refine rx_e tbOk rfl rfl rfl rfl rfl ?_ | refine rx_yes tbOk rfl rfl rfl rfl rfl rfl ?_ | refine x_no rfl rfl (lookO_spec rfl) rfl rfl rfl ?_ | refine x_un rfl rfl (lookO_spec rfl) rfl rfl ?_) | ((first | refine' w_q rfl rfl ?xa rfl ?_ | refine' v_q rfl rfl ?xa rfl ?_ | refine' w_yes rfl rfl (lookO_spec rfl) rfl ?xa rfl ?_ | refine' v_yes rfl rfl (lookO_spec rfl) rfl ?xa rfl ?_); case xa => first | exact k_strLen u_str rfl rfl | exact k_strAt (i := 0) h4 u_str rfl rfl rfl) | ((first | refine aw_ways rfl ?_ ?_ | refine r_split rfl rfl rfl ?_ ?_) <;> intro hg_ <;> fail_if_success (exact Bool.noConfusion hg_)) <;> (try simp only [prn] at hg_) <;> (try first | contradiction | (exfalso; omega)))
    all_goals first
      | exact ret_2 (rv_tmp rfl (dres_int rfl)) (rv_tmp rfl (dres_bool rfl))
      | (exfalso; omega)
      | trace_state
  · have h2 : u.length = 0 ∨ 6 < u.length := by omega
    obtain ⟨a, ha⟩ : ∃ a : UInt8, 0 < u.length → u[0]? = some a := by
      by_cases hu : 0 < u.length
      · exact ⟨u[0], fun _ => by rw [List.getElem?_eq_getElem hu]⟩
      · exact ⟨0, fun h => absurd h hu⟩
    clear h h1
    rcases h2 with h2 | h2
    · refine fn_of (l := [.tmp 2, .tmp 3]) Tryd.func98 (by kernel_rfl) rfl Tryd.ntmps98 rfl rfl ?_; simp only [argEnv, P0.d, Nat.reduceAdd]
      repeat' (first | (with_reducible first | refine aw_seq ?_ | refine thn_normal ?_ | refine thn_ret ?_ | refine thn_exit ?_ | refine blk_normal ?_ | refine blk_ret ?_ | refine blk_hit ?_ | refine blk_miss rfl ?_ | refine aw_block ?_ | refine aw_ret ?_ | refine aw_skip ?_ | refine aw_exit ?_ | refine w_nil ?_ | refine x_nil (by kernel_rfl) ?_) | refine aw_region ?_ | refine aw_region_draw (by kernel_rfl) ?_ | refine aw_yes rfl ?_ | refine aw_no rfl ?_ | ((with_reducible refine w_seq ?_); first | refine r_q tbOk rfl rfl rfl rfl ?_ | refine r_e tbOk rfl rfl rfl rfl rfl ?_ | refine r_yes tbOk rfl rfl rfl rfl rfl rfl ?_ | refine w_no rfl rfl (lookO_spec rfl) rfl rfl rfl ?_ | refine w_un rfl rfl (lookO_spec rfl) rfl rfl ?_) | ((with_reducible refine w_drw ?_); first | refine rx_q tbOk rfl rfl rfl rfl ?_ | refine rx_e tbOk rfl rfl rfl rfl rfl ?_ | refine rx_yes tbOk rfl rfl rfl rfl rfl rfl ?_ | refine x_no rfl rfl (lookO_spec rfl) rfl rfl rfl ?_ | refine x_un rfl rfl (lookO_spec rfl) rfl rfl ?_) | ((first | refine' w_q rfl rfl ?xa rfl ?_ | refine' v_q rfl rfl ?xa rfl ?_ | refine' w_yes rfl rfl (lookO_spec rfl) rfl ?xa rfl ?_ | refine' v_yes rfl rfl (lookO_spec rfl) rfl ?xa rfl ?_); case xa => exact k_strLen u_str rfl rfl) | ((first | refine aw_ways rfl ?_ ?_ | refine r_split rfl rfl rfl ?_ ?_) <;> intro hg_ <;> fail_if_success (exact Bool.noConfusion hg_)) <;> (try simp only [prn] at hg_) <;> (try first | contradiction | (exfalso; omega)))
      all_goals first
        | exact ret_2 (rv_tmp rfl (dres_int rfl)) (rv_tmp rfl (dres_bool rfl))
        | (exfalso; omega)
        | trace_state
    · have ha := ha (by omega)
      refine fn_of (l := [.tmp 2, .tmp 3]) Tryd.func98 (by kernel_rfl) rfl Tryd.ntmps98 rfl rfl ?_; simp only [argEnv, P0.d, Nat.reduceAdd]
      repeat' (first | (with_reducible first | refine aw_seq ?_ | refine thn_normal ?_ | refine thn_ret ?_ | refine thn_exit ?_ | refine blk_normal ?_ | refine blk_ret ?_ | refine blk_hit ?_ | refine blk_miss rfl ?_ | refine aw_block ?_ | refine aw_ret ?_ | refine aw_skip ?_ | refine aw_exit ?_ | refine w_nil ?_ | refine x_nil (by kernel_rfl) ?_) | refine aw_region ?_ | refine aw_region_draw (by kernel_rfl) ?_ | refine aw_yes rfl ?_ | refine aw_no rfl ?_ | ((with_reducible refine w_seq ?_); first | refine r_q tbOk rfl rfl rfl rfl ?_ | refine r_e tbOk rfl rfl rfl rfl rfl ?_ | refine r_yes tbOk rfl rfl rfl rfl rfl rfl ?_ | refine w_no rfl rfl (lookO_spec rfl) rfl rfl rfl ?_ | refine w_un rfl rfl (lookO_spec rfl) rfl rfl ?_) | ((with_reducible refine w_drw ?_); first | refine rx_q tbOk rfl rfl rfl rfl ?_ | refine rx_e tbOk rfl rfl rfl rfl rfl ?_ | refine rx_yes tbOk rfl rfl rfl rfl rfl rfl ?_ | refine x_no rfl rfl (lookO_spec rfl) rfl rfl rfl ?_ | refine x_un rfl rfl (lookO_spec rfl) rfl rfl ?_) | ((first | refine' w_q rfl rfl ?xa rfl ?_ | refine' v_q rfl rfl ?xa rfl ?_ | refine' w_yes rfl rfl (lookO_spec rfl) rfl ?xa rfl ?_ | refine' v_yes rfl rfl (lookO_spec rfl) rfl ?xa rfl ?_); case xa => first | exact k_strLen u_str rfl rfl | exact k_strAt (i := 0) ha u_str rfl rfl rfl) | ((first | refine aw_ways rfl ?_ ?_ | refine r_split rfl rfl rfl ?_ ?_) <;> intro hg_ <;> fail_if_success (exact Bool.noConfusion hg_)) <;> (try simp only [prn] at hg_) <;> (try first | contradiction | (exfalso; omega)))
      all_goals first
        | exact ret_2 (rv_tmp rfl (dres_int rfl)) (rv_tmp rfl (dres_bool rfl))
        | (exfalso; omega)
        | trace_state
theorem tw_lt {p : List UInt8} : ∀ {i : Nat}, i < (p.takeWhile isDg).length → ∃ b, p[i]? = some b ∧ isDg b = true := by
  intro i hi
  have h1 : (p.takeWhile isDg)[i]? = some (p.takeWhile isDg)[i] := List.getElem?_eq_getElem hi
  refine ⟨_, ?_, tw_all p _ (List.getElem_mem hi)⟩
  have h2 : p = p.takeWhile isDg ++ p.dropWhile isDg := (List.takeWhile_append_dropWhile).symm
  have h3 : (p.takeWhile isDg ++ p.dropWhile isDg)[i]? = (p.takeWhile isDg)[i]? := List.getElem?_append_left hi
  rw [← h2] at h3
  rw [h3, h1]
theorem tw_end {p : List UInt8} {b : UInt8} (h : p[(p.takeWhile isDg).length]? = some b) : isDg b = false := by
  have h2 : p = p.takeWhile isDg ++ p.dropWhile isDg := (List.takeWhile_append_dropWhile).symm
  have h3 : (p.takeWhile isDg ++ p.dropWhile isDg)[(p.takeWhile isDg).length]? = (p.dropWhile isDg)[0]? := by rw [List.getElem?_append_right (Nat.le_refl _), Nat.sub_self]
  rw [← h2, h, ← List.head?_eq_getElem?] at h3
  have := List.head?_dropWhile_not isDg p
  rw [← h3] at this
  simpa using this
theorem tw_take (p : List UInt8) : p.take (p.takeWhile isDg).length = p.takeWhile isDg := by
  have h2 : p = p.takeWhile isDg ++ p.dropWhile isDg := (List.takeWhile_append_dropWhile).symm
  have h3 : (p.takeWhile isDg ++ p.dropWhile isDg).take (p.takeWhile isDg).length = p.takeWhile isDg := List.take_left
  rwa [← h2] at h3
theorem tw_le (p : List UInt8) : (p.takeWhile isDg).length ≤ p.length := (List.takeWhile_prefix isDg).length_le
theorem tw_head {p : List UInt8} (h : 1 ≤ (p.takeWhile isDg).length) : (p.takeWhile isDg).head? = p.head? := by
  have h2 : p = p.takeWhile isDg ++ p.dropWhile isDg := (List.takeWhile_append_dropWhile).symm
  have h3 := hd_app (l := p.takeWhile isDg) (r := p.dropWhile isDg) (fun e => by rw [e] at h; simp at h)
  rw [← h2] at h3
  exact h3.symm
/-- What 'number' says and leaves. -/
def numR (p : List UInt8) : Nat × Bool × List UInt8 := match jNum p with | some (n, r) => (n, true, r) | none => (0, false, p)
set_option maxRecDepth 100000 in
set_option maxHeartbeats 4000000 in
theorem f_number (m : Bool) (p : List UInt8) (hpl : p.length ≤ 1048576) : ∃ m2 : Bool, FnS Tryd.prog 85 [.one (.ptr 1000000000 0 0 0)] (scH 1000000000 m p) (.tups [(false, [.r true (int ((numR p).1 : Int))]), (false, [.r true (bool (numR p).2.1)])]) (scH 1000000000 m2 (numR p).2.2) := by
  obtain ⟨T, hT⟩ : ∃ T, T = (p.takeWhile isDg).length := ⟨_, rfl⟩
  have htl := tw_le p
  have hlt' := fun i => @tw_lt p i
  have hend := fun b => @tw_end p b
  have htk := tw_take p
  have hall := tw_all p
  have hhd := @tw_head p
  have hK : Fn Tryd.prog 98 [strP (p.take T)] (.tup [iP (numR p).1, .one (bool (numR p).2.1)]) ∧ ((numR p).2.1 = true → (numR p).2.2 = p.drop T) ∧ ((numR p).2.1 = false → (numR p).2.2 = p) := by
    rw [hT, htk]
    unfold numR jNum
    by_cases hc : 1 ≤ (p.takeWhile isDg).length ∧ (p.takeWhile isDg).length ≤ 6 ∧ ¬ (1 < (p.takeWhile isDg).length ∧ p.head? = some 48)
    · rw [if_pos hc]
      exact ⟨f_plainY _ hall hc.1 hc.2.1 (by rw [hhd hc.1]; exact hc.2.2), fun _ => rfl, fun h => by cases h⟩
    · rw [if_neg hc]
      refine ⟨f_plainN _ (fun h => hc ⟨h.1, h.2.1, ?_⟩), fun h => (by cases h), fun _ => rfl⟩
      rw [← hhd h.1]; exact h.2.2
  clear hhd hall htk
  rw [← hT] at htl hlt' hend
  clear hT
  obtain ⟨K, hY, hN⟩ := hK
  generalize numR p = z at *
  obtain ⟨n, ok, r⟩ := z
  dsimp only at K hY hN ⊢
  have main : ∀ m2 : Bool, (ok = true → m2 = true) → (ok = false → m2 = m) → FnS Tryd.prog 85 [.one (.ptr 1000000000 0 0 0)] (scH 1000000000 m p) (.tups [(false, [.r true (int (n : Int))]), (false, [.r true (bool ok)])]) (scH 1000000000 m2 r) := by
    intro m2 hm1 hm2
    unfold scH
    refine fnS_of (l := [.tmp 2, .tmp 3]) Tryd.func85 (by kernel_rfl) rfl Tryd.ntmps85 rfl rfl ?_; simp only [dEnv, Nat.reduceAdd]
    repeat' (first | (with_reducible first | refine aw_seq ?_ | refine thn_normal ?_ | refine thn_ret ?_ | refine thn_exit ?_ | refine blk_normal ?_ | refine blk_ret ?_ | refine blk_hit ?_ | refine blk_miss rfl ?_ | refine aw_block ?_ | refine aw_ret ?_ | refine aw_skip ?_ | refine aw_exit ?_ | refine w_nil ?_ | refine x_nil (by kernel_rfl) ?_) | refine aw_region ?_ | refine aw_region_draw (by kernel_rfl) ?_ | refine aw_yes rfl ?_ | refine aw_no rfl ?_ | ((with_reducible refine w_seq ?_); first | refine r_q tbOk rfl rfl rfl rfl ?_ | refine r_e tbOk rfl rfl rfl rfl rfl ?_ | refine r_yes tbOk rfl rfl rfl rfl rfl rfl ?_ | refine w_no rfl rfl (lookO_spec rfl) rfl rfl rfl ?_ | refine w_un rfl rfl (lookO_spec rfl) rfl rfl ?_) | ((with_reducible refine w_drw ?_); first | refine rx_q tbOk rfl rfl rfl rfl ?_ | refine rx_e tbOk rfl rfl rfl rfl rfl ?_ | refine rx_yes tbOk rfl rfl rfl rfl rfl rfl ?_ | refine x_no rfl rfl (lookO_spec rfl) rfl rfl rfl ?_ | refine x_un rfl rfl (lookO_spec rfl) rfl rfl ?_) | ((first | refine aw_ways rfl ?_ ?_ | refine r_split rfl rfl rfl ?_ ?_) <;> intro hg_ <;> fail_if_success (exact Bool.noConfusion hg_)) <;> (try simp only [prn] at hg_) <;> (try first | contradiction | (exfalso; omega)))
    obtain ⟨F, hF⟩ : ∃ F : Nat → St, ∀ i : Nat, F i = mkS 56 [(4, .one (.r true (int (i : Int)))), (0, .one (.ptr 1000000000 0 0 0))] [(1000000000, .var 115 [.r m (val (strV p))])] := ⟨_, fun _ => rfl⟩
    refine aw_loopI (fun i : Nat => i ≤ T) F (fun i => T - i) 0 (Nat.zero_le _) (by rw [hF]; (refine weak_ren [] rfl ?_ ?_ <;> repeat' (first | exact trivial | refine subR_cons rfl ?_ ?_ | refine subHR_cons rfl ?_ ?_ | rfl | (refine d_int ?_; (first | rfl | omega | (rw [IntWalk.i64_in _ (by omega)] <;> omega) | (simp; done) | (simp; omega))) | (refine d_bool ?_; (first | (simp_all; done) | (rw [Bool.eq_iff_iff]; simp_all; done) | (rw [Bool.eq_iff_iff]; simp_all; omega) | (rw [Bool.eq_iff_iff]; simp; omega)))))) ?_
    rintro i hi
    rw [hF]
    by_cases hlt : i < T
    · obtain ⟨b, hb, hbd⟩ := hlt' i hlt
      have hdb := (isDg_iff b).1 hbd
      have hfin : ∀ s' : St, Weak s' (F (i + 1)) → ∃ x' : Nat, x' ≤ T ∧ Weak s' (F x') ∧ T - x' < T - i := fun s' h => ⟨i + 1, hlt, h, by omega⟩
      rw [hF (i + 1)] at hfin
      have hw1 : IntKind.i64.wrap ((i : Int) + 1) = ((i + 1 : Nat) : Int) := by rw [IntWalk.i64_in _ (by omega)]; omega
      clear hF hlt' hend hbd K hY hN
      repeat' (first | (with_reducible first | refine aw_seq ?_ | refine thn_normal ?_ | refine thn_ret ?_ | refine thn_exit ?_ | refine blk_normal ?_ | refine blk_ret ?_ | refine blk_hit ?_ | refine blk_miss rfl ?_ | refine aw_block ?_ | refine aw_ret ?_ | refine aw_skip ?_ | refine aw_exit ?_ | refine w_nil ?_ | refine x_nil (by kernel_rfl) ?_) | refine aw_region ?_ | refine aw_region_draw (by kernel_rfl) ?_ | refine aw_yes rfl ?_ | refine aw_no rfl ?_ | ((with_reducible refine w_seq ?_); first | refine r_q tbOk rfl rfl rfl rfl ?_ | refine r_e tbOk rfl rfl rfl rfl rfl ?_ | refine r_yes tbOk rfl rfl rfl rfl rfl rfl ?_ | refine w_no rfl rfl (lookO_spec rfl) rfl rfl rfl ?_ | refine w_un rfl rfl (lookO_spec rfl) rfl rfl ?_) | ((with_reducible refine w_drw ?_); first | refine rx_q tbOk rfl rfl rfl rfl ?_ | refine rx_e tbOk rfl rfl rfl rfl rfl ?_ | refine rx_yes tbOk rfl rfl rfl rfl rfl rfl ?_ | refine x_no rfl rfl (lookO_spec rfl) rfl rfl rfl ?_ | refine x_un rfl rfl (lookO_spec rfl) rfl rfl ?_) | ((first | refine' w_q rfl rfl ?xa rfl ?_ | refine' v_q rfl rfl ?xa rfl ?_ | refine' w_yes rfl rfl (lookO_spec rfl) rfl ?xa rfl ?_ | refine' v_yes rfl rfl (lookO_spec rfl) rfl ?xa rfl ?_); case xa => first | exact k_strLen u_str rfl rfl | exact k_strAt hb u_str rfl rfl rfl) | ((first | refine aw_ways rfl ?_ ?_ | refine r_split rfl rfl rfl ?_ ?_) <;> intro hg_ <;> fail_if_success (exact Bool.noConfusion hg_)) <;> (try simp only [prn] at hg_) <;> (try first | contradiction | (exfalso; omega)))
      all_goals first
        | (exfalso; omega)
        | (refine hfin _ ?_
           (refine weak_ren [] rfl ?_ ?_ <;> repeat' (first | exact trivial | refine subR_cons rfl ?_ ?_ | refine subHR_cons rfl ?_ ?_ | rfl | (refine d_int ?_; (first | rfl | omega | (rw [IntWalk.i64_in _ (by omega)] <;> omega) | (simp; done) | (simp; omega))) | (refine d_bool ?_; (first | (simp_all; done) | (rw [Bool.eq_iff_iff]; simp_all; done) | (rw [Bool.eq_iff_iff]; simp_all; omega) | (rw [Bool.eq_iff_iff]; simp; omega))) | exact d_int hw1)))
        | trace_state
    · have hiT : i = T := by omega
      subst hiT
      clear hF hlt'
      obtain ⟨b, hb, hbn⟩ : ∃ b : UInt8, (i < p.length → p[i]? = some b) ∧ (i < p.length → ¬ (48 ≤ b.toNat ∧ b.toNat ≤ 57)) := by
        by_cases hu : i < p.length
        · obtain ⟨b, hb⟩ : ∃ b, p[i]? = some b := ⟨p[i], by rw [List.getElem?_eq_getElem hu]⟩
          refine ⟨b, fun _ => hb, fun _ hc => ?_⟩
          have h1 := hend b hb
          rw [(isDg_iff b).2 hc] at h1
          cases h1
        · exact ⟨0, fun h => absurd h hu, fun h => absurd h hu⟩
      clear hend
      have hs1 : (p.drop 0).take (i - 0) = p.take i := by simp
      rw [← hs1] at K
      have hs2 : (p.drop i).take (p.length - i) = p.drop i := List.take_of_length_le (by rw [List.length_drop]; omega)
      cases ok with
      | true =>
        have hm := hm1 rfl
        have hr := hY rfl
        clear hm1 hm2 hY hN
        subst hm hr
        by_cases hu : i < p.length
        · have hb := hb hu
          have hbn := hbn hu
          repeat' (first | (with_reducible first | refine aw_seq ?_ | refine thn_normal ?_ | refine thn_ret ?_ | refine thn_exit ?_ | refine blk_normal ?_ | refine blk_ret ?_ | refine blk_hit ?_ | refine blk_miss rfl ?_ | refine aw_block ?_ | refine aw_ret ?_ | refine aw_skip ?_ | refine aw_exit ?_ | refine w_nil ?_ | refine x_nil (by kernel_rfl) ?_) | refine aw_region ?_ | refine aw_region_draw (by kernel_rfl) ?_ | refine aw_yes rfl ?_ | refine aw_no rfl ?_ | ((with_reducible refine w_seq ?_); first | refine r_q tbOk rfl rfl rfl rfl ?_ | refine r_e tbOk rfl rfl rfl rfl rfl ?_ | refine r_yes tbOk rfl rfl rfl rfl rfl rfl ?_ | refine w_no rfl rfl (lookO_spec rfl) rfl rfl rfl ?_ | refine w_un rfl rfl (lookO_spec rfl) rfl rfl ?_) | ((with_reducible refine w_drw ?_); first | refine rx_q tbOk rfl rfl rfl rfl ?_ | refine rx_e tbOk rfl rfl rfl rfl rfl ?_ | refine rx_yes tbOk rfl rfl rfl rfl rfl rfl ?_ | refine x_no rfl rfl (lookO_spec rfl) rfl rfl rfl ?_ | refine x_un rfl rfl (lookO_spec rfl) rfl rfl ?_) | ((first | refine' w_q rfl rfl ?xa rfl ?_ | refine' v_q rfl rfl ?xa rfl ?_ | refine' w_yes rfl rfl (lookO_spec rfl) rfl ?xa rfl ?_ | refine' v_yes rfl rfl (lookO_spec rfl) rfl ?xa rfl ?_); case xa => first | exact k_strLen u_str rfl rfl | exact k_strAt hb u_str rfl rfl rfl | exact k_strSlice u_str rfl rfl rfl ⟨_, evO_spec rfl⟩ (Nat.zero_le _) htl | exact k_call K rfl ⟨asA_r (evO_spec rfl), trivial⟩ | exact k_strSlice u_str rfl rfl ⟨_, evO_spec rfl⟩ rfl htl (Nat.le_refl _)) | ((first | refine aw_ways rfl ?_ ?_ | refine r_split rfl rfl rfl ?_ ?_) <;> intro hg_ <;> fail_if_success (exact Bool.noConfusion hg_)) <;> (try simp only [prn] at hg_) <;> (try first | contradiction | (exfalso; omega)))
          all_goals first
            | (exfalso; omega)
            | exact ret_D [] rfl (by (repeat' (first | exact trivial | refine subHR_cons rfl ?_ ?_ | rfl | rw [hs2]))) (retD_two (x := (false, [_])) (y := (false, [_])) (ret1_tmp rfl) rfl (ret1_tmp rfl) rfl (imp_refl rfl))
            | trace_state
        · clear hb hbn
          repeat' (first | (with_reducible first | refine aw_seq ?_ | refine thn_normal ?_ | refine thn_ret ?_ | refine thn_exit ?_ | refine blk_normal ?_ | refine blk_ret ?_ | refine blk_hit ?_ | refine blk_miss rfl ?_ | refine aw_block ?_ | refine aw_ret ?_ | refine aw_skip ?_ | refine aw_exit ?_ | refine w_nil ?_ | refine x_nil (by kernel_rfl) ?_) | refine aw_region ?_ | refine aw_region_draw (by kernel_rfl) ?_ | refine aw_yes rfl ?_ | refine aw_no rfl ?_ | ((with_reducible refine w_seq ?_); first | refine r_q tbOk rfl rfl rfl rfl ?_ | refine r_e tbOk rfl rfl rfl rfl rfl ?_ | refine r_yes tbOk rfl rfl rfl rfl rfl rfl ?_ | refine w_no rfl rfl (lookO_spec rfl) rfl rfl rfl ?_ | refine w_un rfl rfl (lookO_spec rfl) rfl rfl ?_) | ((with_reducible refine w_drw ?_); first | refine rx_q tbOk rfl rfl rfl rfl ?_ | refine rx_e tbOk rfl rfl rfl rfl rfl ?_ | refine rx_yes tbOk rfl rfl rfl rfl rfl rfl ?_ | refine x_no rfl rfl (lookO_spec rfl) rfl rfl rfl ?_ | refine x_un rfl rfl (lookO_spec rfl) rfl rfl ?_) | ((first | refine' w_q rfl rfl ?xa rfl ?_ | refine' v_q rfl rfl ?xa rfl ?_ | refine' w_yes rfl rfl (lookO_spec rfl) rfl ?xa rfl ?_ | refine' v_yes rfl rfl (lookO_spec rfl) rfl ?xa rfl ?_); case xa => first | exact k_strLen u_str rfl rfl | exact k_strSlice u_str rfl rfl rfl ⟨_, evO_spec rfl⟩ (Nat.zero_le _) htl | exact k_call K rfl ⟨asA_r (evO_spec rfl), trivial⟩ | exact k_strSlice u_str rfl rfl ⟨_, evO_spec rfl⟩ rfl htl (Nat.le_refl _)) | ((first | refine aw_ways rfl ?_ ?_ | refine r_split rfl rfl rfl ?_ ?_) <;> intro hg_ <;> fail_if_success (exact Bool.noConfusion hg_)) <;> (try simp only [prn] at hg_) <;> (try first | contradiction | (exfalso; omega)))
          all_goals first
            | (exfalso; omega)
            | exact ret_D [] rfl (by (repeat' (first | exact trivial | refine subHR_cons rfl ?_ ?_ | rfl | rw [hs2]))) (retD_two (x := (false, [_])) (y := (false, [_])) (ret1_tmp rfl) rfl (ret1_tmp rfl) rfl (imp_refl rfl))
            | trace_state
      | false =>
        have hm := hm2 rfl
        have hr := hN rfl
        clear hm1 hm2 hY hN
        subst hm hr
        by_cases hu : i < r.length
        · have hb := hb hu
          have hbn := hbn hu
          repeat' (first | (with_reducible first | refine aw_seq ?_ | refine thn_normal ?_ | refine thn_ret ?_ | refine thn_exit ?_ | refine blk_normal ?_ | refine blk_ret ?_ | refine blk_hit ?_ | refine blk_miss rfl ?_ | refine aw_block ?_ | refine aw_ret ?_ | refine aw_skip ?_ | refine aw_exit ?_ | refine w_nil ?_ | refine x_nil (by kernel_rfl) ?_) | refine aw_region ?_ | refine aw_region_draw (by kernel_rfl) ?_ | refine aw_yes rfl ?_ | refine aw_no rfl ?_ | ((with_reducible refine w_seq ?_); first | refine r_q tbOk rfl rfl rfl rfl ?_ | refine r_e tbOk rfl rfl rfl rfl rfl ?_ | refine r_yes tbOk rfl rfl rfl rfl rfl rfl ?_ | refine w_no rfl rfl (lookO_spec rfl) rfl rfl rfl ?_ | refine w_un rfl rfl (lookO_spec rfl) rfl rfl ?_) | ((with_reducible refine w_drw ?_); first | refine rx_q tbOk rfl rfl rfl rfl ?_ | refine rx_e tbOk rfl rfl rfl rfl rfl ?_ | refine rx_yes tbOk rfl rfl rfl rfl rfl rfl ?_ | refine x_no rfl rfl (lookO_spec rfl) rfl rfl rfl ?_ | refine x_un rfl rfl (lookO_spec rfl) rfl rfl ?_) | ((first | refine' w_q rfl rfl ?xa rfl ?_ | refine' v_q rfl rfl ?xa rfl ?_ | refine' w_yes rfl rfl (lookO_spec rfl) rfl ?xa rfl ?_ | refine' v_yes rfl rfl (lookO_spec rfl) rfl ?xa rfl ?_); case xa => first | exact k_strLen u_str rfl rfl | exact k_strAt hb u_str rfl rfl rfl | exact k_strSlice u_str rfl rfl rfl ⟨_, evO_spec rfl⟩ (Nat.zero_le _) htl | exact k_call K rfl ⟨asA_r (evO_spec rfl), trivial⟩) | ((first | refine aw_ways rfl ?_ ?_ | refine r_split rfl rfl rfl ?_ ?_) <;> intro hg_ <;> fail_if_success (exact Bool.noConfusion hg_)) <;> (try simp only [prn] at hg_) <;> (try first | contradiction | (exfalso; omega)))
          all_goals first
            | (exfalso; omega)
            | exact ret_D [] rfl (by (repeat' (first | exact trivial | refine subHR_cons rfl ?_ ?_ | rfl))) (retD_two (x := (false, [_])) (y := (false, [_])) (ret1_tmp rfl) rfl (ret1_tmp rfl) rfl (imp_refl rfl))
            | trace_state
        · clear hb hbn
          repeat' (first | (with_reducible first | refine aw_seq ?_ | refine thn_normal ?_ | refine thn_ret ?_ | refine thn_exit ?_ | refine blk_normal ?_ | refine blk_ret ?_ | refine blk_hit ?_ | refine blk_miss rfl ?_ | refine aw_block ?_ | refine aw_ret ?_ | refine aw_skip ?_ | refine aw_exit ?_ | refine w_nil ?_ | refine x_nil (by kernel_rfl) ?_) | refine aw_region ?_ | refine aw_region_draw (by kernel_rfl) ?_ | refine aw_yes rfl ?_ | refine aw_no rfl ?_ | ((with_reducible refine w_seq ?_); first | refine r_q tbOk rfl rfl rfl rfl ?_ | refine r_e tbOk rfl rfl rfl rfl rfl ?_ | refine r_yes tbOk rfl rfl rfl rfl rfl rfl ?_ | refine w_no rfl rfl (lookO_spec rfl) rfl rfl rfl ?_ | refine w_un rfl rfl (lookO_spec rfl) rfl rfl ?_) | ((with_reducible refine w_drw ?_); first | refine rx_q tbOk rfl rfl rfl rfl ?_ | refine rx_e tbOk rfl rfl rfl rfl rfl ?_ | refine rx_yes tbOk rfl rfl rfl rfl rfl rfl ?_ | refine x_no rfl rfl (lookO_spec rfl) rfl rfl rfl ?_ | refine x_un rfl rfl (lookO_spec rfl) rfl rfl ?_) | ((first | refine' w_q rfl rfl ?xa rfl ?_ | refine' v_q rfl rfl ?xa rfl ?_ | refine' w_yes rfl rfl (lookO_spec rfl) rfl ?xa rfl ?_ | refine' v_yes rfl rfl (lookO_spec rfl) rfl ?xa rfl ?_); case xa => first | exact k_strLen u_str rfl rfl | exact k_strSlice u_str rfl rfl rfl ⟨_, evO_spec rfl⟩ (Nat.zero_le _) htl | exact k_call K rfl ⟨asA_r (evO_spec rfl), trivial⟩) | ((first | refine aw_ways rfl ?_ ?_ | refine r_split rfl rfl rfl ?_ ?_) <;> intro hg_ <;> fail_if_success (exact Bool.noConfusion hg_)) <;> (try simp only [prn] at hg_) <;> (try first | contradiction | (exfalso; omega)))
          all_goals first
            | (exfalso; omega)
            | exact ret_D [] rfl (by (repeat' (first | exact trivial | refine subHR_cons rfl ?_ ?_ | rfl))) (retD_two (x := (false, [_])) (y := (false, [_])) (ret1_tmp rfl) rfl (ret1_tmp rfl) rfl (imp_refl rfl))
            | trace_state
  cases ok with
  | true => exact ⟨true, main true (fun _ => rfl) (fun h => by cases h)⟩
  | false => exact ⟨m, main m (fun h => by cases h) (fun _ => rfl)⟩
end Go.Proofs.YthjnidcmhegoeaaDoor.Abs
