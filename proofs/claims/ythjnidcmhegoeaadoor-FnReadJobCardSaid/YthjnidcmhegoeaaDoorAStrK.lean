/- Texts of jobs by states: ReadJob of the program; the exact law. No statement of the seat is proved here. -/
import Derived.Test.YthjnidcmhegoeaaDoorTy
import Derived.Lib.Hide
import Derived.Test.YthjnidcmhegoeaaDoorAStrJ
set_option linter.unusedSimpArgs false
set_option linter.unusedVariables false
namespace Go.Proofs.YthjnidcmhegoeaaDoor.Abs
open Go.RowKit
open R (val row ref)

open Go.Lib (decDigits decDigits_one hasPrefix)
theorem rdAs_of {k : Int} {l : List UInt8} {j : Int × Int × Int × Int} (h : parseJ k l = some j) : rdAs k l = (j, true) := by
  unfold parseJ at h
  unfold rdAs
  cases h1 : jTk (kindB k) l with
  | none => rw [h1] at h; cases h
  | some l1 =>
    rw [h1] at h
    dsimp only at h ⊢
    generalize (if k = 1 ∨ k = 2 ∨ k = 4 ∨ k = 6 then (match jTk [32] l1 with | none => none | some l2 => jNum l2) else some ((0 : Nat), l1) : Option (Nat × List UInt8)) = x at *
    cases x with
    | none => cases h
    | some x =>
      obtain ⟨n, l3⟩ := x
      dsimp only at h ⊢
      cases h4 : jTk withB l3 with
      | none => rw [h4] at h; cases h
      | some l4 =>
        rw [h4] at h
        dsimp only at h ⊢
        cases h5 : jNum l4 with
        | none => rw [h5] at h; cases h
        | some y =>
          obtain ⟨w, l5⟩ := y
          rw [h5] at h
          dsimp only at h ⊢
          split at h
          · rename_i hc
            rw [if_pos hc.1, hc.2]
            injection h with h
            rw [h]
          · cases h
theorem parse_rdAs {k : Int} {l : List UInt8} (h : (rdAs k l).2 = true) : parseJ k l = some (rdAs k l).1 := by
  unfold rdAs at h ⊢
  unfold parseJ
  cases h1 : jTk (kindB k) l with
  | none => rw [h1] at h; cases h
  | some l1 =>
    rw [h1] at h
    dsimp only at h ⊢
    generalize (if k = 1 ∨ k = 2 ∨ k = 4 ∨ k = 6 then (match jTk [32] l1 with | none => none | some l2 => jNum l2) else some ((0 : Nat), l1) : Option (Nat × List UInt8)) = x at *
    cases x with
    | none => cases h
    | some x =>
      obtain ⟨n, l3⟩ := x
      dsimp only at h ⊢
      cases h4 : jTk withB l3 with
      | none => rw [h4] at h; cases h
      | some l4 =>
        rw [h4] at h
        dsimp only at h ⊢
        cases h5 : jNum l4 with
        | none => rw [h5] at h; cases h
        | some y =>
          obtain ⟨w, l5⟩ := y
          rw [h5] at h
          dsimp only at h ⊢
          by_cases he : l5 = []
          · rw [if_pos he] at h ⊢
            dsimp only at h
            rw [if_pos ⟨he, h⟩]
          · rw [if_neg he] at h; cases h
theorem readJ_rd {k : Int} {l : List UInt8} (h : (rdAs k l).2 = true) : readJ l = ((rdAs k l).1, true) := by
  obtain ⟨h1, h2, h3⟩ := parse_some (parse_rdAs h)
  have := readJ_of h1
  rw [h2] at this
  exact this
theorem rd_readJ {l : List UInt8} (h : ∀ k : Int, 1 ≤ k → k ≤ 6 → (rdAs k l).2 = false) : readJ l = ((0, 0, 0, 0), false) := by
  refine readJ_no ?_
  rintro ⟨⟨k, s, r, n⟩, h1, h2⟩
  dsimp only at h1 h2
  have h3 := rdAs_of (parse_job h1)
  rw [h2] at h3
  have hk := jobOk_kind h1
  have := h k hk.1 hk.2
  rw [h3] at this
  cases this
set_option maxRecDepth 100000 in
set_option maxHeartbeats 4000000 in
theorem f_implReadJob (l : List UInt8) (hl : l.length ≤ 1048576) : Fn Tryd.prog 17 [strP l] (.tup [jobQ (readJ l).1, .one (bool (readJ l).2)]) := by
  have KA := fun k h1 h2 => f_readAs k l ⟨h1, h2⟩ hl
  have hY := fun k => @readJ_rd k l
  have hN := @rd_readJ l
  obtain ⟨R, hR⟩ : ∃ R, R = readJ l := ⟨_, rfl⟩
  rw [← hR] at hN ⊢
  rw [← hR] at hY
  refine fn_of (l := [.cell 2 29, .tmp 3]) Tryd.func17 (by kernel_rfl) rfl Tryd.ntmps17 rfl rfl ?_; simp only [argEnv, P0.d, Nat.reduceAdd, jobQ, jobP]
  repeat' (first | (with_reducible first | refine aw_seq ?_ | refine thn_normal ?_ | refine thn_ret ?_ | refine thn_exit ?_ | refine blk_normal ?_ | refine blk_ret ?_ | refine blk_hit ?_ | refine blk_miss rfl ?_ | refine aw_block ?_ | refine aw_ret ?_ | refine aw_skip ?_ | refine aw_exit ?_ | refine w_nil ?_ | refine x_nil (by kernel_rfl) ?_) | refine aw_region ?_ | refine aw_region_draw (by kernel_rfl) ?_ | refine aw_yes rfl ?_ | refine aw_no rfl ?_ | ((with_reducible refine w_seq ?_); first | refine r_q tbOk rfl rfl rfl rfl ?_ | refine r_e tbOk rfl rfl rfl rfl rfl ?_ | refine r_yes tbOk rfl rfl rfl rfl rfl rfl ?_ | refine w_no rfl rfl (lookO_spec rfl) rfl rfl rfl ?_ | refine w_un rfl rfl (lookO_spec rfl) rfl rfl ?_) | ((with_reducible refine w_drw ?_); first | refine rx_q tbOk rfl rfl rfl rfl ?_ | refine rx_e tbOk rfl rfl rfl rfl rfl ?_ | refine rx_yes tbOk rfl rfl rfl rfl rfl rfl ?_ | refine x_no rfl rfl (lookO_spec rfl) rfl rfl rfl ?_ | refine x_un rfl rfl (lookO_spec rfl) rfl rfl ?_) | ((first | refine aw_ways rfl ?_ ?_ | refine r_split rfl rfl rfl ?_ ?_) <;> intro hg_ <;> fail_if_success (exact Bool.noConfusion hg_)) <;> (try simp only [prn] at hg_) <;> (try first | contradiction | (exfalso; omega)))
  obtain ⟨F, hF⟩ : ∃ F : Nat → St, ∀ i : Nat, F i = mkS 20 [(4, .one (.r true (int ((i : Int) + 1)))), (2, .one (.ptr 2 0 0 0)), (0, .one (.r false (val (strV l))))] [(2, .var 29 [.r true (int 0), .r true (int 0), .r true (int 0), .r true (int 0)])] := ⟨_, fun _ => rfl⟩
  refine aw_loopI (fun i : Nat => i ≤ 6 ∧ ∀ k : Int, 1 ≤ k → k ≤ i → (rdAs k l).2 = false) F (fun i => 6 - i) 0 ⟨by omega, fun k h1 h2 => by omega⟩ (by rw [hF]; (refine weak_ren [] rfl ?_ ?_ <;> repeat' (first | exact trivial | refine subR_cons rfl ?_ ?_ | refine subHR_cons rfl ?_ ?_ | rfl | (refine d_int ?_; (first | rfl | omega | (rw [IntWalk.i64_in _ (by omega)] <;> omega) | (simp; done) | (simp; omega))) | (refine d_bool ?_; (first | (simp_all; done) | (rw [Bool.eq_iff_iff]; simp_all; done) | (rw [Bool.eq_iff_iff]; simp_all; omega) | (rw [Bool.eq_iff_iff]; simp; omega)))))) ?_
  rintro i ⟨hi, hp⟩
  rw [hF]
  by_cases hlt : i < 6
  · have K := KA ((i : Int) + 1) (by omega) (by omega)
    have hfin : ∀ s' : St, Weak s' (F (i + 1)) → (rdAs ((i : Int) + 1) l).2 = false → ∃ x' : Nat, (x' ≤ 6 ∧ ∀ k : Int, 1 ≤ k → k ≤ x' → (rdAs k l).2 = false) ∧ Weak s' (F x') ∧ 6 - x' < 6 - i := fun s' h hq => ⟨i + 1, ⟨by omega, fun k h1 h2 => by
      rcases Int.lt_or_le (i : Int) k with h3 | h3
      · obtain rfl : k = (i : Int) + 1 := by omega
        exact hq
      · exact hp k h1 h3⟩, h, by omega⟩
    rw [hF (i + 1)] at hfin
    have hw1 : IntKind.i64.wrap ((i : Int) + 1 + 1) = ((i + 1 : Nat) : Int) + 1 := by rw [IntWalk.i64_in _ (by omega)]; omega
    have hYi := hY ((i : Int) + 1)
    clear hF KA hY hN hp hR
    generalize rdAs ((i : Int) + 1) l = x at *
    obtain ⟨⟨a, b, c, d⟩, ok⟩ := x
    dsimp only [jobQ, jobP] at K hYi hfin
    cases ok with
    | true =>
      have hRe := hYi rfl
      subst hRe
      clear hYi hfin
      repeat' (first | (with_reducible first | refine aw_seq ?_ | refine thn_normal ?_ | refine thn_ret ?_ | refine thn_exit ?_ | refine blk_normal ?_ | refine blk_ret ?_ | refine blk_hit ?_ | refine blk_miss rfl ?_ | refine aw_block ?_ | refine aw_ret ?_ | refine aw_skip ?_ | refine aw_exit ?_ | refine w_nil ?_ | refine x_nil (by kernel_rfl) ?_) | refine aw_region ?_ | refine aw_region_draw (by kernel_rfl) ?_ | refine aw_yes rfl ?_ | refine aw_no rfl ?_ | ((with_reducible refine w_seq ?_); first | refine r_q tbOk rfl rfl rfl rfl ?_ | refine r_e tbOk rfl rfl rfl rfl rfl ?_ | refine r_yes tbOk rfl rfl rfl rfl rfl rfl ?_ | refine w_no rfl rfl (lookO_spec rfl) rfl rfl rfl ?_ | refine w_un rfl rfl (lookO_spec rfl) rfl rfl ?_) | ((with_reducible refine w_drw ?_); first | refine rx_q tbOk rfl rfl rfl rfl ?_ | refine rx_e tbOk rfl rfl rfl rfl rfl ?_ | refine rx_yes tbOk rfl rfl rfl rfl rfl rfl ?_ | refine x_no rfl rfl (lookO_spec rfl) rfl rfl rfl ?_ | refine x_un rfl rfl (lookO_spec rfl) rfl rfl ?_) | ((first | refine' w_q rfl rfl ?xa rfl ?_ | refine' v_q rfl rfl ?xa rfl ?_ | refine' w_yes rfl rfl (lookO_spec rfl) rfl ?xa rfl ?_ | refine' v_yes rfl rfl (lookO_spec rfl) rfl ?xa rfl ?_); case xa => exact k_call K rfl ⟨asA_r (evO_spec rfl), asA_r (evO_spec rfl), trivial⟩) | ((first | refine aw_ways rfl ?_ ?_ | refine r_split rfl rfl rfl ?_ ?_) <;> intro hg_ <;> fail_if_success (exact Bool.noConfusion hg_)) <;> (try simp only [prn] at hg_) <;> (try first | contradiction | (exfalso; omega)))
      all_goals first
        | (exfalso; omega)
        | exact ret_2 (rv_cell rfl rfl (by (with_reducible first | exact ty2 | exact ty3 | exact ty4 | exact ty5 | exact ty9 | exact ty17 | exact ty19 | exact ty20 | exact ty23 | exact ty25 | exact ty27 | exact ty29 | exact ty32 | exact ty40 | exact ty42 | exact ty44 | exact ty46 | exact ty48 | exact ty63 | exact ty65 | exact ty67 | exact ty70 | exact ty74 | exact ty85 | exact ty89 | exact ty91 | exact ty92 | exact ty93 | exact ty104 | exact ty106 | exact ty107 | exact ty108 | exact ty112 | exact ty115 | exact ty120 | exact ty122 | exact ty124 | exact ty126 | exact ty131 | exact ty134 | exact ty137 | exact ty144 | exact ty154 | exact ty155 | exact ty161 | exact ty164 | exact ty165 | exact ty168)) rfl rfl rfl (dres_agg (by exact ⟨cres_val, cres_val, cres_val, cres_val, trivial⟩))) (rv_tmp rfl (dres_bool rfl))
        | trace_state
    | false =>
      clear hYi
      repeat' (first | (with_reducible first | refine aw_seq ?_ | refine thn_normal ?_ | refine thn_ret ?_ | refine thn_exit ?_ | refine blk_normal ?_ | refine blk_ret ?_ | refine blk_hit ?_ | refine blk_miss rfl ?_ | refine aw_block ?_ | refine aw_ret ?_ | refine aw_skip ?_ | refine aw_exit ?_ | refine w_nil ?_ | refine x_nil (by kernel_rfl) ?_) | refine aw_region ?_ | refine aw_region_draw (by kernel_rfl) ?_ | refine aw_yes rfl ?_ | refine aw_no rfl ?_ | ((with_reducible refine w_seq ?_); first | refine r_q tbOk rfl rfl rfl rfl ?_ | refine r_e tbOk rfl rfl rfl rfl rfl ?_ | refine r_yes tbOk rfl rfl rfl rfl rfl rfl ?_ | refine w_no rfl rfl (lookO_spec rfl) rfl rfl rfl ?_ | refine w_un rfl rfl (lookO_spec rfl) rfl rfl ?_) | ((with_reducible refine w_drw ?_); first | refine rx_q tbOk rfl rfl rfl rfl ?_ | refine rx_e tbOk rfl rfl rfl rfl rfl ?_ | refine rx_yes tbOk rfl rfl rfl rfl rfl rfl ?_ | refine x_no rfl rfl (lookO_spec rfl) rfl rfl rfl ?_ | refine x_un rfl rfl (lookO_spec rfl) rfl rfl ?_) | ((first | refine' w_q rfl rfl ?xa rfl ?_ | refine' v_q rfl rfl ?xa rfl ?_ | refine' w_yes rfl rfl (lookO_spec rfl) rfl ?xa rfl ?_ | refine' v_yes rfl rfl (lookO_spec rfl) rfl ?xa rfl ?_); case xa => exact k_call K rfl ⟨asA_r (evO_spec rfl), asA_r (evO_spec rfl), trivial⟩) | ((first | refine aw_ways rfl ?_ ?_ | refine r_split rfl rfl rfl ?_ ?_) <;> intro hg_ <;> fail_if_success (exact Bool.noConfusion hg_)) <;> (try simp only [prn] at hg_) <;> (try first | contradiction | (exfalso; omega)))
      all_goals first
        | (exfalso; omega)
        | (refine hfin _ ?_ rfl
           (refine weak_ren [] rfl ?_ ?_ <;> repeat' (first | exact trivial | refine subR_cons rfl ?_ ?_ | refine subHR_cons rfl ?_ ?_ | rfl | (refine d_int ?_; (first | rfl | omega | (rw [IntWalk.i64_in _ (by omega)] <;> omega) | (simp; done) | (simp; omega))) | (refine d_bool ?_; (first | (simp_all; done) | (rw [Bool.eq_iff_iff]; simp_all; done) | (rw [Bool.eq_iff_iff]; simp_all; omega) | (rw [Bool.eq_iff_iff]; simp; omega))) | exact d_int hw1)))
        | trace_state
  · have hRe := hN (fun k h1 h2 => hp k h1 (by omega))
    subst hRe
    clear hF KA hY hN hp
    repeat' (first | (with_reducible first | refine aw_seq ?_ | refine thn_normal ?_ | refine thn_ret ?_ | refine thn_exit ?_ | refine blk_normal ?_ | refine blk_ret ?_ | refine blk_hit ?_ | refine blk_miss rfl ?_ | refine aw_block ?_ | refine aw_ret ?_ | refine aw_skip ?_ | refine aw_exit ?_ | refine w_nil ?_ | refine x_nil (by kernel_rfl) ?_) | refine aw_region ?_ | refine aw_region_draw (by kernel_rfl) ?_ | refine aw_yes rfl ?_ | refine aw_no rfl ?_ | ((with_reducible refine w_seq ?_); first | refine r_q tbOk rfl rfl rfl rfl ?_ | refine r_e tbOk rfl rfl rfl rfl rfl ?_ | refine r_yes tbOk rfl rfl rfl rfl rfl rfl ?_ | refine w_no rfl rfl (lookO_spec rfl) rfl rfl rfl ?_ | refine w_un rfl rfl (lookO_spec rfl) rfl rfl ?_) | ((with_reducible refine w_drw ?_); first | refine rx_q tbOk rfl rfl rfl rfl ?_ | refine rx_e tbOk rfl rfl rfl rfl rfl ?_ | refine rx_yes tbOk rfl rfl rfl rfl rfl rfl ?_ | refine x_no rfl rfl (lookO_spec rfl) rfl rfl rfl ?_ | refine x_un rfl rfl (lookO_spec rfl) rfl rfl ?_) | ((first | refine aw_ways rfl ?_ ?_ | refine r_split rfl rfl rfl ?_ ?_) <;> intro hg_ <;> fail_if_success (exact Bool.noConfusion hg_)) <;> (try simp only [prn] at hg_) <;> (try first | contradiction | (exfalso; omega)))
    all_goals first
      | (exfalso; omega)
      | exact ret_2 (rv_cell rfl rfl (by (with_reducible first | exact ty2 | exact ty3 | exact ty4 | exact ty5 | exact ty9 | exact ty17 | exact ty19 | exact ty20 | exact ty23 | exact ty25 | exact ty27 | exact ty29 | exact ty32 | exact ty40 | exact ty42 | exact ty44 | exact ty46 | exact ty48 | exact ty63 | exact ty65 | exact ty67 | exact ty70 | exact ty74 | exact ty85 | exact ty89 | exact ty91 | exact ty92 | exact ty93 | exact ty104 | exact ty106 | exact ty107 | exact ty108 | exact ty112 | exact ty115 | exact ty120 | exact ty122 | exact ty124 | exact ty126 | exact ty131 | exact ty134 | exact ty137 | exact ty144 | exact ty154 | exact ty155 | exact ty161 | exact ty164 | exact ty165 | exact ty168)) rfl rfl rfl (dres_agg (by exact ⟨cres_val, cres_val, cres_val, cres_val, trivial⟩))) (rv_tmp rfl (dres_bool rfl))
      | trace_state
end Go.Proofs.YthjnidcmhegoeaaDoor.Abs
