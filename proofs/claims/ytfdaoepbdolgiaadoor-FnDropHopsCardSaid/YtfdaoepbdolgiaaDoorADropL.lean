/- Dropping a vertex: what stays is valid, the vertex has no neighbours; NearOf by states. No statement of the seat is proved here. -/
import Derived.Test.YtfdaoepbdolgiaaDoorTy
import Derived.Lib.Hide
import Derived.Test.YtfdaoepbdolgiaaDoorADrop
import Derived.Test.YtfdaoepbdolgiaaDoorGNear
set_option linter.unusedSimpArgs false
set_option linter.unusedVariables false
namespace Go.Proofs.YtfdaoepbdolgiaaDoor.Abs
open Go.RowKit
open R (val row ref)

theorem before_trans {a b c : E3} (h : before a b = true) (g : before b c = true) : before a c = true := by
  unfold before at *
  simp at *
  omega
theorem chain_weak {P : Int → Bool} {p : Option E3} {o : E3} : ∀ {es : List E3}, chain P (some o) es = true → (∀ q, p = some q → before q o = true) → chain P p es = true
  | [], _, _ => rfl
  | e :: es, h, hp => by
    unfold chain at h ⊢
    rw [Bool.and_eq_true, Bool.and_eq_true] at h ⊢
    refine ⟨⟨h.1.1, ?_⟩, h.2⟩
    cases p with
    | none => rfl
    | some q => exact before_trans (hp q rfl) h.1.2
theorem chain_filter {P : Int → Bool} (f : E3 → Bool) : ∀ {es : List E3} {p : Option E3}, chain P p es = true → chain P p (es.filter f) = true
  | [], _, h => h
  | e :: es, p, h => by
    have h0 := h
    unfold chain at h
    rw [Bool.and_eq_true, Bool.and_eq_true] at h
    by_cases hf : f e = true
    · rw [List.filter_cons_of_pos hf]
      unfold chain
      rw [h.1.1, h.1.2, chain_filter f h.2]; rfl
    · rw [List.filter_cons_of_neg hf]
      refine chain_filter f (chain_weak h.2 (fun q hq => ?_))
      subst hq
      exact h.1.2
theorem gOk_drop {m : Int} {es : List E3} (h : gOk m es = true) (b : Bool) (v : Int) : gOk m (dropE b v es) = true := by
  have hl := dropE_len b v es
  unfold gOk at *
  rw [Bool.and_eq_true, Bool.and_eq_true, decide_eq_true_eq, decide_eq_true_eq] at *
  exact ⟨⟨h.1.1, by omega⟩, chain_filter _ h.2⟩
theorem near_drop {M : Nat} {es : List E3} (h : gOk (M : Int) es = true) {v : Int} (h0 : 0 ≤ v) : (nearM M (dropE true v es)).getD v.toNat 0 = 0 := by
  have hg := gOk_drop h true v
  have hm := gOk_m hg
  have hI := gOk_edges hg
  refine Nat.eq_of_testBit_eq (fun p => ?_)
  rw [nearM_bit (by omega) (fun e he => ⟨(hI e he).1, (hI e he).2.1⟩), Nat.zero_testBit]
  unfold adj
  rw [List.any_eq_false]
  intro e he hE
  unfold dropE at he
  have hk := (List.mem_filter.1 he).2
  unfold keepV at hk
  unfold adjE at hE
  simp at hk hE
  omega
set_option maxRecDepth 100000 in
set_option maxHeartbeats 4000000 in
theorem f_implNearOf (m : Int) (nil : Bool) (es : List E3) (v : Int) (hg : gOk m es = true) (hv : hasV m v = true) : Fn Tryd.prog 24 [graphP m nil es, iP v] (.v (.one (row (decide ((nearM m.toNat es).getD v.toNat 0 = 0)) 1 (ints (bitsR ((nearM m.toNat es).getD v.toNat 0)))))) := by
  have hl40 := gOk_len hg
  have KG := f_implGraphValid m nil es (by simp only [maxLen]; omega)
  have KH := f_implHasH m nil es v
  have hm := gOk_m hg
  have hI := gOk_edges hg
  have hvv : 0 ≤ v ∧ v < m := by unfold hasV at hv; simp at hv; omega
  rw [hg] at KG
  rw [hv] at KH
  obtain ⟨M, rfl⟩ : ∃ M : Nat, m = (M : Int) := ⟨m.toNat, by omega⟩
  rw [Int.toNat_natCast]
  have hgn : ∀ e ∈ es, (0 ≤ e.1 ∧ e.1 < (M : Int)) ∧ (0 ≤ e.2.1 ∧ e.2.1 < (M : Int)) := fun e he => ⟨(hI e he).1, (hI e he).2.1⟩
  have KN := f_nearMasks M nil es (by omega) (by omega) hgn
  have hne := nextM_ok (m := M) (by omega) hgn
  have hnm := near_ok M (by omega) es hgn (nextM M es) hne.1 hne.2
  obtain ⟨hnl, hsm⟩ : (nearM M es).length = M ∧ Sm (nearM M es) := hnm
  have KL := f_list ((nearM M es).getD v.toNat 0) (hsm _)
  generalize nearM M es = NM at *
  have hnlm : (NM.map mP).length = M := by rw [List.length_map]; exact hnl
  have hx : 0 + v.toNat = v.toNat := Nat.zero_add _
  clear hgn hne hI hg hv
  refine fn_of (l := [.tmp 4]) Tryd.func24 (by kernel_rfl) rfl Tryd.ntmps24 rfl rfl ?_; simp only [argEnv, P0.d, Nat.reduceAdd, graphP, List.map_cons, List.map_nil]
  repeat' (first | (with_reducible first | refine aw_seq ?_ | refine thn_normal ?_ | refine thn_ret ?_ | refine thn_exit ?_ | refine blk_normal ?_ | refine blk_ret ?_ | refine blk_hit ?_ | refine blk_miss rfl ?_ | refine aw_block ?_ | refine aw_ret ?_ | refine aw_skip ?_ | refine aw_exit ?_ | refine w_nil ?_ | refine x_nil (by kernel_rfl) ?_) | refine aw_region ?_ | refine aw_region_draw (by kernel_rfl) ?_ | refine aw_yes rfl ?_ | refine aw_no rfl ?_ | ((with_reducible refine w_seq ?_); first | refine r_q tbOk rfl rfl rfl rfl ?_ | refine r_e tbOk rfl rfl rfl rfl rfl ?_ | refine r_yes tbOk rfl rfl rfl rfl rfl rfl ?_ | refine w_no rfl rfl (lookO_spec rfl) rfl rfl rfl ?_ | refine w_un rfl rfl (lookO_spec rfl) rfl rfl ?_) | ((with_reducible refine w_drw ?_); first | refine rx_q tbOk rfl rfl rfl rfl ?_ | refine rx_e tbOk rfl rfl rfl rfl rfl ?_ | refine rx_yes tbOk rfl rfl rfl rfl rfl rfl ?_ | refine x_no rfl rfl (lookO_spec rfl) rfl rfl rfl ?_ | refine x_un rfl rfl (lookO_spec rfl) rfl rfl ?_) | ((first | refine' w_q rfl rfl ?xa rfl ?_ | refine' v_q rfl rfl ?xa rfl ?_ | refine' w_yes rfl rfl (lookO_spec rfl) rfl ?xa rfl ?_ | refine' v_yes rfl rfl (lookO_spec rfl) rfl ?xa rfl ?_); case xa => first | exact k_call KG rfl ⟨asA_agg (evO_spec rfl) ⟨cAr_r, cAr_r, trivial⟩, trivial⟩ | exact k_call KH rfl ⟨asA_agg (evO_spec rfl) ⟨cAr_r, cAr_r, trivial⟩, asA_r (evO_spec rfl), trivial⟩ | exact k_indexO tbOk rfl rfl rfl rfl (by omega) (by omega) | exact k_loadM tbOk rfl rfl rfl rfl (by omega) | exact k_call KL rfl ⟨by rw [evO_spec rfl, hx]; exact asArg_r, trivial⟩) | ((first | refine' w_e rfl ?xa ?xb ?xc ?xe ?_ | refine' v_e rfl ?xa ?xb ?xc ?xe ?_); (case xa => exact e_callO KN rfl rfl ⟨asA_agg (evO_spec rfl) ⟨cAr_r, cAr_r, trivial⟩, trivial⟩); (case xb => rfl); (case xc => rfl); (case xe => rfl); try dsimp only [P0.d, Res.d, List.map_cons, List.map_nil, List.set_cons_zero, List.set_cons_succ, Nat.reduceAdd]) | ((first | refine aw_ways rfl ?_ ?_ | refine r_split rfl rfl rfl ?_ ?_) <;> intro hg_ <;> fail_if_success (exact Bool.noConfusion hg_)) <;> (try simp only [prn] at hg_) <;> (try first | contradiction | (exfalso; omega)))
  all_goals first
    | exact ret_tmp rfl (dres_one cres_new)
    | trace_state
end Go.Proofs.YtfdaoepbdolgiaaDoor.Abs
