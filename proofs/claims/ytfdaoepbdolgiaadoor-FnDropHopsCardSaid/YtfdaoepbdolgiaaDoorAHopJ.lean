/- Hops by states: HopsFrom of the program, joined. No statement of the seat is proved here. -/
import Derived.Test.YtfdaoepbdolgiaaDoorTy
import Derived.Lib.Hide
import Derived.Test.YtfdaoepbdolgiaaDoorAHopI
set_option linter.unusedSimpArgs false
set_option linter.unusedVariables false
namespace Go.Proofs.YtfdaoepbdolgiaaDoor.Abs
open Go.RowKit
open R (val row ref)

theorem addM_bitH {ms : List Nat} {a b : Nat} (ha : a < ms.length) (v p : Nat) : ((addM ms a b).getD v 0).testBit p = ((ms.getD v 0).testBit p || (decide (v = a) && decide (p = b))) := by
  unfold addM
  rw [List.getD_eq_getElem?_getD, List.getElem?_set]
  by_cases h : a = v
  · subst h
    rw [if_pos rfl, if_pos ha]
    simp only [Option.getD_some, Nat.testBit_or, Nat.testBit_two_pow]
    simp [eq_comm]
  · rw [if_neg h, List.getD_eq_getElem?_getD]
    have h' : ¬ v = a := fun e => h e.symm
    simp [h']
def toEH (a b : Int) (e : E3) : Bool := decide (e.1 = a) && decide (e.2.1 = b)
theorem next_bitH (m : Nat) (v p : Nat) : ∀ (es : List E3), (∀ e ∈ es, (0 ≤ e.1 ∧ e.1 < (m : Int)) ∧ (0 ≤ e.2.1 ∧ e.2.1 < (m : Int))) → ∀ ms : List Nat, ms.length = m →
    ((es.foldl (fun ms e => addM ms e.1.toNat e.2.1.toNat) ms).getD v 0).testBit p = ((ms.getD v 0).testBit p || es.any (toEH v p))
  | [], _, ms, _ => by simp
  | e :: es, hg, ms, h1 => by
    have := hg e (by simp)
    rw [List.foldl_cons, next_bitH m v p es (fun e he => hg e (by simp [he])) _ (by rw [addM_len]; exact h1), addM_bitH (by omega), List.any_cons, Bool.or_assoc]
    congr 2
    unfold toEH
    rw [Bool.eq_iff_iff]; simp; omega
theorem f_implHasH (m : Int) (nil : Bool) (es : List E3) (v : Int) : Fn Tryd.prog 43 [graphP m nil es, iP v] (.v (.one (bool (hasV m v)))) := by
  refine fn_of (l := [.tmp 4]) Tryd.func43 (by kernel_rfl) rfl Tryd.ntmps43 rfl rfl ?_; simp only [argEnv, P0.d, Nat.reduceAdd, graphP, List.map_cons, List.map_nil]
  repeat' (first | (with_reducible first | refine aw_seq ?_ | refine thn_normal ?_ | refine thn_ret ?_ | refine thn_exit ?_ | refine blk_normal ?_ | refine blk_ret ?_ | refine blk_hit ?_ | refine blk_miss rfl ?_ | refine aw_block ?_ | refine aw_ret ?_ | refine aw_skip ?_ | refine aw_exit ?_ | refine w_nil ?_ | refine x_nil (by kernel_rfl) ?_) | refine aw_region ?_ | refine aw_region_draw (by kernel_rfl) ?_ | refine aw_yes rfl ?_ | refine aw_no rfl ?_ | ((with_reducible refine w_seq ?_); first | refine r_q tbOk rfl rfl rfl rfl ?_ | refine r_e tbOk rfl rfl rfl rfl rfl ?_ | refine r_yes tbOk rfl rfl rfl rfl rfl rfl ?_ | refine w_no rfl rfl (lookO_spec rfl) rfl rfl rfl ?_ | refine w_un rfl rfl (lookO_spec rfl) rfl rfl ?_) | ((with_reducible refine w_drw ?_); first | refine rx_q tbOk rfl rfl rfl rfl ?_ | refine rx_e tbOk rfl rfl rfl rfl rfl ?_ | refine rx_yes tbOk rfl rfl rfl rfl rfl rfl ?_ | refine x_no rfl rfl (lookO_spec rfl) rfl rfl rfl ?_ | refine x_un rfl rfl (lookO_spec rfl) rfl rfl ?_) | ((first | refine aw_ways rfl ?_ ?_ | refine r_split rfl rfl rfl ?_ ?_) <;> intro hg_ <;> fail_if_success (exact Bool.noConfusion hg_)) <;> (try simp only [prn] at hg_) <;> (try first | contradiction | (exfalso; omega)))
  all_goals exact ret_tmp rfl (dres_bool (by unfold hasV; (first | (simp_all; done) | (rw [Bool.eq_iff_iff]; simp_all; done) | (rw [Bool.eq_iff_iff]; simp_all; omega) | (rw [Bool.eq_iff_iff]; simp; omega))))
theorem nextM_ok {m : Nat} {es : List E3} (hm : m ≤ 16) (hI : Inside m es) : (nextM m es).length = m ∧ Sm (nextM m es) := next_ok m hm es hI _ (by simp) (fun i => by rw [List.getD_eq_getElem?_getD, List.getElem?_replicate]; split <;> simp)
theorem nextM_mem {m : Nat} {es : List E3} (hI : Inside m es) (v : Int) (h0 : 0 ≤ v) (h1 : v < (m : Int)) (u : Int) : u ∈ bitsR ((nextM m es).getD v.toNat 0) ↔ ∃ e ∈ es, e.1 = v ∧ e.2.1 = u := by
  have h0' : ((List.replicate m 0).getD v.toNat 0).testBit u.toNat = false := by
    rw [List.getD_eq_getElem?_getD, List.getElem?_replicate]
    split <;> simp
  rw [mem_bitsR]
  unfold nextM
  rw [next_bitH m v.toNat u.toNat es hI _ (by simp), h0', Bool.false_or, List.any_eq_true]
  constructor
  · rintro ⟨hu, e, he, hE⟩
    refine ⟨e, he, ?_⟩
    unfold toEH at hE; simp at hE; omega
  · rintro ⟨e, he, rfl, rfl⟩
    have := hI e he
    exact ⟨this.2.1, e, he, by unfold toEH; simp; omega⟩
theorem asA_own0H {H : Nat → Option Ob} {k n sz : Nat} {E : TypeId} {els : List P0} {new : Bool} {ev : Operand → D} {x : Operand} (h : ev x = .one (.own k 0 n sz)) (hk : H k = some (.sl E sz new els)) (hn : n = els.length) : AsArg H (ev x) (.one (row false sz els)) := by
  have h2 := asA_own h hk (by omega)
  rwa [List.drop_zero, List.take_of_length_le (by omega)] at h2
theorem hasV_inR (m s : Int) : hasV m s = inR 0 (m - 1) s := by unfold hasV inR; rw [Bool.eq_iff_iff]; simp; omega
set_option maxRecDepth 100000 in
set_option maxHeartbeats 4000000 in
theorem f_implHopsFrom (m : Int) (nil : Bool) (es : List E3) (s : Int) (hl : es.length ≤ 1048576) (hv : (gOk m es && inR 0 (m - 1) s) = true) : FnO Tryd.prog 12 [graphP m nil es, iP s] 3 1 (ints (hopsF m es s)) := by
  have KG := f_implGraphValid m nil es (by simp only [maxLen]; omega)
  have KH := f_implHasH m nil es s
  have hgk : gOk m es = true := by cases h : gOk m es <;> simp_all
  have hR : inR 0 (m - 1) s = true := by cases h : inR 0 (m - 1) s <;> simp_all
  rw [hgk] at KG
  rw [hasV_inR, hR] at KH
  have hm := gOk_m hgk
  have hI := gOk_edges hgk
  have hs : 0 ≤ s ∧ s < m := by unfold inR at hR; simp at hR; omega
  obtain ⟨M, rfl⟩ : ∃ M : Nat, m = (M : Int) := ⟨m.toNat, by omega⟩
  have hIn : Inside M es := fun e he => ⟨(hI e he).1, (hI e he).2.1⟩
  have e : hopsF M es s = hopsN M es s M := by unfold hopsF; rw [hgk, hR]; rfl
  obtain ⟨hL, hS⟩ := nextM_ok (m := M) (by omega) hIn
  have KN := f_nextMasks M nil es (by omega) hl hIn
  have KS := f_stepsOver M es s false (nextM M es) (by omega) hIn hs hL hS (fun v h0 h1 u => nextM_mem hIn v h0 h1 u)
  rw [e]
  clear e hI hv hgk hR hIn
  generalize nextM M es = ms at *
  have hml : (ms.map mP).length = (ms.map mP).length := rfl
  refine fn_ofO Tryd.func12 (by kernel_rfl) rfl Tryd.ntmps12 rfl rfl ?_
  simp only [argEnv, P0.d, Nat.reduceAdd, List.map_cons, List.map_nil, graphP]
  repeat' (first | (with_reducible first | refine aw_seq ?_ | refine thn_normal ?_ | refine thn_ret ?_ | refine thn_exit ?_ | refine blk_normal ?_ | refine blk_ret ?_ | refine blk_hit ?_ | refine blk_miss rfl ?_ | refine aw_block ?_ | refine aw_ret ?_ | refine aw_skip ?_ | refine aw_exit ?_ | refine w_nil ?_ | refine x_nil (by kernel_rfl) ?_) | refine aw_region ?_ | refine aw_region_draw (by kernel_rfl) ?_ | refine aw_yes rfl ?_ | refine aw_no rfl ?_ | ((with_reducible refine w_seq ?_); first | refine r_q tbOk rfl rfl rfl rfl ?_ | refine r_e tbOk rfl rfl rfl rfl rfl ?_ | refine r_yes tbOk rfl rfl rfl rfl rfl rfl ?_ | refine w_no rfl rfl (lookO_spec rfl) rfl rfl rfl ?_ | refine w_un rfl rfl (lookO_spec rfl) rfl rfl ?_) | ((with_reducible refine w_drw ?_); first | refine rx_q tbOk rfl rfl rfl rfl ?_ | refine rx_e tbOk rfl rfl rfl rfl rfl ?_ | refine rx_yes tbOk rfl rfl rfl rfl rfl rfl ?_ | refine x_no rfl rfl (lookO_spec rfl) rfl rfl rfl ?_ | refine x_un rfl rfl (lookO_spec rfl) rfl rfl ?_) | ((first | refine' w_q rfl rfl ?xa rfl ?_ | refine' v_q rfl rfl ?xa rfl ?_ | refine' w_yes rfl rfl (lookO_spec rfl) rfl ?xa rfl ?_ | refine' v_yes rfl rfl (lookO_spec rfl) rfl ?xa rfl ?_); case xa => first | exact k_call KG rfl ⟨asA_agg (evO_spec rfl) ⟨cAr_r, cAr_r, trivial⟩, trivial⟩ | exact k_call KH rfl ⟨asA_agg (evO_spec rfl) ⟨cAr_r, cAr_r, trivial⟩, asA_r (evO_spec rfl), trivial⟩) | ((first | refine' w_e rfl ?xa ?xb ?xc ?xe ?_ | refine' v_e rfl ?xa ?xb ?xc ?xe ?_); (case xa => first | exact e_callO KN rfl rfl ⟨asA_agg (evO_spec rfl) ⟨cAr_r, cAr_r, trivial⟩, trivial⟩ | exact e_callO KS rfl rfl ⟨asA_own0H (evO_spec rfl) (lookHO_spec rfl) rfl, asA_r (evO_spec rfl), trivial⟩); (case xb => rfl); (case xc => rfl); (case xe => rfl); try dsimp only [P0.d, Res.d, List.map_cons, List.map_nil, List.set_cons_zero, List.set_cons_succ, Nat.reduceAdd]) | ((first | refine aw_ways rfl ?_ ?_ | refine r_split rfl rfl rfl ?_ ?_) <;> intro hg_ <;> fail_if_success (exact Bool.noConfusion hg_)) <;> (try simp only [prn] at hg_) <;> (try first | contradiction | (exfalso; omega)))
  all_goals first
    | exact ret_own rfl rfl rfl
    | trace_state
set_option maxRecDepth 100000 in
set_option maxHeartbeats 4000000 in
theorem f_implHopsNo (m : Int) (nil : Bool) (es : List E3) (s : Int) (hl : es.length ≤ 1048576) (hv : (gOk m es && inR 0 (m - 1) s) = false) : Fn Tryd.prog 12 [graphP m nil es, iP s] (.v (.one (row true 1 []))) := by
  have KG := f_implGraphValid m nil es (by simp only [maxLen]; omega)
  have KH := f_implHasH m nil es s
  rw [hasV_inR] at KH
  cases hgk : gOk m es
  · rw [hgk] at KG
    refine fn_of (l := [.tmp 4]) Tryd.func12 (by kernel_rfl) rfl Tryd.ntmps12 rfl rfl ?_; simp only [argEnv, P0.d, Nat.reduceAdd, graphP, List.map_cons, List.map_nil]
    repeat' (first | (with_reducible first | refine aw_seq ?_ | refine thn_normal ?_ | refine thn_ret ?_ | refine thn_exit ?_ | refine blk_normal ?_ | refine blk_ret ?_ | refine blk_hit ?_ | refine blk_miss rfl ?_ | refine aw_block ?_ | refine aw_ret ?_ | refine aw_skip ?_ | refine aw_exit ?_ | refine w_nil ?_ | refine x_nil (by kernel_rfl) ?_) | refine aw_region ?_ | refine aw_region_draw (by kernel_rfl) ?_ | refine aw_yes rfl ?_ | refine aw_no rfl ?_ | ((with_reducible refine w_seq ?_); first | refine r_q tbOk rfl rfl rfl rfl ?_ | refine r_e tbOk rfl rfl rfl rfl rfl ?_ | refine r_yes tbOk rfl rfl rfl rfl rfl rfl ?_ | refine w_no rfl rfl (lookO_spec rfl) rfl rfl rfl ?_ | refine w_un rfl rfl (lookO_spec rfl) rfl rfl ?_) | ((with_reducible refine w_drw ?_); first | refine rx_q tbOk rfl rfl rfl rfl ?_ | refine rx_e tbOk rfl rfl rfl rfl rfl ?_ | refine rx_yes tbOk rfl rfl rfl rfl rfl rfl ?_ | refine x_no rfl rfl (lookO_spec rfl) rfl rfl rfl ?_ | refine x_un rfl rfl (lookO_spec rfl) rfl rfl ?_) | ((first | refine' w_q rfl rfl ?xa rfl ?_ | refine' v_q rfl rfl ?xa rfl ?_ | refine' w_yes rfl rfl (lookO_spec rfl) rfl ?xa rfl ?_ | refine' v_yes rfl rfl (lookO_spec rfl) rfl ?xa rfl ?_); case xa => exact k_call KG rfl ⟨asA_agg (evO_spec rfl) ⟨cAr_r, cAr_r, trivial⟩, trivial⟩) | ((first | refine aw_ways rfl ?_ ?_ | refine r_split rfl rfl rfl ?_ ?_) <;> intro hg_ <;> fail_if_success (exact Bool.noConfusion hg_)) <;> (try simp only [prn] at hg_) <;> (try first | contradiction | (exfalso; omega)))
    all_goals first
      | exact ret_tmp rfl (dres_one cres_nil)
      | trace_state
  · rw [hgk] at KG hv
    rw [Bool.true_and] at hv
    rw [hv] at KH
    refine fn_of (l := [.tmp 4]) Tryd.func12 (by kernel_rfl) rfl Tryd.ntmps12 rfl rfl ?_; simp only [argEnv, P0.d, Nat.reduceAdd, graphP, List.map_cons, List.map_nil]
    repeat' (first | (with_reducible first | refine aw_seq ?_ | refine thn_normal ?_ | refine thn_ret ?_ | refine thn_exit ?_ | refine blk_normal ?_ | refine blk_ret ?_ | refine blk_hit ?_ | refine blk_miss rfl ?_ | refine aw_block ?_ | refine aw_ret ?_ | refine aw_skip ?_ | refine aw_exit ?_ | refine w_nil ?_ | refine x_nil (by kernel_rfl) ?_) | refine aw_region ?_ | refine aw_region_draw (by kernel_rfl) ?_ | refine aw_yes rfl ?_ | refine aw_no rfl ?_ | ((with_reducible refine w_seq ?_); first | refine r_q tbOk rfl rfl rfl rfl ?_ | refine r_e tbOk rfl rfl rfl rfl rfl ?_ | refine r_yes tbOk rfl rfl rfl rfl rfl rfl ?_ | refine w_no rfl rfl (lookO_spec rfl) rfl rfl rfl ?_ | refine w_un rfl rfl (lookO_spec rfl) rfl rfl ?_) | ((with_reducible refine w_drw ?_); first | refine rx_q tbOk rfl rfl rfl rfl ?_ | refine rx_e tbOk rfl rfl rfl rfl rfl ?_ | refine rx_yes tbOk rfl rfl rfl rfl rfl rfl ?_ | refine x_no rfl rfl (lookO_spec rfl) rfl rfl rfl ?_ | refine x_un rfl rfl (lookO_spec rfl) rfl rfl ?_) | ((first | refine' w_q rfl rfl ?xa rfl ?_ | refine' v_q rfl rfl ?xa rfl ?_ | refine' w_yes rfl rfl (lookO_spec rfl) rfl ?xa rfl ?_ | refine' v_yes rfl rfl (lookO_spec rfl) rfl ?xa rfl ?_); case xa => first | exact k_call KG rfl ⟨asA_agg (evO_spec rfl) ⟨cAr_r, cAr_r, trivial⟩, trivial⟩ | exact k_call KH rfl ⟨asA_agg (evO_spec rfl) ⟨cAr_r, cAr_r, trivial⟩, asA_r (evO_spec rfl), trivial⟩) | ((first | refine aw_ways rfl ?_ ?_ | refine r_split rfl rfl rfl ?_ ?_) <;> intro hg_ <;> fail_if_success (exact Bool.noConfusion hg_)) <;> (try simp only [prn] at hg_) <;> (try first | contradiction | (exfalso; omega)))
    all_goals first
      | exact ret_tmp rfl (dres_one cres_nil)
      | trace_state
end Go.Proofs.YtfdaoepbdolgiaaDoor.Abs
