/- HopsRight of the reference by states. No statement of the seat is proved here. -/
import Derived.Test.YtfdaoepbdolgiaaDoorHopsI2
import Derived.Test.YtfdaoepbdolgiaaDoorTy
import Derived.Lib.Hide
import Derived.Test.YtfdaoepbdolgiaaDoorAGraph
set_option linter.unusedSimpArgs false
set_option linter.unusedVariables false
namespace Go.Proofs.YtfdaoepbdolgiaaDoor.Abs
open Go.RowKit
open R (val row ref)

theorem gOk_m {m : Int} {es : List E3} (h : gOk m es = true) : 0 ≤ m ∧ m ≤ 16 ∧ es.length ≤ 40 := by
  unfold gOk at h; simp at h; omega
/-- What the reference asks of one vertex. -/
def cS (es : List E3) (s : Int) (vs : List Int) (v : Int) : Bool := c1 s vs v && es.all (fun e => decide (e.1 ≠ v) || kpS vs e) && fd es vs v
theorem hv_val (vs : List Int) (v : Nat) : Go.Proofs.YtfdaoepbdolgiaaDoor.val vs (v : Int) = vs.getD v 0 := by unfold Go.Proofs.YtfdaoepbdolgiaaDoor.val; simp
set_option maxRecDepth 100000 in
set_option maxHeartbeats 8000000 in
theorem f_specHopsRight (m : Int) (nil nil' : Bool) (es : List E3) (s : Int) (vs : List Int) (hl : es.length ≤ 1048576) (hlv : vs.length ≤ 1048576) (hI : ∀ z ∈ vs, I64 z) :
    Fn Tryd.prog 18 [graphP m nil es, iP s, .one (row nil' 1 (ints vs))] (.v (.one (bool (hopsOk m es s vs)))) := by
  have hlen := edges_len es
  have hlen2 := ints_len vs
  refine fn_of (l := [.tmp 6]) Tryd.func18 (by kernel_rfl) rfl Tryd.ntmps18 rfl rfl ?_; simp only [argEnv, P0.d, Nat.reduceAdd, graphP, List.map_cons, List.map_nil]
  repeat' (first | (with_reducible first | refine aw_seq ?_ | refine thn_normal ?_ | refine thn_ret ?_ | refine thn_exit ?_ | refine blk_normal ?_ | refine blk_ret ?_ | refine blk_hit ?_ | refine blk_miss rfl ?_ | refine aw_block ?_ | refine aw_ret ?_ | refine aw_skip ?_ | refine aw_exit ?_ | refine w_nil ?_ | refine x_nil (by kernel_rfl) ?_) | refine aw_region ?_ | refine aw_region_draw (by kernel_rfl) ?_ | refine aw_yes rfl ?_ | refine aw_no rfl ?_ | ((with_reducible refine w_seq ?_); first | refine r_q tbOk rfl rfl rfl rfl ?_ | refine r_e tbOk rfl rfl rfl rfl rfl ?_ | refine r_yes tbOk rfl rfl rfl rfl rfl rfl ?_ | refine w_no rfl rfl (lookO_spec rfl) rfl rfl rfl ?_ | refine w_un rfl rfl (lookO_spec rfl) rfl rfl ?_) | ((with_reducible refine w_drw ?_); first | refine rx_q tbOk rfl rfl rfl rfl ?_ | refine rx_e tbOk rfl rfl rfl rfl rfl ?_ | refine rx_yes tbOk rfl rfl rfl rfl rfl rfl ?_ | refine x_no rfl rfl (lookO_spec rfl) rfl rfl rfl ?_ | refine x_un rfl rfl (lookO_spec rfl) rfl rfl ?_) | ((first | refine' w_q rfl rfl ?xa rfl ?_ | refine' v_q rfl rfl ?xa rfl ?_ | refine' w_yes rfl rfl (lookO_spec rfl) rfl ?xa rfl ?_ | refine' v_yes rfl rfl (lookO_spec rfl) rfl ?xa rfl ?_); case xa => first | exact k_call (f_specGraphValid _ _ es (by simp only [maxLen]; omega)) rfl ⟨asA_agg (evO_spec rfl) ⟨cAr_r, cAr_r, trivial⟩, trivial⟩ | exact k_call (f_l1In _ _ _) rfl ⟨asA_r (evO_spec rfl), asA_r (evO_spec rfl), asA_r (evO_spec rfl), trivial⟩) | ((first | refine aw_ways rfl ?_ ?_ | refine r_split rfl rfl rfl ?_ ?_) <;> intro hg_ <;> fail_if_success (exact Bool.noConfusion hg_)) <;> (try simp only [prn] at hg_) <;> (try first | contradiction | (exfalso; omega)))
  · exact ret_tmp rfl (dres_bool (by simp_all [hopsOk]))
  · exact ret_tmp rfl (dres_bool (by
      rename_i h1
      have h2 := hg_
      have hm := gOk_m h1
      rw [IntWalk.i64_in _ (by omega)] at h2
      have : hasV m s = false := by unfold hasV; unfold inR at h2; simp at h2 ⊢; omega
      simp [hopsOk, this]))
  · exact ret_tmp rfl (dres_bool (by
      have : ¬ (vs.length : Int) = m := by rw [← hlen2]; exact hg_
      simp [hopsOk, this]))
  rename_i h1 h2
  have h3 := hg_
  clear hg_
  have hm := gOk_m h1
  have hge := gOk_edges h1
  have hmn : m = (vs.length : Int) := by rw [← hlen2]; exact h3.symm
  have hs : hasV m s = true := by
    rw [IntWalk.i64_in _ (by omega)] at h2
    unfold hasV; unfold inR at h2; simp at h2 ⊢; omega
  have hR : hopsOk m es s vs = (vset vs.length).all (cS es s vs) := by
    have := hops_same (m := vs.length) (es := es) (s := s) (vs := vs) (by omega) (fun e he => by have := hge e he; omega) rfl
    unfold hopsOk
    rw [h1, hs, decide_eq_true hmn.symm, Bool.true_and, Bool.true_and, Bool.true_and, ← this]
    rfl
  have hgI : ∀ i : Nat, i < vs.length → I64 (vs.getD i 0) := fun i hi => by
    rw [List.getD_eq_getElem?_getD, List.getElem?_eq_getElem hi]; exact hI _ (List.getElem_mem _)
  have hno : ∀ v : Nat, v < vs.length → cS es s vs v = false → hopsOk m es s vs = false := fun v hv h => by
    rw [hR, List.all_eq_false]
    exact ⟨v, mem_vset.2 ⟨by omega, by omega⟩, by simp [h]⟩
  clear h1 h2 h3
  refine aw_loopI (fun v : Nat => v ≤ vs.length ∧ ∀ u : Nat, u < v → cS es s vs u = true) (fun v => mkS 115 [(7, .one (.r true (int v))), (1, .one (.r false (int s))), (2, .one (.r false (row nil' 1 (ints vs)))), (3, .one (.ptr 3 0 0 0))] [(3, .var 25 [.r false (int m), .r false (row nil 3 (edges es))])]) (fun v => vs.length - v) 0 ⟨Nat.zero_le _, fun u hu => by omega⟩ (by (refine weak_ren [] rfl ?_ ?_ <;> repeat' (first | exact trivial | refine subR_cons rfl ?_ ?_ | refine subHR_cons rfl ?_ ?_ | rfl | (refine d_int ?_; (first | rfl | omega | (rw [IntWalk.i64_in _ (by omega)] <;> omega) | (simp; done) | (simp; omega))) | (refine d_bool ?_; (first | (simp_all; done) | (rw [Bool.eq_iff_iff]; simp_all; done) | (rw [Bool.eq_iff_iff]; simp_all; omega) | (rw [Bool.eq_iff_iff]; simp; omega)))))) ?_
  rintro v ⟨hv, HV⟩
  repeat' (first | (with_reducible first | refine aw_seq ?_ | refine thn_normal ?_ | refine thn_ret ?_ | refine thn_exit ?_ | refine blk_normal ?_ | refine blk_ret ?_ | refine blk_hit ?_ | refine blk_miss rfl ?_ | refine aw_block ?_ | refine aw_ret ?_ | refine aw_skip ?_ | refine aw_exit ?_ | refine w_nil ?_ | refine x_nil (by kernel_rfl) ?_) | refine aw_region ?_ | refine aw_region_draw (by kernel_rfl) ?_ | refine aw_yes rfl ?_ | refine aw_no rfl ?_ | ((with_reducible refine w_seq ?_); first | refine r_q tbOk rfl rfl rfl rfl ?_ | refine r_e tbOk rfl rfl rfl rfl rfl ?_ | refine r_yes tbOk rfl rfl rfl rfl rfl rfl ?_ | refine w_no rfl rfl (lookO_spec rfl) rfl rfl rfl ?_ | refine w_un rfl rfl (lookO_spec rfl) rfl rfl ?_) | ((with_reducible refine w_drw ?_); first | refine rx_q tbOk rfl rfl rfl rfl ?_ | refine rx_e tbOk rfl rfl rfl rfl rfl ?_ | refine rx_yes tbOk rfl rfl rfl rfl rfl rfl ?_ | refine x_no rfl rfl (lookO_spec rfl) rfl rfl rfl ?_ | refine x_un rfl rfl (lookO_spec rfl) rfl rfl ?_) | ((first | refine' w_q rfl rfl ?xa rfl ?_ | refine' v_q rfl rfl ?xa rfl ?_ | refine' w_yes rfl rfl (lookO_spec rfl) rfl ?xa rfl ?_ | refine' v_yes rfl rfl (lookO_spec rfl) rfl ?xa rfl ?_); case xa => first | exact k_index tbOk rfl rfl rfl rfl (by omega) (ints_atI (by omega) (by omega)) | exact k_neB bo4 rfl rfl rfl) | ((first | refine aw_ways rfl ?_ ?_ | refine r_split rfl rfl rfl ?_ ?_) <;> intro hg_ <;> fail_if_success (exact Bool.noConfusion hg_)) <;> (try simp only [prn] at hg_) <;> (try first | contradiction | (exfalso; omega)))
  · refine ret_tmp rfl (dres_bool ?_)
    rename_i h1
    refine (hno v (by omega) ?_).symm
    have h2 := hg_
    simp only [Int.toNat_natCast] at h2
    unfold cS; rw [c1_at, decide_eq_false (by omega)]; rfl
  · refine ret_tmp rfl (dres_bool ?_)
    refine (hno v (by omega) ?_).symm
    have h2 := hg_
    simp only [Int.toNat_natCast] at h2
    unfold cS; rw [c1_at]
    rw [show ((vs.getD v 0 == 0) == ((v : Int) == s)) = false by simpa using h2]
    simp
  · rename_i hlt h1
    have h2 := hg_
    clear hg_
    simp only [Int.toNat_natCast] at *
    have hc1 : c1 s vs v = true := by
      rw [c1_at, decide_eq_true h1]; revert h2; cases (vs.getD v 0 == 0) <;> cases ((v : Int) == s) <;> simp
    clear h1 h2
    have hvn : v < vs.length := by omega
    have hXI := hgI v hvn
    refine aw_loopI (fun k : Nat => k ≤ es.length ∧ (es.take k).all (fun e => decide (e.1 ≠ (v : Int)) || kpS vs e) = true) (fun k => mkS 115 [(9, .one (.r true (int k))), (8, .one (.r true (bool (decide (vs.getD v 0 ≤ 0) || (es.take k).any (lk vs v))))), (7, .one (.r true (int v))), (1, .one (.r false (int s))), (2, .one (.r false (row nil' 1 (ints vs)))), (3, .one (.ptr 3 0 0 0))] [(3, .var 25 [.r false (int m), .r false (row nil 3 (edges es))])]) (fun k => es.length - k) 0 ⟨Nat.zero_le _, by simp⟩ (by (refine weak_ren [] rfl ?_ ?_ <;> repeat' (first | exact trivial | refine subR_cons rfl ?_ ?_ | refine subHR_cons rfl ?_ ?_ | rfl | (refine d_int ?_; (first | rfl | omega | (rw [IntWalk.i64_in _ (by omega)] <;> omega) | (simp; done) | (simp; omega))) | (refine d_bool ?_; (first | (simp_all; done) | (rw [Bool.eq_iff_iff]; simp_all; done) | (rw [Bool.eq_iff_iff]; simp_all; omega) | (rw [Bool.eq_iff_iff]; simp; omega)))))) ?_
    rintro k ⟨hk, HK⟩
    by_cases hlt2 : k < es.length
    · have hix := edges_at hlt2
      have hgk := hge es[k] (List.getElem_mem hlt2)
      have hem : es[k] ∈ es := List.getElem_mem hlt2
      have htk : es.take (k + 1) = es.take k ++ [es[k]] := by rw [List.take_succ_eq_append_getElem hlt2]
      generalize es[k] = e at *
      have hg0 := hgk.1.1
      have hg1 := hgk.1.2
      have hg2 := hgk.2.1.1
      have hg3 := hgk.2.1.2
      have hkS : (decide (e.1 ≠ (v : Int)) || kpS vs e) = false → hopsOk m es s vs = false := fun h => hno v hvn (by
        unfold cS
        have : es.all (fun e => decide (e.1 ≠ (v : Int)) || kpS vs e) = false := by
          rw [List.all_eq_false]; exact ⟨_, hem, by rw [h]; simp⟩
        rw [this]; simp)
      have hF : (decide (vs.getD v 0 ≤ 0) || (es.take (k + 1)).any (lk vs v)) = ((decide (vs.getD v 0 ≤ 0) || (es.take k).any (lk vs v)) || (decide (e.2.1 = (v : Int)) && decide (vs.getD e.1.toNat 0 = vs.getD v 0 - 1))) := by
        rw [htk, List.any_append, Bool.or_assoc]; congr 2
        simp only [List.any_cons, List.any_nil, Bool.or_false, lk, hv_val]; rfl
      have hw : (decide (vs.getD v 0 ≤ 0) || (es.take k).any (lk vs v)) = false → IntKind.i64.wrap (vs.getD v 0 - 1) = vs.getD v 0 - 1 := fun h => by
        rw [Bool.or_eq_false_iff, decide_eq_false_iff_not] at h
        exact IntWalk.i64_in _ (by unfold I64 at hXI; omega)
      generalize (decide (vs.getD v 0 ≤ 0) || (es.take k).any (lk vs v)) = B at *
      have hA : (es.take (k + 1)).all (fun e => decide (e.1 ≠ (v : Int)) || kpS vs e) = (decide (e.1 ≠ (v : Int)) || kpS vs e) := by
        rw [htk, List.all_append, HK]; simp
      have hkp : e.1 = (v : Int) → kpS vs e = (decide (vs.getD v 0 < 0) || inR 0 (IntKind.i64.wrap (vs.getD v 0 + 1)) (vs.getD e.2.1.toNat 0)) := fun h => by
        unfold kpS inR; rw [h, hv_val, Bool.eq_iff_iff]
        simp [Go.Proofs.YtfdaoepbdolgiaaDoor.val]
      repeat' (first | (with_reducible first | refine aw_seq ?_ | refine thn_normal ?_ | refine thn_ret ?_ | refine thn_exit ?_ | refine blk_normal ?_ | refine blk_ret ?_ | refine blk_hit ?_ | refine blk_miss rfl ?_ | refine aw_block ?_ | refine aw_ret ?_ | refine aw_skip ?_ | refine aw_exit ?_ | refine w_nil ?_ | refine x_nil (by kernel_rfl) ?_) | refine aw_region ?_ | refine aw_region_draw (by kernel_rfl) ?_ | refine aw_yes rfl ?_ | refine aw_no rfl ?_ | ((with_reducible refine w_seq ?_); first | refine r_q tbOk rfl rfl rfl rfl ?_ | refine r_e tbOk rfl rfl rfl rfl rfl ?_ | refine r_yes tbOk rfl rfl rfl rfl rfl rfl ?_ | refine w_no rfl rfl (lookO_spec rfl) rfl rfl rfl ?_ | refine w_un rfl rfl (lookO_spec rfl) rfl rfl ?_) | ((with_reducible refine w_drw ?_); first | refine rx_q tbOk rfl rfl rfl rfl ?_ | refine rx_e tbOk rfl rfl rfl rfl rfl ?_ | refine rx_yes tbOk rfl rfl rfl rfl rfl rfl ?_ | refine x_no rfl rfl (lookO_spec rfl) rfl rfl rfl ?_ | refine x_un rfl rfl (lookO_spec rfl) rfl rfl ?_) | ((first | refine' w_q rfl rfl ?xa rfl ?_ | refine' v_q rfl rfl ?xa rfl ?_ | refine' w_yes rfl rfl (lookO_spec rfl) rfl ?xa rfl ?_ | refine' v_yes rfl rfl (lookO_spec rfl) rfl ?xa rfl ?_); case xa => first | exact k_index tbOk rfl rfl rfl rfl (by omega) (by first | exact hix | exact ints_atI (by omega) (by omega)) | exact k_call (f_l1In _ _ _) rfl ⟨asA_r (evO_spec rfl), asA_r (evO_spec rfl), asA_r (evO_spec rfl), trivial⟩) | ((first | refine aw_ways rfl ?_ ?_ | refine r_split rfl rfl rfl ?_ ?_) <;> intro hg_ <;> fail_if_success (exact Bool.noConfusion hg_)) <;> (try simp only [prn] at hg_) <;> (try first | contradiction | (exfalso; omega)))
      all_goals try simp only [Int.toNat_natCast] at hg_
      all_goals clear HV hno hgI hge hI HK hem htk
      all_goals first
        | exact ret_tmp rfl (dres_bool (hkS (by simp_all)).symm)
        | exact ⟨k + 1, ⟨by omega, by rw [hA]; simp_all⟩, by (refine weak_ren [] rfl ?_ ?_ <;> repeat' (first | exact trivial | refine subR_cons rfl ?_ ?_ | refine subHR_cons rfl ?_ ?_ | rfl | (refine d_int ?_; (first | rfl | omega | (rw [IntWalk.i64_in _ (by omega)] <;> omega) | (simp; done) | (simp; omega))) | (refine d_bool ?_; (first | (simp_all; done) | (rw [Bool.eq_iff_iff]; simp_all; done) | (rw [Bool.eq_iff_iff]; simp_all; omega) | (rw [Bool.eq_iff_iff]; simp; omega))) | exact d_bool (by rw [hF]; simp_all))), by omega⟩
    · have hall : es.take k = es := List.take_of_length_le (by omega)
      rw [hall] at HK ⊢
      have hfd : fd es vs v = (decide (vs.getD v 0 ≤ 0) || es.any (lk vs v)) := by unfold fd; rw [hv_val]
      generalize (decide (vs.getD v 0 ≤ 0) || es.any (lk vs v)) = B at *
      repeat' (first | (with_reducible first | refine aw_seq ?_ | refine thn_normal ?_ | refine thn_ret ?_ | refine thn_exit ?_ | refine blk_normal ?_ | refine blk_ret ?_ | refine blk_hit ?_ | refine blk_miss rfl ?_ | refine aw_block ?_ | refine aw_ret ?_ | refine aw_skip ?_ | refine aw_exit ?_ | refine w_nil ?_ | refine x_nil (by kernel_rfl) ?_) | refine aw_region ?_ | refine aw_region_draw (by kernel_rfl) ?_ | refine aw_yes rfl ?_ | refine aw_no rfl ?_ | ((with_reducible refine w_seq ?_); first | refine r_q tbOk rfl rfl rfl rfl ?_ | refine r_e tbOk rfl rfl rfl rfl rfl ?_ | refine r_yes tbOk rfl rfl rfl rfl rfl rfl ?_ | refine w_no rfl rfl (lookO_spec rfl) rfl rfl rfl ?_ | refine w_un rfl rfl (lookO_spec rfl) rfl rfl ?_) | ((with_reducible refine w_drw ?_); first | refine rx_q tbOk rfl rfl rfl rfl ?_ | refine rx_e tbOk rfl rfl rfl rfl rfl ?_ | refine rx_yes tbOk rfl rfl rfl rfl rfl rfl ?_ | refine x_no rfl rfl (lookO_spec rfl) rfl rfl rfl ?_ | refine x_un rfl rfl (lookO_spec rfl) rfl rfl ?_) | ((first | refine aw_ways rfl ?_ ?_ | refine r_split rfl rfl rfl ?_ ?_) <;> intro hg_ <;> fail_if_success (exact Bool.noConfusion hg_)) <;> (try simp only [prn] at hg_) <;> (try first | contradiction | (exfalso; omega)))
      all_goals first
        | exact ret_tmp rfl (dres_bool (hno v hvn (by unfold cS; rw [hfd]; simp_all)).symm)
        | exact ⟨v + 1, ⟨by omega, fun u hu => by
            rcases Nat.lt_succ_iff_lt_or_eq.1 hu with h | rfl
            · exact HV u h
            · unfold cS; rw [hc1, HK, hfd]; simp_all⟩, by (refine weak_ren [] rfl ?_ ?_ <;> repeat' (first | exact trivial | refine subR_cons rfl ?_ ?_ | refine subHR_cons rfl ?_ ?_ | rfl | (refine d_int ?_; (first | rfl | omega | (rw [IntWalk.i64_in _ (by omega)] <;> omega) | (simp; done) | (simp; omega))) | (refine d_bool ?_; (first | (simp_all; done) | (rw [Bool.eq_iff_iff]; simp_all; done) | (rw [Bool.eq_iff_iff]; simp_all; omega) | (rw [Bool.eq_iff_iff]; simp; omega))))), by omega⟩
  · refine ret_tmp rfl (dres_bool ?_)
    rw [hR, eq_comm, List.all_eq_true]
    intro u hu
    obtain ⟨g0, g1⟩ := mem_vset.1 hu
    obtain ⟨u, rfl⟩ := Int.eq_ofNat_of_zero_le g0
    exact HV u (by omega)
theorem f_implHopsRight (m : Int) (nil nil' : Bool) (es : List E3) (s : Int) (vs : List Int) (hl : es.length ≤ 1048576) (hlv : vs.length ≤ 1048576) (hI : ∀ z ∈ vs, I64 z) :
    Fn Tryd.prog 16 [graphP m nil es, iP s, .one (row nil' 1 (ints vs))] (.v (.one (bool (hopsOk m es s vs)))) := by
  refine ⟨ent_of Tryd.func16 (by kernel_rfl) rfl, fun w us _ hA => ?_⟩
  match us, hA with
  | [v1, v2, v3], ⟨h1, h2, h3, _⟩ =>
    obtain ⟨ao, cap, rfl, hs⟩ := graph_arg h1
    obtain rfl := int_arg h2
    obtain ⟨vo, vc, rfl, hv, _⟩ := ints_arg h3
    refine (implHopsRight m ao vo cap vc es s vs w hl hlv hs hv hI).mono ?_
    rintro e w' ⟨rfl, hb⟩
    exact ⟨_, rfl, bool_res _ _, hb⟩
end Go.Proofs.YtfdaoepbdolgiaaDoor.Abs
