/- CostsRight of the reference by states. No statement of the seat is proved here. -/
import Derived.Test.YtknbeakmnkjkhaaTy
import Derived.Lib.Hide
import Derived.Test.YtknbeakmnkjkhaaBCosts
set_option linter.unusedSimpArgs false
set_option linter.unusedVariables false
namespace Go.Proofs.Ytknbeakmnkjkhaa.Abs
open Go.RowKit
open R (val row ref)

set_option maxRecDepth 100000 in
set_option maxHeartbeats 8000000 in
theorem f_specCostsRight (m : Int) (nil nil1 nil2 : Bool) (es : List E3) (s : Int) (vs fs : List Int) (hl : es.length ≤ 1048576) (hlv : vs.length ≤ 1048576) (hlf : fs.length ≤ 1048576) (hI : ∀ z ∈ vs, I64 z) :
    Fn Try.prog 26 [graphP m nil es, iP s, .one (row nil1 1 (ints vs)), .one (row nil2 1 (ints fs))] (.v (.one (bool (costsOk m es s vs fs)))) := by
  have hlen := edges_len es
  have hlen2 := ints_len vs
  have hlen3 := ints_len fs
  have hlm : es.length ≤ maxLen := by simp only [maxLen]; omega
  have hin : gOk m es = true → inR 0 (IntKind.i64.wrap (m - 1)) s = hasV m s := fun h => by
    have := gOk_m h
    rw [IntWalk.i64_in _ (by omega)]
    unfold inR hasV
    rw [Bool.eq_iff_iff]; simp; omega
  have hsv : gOk m es = true → inR 0 (IntKind.i64.wrap (m - 1)) s = true → 0 ≤ s ∧ s < m := fun h h' => by rw [hin h] at h'; unfold hasV at h'; simp at h'; exact h'
  refine fn_of (l := [.tmp 8]) Try.func26 (by kernel_rfl) rfl Try.ntmps26 rfl rfl ?_; simp only [argEnv, P0.d, Nat.reduceAdd, graphP, List.map_cons, List.map_nil]
  repeat' (first | with_reducible refine aw_seq ?_ | refine aw_region ?_ | refine aw_region_draw (by kernel_rfl) (by kernel_rfl) ?_ | with_reducible refine thn_normal ?_ | with_reducible refine thn_ret ?_ | with_reducible refine thn_exit ?_ | with_reducible refine blk_normal ?_ | with_reducible refine blk_ret ?_ | with_reducible refine blk_hit ?_ | with_reducible refine blk_miss rfl ?_ | with_reducible refine aw_block ?_ | with_reducible refine aw_ret ?_ | with_reducible refine aw_skip ?_ | with_reducible refine aw_exit ?_ | refine aw_yes rfl ?_ | refine aw_no rfl ?_ | (refine aw_ways rfl ?_ ?_ <;> intro hg_ <;> (try simp only [decide_eq_true_eq, decide_eq_false_iff_not, Bool.not_eq_true', Bool.not_eq_false', beq_iff_eq, bne_iff_ne, ne_eq, beq_eq_false_iff_ne, bne_eq_false_iff_eq, Int.not_lt, Int.not_le, Bool.not_eq_true, Bool.not_eq_false] at hg_) <;> (try first | contradiction | (exfalso; omega))) | with_reducible refine w_nil ?_ | (first | refine r_q tbOk rfl rfl rfl rfl ?_ | refine r_e tbOk rfl rfl ?_ | refine r_yes tbOk rfl rfl rfl rfl rfl rfl ?_ | refine w_no rfl rfl (lookO_spec rfl) rfl rfl rfl ?_ | refine w_un rfl rfl (lookO_spec rfl) rfl rfl ?_ | refine w_q rfl rfl (by exact k_call (f_specGraphValid _ _ es hlm) rfl ⟨asA_agg (evO_spec rfl) ⟨cAr_r, cAr_r, trivial⟩, trivial⟩) rfl ?_ | refine w_yes rfl rfl (lookO_spec rfl) rfl (by exact k_call (f_specGraphValid _ _ es hlm) rfl ⟨asA_agg (evO_spec rfl) ⟨cAr_r, cAr_r, trivial⟩, trivial⟩) rfl ?_ | refine w_q rfl rfl (by exact k_call (f_l1In _ _ _) rfl ⟨asA_r (evO_spec rfl), asA_r (evO_spec rfl), asA_r (evO_spec rfl), trivial⟩) rfl ?_ | refine w_yes rfl rfl (lookO_spec rfl) rfl (by exact k_call (f_l1In _ _ _) rfl ⟨asA_r (evO_spec rfl), asA_r (evO_spec rfl), asA_r (evO_spec rfl), trivial⟩) rfl ?_ | refine w_q rfl rfl (by exact k_index tbOk rfl rfl rfl rfl (by exact (hsv (by assumption) (by assumption)).1) (by exact ints_atD (hsv (by assumption) (by assumption)).1 (by have := (hsv (by assumption) (by assumption)).2; omega))) rfl ?_ | refine w_yes rfl rfl (lookO_spec rfl) rfl (by exact k_index tbOk rfl rfl rfl rfl (by exact (hsv (by assumption) (by assumption)).1) (by exact ints_atD (hsv (by assumption) (by assumption)).1 (by have := (hsv (by assumption) (by assumption)).2; omega))) rfl ?_ | (refine r_split rfl rfl rfl ?_ ?_ <;> intro hg_ <;> fail_if_success (exact Bool.noConfusion hg_)) <;> (try simp only [decide_eq_true_eq, decide_eq_false_iff_not, Bool.not_eq_true', Bool.not_eq_false', beq_iff_eq, bne_iff_ne, ne_eq, beq_eq_false_iff_ne, bne_eq_false_iff_eq, Int.not_lt, Int.not_le, Bool.not_eq_true, Bool.not_eq_false] at hg_) <;> (try first | contradiction | (exfalso; omega))))
  all_goals try exact ret_tmp rfl (dres_bool (by unfold costsOk; simp_all))
  rename_i h1 h2 h3 h4 h5
  have h6 := hg_
  clear hg_
  have hs := hsv h1 h2
  rw [hin h1] at h2
  have hm := gOk_m h1
  have hmn : m = (vs.length : Int) := by omega
  have hmf : m = (fs.length : Int) := by omega
  have hge := gOk_edges h1
  have hR : costsOk m es s vs fs = cSp m es s vs fs := by
    rw [cSp_cI h1 hs hmn.symm hI h5 h6]
    unfold costsOk
    rw [h1, h2, decide_eq_true hmn.symm, decide_eq_true hmf.symm, decide_eq_true h5, decide_eq_true h6]; simp
  rw [hR]
  have hnoE : ∀ e ∈ es, Costs.eS (dV vs) e = false → cSp m es s vs fs = false := fun e he h => by
    unfold cSp
    have : es.all (Costs.eS (dV vs)) = false := by rw [List.all_eq_false]; exact ⟨e, he, by simp [h]⟩
    rw [this]; rfl
  have hnoV : ∀ v : Nat, v < vs.length → Costs.vS vs.length s (dV vs) (dV fs) (wOf m es) v = false → cSp m es s vs fs = false := fun v hv h => by
    unfold cSp
    have : (List.range vs.length).all (fun v : Nat => Costs.vS vs.length s (dV vs) (dV fs) (wOf m es) v) = false := by
      rw [List.all_eq_false]; exact ⟨v, by simp [hv], by simp [h]⟩
    rw [this]; simp
  have hyes : (∀ e ∈ es, Costs.eS (dV vs) e = true) → (∀ v : Nat, v < vs.length → Costs.vS vs.length s (dV vs) (dV fs) (wOf m es) v = true) → cSp m es s vs fs = true := fun h h' => by
    unfold cSp
    rw [Bool.and_eq_true, List.all_eq_true, List.all_eq_true]
    exact ⟨h, fun v hv => h' v (by simpa using hv)⟩
  clear h1 h2 h3 h4 h5 h6 hR hsv hin
  refine aw_loopI (fun k : Nat => k ≤ es.length ∧ ∀ e ∈ es.take k, Costs.eS (dV vs) e = true) (fun k => mkS 180 [(9, .one (.r true (int k))), (1, .one (.r false (int s))), (2, .one (.r false (row nil1 1 (ints vs)))), (3, .one (.r false (row nil2 1 (ints fs)))), (4, .one (.ptr 4 0 0 0))] [(4, .var 28 [.r false (int m), .r false (row nil 3 (edges es))])]) (fun k => es.length - k) 0 ⟨Nat.zero_le _, by simp⟩ (by (refine weak_ren [] rfl ?_ ?_ <;> repeat' (first | exact trivial | refine subR_cons rfl ?_ ?_ | refine subHR_cons rfl ?_ ?_ | rfl | (refine d_int ?_; (first | rfl | omega | (rw [IntWalk.i64_in _ (by omega)] <;> omega) | (simp; done) | (simp; omega))) | (refine d_bool ?_; (first | (simp_all; done) | (rw [Bool.eq_iff_iff]; simp_all; done) | (rw [Bool.eq_iff_iff]; simp_all; omega) | (rw [Bool.eq_iff_iff]; simp; omega)))))) ?_
  rintro k ⟨hk, HE⟩
  by_cases hlt : k < es.length
  · have hix := edges_at hlt
    have hgk := hge es[k] (List.getElem_mem hlt)
    have hem : es[k] ∈ es := List.getElem_mem hlt
    have hnext : Costs.eS (dV vs) es[k] = true → ∀ e ∈ es.take (k + 1), Costs.eS (dV vs) e = true := fun h e he => by
      rw [List.take_succ_eq_append_getElem hlt, List.mem_append] at he
      rcases he with he | he
      · exact HE e he
      · obtain rfl : e = es[k] := by simpa using he
        exact h
    generalize es[k] = e at *
    have hg0 := hgk.1.1
    have hg1 := hgk.1.2
    have hg2 := hgk.2.1.1
    have hg3 := hgk.2.1.2
    repeat' (first | with_reducible refine aw_seq ?_ | refine aw_region ?_ | refine aw_region_draw (by kernel_rfl) (by kernel_rfl) ?_ | with_reducible refine thn_normal ?_ | with_reducible refine thn_ret ?_ | with_reducible refine thn_exit ?_ | with_reducible refine blk_normal ?_ | with_reducible refine blk_ret ?_ | with_reducible refine blk_hit ?_ | with_reducible refine blk_miss rfl ?_ | with_reducible refine aw_block ?_ | with_reducible refine aw_ret ?_ | with_reducible refine aw_skip ?_ | with_reducible refine aw_exit ?_ | refine aw_yes rfl ?_ | refine aw_no rfl ?_ | (refine aw_ways rfl ?_ ?_ <;> intro hg_ <;> (try simp only [decide_eq_true_eq, decide_eq_false_iff_not, Bool.not_eq_true', Bool.not_eq_false', beq_iff_eq, bne_iff_ne, ne_eq, beq_eq_false_iff_ne, bne_eq_false_iff_eq, Int.not_lt, Int.not_le, Bool.not_eq_true, Bool.not_eq_false] at hg_) <;> (try first | contradiction | (exfalso; omega))) | with_reducible refine w_nil ?_ | (first | refine r_q tbOk rfl rfl rfl rfl ?_ | refine r_e tbOk rfl rfl ?_ | refine r_yes tbOk rfl rfl rfl rfl rfl rfl ?_ | refine w_no rfl rfl (lookO_spec rfl) rfl rfl rfl ?_ | refine w_un rfl rfl (lookO_spec rfl) rfl rfl ?_ | refine w_q rfl rfl (by exact k_index tbOk rfl rfl rfl rfl (by omega) (by first | exact hix | exact ints_atD (by omega) (by omega))) rfl ?_ | refine w_yes rfl rfl (lookO_spec rfl) rfl (by exact k_index tbOk rfl rfl rfl rfl (by omega) (by first | exact hix | exact ints_atD (by omega) (by omega))) rfl ?_ | refine w_q rfl rfl (by exact k_call (f_l1In _ _ _) rfl ⟨asA_r (evO_spec rfl), asA_r (evO_spec rfl), asA_r (evO_spec rfl), trivial⟩) rfl ?_ | refine w_yes rfl rfl (lookO_spec rfl) rfl (by exact k_call (f_l1In _ _ _) rfl ⟨asA_r (evO_spec rfl), asA_r (evO_spec rfl), asA_r (evO_spec rfl), trivial⟩) rfl ?_ | (refine r_split rfl rfl rfl ?_ ?_ <;> intro hg_ <;> fail_if_success (exact Bool.noConfusion hg_)) <;> (try simp only [decide_eq_true_eq, decide_eq_false_iff_not, Bool.not_eq_true', Bool.not_eq_false', beq_iff_eq, bne_iff_ne, ne_eq, beq_eq_false_iff_ne, bne_eq_false_iff_eq, Int.not_lt, Int.not_le, Bool.not_eq_true, Bool.not_eq_false] at hg_) <;> (try first | contradiction | (exfalso; omega))))
    all_goals clear hyes hnoV hge
    all_goals first
      | exact ret_tmp rfl (dres_bool (hnoE e hem (by unfold Costs.eS Costs.inn; (try unfold inR at *); simp_all)).symm)
      | exact ⟨k + 1, ⟨by omega, hnext (by clear hnext HE hnoE; unfold Costs.eS Costs.inn; (try unfold inR at *); simp_all; try omega)⟩, by (refine weak_ren [] rfl ?_ ?_ <;> repeat' (first | exact trivial | refine subR_cons rfl ?_ ?_ | refine subHR_cons rfl ?_ ?_ | rfl | (refine d_int ?_; (first | rfl | omega | (rw [IntWalk.i64_in _ (by omega)] <;> omega) | (simp; done) | (simp; omega))) | (refine d_bool ?_; (first | (simp_all; done) | (rw [Bool.eq_iff_iff]; simp_all; done) | (rw [Bool.eq_iff_iff]; simp_all; omega) | (rw [Bool.eq_iff_iff]; simp; omega))))), by omega⟩
      | trace_state
  · have HE : ∀ e ∈ es, Costs.eS (dV vs) e = true := by rwa [List.take_of_length_le (by omega)] at HE
    repeat' (first | with_reducible refine aw_seq ?_ | refine aw_region ?_ | refine aw_region_draw (by kernel_rfl) (by kernel_rfl) ?_ | with_reducible refine thn_normal ?_ | with_reducible refine thn_ret ?_ | with_reducible refine thn_exit ?_ | with_reducible refine blk_normal ?_ | with_reducible refine blk_ret ?_ | with_reducible refine blk_hit ?_ | with_reducible refine blk_miss rfl ?_ | with_reducible refine aw_block ?_ | with_reducible refine aw_ret ?_ | with_reducible refine aw_skip ?_ | with_reducible refine aw_exit ?_ | refine aw_yes rfl ?_ | refine aw_no rfl ?_ | (refine aw_ways rfl ?_ ?_ <;> intro hg_ <;> (try simp only [decide_eq_true_eq, decide_eq_false_iff_not, Bool.not_eq_true', Bool.not_eq_false', beq_iff_eq, bne_iff_ne, ne_eq, beq_eq_false_iff_ne, bne_eq_false_iff_eq, Int.not_lt, Int.not_le, Bool.not_eq_true, Bool.not_eq_false] at hg_) <;> (try first | contradiction | (exfalso; omega))) | with_reducible refine w_nil ?_ | (first | refine r_q tbOk rfl rfl rfl rfl ?_ | refine r_e tbOk rfl rfl ?_ | refine r_yes tbOk rfl rfl rfl rfl rfl rfl ?_ | refine w_no rfl rfl (lookO_spec rfl) rfl rfl rfl ?_ | refine w_un rfl rfl (lookO_spec rfl) rfl rfl ?_ | (refine r_split rfl rfl rfl ?_ ?_ <;> intro hg_ <;> fail_if_success (exact Bool.noConfusion hg_)) <;> (try simp only [decide_eq_true_eq, decide_eq_false_iff_not, Bool.not_eq_true', Bool.not_eq_false', beq_iff_eq, bne_iff_ne, ne_eq, beq_eq_false_iff_ne, bne_eq_false_iff_eq, Int.not_lt, Int.not_le, Bool.not_eq_true, Bool.not_eq_false] at hg_) <;> (try first | contradiction | (exfalso; omega))))
    clear hg_ hlt hk hge hnoE
    refine aw_loopI (fun v : Nat => v ≤ vs.length ∧ ∀ u : Nat, u < v → Costs.vS vs.length s (dV vs) (dV fs) (wOf m es) u = true) (fun v => mkS 180 [(11, .one (.r true (int v))), (1, .one (.r false (int s))), (2, .one (.r false (row nil1 1 (ints vs)))), (3, .one (.r false (row nil2 1 (ints fs)))), (4, .one (.ptr 4 0 0 0))] [(4, .var 28 [.r false (int m), .r false (row nil 3 (edges es))])]) (fun v => vs.length - v) 0 ⟨Nat.zero_le _, fun u hu => by omega⟩ (by (refine weak_ren [] rfl ?_ ?_ <;> repeat' (first | exact trivial | refine subR_cons rfl ?_ ?_ | refine subHR_cons rfl ?_ ?_ | rfl | (refine d_int ?_; (first | rfl | omega | (rw [IntWalk.i64_in _ (by omega)] <;> omega) | (simp; done) | (simp; omega))) | (refine d_bool ?_; (first | (simp_all; done) | (rw [Bool.eq_iff_iff]; simp_all; done) | (rw [Bool.eq_iff_iff]; simp_all; omega) | (rw [Bool.eq_iff_iff]; simp; omega)))))) ?_
    rintro v ⟨hv, HV⟩
    have hnext : Costs.vS vs.length s (dV vs) (dV fs) (wOf m es) v = true → ∀ u : Nat, u < v + 1 → Costs.vS vs.length s (dV vs) (dV fs) (wOf m es) u = true := fun h u hu => by
      rcases Nat.lt_succ_iff_lt_or_eq.1 hu with hu | rfl
      · exact HV u hu
      · exact h
    repeat' (first | with_reducible refine aw_seq ?_ | refine aw_region ?_ | refine aw_region_draw (by kernel_rfl) (by kernel_rfl) ?_ | with_reducible refine thn_normal ?_ | with_reducible refine thn_ret ?_ | with_reducible refine thn_exit ?_ | with_reducible refine blk_normal ?_ | with_reducible refine blk_ret ?_ | with_reducible refine blk_hit ?_ | with_reducible refine blk_miss rfl ?_ | with_reducible refine aw_block ?_ | with_reducible refine aw_ret ?_ | with_reducible refine aw_skip ?_ | with_reducible refine aw_exit ?_ | refine aw_yes rfl ?_ | refine aw_no rfl ?_ | (refine aw_ways rfl ?_ ?_ <;> intro hg_ <;> (try simp only [decide_eq_true_eq, decide_eq_false_iff_not, Bool.not_eq_true', Bool.not_eq_false', beq_iff_eq, bne_iff_ne, ne_eq, beq_eq_false_iff_ne, bne_eq_false_iff_eq, Int.not_lt, Int.not_le, Bool.not_eq_true, Bool.not_eq_false] at hg_) <;> (try first | contradiction | (exfalso; omega))) | with_reducible refine w_nil ?_ | (first | refine r_q tbOk rfl rfl rfl rfl ?_ | refine r_e tbOk rfl rfl ?_ | refine r_yes tbOk rfl rfl rfl rfl rfl rfl ?_ | refine w_no rfl rfl (lookO_spec rfl) rfl rfl rfl ?_ | refine w_un rfl rfl (lookO_spec rfl) rfl rfl ?_ | refine w_q rfl rfl (by exact k_index tbOk rfl rfl rfl rfl (by omega) (by exact ints_atD (by omega) (by omega))) rfl ?_ | refine w_yes rfl rfl (lookO_spec rfl) rfl (by exact k_index tbOk rfl rfl rfl rfl (by omega) (by exact ints_atD (by omega) (by omega))) rfl ?_ | (refine r_split rfl rfl rfl ?_ ?_ <;> intro hg_ <;> fail_if_success (exact Bool.noConfusion hg_)) <;> (try simp only [decide_eq_true_eq, decide_eq_false_iff_not, Bool.not_eq_true', Bool.not_eq_false', beq_iff_eq, bne_iff_ne, ne_eq, beq_eq_false_iff_ne, bne_eq_false_iff_eq, Int.not_lt, Int.not_le, Bool.not_eq_true, Bool.not_eq_false] at hg_) <;> (try first | contradiction | (exfalso; omega))))
    all_goals try first
      | exact ret_tmp rfl (dres_bool (hyes HE fun v hv => HV v (by omega)).symm)
      | exact ret_tmp rfl (dres_bool (hnoV v (by omega) (by clear hnext HE HV hyes hnoV; unfold Costs.vS; simp_all)).symm)
      | exact ⟨v + 1, ⟨by omega, hnext (by clear hnext HE HV hyes hnoV; unfold Costs.vS; simp_all; try omega)⟩, by (refine weak_ren [] rfl ?_ ?_ <;> repeat' (first | exact trivial | refine subR_cons rfl ?_ ?_ | refine subHR_cons rfl ?_ ?_ | rfl | (refine d_int ?_; (first | rfl | omega | (rw [IntWalk.i64_in _ (by omega)] <;> omega) | (simp; done) | (simp; omega))) | (refine d_bool ?_; (first | (simp_all; done) | (rw [Bool.eq_iff_iff]; simp_all; done) | (rw [Bool.eq_iff_iff]; simp_all; omega) | (rw [Bool.eq_iff_iff]; simp; omega))))), by omega⟩
    have hvS : Costs.vS vs.length s (dV vs) (dV fs) (wOf m es) v = Costs.runS vs.length s (dV vs) (dV fs) (wOf m es) (vs.length + 1) v := by
      clear hnext HE HV hyes hnoV; unfold Costs.vS; simp_all
    have hvl : v < vs.length := by omega
    clear hg_
    refine aw_loopI (fun x : Bool × Nat × Int => x.2.1 ≤ vs.length + 1 ∧ (0 ≤ x.2.2 ∧ x.2.2 < m) ∧ Costs.vS vs.length s (dV vs) (dV fs) (wOf m es) v = Costs.runS vs.length s (dV vs) (dV fs) (wOf m es) (vs.length + 1 - x.2.1) x.2.2) (fun x => mkS 180 [(13, .one (.r true (int x.2.1))), (12, .one (.r x.1 (int x.2.2))), (11, .one (.r true (int v))), (1, .one (.r false (int s))), (2, .one (.r false (row nil1 1 (ints vs)))), (3, .one (.r false (row nil2 1 (ints fs)))), (4, .one (.ptr 4 0 0 0))] [(4, .var 28 [.r false (int m), .r false (row nil 3 (edges es))])]) (fun x => vs.length + 1 - x.2.1) (true, 0, (v : Int)) ⟨Nat.zero_le _, ⟨by show (0 : Int) ≤ v; omega, by show (v : Int) < m; omega⟩, hvS⟩ (by (refine weak_ren [] rfl ?_ ?_ <;> repeat' (first | exact trivial | refine subR_cons rfl ?_ ?_ | refine subHR_cons rfl ?_ ?_ | rfl | (refine d_int ?_; (first | rfl | omega | (rw [IntWalk.i64_in _ (by omega)] <;> omega) | (simp; done) | (simp; omega))) | (refine d_bool ?_; (first | (simp_all; done) | (rw [Bool.eq_iff_iff]; simp_all; done) | (rw [Bool.eq_iff_iff]; simp_all; omega) | (rw [Bool.eq_iff_iff]; simp; omega)))))) ?_
    rintro x ⟨hj, ⟨ha0, ha1⟩, HR⟩
    clear hvS
    by_cases hlt2 : x.2.1 ≤ vs.length ∧ x.2.2 ≠ s
    · obtain ⟨hj1, has⟩ := hlt2
      obtain ⟨n, hn⟩ : ∃ n, vs.length + 1 - x.2.1 = n + 1 := ⟨vs.length - x.2.1, by omega⟩
      have hn' : vs.length + 1 - (x.2.1 + 1) = n := by omega
      have hin2 : Costs.inn 0 ((vs.length : Int) - 1) (dV fs x.2.2) = inR 0 (IntKind.i64.wrap (m - 1)) (dV fs x.2.2) := by
        rw [IntWalk.i64_in _ (by omega), hmn]; rfl
      have hp : inR 0 (IntKind.i64.wrap (m - 1)) (dV fs x.2.2) = true → 0 ≤ dV fs x.2.2 ∧ dV fs x.2.2 < m := fun h => by
        rw [← hin2] at h; unfold Costs.inn at h; simp at h; omega
      simp only [hn, run_s, decide_eq_false has, Bool.false_or] at HR
      repeat' (first | with_reducible refine aw_seq ?_ | refine aw_region ?_ | refine aw_region_draw (by kernel_rfl) (by kernel_rfl) ?_ | with_reducible refine thn_normal ?_ | with_reducible refine thn_ret ?_ | with_reducible refine thn_exit ?_ | with_reducible refine blk_normal ?_ | with_reducible refine blk_ret ?_ | with_reducible refine blk_hit ?_ | with_reducible refine blk_miss rfl ?_ | with_reducible refine aw_block ?_ | with_reducible refine aw_ret ?_ | with_reducible refine aw_skip ?_ | with_reducible refine aw_exit ?_ | refine aw_yes rfl ?_ | refine aw_no rfl ?_ | (refine aw_ways rfl ?_ ?_ <;> intro hg_ <;> (try simp only [decide_eq_true_eq, decide_eq_false_iff_not, Bool.not_eq_true', Bool.not_eq_false', beq_iff_eq, bne_iff_ne, ne_eq, beq_eq_false_iff_ne, bne_eq_false_iff_eq, Int.not_lt, Int.not_le, Bool.not_eq_true, Bool.not_eq_false] at hg_) <;> (try first | contradiction | (exfalso; omega))) | with_reducible refine w_nil ?_ | (first | refine r_q tbOk rfl rfl rfl rfl ?_ | refine r_e tbOk rfl rfl ?_ | refine r_yes tbOk rfl rfl rfl rfl rfl rfl ?_ | refine w_no rfl rfl (lookO_spec rfl) rfl rfl rfl ?_ | refine w_un rfl rfl (lookO_spec rfl) rfl rfl ?_ | refine w_q rfl rfl (by exact k_index tbOk rfl rfl rfl rfl (by first | omega | exact (hp (by assumption)).1) (by first | exact ints_atD (by omega) (by omega) | exact ints_atD (hp (by assumption)).1 (by have := (hp (by assumption)).2; omega))) rfl ?_ | refine w_yes rfl rfl (lookO_spec rfl) rfl (by exact k_index tbOk rfl rfl rfl rfl (by first | omega | exact (hp (by assumption)).1) (by first | exact ints_atD (by omega) (by omega) | exact ints_atD (hp (by assumption)).1 (by have := (hp (by assumption)).2; omega))) rfl ?_ | refine w_q rfl rfl (by exact k_call (f_l1In _ _ _) rfl ⟨asA_r (evO_spec rfl), asA_r (evO_spec rfl), asA_r (evO_spec rfl), trivial⟩) rfl ?_ | refine w_yes rfl rfl (lookO_spec rfl) rfl (by exact k_call (f_l1In _ _ _) rfl ⟨asA_r (evO_spec rfl), asA_r (evO_spec rfl), asA_r (evO_spec rfl), trivial⟩) rfl ?_ | refine w_q rfl rfl (by exact k_call (f_specWeightOf m _ es _ _ hlm) rfl ⟨asA_agg (evO_spec rfl) ⟨cAr_r, cAr_r, trivial⟩, asA_r (evO_spec rfl), asA_r (evO_spec rfl), trivial⟩) rfl ?_ | refine w_yes rfl rfl (lookO_spec rfl) rfl (by exact k_call (f_specWeightOf m _ es _ _ hlm) rfl ⟨asA_agg (evO_spec rfl) ⟨cAr_r, cAr_r, trivial⟩, asA_r (evO_spec rfl), asA_r (evO_spec rfl), trivial⟩) rfl ?_ | (refine r_split rfl rfl rfl ?_ ?_ <;> intro hg_ <;> fail_if_success (exact Bool.noConfusion hg_)) <;> (try simp only [decide_eq_true_eq, decide_eq_false_iff_not, Bool.not_eq_true', Bool.not_eq_false', beq_iff_eq, bne_iff_ne, ne_eq, beq_eq_false_iff_ne, bne_eq_false_iff_eq, Int.not_lt, Int.not_le, Bool.not_eq_true, Bool.not_eq_false] at hg_) <;> (try first | contradiction | (exfalso; omega))))
      all_goals first
        | exact ret_tmp rfl (dres_bool (hnoV v hvl (by rw [HR]; clear hnext HE HV hyes hnoV HR; unfold Costs.stepS; rw [hin2]; simp_all)).symm)
        | exact ⟨(false, x.2.1 + 1, dV fs x.2.2), ⟨by simp only; omega, hp (by assumption), by rw [HR]; simp only [hn']; clear hnext HE HV hyes hnoV HR; unfold Costs.stepS; rw [hin2]; simp_all⟩, by (refine weak_ren [] rfl ?_ ?_ <;> repeat' (first | exact trivial | refine subR_cons rfl ?_ ?_ | refine subHR_cons rfl ?_ ?_ | rfl | (refine d_int ?_; (first | rfl | omega | (rw [IntWalk.i64_in _ (by omega)] <;> omega) | (simp; done) | (simp; omega))) | (refine d_bool ?_; (first | (simp_all; done) | (rw [Bool.eq_iff_iff]; simp_all; done) | (rw [Bool.eq_iff_iff]; simp_all; omega) | (rw [Bool.eq_iff_iff]; simp; omega))) | exact d_int (by simp only; rw [IntWalk.i64_in _ (by omega)]; omega))), by simp only; omega⟩
        | trace_state
    · repeat' (first | with_reducible refine aw_seq ?_ | refine aw_region ?_ | refine aw_region_draw (by kernel_rfl) (by kernel_rfl) ?_ | with_reducible refine thn_normal ?_ | with_reducible refine thn_ret ?_ | with_reducible refine thn_exit ?_ | with_reducible refine blk_normal ?_ | with_reducible refine blk_ret ?_ | with_reducible refine blk_hit ?_ | with_reducible refine blk_miss rfl ?_ | with_reducible refine aw_block ?_ | with_reducible refine aw_ret ?_ | with_reducible refine aw_skip ?_ | with_reducible refine aw_exit ?_ | refine aw_yes rfl ?_ | refine aw_no rfl ?_ | (refine aw_ways rfl ?_ ?_ <;> intro hg_ <;> (try simp only [decide_eq_true_eq, decide_eq_false_iff_not, Bool.not_eq_true', Bool.not_eq_false', beq_iff_eq, bne_iff_ne, ne_eq, beq_eq_false_iff_ne, bne_eq_false_iff_eq, Int.not_lt, Int.not_le, Bool.not_eq_true, Bool.not_eq_false] at hg_) <;> (try first | contradiction | (exfalso; omega))) | with_reducible refine w_nil ?_ | (first | refine r_q tbOk rfl rfl rfl rfl ?_ | refine r_e tbOk rfl rfl ?_ | refine r_yes tbOk rfl rfl rfl rfl rfl rfl ?_ | refine w_no rfl rfl (lookO_spec rfl) rfl rfl rfl ?_ | refine w_un rfl rfl (lookO_spec rfl) rfl rfl ?_ | (refine r_split rfl rfl rfl ?_ ?_ <;> intro hg_ <;> fail_if_success (exact Bool.noConfusion hg_)) <;> (try simp only [decide_eq_true_eq, decide_eq_false_iff_not, Bool.not_eq_true', Bool.not_eq_false', beq_iff_eq, bne_iff_ne, ne_eq, beq_eq_false_iff_ne, bne_eq_false_iff_eq, Int.not_lt, Int.not_le, Bool.not_eq_true, Bool.not_eq_false] at hg_) <;> (try first | contradiction | (exfalso; omega))))
      all_goals first
        | exact ret_tmp rfl (dres_bool (hnoV v hvl (by rw [HR, show vs.length + 1 - x.2.1 = 0 by omega, run_z]; simpa using hg_)).symm)
        | exact ⟨v + 1, ⟨by omega, hnext (by rw [HR, show x.2.2 = s from by assumption]; exact run_at _ _ _ _ _ _)⟩, by (refine weak_ren [] rfl ?_ ?_ <;> repeat' (first | exact trivial | refine subR_cons rfl ?_ ?_ | refine subHR_cons rfl ?_ ?_ | rfl | (refine d_int ?_; (first | rfl | omega | (rw [IntWalk.i64_in _ (by omega)] <;> omega) | (simp; done) | (simp; omega))) | (refine d_bool ?_; (first | (simp_all; done) | (rw [Bool.eq_iff_iff]; simp_all; done) | (rw [Bool.eq_iff_iff]; simp_all; omega) | (rw [Bool.eq_iff_iff]; simp; omega))))), by omega⟩
        | trace_state
end Go.Proofs.Ytknbeakmnkjkhaa.Abs
