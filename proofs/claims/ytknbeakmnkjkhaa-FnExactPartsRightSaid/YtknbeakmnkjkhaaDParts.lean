/- PartsRight of the reference by states: the walk. No statement of the seat is proved here. -/
import Derived.Test.YtknbeakmnkjkhaaTy
import Derived.Lib.Hide
import Derived.Test.YtknbeakmnkjkhaaCParts
set_option linter.unusedSimpArgs false
set_option linter.unusedVariables false
namespace Go.Proofs.Ytknbeakmnkjkhaa.Abs
open Go.RowKit
open R (val row ref)

theorem runP_s (d f : Int → Int) (near : Int → Int → Bool) (R : Int) (n : Nat) (v : Int) : Parts.runP d f near R (n + 1) v = (decide (v = R) || ((near v (f v) && decide (d (f v) = R)) && Parts.runP d f near R n (f v))) := rfl
theorem runP_z (d f : Int → Int) (near : Int → Int → Bool) (R : Int) (v : Int) : Parts.runP d f near R 0 v = decide (v = R) := rfl
theorem runP_at (d f : Int → Int) (near : Int → Int → Bool) (R : Int) (n : Nat) : Parts.runP d f near R n R = true := by cases n <;> simp [runP_s, runP_z]
def pSp (m : Int) (es : List E3) (vs fs : List Int) : Bool := es.all (partE (dV vs)) && (List.range vs.length).all (fun v : Nat => Parts.vS vs.length (dV vs) (dV fs) (nr m es) v)
theorem pSp_ok {m : Int} {es : List E3} {vs fs : List Int} (hg : gOk m es = true) (hmn : (vs.length : Int) = m) (hmf : (fs.length : Int) = m) : partsOk m es vs fs = pSp m es vs fs := by
  have h := Parts.same (M := vs.length) (d := dV vs) (f := dV fs) (near := nr m es) (fun v p h => by unfold nr hasV at h; simp at h; omega)
  unfold partsOk pSp
  rw [hg, decide_eq_true hmn, decide_eq_true hmf, Bool.true_and, Bool.true_and, Bool.true_and]
  congr 1
  rw [Bool.eq_iff_iff, allR vs.length (Parts.vS vs.length (dV vs) (dV fs) (nr m es)), h, ← allR vs.length (Parts.vI vs.length (dV vs) (dV fs) (nr m es)), List.all_eq_true, List.all_eq_true]
  constructor
  · intro h v hv; rw [← pI_vI (dV vs) (dV fs) hg hmn (by omega) (by simp at hv; omega)]; exact h v hv
  · intro h v hv; rw [pI_vI (dV vs) (dV fs) hg hmn (by omega) (by simp at hv; omega)]; exact h v hv
theorem vS_no1 (M : Nat) (d f : Int → Int) (near : Int → Int → Bool) (v : Int) (h : d v = v) (h' : ¬ f v = -1) : Parts.vS M d f near v = false := by
  unfold Parts.vS; rw [decide_eq_true h, decide_eq_false h']; rfl
theorem vS_no2 (M : Nat) (d f : Int → Int) (near : Int → Int → Bool) (v : Int) (h : inR 0 v (d v) = false) : Parts.vS M d f near v = false := by
  unfold Parts.vS Costs.inn; unfold inR at h; rw [h]; simp
theorem nearL_len (m : Int) (es : List E3) (a : Int) : (nearL m es a).length ≤ m.toNat := by
  unfold nearL
  split
  · refine Nat.le_trans (List.length_filter_le _ _) ?_
    simp
  · exact Nat.zero_le _
set_option maxRecDepth 100000 in
set_option maxHeartbeats 8000000 in
theorem f_specPartsRight (m : Int) (nil nil1 nil2 : Bool) (es : List E3) (vs fs : List Int) (hl : es.length ≤ 1048576) (hlv : vs.length ≤ 1048576) (hlf : fs.length ≤ 1048576) :
    Fn Try.prog 28 [graphP m nil es, .one (row nil1 1 (ints vs)), .one (row nil2 1 (ints fs))] (.v (.one (bool (partsOk m es vs fs)))) := by
  have hlen := edges_len es
  have hlen2 := ints_len vs
  have hlen3 := ints_len fs
  have hlm : es.length ≤ maxLen := by simp only [maxLen]; omega
  refine fn_of (l := [.tmp 6]) Try.func28 (by kernel_rfl) rfl Try.ntmps28 rfl rfl ?_; simp only [argEnv, P0.d, Nat.reduceAdd, graphP, List.map_cons, List.map_nil]
  repeat' (first | with_reducible refine aw_seq ?_ | refine aw_region ?_ | refine aw_region_draw (by kernel_rfl) (by kernel_rfl) ?_ | with_reducible refine thn_normal ?_ | with_reducible refine thn_ret ?_ | with_reducible refine thn_exit ?_ | with_reducible refine blk_normal ?_ | with_reducible refine blk_ret ?_ | with_reducible refine blk_hit ?_ | with_reducible refine blk_miss rfl ?_ | with_reducible refine aw_block ?_ | with_reducible refine aw_ret ?_ | with_reducible refine aw_skip ?_ | with_reducible refine aw_exit ?_ | refine aw_yes rfl ?_ | refine aw_no rfl ?_ | (refine aw_ways rfl ?_ ?_ <;> intro hg_ <;> (try simp only [decide_eq_true_eq, decide_eq_false_iff_not, Bool.not_eq_true', Bool.not_eq_false', beq_iff_eq, bne_iff_ne, ne_eq, beq_eq_false_iff_ne, bne_eq_false_iff_eq, Int.not_lt, Int.not_le, Bool.not_eq_true, Bool.not_eq_false] at hg_) <;> (try first | contradiction | (exfalso; omega))) | with_reducible refine w_nil ?_ | (first | refine r_q tbOk rfl rfl rfl rfl ?_ | refine r_e tbOk rfl rfl ?_ | refine r_yes tbOk rfl rfl rfl rfl rfl rfl ?_ | refine w_no rfl rfl (lookO_spec rfl) rfl rfl rfl ?_ | refine w_un rfl rfl (lookO_spec rfl) rfl rfl ?_ | refine w_q rfl rfl (by exact k_call (f_specGraphValid _ _ es hlm) rfl ⟨asA_agg (evO_spec rfl) ⟨cAr_r, cAr_r, trivial⟩, trivial⟩) rfl ?_ | refine w_yes rfl rfl (lookO_spec rfl) rfl (by exact k_call (f_specGraphValid _ _ es hlm) rfl ⟨asA_agg (evO_spec rfl) ⟨cAr_r, cAr_r, trivial⟩, trivial⟩) rfl ?_ | (refine r_split rfl rfl rfl ?_ ?_ <;> intro hg_ <;> fail_if_success (exact Bool.noConfusion hg_)) <;> (try simp only [decide_eq_true_eq, decide_eq_false_iff_not, Bool.not_eq_true', Bool.not_eq_false', beq_iff_eq, bne_iff_ne, ne_eq, beq_eq_false_iff_ne, bne_eq_false_iff_eq, Int.not_lt, Int.not_le, Bool.not_eq_true, Bool.not_eq_false] at hg_) <;> (try first | contradiction | (exfalso; omega))))
  all_goals try exact ret_tmp rfl (dres_bool (by unfold partsOk; simp_all))
  rename_i h1 h2
  have h3 := hg_
  clear hg_
  have hm := gOk_m h1
  have hmn : m = (vs.length : Int) := by omega
  have hmf : m = (fs.length : Int) := by omega
  have hge := gOk_edges h1
  rw [pSp_ok h1 hmn.symm hmf.symm]
  have hnoE : ∀ e ∈ es, partE (dV vs) e = false → pSp m es vs fs = false := fun e he h => by
    unfold pSp
    have : es.all (partE (dV vs)) = false := by rw [List.all_eq_false]; exact ⟨e, he, by simp [h]⟩
    rw [this]; rfl
  have hnoV : ∀ v : Nat, v < vs.length → Parts.vS vs.length (dV vs) (dV fs) (nr m es) v = false → pSp m es vs fs = false := fun v hv h => by
    unfold pSp
    have : (List.range vs.length).all (fun v : Nat => Parts.vS vs.length (dV vs) (dV fs) (nr m es) v) = false := by
      rw [List.all_eq_false]; exact ⟨v, by simp [hv], by simp [h]⟩
    rw [this]; simp
  have hyes : (∀ e ∈ es, partE (dV vs) e = true) → (∀ v : Nat, v < vs.length → Parts.vS vs.length (dV vs) (dV fs) (nr m es) v = true) → pSp m es vs fs = true := fun h h' => by
    unfold pSp
    rw [Bool.and_eq_true, List.all_eq_true, List.all_eq_true]
    exact ⟨h, fun v hv => h' v (by simpa using hv)⟩
  have hG := h1
  clear h1 h2 h3
  refine aw_loopI (fun k : Nat => k ≤ es.length ∧ ∀ e ∈ es.take k, partE (dV vs) e = true) (fun k => mkS 126 [(7, .one (.r true (int k))), (1, .one (.r false (row nil1 1 (ints vs)))), (2, .one (.r false (row nil2 1 (ints fs)))), (3, .one (.ptr 3 0 0 0))] [(3, .var 28 [.r false (int m), .r false (row nil 3 (edges es))])]) (fun k => es.length - k) 0 ⟨Nat.zero_le _, by simp⟩ (by (refine weak_ren [] rfl ?_ ?_ <;> repeat' (first | exact trivial | refine subR_cons rfl ?_ ?_ | refine subHR_cons rfl ?_ ?_ | rfl | (refine d_int ?_; (first | rfl | omega | (rw [IntWalk.i64_in _ (by omega)] <;> omega) | (simp; done) | (simp; omega))) | (refine d_bool ?_; (first | (simp_all; done) | (rw [Bool.eq_iff_iff]; simp_all; done) | (rw [Bool.eq_iff_iff]; simp_all; omega) | (rw [Bool.eq_iff_iff]; simp; omega)))))) ?_
  rintro k ⟨hk, HE⟩
  by_cases hlt : k < es.length
  · have hix := edges_at hlt
    have hgk := hge es[k] (List.getElem_mem hlt)
    have hem : es[k] ∈ es := List.getElem_mem hlt
    have hnext : partE (dV vs) es[k] = true → ∀ e ∈ es.take (k + 1), partE (dV vs) e = true := fun h e he => by
      rw [List.take_succ_eq_append_getElem hlt, List.mem_append] at he
      rcases he with he | he
      · exact HE e he
      · obtain rfl : e = es[k] := by simpa using he
        exact h
    generalize es[k] = e at *
    have hg0 := hgk.1.1
    have hg1 := hgk.1.2
    have hg2 := hgk.2.1.1
    have hg3 := hgk.2.1.2
    repeat' (first | with_reducible refine aw_seq ?_ | refine aw_region ?_ | refine aw_region_draw (by kernel_rfl) (by kernel_rfl) ?_ | with_reducible refine thn_normal ?_ | with_reducible refine thn_ret ?_ | with_reducible refine thn_exit ?_ | with_reducible refine blk_normal ?_ | with_reducible refine blk_ret ?_ | with_reducible refine blk_hit ?_ | with_reducible refine blk_miss rfl ?_ | with_reducible refine aw_block ?_ | with_reducible refine aw_ret ?_ | with_reducible refine aw_skip ?_ | with_reducible refine aw_exit ?_ | refine aw_yes rfl ?_ | refine aw_no rfl ?_ | (refine aw_ways rfl ?_ ?_ <;> intro hg_ <;> (try simp only [decide_eq_true_eq, decide_eq_false_iff_not, Bool.not_eq_true', Bool.not_eq_false', beq_iff_eq, bne_iff_ne, ne_eq, beq_eq_false_iff_ne, bne_eq_false_iff_eq, Int.not_lt, Int.not_le, Bool.not_eq_true, Bool.not_eq_false] at hg_) <;> (try first | contradiction | (exfalso; omega))) | with_reducible refine w_nil ?_ | (first | refine r_q tbOk rfl rfl rfl rfl ?_ | refine r_e tbOk rfl rfl ?_ | refine r_yes tbOk rfl rfl rfl rfl rfl rfl ?_ | refine w_no rfl rfl (lookO_spec rfl) rfl rfl rfl ?_ | refine w_un rfl rfl (lookO_spec rfl) rfl rfl ?_ | refine w_q rfl rfl (by exact k_index tbOk rfl rfl rfl rfl (by omega) (by first | exact hix | exact ints_atD (by omega) (by omega))) rfl ?_ | refine w_yes rfl rfl (lookO_spec rfl) rfl (by exact k_index tbOk rfl rfl rfl rfl (by omega) (by first | exact hix | exact ints_atD (by omega) (by omega))) rfl ?_ | (refine r_split rfl rfl rfl ?_ ?_ <;> intro hg_ <;> fail_if_success (exact Bool.noConfusion hg_)) <;> (try simp only [decide_eq_true_eq, decide_eq_false_iff_not, Bool.not_eq_true', Bool.not_eq_false', beq_iff_eq, bne_iff_ne, ne_eq, beq_eq_false_iff_ne, bne_eq_false_iff_eq, Int.not_lt, Int.not_le, Bool.not_eq_true, Bool.not_eq_false] at hg_) <;> (try first | contradiction | (exfalso; omega))))
    all_goals first
      | exact ret_tmp rfl (dres_bool (hnoE e hem (by unfold partE; simpa using hg_)).symm)
      | exact ⟨k + 1, ⟨by omega, hnext (by unfold partE; simpa using hg_)⟩, by (refine weak_ren [] rfl ?_ ?_ <;> repeat' (first | exact trivial | refine subR_cons rfl ?_ ?_ | refine subHR_cons rfl ?_ ?_ | rfl | (refine d_int ?_; (first | rfl | omega | (rw [IntWalk.i64_in _ (by omega)] <;> omega) | (simp; done) | (simp; omega))) | (refine d_bool ?_; (first | (simp_all; done) | (rw [Bool.eq_iff_iff]; simp_all; done) | (rw [Bool.eq_iff_iff]; simp_all; omega) | (rw [Bool.eq_iff_iff]; simp; omega))))), by omega⟩
      | trace_state
  · have HE : ∀ e ∈ es, partE (dV vs) e = true := by rwa [List.take_of_length_le (by omega)] at HE
    repeat' (first | with_reducible refine aw_seq ?_ | refine aw_region ?_ | refine aw_region_draw (by kernel_rfl) (by kernel_rfl) ?_ | with_reducible refine thn_normal ?_ | with_reducible refine thn_ret ?_ | with_reducible refine thn_exit ?_ | with_reducible refine blk_normal ?_ | with_reducible refine blk_ret ?_ | with_reducible refine blk_hit ?_ | with_reducible refine blk_miss rfl ?_ | with_reducible refine aw_block ?_ | with_reducible refine aw_ret ?_ | with_reducible refine aw_skip ?_ | with_reducible refine aw_exit ?_ | refine aw_yes rfl ?_ | refine aw_no rfl ?_ | (refine aw_ways rfl ?_ ?_ <;> intro hg_ <;> (try simp only [decide_eq_true_eq, decide_eq_false_iff_not, Bool.not_eq_true', Bool.not_eq_false', beq_iff_eq, bne_iff_ne, ne_eq, beq_eq_false_iff_ne, bne_eq_false_iff_eq, Int.not_lt, Int.not_le, Bool.not_eq_true, Bool.not_eq_false] at hg_) <;> (try first | contradiction | (exfalso; omega))) | with_reducible refine w_nil ?_ | (first | refine r_q tbOk rfl rfl rfl rfl ?_ | refine r_e tbOk rfl rfl ?_ | refine r_yes tbOk rfl rfl rfl rfl rfl rfl ?_ | refine w_no rfl rfl (lookO_spec rfl) rfl rfl rfl ?_ | refine w_un rfl rfl (lookO_spec rfl) rfl rfl ?_ | (refine r_split rfl rfl rfl ?_ ?_ <;> intro hg_ <;> fail_if_success (exact Bool.noConfusion hg_)) <;> (try simp only [decide_eq_true_eq, decide_eq_false_iff_not, Bool.not_eq_true', Bool.not_eq_false', beq_iff_eq, bne_iff_ne, ne_eq, beq_eq_false_iff_ne, bne_eq_false_iff_eq, Int.not_lt, Int.not_le, Bool.not_eq_true, Bool.not_eq_false] at hg_) <;> (try first | contradiction | (exfalso; omega))))
    clear hg_ hlt hk hge hnoE
    refine aw_loopI (fun v : Nat => v ≤ vs.length ∧ ∀ u : Nat, u < v → Parts.vS vs.length (dV vs) (dV fs) (nr m es) u = true) (fun v => mkS 126 [(8, .one (.r true (int v))), (1, .one (.r false (row nil1 1 (ints vs)))), (2, .one (.r false (row nil2 1 (ints fs)))), (3, .one (.ptr 3 0 0 0))] [(3, .var 28 [.r false (int m), .r false (row nil 3 (edges es))])]) (fun v => vs.length - v) 0 ⟨Nat.zero_le _, fun u hu => by omega⟩ (by (refine weak_ren [] rfl ?_ ?_ <;> repeat' (first | exact trivial | refine subR_cons rfl ?_ ?_ | refine subHR_cons rfl ?_ ?_ | rfl | (refine d_int ?_; (first | rfl | omega | (rw [IntWalk.i64_in _ (by omega)] <;> omega) | (simp; done) | (simp; omega))) | (refine d_bool ?_; (first | (simp_all; done) | (rw [Bool.eq_iff_iff]; simp_all; done) | (rw [Bool.eq_iff_iff]; simp_all; omega) | (rw [Bool.eq_iff_iff]; simp; omega)))))) ?_
    rintro v ⟨hv, HV⟩
    repeat' (first | with_reducible refine aw_seq ?_ | refine aw_region ?_ | refine aw_region_draw (by kernel_rfl) (by kernel_rfl) ?_ | with_reducible refine thn_normal ?_ | with_reducible refine thn_ret ?_ | with_reducible refine thn_exit ?_ | with_reducible refine blk_normal ?_ | with_reducible refine blk_ret ?_ | with_reducible refine blk_hit ?_ | with_reducible refine blk_miss rfl ?_ | with_reducible refine aw_block ?_ | with_reducible refine aw_ret ?_ | with_reducible refine aw_skip ?_ | with_reducible refine aw_exit ?_ | refine aw_yes rfl ?_ | refine aw_no rfl ?_ | (refine aw_ways rfl ?_ ?_ <;> intro hg_ <;> (try simp only [decide_eq_true_eq, decide_eq_false_iff_not, Bool.not_eq_true', Bool.not_eq_false', beq_iff_eq, bne_iff_ne, ne_eq, beq_eq_false_iff_ne, bne_eq_false_iff_eq, Int.not_lt, Int.not_le, Bool.not_eq_true, Bool.not_eq_false] at hg_) <;> (try first | contradiction | (exfalso; omega))) | with_reducible refine w_nil ?_ | (first | refine r_q tbOk rfl rfl rfl rfl ?_ | refine r_e tbOk rfl rfl ?_ | refine r_yes tbOk rfl rfl rfl rfl rfl rfl ?_ | refine w_no rfl rfl (lookO_spec rfl) rfl rfl rfl ?_ | refine w_un rfl rfl (lookO_spec rfl) rfl rfl ?_ | refine w_q rfl rfl (by exact k_index tbOk rfl rfl rfl rfl (by omega) (by exact ints_atD (by omega) (by omega))) rfl ?_ | refine w_yes rfl rfl (lookO_spec rfl) rfl (by exact k_index tbOk rfl rfl rfl rfl (by omega) (by exact ints_atD (by omega) (by omega))) rfl ?_ | refine w_q rfl rfl (by exact k_call (f_l1In _ _ _) rfl ⟨asA_r (evO_spec rfl), asA_r (evO_spec rfl), asA_r (evO_spec rfl), trivial⟩) rfl ?_ | refine w_yes rfl rfl (lookO_spec rfl) rfl (by exact k_call (f_l1In _ _ _) rfl ⟨asA_r (evO_spec rfl), asA_r (evO_spec rfl), asA_r (evO_spec rfl), trivial⟩) rfl ?_ | (refine r_split rfl rfl rfl ?_ ?_ <;> intro hg_ <;> fail_if_success (exact Bool.noConfusion hg_)) <;> (try simp only [decide_eq_true_eq, decide_eq_false_iff_not, Bool.not_eq_true', Bool.not_eq_false', beq_iff_eq, bne_iff_ne, ne_eq, beq_eq_false_iff_ne, bne_eq_false_iff_eq, Int.not_lt, Int.not_le, Bool.not_eq_true, Bool.not_eq_false] at hg_) <;> (try first | contradiction | (exfalso; omega))))
    all_goals try first
      | exact ret_tmp rfl (dres_bool (hyes HE fun v hv => HV v (by omega)).symm)
      | exact ret_tmp rfl (dres_bool (hnoV v (by omega) (vS_no1 _ _ _ _ _ (by assumption) (by assumption))).symm)
      | exact ret_tmp rfl (dres_bool (hnoV v (by omega) (vS_no2 _ _ _ _ _ (by assumption))).symm)
    all_goals
      have hvl : v < vs.length := by omega
      have hd0 : 0 ≤ dV vs v ∧ dV vs v ≤ v := by unfold inR at hg_; simpa using hg_
      have hvS : Parts.vS vs.length (dV vs) (dV fs) (nr m es) v = Parts.runP (dV vs) (dV fs) (nr m es) (dV vs v) (vs.length + 1) v := by
        unfold Parts.vS Costs.inn
        rw [decide_eq_true hd0]
        first
          | (rw [decide_eq_true (show dV fs v = -1 by assumption)]; simp; done)
          | (rw [decide_eq_false (show ¬ dV vs v = v by assumption)]; simp; done)
      have hnext : Parts.vS vs.length (dV vs) (dV fs) (nr m es) v = true → ∀ u : Nat, u < v + 1 → Parts.vS vs.length (dV vs) (dV fs) (nr m es) u = true := fun h u hu => by
        rcases Nat.lt_succ_iff_lt_or_eq.1 hu with hu | rfl
        · exact HV u hu
        · exact h
      clear hg_
      refine aw_loopI (fun x : Bool × Nat × Int => x.2.1 ≤ vs.length + 1 ∧ (0 ≤ x.2.2 ∧ x.2.2 < m) ∧ Parts.vS vs.length (dV vs) (dV fs) (nr m es) v = Parts.runP (dV vs) (dV fs) (nr m es) (dV vs v) (vs.length + 1 - x.2.1) x.2.2) (fun x => mkS 126 [(10, .one (.r true (int x.2.1))), (9, .one (.r x.1 (int x.2.2))), (8, .one (.r true (int v))), (1, .one (.r false (row nil1 1 (ints vs)))), (2, .one (.r false (row nil2 1 (ints fs)))), (3, .one (.ptr 3 0 0 0))] [(3, .var 28 [.r false (int m), .r false (row nil 3 (edges es))])]) (fun x => vs.length + 1 - x.2.1) (true, 0, (v : Int)) ⟨Nat.zero_le _, ⟨by show (0 : Int) ≤ v; omega, by show (v : Int) < m; omega⟩, hvS⟩ (by (refine weak_ren [] rfl ?_ ?_ <;> repeat' (first | exact trivial | refine subR_cons rfl ?_ ?_ | refine subHR_cons rfl ?_ ?_ | rfl | (refine d_int ?_; (first | rfl | omega | (rw [IntWalk.i64_in _ (by omega)] <;> omega) | (simp; done) | (simp; omega))) | (refine d_bool ?_; (first | (simp_all; done) | (rw [Bool.eq_iff_iff]; simp_all; done) | (rw [Bool.eq_iff_iff]; simp_all; omega) | (rw [Bool.eq_iff_iff]; simp; omega)))))) ?_
      rintro x ⟨hj, ⟨ha0, ha1⟩, HR⟩
      clear hvS
      by_cases hlt2 : x.2.1 ≤ vs.length ∧ x.2.2 ≠ dV vs v
      · obtain ⟨hj1, has⟩ := hlt2
        obtain ⟨n, hn⟩ : ∃ n, vs.length + 1 - x.2.1 = n + 1 := ⟨vs.length - x.2.1, by omega⟩
        have hn' : vs.length + 1 - (x.2.1 + 1) = n := by omega
        simp only [hn, runP_s, decide_eq_false has, Bool.false_or] at HR
        have hnr : nr m es x.2.2 (dV fs x.2.2) = (nearL m es x.2.2).any (fun z => decide (z = dV fs x.2.2)) := (nearL_any hG _ _).symm
        rw [hnr] at HR
        have hp : ((nearL m es x.2.2).any fun z => decide (z = dV fs x.2.2)) = true → 0 ≤ dV fs x.2.2 ∧ dV fs x.2.2 < m := fun h => by
          rw [nearL_any hG] at h; unfold hasV at h; simp at h; omega
        have hnl := nearL_len m es x.2.2
        have hcall := fun nil => f_l7Has nil (nearL m es x.2.2) (dV fs x.2.2) (by omega)
        generalize (nearL m es x.2.2).any (fun z => decide (z = dV fs x.2.2)) = B at *
        repeat' (first | with_reducible refine aw_seq ?_ | refine aw_region ?_ | refine aw_region_draw (by kernel_rfl) (by kernel_rfl) ?_ | with_reducible refine thn_normal ?_ | with_reducible refine thn_ret ?_ | with_reducible refine thn_exit ?_ | with_reducible refine blk_normal ?_ | with_reducible refine blk_ret ?_ | with_reducible refine blk_hit ?_ | with_reducible refine blk_miss rfl ?_ | with_reducible refine aw_block ?_ | with_reducible refine aw_ret ?_ | with_reducible refine aw_skip ?_ | with_reducible refine aw_exit ?_ | refine aw_yes rfl ?_ | refine aw_no rfl ?_ | (refine aw_ways rfl ?_ ?_ <;> intro hg_ <;> (try simp only [decide_eq_true_eq, decide_eq_false_iff_not, Bool.not_eq_true', Bool.not_eq_false', beq_iff_eq, bne_iff_ne, ne_eq, beq_eq_false_iff_ne, bne_eq_false_iff_eq, Int.not_lt, Int.not_le, Bool.not_eq_true, Bool.not_eq_false] at hg_) <;> (try first | contradiction | (exfalso; omega))) | with_reducible refine w_nil ?_ | (first | refine r_q tbOk rfl rfl rfl rfl ?_ | refine r_e tbOk rfl rfl ?_ | refine r_yes tbOk rfl rfl rfl rfl rfl rfl ?_ | refine w_no rfl rfl (lookO_spec rfl) rfl rfl rfl ?_ | refine w_un rfl rfl (lookO_spec rfl) rfl rfl ?_ | refine w_q rfl rfl (by exact k_index tbOk rfl rfl rfl rfl (by first | omega | exact (hp (by assumption)).1) (by first | exact ints_atD (by omega) (by omega) | exact ints_atD (hp (by assumption)).1 (by have := (hp (by assumption)).2; omega))) rfl ?_ | refine w_yes rfl rfl (lookO_spec rfl) rfl (by exact k_index tbOk rfl rfl rfl rfl (by first | omega | exact (hp (by assumption)).1) (by first | exact ints_atD (by omega) (by omega) | exact ints_atD (hp (by assumption)).1 (by have := (hp (by assumption)).2; omega))) rfl ?_ | refine w_q rfl rfl (by exact k_call (f_specNearOf m _ es _ hlm hG) rfl ⟨asA_agg (evO_spec rfl) ⟨cAr_r, cAr_r, trivial⟩, asA_r (evO_spec rfl), trivial⟩) rfl ?_ | refine w_yes rfl rfl (lookO_spec rfl) rfl (by exact k_call (f_specNearOf m _ es _ hlm hG) rfl ⟨asA_agg (evO_spec rfl) ⟨cAr_r, cAr_r, trivial⟩, asA_r (evO_spec rfl), trivial⟩) rfl ?_ | refine w_q rfl rfl (by exact k_call (hcall _) rfl ⟨asA_r (evO_spec rfl), asA_r (evO_spec rfl), trivial⟩) rfl ?_ | refine w_yes rfl rfl (lookO_spec rfl) rfl (by exact k_call (hcall _) rfl ⟨asA_r (evO_spec rfl), asA_r (evO_spec rfl), trivial⟩) rfl ?_ | (refine r_split rfl rfl rfl ?_ ?_ <;> intro hg_ <;> fail_if_success (exact Bool.noConfusion hg_)) <;> (try simp only [decide_eq_true_eq, decide_eq_false_iff_not, Bool.not_eq_true', Bool.not_eq_false', beq_iff_eq, bne_iff_ne, ne_eq, beq_eq_false_iff_ne, bne_eq_false_iff_eq, Int.not_lt, Int.not_le, Bool.not_eq_true, Bool.not_eq_false] at hg_) <;> (try first | contradiction | (exfalso; omega))))
        all_goals first
          | exact ret_tmp rfl (dres_bool (hnoV v hvl (by rw [HR]; clear hnext HE HV hyes hnoV HR; simp_all)).symm)
          | exact ⟨(false, x.2.1 + 1, dV fs x.2.2), ⟨by simp only; omega, hp (by assumption), by rw [HR]; simp only [hn']; clear hnext HE HV hyes hnoV HR; simp_all⟩, by (refine weak_ren [] rfl ?_ ?_ <;> repeat' (first | exact trivial | refine subR_cons rfl ?_ ?_ | refine subHR_cons rfl ?_ ?_ | rfl | (refine d_int ?_; (first | rfl | omega | (rw [IntWalk.i64_in _ (by omega)] <;> omega) | (simp; done) | (simp; omega))) | (refine d_bool ?_; (first | (simp_all; done) | (rw [Bool.eq_iff_iff]; simp_all; done) | (rw [Bool.eq_iff_iff]; simp_all; omega) | (rw [Bool.eq_iff_iff]; simp; omega))) | exact d_int (by simp only; rw [IntWalk.i64_in _ (by omega)]; omega))), by simp only; omega⟩
          | trace_state
      · repeat' (first | with_reducible refine aw_seq ?_ | refine aw_region ?_ | refine aw_region_draw (by kernel_rfl) (by kernel_rfl) ?_ | with_reducible refine thn_normal ?_ | with_reducible refine thn_ret ?_ | with_reducible refine thn_exit ?_ | with_reducible refine blk_normal ?_ | with_reducible refine blk_ret ?_ | with_reducible refine blk_hit ?_ | with_reducible refine blk_miss rfl ?_ | with_reducible refine aw_block ?_ | with_reducible refine aw_ret ?_ | with_reducible refine aw_skip ?_ | with_reducible refine aw_exit ?_ | refine aw_yes rfl ?_ | refine aw_no rfl ?_ | (refine aw_ways rfl ?_ ?_ <;> intro hg_ <;> (try simp only [decide_eq_true_eq, decide_eq_false_iff_not, Bool.not_eq_true', Bool.not_eq_false', beq_iff_eq, bne_iff_ne, ne_eq, beq_eq_false_iff_ne, bne_eq_false_iff_eq, Int.not_lt, Int.not_le, Bool.not_eq_true, Bool.not_eq_false] at hg_) <;> (try first | contradiction | (exfalso; omega))) | with_reducible refine w_nil ?_ | (first | refine r_q tbOk rfl rfl rfl rfl ?_ | refine r_e tbOk rfl rfl ?_ | refine r_yes tbOk rfl rfl rfl rfl rfl rfl ?_ | refine w_no rfl rfl (lookO_spec rfl) rfl rfl rfl ?_ | refine w_un rfl rfl (lookO_spec rfl) rfl rfl ?_ | refine w_q rfl rfl (by exact k_index tbOk rfl rfl rfl rfl (by omega) (by exact ints_atD (by omega) (by omega))) rfl ?_ | refine w_yes rfl rfl (lookO_spec rfl) rfl (by exact k_index tbOk rfl rfl rfl rfl (by omega) (by exact ints_atD (by omega) (by omega))) rfl ?_ | (refine r_split rfl rfl rfl ?_ ?_ <;> intro hg_ <;> fail_if_success (exact Bool.noConfusion hg_)) <;> (try simp only [decide_eq_true_eq, decide_eq_false_iff_not, Bool.not_eq_true', Bool.not_eq_false', beq_iff_eq, bne_iff_ne, ne_eq, beq_eq_false_iff_ne, bne_eq_false_iff_eq, Int.not_lt, Int.not_le, Bool.not_eq_true, Bool.not_eq_false] at hg_) <;> (try first | contradiction | (exfalso; omega))))
        all_goals first
          | exact ret_tmp rfl (dres_bool (hnoV v hvl (by rw [HR, show vs.length + 1 - x.2.1 = 0 by omega, runP_z]; simpa using hg_)).symm)
          | exact ⟨v + 1, ⟨by omega, hnext (by rw [HR, show x.2.2 = dV vs v from by assumption]; exact runP_at _ _ _ _ _)⟩, by (refine weak_ren [] rfl ?_ ?_ <;> repeat' (first | exact trivial | refine subR_cons rfl ?_ ?_ | refine subHR_cons rfl ?_ ?_ | rfl | (refine d_int ?_; (first | rfl | omega | (rw [IntWalk.i64_in _ (by omega)] <;> omega) | (simp; done) | (simp; omega))) | (refine d_bool ?_; (first | (simp_all; done) | (rw [Bool.eq_iff_iff]; simp_all; done) | (rw [Bool.eq_iff_iff]; simp_all; omega) | (rw [Bool.eq_iff_iff]; simp; omega))))), by omega⟩
          | trace_state
end Go.Proofs.Ytknbeakmnkjkhaa.Abs
