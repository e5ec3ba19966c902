/- CostsRight of the program by states. No statement of the seat is proved here. -/
import Derived.Test.YtknbeakmnkjkhaaTy
import Derived.Lib.Hide
import Derived.Test.YtknbeakmnkjkhaaACosts
set_option linter.unusedSimpArgs false
set_option linter.unusedVariables false
namespace Go.Proofs.Ytknbeakmnkjkhaa.Abs
open Go.RowKit
open R (val row ref)

theorem ints_atD {xs : List Int} {i : Int} (h0 : 0 ≤ i) (h1 : i < xs.length) : (ints xs)[i.toNat]? = some (iP (dV xs i)) := ints_atI h0 h1
def cI (m : Int) (es : List E3) (s : Int) (vs fs : List Int) : Bool := (List.range vs.length).all (fun v : Nat => Costs.vI vs.length s (dV vs) (dV fs) (wOf m es) v) && es.all (Costs.eI (dV vs))
def costsOk (m : Int) (es : List E3) (s : Int) (vs fs : List Int) : Bool :=
  gOk m es && hasV m s && decide ((vs.length : Int) = m) && decide ((fs.length : Int) = m) && decide (dV vs s = 0) && decide (dV fs s = -1) && cI m es s vs fs
theorem wOf_in {m : Int} {es : List E3} {a b : Int} (h : 0 ≤ wOf m es a b) : (0 ≤ a ∧ a < m) ∧ wOf m es a b ≤ 20 := by
  unfold wOf at h ⊢
  cases hg : gOk m es
  · simp [hg] at h
  · simp only [hg, if_true] at h ⊢
    unfold wE at h ⊢
    cases hf : es.find? (isE a b) with
    | none => simp [hf] at h
    | some e =>
      have hm := List.mem_of_find?_eq_some hf
      have hp := List.find?_some hf
      have := gOk_edges hg e hm
      unfold isE at hp
      simp only [Bool.and_eq_true, decide_eq_true_eq] at hp
      simp only [hf] at h ⊢
      omega
theorem dV_I {xs : List Int} (hI : ∀ z ∈ xs, I64 z) (v : Int) : I64 (dV xs v) := by
  unfold dV
  rw [List.getD_eq_getElem?_getD]
  by_cases h : v.toNat < xs.length
  · rw [List.getElem?_eq_getElem h]; exact hI _ (List.getElem_mem _)
  · rw [List.getElem?_eq_none (by omega)]; simp [I64]
set_option maxRecDepth 100000 in
set_option maxHeartbeats 8000000 in
theorem f_implCostsRight (m : Int) (nil nil1 nil2 : Bool) (es : List E3) (s : Int) (vs fs : List Int) (hl : es.length ≤ 1048576) (hlv : vs.length ≤ 1048576) (hlf : fs.length ≤ 1048576) :
    Fn Try.prog 27 [graphP m nil es, iP s, .one (row nil1 1 (ints vs)), .one (row nil2 1 (ints fs))] (.v (.one (bool (costsOk m es s vs fs)))) := by
  have hlen := edges_len es
  have hlen2 := ints_len vs
  have hlen3 := ints_len fs
  have hlm : es.length ≤ maxLen := by simp only [maxLen]; omega
  have hsv : hasV m s = true → 0 ≤ s ∧ s < m := fun h => by unfold hasV at h; simp at h; exact h
  refine fn_of (l := [.tmp 8]) Try.func27 (by kernel_rfl) rfl Try.ntmps27 rfl rfl ?_; simp only [argEnv, P0.d, Nat.reduceAdd, graphP, List.map_cons, List.map_nil]
  repeat' (first | with_reducible refine aw_seq ?_ | refine aw_region ?_ | refine aw_region_draw (by kernel_rfl) (by kernel_rfl) ?_ | with_reducible refine thn_normal ?_ | with_reducible refine thn_ret ?_ | with_reducible refine thn_exit ?_ | with_reducible refine blk_normal ?_ | with_reducible refine blk_ret ?_ | with_reducible refine blk_hit ?_ | with_reducible refine blk_miss rfl ?_ | with_reducible refine aw_block ?_ | with_reducible refine aw_ret ?_ | with_reducible refine aw_skip ?_ | with_reducible refine aw_exit ?_ | refine aw_yes rfl ?_ | refine aw_no rfl ?_ | (refine aw_ways rfl ?_ ?_ <;> intro hg_ <;> (try simp only [decide_eq_true_eq, decide_eq_false_iff_not, Bool.not_eq_true', Bool.not_eq_false', beq_iff_eq, bne_iff_ne, ne_eq, beq_eq_false_iff_ne, bne_eq_false_iff_eq, Int.not_lt, Int.not_le, Bool.not_eq_true, Bool.not_eq_false] at hg_) <;> (try first | contradiction | (exfalso; omega))) | with_reducible refine w_nil ?_ | (first | refine r_q tbOk rfl rfl rfl rfl ?_ | refine r_e tbOk rfl rfl ?_ | refine r_yes tbOk rfl rfl rfl rfl rfl rfl ?_ | refine w_no rfl rfl (lookO_spec rfl) rfl rfl rfl ?_ | refine w_un rfl rfl (lookO_spec rfl) rfl rfl ?_ | refine w_q rfl rfl (by exact k_call (f_implGraphValid _ _ es hlm) rfl ⟨asA_agg (evO_spec rfl) ⟨cAr_r, cAr_r, trivial⟩, trivial⟩) rfl ?_ | refine w_yes rfl rfl (lookO_spec rfl) rfl (by exact k_call (f_implGraphValid _ _ es hlm) rfl ⟨asA_agg (evO_spec rfl) ⟨cAr_r, cAr_r, trivial⟩, trivial⟩) rfl ?_ | refine w_q rfl rfl (by exact k_call (f_implHas m _ es s) rfl ⟨asA_agg (evO_spec rfl) ⟨cAr_r, cAr_r, trivial⟩, asA_r (evO_spec rfl), trivial⟩) rfl ?_ | refine w_yes rfl rfl (lookO_spec rfl) rfl (by exact k_call (f_implHas m _ es s) rfl ⟨asA_agg (evO_spec rfl) ⟨cAr_r, cAr_r, trivial⟩, asA_r (evO_spec rfl), trivial⟩) rfl ?_ | refine w_q rfl rfl (by exact k_index tbOk rfl rfl rfl rfl (by exact (hsv (by assumption)).1) (by exact ints_atD (hsv (by assumption)).1 (by have := (hsv (by assumption)).2; omega))) rfl ?_ | refine w_yes rfl rfl (lookO_spec rfl) rfl (by exact k_index tbOk rfl rfl rfl rfl (by exact (hsv (by assumption)).1) (by exact ints_atD (hsv (by assumption)).1 (by have := (hsv (by assumption)).2; omega))) rfl ?_ | (refine r_split rfl rfl rfl ?_ ?_ <;> intro hg_ <;> fail_if_success (exact Bool.noConfusion hg_)) <;> (try simp only [decide_eq_true_eq, decide_eq_false_iff_not, Bool.not_eq_true', Bool.not_eq_false', beq_iff_eq, bne_iff_ne, ne_eq, beq_eq_false_iff_ne, bne_eq_false_iff_eq, Int.not_lt, Int.not_le, Bool.not_eq_true, Bool.not_eq_false] at hg_) <;> (try first | contradiction | (exfalso; omega))))
  all_goals try exact ret_tmp rfl (dres_bool (by unfold costsOk; simp_all))
  rename_i h1 h2 h3 h4 h5
  have h6 := hg_
  clear hg_
  have hm := gOk_m h1
  have hmn : m = (vs.length : Int) := by omega
  have hmf : m = (fs.length : Int) := by omega
  have hs := hsv h2
  have hge := gOk_edges h1
  have hR : costsOk m es s vs fs = cI m es s vs fs := by
    unfold costsOk
    rw [h1, h2, decide_eq_true hmn.symm, decide_eq_true hmf.symm, decide_eq_true h5, decide_eq_true h6]; simp
  rw [hR]
  have hno : ∀ v : Nat, v < vs.length → Costs.vI vs.length s (dV vs) (dV fs) (wOf m es) v = false → cI m es s vs fs = false := fun v hv h => by
    unfold cI
    have : (List.range vs.length).all (fun v : Nat => Costs.vI vs.length s (dV vs) (dV fs) (wOf m es) v) = false := by
      rw [List.all_eq_false]; exact ⟨v, by simp [hv], by simp [h]⟩
    rw [this]; rfl
  have hyes : (∀ v : Nat, v < vs.length → Costs.vI vs.length s (dV vs) (dV fs) (wOf m es) v = true) → cI m es s vs fs = es.all (Costs.eI (dV vs)) := fun h => by
    unfold cI
    have : (List.range vs.length).all (fun v : Nat => Costs.vI vs.length s (dV vs) (dV fs) (wOf m es) v) = true := by
      rw [List.all_eq_true]; intro v hv; exact h v (by simpa using hv)
    rw [this]; rfl
  have hek : ∀ e ∈ es, (0 ≤ e.1 ∧ e.1 < (vs.length : Int)) ∧ (0 ≤ e.2.1 ∧ e.2.1 < (vs.length : Int)) := fun e he => by have := hge e he; omega
  have KC : ∀ a, Fn Try.prog 74 [.one (row nil2 1 (ints fs)), iP a, iP s] (.v (.one (bool (Costs.climb vs.length s (dV fs) vs.length a)))) := fun a => by
    have := f_climbs nil2 fs a s hlf
    rwa [show fs.length = vs.length by omega] at this
  clear h1 h2 h3 h4 h5 h6 hR hsv hge
  refine aw_loopI (fun k : Nat => k ≤ vs.length ∧ ∀ u : Nat, u < k → Costs.vI vs.length s (dV vs) (dV fs) (wOf m es) u = true) (fun k => mkS 102 [(49, .one (.r true (int k))), (48, .one (.r true (int (ints vs).length))), (47, .one (.r false (row nil1 1 (ints vs)))), (1, .one (.r false (int s))), (2, .one (.r false (row nil1 1 (ints vs)))), (3, .one (.r false (row nil2 1 (ints fs)))), (4, .one (.ptr 4 0 0 0))] [(4, .var 28 [.r false (int m), .r false (row nil 3 (edges es))])]) (fun k => vs.length - k) 0 ⟨Nat.zero_le _, fun u hu => by omega⟩ (by (refine weak_ren [] rfl ?_ ?_ <;> repeat' (first | exact trivial | refine subR_cons rfl ?_ ?_ | refine subHR_cons rfl ?_ ?_ | rfl | (refine d_int ?_; (first | rfl | omega | (rw [IntWalk.i64_in _ (by omega)] <;> omega) | (simp; done) | (simp; omega))) | (refine d_bool ?_; (first | (simp_all; done) | (rw [Bool.eq_iff_iff]; simp_all; done) | (rw [Bool.eq_iff_iff]; simp_all; omega) | (rw [Bool.eq_iff_iff]; simp; omega)))))) ?_
  rintro k ⟨hk, HP⟩
  have hW : wOf m es (dV fs k) k < 0 ∨ (0 ≤ dV fs k ∧ dV fs k < vs.length) := by
    by_cases h : wOf m es (dV fs k) k < 0
    · exact .inl h
    · exact .inr (by have := (wOf_in (m := m) (es := es) (a := dV fs k) (b := k) (by omega)).1; omega)
  have hnext : Costs.vI vs.length s (dV vs) (dV fs) (wOf m es) k = true → ∀ u : Nat, u < k + 1 → Costs.vI vs.length s (dV vs) (dV fs) (wOf m es) u = true := fun h u hu => by
    rcases Nat.lt_succ_iff_lt_or_eq.1 hu with hu | rfl
    · exact HP u hu
    · exact h
  repeat' (first | with_reducible refine aw_seq ?_ | refine aw_region ?_ | refine aw_region_draw (by kernel_rfl) (by kernel_rfl) ?_ | with_reducible refine thn_normal ?_ | with_reducible refine thn_ret ?_ | with_reducible refine thn_exit ?_ | with_reducible refine blk_normal ?_ | with_reducible refine blk_ret ?_ | with_reducible refine blk_hit ?_ | with_reducible refine blk_miss rfl ?_ | with_reducible refine aw_block ?_ | with_reducible refine aw_ret ?_ | with_reducible refine aw_skip ?_ | with_reducible refine aw_exit ?_ | refine aw_yes rfl ?_ | refine aw_no rfl ?_ | (refine aw_ways rfl ?_ ?_ <;> intro hg_ <;> (try simp only [decide_eq_true_eq, decide_eq_false_iff_not, Bool.not_eq_true', Bool.not_eq_false', beq_iff_eq, bne_iff_ne, ne_eq, beq_eq_false_iff_ne, bne_eq_false_iff_eq, Int.not_lt, Int.not_le, Bool.not_eq_true, Bool.not_eq_false] at hg_) <;> (try first | contradiction | (exfalso; omega))) | with_reducible refine w_nil ?_ | (first | refine r_q tbOk rfl rfl rfl rfl ?_ | refine r_e tbOk rfl rfl ?_ | refine r_yes tbOk rfl rfl rfl rfl rfl rfl ?_ | refine w_no rfl rfl (lookO_spec rfl) rfl rfl rfl ?_ | refine w_un rfl rfl (lookO_spec rfl) rfl rfl ?_ | refine w_q rfl rfl (by exact k_index tbOk rfl rfl rfl rfl (by omega) (by exact ints_atD (by omega) (by omega))) rfl ?_ | refine w_yes rfl rfl (lookO_spec rfl) rfl (by exact k_index tbOk rfl rfl rfl rfl (by omega) (by exact ints_atD (by omega) (by omega))) rfl ?_ | refine w_q rfl rfl (by exact k_call (f_implWeightOf m _ es _ _ hlm) rfl ⟨asA_agg (evO_spec rfl) ⟨cAr_r, cAr_r, trivial⟩, asA_r (evO_spec rfl), asA_r (evO_spec rfl), trivial⟩) rfl ?_ | refine w_yes rfl rfl (lookO_spec rfl) rfl (by exact k_call (f_implWeightOf m _ es _ _ hlm) rfl ⟨asA_agg (evO_spec rfl) ⟨cAr_r, cAr_r, trivial⟩, asA_r (evO_spec rfl), asA_r (evO_spec rfl), trivial⟩) rfl ?_ | refine w_q rfl rfl (by exact k_call (KC _) rfl ⟨asA_r (evO_spec rfl), asA_r (evO_spec rfl), asA_r (evO_spec rfl), trivial⟩) rfl ?_ | refine w_yes rfl rfl (lookO_spec rfl) rfl (by exact k_call (KC _) rfl ⟨asA_r (evO_spec rfl), asA_r (evO_spec rfl), asA_r (evO_spec rfl), trivial⟩) rfl ?_ | refine w_q rfl rfl (by exact k_call (f_edgesKeepC m _ _ es vs hl hlv hek) rfl ⟨asA_agg (evO_spec rfl) ⟨cAr_r, cAr_r, trivial⟩, asA_r (evO_spec rfl), asA_r (evO_spec rfl), trivial⟩) rfl ?_ | refine w_yes rfl rfl (lookO_spec rfl) rfl (by exact k_call (f_edgesKeepC m _ _ es vs hl hlv hek) rfl ⟨asA_agg (evO_spec rfl) ⟨cAr_r, cAr_r, trivial⟩, asA_r (evO_spec rfl), asA_r (evO_spec rfl), trivial⟩) rfl ?_ | (refine r_split rfl rfl rfl ?_ ?_ <;> intro hg_ <;> fail_if_success (exact Bool.noConfusion hg_)) <;> (try simp only [decide_eq_true_eq, decide_eq_false_iff_not, Bool.not_eq_true', Bool.not_eq_false', beq_iff_eq, bne_iff_ne, ne_eq, beq_eq_false_iff_ne, bne_eq_false_iff_eq, Int.not_lt, Int.not_le, Bool.not_eq_true, Bool.not_eq_false] at hg_) <;> (try first | contradiction | (exfalso; omega))))
  all_goals clear hW
  all_goals first
    | exact ret_tmp rfl (dres_bool (hyes fun v hv => HP v (by omega)).symm)
    | exact ret_tmp rfl (dres_bool (hno k (by omega) (by unfold Costs.vI; simp_all)).symm)
    | exact ⟨k + 1, ⟨by omega, hnext (by unfold Costs.vI; simp_all)⟩, by (refine weak_ren [] rfl ?_ ?_ <;> repeat' (first | exact trivial | refine subR_cons rfl ?_ ?_ | refine subHR_cons rfl ?_ ?_ | rfl | (refine d_int ?_; (first | rfl | omega | (rw [IntWalk.i64_in _ (by omega)] <;> omega) | (simp; done) | (simp; omega))) | (refine d_bool ?_; (first | (simp_all; done) | (rw [Bool.eq_iff_iff]; simp_all; done) | (rw [Bool.eq_iff_iff]; simp_all; omega) | (rw [Bool.eq_iff_iff]; simp; omega))))), by omega⟩
    | trace_state
def cSp (m : Int) (es : List E3) (s : Int) (vs fs : List Int) : Bool := es.all (Costs.eS (dV vs)) && (List.range vs.length).all (fun v : Nat => Costs.vS vs.length s (dV vs) (dV fs) (wOf m es) v)
theorem allR (n : Nat) (p : Int → Bool) : (List.range n).all (fun v : Nat => p v) = true ↔ ∀ v : Int, 0 ≤ v → v < (n : Int) → p v = true := by
  rw [List.all_eq_true]
  constructor
  · intro h v h0 h1
    have := h v.toNat (by simp; omega)
    rwa [show ((v.toNat : Nat) : Int) = v by omega] at this
  · intro h v hv
    exact h v (by omega) (by simp at hv; omega)
theorem cSp_cI {m : Int} {es : List E3} {s : Int} {vs fs : List Int} (hg : gOk m es = true) (hs : 0 ≤ s ∧ s < m) (hmn : (vs.length : Int) = m) (hI : ∀ z ∈ vs, I64 z) (h5 : dV vs s = 0) (h6 : dV fs s = -1) : cSp m es s vs fs = cI m es s vs fs := by
  have hm := gOk_m hg
  have hge := gOk_edges hg
  have g : Costs.Good vs.length s (dV vs) (dV fs) (wOf m es) := ⟨by omega, hs.1, by omega, h5, h6, fun v => by have := dV_I hI v; unfold I64 at this; omega, fun p v h => by have := wOf_in h; omega⟩
  have := Costs.same g es (fun e he => by have := hge e he; omega)
  unfold cSp cI
  rw [Bool.eq_iff_iff, Bool.and_eq_true, Bool.and_eq_true, allR vs.length (Costs.vS vs.length s (dV vs) (dV fs) (wOf m es)), allR vs.length (Costs.vI vs.length s (dV vs) (dV fs) (wOf m es)), List.all_eq_true, List.all_eq_true]
  exact this
theorem run_s (M : Nat) (s : Int) (d f : Int → Int) (w : Int → Int → Int) (n : Nat) (v : Int) : Costs.runS M s d f w (n + 1) v = (decide (v = s) || (Costs.stepS M d w v (f v) && Costs.runS M s d f w n (f v))) := rfl
theorem run_z (M : Nat) (s : Int) (d f : Int → Int) (w : Int → Int → Int) (v : Int) : Costs.runS M s d f w 0 v = decide (v = s) := rfl
theorem run_at (M : Nat) (s : Int) (d f : Int → Int) (w : Int → Int → Int) (n : Nat) : Costs.runS M s d f w n s = true := by cases n <;> simp [run_s, run_z]
end Go.Proofs.Ytknbeakmnkjkhaa.Abs
